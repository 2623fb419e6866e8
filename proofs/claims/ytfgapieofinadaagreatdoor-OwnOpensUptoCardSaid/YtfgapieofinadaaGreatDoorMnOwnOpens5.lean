/-
  Walks and plain laws that the law rests on, laid together. No conditions but those that each theorem names.
-/
import Derived.Test.YtfgapieofinadaaGreatDoorMnOwnOpens4
set_option linter.unusedVariables false
set_option maxRecDepth 20000
set_option maxHeartbeats 1000000
open Array renaming getElem?_eq_some_iff→cr
open Bool renaming and_false→HX,noConfusion→dw
open Classical renaming not_not→mD
open Go renaming Addr→ba,Value→ah,World→ai
open Go.Proofs.Tryz renaming prog→aq
open Go.Result renaming andThen_ok→gS
open Go.Sem renaming run_bind→ie,run_pure→jY
open Go.Value renaming bool→bB,int→bh,oneCell'→kW,slice→eY,tuple→kq
open Go.World renaming ownsRow→b9,ownsRow_nil→eL
open List renaming all_cons→uD,all_nil→BH,append_assoc→iC,append_nil→kr,drop_eq_nil_of_le→iT,flatMap_append→IJ,getD_cons_succ→BI,getD_cons_zero→oE,getD_eq_getElem?_getD→cW,getElem?_append_left→eZ,getElem?_append_right→eH,getElem?_eq_getElem→cI,getElem?_eq_some_iff→dX,length→jx,length_append→bp,length_cons→cn,length_drop→fY,length_eq_zero_iff→uJ,length_map→qo,length_nil→fq,length_pos_iff→uK,length_set→qp,length_singleton→dC,length_take→bX,map_append→kA,mem_append→dz,mem_of_getElem?→kX,mem_singleton→fu,nil_append→oF,take_of_length_le→iV,take_zero→uL,toArray→bd
open Nat renaming le_refl→bf,le_trans→cQ,lt_or_ge→dN,mul_le_mul_right→qw,pow_le_pow_right→sJ,sub_self→sK,zero_add→dx
open Prod renaming snd→jA
open UInt8 renaming toNat_inj→nG,toNat_lt→oM
open Go.Proofs.Tryz
open Go.Hb.dO Go.Proofs

section
namespace Go.Hb.kC
theorem P5 {s:List UInt8} {i:Nat} (h:i < s.length):(s.drop i).take 1= [s.getD i 0]:=by
 rw [drop_cons 0 h]; rfl
def ou (l:List (Bool×ah)):List ah:=l.flatMap fun q=> [.bool q.1,q.2]
def kG (l:List (UInt8×Int)):List ah:=l.flatMap fun e=> [.int .u8 e.1.toNat,.int .i64 e.2]
theorem Tg.rh {F:Nat→Prop} {w w':ai} {B e n:Nat} {v:ah} {xs:List ah} (h:Tg w B e n v xs) (hm:Md F w w') (I:∀ k,F k→B≤k→∀ cur z,w.heap[k]?≠some (.cells cur e z)):Tg w' B e n v xs:=by
 obtain ⟨a,C,rfl,E,h | ⟨b,cur,z,rfl,hb,A,L⟩⟩:=h
 · exact ⟨a,C,U,E,.inl h⟩
 · exact ⟨_,C,U,E,.inr ⟨b,cur,z,U,hb,by rw [hm.dA b (cr.1 A).1 (fun J=>I b J hb cur z A)]; exact A,L⟩⟩
theorem Ff {w:ai} {k:Nat} (h:w.heap.size≤k) (cur:Array ah) (e:Nat) (z:Nat×Nat):w.heap[k]?≠some (.cells cur e z):=by
 rw [Array.getElem?_eq_none h]; intro h; cases h
def iX (w:ai) (B:Nat) (A:List (Bool×ah)) (l:List bH):Prop :=A.length=l.length∧∀ (i:Nat) q e,A[i]? =some q→l[i]? =some e→q.1=e.1∧Tg w B 244 e.2.length q.2 (kG e.2)
theorem iX.nil (w:ai) (B:Nat):iX w B [] []:=⟨rfl,fun i q r A=>by simp at A⟩
theorem iX.md {F:Nat→Prop} {w w':ai} {B:Nat} {E:List (Bool×ah)} {l:List bH} (h:iX w B E l) (hm:Md F w w') (I:∀ k,F k→B≤k→∀ cur z,w.heap[k]?≠some (.cells cur 244 z)):iX w' B E l:=
 ⟨h.1,fun i q r A C=>⟨(h.2 i q r A C).1,Tg.rh (h.2 i q r A C).2 hm I⟩⟩
theorem iX.wk {w w':ai} {B:Nat} {A:List (Bool×ah)} {l:List bH} (h:iX w B A l) (hm:Wk w w'):iX w' B A l:=h.md hm fun _ C=>C.elim
theorem iX.snoc {w:ai} {B:Nat} {E:List (Bool×ah)} {l:List bH} {v:ah} {e:bH} (ha:iX w B E l) (J:Tg w B 244 e.2.length v (kG e.2)):iX w B (E++ [(e.1,v)]) (l++ [e]):=by
 refine ⟨by rw [bp,bp,ha.1]; rfl,fun i q' r' A C=> ?_⟩;have I:=ha.1;by_cases hi:i < E.length
 · rw [eZ hi] at A;rw [eZ ag] at C;exact ha.2 i q' r' A C
 · rw [eH ag] at A;rw [eH ag,← I] at C;cases hj:i - E.length with
   | zero=>rw [hj] at A C; cases A; cases C; exact ⟨rfl,J⟩
   | succ j=>rw [hj] at A; simp at A
def iD (w:ai) (B:Nat) (v:ah) (l:List bH):Prop := ∃ A,Tg w B 195 l.length v (ou A)∧iX w B A l
theorem iD.md {F:Nat→Prop} {w w':ai} {B:Nat} {v:ah} {l:List bH} (h:iD w B v l) (hm:Md F w w') (C:∀ k,F k→B≤k→∀ cur z,w.heap[k]?≠some (.cells cur 195 z)∧w.heap[k]?≠some (.cells cur 244 z)):iD w' B v l:=by
 obtain ⟨J,E,I⟩:=h;exact ⟨J,Tg.rh E hm fun k A hb cur z=>(C k A hb cur z).1,I.md hm fun k A hb cur z=>(C k A hb cur z).2⟩
theorem iD.wk {w w':ai} {B:Nat} {v:ah} {l:List bH} (h:iD w B v l) (hm:Wk w w'):iD w' B v l:=h.md hm fun _ A=>A.elim
theorem iD.mono {w:ai} {B B':Nat} {v:ah} {l:List bH} (h:iD w B v l) (C:B'≤B):iD w B' v l:=by
 obtain ⟨L,I,J,A⟩:=h;exact ⟨L,I.mono C,J,fun i q e E he=>⟨(A i q e E he).1,(A i q e E he).2.mono C⟩⟩
theorem iD.my {w:ai} {B:Nat} {v:ah} {l:List bH} (h:iD w B v l):∃ A cc,v= .slice A l.length cc∧l.length≤cc∧gh w.heap A l:=by
 obtain ⟨O,E,ad,aa⟩:=h;obtain ⟨A,cc,rfl⟩:=E.slice;obtain ⟨ab,I⟩:=E.mR;refine ⟨A,cc,U,ab,fun h0=>aU.ok I (o8 (f:=fun q:Bool×ah=> [bB q.1,q.2]) (m:=2) (fun _=>rfl) aI ag),fun i hi=> ?_⟩;have L:O[i]? =some (O[i]'ag):=cI ag;have ac:l[i]? =some (bu l i):=by
  unfold bu;rw [cW,cI hi]; rfl
 obtain ⟨g1,g2⟩:=aa i _ _ L ac;obtain ⟨V,Z,M⟩:=g2.slice;have g3:=g2;rw [M] at g3;obtain ⟨_,C⟩:=g3.mR;have J:=mZ (f:=fun q:Bool×ah=> [bB q.1,q.2]) (m:=2) (fun _=>rfl) I L;refine ⟨V,Z,by rw [J 0 ag,g1]; rfl,by rw [J 1 ag,M]; rfl,fun h0=>aU.ok C (o8 (f:=fun e:UInt8×Int=> [bh .u8 e.1.toNat,.int .i64 e.2]) (m:=2) (fun _=>rfl) aI h0),fun k e he=> ?_,fun k e he=> ?_⟩
 · exact mZ (f:=fun e:UInt8×Int=> [bh .u8 e.1.toNat,.int .i64 e.2]) (m:=2) (fun _=>rfl) C he 0 ag
 · exact mZ (f:=fun e:UInt8×Int=> [bh .u8 e.1.toNat,.int .i64 e.2]) (m:=2) (fun _=>rfl) C he 1 ag
theorem Gx (A:List (Bool×ah)) (q:Bool×ah):ou (A++ [q])=ou A++ [.bool q.1,q.2]:=by simp [ou]
theorem Df (es:List (UInt8×Int)) (e:UInt8×Int):kG (es++ [e])=kG es++ [.int .u8 e.1.toNat,.int .i64 e.2]:=by simp [kG]
section
variable {s:List UInt8} {n a e t p v k:Nat} {es:List (UInt8×Int)} {l:List bH}
theorem Dg (h:s.length≤a):fI s n a= .error 60:=by unfold fI; rw [if_pos h]
theorem Dh (h:¬s.length≤a) (A:bJ s (a+1)= .error e):fI s n a= .error e:=by unfold fI; rw [if_neg h,A]
theorem Di (h:¬s.length≤a) (A:bJ s (a+1)= .ok (t,p)) (C:n≤t):fI s n a= .error 190:=by unfold fI; rw [if_neg h,A]; exact if_pos C
theorem Dj (h:¬s.length≤a) (A:bJ s (a+1)= .ok (t,p)) (C:¬n≤t):fI s n a= .ok ((s.getD a 0,(t:Int)),p):=by unfold fI; rw [if_neg h,A]; exact if_neg C
theorem GX (h:bJ s a= .error e):gO s n a= .error e:=by unfold gO; rw [h]
theorem GY (h:bJ s a= .ok (v,p)) (A:256 < v / 2):gO s n a= .error 190:=by unfold gO; rw [h]; exact if_pos A
theorem GZ (h:bJ s a= .ok (v,p)) (A:¬256 < v / 2) (C:cY (fI s n) (v / 2) p= .error e):gO s n a= .error e:=by unfold gO; rw [h]; simp only; rw [if_neg A,C]
theorem G0 (h:bJ s a= .ok (v,p)) (A:¬256 < v / 2) (C:cY (fI s n) (v / 2) p= .ok (es,t)):gO s n a= .ok ((decide (v % 2=1),es),t):=by unfold gO; rw [h]; simp only; rw [if_neg A,C]
theorem Gi (h:bJ s a= .error e):dy s a= .error e:=by unfold dy; rw [h]
theorem xc (h:bJ s a= .ok (n,p)) (A:n=0∨1048576 < n):dy s a= .error 190:=by unfold dy; rw [h]; exact if_pos A
theorem rS (h:bJ s a= .ok (n,p)) (A:¬(n=0∨1048576 < n)) (C:cY (gO s n) n p= .error e):dy s a= .error e:=by unfold dy; rw [h]; simp only; rw [if_neg A,C]
theorem Gj (h:bJ s a= .ok (n,p)) (A:¬(n=0∨1048576 < n)) (C:cY (gO s n) n p= .ok (l,t)) (E:shaped l=false):dy s a= .error 190:=by unfold dy; rw [h]; simp only; rw [if_neg A,C]; simp only; rw [E]; rfl
theorem Gk (h:bJ s a= .ok (n,p)) (A:¬(n=0∨1048576 < n)) (C:cY (gO s n) n p= .ok (l,t)) (E:shaped l=true):dy s a= .ok (l,t):=by unfold dy; rw [h]; simp only; rw [if_neg A,C]; simp only; rw [E]; rfl
end
theorem O6 (rb:Nat) (s:List UInt8) (a:Nat) (w:ai) (a7:aD w.heap rb [str s,.int .i64 (a:Nat)]) (aO:s.length≤1048576) (ha:a≤s.length):
 oS aq 74 (bd [.pointer (some ⟨rb,0,none⟩)]) w (fun v w'=> ∃ l p,dy s a= .ok (l,p)∧iD w' w.heap.size v l∧aD w'.heap rb [str s,.int .i64 (p:Nat)]∧Md (fun k=>k=rb) w w') (fun c w'=> ∃ e,dy s a= .error e∧c=m7 e∧Md (fun k=>k=rb) w w'):=by
 have dc:=a7.lt;refine th func74 U ntmps74 U<|aP 7 U<|p mv<|eP U (fN qI (rn rb s (a) w a7 aO<|ha) U fun v10 bt b0=> ?_) fun c w' A σ' M=>by obtain ⟨e,he,au,am⟩:=A; exact ⟨e,Gi he,au,am⟩
 obtain ⟨n,a3,V,rfl,bC,aW⟩:=b0;obtain ⟨cW,c1,c4⟩:=kS V;refine aC 3 U ?_;refine ei (fun bu a4=> ∃ (cC:Unit),(¬(n=0∨1048576 < n))∧(aD a4.heap rb [str s,.int .i64 (a3:Nat)])∧(Md (fun k=>k=rb) w a4)∧(Sl bu [(0,.pointer (some ⟨rb,0,none⟩)),(3,.int .u64 (n:Nat))])) ?_ ?_;refine aP 1 U<|p mv<|aj 3 U<|gs (t:=14) U (fun cg=> ?_) fun cg=> ?_;refine aj 3 U<|eP U (fN jF (lE _ _ _ bt) U fun cE cG aZ=> ?_) fun c w' A σ' M=>⟨190,xc V (by have :=of_decide_eq_false A.2.1; omega),A.1,by rw [A.2.2]; exact aW⟩
 obtain ⟨rfl,bq,rfl⟩:=aZ;have bq:=of_decide_eq_true bq;exact ar 1 U<|tn<|⟨(),ag,bC,aW,U⟩
 refine aj 3 U<|eP U (fN jF (lE _ _ _ bt) U fun cE cG aZ=> ?_) fun c w' A σ' M=>⟨190,xc V ag,A.1,by rw [A.2.2]; exact aW⟩
 exact absurd aZ.2.1 aI;rintro bu a4 ⟨cC,av,bT,bZ,cm⟩;refine bG cm<|bD 13 U<|lp (fun ak bv J=> ∃ (k:Nat) (l:List bH) (ad:List (Bool×ah)) (aa:ah) (q:Nat),(k≤n)∧(cY (gO s n) k a3= .ok (l,q))∧(q≤s.length)∧(b9 J w.heap.size 195 2 aa ad.length<|ou ad)∧(iX J w.heap.size ad l)∧(aD J.heap rb [str s,.int .i64 (q:Nat)])∧(Md (fun k=>k=rb) w J)∧(Sl bv [(0,.pointer (some ⟨rb,0,none⟩)),(3,.int .u64 (n:Nat)),(4,aa),(19,.int .u64 (n:Nat)),(20,.int .u64 (k:Nat))])∧(n - k=ak)) _ ⟨0,[],[],.slice none 0 0,a3,ag,U,ag,(eL _ _ _ _),(iX.nil _ _),bT,bZ,U,U⟩ ?_;rintro ak bv J ⟨k,l,ad,aa,q,C,I,c9,aN,bK,a8,ac,cn,rfl⟩;refine bG cn<|bV 6 U<|cd U (fun ca=> ?_) fun ca=> ?_;refine az 7 U<|eP U (fN qI (rn rb s (q) J a8 aO ag) U fun dr cH b1=> ?_) fun c w' A σ' M=>by obtain ⟨e,he,au,am⟩:=A; exact ⟨e,rS V av (jQ I (GX he) ag),au,ac.trans am⟩
 obtain ⟨v0,p1,aL,rfl,bF,aF⟩:=b1;obtain ⟨cX,c2,c5⟩:=kS aL;refine aj 7 U<|p (qu U U ag<|jt ag)<|aj 1 U<|eP U (fN jF (lE _ _ _ cH) U fun v28 cI b2=> ?_) fun c w' A σ' M=>⟨190,rS V av (jQ I (GY aL<|by have :=of_decide_eq_false A.2.1; omega) ag),A.1,by rw [A.2.2]; exact ac.trans aF⟩
 obtain ⟨rfl,cv,rfl⟩:=b2;have bm:¬256 < v0 / 2:=by have :=of_decide_eq_true cv; omega
 have bY:=ac.trans aF;refine aj 5 U<|p (rm U U ag)<|aj 1 U<|p (dE (ps:= [(0,.bool (decide ((v0:Int) % 2=1)))]) (L:= [.bool (decide ((v0:Int) % 2=1)),.slice none 0 0]) PD U<|U)<|e<|fv HM fun ab dD cS bi bO=> ?_;have dm:=bi.size;refine e<|fk CN U U U U bO (by simp) fun ae bh bQ=> ?_;have bR:aD ae.heap ab [.bool (decide ((v0:Int) % 2=1)),.slice none 0 0]:=⟨_,bQ⟩
 have aA:Wk cI ae:=bi.md.trans' bh fun k C h=>by omega
 have bS:=Wk.B aA bF;have dq:=ac.size;have di:=aF.size;have dn:=aA.size;have dp:=bh.size;have bX:Md (fun k=>k=rb) w ae:=bY.trans<|aA.mono fun _ _ h=>h.elim;refine aj 6 U<|p (qu U U ag<|jt ag)<|aC 4 U<|lp (fun ak bx Z=> ∃ (j:Nat) (es:List (UInt8×Int)) (aV:ah) (E:Nat),(j≤v0 / 2)∧(cY (fI s n) j p1= .ok (es,E))∧(E≤s.length)∧(b9 Z ae.heap.size 244 2 aV es.length<|kG es)∧(aD Z.heap rb [str s,.int .i64 (E:Nat)])∧(aD Z.heap ab [.bool (decide ((v0:Int) % 2=1)),aV])∧(Md (fun k=>k=rb∨k=ab) ae Z)∧(Sl bx [(0,.pointer (some ⟨rb,0,none⟩)),(3,.int .u64 (n:Nat)),(4,aa),(5,.int .u64 (v0:Nat)),(6,.pointer (some ⟨ab,0,none⟩)),(19,.int .u64 (n:Nat)),(20,.int .u64 (k:Nat)),(34,.int .u64 ((v0 / 2:Nat):Int)),(35,.int .u64 (j:Nat))])∧(v0 / 2 - j=ak)) _ ⟨0,[],.slice none 0 0,p1,ag,U,ag,(eL _ _ _ _),bS,bR,(Md.refl _ _),U,U⟩ ?_;rintro ak bx Z ⟨j,es,aV,E,c0,aM,db,aw,a9,ba,al,co,rfl⟩;refine bG co ?_;have cU:=ke aM;have a1:∀ e,fI s n E= .error e→j < v0 / 2→dy s a= .error e:=fun e he ch=>rS V av<|jQ I (GZ aL bm<|jQ aM he ch) ag;have aE:Md (fun k=>k=rb) w Z:=bX.trans' al fun k C h=>by rcases h with h | h; exact h; omega
 refine bV 6 U<|cd U (fun cb=> ?_) fun cb=> ?_;refine az 7 U<|eP U (fN Cz (G9 rb s E 1 Z a9 aO ag ag) U fun ds cJ b3=> ?_) fun c w' A σ' M=>⟨60,a1 _ (Dg ag) ag,A.2.1,aE.trans A.2.2⟩
 obtain ⟨dh,bn,bI,aY⟩:=b3;rw [P5 ag] at bn;subst bn;refine p (kK 0 u9 U U<|by simp)<|aj 6 U<|eP U (fN qI (rn rb s (E+1) cJ bI aO ag) U fun dt cK b4=> ?_) fun c w' A σ' M=>by obtain ⟨e,he,au,am⟩:=A; exact ⟨e,a1 _ (Dh ag he) ag,au,(aE.trans aY).trans am⟩
 obtain ⟨to,cA,a0,rfl,bJ,bg⟩:=b4;obtain ⟨cZ,c3,c6⟩:=kS a0;refine aj 9 U<|eP U (fN jF (lE _ _ _ cK) U fun v46 dx b5=> ?_) fun c w' A σ' M=>⟨190,a1 _ (Di ag a0<|by have :=of_decide_eq_false A.2.1; omega) ag,A.1,by rw [A.2.2]; exact (aE.trans aY).trans bg⟩
 obtain ⟨rfl,cw,rfl⟩:=b5;have cu:¬n≤to:=by have :=of_decide_eq_true cw; omega
 have aJ:=aY.trans bg;have bb:=aJ.B ba fun h=>by omega
 have cz:=al.size;have dj:=aJ.size;refine aj 4 U<|p (ay U<|bb.aG 1)<|aj 2 U<|p (jG u3 oz U<|km ag)<|p (dE (ps:= [(0,.int .u8 (s.getD E 0).toNat),(1,.int .i64 (to:Nat))]) (L:= [.int .u8 (s.getD E 0).toNat,.int .i64 (to:Nat)]) PE U<|U)<|e<|lU GH U U U fun cN dz cP ao bL=> ?_;have dk:=ao.size;have ck:=aR (cB aw aJ fun k C h=>by have :=da aw C; omega) ao.md;refine e<|ap GH (ck) U ag U (aU.dB bL) (U) (U) ag ag fun du dA bj aK cx cf=> ?_;have cx:=aK.size;have aQ:∀ k,aV.ownBlock=some k→ae.heap.size≤k:=fun k h=>(da aw h).1;have bW:=aK.B (Wk.B ao.md bb) fun h=>by have :=aQ ab h; omega
 have bM:=aK.B (Wk.B ao.md bJ) fun h=>by have :=aQ rb h; omega
 obtain ⟨bz,bB,rfl⟩:=de bj;refine aj 1 U<|e<|st KP U U (U) (bW) (by simp) fun dG aX bE=> ?_;have bU:=aX.B bM fun h=>by omega
 exact ar 7 U<|tn<|⟨_,ag,j+1,es++ [(s.getD E 0,(to:Int))],.slice bz (es.length+1) bB,cA,ag,(n5 aM<|Dj ag a0 cu),ag,(by rw [bp,Df]; exact cB bj aX fun k C h=>by rcases cf k C with a6 | a6; exact absurd (aQ k a6) ag; omega),bU,bE,((((al.trans<|aJ.mono fun _ _ h=> .inl h).trans<|ao.md.mono fun _ _ h=>h.elim).trans' aK fun k C h=>by have :=aQ k h; omega).trans<|aX.mono fun _ _ h=> .inr h),U,U⟩
 refine aB 2 U<|te _<|ee 2 U ?_;obtain ⟨a5,ce,rfl⟩:=de aw;obtain rfl :j=v0 / 2:=ag;have c7:=ke I;have dd:=bK.1;have ct:=G0 aL bm aM;have cz:=al.size;have bc:Md (fun k=>k=rb∨k=ab) J Z:=((aF.mono fun k _ h=> .inl h).trans<|aA.mono fun _ _ h=>h.elim).trans al;have a2:=cB aN bc fun k C h=>by have :=da aN C; omega
 have cr:=bK.md bc (fun k C hb=>by
  rcases C with C | C;omega;exact fun cur z=>Ff ag cur _ z)
 refine az 1 U<|p (pC (aa) U)<|p (fi B5 U (U) fun j _=>ba.aG j)<|e<|lU GO U U U fun cO dC cR O bN=> ?_;have dl:=O.size;refine e<|ap GO (aR a2 O.md) U ag U (aU.dB bN) (U) (U) ag ag fun cF cL cj an cy cV=> ?_;have cy:=an.size;have bo:∀ k,aa.ownBlock=some k→w.heap.size≤k:=fun k h=>(da aN h).1;have bP:=an.B (Wk.B O.md a9) fun h=>by have :=bo rb h; omega
 have b8:Tg cL w.heap.size 244 es.length (.slice a5 es.length ce) (kG es):=Tg.rh (((Tg.oh aw).mono ag).wk O.md) an fun k C _=>hH (aR a2 O.md) aI k C;have cq:=(cr.wk O.md).md an fun k C _=>hH (aR a2 O.md) aI k C;exact p aT<|ar 7 U<|tn<|⟨_,ag,k+1,l++ [(decide (v0 % 2=1),es)],ad++ [(decide ((v0:Int) % 2=1),.slice a5 es.length ce)],cF,E,ag,(n5 I ct),ag,(by rw [bp,Gx]; exact cj),(by rw [show decide ((v0:Int) % 2=1)=decide (v0 % 2=1) from decide_eq_decide.2 ag] at*; exact iX.snoc (e:=(decide (v0 % 2=1),es)) cq b8),bP,((aE.trans<|O.md.mono fun _ _ h=>h.elim).trans' an fun k C h=>by have :=bo k h; omega),U,U⟩
 refine aB 2 U<|te _<|ee 3 U ?_;obtain rfl :k=n:=ag;have bf:iD J w.heap.size aa l:=⟨ad,by have h:=Tg.oh aN; rw [bK.1] at h; exact h,bK⟩
 obtain ⟨bA,cc,rfl,cT,b7⟩:=bf.my;have c8:=ke I;have ci:∀ x∈l,x.2.length≤256:=fun x aS=>(ph (R:=fun p=>p≤s.length) (S:=fun x:bH=>x.2.length≤256) (fun p x q' hr aS=>⟨(uc aS).2.1,(uc aS).2.2.1⟩) ag I).2 x aS;refine az 3 U<|e<|aH (Pj l bA cc J b7 ag fun i hi=>cQ (ci _<|gK (d:=dI) hi) aI) U ?_;rintro dv cM ⟨rfl,ax⟩;refine aj 1 U ?_;refine eP U (fN jF (lE _ _ _ cM) U fun dw dF b6=> ?_) (fun c w' A σ' M=>⟨190,Gj V av I (by
  cases h:shaped l;rfl;exact absurd (show tV l=0 from xf h) (of_decide_eq_false A.2.1)),A.1,by rw [A.2.2]; exact ac.trans (ax.mono fun _ _ h=>h.elim)⟩)
 obtain ⟨rfl,br,rfl⟩:=b6;have cp:shaped l=true :=by
  cases h:shaped l;rw [mu h] at br; exact absurd (of_decide_eq_true br) aI;rfl
 exact ar 9 U<|tu<|f1 U U<|⟨l,q,Gk V av I cp,bf.wk ax,Wk.B ax a8,ac.trans<|ax.mono fun _ _ h=>h.elim⟩
end Go.Hb.kC
end
section
namespace Go.Hb.lP
open Go.Hb.kC
theorem zD (s A:List UInt8) (w:ai) (E:s.length≤1073741824) (hp:A.length≤1073741824):
 aY aq 121 (bd [str s,str A]) w (fun v w'=>v= .bool (decide (s.take A.length=A))∧Wk w w'):=by
 refine enter func121 U ntmps121 U<|aP 13 U<|gs (t:=10) U (fun C=> ?_) fun C=> ?_;exact aj 3 U<|bo U (rZ u9 U U ag)<|ar 7 U<|aE U<|⟨U,Md.refl _ _⟩
 exact aj 7 U<|p aT<|ar 3 U<|aE U<|⟨by show bB false =_; rw [decide_eq_false (fun h=>by have :=congrArg jx h; rw [bX] at this; omega)],Md.refl _ _⟩
theorem Mh (s A:List UInt8) (w:ai) (E:s.length≤1073741824) (hp:A.length≤1073741824):
 aY aq 68 (bd [str s,str A]) w (fun v w'=>v= .bool (decide (s.take A.length=A))∧Wk w w'):=by
 refine enter func68 U ntmps68 U<|aP 9 U<|e<|aH (zD s A _ E hp) U ?_;rintro I J ⟨rfl,C⟩;exact ar 4 U<|aE U<|⟨U,C⟩
theorem K9 (p2 p3:Nat) (w:ai):
 CallsD aq 69 (bd [.pointer (some ⟨p2,0,none⟩),.pointer (some ⟨p3,0,none⟩)]) .returning w (fun A I w'=> ∃ v,A= .returned v∧I= .returning∧(fun w'=>Wk w w') w'):=by
 refine CB (v:= .nilIface) func69 U ntmps69 U (fun L cs E=> .inr ⟨by simp [recoverD,E],U,U⟩) ?_;exact p (G6 wi Rf U)<|p mv<|p (xt U U)<|p (xt U U)<|p aT<|p aT<|nl<|tn<|sq fun J C=>rg U<|p mv<|nl<|tn<|C _ _<|cf (U)<|GA<|f0 U<|Md.refl _ _
theorem K8 (p2 p3:Nat) (A:Int) (w:ai) (C:∃ L:List ah,L.length=7∧w.heap[p2]? =some (.cells L.toArray 92 (0,0))) (E:∃ v:ah,w.heap[p3]? =some (.cells [v].toArray 33 (0,0))) (O:p2≠p3):
 CallsD aq 69 (bd [.pointer (some ⟨p2,0,none⟩),.pointer (some ⟨p3,0,none⟩)]) (.panicking<|m7 A) w (fun V ad w'=> ∃ v,V= .returned v∧ad=(.panicking [{v:= .iface 33 (.int .i64 A),recovered:=true}])∧(fun w'=>w'.heap[p2]? =some (.cells [bh .i64 0,str [],.slice none 0 0,.slice none 0 0,.slice none 0 0,.slice none 0 0,.slice none 0 0].toArray 92 (0,0))∧w'.heap[p3]? =some (.cells [.int .i64 A].toArray 33 (0,0))∧Md (fun k=>k=p2∨k=p3) w w') w'):=by
 obtain ⟨ak,ab,C⟩:=C;obtain ⟨v3,E⟩:=E;have am:=(cr.1 C).1;have an:=(cr.1 E).1;refine CB (v:= .iface 33<|.int .i64 A) func69 U ntmps69 U (fun al cs ac=> .inl<|by simp [recoverD,ac,m7]) ?_;refine p (G5 wi U)<|p mv<|p (xt U U)<|p (xt U U)<|p aT<|p aT<|nl<|tn<|sq fun aj aa=>rg U<|p mv<|nl<|tn<|aa _ _<|ct (U)<|rg U<|p (dE (ps:= []) (L:= [.int .i64 0,.string ⟨⟨[]⟩⟩,.slice none 0 0,.slice none 0 0,.slice none 0 0,.slice none 0 0,.slice none 0 0]) GS U<|U)<|p mv<|e<|fk vu U U U U C (by rw [ab]; decide) fun ae J I=>e<|fj yW U U (v:= .int .i64 A) U (J.ax E fun h=>O h.symm) (by show 0 < 1; decide) fun ao M Z=>nl<|f0 U ?_;have I:ae.heap[p2]? =some (.cells [bh .i64 0,str [],.slice none 0 0,.slice none 0 0,.slice none 0 0,.slice none 0 0,.slice none 0 0].toArray 92 (0,0)):=I.trans<|by rw [iT ag]; rfl
 exact ⟨M.ax I O,Z,(J.mono fun _ _ h=> .inl h).trans' M fun _ _ h=> .inr h⟩
theorem CV (p2 p3:Nat) (w:ai):(invoke (.fn (.func 69) #[aA p2,aA p3]) #[]).run aq w= .ok (.enter 69 #[aA p2,aA p3]) w:=by
 have h:=J3 #[aA p2,aA p3] w;simp [invoke,h]
theorem vI {n:Nat} {D:List Deferred} {G:List Nat} {σ:Nat→ah} {t:Nat} (h:t < n):ev ⟨n,D,G,none⟩ σ (.tmp t)=σ t:=by
 show cond (Nat.blt t n) (σ t) undef=_;rw [show Nat.blt t n=true from by simpa using h]; rfl
theorem Lb {n:Nat} {G:List Nat} {fn:Func} {R:ah→ai→Prop} {σ:Nat→ah} {w:ai} {p2 p3:Nat} {A:Int} (V:fn.results= #[.cell 2 92,.cell 3 33]) (ab:3 < n) (Z:σ 2= .pointer (some ⟨p2,0,none⟩)) (aa:σ 3= .pointer (some ⟨p3,0,none⟩)) (C:∃ L:List ah,L.length=7∧w.heap[p2]? =some (.cells L.toArray 92 (0,0))) (E:∃ v:ah,w.heap[p3]? =some (.cells [v].toArray 33 (0,0))) (O:p2≠p3)
 (I:∀ w',Md (fun k=>k=p2∨k=p3) w w'→R (.tuple #[.agg [bh .i64 0,str [],.slice none 0 0,.slice none 0 0,.slice none 0 0,.slice none 0 0,.slice none 0 0].toArray,.int .i64 A]) w'):qb ⟨n,[{target:= .fn (.func 69) #[.pointer (some ⟨p2,0,none⟩),.pointer (some ⟨p3,0,none⟩)],args:= #[]}],G,none⟩ (nH aq fn R) (.panic<|m7 A) σ w:=by
 refine LU (CV p2 p3 w) (K8 p2 p3 A w C E O) ?_;rintro w' ⟨J,M,hm⟩;exact ⟨_,wX V (lG<|jn (cs:= [bh .i64 0,str [],.slice none 0 0,.slice none 0 0,.slice none 0 0,.slice none 0 0,.slice none 0 0]) ((vI ag).trans Z) sQ U fun j _=>by rw [dx,eC J]; simp) (lG<|kR ((vI ag).trans aa) B8<|(eC M).trans U),I w' hm⟩
theorem Lc {n:Nat} {G:List Nat} {fn:Func} {R:ah→ai→Prop} {σ:Nat→ah} {w:ai} {p2 p3:Nat} {v:ah} {L:List ah} (O:fn.results= #[.cell 2 92,.cell 3 33]) (aa:3 < n) (V:σ 2= .pointer (some ⟨p2,0,none⟩)) (Z:σ 3= .pointer (some ⟨p3,0,none⟩)) (A:w.heap[p2]? =some (.cells L.toArray 92 (0,0))) (C:w.heap[p3]? =some (.cells [v].toArray 33 (0,0))) (E:L.length=7)
 (I:∀ w',Wk w w'→R (.tuple #[.agg L.toArray,v]) w'):qb ⟨n,[{target:= .fn (.func 69) #[.pointer (some ⟨p2,0,none⟩),.pointer (some ⟨p3,0,none⟩)],args:= #[]}],G,none⟩ (nH aq fn R) .ret σ w:=by
 refine LS (CV p2 p3 w) (K9 p2 p3 w) ?_;intro w' hm;have J:=Wk.ax hm A;have M:=Wk.ax hm C;exact ⟨_,wX O (lG<|jn (cs:=L) ((vI ag).trans V) sQ E fun j _=>by rw [dx,eC J]; simp) (lG<|kR ((vI ag).trans Z) B8<|(eC M).trans U),I w' hm⟩
section
variable {s:List UInt8} {a e n m p1 p2 p3 p4 p5 p q ls:Nat} {t f:List UInt8} {rs:List (List UInt8×List UInt8)} {l:List (List bH)}
theorem F7 (h:dK s a= .error e):iM s a= .error e:=by unfold iM; rw [h]
theorem F8 (h:dK s a= .ok (f,p)) (A:dK s p= .error e):iM s a= .error e:=by unfold iM; rw [h]; simp only; rw [A]
theorem F9 (h:dK s a= .ok (f,p)) (A:dK s p= .ok (t,q)):iM s a= .ok ((f,t),q):=by unfold iM; rw [h]; simp only; rw [A]
theorem yY (hm:¬s.take 4=gn):cC s= .error 200:=if_neg hm
theorem C0 (hm:s.take 4=gn) (h:bJ s 4= .error e):cC s= .error e:=by unfold cC; rw [if_pos hm,h]
theorem C1 (hm:s.take 4=gn) (h:bJ s 4= .ok (n,p1)) (A:dK s p1= .error e):cC s= .error e:=by unfold cC; rw [if_pos hm,h]; simp only; rw [A]
theorem C2 (hm:s.take 4=gn) (h:bJ s 4= .ok (n,p1)) (A:dK s p1= .ok (t,p2)) (C:bJ s p2= .error e):cC s= .error e:=by unfold cC; rw [if_pos hm,h]; simp only; rw [A]; simp only; rw [C]
theorem C3 (hm:s.take 4=gn) (h:bJ s 4= .ok (n,p1)) (A:dK s p1= .ok (t,p2)) (C:bJ s p2= .ok (m,p3)) (E:256 < m):cC s= .error 201:=by unfold cC; rw [if_pos hm,h]; simp only; rw [A]; simp only; rw [C]; exact if_pos E
theorem vv (hm:s.take 4=gn) (h:bJ s 4= .ok (n,p1)) (A:dK s p1= .ok (t,p2)) (C:bJ s p2= .ok (m,p3)) (E:¬256 < m) (I:cY (iM s) m p3= .error e):cC s= .error e:=by unfold cC; rw [if_pos hm,h]; simp only; rw [A]; simp only; rw [C]; simp only; rw [if_neg E,I]
theorem C4 (hm:s.take 4=gn) (h:bJ s 4= .ok (n,p1)) (A:dK s p1= .ok (t,p2)) (C:bJ s p2= .ok (m,p3)) (E:¬256 < m) (I:cY (iM s) m p3= .ok (rs,p4)):cC s=iq s (if n≤64 then n else 0) t rs p4:=by unfold cC; rw [if_pos hm,h]; simp only; rw [A]; simp only; rw [C]; simp only; rw [if_neg E,I]
theorem CW (h:fL ls t rs=false):iq s ls t rs a= .error 201:=by unfold iq; rw [h]; rfl
theorem CX (h:fL ls t rs=true) (A:cY (dy s) 4 a= .error e):iq s ls t rs a= .error e:=by unfold iq; rw [if_pos h,A]
theorem CY (h:fL ls t rs=true) (A:cY (dy s) 4 a= .ok (l,p5)) (C:p5≠s.length):iq s ls t rs a= .error 202:=by unfold iq; rw [if_pos h,A]; exact if_neg C
theorem CZ (h:fL ls t rs=true) (A:cY (dy s) 4 a= .ok (l,p5)) (C:p5=s.length):iq s ls t rs a= .ok ⟨ls,t,rs,l⟩:=by unfold iq; rw [if_pos h,A]; exact if_pos C
end
def qx (w:ai) (B:Nat) (cs:List ah) (b:eS):Prop := ∃ ra rc vs,cs= [.int .i64 (b.least:Nat),str b.tr,.slice ra b.kP.length rc]++vs∧vs.length=4∧aU w.heap ra (b.kP.flatMap iN)∧∀ i,i < 4→iD w B (vs.getD i .nilFunc) (b.jq.getD i [])
theorem qx.wk {w w':ai} {B:Nat} {cs:List ah} {b:eS} (h:qx w B cs b) (hm:Wk w w'):qx w' B cs b:=by
 obtain ⟨ra,rc,vs,A,C,E,I⟩:=h;exact ⟨ra,rc,vs,A,C,E.wk hm,fun i hi=>(I i hi).wk hm⟩
def k0 (s:List UInt8) (w:ai) (v:ah) (w':ai):Prop :=(match cC s with
 | .ok b=> ∃ cs,v= .tuple #[.agg cs.toArray,.int .i64 0]∧qx w' w.heap.size cs b
 | .error e=>v= .tuple #[.agg [bh .i64 0,str [],.slice none 0 0,.slice none 0 0,.slice none 0 0,.slice none 0 0,.slice none 0 0].toArray,.int .i64 (e:Nat)])∧Wk w w'
theorem k0.no {s:List UInt8} {w w':ai} {e:Nat} (h:cC s= .error e) (hm:Wk w w'):k0 s w (.tuple #[.agg [bh .i64 0,str [],.slice none 0 0,.slice none 0 0,.slice none 0 0,.slice none 0 0,.slice none 0 0].toArray,.int .i64 (e:Nat)]) w':=by
 unfold k0; rw [h]; exact ⟨rfl,hm⟩
theorem Gn {a b c v:ah} {vs:List ah} {k:Nat} :([a,b,c]++vs).set (0 +3 +((k:Nat):Int).toNat*1) v= [a,b,c]++vs.set k v:=by
 rw [show 0 +3 +((k:Nat):Int).toNat*1=k+1 +1 +1 from by omega]; rfl
theorem Eh {α:Type} {l:List α} {i k:Nat} {v d:α} (h:i≠k):(l.set k v).getD i d=l.getD i d:=by
 rw [cW,List.getElem?_set_ne (fun e=>h e.symm),cW]
theorem Eg {α:Type} {l:List α} {k:Nat} {v d:α} (h:k < l.length):(l.set k v).getD k d=v:=by
 rw [cW,List.getElem?_set_self h]; rfl
theorem Ed {α:Type} {l m:List α} {i:Nat} {d:α} (h:i < l.length):(l++m).getD i d=l.getD i d:=by
 rw [cW,eZ h,cW]
theorem Ec {α:Type} {l:List α} {a d:α} {i:Nat} (h:i=l.length):(l++ [a]).getD i d=a:=by
 subst h;rw [cW,eH (bf _),sK]; rfl
structure ik (w0 w:ai) (b2 b3:Nat) (L:List ah):Prop where
 c2:w.heap[b2]? =some (.cells L.toArray 92 (0,0))
 c3:w.heap[b3]? =some (.cells [bh .i64 0].toArray 33 (0,0))
 len:L.length=7
 lo:w0.heap.size≤b2∧w0.heap.size≤b3∧b2≠b3
 wk:Wk w0 w
theorem ik.md {F:Nat→Prop} {w0 w w':ai} {A C:Nat} {L:List ah} (h:ik w0 w A C L) (hm:Md F w w') (E:¬F A) (I:¬F C) (J:∀ k,F k→w0.heap.size≤k):ik w0 w' A C L:=
 ⟨hm.ax h.c2 E,hm.ax h.c3 I,h.len,h.lo,h.wk.trans' hm fun k O M=>by have :=J k M; omega⟩
theorem ik.QM {w0 w w':ai} {A C:Nat} {L:List ah} (h:ik w0 w A C L) (hm:Wk w w'):ik w0 w' A C L:=h.md hm (fun h=>h) (fun h=>h) fun _ h=>h.elim
theorem ik.rb {w0 w w':ai} {A C rb:Nat} {L:List ah} (h:ik w0 w A C L) (hm:Md (fun k=>k=rb) w w') (E:A≠rb) (I:C≠rb) (h0:w0.heap.size≤rb):ik w0 w' A C L:=h.md hm E I fun k J=>by omega
theorem mU {n:Nat} {G:List Nat} {fn:Func} {σ:Nat→ah} {s:List UInt8} {w W:ai} {C E e:Nat} {L:List ah} (J:fn.results= #[.cell 2 92,.cell 3 33]) (I:3 < n) (M:σ 2= .pointer (some ⟨C,0,none⟩)) (O:σ 3= .pointer (some ⟨E,0,none⟩)) (A:ik w W C E L) (U:cC s= .error e):qb ⟨n,[{target:= .fn (.func 69) #[.pointer (some ⟨C,0,none⟩),.pointer (some ⟨E,0,none⟩)],args:= #[]}],G,none⟩ (nH aq fn<|k0 s w) (.panic<|m7 (e:Nat)) σ W:=
 Lb J I M O ⟨_,A.len,A.c2⟩ ⟨_,A.c3⟩ A.lo.2.2 (fun w' hm=>k0.no U<|A.wk.trans' hm fun k V h=>by rcases h with rfl | rfl; have :=A.lo.1; omega; have :=A.lo.2.1; omega)
theorem Ld (s:List UInt8) (w:ai) (aJ:s.length≤1048576):
 aY aq 31 (bd [str s]) w (k0 s w):=by
 refine Lz [2,3] func31 U ntmps31 U ?_;refine eK<|eV<|aP 1 U<|e<|fv HP fun C w2 dY b0 cy=>e<|fv Q7 fun M ck dZ bC cF=> ?_;have er:=b0.size;have et:=bC.size;have cW:Wk w ck:=b0.md.trans bC.md;have dz:=Wk.ax bC.md cy;refine ar 1 U<|cD<|eK<|eK<|eV<|aP 2 U<|e<|aH (Mh s gn ck ag aI) U ?_;rintro v10 eH ⟨rfl,a5⟩;have bP:=cW.trans a5;have ch:=Wk.ax a5 dz;have ci:=Wk.ax a5 cF;have ep:=a5.size;refine ar 2 U<|cD<|eV<|cb U (fun aW=> ?_) fun aW=> ?_;have aa:¬s.take 4=gn:=fun h=>by rw [show s.take gn.length=gn from h] at aW; simp at aW
 refine aP 2 U<|p (dE (ps:= []) (L:= [.int .i64 0,.string ⟨⟨[]⟩⟩,.slice none 0 0,.slice none 0 0,.slice none 0 0,.slice none 0 0,.slice none 0 0]) GS U<|U)<|e<|fk vu U U U U ch aI fun eN bW cM=>e<|fj yW U U (v:= .int .i64 200) U (bW.ax ci fun h=>by omega) aI fun dU bZ cO=>ar 3 U<|prt ?_;have dk:dU.heap[C]? =some (.cells [bh .i64 0,str [],.slice none 0 0,.slice none 0 0,.slice none 0 0,.slice none 0 0,.slice none 0 0].toArray 92 (0,0)):=(bZ.ax cM fun h=>by omega).trans rfl;exact LQ (wX U (lG<|jn U U U fun j d8=>by rw [dx,eC dk]; simp)<|lG<|kR U U<|(eC cO).trans U)<|k0.no (yY aa)<|(bP.trans' bW fun k E h=>by omega).trans' bZ fun k E h=>by omega
 have aa:s.take 4=gn:=Classical.byContradiction fun h=>by rw [decide_eq_false (show ¬s.take gn.length=gn from h)] at aW; cases aW
 have cu:4≤s.length:=by have :=congrArg jx aa; rw [bX] at this; simp only [gn,cn,fq] at this; omega
 refine kI 1 U<|cD<|eK<|mW M3 #[.pointer (some ⟨C,0,none⟩),.pointer (some ⟨M,0,none⟩)] U aI ?_;refine eK<|eV<|aP 2 U<|p (dE (ps:= [(0,str s),(1,.int .i64 4)]) (L:= [str s,.int .i64 4]) PB U<|U)<|e<|sW U fun rb ab en ba cx=> ?_;have eq:=ba.size;have cS:aD ab.heap rb [str s,.int .i64 ((4:Nat):Int)]:=⟨_,cx⟩
 have b8:ik w ab C M [bh .i64 0,str [],.slice none 0 0,.slice none 0 0,.slice none 0 0,.slice none 0 0,.slice none 0 0]:=⟨Wk.ax ba.md ch,Wk.ax ba.md ci,rfl,⟨ag,ag,ag⟩,bP.trans ba.md⟩
 refine ar 2 U<|cD<|Px (fun cq a3=> ∃ (n p1:Nat),(ik w a3 C M [.int .i64 ((if n≤64 then n else 0:Nat):Int),str [],.slice none 0 0,.slice none 0 0,.slice none 0 0,.slice none 0 0,.slice none 0 0])∧(aD a3.heap rb [str s,.int .i64 (p1:Nat)])∧(Md (fun k=>k=rb∨k=C) ab a3)∧(bJ s 4= .ok (n,p1))∧(p1≤s.length)∧(Sl cq [(0,str s),(2,.pointer (some ⟨C,0,none⟩)),(3,.pointer (some ⟨M,0,none⟩)),(4,.pointer (some ⟨rb,0,none⟩))])) ?_ ?_;refine eK<|eV<|aP 2 U ?_;refine eP U (fN qI (rn rb s (4) ab cS aJ<|cu) U fun ey eI c0=> ?_) (fun c w' I σ' A=>by
  obtain ⟨e,he,rfl,V⟩:=I;exact mU U aI ((A 2<|.head _).trans U) ((A 3<|.tail _<|.head _).trans U) ((b8).rb V ag ag ag) (C0 aa he))
 obtain ⟨n,p1,Z,rfl,bN,bx⟩:=c0;obtain ⟨d2,bF,ed⟩:=kS Z;have a0:=b8.rb bx ag ag ag;refine ar 2 U<|cD<|eK<|eV<|kI 4 U<|cD<|eV<|cd U (fun bE=> ?_) fun bE=> ?_;exact aP 2 U<|p (jG u3 oz U<|km ag)<|aj 1 U<|e<|fj fT U U (v:= .int .i64 (n:Nat)) U a0.c2 aI fun eR a8 cP=>ar 1 U<|CI<|⟨n,p1,(⟨by rw [if_pos ag]; exact cP,a8.ax a0.c3 (fun h=>by omega),U,a0.lo,a0.wk.trans' a8 fun k E h=>by omega⟩),(a8.B bN fun h=>by omega),((bx.mono fun _ _ h=> .inl h).trans<|a8.mono fun _ _ h=> .inr h),Z,bF,U⟩
 exact kI 1 U<|CI<|⟨n,p1,(by rw [if_neg ag]; exact a0),bN,(bx.mono fun _ _ h=> .inl h),Z,bF,U⟩
 rintro cq a3 ⟨n,p1,cg,cR,cV,Z,bF,dF⟩;refine Pe dF ?_;refine eK<|eV<|aP 2 U ?_;refine eP U (fN sY (zx rb s (p1) a3 cR aJ ag) U fun ez eJ c1=> ?_) (fun c w' I σ' A=>by
  obtain ⟨e,he,rfl,V⟩:=I;exact mU U aI ((A 2<|.head _).trans U) ((A 3<|.tail _<|.head _).trans U) ((cg).rb V ag ag ag) (C1 aa Z he))
 obtain ⟨t,p2,aF,rfl,cC,bR⟩:=c1;obtain ⟨d3,d9,ee⟩:=qV aF;have bj:=cg.rb bR ag ag ag;refine aj 1 U<|e<|fj CU U U (v:=str t) U bj.c2 (by simp) fun cp a9 cQ=> ?_;have cf:ik w cp C M [.int .i64 ((if n≤64 then n else 0:Nat):Int),str t,.slice none 0 0,.slice none 0 0,.slice none 0 0,.slice none 0 0,.slice none 0 0]:=⟨cQ,a9.ax bj.c3 (fun h=>by omega),rfl,bj.lo,bj.wk.trans' a9 fun k E h=>by omega⟩
 have cT:=a9.B cC fun h=>by omega
 refine ar 1 U<|cD<|eK<|eV<|aP 2 U ?_;refine eP U (fN qI (rn rb s (p2) cp cT aJ ag) U fun v28 dO c4=> ?_) (fun c w' I σ' A=>by
  obtain ⟨e,he,rfl,V⟩:=I;exact mU U aI ((A 2<|.head _).trans U) ((A 3<|.tail _<|.head _).trans U) ((cf).rb V ag ag ag) (C2 aa Z aF he))
 obtain ⟨m,p3,aV,rfl,cE,bS⟩:=c4;obtain ⟨d4,ea,ef⟩:=kS aV;have ca:=cf.rb bS ag ag ag;refine ar 2 U<|cD<|eK<|eV<|aP 4 U ?_;refine eP U (fN jF (lE _ _ _ dO) U fun eA eM c5=> ?_) (fun c w' I σ' A=>by
  obtain ⟨rfl,hb,rfl⟩:=I;exact mU U aI ((A 2<|.head _).trans U) ((A 3<|.tail _<|.head _).trans U) (ca) (C3 aa Z aF aV<|by have :=of_decide_eq_false hb; omega))
 obtain ⟨rfl,dJ,rfl⟩:=c5;have bI:¬256 < m:=by have :=of_decide_eq_true dJ; omega
 refine ar 1 U<|cD<|eK<|eK<|eV<|kI 4 U<|cD<|eV<|bV 1 U<|lp (fun aM cr al=> ∃ (k:Nat) (rs:List (List UInt8×List UInt8)) (O:ah) (q:Nat),(k≤m)∧(cY (iM s) k p3= .ok (rs,q))∧(q≤s.length)∧(b9 al ab.heap.size 181 2 O rs.length<|rs.flatMap iN)∧(aD al.heap rb [str s,.int .i64 (q:Nat)])∧(ik w al C M [.int .i64 ((if n≤64 then n else 0:Nat):Int),str t,O,.slice none 0 0,.slice none 0 0,.slice none 0 0,.slice none 0 0])∧(Md (fun k=>k=rb∨k=C) ab al)∧(Sl cr [(0,str s),(2,.pointer (some ⟨C,0,none⟩)),(3,.pointer (some ⟨M,0,none⟩)),(4,.pointer (some ⟨rb,0,none⟩)),(33,.int .u64 (m:Nat)),(34,.int .u64 (k:Nat))])∧(m - k=aM)) _ ⟨0,[],.slice none 0 0,p3,ag,U,ag,(eL _ _ _ _),cE,ca,(((cV.trans<|bR.mono fun _ _ h=> .inl h).trans<|a9.mono fun _ _ h=> .inr h).trans<|bS.mono fun _ _ h=> .inl h),U,U⟩ ?_;rintro aM cr al ⟨k,rs,O,q,ej,ae,el,am,bO,aZ,bu,dG,rfl⟩;refine bG dG<|bV 6 U<|cd U (fun di=> ?_) fun di=> ?_;refine az 7 U ?_;refine eP U (fN sY (zx rb s (q) al bO aJ ag) U fun v37 ak c6=> ?_) (fun c w' I σ' A=>by
  obtain ⟨e,he,rfl,V⟩:=I;exact mU U aI ((A 2<|.head _).trans U) ((A 3<|.tail _<|.head _).trans U) ((aZ).rb V ag ag ag) (vv aa Z aF aV bI<|jQ ae (F7 he) ag))
 obtain ⟨f,bL,bD,rfl,cI,a7⟩:=c6;obtain ⟨d5,eb,eg⟩:=qV bD;have a1:=aZ.rb a7 ag ag ag;have dr:=cB am a7 fun k E h=>by have :=da am E; omega
 have eu:=a7.size;have ex:=bu.size;have ao:∀ k,O.ownBlock=some k→ab.heap.size≤k:=fun k h=>(da am h).1;refine aC 3 U ?_;have bc:(fun w'=>Md (fun k=>k=rb∨O.ownBlock=some k) ak w') ak.drew:=(Md.refl _ _).drew;refine tF (fun w'=>Md (fun k=>k=rb∨O.ownBlock=some k) ak w') 9 U wide bc<|l6 [0] U bc<|ET 1 U an (fun w' dc=>ay U<|Md.aO dc ((eC a1.c2).trans U) fun h=>by rcases h with h | h; omega; have :=ao _ h; omega) bc<|l6 [2,3] U bc ?_;refine MZ 4 U an U (fN sY (zx rb s bL ak.drew cI aJ ag) U fun eB cm c7=> ?_) (fun c w' I σ' A=>by
  obtain ⟨e,he,rfl,V⟩:=I;exact mU U aI ((A 2<|.head _).trans U) ((A 3<|.tail _<|.head _).trans U) (a1.rb (Md.gI V) ag ag ag) (vv aa Z aF aV bI<|jQ ae (F8 bD he) ag))
 obtain ⟨t2,dM,b5,rfl,cJ,aS⟩:=c7;obtain ⟨d6,ec,ei⟩:=qV b5;have aS:=Md.gI aS;have b3:Md (fun k=>k=rb∨O.ownBlock=some k) ak cm:=aS.mono fun _ _ h=> .inl h;have ev:=aS.size;have b1:(fun w'=>Md (fun k=>k=rb∨O.ownBlock=some k) ak w') cm:=b3;refine ⟨b1,?_⟩;refine tE 5 U an (fun _=>dE (ps:= [(0,str f),(1,str t2)]) (L:= [str f,str t2]) PC U<|U) (fun _=>b1)<|q6 6 U an<|lU GN U U U fun dV dR d0 bb cK=> ?_;have ew:=bb.size;have b4:=b3.trans<|bb.md.mono fun _ _ h=>h.elim;have ds:=aR (cB dr aS fun k E h=>by have :=da am E; omega) bb.md;have dd:(fun w'=>Md (fun k=>k=rb∨O.ownBlock=some k) ak w') dR:=b4;refine ⟨dd,?_⟩;refine q6 7 U an<|ap GN (ds) U ag U (aU.dB cK) (U) (U) (by have :=ke ae; omega) (by have :=ke ae; omega) fun eD dS b7 bA dL dm=> ?_;obtain ⟨bq,br,rfl⟩:=de b7;have aT:=b4.trans<|bA.mono fun _ _ h=> .inr h;have dL:=bA.size;have dp:¬(C=rb∨O.ownBlock=some C):=fun h=>by rcases h with h | h; omega; have :=ao _ h; omega
 have dq:¬(M=rb∨O.ownBlock=some M):=fun h=>by rcases h with h | h; omega; have :=ao _ h; omega
 have dj:=aT.ax a1.c2 dp;have cL:=bA.B (Wk.B bb.md cJ) fun h=>by have :=ao _ h; omega
 have b2:(fun w'=>Md (fun k=>k=rb∨O.ownBlock=some k) ak w') dS:=aT;refine ⟨b2,?_⟩;refine l6 [8] U b2<|pn 9 U an an<|fj K0 U U (v:= .slice bq (rs.length+1) br) U dj (by simp) fun cj aN cv=> ?_;have dt:ik w cj C M [.int .i64 ((if n≤64 then n else 0:Nat):Int),str t,.slice bq (rs.length+1) br,.slice none 0 0,.slice none 0 0,.slice none 0 0,.slice none 0 0]:=⟨cv,aN.ax (aT.ax a1.c3 dq) (fun h=>by omega),rfl,aZ.lo,(a1.wk.trans' aT fun k E h=>by rcases h with h | h; omega; have :=ao _ h; omega).trans' aN fun k E h=>by omega⟩
 have cw:=aN.B cL fun h=>by omega
 have cU:Md (fun k=>k=rb∨k=C) ab cj:=((bu.trans<|a7.mono fun _ _ h=> .inl h).trans' aT fun k E h=>by rcases h with h | h; exact .inl h; have :=ao _ h; omega).trans<|aN.mono fun _ _ h=> .inr h;exact pq an<|bg 6 U<|tn<|⟨_,ag,k+1,rs++ [(f,t2)],.slice bq (rs.length+1) br,dM,ag,(n5 ae<|F9 bD b5),ag,(by rw [bp,IJ]; exact cB b7 aN fun k E h=>by rcases dm k E with bM | bM; exact absurd (ao k bM) ag; omega),cw,dt,cU,U,U⟩
 refine aB 2 U<|te _<|bg 1 U<|cD<|eK<|eV ?_;obtain ⟨ra,rc,rfl⟩:=de am;obtain rfl :k=m:=ag;obtain ⟨bn,dA⟩:∃ bn,bn=q:=⟨q,rfl⟩
 subst dA;have bf:=C4 aa Z aF aV bI ae;have ek:=ke ae;have dD:∀ r∈rs,r.1.length≤1048576∧r.2.length≤1048576:=fun r hr=>by
  have :=(ph (R:=fun _=>True) (S:=fun r:List UInt8×List UInt8=>r.1.length≤255∧r.2.length≤255) (fun p x q' _ dI=>⟨trivial,(OE dI).2.2⟩) trivial ae).2 r hr;omega
 refine aP 2 U<|p (fi sQ U (U) (show ∀ j,j < 7→aO al.heap C (0 +j)=([.int .i64 ((if n≤64 then n else 0:Nat):Int),str t,.slice ra rs.length rc,.slice none 0 0,.slice none 0 0,.slice none 0 0,.slice none 0 0]:List ah)[j]? from fun j _=>by rw [dx,eC aZ.c2]; simp))<|e<|aH (Pc (if n≤64 then n else 0) t rs ra rc (.slice none 0 0) (.slice none 0 0) (.slice none 0 0) (.slice none 0 0) al (du am).2 (by split <;> omega) ag ag dD) U ?_;rintro eE dT ⟨rfl,a6⟩;have ce:=aZ.QM a6;refine eP U (fN jF (lE _ _ _ dT) U fun v51 eO c8=> ?_) (fun c w' I σ' A=>by
  obtain ⟨rfl,hb,rfl⟩:=I;exact mU U aI ((A 2<|.head _).trans U) ((A 3<|.tail _<|.head _).trans U) (ce) (by rw [bf,CW hb]))
 obtain ⟨rfl,bK,rfl⟩:=c8;refine ar 1 U<|cD<|eK<|eK<|eV<|kI 3 U<|cD<|eV<|bV 1 U<|lp (fun aM ct ad=> ∃ (J:Nat) (ls:List (List bH)) (vs:List ah) (aK:Nat),(J≤4)∧(cY (dy s) J bn= .ok (ls,aK))∧(aK≤s.length)∧(vs.length=4)∧(aD ad.heap rb [str s,.int .i64 (aK:Nat)])∧(ik w ad C M<|[.int .i64 ((if n≤64 then n else 0:Nat):Int),str t,.slice ra rs.length rc]++vs)∧(∀ i,i < J→iD ad (rb+1) (vs.getD i .nilFunc) (ls.getD i []))∧(Md (fun k=>k=rb∨k=C) ab ad)∧(b9 ad ab.heap.size 181 2 (.slice ra rs.length rc) rs.length<|rs.flatMap iN)∧(Sl ct [(0,str s),(2,.pointer (some ⟨C,0,none⟩)),(3,.pointer (some ⟨M,0,none⟩)),(4,.pointer (some ⟨rb,0,none⟩)),(52,.int .i64 (J:Nat))])∧(4 - J=aM)) _ ⟨0,[],[.slice none 0 0,.slice none 0 0,.slice none 0 0,.slice none 0 0],bn,ag,U,ag,U,(Wk.B a6 bO),ce,(fun i hi=>by omega),(bu.trans<|a6.mono fun _ _ h=>h.elim),(aR am a6),U,U⟩ ?_;rintro aM ct ad ⟨J,ls,vs,aK,eh,aX,em,a2,bt,ac,bv,cX,bi,dH,rfl⟩;refine bG dH<|bV 6 U<|cd U (fun dl=> ?_) fun dl=> ?_;refine az 13 U ?_;refine eP U (fN J4 (O6 rb s aK ad bt aJ ag) U fun eF eQ c9=> ?_) (fun c w' I σ' A=>by
  obtain ⟨e,he,rfl,V⟩:=I;exact mU U aI ((A 2<|.head _).trans U) ((A 3<|.tail _<|.head _).trans U) (ac.rb V ag ag ag) (by rw [bf,CX bK (jQ aX he (show J < 4 by omega))]))
 obtain ⟨au,bL,b6,bQ,cN,bY⟩:=c9;obtain ⟨aL,cc,rfl,d1,dX⟩:=bQ.my;have bm:=ac.rb bY ag ag ag;have d7:=Gl b6;refine aj 1 U<|p (pc Cm U U ag)<|e<|fj K2 U U (v:= .slice aL au.length cc) U bm.c2 (by simp only [bp,cn,fq,a2]; omega) fun bo aQ cz=> ?_;have dn:=ke aX;have bE:bo.heap[C]? =some (.cells ([.int .i64 ((if n≤64 then n else 0:Nat):Int),str t,.slice ra rs.length rc]++vs.set J (.slice aL au.length cc)).toArray 92 (0,0)):=by rw [← Gn]; exact cz
 have dv:ik w bo C M ([.int .i64 ((if n≤64 then n else 0:Nat):Int),str t,.slice ra rs.length rc]++vs.set J (.slice aL au.length cc)):=⟨bE,aQ.ax bm.c3 (fun h=>by omega),by simp [a2],bm.lo,bm.wk.trans' aQ fun k E h=>by omega⟩
 have cA:=aQ.B cN fun h=>by omega
 have eo:=bt.lt;have bB:Md (fun k=>k=rb∨k=C) ad bo:=(bY.mono fun _ _ h=> .inl h).trans<|aQ.mono fun _ _ h=> .inr h;have cZ:∀ i,i < J+1→iD bo (rb+1) ((vs.set J<|.slice aL au.length cc).getD i .nilFunc) ((ls++ [au]).getD i []):=fun i hi=>by
  rcases dN i J with h | h;rw [Eh ag,Ed ag];exact (bv i h).md bB fun k E hb=>absurd hb ag;obtain rfl :i=J:=ag;rw [Eg ag,Ec dn.symm];exact (bQ.mono ag).md aQ fun k E hb=>absurd hb ag
 exact ar 7 U<|tn<|⟨_,ag,J+1,ls++ [au],vs.set J (.slice aL au.length cc),bL,ag,(n5 aX b6),ag,(by rw [qp]; exact a2),cA,dv,cZ,(cX.trans bB),(cB bi bB fun k E h=>by have :=(da bi E).1; omega),U,U⟩
 refine aB 2 U<|te _<|bg 1 U<|cD<|eK<|eV ?_;obtain rfl :J=4:=ag;obtain ⟨av,aw,aA,aE,rfl⟩:∃ av aw aA aE,vs= [av,aw,aA,aE]:=by
  match vs,a2 with
  | [av,aw,aA,aE],_=>exact ⟨_,_,_,_,rfl⟩
 have a4:∀ i,i < 4→([av,aw,aA,aE].getD i .nilFunc).oneCell'=true :=fun i hi=>by
  obtain ⟨_,_,e,_⟩:=(bv i hi).my;rw [e]; rfl
 have dw:([.int .i64 ((if n≤64 then n else 0:Nat):Int),str t,.slice ra rs.length rc,av,aw,aA,aE]:List ah).all kW=true :=by
  have g0:=a4 0 ag;have g1:=a4 1 ag;have g2:=a4 2 ag;have g3:=a4 3 ag;simp only [oE,BI] at g0 g1 g2 g3;simp only [uD,BH,g0,g1,g2,g3]; rfl
 refine aP 5 U<|p (ay U<|bt.aG 1)<|aj 3 U ?_;refine eP U (fN jF (lE _ _ _ ad) U fun eG co db=> ?_) (fun c w' I σ' A=>by
  obtain ⟨rfl,hb,rfl⟩:=I;exact mU U aI ((A 2<|.head _).trans U) ((A 3<|.tail _<|.head _).trans U) (ac) (by rw [bf,CY bK aX (fun h=>of_decide_eq_false hb<|by rw [h])]))
 obtain ⟨rfl,dK,rfl⟩:=db;have dC:aK=s.length:=by have :=of_decide_eq_true dK; omega
 refine ar 1 U<|cD<|eK<|eV<|aP 1 U<|p (fi sQ U (U) (show ∀ j,j < 7→aO co.heap C (0 +j)=([.int .i64 ((if n≤64 then n else 0:Nat):Int),str t,.slice ra rs.length rc,av,aw,aA,aE]:List ah)[j]? from fun j _=>by rw [dx,eC ac.c2]; simp))<|e<|fk vu U U U dw ac.c2 (by rw [ac.len]; decide) fun dP bT cG=> ?_;have dh:dP.heap[C]? =some (.cells ([.int .i64 ((if n≤64 then n else 0:Nat):Int),str t,.slice ra rs.length rc]++ [av,aw,aA,aE]).toArray 92 (0,0)):=cG.trans<|by rw [iT (by rw [ac.len]; decide),uL,oF,kr]; rfl
 refine e<|fj yW U U (v:= .int .i64 0) U (bT.ax ac.c3 fun h=>by omega) aI fun dQ bU cH=>ar 1 U<|cD<|AG ?_;exact Lc U aI U U (bU.ax dh fun h=>by omega) cH U (fun w' hm=>by
  unfold k0;rw [bf,CZ bK aX dC];have bz:Md (fun k=>k=C∨k=M) co dQ:=(bT.mono fun _ _ h=> .inl h).trans<|bU.mono fun _ _ h=> .inr h;refine ⟨⟨_,U,ra,rc,_,U,a2,(du<|aR (cB bi bz fun k E h=>by have :=(da bi E).1; omega) hm).2,fun i hi=>(((bv i hi).md bz fun k E hb=>absurd hb ag).wk hm).mono ag⟩,(ac.wk.trans' bz fun k E h=>by omega).trans hm⟩)
theorem tA {α:Type} {f:Nat→Except Nat (α×Nat)} (C:∀ a e,f a= .error e→e≠0):∀ {k a e:Nat},cY f k a= .error e→e≠0
 | 0,a,e,h=>by cases h
 | k+1,a,e,h=>by
   rw [cY] at h;split at h
   · rename_i E A;cases h;exact tA C A
   · split at h
     · rename_i E A;cases h;exact C _ _ A
     · cases h
theorem rO {s:List UInt8} {a e:Nat} (h:bJ s a= .error e):e≠0:=by rcases AI h with h | h <;> omega
theorem zu {s:List UInt8} {a e:Nat} (h:dK s a= .error e):e≠0:=by
 unfold dK at h;split at h
 · rename_i A; cases h; exact rO A
 · repeat' split at h
   all_goals first | (cases h; decide) | cases h
theorem OF {s:List UInt8} {a e:Nat} (h:iM s a= .error e):e≠0:=by
 unfold iM at h;split at h
 · rename_i A; cases h; exact zu A
 · split at h
   · rename_i A; cases h; exact zu A
   · cases h
theorem Lw {s:List UInt8} {n a e:Nat} (h:fI s n a= .error e):e≠0:=by
 unfold fI at h;split at h
 · cases h; decide
 · split at h
   · rename_i A; cases h; exact rO A
   · split at h
     · cases h; decide
     · cases h
theorem PR {s:List UInt8} {n a e:Nat} (h:gO s n a= .error e):e≠0:=by
 unfold gO at h;split at h
 · rename_i A; cases h; exact rO A
 · split at h
   · cases h; decide
   · split at h
     · rename_i A; cases h; exact tA (fun _ _=>Lw) A
     · cases h
theorem O1 {s:List UInt8} {a e:Nat} (h:dy s a= .error e):e≠0:=by
 unfold dy at h;split at h
 · rename_i A; cases h; exact rO A
 · split at h
   · cases h; decide
   · split at h
     · rename_i A; cases h; exact tA (fun _ _=>PR) A
     · split at h
       · cases h
       · cases h; decide
theorem La {s:List UInt8} {e:Nat} (h:cC s= .error e):e≠0:=by
 unfold cC at h;split at h
 · split at h
   · rename_i A; cases h; exact rO A
   · split at h
     · rename_i A; cases h; exact zu A
     · split at h
       · rename_i A; cases h; exact rO A
       · split at h
         · cases h; decide
         · split at h
           · rename_i A; cases h; exact tA (fun _ _=>OF) A
           · generalize (if _≤64 then _ else 0)=n0 at h;unfold iq at h;split at h
             · split at h
               · rename_i A; cases h; exact tA (fun _ _=>O1) A
               · split at h
                 · cases h
                 · cases h; decide
             · cases h; decide
 · cases h; decide
theorem k0.form {s:List UInt8} {w w':ai} {v:ah} (h:k0 s w v w'):∃ L M x2 O V Z aa e,v= .tuple #[.agg [L,M,x2,O,V,Z,aa].toArray,.int .i64 ((e:Nat):Int)]∧[L,M,x2,O,V,Z,aa].all kW=true∧Wk w w'∧
 ((e≠0∧cC s= .error e)∨(e=0∧∃ b,cC s= .ok b∧qx w' w.heap.size [L,M,x2,O,V,Z,aa] b)):=by
 obtain ⟨h,ab⟩:=h;cases hX:cC s with
 | error e=>
   rw [hX] at h;exact ⟨_,_,_,_,_,_,_,e,h,U,ab,.inl ⟨La hX,U⟩⟩
 | ok b=>
   rw [hX] at h;obtain ⟨cs,ad,hb⟩:=h;obtain ⟨ra,rc,vs,rfl,ae,aj,ac⟩:=id hb;obtain ⟨C,E,I,J,rfl⟩:∃ C E I J,vs= [C,E,I,J]:=by
    match vs,ae with
    | [C,E,I,J],_=>exact ⟨_,_,_,_,rfl⟩
   have A:∀ i,i < 4→([C,E,I,J].getD i .nilFunc).oneCell'=true :=fun i hi=>by
    obtain ⟨_,_,e,_⟩:=(ac i hi).my;rw [e]; rfl
   have g0:=A 0 ag;have g1:=A 1 ag;have g2:=A 2 ag;have g3:=A 3 ag;simp only [oE,BI] at g0 g1 g2 g3;exact ⟨_,_,_,_,_,_,_,0,ad,by simp only [uD,BH,g0,g1,g2,g3]; rfl,ab,.inr ⟨U,b,U,hb⟩⟩
def ez (w:ai) (B cb:Nat) (b:eS) (A:List UInt8):Prop := ∃ cs,aD w.heap cb (cs++ [str A])∧qx w B cs b∧B≤cb
theorem ez.wk {w w':ai} {B cb:Nat} {b:eS} {A:List UInt8} (h:ez w B cb b A) (hm:Wk w w'):ez w' B cb b A:=by
 obtain ⟨cs,C,E,I⟩:=h;exact ⟨cs,Wk.B hm C,E.wk hm,I⟩
def Jk (s:List UInt8) (w:ai) (v:ah) (w':ai):Prop :=(match cC s with
 | .ok b=> ∃ cb,v= .tuple #[.pointer (some ⟨cb,0,none⟩),.nilIface]∧ez w' w.heap.size cb b s
 | .error e=>v= .tuple #[.pointer none,.iface 33 (.int .i64 ((e:Nat):Int))])∧Wk w w'
theorem Nd (s:List UInt8) (w:ai) (aA:s.length≤1048576):
 aY aq 11 (bd [str s]) w (Jk s w):=by
 refine enter func11 U ntmps11 U<|aP 8 U<|p mv<|e<|aH (Ld s w aA) U fun aR aB au=> ?_;obtain ⟨A,C,x2,E,I,J,M,ad,rfl,ay,Z,V⟩:=k0.form au;have aQ:=Z.size;refine p mv<|aj 2 U<|e<|fv HP fun ac aT aF ae am=> ?_;have aM:=ae.size;refine e<|fk vu U U U ay am aI fun ab ap an=> ?_;have ao:aD ab.heap ac [A,C,x2,E,I,J,M]:=⟨_,an⟩
 have O:Wk aB ab:=ae.md.trans' ap fun k aK h=>by omega
 have aN:=O.size;refine aC 10 U<|cd U (fun ax=> ?_) fun ax=> ?_;have V:ad≠0∧cC s= .error ad:=V.resolve_right fun h=>by omega
 refine az 3 U<|p (Ag wi U)<|ar 6 U<|f2 U U U ?_;refine ⟨?_,Z.trans O⟩;rw [V.2];exact U;obtain ⟨aJ,b,av,aw⟩:=V.resolve_left fun h=>by omega
 refine az 4 U<|p (fi sQ U (U) (show ∀ j,j < 7→aO ab.heap ac (0 +j)=([A,C,x2,E,I,J,M]:List ah)[j]? from fun j _=>ao.aG j))<|p mv<|p (Cr (ps:= [(0,.agg [A,C,x2,E,I,J,M].toArray),(1,str s)]) (L:= [A,C,x2,E,I,J,M,str s]) PN U<|by simp [Instr.fill,Value.cells,str])<|e<|sW (L:= [A,C,x2,E,I,J,M,str s]) U fun ak aS aE aa al=> ?_;have aL:=aa.size;refine ar 5 U<|f2 U U U ?_;refine ⟨?_,(Z.trans O).trans aa.md⟩;rw [av];exact ⟨ak,U,_,⟨_,al⟩,aw.wk (O.trans aa.md),ag⟩
end Go.Hb.lP
end
section
namespace Go.Hb.nJ
open Go.Hb.jD Go.Hb.j1 Go.Hb.uY Go.Hb.oQ Go.Hb.u0 Go.Hb.oR Go.Hb.kC Go.Hb.lP
theorem Kq {g0:List UInt8→Option Int} {hist gz:List (List UInt8→Option Int)} {g:List UInt8→Option Int} (h:kB g0 hist gz g):eA g∧∃ m,dh g m∧m≤500:=by
 have :=h.ok hist.length<|by rw [h.len]; omega
 rwa [h.last] at this
theorem Fb (o:Option ba) (w:ai):aY aq 12 #[.pointer o] w (fun v w'=>(o=none∧v= .pointer none∧Wk w w')∨∃ A bl bs,o=some A∧v= .pointer (some ⟨bl,0,none⟩)∧w.heap.size≤bl∧w.heap.size≤bs∧cR w' w.heap.size bl bs (.slice none 0 0) A (fun _=>none) 0 [] []∧Wk w w'):=by
 cases o with
 | none=>exact (ND w).mono fun v w' ⟨E,C⟩=> .inl ⟨rfl,E,C⟩
 | some A=>
   refine (Fc A w).mono fun v w' ⟨bl,bs,E,C,I,O,J,L,M⟩=> .inr ⟨A,bl,bs,U,E,C,I,?_,M⟩;exact ⟨J,L,⟨[],List.nodup_nil,U,fun k=>⟨fun ⟨v,h⟩=>(by rw [q8] at h; cases h),fun h=>by simp at h⟩⟩,ag,fun x h=>(by cases h),⟨C,I⟩,eL _ _ _ _,(fun h=>by simp [Value.ownBlock] at h),trivial⟩
theorem eR.NF {α β:Type} {R:α→β→Prop} :∀ {l:List α},eR R l ([]:List β)→l= []
 | [],_=>rfl
 | _::_,h=>h.elim
theorem P3 {α:Type} {l:List α} {k:Nat} {d:α} (h:k < l.length):l.take (k+1)=l.take k++ [l.getD k d]:=by
 rw [List.take_add_one,cI h,cW,cI h]; rfl
theorem Ql {g0:List UInt8→Option Int} {B bl bs n k:Nat} {vb:ah} {E:ba} {hist gz:List (List UInt8→Option Int)} {gT:List UInt8→Option Int} {cs:List ah} (w:ai) (M:kB g0 hist gz gT) (A:cR w B bl bs vb E (gz.getD k dG) n (hist.take k) cs) (ac:k≤hist.length) (ab:hist.length≤1048576):
 aY aq 16 #[.pointer (some ⟨bl,0,none⟩)] w (fun v w'=>v= .bool (decide (0 < k))∧∃ I J aa,cR w' B bl bs I E (gz.getD (k - 1) dG) aa (hist.take<|k - 1) J∧Md (jc bl bs vb) w w'∧(∀ j,I.ownBlock=some j→vb.ownBlock=some j)):=by
 cases k with
 | zero=>
   rw [uL] at A;obtain rfl :=eR.NF A.bk;refine (Qk B bl bs vb E _ n w A).mono fun v w' ⟨L,C⟩=>⟨L,vb,[],n,?_,C.mono (fun _ _ h=>h.elim),fun j h=>h⟩
   rw [uL]; exact A.wk C
 | succ k=>
   rw [P3 (d:=dG) ag] at A;have hb:=M.back k ag;obtain ⟨_,m,hm,V⟩:=M.ok k<|by rw [M.len]; omega
   have Z:=eR.len A.bk;simp only [bp,bX,dC] at Z;refine (Hs B bl bs vb E _ (hist.getD k dG) n m (hist.take k) cs w A (by rw [hb]; exact hm) V ag).mono fun v w' ⟨L,I,J,C,O,U⟩=>⟨L.trans (by simp),I,J,m,?_,O,U⟩
   rw [hb] at C;exact C
end Go.Hb.nJ
end
section
namespace Go.Hb.ez
open Go.Hb.kC Go.Hb.lP
def jj (c:UInt8) (es:List (UInt8×Int)):Nat:=es.findIdx fun e=>e.1==c
theorem Es {c:UInt8} {es:List (UInt8×Int)} {i:Nat} {e:UInt8×Int} (he:es[i]? =some e) (A:e.1=c) (E:∀ (j:Nat) (e':UInt8×Int),j < i→es[j]? =some e'→e'.1≠c):jj c es=i:=by
 unfold jj;obtain ⟨hi,rfl⟩:=dX.1 he;rw [List.findIdx_eq hi];refine ⟨by simpa using A,fun j C=> ?_⟩;have :=E j _ C<|cI ag;simpa using this
theorem Et {c:UInt8} {es:List (UInt8×Int)} (C:∀ (j:Nat) (e':UInt8×Int),es[j]? =some e'→e'.1≠c):jj c es=es.length:=by
 unfold jj;refine List.findIdx_eq_length.2 fun e he=> ?_;obtain ⟨j,A⟩:=List.mem_iff_getElem?.1 he;simpa using C j e A
def jd (l:List bH):Nat→List UInt8→Option Nat×Nat
 | n,[]=>(some n,0)
 | n,c::w=>if jj c (bu l n).2 < (bu l n).2.length then ((jd l ((bu l n).2.getD (jj c (bu l n).2) (0,0)).2.toNat w).1,(jd l ((bu l n).2.getD (jj c (bu l n).2) (0,0)).2.toNat w).2 +1) else (none,0)
def je (l:List bH) (w:List UInt8):Option Nat×Nat:=if l= [] then (none,0) else jd l 0 w
def j3 (l:List bH) (w:List UInt8):Bool:=match (je l w).1 with
 | some n=>(bu l n).1
 | none=>false
def iZ (l:List bH):Prop :=l.length≤1048576∧∀ x∈l,x.2.length≤256∧∀ e∈x.2,0≤e.2∧e.2 < l.length
theorem iZ.nil:iZ []:=⟨by simp,fun x A=>by simp at A⟩
theorem iZ.st {l:List bH} (h:iZ l) {n:Nat} (hn:n < l.length):(bu l n).2.length≤256∧∀ (i:Nat) e,(bu l n).2[i]? =some e→0≤e.2∧e.2 < l.length:=by
 have :=h.2 _<|gK (d:=dI) hn;exact ⟨this.1,fun i e he=>this.2 e<|kX he⟩
def cU (b:eS) (n:Int):List bH:=if 0≤n∧n < 4 then b.jq.getD n.toNat [] else []
theorem O2 {s:List UInt8} {b:eS} (h:b.Is s) (n:Int):iZ (cU b n):=by
 unfold cU;split
 · rename_i hn;have hm:b.jq.getD n.toNat []∈b.jq:=gK<|by rw [h.Fh]; omega
   obtain ⟨_,A,C⟩:=h.jq _ hm;exact ⟨A,C⟩
 · exact iZ.nil
theorem ez.sec {w:ai} {B cb:Nat} {b:eS} {J:List UInt8} (h:ez w B cb b J) {n:Nat} (hn:n < 4):∃ A cc,aO w.heap cb (3 +n)=some (.slice A (b.jq.getD n []).length cc)∧gh w.heap A (b.jq.getD n []):=by
 obtain ⟨cs,C,⟨ra,rc,vs,rfl,L,_,E⟩,_⟩:=h;obtain ⟨A,cc,e,_,I⟩:=(E n hn).my;refine ⟨A,cc,?_,I⟩;rw [C.aO,eZ (by simp only [bp,cn,fq]; omega),eH (by simp)];rw [cW] at e;have :vs[n]? =some (vs[n]'ag):=cI ag;rw [this] at e;show vs[3 +n - 3]? =_;rw [Nat.add_sub_cancel_left,this,← e]; rfl
theorem gh.none (h:Array Obj):gh h none []:=⟨fun h=>by simp at h,fun i hi=>by simp at hi⟩
theorem O5 (B kb:Nat) (b:eS) (O:List UInt8) (n:Int) (w:ai) (I:ez w B kb b O):
 aY aq 130 (bd [aA kb,.int .i64 n]) w (fun v w'=>(∃ C cc,v= .slice C (cU b n).length cc∧gh w'.heap C (cU b n))∧Wk w w'):=by
 refine enter func130 U ntmps130 U<|aP 9 U<|p (gW pO U U)<|aj 1 U<|gb (t:=7) U (fun h=>absurd (h.symm.trans<|U) dw) fun V=>aj 4 U<|gs (t:=11) U (fun L=> ?_) fun L=> ?_;refine ar 13 U<|aE U ?_;have A:cU b n= []:=if_neg ag;rw [A];exact ⟨⟨none,0,U,gh.none _⟩,Md.refl _ _⟩;refine aC 5 U<|cd U (fun J=> ?_) fun J=> ?_;refine aB 7 U<|aE U ?_;have A:cU b n= []:=if_neg ag;rw [A];exact ⟨⟨none,0,U,gh.none _⟩,Md.refl _ _⟩;obtain ⟨k,rfl⟩:∃ k:Nat,n=(k:Int):=⟨n.toNat,ag⟩
 have A:cU b (k:Int)=b.jq.getD k []:=if_pos ag;obtain ⟨C,cc,E,M⟩:=ez.sec I (n:=k) ag;rw [show 3 +k=0 +0 +3 +((k:Nat):Int).toNat*1 by omega] at E;refine az 9 U<|p (pc Cm U U ag)<|p (ay U<|E)<|p aT<|ar 3 U<|aE U ?_;rw [A];exact ⟨⟨C,cc,U,M⟩,Md.refl _ _⟩
theorem Jz (C:UInt8×Int) (x:List UInt8) (i J I:Nat) (w:ai) (M:aD w.heap J [str x]) (L:aD w.heap I [aQ i]) (hi:i < x.length):
 aY aq 132 (bd [.agg #[.int .u8 C.1.toNat,.int .i64 C.2],aA J,aA I]) w (fun v w'=>v= .bool (decide (C.1=x.getD i 0))∧Wk w w'):=by
 exact enter func132 U ntmps132 U<|aP 2 U<|e<|lV U fun V aa Z E O=>aC 4 U<|fh fun A=>aW [0] U A<|c9 1 U A (O.aG 0)<|c9 2 U A ((Wk.B E.md M).aG 0)<|c9 3 U A ((Wk.B E.md L).aG 0)<|cz 4 U (dc u9 U U ag) A<|aW [5,6] U A<|hn an<|bg 2 U<|aE U<|⟨bv (by rw [Int.ofNat_inj,nG]),E.md.drew⟩
theorem MB (a:Option ba) (c:Nat) (es:List (UInt8×Int)) (x:List UInt8) (i I E:Nat) (w:ai) (V:nI w.heap a es) (ae:aD w.heap I [str x]) (ad:aD w.heap E [aQ i]) (hi:i < x.length) (al:es.length≤256):
 aY aq 131 (bd [.slice a es.length c,.func (.func 132) #[] #[aA I,aA E]]) w (fun v w'=>(∃ r:Int,v= .int .i64 r∧((r=(jj (x.getD i 0) es:Nat)∧jj (x.getD i 0) es < es.length)∨(r= -1∧jj (x.getD i 0) es=es.length)))∧Wk w w'):=by
 refine enter func131 U ntmps131 U<|aP 8 U<|p mv<|aC 5 U<|lp (fun M ab L=> ∃ (k:Nat),(k≤es.length)∧(∀ (j:Nat) (e':UInt8×Int),j < k→es[j]? =some e'→e'.1≠x.getD i 0)∧(Wk w L)∧(Sl ab [(0,.slice a es.length c),(1,.func (.func 132) #[] #[aA I,aA E]),(7,aQ (es.length)),(8,aQ k)])∧(es.length - k=M)) _ ⟨0,ag,(fun j d aa=>by omega),(Md.refl _ _),U,U⟩ ?_;rintro M ab L ⟨k,ak,J,A,aj,rfl⟩;refine bG aj<|bV 6 U<|cd U (fun ah=> ?_) fun ah=> ?_;refine bD 11 U ?_;obtain ⟨ac,he⟩:∃ d,es[k]? =some d:=⟨_,cI ag⟩
 refine az 4 U<|p (bZ vE U U ag<|V.ok ag)<|p (fi B6 U (U)<|(V.wk A).two he)<|e<|yS J2 U (Jz ac x i I E L (Wk.B A ae) (Wk.B A ad) hi) U ?_;rintro am an ⟨rfl,O⟩;refine aC 2 U<|cb U (fun hm=> ?_) fun hm=> ?_;refine aB 9 U<|tr<|bg 2 U<|aE U ?_;have Z:=Es he (of_decide_eq_true hm) J;exact ⟨⟨(k:Nat),U,.inl ⟨by rw [Z],by rw [Z]; omega⟩⟩,A.trans O⟩;exact az 4 U<|p (bW<|k+1)<|ar 2 U<|tn<|⟨_,ag,k+1,ag,(fun j e' aa C=>by rcases Nat.lt_succ_iff_lt_or_eq.1 aa with h | rfl; exact J j e' h C; rw [he] at C; cases C; exact of_decide_eq_false hm),(A.trans O),U,U⟩
 exact aB 2 U<|cg<|bg 8 U<|aE U<|⟨⟨-1,U,.inr ⟨U,Et fun j e' C=>J j e' (by have :=(dX.1 C).1; omega) C⟩⟩,A⟩
theorem JB {l:List bH} {n:Nat} :jd l n []=(some n,0):=rfl
theorem Ca {l:List bH} {n:Nat} {c:UInt8} {w:List UInt8} (h:jj c (bu l n).2=(bu l n).2.length):jd l n (c::w)=(none,0):=by
 rw [jd,if_neg ag]
theorem B9 {l:List bH} {n m:Nat} {c:UInt8} {w:List UInt8} {e:UInt8×Int} (h:(bu l n).2[jj c (bu l n).2]? =some e) (he:e.2=(m:Int)):jd l n (c::w)=((jd l m w).1,(jd l m w).2 +1):=by
 have A:=(dX.1 h).1;rw [jd,if_pos A,cW,h];show ((jd l e.2.toNat w).1,(jd l e.2.toNat w).2 +1)=_;rw [he,Int.toNat_natCast]
theorem y8 {x:List UInt8} {k:Nat} (h:k < x.length):x.drop k=x.getD k 0::x.drop (k+1):=by
 rw [List.drop_eq_getElem_cons h,cW,cI h]; rfl
def Ji (l:List bH) (x:List UInt8) (w:ai) (v:ah) (w':ai):Prop :=Wk w w'∧∃ p,v= .tuple #[p,.int .i64 ((je l x).2:Nat)]∧match (je l x).1 with
 | none=>p= .pointer none
 | some q=> ∃ A C,p= .pointer (some ⟨A,C,none⟩)∧aO w'.heap A (C+0)=some (.bool (bu l q).1)
theorem Cd (B kb:Nat) (b:eS) (aM:List UInt8) (n:Int) (x:List UInt8) (w:ai) (aU:ez w B kb b aM) (aE:iZ (cU b n)) (bj:x.length≤4294967296):
 aY aq 83 (bd [aA kb,.int .i64 n,str x]) w (Ji (cU b n) x w):=by
 obtain ⟨bb,bc⟩:=id aE;refine enter func83 U ntmps83 U<|aP 2 U<|e<|vj U U fun L ba bi Z au=> ?_;have bn:=Z.size;refine aj 6 U<|p mv<|p mv<|e<|aH (O5 B kb b aM n ba<|aU.wk Z.md) U ?_;rintro bq a9 ⟨⟨ak,cc,rfl,aZ⟩,hE14⟩;have aw:=Z.md.trans hE14;refine p aT<|aj 5 U<|p mv<|aC 4 U<|cd U (fun a0=> ?_) fun a0=> ?_;have I:(cU b n).length=0:=ag;refine aB 8 U<|f2 U U U ?_;have C:je (cU b n) x=(none,0):=if_pos<|List.eq_nil_of_length_eq_zero I;refine ⟨aw,.pointer none,by rw [C]; rfl,?_⟩;rw [C];have I:0 < (cU b n).length:=ag;refine az 10 U<|p (ay U<|(aD.aG ⟨_,Wk.ax hE14 au⟩ 0:aO a9.heap L 0=some (str x)))<|aC 5 U<|lp (fun ap aN J=> ∃ (k q:Nat),(k≤x.length)∧(q < (cU b n).length)∧(je (cU b n) x=((jd (cU b n) q<|x.drop k).1,(jd (cU b n) q<|x.drop k).2 +k))∧(gh J.heap ak<|cU b n)∧(aD J.heap L [str x])∧(Wk w J)∧(Sl aN [(5,aA L),(8,.slice ak (cU b n).length cc),(9,aQ q),(19,aQ (x.length)),(20,aQ k)])∧(x.length - k=ap)) _ ⟨0,0,ag,I,(by rw [je,if_neg (fun h=>by rw [h] at I; simp at I)]; rfl),aZ,(⟨_,Wk.ax hE14 au⟩),aw,U,U⟩ ?_;rintro ap aN J ⟨k,q,a3,ae,ac,E,ab,O,a6,rfl⟩;refine bG a6<|bV 6 U<|cd U (fun a1=> ?_) fun a1=> ?_;refine az 7 U<|e<|fv Q6 fun al bt bf aF aR=> ?_;have bm:=aF.size;refine e<|fj fT U U U aR (by simp) fun ah aX aS=> ?_;have av:aD ah.heap al [aQ k]:=⟨_,aS⟩
 have A:Wk J ah:=Md.trans' aF.md aX fun k a3 h=>by omega
 have bo:=A.size;refine aC 3 U ?_;obtain ⟨am,ao,aa,aV⟩:=E.two ae;have aJ:=mz A aa;have V:=aV.wk A;obtain ⟨a4,a5⟩:=aE.st ae;have aK:=y8 (x:=x) (k:=k) ag;refine az 3 U<|p (bZ vF U U ag<|E.ok ag)<|aj 1 U<|p (ay U<|aJ 1 ag)<|p ri<|e<|aH (MB am ao (bu (cU b n) q).2 x k L al ah V (A.B ab) av ag a4) U ?_;rintro br bv ⟨⟨bp,rfl,aL⟩,hE29⟩;refine aC 10 U<|cd U (fun a2=> ?_) fun a2=> ?_;have ad:=aL.resolve_left fun h=>by omega
 refine bD 1 U<|fh fun aI=>c9 0 U aI ((hE29.B av).aG 0)<|aW [1,2] U aI<|hn an<|bg 5 U<|tr<|bg 2 U<|f2 U U U ?_;have C:je (cU b n) x=(none,k):=by rw [ac,aK,Ca ad.2]; simp
 refine ⟨(O.trans<|A.trans hE29).drew,.pointer none,by rw [C]; rfl,?_⟩;rw [C];obtain ⟨rfl,ad⟩:=aL.resolve_right fun h=>by omega
 refine bD 2 U ?_;obtain ⟨⟨c,z⟩,he⟩:∃ e,(bu (cU b n) q).2[jj (x.getD k 0) (bu (cU b n) q).2]? =some e:=⟨_,cI ad⟩
 obtain ⟨a7,a8⟩:=a5 _ _ he;obtain ⟨m,rfl⟩:∃ m:Nat,z=(m:Int):=⟨z.toNat,by simp only at a7; omega⟩
 simp only at a8;exact az 3 U<|p (bZ vF U U ag<|E.ok ag)<|aj 1 U<|p (ay U<|(mz hE29 aJ) 1 ag)<|aj 1 U<|p (bZ vE U U ag<|V.ok ag)<|aj 1 U<|p (ay U (show _=some (bh .i64 ((m:Nat):Int)) from (V.wk hE29).to _ (c,_) he))<|aj 5 U<|p (bW<|k+1)<|ar 2 U<|tn<|⟨_,ag,k+1,m,ag,ag,(by rw [ac,aK,B9 he U]; simp only [Prod.mk.injEq,true_and]; omega),(E.wk<|A.trans hE29),(Wk.B (A.trans hE29) ab),(O.trans<|A.trans hE29),U,U⟩
 refine aB 2 U<|cg<|ee 3 U<|fh fun M=>aW [0,1] U M<|cz 2 U (bZ vF U U ag<|E.ok ag) M<|c9 3 U M (ab.aG 0)<|aW [4,5,6] U M<|hn an<|bg 2 U<|f2 U U U ?_;obtain rfl :k=x.length:=ag;have C:je (cU b n) x=(some q,x.length):=by rw [ac,List.drop_length,JB]; simp
 refine ⟨Md.drew O,_,by rw [C]; rfl,?_⟩;rw [C];obtain ⟨am,ao,aa,_⟩:=E.two ae;exact ⟨_,_,U,aa 0 ag⟩
theorem Mm (B kb:Nat) (b:eS) (C:List UInt8) (n:Int) (x:List UInt8) (w:ai) (E:ez w B kb b C) (J:iZ (cU b n)) (M:x.length≤4294967296) (A:(je (cU b n) x).1=none):
 aY aq 40 (bd [aA kb,.int .i64 n,str x]) w (fun v w'=>v= .bool (j3 (cU b n) x)∧Wk w w'):=by
 refine enter func40 U ntmps40 U<|aP 7 U<|p mv<|p mv<|p mv<|e<|aH (Cd B kb b C n x w E J M) U ?_;rintro V Z ⟨I,p,rfl,hp⟩;rw [A] at hp;subst hp;refine p mv<|aj 2 U<|p aT<|aj 5 U<|p mv<|p (pD Hk U U)<|aj 1 U<|gb (t:=18) U (fun h=>absurd (h.symm.trans<|U) dw) fun O=>aj 5 U<|p aT<|ar 3 U<|aE U ?_;have L:j3 (cU b n) x=false :=by rw [j3,A]
 rw [L];exact ⟨U,I⟩
theorem Mo (B kb:Nat) (b:eS) (C:List UInt8) (n:Int) (x:List UInt8) (w:ai) (E:ez w B kb b C) (J:iZ (cU b n)) (O:x.length≤4294967296) (q:Nat) (A:(je (cU b n) x).1=some q):
 aY aq 40 (bd [aA kb,.int .i64 n,str x]) w (fun v w'=>v= .bool (j3 (cU b n) x)∧Wk w w'):=by
 refine enter func40 U ntmps40 U<|aP 7 U<|p mv<|p mv<|p mv<|e<|aH (Cd B kb b C n x w E J O) U ?_;rintro ab ac ⟨I,p,rfl,hp⟩;rw [A] at hp;obtain ⟨V,aa,rfl,M⟩:=hp;refine p mv<|aj 2 U<|p aT<|aj 5 U<|p mv<|p (pD Hk U U)<|aj 1 U<|gb (t:=18) U (fun Z=> ?_) fun h=>absurd ((U).symm.trans h) dw;refine bo U mv<|aj 2 U<|bo U (ay U<|M)<|ar 5 U<|aE U ?_;have L:j3 (cU b n) x=(bu (cU b n) q).1:=by rw [j3,A]
 rw [L];exact ⟨U,I⟩
theorem Mp (B kb:Nat) (b:eS) (A:List UInt8) (n:Int) (x:List UInt8) (w:ai) (C:ez w B kb b A) (E:iZ (cU b n)) (I:x.length≤4294967296):aY aq 40 (bd [.pointer (some ⟨kb,0,none⟩),.int .i64 n,str x]) w (fun v w'=>v= .bool (j3 (cU b n) x)∧Wk w w'):=by
 cases hX:(je (cU b n) x).1 with
 | none=>exact Mm B kb b A n x w C E I hX
 | some q=>exact Mo B kb b A n x w C E I q hX
theorem Kp (B kb:Nat) (b:eS) (A:List UInt8) (x:List UInt8) (w:ai) (C:ez w B kb b A) (I:iZ (cU b 0)) (J:x.length≤4294967296):
 aY aq 21 (bd [aA kb,str x]) w (fun v w'=>v= .bool (j3 (cU b 0) x)∧Wk w w'):=by
 refine enter func21 U ntmps21 U<|aP 7 U<|p mv<|p mv<|e<|aH (Mp B kb b A 0 x w C I J) U ?_;rintro L M ⟨rfl,E⟩;exact ar 4 U<|aE U<|⟨U,E⟩
end Go.Hb.ez
end
namespace Go.Hb
theorem JX {b:Bool} (h:(!b)=true):b=false :=by cases b; rfl; cases h
theorem JW {b:Bool} (h:(!b)=false):b=true :=by cases b; cases h; rfl
def Dq:Except Nat (List UInt8×Int)→ah
 | .ok (x,o)=> .tuple #[str x,.int .i64 o,.int .i64 0]
 | .error e=> .tuple #[str [],.int .i64 0,.int .i64 ((e:Nat):Int)]
theorem Ly (f:List (List UInt8)):∃ x o e,Dq (eN f)= .tuple #[str x,.int .i64 o,.int .i64 ((e:Nat):Int)]∧((e=0∧eN f= .ok (x,o))∨(e≠0∧eN f= .error e)):=by
 cases h:eN f with
 | ok p=>exact ⟨p.1,p.2,0,rfl,.inl ⟨rfl,rfl⟩⟩
 | error e=>exact ⟨[],0,e,rfl,.inr ⟨(zb h).1,rfl⟩⟩
theorem LA (a:Option ba) (cap:Nat) (f:List (List UInt8)) (w:ai) (M:bQ w.heap a f) (am:∀ x∈f,x≠[]) (al:∀ x∈f,x.length≤1048576) (au:f.length≤1048577):
 aY aq 29 (bd [.slice a f.length cap]) w (fun v w'=>v=Dq (eN f)∧Wk w w'):=by
 refine enter func29 U ntmps29 U<|aP 10 U<|p mv<|aC 4 U<|cd U (fun ae=> ?_) fun ae=> ?_;exact aB 9 U<|f3 U U U U<|⟨by rw [Du ag]; rfl,Md.refl _ _⟩
 have I:f.length=1:=ag;have av:0 < (f.getD 0 []).length:=uK.2<|am _<|gK ag;have aw:(f.getD 0 []).length≤1048576:=al _<|gK ag;have ap:=HJ<|(f.getD 0 []).drop 1;rw [fY] at ap;refine bD 7 U ?_;refine ei (fun ad ab=> ∃ (o:Int),((o=1∧dm f=43)∨(o= -1∧dm f=45))∧(Wk w ab)∧(Sl ad [(0,.slice a f.length cap),(5,.int .i64 o)])) ?_ ?_;refine aP 2 U<|p mv<|p (bZ dJ U U ag<|aU.ok (M)<|ef ag)<|p (ay U<|bQ.get (i:=0) M ag)<|p (kK 0 u9 U U ag)<|aC 9 U<|cd U (fun ah=> ?_) fun ah=> ?_;have A:dm f=43:=by unfold dm; omega
 exact aB 2 U<|tn<|⟨1,(.inl ⟨U,A⟩),(Md.refl _ _),U⟩
 have aa:dm f≠43:=by unfold dm; omega
 refine bD 6 U<|cd U (fun aj=> ?_) fun aj=> ?_;have A:dm f=45:=by unfold dm; omega
 exact aB 4 U<|tn<|⟨-1,(.inr ⟨U,A⟩),(Md.refl _ _),U⟩
 have ao:dm f≠45:=by unfold dm; omega
 exact aB 9 U<|tr<|f3 U U U U<|⟨by rw [Dw I aa ao]; rfl,Md.refl _ _⟩
 rintro ad ab ⟨o,an,C,aa⟩;refine bG aa ?_;have A:dm f=43∨dm f=45:=ag;refine az 3 U<|p (bZ dJ U U ag<|aU.ok (M.wk C)<|ef ag)<|p (ay U<|bQ.get (i:=0) (M.wk C) ag)<|p (mw u9 U U ag)<|e<|aH (QV ((f.getD 0 []).drop 1) ab<|by rw [fY]; omega) U ?_;rintro ax ar ⟨rfl,L⟩;refine p mv<|aC 19 U<|cd U (fun ak=> ?_) fun ak=> ?_;have E:(dS f).2.2.2≠0:=by show (iA<|(f.getD 0 []).drop 1).2.2.2≠0; omega
 exact aB 11 U<|f3 U U U U<|⟨by rw [Dt I A E]; rfl,C.trans L⟩
 have E:(dS f).2.2.2=0:=by show (iA<|(f.getD 0 []).drop 1).2.2.2=0; omega
 refine bD 6 U<|cb U (fun V=> ?_) fun V=> ?_;have J:(dS f).2.2.1=true :=V;exact aB 10 U<|f3 U U U U<|⟨by rw [Ds I A E J]; rfl,C.trans L⟩
 have J:(dS f).2.2.1=false :=V;refine az 3 U<|e<|aH (Bi (iA<|(f.getD 0 []).drop 1).1 ar ag) U ?_;rintro aA aD ⟨rfl,ac⟩;refine aC 4 U<|cb U (fun Z=> ?_) fun Z=> ?_;have O:dL (dS f).1=false :=JX Z;exact aB 10 U<|f3 U U U U<|⟨by rw [Dr I A E J O]; rfl,(C.trans L).trans ac⟩
 have O:dL (dS f).1=true :=JW Z;refine aB 13 U<|f3 U U U U ?_;refine ⟨?_,(C.trans L).trans ac⟩;rw [Dv I A E J O];rcases an with ⟨rfl,h⟩ | ⟨rfl,h⟩;rw [if_pos h]; rfl;rw [if_neg ag]; rfl
theorem NQ {b:UInt8} (h:¬(b.toNat:Int)=10):b≠10:=by rintro rfl; exact h rfl
theorem Mu {b:UInt8} (h:(b.toNat:Int)=10):b=10:=nG.1 (by have :(10:UInt8).toNat=10:=rfl; omega)
theorem Mv {b:UInt8} (h:(b.toNat:Int)=13):b=13:=nG.1 (by have :(13:UInt8).toNat=13:=rfl; omega)
theorem NR {b:UInt8} (h:¬(b.toNat:Int)=13):b≠13:=by rintro rfl; exact h rfl
theorem zz (b:UInt8) (w:ai):
 aY aq 116 (bd [.int .u8 b.toNat]) w (fun v w'=>v= .bool (kH b)∧Wk w w'):=by
 refine enter func116 U ntmps116 U<|aP 10 U<|gs (t:=5) U (fun A=> ?_) fun A=> ?_;exact aj 3 U<|p aT<|ar 3 U<|aE U<|⟨by show bB true =_; rw [nV,decide_eq_true (.inl ag)],Md.refl _ _⟩
 exact ar 7 U<|aE U<|⟨by show bB (decide ((b.toNat:Int)=9))=_; rw [nV]; exact congrArg bB (decide_eq_decide.2 ag),Md.refl _ _⟩
theorem LV (l:List UInt8) (w:ai) (a5:l.length≤1048576):
 aY aq 63 (bd [str l]) w (fun v w'=>b9 w' w.heap.size 9 1 v (bN [] l).length ((bN [] l).map str)∧Wk w w'):=by
 refine enter func63 U ntmps63 U<|bV 24 U<|lp (fun aw ay w1=> ∃ (i:Nat) (fr:Int) (M:List UInt8) (A:List (List UInt8)) (v:ah),(i≤l.length)∧(il l i fr M)∧(A++bN M (l.drop i)=(bN [] l))∧(Wk w w1)∧(b9 w1 w.heap.size 9 1 v (A).length<|(A).map str)∧(Sl ay [(0,str l),(3,v),(4,.int .i64 fr),(7,.int .i64 l.length),(8,.int .i64 i)])∧(l.length - i=aw)) _ ⟨0,-1,[],[],.slice none 0 0,ag,il.no,U,(Md.refl _ _),(eL _ _ _ _),U,U⟩ ?_;rintro aw ay w1 ⟨i,fr,M,A,v,hi,J,C,aa,ak,aS,rfl⟩;refine bG aS ?_;have a2:A.length≤l.length+1:=by have O:=congrArg jx C; have L:=tt l []; rw [bp] at O; omega
 refine bV 6 U<|cd U (fun aM=> ?_) fun aM=> ?_;refine az 15 U<|p (dc u9 U U ag)<|e<|aH (zz (l.getD i 0) _) U ?_;rintro a9 aW ⟨rfl,ax⟩;have ab:Wk w aW:=Md.trans aa ax;have a6:=ab.size;have al:=aR ak ax;refine aj 1 U<|gb (t:=16) U (fun I=> ?_) fun I=> ?_;refine aC 6 U<|cd U (fun aK=> ?_) fun aK=> ?_;obtain ⟨gL,Z,au⟩:=J.pos ag;refine az 2 U<|gD (v)<|aj 3 U<|p (ox u9 U U U ag)<|e<|e9 eu U U fun aX ba a0 ad aA=>e<|ap eu (aR al ad.md) U (by have :=ad.size; omega) U (aU.dB aA) (U) (U) ag ag fun aV bb aN aI a7 a3=> ?_;have aF:=Wk.own (Md.trans ab ad.md) (aR al ad.md) aI<|bf _;have aO:=ni aN;exact p aT<|ar 12 U<|tn<|⟨_,ag,i+1,-1,[],A++ [(l.take i).drop fr.toNat],aV,ag,il.no,(by rw [drop_cons 0 ag,DZ I au,Z] at C; rw [iC]; exact C),aF,aO,U,U⟩
 refine az 4 U<|p (dc u9 U U ag)<|e<|aH (zz (l.getD i 0) _) U ?_;rintro v31 av ⟨rfl,V⟩;have ac:Wk w av:=Md.trans ab V;have am:=aR al V;refine aj 2 U<|gb (t:=33) U (fun E=> ?_) fun E=> ?_;refine aC 6 U<|cd U (fun an=> ?_) fun an=> ?_;refine aB 11 U<|tn ?_;rw [I] at E; cases E;refine aB 8 U<|tn ?_;rw [I] at E; cases E;exact aj 3 U<|p aT<|ar 11 U<|tn<|⟨_,ag,i+1,fr,M,A,v,ag,(by obtain ⟨O,L⟩:=J.neg ag; subst O L; exact il.no),(by obtain ⟨O,L⟩:=J.neg ag; subst L; rw [drop_cons 0 ag,vK I] at C; exact C),ac,am,U,U⟩
 refine aj 3 U<|p aT<|aj 7 U<|p (dc u9 U U ag)<|e<|aH (zz (l.getD i 0) _) U ?_;rintro v31 av ⟨rfl,V⟩;have ac:Wk w av:=Md.trans ab V;have am:=aR al V;refine aj 2 U<|gb (t:=33) U (fun E=> ?_) fun E=> ?_;refine aC 6 U<|cd U (fun an=> ?_) fun an=> ?_;exact aB 11 U<|tn<|⟨_,ag,i+1,i,[l.getD i 0],A,v,ag,(il.begin ag),(by obtain ⟨O,L⟩:=J.neg ag; subst L; rw [drop_cons 0 ag,zq I] at C; exact C),ac,am,U,U⟩
 exact aB 8 U<|tn<|⟨_,ag,i+1,fr,M++ [l.getD i 0],A,v,ag,(J.more ag ag),(by rw [drop_cons 0 ag,zq I] at C; exact C),ac,am,U,U⟩
 refine aj 3 U<|p aT<|ar 11 U<|tn ?_;rw [I] at E; cases E;refine aB 2 U<|cg<|ee 9 U<|cd U (fun aL=> ?_) fun aL=> ?_;obtain ⟨gL,Z,au⟩:=J.pos ag;refine az 1 U<|gD (v)<|aj 2 U<|p (mw u9 U U ag)<|e<|e9 eu U U fun aZ bc a1 ae aD=>e<|ap eu (aR ak ae.md) U (by have :=ae.size; have :=aa.size; omega) U (aU.dB aD) (U) (U) ag ag fun v46 bg aP aJ a8 a4=> ?_;have aG:=Wk.own (Md.trans aa ae.md) (aR ak ae.md) aJ<|bf _;have aQ:=ni aP;refine p aT<|aj 4 U<|p mv<|p aT<|ar 3 U<|aE U ?_;have ao:A++ [l.drop fr.toNat]=(bN [] l):=by rw [← C,show l.drop i= [] from iT ag,D0 au,Z,iV ag]
 exact ⟨by rw [← ao]; exact aQ,aG⟩;obtain ⟨gL,Z⟩:=J.neg ag;refine az 4 U<|gD (v)<|p (sT (v) U)<|ar 3 U<|aE U ?_;have ao:A=(bN [] l):=by rw [← C,iT ag,Z,zr,kr]
 exact ⟨by rw [← ao]; exact ak,aa⟩
theorem Oq (l:List UInt8) (w:ai) (aW:l.length≤1048576):
 aY aq 119 (bd [str l]) w (fun v w'=>b9 w' w.heap.size 9 1 v (bN [] l).length ((bN [] l).map str)∧Wk w w'):=by
 refine enter func119 U ntmps119 U<|bV 17 U<|lp (fun V aD am=> ∃ (i:Nat) (C:List (List UInt8)) (v:ah),(i≤l.length)∧(C++bN [] (l.drop i)=(bN [] l))∧(Wk w am)∧(b9 am w.heap.size 9 1 v (C).length<|(C).map str)∧(Sl aD [(0,str l),(3,v),(4,.int .i64 i)])∧(l.length - i=V)) _ ⟨0,[],.slice none 0 0,ag,U,(Md.refl _ _),(eL _ _ _ _),U,U⟩ ?_;rintro V aD am ⟨i,C,v,hi,O,I,J,aN,rfl⟩;refine bG aN ?_;have aS:C.length≤l.length+1:=by have M:=congrArg jx O; have aQ:=tt l []; rw [bp] at M; omega
 refine bV 9 U<|cd U (fun aJ=> ?_) fun aJ=> ?_;refine az 8 U<|p (dc u9 U U ag)<|aj 2 U<|gs (t:=14) U (fun aK=> ?_) fun aK=> ?_;exact ar 18 U<|tn<|⟨_,ag,i+1,C,v,ag,(by rw [drop_cons 0 ag,vK (by rw [nV]; exact decide_eq_true<|.inl ag)] at O; exact O),I,J,U,U⟩
 refine aj 2 U<|bo U (dc u9 U U ag)<|aC 4 U<|cd U (fun aH=> ?_) fun aH=> ?_;exact aB 10 U<|tn<|⟨_,ag,i+1,C,v,ag,(by rw [drop_cons 0 ag,vK (by rw [nV]; exact decide_eq_true<|.inr ag)] at O; exact O),I,J,U,U⟩
 have an:kH (l.getD i 0)=false :=by rw [nV]; exact decide_eq_false ag
 refine bD 10 U<|lp (fun V aF aA=> ∃ (j:Nat),(i≤j∧j≤l.length)∧(aA=am)∧(C++bN ((l.take j).drop i) (l.drop j)=(bN [] l))∧(Sl aF [(0,str l),(3,v),(4,.int .i64 i),(5,.int .i64 j)])∧(l.length - j=V)) _ ⟨i,ag,U,(by rw [iT (by rw [bX]; omega)]; exact O),U,U⟩ ?_;rintro V aF aA ⟨j,aV,aG,E,aO,rfl⟩;refine bG aO ?_;subst aG;refine aP 8 U<|gs (t:=27) U (fun aL=> ?_) fun aL=> ?_;refine aj 2 U<|bo U (dc u9 U U ag)<|aj 3 U<|gs (t:=33) U (fun aM=> ?_) fun aM=> ?_;refine aj 2 U<|bo U (dc u9 U U ag)<|aC 4 U<|cd U (fun aI=> ?_) fun aI=> ?_;exact aB 9 U<|tn<|⟨_,ag,j+1,ag,U,(by rw [drop_cons (l:=l) (i:=j) 0 ag,zq (by rw [nV]; exact decide_eq_false ag),← AW 0 ag ag] at E; exact E),U,U⟩
 have L:l.length≤j∨kH (l.getD j 0)=true := .inr<|by rw [nV]; exact decide_eq_true<|.inr ag
 have ac:¬j=i:=by
  rintro rfl;rcases L with h | h;omega;rw [an] at h; cases h
 have ad:(l.take j).drop i≠[]:=fun h0=>ac<|by have M:=congrArg jx h0; simp only [fY,bX,fq] at M; omega
 rw [zn (i:=j) ad L] at E;refine aB 2 U<|cg<|fV 4 U<|gD (v)<|aj 3 U<|p (ox u9 U U U ag)<|e<|e9 eu U U fun ao ax au A Z=>e<|ap eu (aR J A.md) U (by have :=A.size; have :=I.size; omega) U (aU.dB Z) (U) (U) ag ag fun al ay ae ab aw av=> ?_;have aa:=Wk.own (Md.trans I A.md) (aR J A.md) ab<|bf _;have ak:=ni ae;exact p aT<|ar 7 U<|tn<|⟨_,ag,j,C++ [(l.take j).drop i],al,ag,(by rw [iC]; exact E),aa,ak,U,U⟩
 have L:l.length≤j∨kH (l.getD j 0)=true := .inr<|by rw [nV]; exact decide_eq_true<|.inl ag
 have ac:¬j=i:=by
  rintro rfl;rcases L with h | h;omega;rw [an] at h; cases h
 have ad:(l.take j).drop i≠[]:=fun h0=>ac<|by have M:=congrArg jx h0; simp only [fY,bX,fq] at M; omega
 rw [zn (i:=j) ad L] at E;refine ar 10 U<|cg<|fV 4 U<|gD (v)<|aj 3 U<|p (ox u9 U U U ag)<|e<|e9 eu U U fun ao ax au A Z=>e<|ap eu (aR J A.md) U (by have :=A.size; have :=I.size; omega) U (aU.dB Z) (U) (U) ag ag fun al ay ae ab aw av=> ?_;have aa:=Wk.own (Md.trans I A.md) (aR J A.md) ab<|bf _;have ak:=ni ae;exact p aT<|ar 7 U<|tn<|⟨_,ag,j,C++ [(l.take j).drop i],al,ag,(by rw [iC]; exact E),aa,ak,U,U⟩
 have L:l.length≤j∨kH (l.getD j 0)=true := .inl ag;have ac:¬j=i:=by
  rintro rfl;rcases L with h | h;omega;rw [an] at h; cases h
 have ad:(l.take j).drop i≠[]:=fun h0=>ac<|by have M:=congrArg jx h0; simp only [fY,bX,fq] at M; omega
 rw [zn (i:=j) ad L] at E;refine aj 5 U<|p mv<|ar 10 U<|cg<|fV 4 U<|gD (v)<|aj 3 U<|p (ox u9 U U U ag)<|e<|e9 eu U U fun ao ax au A Z=>e<|ap eu (aR J A.md) U (by have :=A.size; have :=I.size; omega) U (aU.dB Z) (U) (U) ag ag fun al ay ae ab aw av=> ?_;have aa:=Wk.own (Md.trans I A.md) (aR J A.md) ab<|bf _;have ak:=ni ae;exact p aT<|ar 7 U<|tn<|⟨_,ag,j,C++ [(l.take j).drop i],al,ag,(by rw [iC]; exact E),aa,ak,U,U⟩
 refine aB 2 U<|cg<|fV 4 U<|gD (v)<|p (sT (v) U)<|ar 3 U<|aE U ?_;have E:C=(bN [] l):=by rw [← O,iT ag,zr,kr]
 exact ⟨by rw [← E]; exact J,I⟩
theorem No (s:List UInt8) (w:ai):
 aY aq 169 (bd [str s]) w (fun v w'=>v= .bool (re s)∧Wk w w'):=by
 refine enter func169 U ntmps169 U<|aP 11 U<|gs (t:=6) U (fun E=> ?_) fun E=> ?_;refine aj 1 U<|bo U (kK 0 u9 U U ag)<|aj 3 U<|gs (t:=11) U (fun A=> ?_) fun A=> ?_;refine aj 1 U<|bo U (kK 1 u9 U U ag)<|aj 3 U<|gs (t:=16) U (fun C=> ?_) fun C=> ?_;exact aj 1 U<|bo U (kK 2 u9 U U ag)<|ar 6 U<|aE U<|⟨by show bB (decide (((s.getD 2 0).toNat:Int)=191))=_; rw [wg]; exact congrArg bB (decide_eq_decide.2 ag),Md.refl _ _⟩
 exact aj 4 U<|p aT<|ar 3 U<|aE U<|⟨by show bB false =_; rw [wg,decide_eq_false ag],Md.refl _ _⟩
 exact aj 4 U<|p mv<|aj 4 U<|p aT<|ar 3 U<|aE U<|⟨by show bB false =_; rw [wg,decide_eq_false ag],Md.refl _ _⟩
 exact aj 4 U<|p mv<|aj 4 U<|p mv<|aj 4 U<|p aT<|ar 3 U<|aE U<|⟨by show bB false =_; rw [wg,decide_eq_false ag],Md.refl _ _⟩
theorem Dp (l:List UInt8) (a:Option ba) (c:Nat) (w:ai) (A:aU w.heap a (U8 l)) (J:l.length≤1048576) (I:l.length≤c):
 aY aq 170 (bd [.slice a l.length c]) w (fun v w'=>v=str (gl l)∧Wk w w'):=by
 refine enter func170 U ntmps170 U<|aP 18 U<|gs (t:=8) U (fun E=> ?_) fun E=> ?_;refine aj 3 U<|bo U (bZ qS U U ag<|aU.ok (A)<|Hn ag)<|bo U (ay U<|(show _=some (bh .u8 (l.getD (l.length - 1) 0).toNat) from by rw [show ((l.length:Int) - 1).toNat=l.length - 1 from by omega]; exact Hm A ag))<|aC 4 U<|cd U (fun C=> ?_) fun C=> ?_;exact az 5 U<|p (rX qS U U ag)<|p (lW nM U (Qf A ((l.length:Int) - 1).toNat)<|by rw [bX]; omega)<|ar 5 U<|aE U<|⟨by show str (l.take ((l.length:Int) - 1).toNat)=_; rw [Dn ag (Mv ag),show ((l.length:Int) - 1).toNat=l.length - 1 from by omega],Md.refl _ _⟩
 exact az 5 U<|p (lW nM U (A)<|U)<|ar 4 U<|aE U<|⟨by show str l=_; rw [za (fun h=>NR ag h.2)],Md.refl _ _⟩
 exact aj 15 U<|p (lW nM U (A)<|U)<|ar 4 U<|aE U<|⟨by show str l=_; rw [za ag],Md.refl _ _⟩
end Go.Hb
namespace Go.Hb.yw
theorem FK {s A:List UInt8} (h:s.take A.length=A):A.length≤s.length:=by grind
theorem PZ {s:List UInt8} (h:decide (1≤s.length∧s.drop (s.length - 1)= [13])=true):gl s=s.take (s.length - 1):=by
 have A:=of_decide_eq_true h;rw [EE ag] at A;exact Dn ag<|by simpa using A.2
theorem P0 {s:List UInt8} (h:decide (1≤s.length∧s.drop (s.length - 1)= [13])=false):gl s=s:=by
 have A:=of_decide_eq_false h;refine za fun C=>A ⟨ag,?_⟩;rw [EE ag,C.2]
theorem MA (c:UInt8):fy c [c]=0:=by unfold fy; simp
theorem zD (s A:List UInt8) (w:ai) (E:s.length≤1099511627776) (hp:A.length≤1099511627776):
 aY aq 121 (bd [str s,str A]) w (fun v w'=>v= .bool (decide (s.take A.length=A))∧Wk w w'):=by
 refine enter func121 U ntmps121 U<|aP 13 U<|gs (t:=10) U (fun C=> ?_) fun C=> ?_;exact aj 3 U<|bo U (rZ u9 U U ag)<|ar 7 U<|aE U<|⟨U,Md.refl _ _⟩
 exact aj 7 U<|p aT<|ar 3 U<|aE U<|⟨by show bB false =_; rw [decide_eq_false (fun h=>by have :=FK h; omega)],Md.refl _ _⟩
theorem P6 (s A:List UInt8) (w:ai) (J:s.length≤1099511627776) (hp:A.length≤1099511627776):
 aY aq 166 (bd [str s,str A]) w (fun v w'=>v=str (sd s A)∧Wk w w'):=by
 refine enter func166 U ntmps166 U<|aP 10 U<|e<|aH (zD s A _ J hp) U ?_;rintro M O ⟨rfl,I⟩;refine aC 2 U<|cb U (fun E=> ?_) fun E=> ?_;have C:=of_decide_eq_true E;have L:=FK C;exact az 5 U<|p (mw u9 U U ag)<|ar 5 U<|aE U<|⟨by show str (s.drop (A.length:Int).toNat)=_; unfold sd; rw [if_pos C]; rfl,I⟩
 have C:=of_decide_eq_false E;exact aB 9 U<|aE U<|⟨by show str s=_; unfold sd; rw [if_neg C],I⟩
theorem P7 (s A:List UInt8) (w:ai) (E:s.length≤1099511627776) (hp:A.length≤1099511627776):
 aY aq 113 (bd [str s,str A]) w (fun v w'=>v=str (sd s A)∧Wk w w'):=by
 refine enter func113 U ntmps113 U<|aP 9 U<|e<|aH (P6 s A _ E hp) U ?_;rintro I J ⟨rfl,C⟩;exact ar 4 U<|aE U<|⟨U,C⟩
theorem Mi (s A:List UInt8) (w:ai) (E:s.length≤1099511627776) (hp:A.length≤1099511627776):
 aY aq 224 (bd [str s,str A]) w (fun v w'=>v= .bool (decide (A.length≤s.length∧s.drop (s.length - A.length)=A))∧Wk w w'):=by
 refine enter func224 U ntmps224 U<|aP 13 U<|gs (t:=10) U (fun C=> ?_) fun C=> ?_;exact aj 6 U<|bo U (mw u9 U U ag)<|ar 7 U<|aE U<|⟨by show bB (decide (s.drop ((s.length:Int) - (A.length:Int)).toNat=A))=_; rw [show ((s.length:Int) - (A.length:Int)).toNat=s.length - A.length from by omega]; exact bv (by constructor <;> intro h <;> first | exact ⟨ag,h⟩ | exact h.2),Md.refl _ _⟩
 exact aj 10 U<|p aT<|ar 3 U<|aE U<|⟨by show bB false =_; rw [decide_eq_false ag],Md.refl _ _⟩
theorem P8 (s:List UInt8) (w:ai) (E:s.length≤1099511627776):
 aY aq 168 (bd [str s,str [13]]) w (fun v w'=>v=str (gl s)∧Wk w w'):=by
 refine enter func168 U ntmps168 U<|aP 10 U<|e<|aH (Mi s [13] _ E aI) U ?_;rintro L M ⟨rfl,C⟩;refine aC 2 U<|cb U (fun A=> ?_) fun A=> ?_;have J:=(of_decide_eq_true A).1;have I:([13]:List UInt8).length=1:=rfl;exact az 8 U<|p (rZ u9 U U ag)<|ar 5 U<|aE U<|⟨by show str (s.take ((s.length:Int) - (([13]:List UInt8).length:Int)).toNat)=_; rw [PZ A,show ((s.length:Int) - (([13]:List UInt8).length:Int)).toNat=s.length - 1 from by simp only [dC]; omega],C⟩
 exact aB 9 U<|aE U<|⟨by show str s=_; rw [P0 A],C⟩
theorem P9 (s:List UInt8) (w:ai) (C:s.length≤1099511627776):
 aY aq 115 (bd [str s,str [13]]) w (fun v w'=>v=str (gl s)∧Wk w w'):=by
 refine enter func115 U ntmps115 U<|aP 9 U<|e<|aH (P8 s _ C) U ?_;rintro E I ⟨rfl,A⟩;exact ar 4 U<|aE U<|⟨U,A⟩
theorem Mr (s:List UInt8) (c:UInt8) (w:ai):
 aY aq 266 (bd [str s,.int .u8 c.toNat]) w (fun v w'=>v= .int .i64 (fy c s)∧Wk w w'):=by
 exact enter func266 U ntmps266 U<|aP 9 U<|p (KA (Eu s c _) U)<|ar 4 U<|aE U<|⟨U,Md.refl _ _⟩
theorem Mq (s:List UInt8) (c:UInt8) (w:ai):
 aY aq 223 (bd [str s,str [c]]) w (fun v w'=>v= .int .i64 (fy c s)∧Wk w w'):=by
 refine enter func223 U ntmps223 U<|aP 19 U<|gs (t:=19) U (fun h=>absurd h<|by simp) fun I=>aC 7 U<|cd U (fun A=> ?_) fun A=> ?_;exact aB 8 U<|aE U<|⟨by show bh .i64 0=_; rw [← A,MA],Md.refl _ _⟩
 refine bD 7 U<|cd U (fun E=> ?_) fun h=>absurd U h;refine az 4 U<|p (kK 0 u9 U U<|by simp)<|e<|aH (Mr s c _) U ?_;rintro v30 J ⟨rfl,C⟩;exact ar 6 U<|aE U<|⟨U,C⟩
theorem KI (s:List UInt8) (c:UInt8) (w:ai) (L:s.length≤1099511627776):
 aY aq 167 (bd [str s,str [c]]) w (fun v w'=>v= .tuple #[str (j5 c s),str (ll c s),.bool (!decide (fy c s < 0))]∧Wk w w'):=by
 refine enter func167 U ntmps167 U<|aP 12 U<|e<|aH (Mq s c _) U ?_;rintro v10 M ⟨rfl,C⟩;refine aC 9 U<|cd U (fun E=> ?_) fun E=> ?_;have I:=Er (c:=c) (l:=s) ag;have J:[c].length=1:=rfl;exact bD 1 U<|fh fun A=>aW [0,1] U A<|cz 2 U (rZ u9 U U ag) A<|aW [3,4,5,6] U A<|cz 7 U (bW<|s.idxOf c+1) A<|cz 8 U (mw u9 U U ag) A<|aW [9,10,11] U A<|hn an<|bg 3 U<|f3 U U U U<|⟨by show kq #[str (s.take (fy c s).toNat),str (s.drop<|s.idxOf c+1),.bool true]=_; unfold j5 ll; rw [if_neg ag,if_neg ag,I.1,decide_eq_false ag]; rfl,Md.trans C (Md.refl _ _).drew⟩
 exact aB 11 U<|f3 U U U U<|⟨by show kq #[str s,str [],.bool false]=_; unfold j5 ll; rw [if_pos ag,if_pos ag,decide_eq_true ag]; rfl,C⟩
theorem KL (s:List UInt8) (c:UInt8) (w:ai) (C:s.length≤1099511627776):
 aY aq 114 (bd [str s,str [c]]) w (fun v w'=>v= .tuple #[str (j5 c s),str (ll c s),.bool (!decide (fy c s < 0))]∧Wk w w'):=by
 refine enter func114 U ntmps114 U<|aP 11 U<|e<|aH (KI s c _ C) U ?_;rintro v9 E ⟨rfl,A⟩;exact ar 9 U<|f3 U U U U<|⟨U,A⟩
end Go.Hb.yw
section
namespace Go.Hb
open Go.Hb.yw
theorem Ma {α:Type} {l:List α} {i:Nat} {d:α} (h:i < l.length):l.getD i d∈l:=by grind
def gM (n:Nat) (ls:List (List UInt8)):List (Nat×List UInt8):=(ls.zipIdx n).map fun q=>(q.2,q.1)
theorem NM (n:Nat) (l:List UInt8) (ls:List (List UInt8)):gM n (l::ls)=(n,l)::gM (n+1) ls:=by simp [gM,List.zipIdx_cons]
theorem NO (n:Nat):gM n []= []:=rfl
theorem Fj (n:Nat) (ls:List (List UInt8)):(gM n ls).map jA=ls:=by
 unfold gM; rw [List.map_map]; exact List.zipIdx_map_fst n ls
theorem NN (n:Nat) (ls:List (List UInt8)):(gM n ls).length=ls.length:=by simp [gM]
def y9 (x:Nat×List UInt8):Array ah:= #[.int .i64 x.1,str x.2]
theorem Fi {ls:List (List UInt8)} {n:Nat} {pre:List (Nat×List UInt8)} {x:Nat×List UInt8} {rest:List (Nat×List UInt8)} (h:gM n ls=pre++x::rest):pre.length < ls.length∧x.1=n+pre.length∧ls=pre.map jA++x.2::rest.map jA:=by
 have E:=congrArg jx h;rw [NN,bp,cn] at E;have C:=congrArg (List.map jA) h;rw [Fj,kA,List.map_cons] at C;refine ⟨ag,?_,C⟩;have A:=congrArg (fun l=>l[pre.length]?) h;simp only [gM,List.getElem?_map,List.getElem?_zipIdx,eH (bf _),sK,List.getElem?_cons_zero] at A;cases h4:ls[pre.length]? with
 | none=>rw [h4] at A; cases A
 | some q=>rw [h4] at A; cases A; rfl
theorem Lr (s:List UInt8) (w:ai):
 aY aq 62 (bd [str s]) w (fun v w'=> ∃ b,v= .func (.func 112) #[] #[aA b]∧w.heap.size≤b∧w'.heap[b]? =some (.cells [str s].toArray 9 (0,0))∧Wk w w'):=by
 exact enter func62 U ntmps62 U<|aP 2 U<|e<|vj U U fun A w1 I E C=>aj 5 U<|p ri<|ar 4 U<|aE U<|⟨A,U,ag,C,E.md⟩
theorem Lp (s:List UInt8) (b:Nat) (aE:s.length≤65536) (l:Nat) (A:List (Nat×List UInt8)→ai→Prop) (w:ai) (h0:A [] w) (aj:∀ pre W,A pre W→W.heap[b]? =some (.cells [str s].toArray 9 (0,0))) (bK:∀ pre C M,A pre C→Wk C M→A pre M) (an:∀ pre x rest C,(gM 1<|cx s)=pre++x::rest→A pre C→YieldAt Fence.wide 0 aq l (y9 x) C fun e W'=>e= .returned (.bool true)∧A (pre++ [x]) W'):
 aY aq 112 (bd [.func (.yield l) #[] #[],aA b]) w (fun v w'=>A (gM 1<|cx s) w'):=by
 have Z:=aj _ _ h0;refine enter func112 U ntmps112 U<|aP 3 U<|p (ay U<|(eC Z).trans U)<|aC 4 U<|cd U (fun h=>absurd h ag) fun av=>az 4 U<|p (ay U<|(eC Z).trans U)<|e<|aH (P7 s n8 _ ag aI) U ?_;rintro v12 aJ ⟨rfl,ab⟩;refine aC 9 U<|lp (fun O L J=> ∃ (r:List UInt8) (pre:List (Nat×List UInt8)),(r.length≤s.length)∧((gM 1<|cx s)=pre++gM (pre.length+1) (dU [] r))∧(A pre J)∧(pre.length≤s.length)∧(L 4=aQ (pre.length+1))∧(Sl L [(0,.func (.yield l) #[] #[]),(3,str r)])∧(r.length=O)) _ ⟨jT s,[],(xx s),U,(bK _ _ _ h0 ab),(Nat.zero_le _),(iv<|by first | rfl | (rw [bp]; rfl)),U,U⟩ ?_;rintro O L J ⟨r,pre,aD,aa,V,aw,am,al,rfl⟩;refine bG al<|fx 4 am<|bV 7 U<|cd U (fun E=> ?_) fun E=> ?_;have I:(gM 1<|cx s)=pre++(pre.length+1,gl (j5 10 r))::gM (pre.length+2) (dU []<|ll 10 r):=by rw [aa,Nc E,NM]
 have ax:=KJ (c:=10) E;have au:=KH 10 r;refine az 7 U<|e<|aH (KL r 10 _ ag) U ?_;rintro aF aK ⟨rfl,ac⟩;refine p mv<|aC 15 U<|FY<|py U (pC (.func (.yield l) #[] #[]) U)<|py U (pC (aQ<|pre.length+1) U)<|py U mv<|ey U<|aH (P9 (j5 10 r) _ ag) U ?_;rintro aG aL ⟨rfl,ad⟩;have ae:=bK _ _ _ V<|Md.trans ac ad;refine HL U U (an pre (pre.length+1,gl (j5 10 r)) _ _ I ae) fun aM ah=> ?_;refine py U (no U)<|Fe ?_;exact ee 1 U<|cf (U)<|az 5 U<|p (bW<|pre.length+2)<|ar 2 U<|tn<|⟨_,ag,ll 10 r,pre++ [(pre.length+1,gl (j5 10 r))],ag,(by rw [I,iC,bp]; rfl),ah,(by have ao:=Fi I; have ap:=q7 s; rw [bp,dC]; omega),(iv<|by first | rfl | (rw [bp]; rfl)),U,U⟩
 refine aB 2 U<|cg<|bg 1 U<|f0 U ?_;show A (gM 1<|cx s) J;have ak:r= []:=Decidable.of_not_not E;rw [aa,ak,zX,NO,kr];exact V
theorem Lq (s:List UInt8) (b:Nat) (I:s.length≤65536):BV aq 112 #[.pointer (some ⟨b,0,none⟩)] y9 (gM 1<|cx s) (fun W=>W.heap[b]? =some (.cells [str s].toArray 9 (0,0))):=
 fun l A W h0 C bK J=>Calls.mono (Lp s b I l A W h0 C bK J) fun e w' ⟨v,he,E⟩=>⟨⟨v,he⟩,E⟩
end Go.Hb
end
section
namespace Go.Hb
open Go.Hb.yw
set_option maxHeartbeats 1000000 in
theorem OD (s:List UInt8) (w:ai) (ce:s.length≤1048576):
 aY aq 28 (bd [str s]) w (fun v w'=>(∃ a,v= .tuple #[a,.int .i64 (if 65536 < s.length then 10 else 0)]∧(if 65536 < s.length then a= .slice none 0 0 else ∃ vs,b9 w' w.heap.size 79 2 a (et s).length (mr vs)∧fS w' w.heap.size 9 vs (et s)))∧Wk w w'):=by
 refine Dy [] func28 U ntmps28 U ?_;refine eK<|eV<|kI 4 U<|cD<|eK<|eK<|eV<|kI 5 U<|cD<|eV<|cd U (fun bF=> ?_) fun bF=> ?_;refine kI 7 U<|prt<|LO U U U ?_;have ab:65536 < s.length:=ag;exact ⟨⟨.slice none 0 0,by show kq #[.slice none 0 0,.int .i64 10]=_; rw [if_pos ab],by rw [if_pos ab]⟩,Md.refl _ _⟩;refine kI 1 U<|cD<|eK<|eV<|aP 1 U<|e<|fv Q9 fun au b1 b6 bB a0=>ar 1 U<|cD<|eK<|eK<|eV<|aP 2 U<|e<|aH (Lr s _) U ?_;rintro cj aE ⟨aG,rfl,b4,aZ,a2⟩;have ad:Wk w aE:=Md.trans bB.md a2;have cf:au < b1.heap.size:=(cr.1 a0).1;have bC:=a2.ax a0;have b5:=(cr.1 aZ).1;have ab:s.length≤65536:=ag;refine ar 1 U<|cD ?_;apply Oy (y9) (gM 1<|cx s) (fun W=>W.heap[aG]? =some (.cells [str s].toArray 9 (0,0))) (fun pre M=> ∃ v vs,M.heap[au]? =some (.cells [v].toArray 75 (0,0))∧b9 M aE.heap.size 79 2 v (iL 1<|pre.map jA).length (mr vs)∧fS M aE.heap.size 9 vs (iL 1<|pre.map jA)∧M.heap[aG]? =some (.cells [str s].toArray 9 (0,0))∧aE.heap.size≤M.heap.size∧Wk w M) rfl J1 (fun _=>rfl) (Lq s aG ab) (⟨.slice none 0 0,[],bC,eL _ _ _ _,fS.nil _ _ _,aZ,bf _,ad⟩) (fun _ _ ⟨_,_,_,_,_,h,_⟩=>h) (fun pre A C F ⟨v,vs,av,bj,bm,bn,bq,bo⟩ hm ak=>⟨v,vs,xo av hm ak,G1 bj hm ak,bm.md hm (fun k E cur z=>(ak k E).2 cur _ z),xo bn hm ak,cQ bq hm.size,G2 bo hm ad.size ak⟩);intro l x M K ae;exact kI 8 U<|tn<|ae;intro l pre x rest M bU aM;obtain ⟨v,vs,aS,an,aw,aQ,aA,aL⟩:=aM;obtain ⟨cc,bW,bY⟩:=Fi bU;have ca:=q7 s;have cg:=(cr.1 aQ).1;have ch:x.2.length≤s.length:=zT<|by rw [bY]; simp
 have b8:=tt x.2 [];have bO:=AF (pre.map jA) 1;rw [qo] at bO;refine aP 3 U<|p mv<|e<|aH (LV x.2 _ ag) U ?_;rintro ck a9 ⟨am,bv⟩;obtain ⟨O,aJ,rfl⟩:=de am;have a3:=(du am).2;have bH:=(du am).1;refine p aT<|aC 2 U ?_;refine ei (fun bc aF=> ∃ (n V:Nat),(n≤(bN [] x.2).length)∧(n≤V)∧(lA (bN [] x.2)=(bN [] x.2).take n)∧(Wk a9 aF)∧(Sl bc [(4,.pointer (some ⟨au,0,none⟩)),(5,.int .i64 x.1),(7,.slice O n V)])) ?_ ?_;refine aP 2 U<|p mv<|aC 5 U<|lp (fun aX bh bb=> ∃ (i:Nat),(i≤(bN [] x.2).length)∧(∀ q,q < i→tS ((bN [] x.2).getD q [])=false)∧(Wk a9 bb)∧(Sl bh [(4,.pointer (some ⟨au,0,none⟩)),(5,.int .i64 x.1),(7,.slice O (bN [] x.2).length aJ),(19,.slice O (bN [] x.2).length aJ),(20,.int .i64 (bN [] x.2).length),(21,.int .i64 i)])∧((bN [] x.2).length - i=aX)) _ ⟨0,ag,(fun q bM=>by omega),(Md.refl _ _),U,U⟩ ?_;rintro aX bh bb ⟨i,hi,aW,ah,bT,rfl⟩;refine bG bT<|bV 6 U<|cd U (fun bI=> ?_) fun bI=> ?_;refine az 7 U<|p (bZ dJ U U ag<|aU.ok (a3.wk ah)<|ef ag)<|p (ay U<|bQ.get (i:=i) (a3.wk ah) ag)<|aj 7 U<|p (kK 0 u9 U U<|uK.2 (zo _ _ _<|Ma ag).1)<|aC 3 U<|cd U (fun bJ=> ?_) fun bJ=> ?_;exact az 5 U<|p (CG dJ U U U ag)<|ar 6 U<|te _<|bg 1 U<|tn<|⟨i,i,hi,(bf _),(vR hi aW<|.inr<|decide_eq_true ag),ah,U⟩
 exact aB 7 U<|tn<|⟨_,ag,i+1,ag,(fun q bM=>by rcases dN q i with h | h <;> first | exact aW q h | (rw [show q=i by omega]; exact decide_eq_false ag)),ah,U,U⟩
 exact aB 2 U<|te _<|bg 1 U<|tn<|⟨(bN [] x.2).length,aJ,(bf _),bH,(by have h:=vR hi aW (.inl ag); rwa [show i=(bN [] x.2).length from by omega] at h),ah,U⟩
 rintro bc aF ⟨n,V,hn,bL,a5,aK,bS⟩;refine bG bS ?_;have I:Wk M aF:=Md.trans bv aK;have aO:=I.ax aS;have a7:=aR an I;have a8:=aw.wk I;have a4:=I.ax aQ;have a1:Wk w aF:=Md.trans aL I;refine bD 7 U<|cd U (fun bK=> ?_) fun bK=> ?_;have ao:iJ x.2 (1 +pre.length)= [(x.1,(bN [] x.2).take n)]:=by unfold iJ; rw [a5,if_neg (fun h=>by have h:=congrArg jx h; rw [bX,fq] at h; omega),← bW]
 refine az 1 U<|p (ay U<|(eC aO).trans U)<|aj 2 U<|p (dE (ps:= [(0,.int .i64 x.1),(1,.slice O n V)]) (L:= [.int .i64 x.1,.slice O n V]) PL U<|U)<|e<|lU GM U U U fun bi ba aN J br=> ?_;have bt:aD ba.heap bi [.int .i64 x.1,.slice O n V]:=br;have bx:Wk w ba:=Md.trans a1 J.md;have ac:=aR a7 J.md;have aN:=J.md.ax aO;refine e<|ap GM (ac) U (by have :=J.size; have :=I.size; omega) U (aU.dB bt) (U) (U) ag ag fun b0 cm aV Z ci b7=> ?_;have bz:=Wk.own bx ac Z ad.size;have bE:=Z.ax (J.md.ax a4) fun h=>by have :=da ac h; omega
 have al:=Z.ax aN fun h=>rA ac aN aI h;have bP:=(a8.wk J.md).md Z<|hH ac aI;have a6:=cB (aR (aR am aK) J.md) Z fun k E=>rC (aR (aR am aK) J.md) ac aI E;refine e<|fj KX U U (FH aV) al (by simp) fun b2 aa bu=> ?_;have bA:Wk w b2:=Md.trans' bz aa fun k E h=>by omega
 have bR:=(bP.md aa<|Kc al aI).snoc (n:=x.1) (r:=(bN [] x.2).take n) (v:= .slice O n V)<|by rw [bX,Nat.min_eq_left hn,List.map_take]; exact (Tg.oh<|nh (cB a6 aa fun k E h=>rA a6 al aI<|h ▸ E) aA).clip bL
 exact ar 2 U<|⟨(fR.wk I).trans ((fR.wk J.md).trans<|(fR.md Z<|tP ac).trans<|fR.md aa fun k E=>⟨_,_,_,E ▸ al⟩),b0,vs++ [(x.1,.slice O n V)],bu,(by rw [kA,show [x].map jA= [x.2] from U,kQ,qo,ao]; rw [bp,AJ]; exact cB aV aa fun k E h=>rA aV al aI<|h ▸ E),(by rw [kA,show [x].map jA= [x.2] from U,kQ,qo,ao]; exact bR),aa.ax bE (fun h=>by omega),cQ aA (cQ I.size<|cQ J.md.size<|cQ Z.size aa.size),bA⟩
 have ao:iJ x.2 (1 +pre.length)= []:=by unfold iJ; rw [a5,if_pos (by rw [show n=0 by omega]; rfl)]
 exact aB 2 U<|⟨fR.wk I,v,vs,aO,(by rw [kA,show [x].map jA= [x.2] from U,kQ,qo,ao]; rw [kr]; exact a7),(by rw [kA,show [x].map jA= [x.2] from U,kQ,qo,ao]; rw [kr]; exact a8),a4,cQ aA I.size,a1⟩
 intro D M b3 aM ae;obtain ⟨v,vs,aS,an,aw,aQ,aA,aL⟩:=aM;have cb:=(cr.1 ae).1;refine cD<|eK<|eV<|aP 1 U<|p (ay U<|(eC aS).trans U)<|p aT<|ar 2 U<|cD<|AG<|LP U U U ae ?_;have ab:¬65536 < s.length:=ag;rw [Fj] at an aw;exact ⟨⟨v,by show kq #[v,.int .i64 0]=_; rw [if_neg ab],by rw [if_neg ab]; exact ⟨vs,nh (cB an (pB _ _ _) fun k E h=>by obtain ⟨c,e,z,av⟩:=tP an k E; rw [h,ae] at av; cases av) ad.size,(aw.md (pB _ _ _) fun k E cur z=>by rw [E,ae]; simp).mono ad.size⟩⟩,Md.trans' aL (pB _ _ _) fun k E h=>by have :=ad.size; omega⟩
end Go.Hb
end
section
namespace Go.Hb.qC
open Go.Hb.jD Go.Hb.j1 Go.Hb.nJ
def uW (t:List UInt8) (A:ba) (w:ai) (v:ah) (w':ai):Prop :=((∃ g B bl bs,gZ t= .ok g∧v= .tuple #[.pointer (some ⟨bl,0,none⟩),.agg #[bh .i64 0,.int .i64 0,.int .i64 0]]∧w.heap.size≤B∧cR w' B bl bs (.slice none 0 0) A g (et t).length [] [])∨
 (∃ l e:Nat,gZ t= .error (l,e)∧v= .tuple #[.pointer none,.agg #[bh .i64 0,.int .i64 (l:Nat),.int .i64 (e:Nat)]]))∧Wk w w'
theorem FC {rs:List (Nat×List (List UInt8))} {l e:Nat} :∀ {k:Nat},fD rs k= .error (l,e)→e≠0
 | 0,h=>by cases h
 | k+1,h=>by
   rw [fD] at h;split at h
   · rename_i h0; cases h; exact FC h0
   · split at h
     · rename_i A; cases h; exact (zb A).1
     · repeat' split at h
       all_goals first | (cases h; decide) | cases h
theorem FA {t:List UInt8} {l e:Nat} (h:gZ t= .error (l,e)):e≠0:=by
 unfold gZ at h;split at h
 · cases h; decide
 · exact FC h
theorem NY (t:List UInt8) (w:ai):
 aY aq 9 (bd [.pointer none,str t]) w (fun v w'=>v= .tuple #[.pointer none,.agg #[bh .i64 0,.int .i64 0,.int .i64 1]]∧Wk w w'):=by
 refine enter func9 U ntmps9 U<|aP 3 U<|e<|fv xM fun C ac V A J=> ?_;have ab:=A.size;refine aj 5 U<|p mv<|p (gW pO U U)<|aC 2 U<|ct (U)<|az 2 U<|p (dE (ps:= [(2,.int .i64 1)]) (L:= [.int .i64 0,.int .i64 0,.int .i64 1]) pM U<|U)<|aj 1 U<|e<|fk qK U U U U J (by simp) fun O M E=> ?_;have I:aD O.heap C [bh .i64 0,.int .i64 0,.int .i64 1]:=⟨_,E⟩
 exact ar 4 U<|nR U np (jn (cs:= [bh .i64 0,.int .i64 0,.int .i64 1]) U oV U fun j Z=>I.aG j)<|⟨U,A.md.trans' M fun k aa h=>by omega⟩
theorem N0 (ad:ba) (t:List UInt8) (w:ai) (cn:t.length≤1048576):
 aY aq 9 (bd [.pointer (some ad),str t]) w (uW t ad w):=by
 have cm:=F5 t;refine enter func9 U ntmps9 U<|aP 3 U<|e<|fv xM fun Z cb ci am bz=> ?_;have ct:=am.size;refine aj 5 U<|p mv<|p (gW pO U U)<|aC 2 U<|cf (U)<|az 4 U<|p mv<|e<|aH (OD t cb ag) U ?_;rintro cx V ⟨⟨cc,rfl,aX⟩,hE19⟩;have cp:=hE19.size;have ao:V.heap[Z]? =some (.cells [bh .i64 0,.int .i64 0,.int .i64 0].toArray 35 (0,0)):=Wk.ax hE19 bz;have cj:=(cr.1 ao).1;refine p mv<|aj 2 U<|p aT<|aC 10 U<|cd U (fun aJ=> ?_) fun aJ=> ?_;have ac:65536 < t.length:=Decidable.byContradiction fun h=>aJ<|by rw [if_neg h]
 refine az 3 U<|p (dE (ps:= [(2,.int .i64 (if 65536 < t.length then 10 else 0))]) (L:= [.int .i64 0,.int .i64 0,.int .i64 (if 65536 < t.length then 10 else 0)]) pM U<|U)<|aj 1 U<|e<|fk qK U U U U ao (by simp) fun b7 bE bq=> ?_;have br:aD b7.heap Z [bh .i64 0,.int .i64 0,.int .i64 (if 65536 < t.length then 10 else 0)]:=⟨_,bq⟩
 refine ar 4 U<|nR U np (jn (cs:= [bh .i64 0,.int .i64 0,.int .i64 (if 65536 < t.length then 10 else 0)]) U oV U fun j a7=>br.aG j) ?_;refine ⟨.inr ⟨0,10,if_pos ac,?_⟩,(am.md.trans hE19).trans' bE fun k ap h=>by omega⟩;rw [if_pos ac]; rfl;have ac:¬65536 < t.length:=fun h=>aJ<|by rw [if_pos h]; decide
 rw [if_neg ac] at aX;obtain ⟨b5,a8,b3⟩:=aX;obtain ⟨ra,rc,rfl⟩:=de a8;have a1:=(du a8).2;have aE:=b3.all;refine az 4 U<|p mv<|e<|aH (Fb (some ad) V) U fun cy cA bL=> ?_;obtain ⟨ce,bl,bs,bQ,rfl,cv,cw,bJ,a2⟩:=bL.resolve_left fun ⟨h,_⟩=>by cases h
 cases bQ;have cq:=a2.size;refine p aT<|aj 5 U<|p mv<|aC 5 U<|lp (fun aV bj av=> ∃ (i:Nat) (g:List UInt8→Option Int),(i≤(et t).length)∧(fD (et t) i= .ok g)∧(cR av V.heap.size bl bs (.slice none 0 0) ad g i [] [])∧(Wk V av)∧(Sl bj [(5,aA Z),(8,aA bl),(28,.slice ra (et t).length rc),(29,aQ ((et t).length)),(30,aQ i)])∧((et t).length - i=aV)) _ ⟨0,(fun _=>none),ag,U,bJ,a2,U,U⟩ ?_;rintro aV bj av ⟨i,g,hi,ak,E,M,b1,rfl⟩;refine bG b1<|bV 6 U<|cd U (fun bO=> ?_) fun bO=> ?_;refine bD 5 U ?_;obtain ⟨au,J,hr⟩:∃ au J,(et t).getD i (0,[])=(au,J):=⟨_,_,rfl⟩
 have bb:(et t)[i]? =some (au,J):=by rw [← hr,cW,cI ag]; rfl
 have aM:=F6<|kX bb;obtain ⟨q,a9⟩:∃ q,b5[i]? =some q:=⟨_,cI<|by rw [aE.1]; omega⟩
 obtain ⟨bY,fa,aw,b0,bS⟩:=aE.2 i q _ a9 bb;obtain ⟨O,b6⟩:=q;obtain rfl :O=au:=bY;obtain rfl :b6= .slice fa J.length aw:=b0;have ck:J.length≤t.length+1:=aM.2.2.2.1;refine az 1 U<|p (bZ LF U U ag<|aU.ok (a1.wk M)<|rP<|by rw [aE.1]; omega)<|p (fi Jx U (U)<|rQ (a1.wk M) a9)<|e<|fv Ra fun aR cz ch a4 bp=> ?_;have co:=a4.size;refine e<|fk KY U U U U bp (by simp) fun aO bH bA=> ?_;have a0:aD aO.heap aR [bh .i64 (O:Nat),.slice fa J.length aw]:=⟨_,bA⟩
 have ab:Wk av aO:=Md.trans' a4.md bH fun k ap h=>by omega
 have cu:=ab.size;refine aj 5 U<|p (ay U<|a0.aG 1)<|e<|aH (LA fa aw J aO (bS.wk<|M.trans ab) (fun x aN=>(aM.2.2.2.2 x aN).1) (fun x aN=>by have :=(aM.2.2.2.2 x aN).2; omega) ag) U ?_;rintro v37 ca ⟨bc,ae⟩;obtain ⟨x,o,aS,bR,aZ⟩:=Ly J;rw [bR] at bc;subst bc;have A:=E.wk<|ab.trans ae;refine p mv<|aC 8 U ?_;refine ei (fun bm bi=> ∃ (C:Nat),((C≠0∧fD (et t) (i+1)= .error (O,C))∨(C=0∧eN J= .ok (x,o)∧g x=none∧i≠500))∧(bi=ca)∧(Sl bm [(5,aA Z),(8,aA bl),(10,aA aR),(11,str x),(12,.int .i64 o),(13,aQ C),(28,.slice ra (et t).length rc),(29,aQ ((et t).length)),(30,aQ i)])) ?_ ?_;refine bV 8 U<|cd U (fun aK=> ?_) fun aK=> ?_;have aa:=aZ.resolve_left fun h=>aK<|by rw [h.1]; rfl
 exact aB 2 U<|tn<|⟨aS,(.inl ⟨aa.1,by rw [FB ak (by rw [hr]; exact aa.2),hr]⟩),U,U⟩
 have aa:=(aZ.resolve_right fun h=>aK ag).2;refine az 5 U<|p (ay U<|A.obj.aG 1)<|aj 1 U<|p (tC gE sn kL (A.dR.od) U U (⟨_,U⟩)<|vX g x)<|aC 4 U<|cd U (fun al=> ?_) fun al=> ?_;have I:g x≠none:=fun h=>al<|by rw [h]; rfl
 exact aB 4 U<|tn<|⟨112,(.inl ⟨aI,by rw [FF ak (by rw [hr]; exact aa) I,hr]⟩),U,U⟩
 have I:g x=none:=by
  cases I:g x with
  | none=>rfl
  | some u=>rw [I] at al; simp only [Option.getD_some,ne_eq,mD] at al; subst al; exact absurd I<|E.nz x
 refine az 5 U<|p (ay U<|A.obj.aG 1)<|p (vW gE U U A.dR A.eT)<|aC 4 U<|cd U (fun bP=> ?_) fun bP=> ?_;exact aB 4 U<|tn<|⟨280,(.inl ⟨aI,by rw [FE ak (by rw [hr]; exact aa) I ag,hr]⟩),U,U⟩
 exact aB 2 U<|tn<|⟨aS,(.inr ⟨ag,aa,I,ag⟩),U,U⟩
 rintro bm bi ⟨C,aW,b4,b2⟩;refine bG b2 ?_;subst b4;refine bD 7 U<|cd U (fun aL=> ?_) fun aL=> ?_;have bn:=aW.resolve_right fun h=>aL<|by rw [h.1]; rfl
 refine bD 1 U ?_;have bM:=Wk.ax ((M.trans ab).trans ae) ao;refine zZ 5 fun ah=>nX [0] U ah<|pF 1 U ah ((ae.B a0).aG 0)<|nX [2] U ah<|Ng 3 U (dE (ps:= [(1,aQ O),(2,aQ C)]) (L:= [.int .i64 0,aQ O,aQ C]) pM U<|U) ah<|nX [4] U ah<|pn 5 U an an<|fk qK U U U U bM (by simp) fun b8 bF bt=> ?_;have bu:aD b8.heap Z [bh .i64 0,aQ O,aQ C]:=⟨_,bt⟩
 refine pq an<|bg 5 U<|tr<|bg 2 U<|nR U np (jn (cs:= [bh .i64 0,aQ O,aQ C]) U oV U fun j a7=>bu.aG j) ?_;refine ⟨.inr ⟨O,C,?_,U⟩,((am.md.trans hE19).trans<|(M.trans ab).trans ae).trans' (Md.gI bF) fun k ap h=>by omega⟩;unfold gZ;rw [if_neg ac];exact tN bn.2 ag;obtain ⟨_,bo,I,bT⟩:=aW.resolve_left fun h=>aL ag;have a6:=FD ak (by rw [hr]; exact bo) I bT;obtain ⟨bC,bI,bX⟩:=wO a6;refine az 6 U<|p (ay U<|A.obj.aG 1)<|aj 2 U<|e<|xy (kx:=str x) (v:= .int .i64 o) gE kL A.dR U U U ⟨_,U⟩ fun bf a3 a5=> ?_;rw [q9] at a5;have bU:=A.lo;have bB:Wk V bf:=((M.trans ab).trans ae).trans' a3 fun k ap h=>by omega
 have bK:cR bf V.heap.size bl bs (.slice none 0 0) ad (fun y=>if y=x then some o else g y) (i+1) [] []:=⟨a3.B A.obj (fun h=>by subst h; exact A.dR.fA A.obj.choose_spec),a5,bI,bX,bC.nz,A.lo,eL _ _ _ _,A.kV,trivial⟩
 exact aj 4 U<|p (bW<|i+1)<|ar 2 U<|tn<|⟨_,ag,i+1,(fun y=>if y=x then some o else g y),ag,a6,bK,bB,U,U⟩
 refine aB 2 U<|cg<|ee 3 U ?_;have bN:=Wk.ax M ao;refine az 2 U<|p (dE (ps:= []) (L:= [.int .i64 0,.int .i64 0,.int .i64 0]) pM U<|U)<|aj 1 U<|e<|fk qK U U U U bN (by simp) fun b9 aF bv=> ?_;have bx:aD b9.heap Z [bh .i64 0,.int .i64 0,.int .i64 0]:=⟨_,bv⟩
 have bU:=E.lo;refine ar 3 U<|nR U np (jn (cs:= [bh .i64 0,.int .i64 0,.int .i64 0]) U oV U fun j a7=>bx.aG j) ?_;obtain rfl :i=(et t).length:=ag;refine ⟨.inl ⟨g,V.heap.size,bl,bs,?_,U,ag,⟨aF.B E.obj ag,E.dR.md aF ag,E.eT,E.nB,E.nz,E.lo,eL _ _ _ _,E.kV,trivial⟩⟩,((am.md.trans hE19).trans M).trans' aF fun k ap h=>by omega⟩;unfold gZ;rw [if_neg ac];exact ak
end Go.Hb.qC
end
section
namespace Go.Hb.qD
open Go.Hb.jD Go.Hb.j1 Go.Hb.nJ Go.Hb.ez Go.Hb.lP
theorem DB (a b c a' b' c':Int) (w:ai):(binOp .eql 35 (.agg [.int .i64 a,.int .i64 b,.int .i64 c].toArray)<|.agg [.int .i64 a',.int .i64 b',.int .i64 c'].toArray).run aq w= .ok (.bool<|decide (a=a'∧b=b'∧c=c')) w:=by
 have J:=underlying3;have L:=underlying3;have u3:=underlying33;have I:aq.underlying 35=some (.struct<|aq.fieldsOf 35):=an;have hp:aq.stoodInHeld 35=false :=an;rw [run_eql_struct,show (10000:Nat)=9999 +1 from rfl,run_equalIn_agg w 9999 35 _ _ I hp];simp only [Program.fieldsOf,underlying35];go_simp;by_cases A:a=a' <;> by_cases C:b=b' <;> by_cases E:c=c' <;> simp [A,C,E]
section
variable {N:Fm} {σ:Nat→ah} {w:ai} {dst:Option Nat} {ty:TypeId} {pos :String} {af:Array Edge} {g:Option (Nat×Bool)} {x y:Operand}
theorem DC {I:TypeId} {a b c a' b' c':Int} (C:ev N σ x= .agg [.int .i64 a,.int .i64 b,.int .i64 c].toArray) (E:ev N σ y= .agg [.int .i64 a',.int .i64 b',.int .i64 c'].toArray):
 (execOp (ev N σ) ⟨dst,.binOp .eql 35 x y I,ty,pos,af,g⟩).run aq w= .ok (.value<|.bool<|decide (a=a'∧b=b'∧c=c')) w:=by
 have hm:aq.eqGuardType aq.depth 35=false :=an;have A:=run_eqGuard_agg w .eql 35 x y [.int .i64 a,.int .i64 b,.int .i64 c].toArray [.int .i64 a',.int .i64 b',.int .i64 c'].toArray hm;have he:=DB a b c a' b' c' w;simp only [execOp,C,E,ie,A,he,gS,jY]
theorem NB {I:TypeId} {a b c a' b' c':Int} (C:ev N σ x= .agg [.int .i64 a,.int .i64 b,.int .i64 c].toArray) (E:ev N σ y= .agg [.int .i64 a',.int .i64 b',.int .i64 c'].toArray):
 (execOp (ev N σ) ⟨dst,.binOp .neq 35 x y I,ty,pos,af,g⟩).run aq w= .ok (.value<|.bool<|decide (¬(a=a'∧b=b'∧c=c'))) w:=by
 have hm:aq.eqGuardType aq.depth 35=false :=an;have A:=run_eqGuard_agg w .neq 35 x y [.int .i64 a,.int .i64 b,.int .i64 c].toArray [.int .i64 a',.int .i64 b',.int .i64 c'].toArray hm;have he:(binOp .neq 35 (.agg [.int .i64 a,.int .i64 b,.int .i64 c].toArray)<|.agg [.int .i64 a',.int .i64 b',.int .i64 c'].toArray).run aq w= .ok (.bool<|decide (¬(a=a'∧b=b'∧c=c'))) w:=by
  have h:=DB a b c a' b' c' w;simp only [binOp,ie] at h ⊢;generalize ((Op.equal 35 (.agg [.int .i64 a,.int .i64 b,.int .i64 c].toArray)<|.agg [.int .i64 a',.int .i64 b',.int .i64 c'].toArray).run aq w)=r at h ⊢;cases r with
  | ok q w2=>
    simp only [gS,jY,Result.ok.injEq,Value.bool.injEq] at h ⊢;rw [h.1];exact ⟨(decide_not).symm,h.2⟩
  | halt q w2=>simp [Result.andThen] at h
 simp only [execOp,C,E,ie,A,he,gS,jY]
end
def lk (g:List UInt8→Option Int) (l:List bH) (x:List UInt8):Bool:=if (g x).getD 0=1 then true else if (g x).getD 0= -1 then false else j3 l x
theorem Kv {g:List UInt8→Option Int} {l:List bH} {x:List UInt8} (h:(g x).getD 0=0):lk g l x=j3 l x:=by
 unfold lk; rw [h,if_neg aI,if_neg aI]
theorem Ku {g:List UInt8→Option Int} {l:List bH} {x:List UInt8} (A:eA g) (h:(g x).getD 0≠0):lk g l x=decide ((g x).getD 0 > 0):=by
 cases hx:g x with
 | none=>rw [hx] at h; exact absurd rfl h
 | some o=>
   unfold lk;rw [hx];rcases A.val x o hx with rfl | rfl <;> rfl
theorem pb {α:Type} {l:List α} {n i:Nat} {d:α} (h:i < n):(l.take n).getD i d=l.getD i d:=by
 rw [cW,List.getElem?_take,if_pos h,cW]
theorem sN.Qj {g0:List UInt8→Option Int} {hist gs:List (List UInt8→Option Int)} {g:List UInt8→Option Int} (h:kB g0 hist gs g):kB g0 (hist.take<|hist.length - 1) (gs.take<|hist.length - 1 +1) (gs.getD (hist.length - 1) dG):=by
 have I:=h.len;have C:(hist.take<|hist.length - 1).length=hist.length - 1:=by rw [bX]; omega
 have E:(gs.take<|hist.length - 1 +1).length=hist.length - 1 +1:=by rw [bX]; omega
 refine ⟨ag,by rw [pb ag]; exact h.zero,by rw [C,pb ag],fun k A=> ?_,fun k A=> ?_⟩
 · rw [C] at A;rw [pb A,pb ag,pb ag];exact h.back k ag
 · rw [E] at A;rw [pb A];exact h.ok k ag
theorem jc.not {w:ai} {B bl bs n k:Nat} {vb:ah} {A:ba} {g:List UInt8→Option Int} {hist:List (List UInt8→Option Int)} {cs:List ah} (h:cR w B bl bs vb A g n hist cs) (C:w.heap.size≤k):¬jc bl bs vb k:=by
 rintro (rfl | rfl | hb)
 · have :=h.obj.lt; omega
 · have :=h.dR.lt; omega
 · have :=(da h.back hb).2; omega
theorem Kj (B bl bs:Nat) (vb:ah) (J:ba) (g:List UInt8→Option Int) (n:Nat) (hist:List (List UInt8→Option Int)) (cs:List ah) (I kb:Nat) (b:eS) (s x:List UInt8) (w:ai) (L:cR w B bl bs vb J g n hist cs) (Z:J=⟨kb,0,none⟩) (M:ez w I kb b s) (V:iZ (cU b 0)) (aa:x.length≤4294967296):
 aY aq 20 (bd [aA bl,str x]) w (fun v w'=>v= .bool (lk g (cU b 0) x)∧Wk w w'):=by
 subst Z;refine enter func20 U ntmps20 U<|aP 10 U<|e<|aH (l9 B bl bs vb ⟨kb,0,none⟩ g n hist cs x w L) U ?_;rintro ad ab ⟨rfl,A⟩;refine aC 9 U<|cd U (fun C=> ?_) fun C=> ?_;exact aB 8 U<|aE U<|⟨by unfold lk; rw [if_pos C]; rfl,A⟩
 refine bD 6 U<|cd U (fun E=> ?_) fun E=> ?_;exact aB 8 U<|aE U<|⟨by unfold lk; rw [if_neg C,if_pos E]; rfl,A⟩
 refine az 6 U<|p (pD u32 U U)<|aj 1 U<|gb (t:=14) U (fun ac=> ?_) fun h=>absurd ((U).symm.trans h) dw;refine aj 3 U<|bo U (ay U<|(L.wk A).obj.aG 0)<|aj 1 U<|eg U U U<|aH (Kp I kb b s x ab (M.wk A) V aa) U ?_;rintro v20 ae ⟨rfl,O⟩;exact ar 5 U<|aE U<|⟨by unfold lk; rw [if_neg C,if_neg E]; rfl,A.trans O⟩
theorem Hg (ws:List (List UInt8)) (A:Option ba) (E:Nat) (w:ai) (L:bQ w.heap A ws) (Z:ws.length≤137438953472):
 aY aq 13 (bd [.slice A ws.length E]) w (fun v w'=>Wk w w'∧b9 w' w.heap.size 9 1 v ws.length (ws.map str)∧(ws= []→v= .slice none 0 0)):=by
 refine enter func13 U ntmps13 U<|aP 8 U<|e<|ap eu (eL w w.heap.size 9 1) U ag U (L) (by simp) (by rw [List.all_map]; exact List.all_eq_true.2 fun _ _=>rfl) ag ag fun v4 O C J M V=> ?_;have I:Wk w O:=J.mono fun k _ h=>absurd (show (none:Option Nat)=some k from h)<|by simp
 refine p aT<|ar 3 U<|aE U ?_;rw [dx,oF] at C;exact ⟨I,C,fun h=>M.2 ⟨U,by rw [h]; rfl⟩⟩
end Go.Hb.qD
end
section
namespace Go.Hb
open Go.Hb.kC
theorem MY {s:List UInt8} {a i:Nat} (h:a+i < s.length) (hb:(s.getD (a+i) 0).toNat < 128):(s.getD (a+i) 0).toNat=eW ((s.drop<|a+i).take<|i+1 - i):=by
 rw [show i+1 - i=1 by omega,drop_cons 0 h];show _=eW [s.getD (a+i) 0];rw [eW,eW]; omega
theorem MX {i b:Nat} (hi:i≤9) (hb:b < 128) (J:¬(i=9∧1 < b)):(b+1)*128 ^ i≤18446744073709551616:=by
 have I:(128:Nat) ^ 9=9223372036854775808:=aI;have E:(128:Nat) ^ 8=72057594037927936:=aI;rcases dN i 9 with h | h
 · have A:(128:Nat) ^ i≤128 ^ 8:=sJ aI ag;have C:=Nat.mul_le_mul (show b+1≤128 by omega) A;omega
 · obtain rfl :i=9:=ag;have C:=qw (128 ^ 9) (show b+1≤2 by omega);omega
theorem MW {s:List UInt8} {a i k:Nat} (h:k < i) (ha:a+i < s.length) (hb:128≤(s.getD (a+k) 0).toNat):eW ((s.drop<|a+k).take<|i+1 - k)=eW ((s.drop<|a+(k+1)).take<|i+1 - (k+1))*128 +((s.getD (a+k) 0).toNat - 128):=by
 rw [drop_cons (i:=a+k) 0 ag,show i+1 - k=(i+1 - (k+1))+1 by omega,List.take_succ_cons,eW,Nat.add_assoc a k 1];have :=oM<|s.getD (a+k) 0;omega
theorem JU {n c k:Nat} (h:(n+1)*128 ^ (k+1)≤18446744073709551616) (A:c < 128):(n*128 +c+1)*128 ^ k≤18446744073709551616:=by
 refine cQ ?_ h;rw [Nat.pow_succ,Nat.mul_comm (128 ^ k) 128,← Nat.mul_assoc];exact qw _ ag
theorem JV {n k:Nat} (h:(n+1)*128 ^ (k+1)≤18446744073709551616):n*128 +128≤18446744073709551616:=by
 have A:128 ^ 1≤128 ^ (k+1):=sJ aI ag;have C:=Nat.mul_le_mul_left (n+1) A;omega
theorem OP (s:List UInt8) (a:Nat):∃ n C A:Nat,AH (bJ s a)= .tuple #[.int .u64 (n:Nat),.int .i64 (C:Nat),.int .i64 (A:Nat)]∧((A=0∧bJ s a= .ok (n,C))∨(A≠0∧∃ e,bJ s a= .error e)):=by
 cases h:bJ s a with
 | ok x=>exact ⟨x.1,x.2,0,rfl,.inl ⟨rfl,rfl⟩⟩
 | error e=>
   refine ⟨0,0,e,U,.inr ⟨?_,e,U⟩⟩;rcases AI h with h | h <;> omega
theorem OJ (s:List UInt8) (a:Nat) (w:ai) (aS:s.length≤1048576) (ha:a≤s.length):
 aY aq 104 (bd [str s,aQ a]) w (fun v w'=>v=AH (bJ s a)∧Wk w w'):=by
 refine enter func104 U ntmps104 U<|aP 10 U<|p mv<|aj 2 U<|gs (t:=13) U (fun h=>absurd h ag) fun aN=>bo U mv<|bo U mv<|aC 5 U<|cd U (fun am=> ?_) fun am=> ?_;exact aB 9 U<|f3 U U U U<|⟨by rw [wZ (lB (k:=0) ag (fun j V=>by omega)<|.inr<|.inl ag) ag ag]; rfl,Md.refl _ _⟩
 refine bD 7 U ?_;refine ei (fun ac Z=> ∃ (i:Nat),(i≤10)∧(∀ j,j < i→a+j < s.length∧128≤(s.getD (a+j) 0).toNat)∧(i=10∨s.length≤a+i∨(s.getD (a+i) 0).toNat < 128)∧(Wk w Z)∧(Sl ac [(0,str s),(1,aQ a),(7,aQ i)])) ?_ ?_;refine bV 1 U<|lp (fun E ad aa=> ∃ (i:Nat),(i≤10)∧(∀ j,j < i→a+j < s.length∧128≤(s.getD (a+j) 0).toNat)∧(Wk w aa)∧(Sl ad [(0,str s),(1,aQ a),(7,aQ i)])∧(10 - i=E)) _ ⟨0,ag,(fun j V=>by omega),(Md.refl _ _),U,U⟩ ?_;rintro E ad aa ⟨i,hi,C,J,aF,rfl⟩;refine bG aF<|aP 6 U<|gs (t:=21) U (fun aw=> ?_) fun aw=> ?_;refine aj 8 U<|gs (t:=29) U (fun ax=> ?_) fun ax=> ?_;refine aj 3 U<|bo U (bW<|a+i)<|bo U (dc u9 U U ag)<|aC 4 U<|cd U (fun an=> ?_) fun an=> ?_;exact az 5 U<|p (bW<|i+1)<|ar 3 U<|tn<|⟨_,ag,i+1,ag,(fun j V=>by rcases dN j i with h | h <;> first | exact C j h | (have ak:j=i:=ag; subst ak; exact ⟨ag,ag⟩)),J,U,U⟩
 exact aB 2 U<|cg<|bg 1 U<|tn<|⟨i,hi,C,(.inr<|.inr ag),J,U⟩
 exact ar 12 U<|cg<|bg 1 U<|tn<|⟨i,hi,C,(.inr<|.inl ag),J,U⟩
 exact aj 7 U<|p mv<|ar 12 U<|cg<|bg 1 U<|tn<|⟨i,hi,C,(.inl ag),J,U⟩
 rintro ac Z ⟨i,hi,C,aI,A,aE⟩;refine bG aE ?_;have I:=lB (s:=s) (a:=a) (k:=i) hi C aI;refine bD 7 U<|cd U (fun ao=> ?_) fun ao=> ?_;exact aB 9 U<|f3 U U U U<|⟨by rw [Gc ag]; rfl,A⟩
 refine bD 13 U<|cd U (fun ap=> ?_) fun ap=> ?_;exact aB 9 U<|f3 U U U U<|⟨by rw [wZ I ag ag]; rfl,A⟩
 refine az 7 U<|p (bW<|a+i)<|p (dc u9 U U ag)<|aC 3 U ?_;refine ei (fun ae wD=> ∃ (aK:Unit),(¬((i=9∧1 < (s.getD (a+i) 0).toNat)∨(0 < i∧(s.getD (a+i) 0).toNat=0)))∧(Wk w wD)∧(Sl ae [(0,str s),(1,aQ a),(7,aQ i),(8,.int .u8 (s.getD (a+i) 0).toNat)])) ?_ ?_;refine aP 5 U<|gs (t:=54) U (fun ay=> ?_) fun ay=> ?_;refine aj 4 U<|gs (t:=58) U (fun aA=> ?_) fun aA=> ?_;exact ar 18 U<|tr<|f3 U U U U<|⟨by rw [rN I ag ag ag]; rfl,A⟩
 refine aj 3 U<|gs (t:=61) U (fun M=> ?_) fun M=> ?_;refine aC 6 U<|cd U (fun L=> ?_) fun L=> ?_;exact aB 8 U<|tr<|f3 U U U U<|⟨by rw [rN I ag ag ag]; rfl,A⟩
 exact aB 1 U<|tn<|⟨(),ag,A,U⟩
 exact aj 3 U<|p (rF U)<|ar 4 U<|tn<|⟨(),ag,A,U⟩
 refine aj 3 U<|p mv<|aj 3 U<|gs (t:=61) U (fun M=> ?_) fun M=> ?_;refine aC 6 U<|cd U (fun L=> ?_) fun L=> ?_;exact aB 8 U<|tr<|f3 U U U U<|⟨by rw [rN I ag ag ag]; rfl,A⟩
 exact aB 1 U<|tn<|⟨(),ag,A,U⟩
 exact aj 3 U<|p (rF U)<|ar 4 U<|tn<|⟨(),ag,A,U⟩
 rintro ae wD ⟨aK,av,al,aG⟩;refine bG aG<|az 3 U<|p (jG sf Bf U<|jt ag)<|aC 12 U<|lp (fun E ah ab=> ∃ (k n:Nat) (x:Int),(k≤i)∧(x=(k:Int) - 1)∧(n=eW ((s.drop<|a+k).take<|i+1 - k))∧((n+1)*128 ^ k≤18446744073709551616)∧(Wk w ab)∧(Sl ah [(0,str s),(1,aQ a),(7,aQ i),(9,.int .u64 (n:Nat)),(10,.int .i64 x)])∧(k=E)) _ ⟨i,(s.getD (a+i) 0).toNat,(i:Int) - 1,ag,U,(MY ag ag),(MX ag ag ag),al,U,U⟩ ?_;rintro E ah ab ⟨k,n,x,aR,aT,hn,hb,O,aH,rfl⟩;refine bG aH<|bV 7 U<|cd U (fun au=> ?_) fun au=> ?_;obtain ⟨k,rfl⟩:∃ aJ:Nat,k=aJ+1:=⟨k - 1,ag⟩
 obtain rfl :x=(k:Int):=ag;obtain ⟨aO,aD⟩:=C k ag;have aL:=JV hb;have aM:=oM<|s.getD (a+k) 0;exact az 6 U<|p (Ah ((n*128:Nat):Int) U U<|(jt ag).trans ag)<|aj 3 U<|p (bW<|a+k)<|p (dc u9 U U ag)<|p (AL (((s.getD (a+k) 0).toNat - 128:Nat):Int) U U<|(Bp ag).trans ag)<|p (jG sf Bf U<|jt ag)<|p (yD ((n*128 +((s.getD (a+k) 0).toNat - 128):Nat):Int) U U<|(jt ag).trans ag)<|ar 9 U<|tn<|⟨_,ag,k,n*128 +((s.getD (a+k) 0).toNat - 128),(k:Int) - 1,ag,U,(by rw [hn]; exact (MW ag ag aD).symm),(JU hb ag),O,U,U⟩
 refine aB 2 U<|cg<|fV 7 U<|p (bW<|a+i)<|p (bW<|a+i+1)<|ar 6 U<|f3 U U U U ?_;obtain rfl :k=0:=ag;rw [Nat.add_zero,Nat.sub_zero] at hn;subst hn;exact ⟨by rw [wY I ag ag av]; rfl,O⟩
theorem rp (rb:Nat) (s:List UInt8) (a f:Nat) (w:ai) (C:aD w.heap rb [str s,aQ a,aQ f]) (ax:s.length≤1048576) (ha:a≤s.length):
 aY aq 49 (bd [aA rb]) w (fun v w'=> ∃ n E q:Nat,v= .int .u64 (n:Nat)∧aD w'.heap rb [str s,aQ E,aQ q]∧E≤s.length∧n < 18446744073709551616∧((f=0∧q=0∧bJ s a= .ok (n,E))∨(q≠0∧n=0∧(f≠0∨∃ e,bJ s a= .error e)))∧Md (fun k=>k=rb) w w'):=by
 refine enter func49 U ntmps49 U<|aP 8 U<|p mv<|aj 2 U<|p (ay U<|C.aG 2)<|aC 3 U<|cd U (fun ap=> ?_) fun ap=> ?_;exact aB 7 U<|aE U<|⟨0,a,f,U,C,ha,aI,.inr ⟨ag,U,.inl ag⟩,Md.refl _ _⟩
 refine bD 3 U<|fh fun A=>cz 0 U (mv) A<|aW [1,2] U A<|c9 3 U A (C.aG 0)<|cz 4 U (mv) A<|aW [5,6] U A<|c9 7 U A (C.aG 1)<|he 8 U an<|aH (OJ s a w.drew ax ha) U ?_;rintro v20 aJ ⟨Z,I⟩;obtain ⟨n,E,ad,aw,aa⟩:=OP s a;rw [aw] at Z;subst Z;have M:=Wk.B (Md.gI I) C;have O:=(Md.gI I).mono (G:=fun k=>k=rb) fun _ _ h=>h.elim;have J:(fun w'=>Wk w w') aJ:=A.trans I;refine ⟨J,?_⟩;refine cz 9 U (mv) J<|aW [10,11,12,13,14,15] U J<|hn an<|ee 8 U<|cd U (fun L=> ?_) fun L=> ?_;obtain ⟨V,aF⟩:=aa.resolve_left fun h=>L<|by rw [h.1]; rfl
 refine az 2 U<|p mv<|aj 3 U<|e<|st fT U U (U) (M) (by simp) fun aL al ae=> ?_;have ak:=O.trans al;exact ar 9 U<|aE U<|⟨0,a,ad,U,ae,ha,aI,.inr ⟨V,U,.inr aF⟩,ak⟩
 obtain ⟨V,ab⟩:=aa.resolve_right fun h=>L ag;obtain ⟨aK,au,av⟩:=kS ab;refine az 4 U<|p mv<|aj 3 U<|e<|st fT U U (U) (M) (by simp) fun aM ao ah=> ?_;have am:=O.trans ao;exact ar 9 U<|aE U<|⟨n,E,0,U,(by have ac:f=0:=ag; subst ac; exact ah),au,av,.inl ⟨ag,U,ab⟩,am⟩
theorem zw (rb:Nat) (s:List UInt8) (a f:Nat) (w:ai) (ab:aD w.heap rb [str s,aQ a,aQ f]) (aF:s.length≤1048576) (ha:a≤s.length):
 aY aq 50 (bd [aA rb]) w (fun v w'=> ∃ (x:List UInt8) (C q:Nat),v=str x∧aD w'.heap rb [str s,aQ C,aQ q]∧C≤s.length∧x.length≤255∧((f=0∧q=0∧dK s a= .ok (x,C))∨(q≠0∧(f≠0∨∃ e,dK s a= .error e)))∧Md (fun k=>k=rb) w w'):=by
 refine enter func50 U ntmps50 U<|aP 7 U<|p mv<|e<|aH (rp rb s a f w ab aF<|ha) U ?_;rintro v5 aO ⟨n,C,q,rfl,I,V,aN,Z,L⟩;refine aj 6 U<|p mv<|aj 2 U<|p (ay U<|I.aG 2)<|aC 3 U<|cd U (fun O=> ?_) fun O=> ?_;obtain ⟨_,_,au⟩:=Z.resolve_left fun h=>O<|by rw [h.2.1]; rfl
 exact aB 7 U<|aE U<|⟨[],C,q,U,I,V,aI,.inr ⟨ag,au.imp id fun ⟨aa,h⟩=>⟨aa,D4 h⟩⟩,L⟩
 obtain ⟨ax,rfl,M⟩:=Z.resolve_right fun h=>O ag;obtain ⟨aK,aL,aM⟩:=kS M;refine bD 9 U<|cd U (fun av=> ?_) fun av=> ?_;refine az 2 U<|p mv<|aj 2 U<|e<|st fT U U (U) (I) (by simp) fun aR al ad=> ?_;have am:=L.trans al;exact ar 9 U<|aE U<|⟨[],C,62,U,ad,V,aI,.inr ⟨aI,.inr ⟨_,D5 M ag⟩⟩,am⟩
 refine bD 4 U<|fh fun E=>aW [0] U E<|cz 1 U (jG u3 oz U<|km ag) E<|cz 2 U (mv) E<|aW [3,4] U E<|c9 5 U E (I.aG 0)<|aW [6] U E<|cz 7 U (mv) E<|aW [8,9] U E<|c9 10 U E (I.aG 1)<|aW [11,12] U E<|hn an<|ee 1 U<|cd U (fun aw=> ?_) fun aw=> ?_;refine az 2 U<|p mv<|aj 2 U<|e<|st fT U U (U) (I) (by simp) fun aS ao ae=> ?_;have ap:=L.trans<|Md.gI ao;exact ar 9 U<|aE U<|⟨[],C,60,U,ae,V,aI,.inr ⟨aI,.inr ⟨_,D6 M ag ag⟩⟩,ap⟩
 refine az 4 U<|p mv<|p mv<|aj 2 U<|p (ay U<|I.aG 1)<|aj 1 U<|p (jG u3 oz U<|km ag)<|p (bW<|C+n)<|aj 2 U<|e<|st fT U U (U) (I) (by simp) fun aJ ah ac=> ?_;have ak:=L.trans<|Md.gI ah;have J:aD aJ.heap rb [str s,aQ (C+n),aQ 0]:=ac;exact aC 3 U<|fh fun A=>cz 0 U (mv) A<|aW [1,2] U A<|c9 3 U A (J.aG 0)<|cz 4 U (mv) A<|aW [5,6] U A<|c9 7 U A (J.aG 1)<|aW [8] U A<|cz 9 U (jG u3 oz U<|km ag) A<|cz 10 U (pH<|C) A<|cz 11 U (mv) A<|aW [12,13] U A<|c9 14 U A (J.aG 1)<|cz 15 U (ox u9 U U U ag) A<|aW [16] U A<|hn an<|bg 2 U<|aE U<|⟨(s.drop C).take n,C+n,0,(by rw [← GD]; rfl),Wk.B A J,ag,by rw [bX]; omega,.inl ⟨ax,U,D7 M ag ag⟩,Md.trans ak<|Md.mono A fun _ _ h=>h.elim⟩
theorem Lt (rb:Nat) (s:List UInt8) (a n:Nat) (w:ai) (ak:aD w.heap rb [str s,aQ a,aQ 0]) (bp:s.length≤1048576) (ha:a≤s.length) (bz:n≤1048576):
 aY aq 107 (bd [aA rb,.int .u64 (n:Nat)]) w (fun v w'=> ∃ (c:UInt8) (t:Int) (E q:Nat),v= .agg #[bh .u8 c.toNat,.int .i64 t]∧aD w'.heap rb [str s,aQ E,aQ q]∧E≤s.length∧((q=0∧fI s n a= .ok ((c,t),E))∨(q≠0∧∃ e,fI s n a= .error e))∧Md (fun k=>k=rb) w w'):=by
 have bA:=ak.lt;refine enter func107 U ntmps107 U<|aP 2 U<|e<|fv HO fun M bI bv aa al=> ?_;have bC:=aa.size;have I:=Wk.B aa.md ak;refine aC 4 U<|fh fun A=>cz 0 U (mv) A<|aW [1,2] U A<|c9 3 U A (I.aG 1)<|cz 4 U (mv) A<|aW [5,6] U A<|c9 7 U A (I.aG 0)<|aW [8,9] U A<|hn an<|ee 1 U<|cd U (fun bj=> ?_) fun bj=> ?_;refine az 2 U<|p mv<|aj 2 U<|e<|st fT U U (U) (I) (by simp) fun bJ ap a3=> ?_;have bf:=ap.ax al fun h=>by omega
 refine aj 4 U<|p (dE (ps:= []) (L:= [.int .u8 0,.int .i64 0]) A1 U<|U)<|e<|fk vt U U U U bf (by simp) fun bu au a4=> ?_;have a5:aD bu.heap M [bh .u8 0,.int .i64 0]:=⟨_,a4⟩
 have bb:=au.B a3 fun h=>by omega
 have bc:=((aa.md.mono fun _ _ h=>h.elim).trans (Md.mono A (fun _ _ h=>h.elim) |>.trans ap)).trans' au fun k aN h=>by omega
 exact ar 4 U<|zh U (jn (cs:= [bh .u8 0,.int .i64 0]) U vg U fun j aM=>a5.aG j)<|⟨0,0,a,60,U,bb,ha,.inr ⟨aI,_,Dg ag⟩,bc⟩
 refine bD 3 U<|fh fun C=>cz 0 U (mv) C<|aW [1,2] U C<|c9 3 U C (I.aG 0)<|cz 4 U (mv) C<|aW [5,6] U C<|c9 7 U C (I.aG 1)<|cz 8 U (dc u9 U U ag) C<|aW [9] U C<|hn an<|fV 3 U<|p mv<|p mv<|aj 2 U<|p (ay U<|I.aG 1)<|p (bW<|a+1)<|aj 2 U<|e<|st fT U U (U) (I) (by simp) fun aT aw a7=> ?_;have a6:aD aT.heap rb [str s,aQ (a+1),aQ 0]:=a7;have bg:=aw.ax al fun h=>by omega
 refine aj 4 U<|p mv<|e<|aH (rp rb s (a+1) 0 aT a6 bp ag) U ?_;rintro bF bH ⟨t,E,q,rfl,Z,aR,bx,aS,av⟩;have ad:=av.ax bg fun h=>by omega
 have J:=(((aa.md.mono (G:=fun k=>k=rb) fun _ _ h=>h.elim).trans<|Md.mono A fun _ _ h=>h.elim).trans<|Md.mono C fun _ _ h=>h.elim).trans<|aw.trans av;refine aC 3 U ?_;refine ei (fun aU V=> ∃ (O:Nat),(aD V.heap rb [str s,aQ E,aQ O])∧((O=0∧fI s n a= .ok ((s.getD a 0,((t:Nat):Int)),E)∧t < n)∨(O≠0∧∃ e,fI s n a= .error e))∧(V.heap[M]? =some (.cells [bh .u8 0,.int .i64 0].toArray 251 (0,0)))∧(Md (fun k=>k=rb) w V)∧(w.heap.size≤V.heap.size)∧(Sl aU [(0,aA rb),(1,.int .u64 (n:Nat)),(4,aA M),(5,.int .u8 (s.getD a 0).toNat),(6,.int .u64 (t:Nat))])) ?_ ?_;refine aP 2 U<|p mv<|aj 2 U<|p (ay U<|Z.aG 2)<|aj 2 U<|gs (t:=45) U (fun aL=> ?_) fun aL=> ?_;have aF:=(aS.resolve_right fun h=>h.1 ag).2.2;refine aj 1 U<|bo U mv<|aC 4 U<|cd U (fun bm=> ?_) fun bm=> ?_;refine az 1 U<|p mv<|aj 2 U<|e<|st fT U U (U) (Z) (by simp) fun bK ac a8=> ?_
 skip
 exact ar 1 U<|tn<|⟨190,a8,(.inr ⟨aI,_,Di ag aF ag⟩),(ac.ax ad fun h=>by omega),(J.trans ac),((J.trans ac).size),U⟩
 exact aB 1 U<|tn<|⟨0,((by have aV:q=0:=ag; subst aV; exact Z)),(.inl ⟨U,Dj ag aF ag,ag⟩),ad,J,J.size,U⟩
 have aK:=aS.resolve_left fun h=>aL<|by rw [h.2.1]; rfl
 exact ar 8 U<|tn<|⟨q,Z,(.inr ⟨aK.1,aK.2.2.elim (fun h=>absurd U h) fun ⟨aX,h⟩=>⟨aX,Dh ag h⟩⟩),ad,J,J.size,U⟩
 rintro aU V ⟨O,ab,ah,aJ,aE,bE,bq⟩;refine bG bq<|az 6 U<|p (ay U<|ab.aG 2)<|aC 3 U<|cd U (fun ae=> ?_) fun ae=> ?_;obtain ⟨bn,bi⟩:=ah.resolve_left fun h=>ae<|by rw [h.1]; rfl
 refine az 2 U<|p (dE (ps:= []) (L:= [.int .u8 0,.int .i64 0]) A1 U<|U)<|e<|fk vt U U U U aJ (by simp) fun br am aZ=> ?_;have a0:aD br.heap M [bh .u8 0,.int .i64 0]:=⟨_,aZ⟩
 have a9:=am.B ab fun h=>by omega
 exact ar 4 U<|zh U (jn (cs:= [bh .u8 0,.int .i64 0]) U vg U fun j aM=>a0.aG j)<|⟨0,0,E,O,U,a9,aR,.inr ⟨bn,bi⟩,aE.trans' am fun k aN h=>by omega⟩
 obtain ⟨rfl,aO⟩:=ah.resolve_right fun h=>ae ag;have bB:=aO.2;refine az 6 U<|p (jG u3 oz U<|km ag)<|p (dE (ps:= [(0,bh .u8 (s.getD a 0).toNat),(1,aQ t)]) (L:= [bh .u8 (s.getD a 0).toNat,aQ t]) A1 U<|U)<|e<|fk vt U U U U aJ (by simp) fun bt ao a1=> ?_;have a2:aD bt.heap M [bh .u8 (s.getD a 0).toNat,aQ t]:=⟨_,a1⟩
 have ba:=ao.B ab fun h=>by omega
 exact ar 3 U<|zh U (jn (cs:= [bh .u8 (s.getD a 0).toNat,aQ t]) U vg U fun j aM=>a2.aG j)<|⟨s.getD a 0,(t:Nat),E,0,U,ba,aR,.inl ⟨U,aO.1⟩,aE.trans' ao fun k aN h=>by omega⟩
end Go.Hb
end
namespace Go.Hb
theorem Ny {l:List UInt8} {j:Nat} {b:UInt8} (h:j < l.length):b∈l.take (j+1)↔b∈l.take j∨l.getD j 0=b:=by
 rw [ib l j 0 h,dz,fu,eq_comm (a:=b)]
theorem wQ (s:List UInt8) (w:ai) (aa:s.length≤1048576):
 aY aq 106 (bd [str s]) w (fun v w'=>v= .bool (gG s)∧Wk w w'):=by
 refine enter func106 U ntmps106 U<|bV 12 U<|lp (fun C J I=> ∃ (i:Nat),(i≤s.length)∧(∀ j,j < i→gJ (s.getD j 0)=true)∧(Wk w I)∧(Sl J [(0,str s),(3,.int .i64 i)])∧(s.length - i=C)) _ ⟨0,ag,(fun j E=>by omega),(Md.refl _ _),U,U⟩ ?_;rintro C J I ⟨i,hi,hp,A,V,rfl⟩;refine bG V<|bV 9 U<|cd U (fun M=> ?_) fun M=> ?_;refine az 8 U<|p (dc u9 U U ag)<|aj 2 U<|gs (t:=14) U (fun O=> ?_) fun O=> ?_;exact ar 16 U<|tr<|bg 2 U<|aE U<|⟨by show bB false =_; rw [sX (i:=i) ag (zl ag)],A⟩
 refine aj 2 U<|bo U (dc u9 U U ag)<|aC 4 U<|cd U (fun L=> ?_) fun L=> ?_;exact aB 8 U<|tr<|bg 2 U<|aE U<|⟨by show bB false =_; rw [sX (i:=i) ag (zl ag)],A⟩
 have Z:gJ (s.getD i 0)=true :=LZ ag ag;exact aB 8 U<|tn<|⟨_,ag,i+1,ag,(fun j E=>by rcases dN j i with h | h <;> first | exact hp j h | (rw [show j=i by omega]; exact Z)),A,U,U⟩
 exact aB 2 U<|cg<|bg 8 U<|aE U<|⟨by show bB true =_; rw [vm (fun j E=>hp j ag)],A⟩
theorem Gf (s:List UInt8) (w:ai) (I:s.length≤1048576):
 aY aq 53 (bd [str s]) w (fun v w'=>v= .bool (dL s)∧Wk w w'):=by
 refine enter func53 U ntmps53 U<|aP 12 U<|gs (t:=6) U (fun E=> ?_) fun E=> ?_;exact ar 14 U<|aE U<|⟨by show bB false =_; unfold dL; rw [decide_eq_false ag],Md.refl _ _⟩
 refine aC 6 U<|cd U (fun C=> ?_) fun C=> ?_;exact aB 7 U<|aE U<|⟨by show bB false =_; unfold dL; rw [decide_eq_false ag],Md.refl _ _⟩
 refine az 5 U<|e<|aH (wQ s _ I) U ?_;rintro v12 J ⟨rfl,A⟩;exact ar 4 U<|aE U<|⟨by show bB (gG s)=_; unfold dL; cases h:gG s <;> simp <;> omega,A⟩
theorem OV (s:List UInt8) (w:ai) (a4:s.length≤1048576):
 aY aq 120 (bd [str s]) w (fun v w'=>v=FV (iA s)∧Wk w w'):=by
 refine enter func120 U ntmps120 U<|aP 10 U<|e<|sV fE fun aa aX a1 ax ao=> ?_;have aN:b9 aX w.heap.size 5 1 (.slice (some ⟨aa,0,none⟩) 0 0) (([]:List UInt8)).length (U8<|([]:List UInt8)):=ao _ ag;refine aC 10 U<|lp (fun ac ak V=> ∃ (i:Nat) (acc:List UInt8) (M:ah),(i≤s.length∧acc.length≤i)∧(b9 V w.heap.size 5 1 (M) (acc).length<|U8<|acc)∧(Wk w V)∧(fm acc (s.drop i)=iA s)∧(Sl ak [(0,str s),(6,M),(7,.int .i64 i)])∧(s.length - i=ac)) _ ⟨0,[],.slice (some ⟨aa,0,none⟩) 0 0,(by simp),aN,ax.md,U,U,U⟩ ?_;rintro ac ak V ⟨i,acc,M,hi,E,A,C,aO,rfl⟩;refine bG aO ?_;obtain ⟨Z,ab,rfl⟩:=de E;refine bV 9 U<|cd U (fun aD=> ?_) fun aD=> ?_;refine az 8 U<|p (dc u9 U U ag)<|aC 3 U<|cd U (fun aE=> ?_) fun aE=> ?_;have aA:(s.getD i 0).toNat=47:=ag;exact bD 1 U<|fh fun I=>aW [0,2,3] U I<|cz 4 U (bW<|i+1) I<|cz 5 U (mw u9 U U ag) I<|gL 1 U (fun w' ay=>lW nM U ((du<|aR E ay).2)<|U) I<|aW [6,7,8,9] U I<|hn an<|bg 4 U<|tr<|bg 2 U<|f4 U U U U U<|⟨by rw [← C,drop_cons 0 (by omega :i < s.length),xK aA]; rfl,Md.trans A (Md.refl _ _).drew⟩
 refine bD 2 U ?_;refine ei (fun al O=> ∃ (k:Nat),(k < s.length∧i≤k∧k≤i+1)∧(Wk w O)∧(b9 O w.heap.size 5 1 (.slice Z acc.length ab) (acc).length<|U8<|acc)∧(fm (acc++ [s.getD k 0]) (s.drop<|k+1)=iA s)∧(Sl al [(0,str s),(6,.slice Z acc.length ab),(7,.int .i64 k)])) ?_ ?_;refine aP 4 U<|p (dc u9 U U ag)<|aC 3 U<|cd U (fun aF=> ?_) fun aF=> ?_;have J:(s.getD i 0).toNat=92:=ag;refine az 3 U<|p (bW<|i+1)<|aC 12 U<|cd U (fun aG=> ?_) fun aG=> ?_;exact aB 10 U<|tr<|bg 1 U<|tr<|bg 2 U<|f4 U U U U U<|⟨by rw [← C,drop_cons 0 (by omega :i < s.length),iT ag,xG J]; rfl,A⟩
 refine az 6 U<|p (dc u9 U U ag)<|aj 2 U<|gs (t:=37) U (fun aJ=> ?_) fun aJ=> ?_;refine aj 2 U<|bo U (dc u9 U U ag)<|aj 3 U<|gs (t:=43) U (fun aK=> ?_) fun aK=> ?_;refine aj 2 U<|bo U (dc u9 U U ag)<|aC 4 U<|cd U (fun aH=> ?_) fun aH=> ?_;exact aB 9 U<|tr<|bg 1 U<|tr<|bg 2 U<|f4 U U U U U<|⟨by rw [← C,drop_cons 0 (by omega :i < s.length),drop_cons 0 (by omega :i+1 < s.length),xH J (by rw [iI]; exact decide_eq_false ag)]; rfl,A⟩
 exact aB 1 U<|tn<|⟨i+1,ag,A,E,(by rw [← C,drop_cons 0 (by omega :i < s.length),drop_cons 0 (by omega :i+1 < s.length),si J (by rw [iI]; exact decide_eq_true ag)]),U⟩
 exact ar 9 U<|tn<|⟨i+1,ag,A,E,(by rw [← C,drop_cons 0 (by omega :i < s.length),drop_cons 0 (by omega :i+1 < s.length),si J (by rw [iI]; exact decide_eq_true ag)]),U⟩
 exact aj 5 U<|p mv<|ar 9 U<|tn<|⟨i+1,ag,A,E,(by rw [← C,drop_cons 0 (by omega :i < s.length),drop_cons 0 (by omega :i+1 < s.length),si J (by rw [iI]; exact decide_eq_true ag)]),U⟩
 exact aB 1 U<|tn<|⟨i,ag,A,E,(by rw [← C,drop_cons 0 (by omega :i < s.length),xI ag ag]),U⟩
 rintro al O ⟨k,a3,av,ae,aI,aQ⟩;refine bG aQ<|az 5 U<|p (dc u9 U U ag)<|e<|e9 fE U U fun aZ aV a0 L am=> ?_;have ad:Wk w aV:=Md.trans av L.md;refine e<|ap fE (aR ae L.md) U (by have :=ad.size; omega) U (aU.dB am) (U) (U) ag ag fun aS a6 aL aw a5 a2=> ?_;have au:=Wk.own ad (aR ae L.md) aw<|bf _;have aM:=om aL;exact p aT<|aj 4 U<|p (bW<|k+1)<|ar 3 U<|tn<|⟨_,ag,k+1,acc++ [s.getD k 0],aS,(by rw [bp,dC]; omega),aM,au,aI,U,U⟩
 exact aB 2 U<|cg<|fV 5 U<|p (lW nM U ((du E).2)<|U)<|ar 7 U<|f4 U U U U U<|⟨by rw [← C,iT ag,xJ]; rfl,A⟩
theorem Ot (s:List UInt8) (w:ai) (a2:s.length≤1048576):
 aY aq 105 (bd [str s]) w (fun v w'=>v= .tuple #[str (letE s).1,.int .i64 (letE s).2]∧Wk w w'):=by
 refine enter func105 U ntmps105 U<|aP 9 U<|e<|aH (wQ s _ a2) U ?_;rintro v10 a9 ⟨rfl,aa⟩;refine aj 10 U<|gs (t:=14) U (fun av=> ?_) fun av=> ?_;exact ar 14 U<|f2 U U U<|⟨by show kq #[str [],.int .i64 21]=_; unfold letE; rw [if_pos (.inl<|uJ.1 ag)]; rfl,aa⟩
 refine aC 5 U<|cb U (fun ab=> ?_) fun ab=> ?_;exact aB 8 U<|f2 U U U<|⟨by show kq #[str [],.int .i64 21]=_; unfold letE; rw [if_pos (.inr<|by simpa using ab)]; rfl,aa⟩
 refine az 4 U<|e<|sV fE fun aE aG a7 aO aM=> ?_;have a1:b9 aG w.heap.size 5 1 (.slice (some ⟨aE,0,none⟩) 0 0) (([]:List UInt8)).length (U8<|([]:List UInt8)):=aM _<|by have :=aa.size; omega
 have aN:Wk w aG:=Md.trans aa aO.md;refine aC 10 U<|lp (fun M aJ ad=> ∃ (i:Nat) (ay:ah),(i≤s.length)∧(b9 ad w.heap.size 5 1 (ay) (lets<|s.take i).length<|U8<|lets<|s.take i)∧(Wk w ad)∧(Sl aJ [(0,str s),(5,ay),(6,.int .i64 i)])∧(s.length - i=M)) _ ⟨0,.slice (some ⟨aE,0,none⟩) 0 0,ag,a1,aN,U,U⟩ ?_;rintro M aJ ad ⟨i,ay,hi,C,O,a3,rfl⟩;refine bG a3 ?_;obtain ⟨ae,ak,rfl⟩:=de C;have aX:=zR<|s.take i;rw [bX] at aX;refine bV 9 U<|cd U (fun aS=> ?_) fun aS=> ?_;refine bD 16 U<|lp (fun M aK aI=> ∃ (j:Nat) (ob:Bool),(j≤(lets<|s.take i).length)∧(ob=decide (s.getD i 0∈(lets<|s.take i).take j))∧(Wk ad aI)∧(Sl aK [(0,str s),(5,.slice ae (lets<|s.take i).length ak),(6,.int .i64 i),(7,.bool ob),(8,.int .i64 j)])∧((lets<|s.take i).length - j=M)) _ ⟨0,false,ag,U,(Md.refl _ _),U,U⟩ ?_;rintro M aK aI ⟨j,ob,a8,ac,A,a4,rfl⟩;refine bG a4<|aP 8 U<|gs (t:=29) U (fun aZ=> ?_) fun aZ=> ?_;refine aC 5 U<|cb U (fun au=> ?_) fun au=> ?_;have a0:¬s.getD i 0∈(lets<|s.take i).take j:=of_decide_eq_false<|by rw [← ac]; simpa using au
 exact bD 4 U<|fh fun L=>aW [0,1] U L<|cz 2 U (bZ qS U U ag<|aU.ok ((du<|aR C A).2)<|Hn ag) L<|c9 3 U L (Hm (i:=j) (du<|aR C A).2 ag)<|aW [4,5] U L<|cz 6 U (dc u9 U U ag) L<|aW [7,8] U L<|hn an<|bg 7 U<|tn<|⟨_,ag,j+1,decide (((lets<|s.take i).getD j 0).toNat=((s.getD i 0).toNat:Int)),ag,(decide_eq_decide.2<|by rw [Ny ag]; constructor <;> intro h <;> first | exact .inr (nG.1 ag) | (rcases h with h | h <;> first | exact absurd h a0 | (rw [h]))),(Md.trans A (Md.refl _ _).drew),U,U⟩
 have Z:ob=decide (s.getD i 0∈lets (s.take i)):=by
  have aF:ob=true :=by simpa using au
  rw [aF] at ac;rw [aF]; exact (decide_eq_true<|List.mem_of_mem_take<|of_decide_eq_true ac.symm).symm
 refine aB 2 U<|cg<|ee 8 U<|cb U (fun I=> ?_) fun I=> ?_;have J:¬s.getD i 0∈lets (s.take i):=of_decide_eq_false<|by rw [← Z]; simpa using I
 refine az 4 U<|p (dc u9 U U ag)<|e<|e9 fE U U fun aL aD aQ E al=> ?_;have V:Wk w aD:=Md.trans (Md.trans O A) E.md;refine e<|ap fE (aR (aR C A) E.md) U (by have :=V.size; omega) U (aU.dB al) (U) (U) ag ag fun aA a6 aw ao a5 aV=> ?_;have am:=Wk.own V (aR (aR C A) E.md) ao<|bf _;have ax:=om aw;exact p aT<|ar 8 U<|tn<|⟨_,ag,i+1,aA,ag,(by rw [n7 ag,if_neg J]; exact ax),am,U,U⟩
 have J:s.getD i 0∈lets (s.take i):=of_decide_eq_true<|by rw [← Z]; simpa using I
 exact aB 8 U<|tn<|⟨_,ag,i+1,.slice ae (lets<|s.take i).length ak,ag,(by rw [n7 ag,if_pos J]; exact aR C A),(Md.trans O A),U,U⟩
 have Z:ob=decide (s.getD i 0∈lets (s.take i)):=by rw [ac,iV ag]
 refine ar 8 U<|cg<|ee 8 U<|cb U (fun I=> ?_) fun I=> ?_;have J:¬s.getD i 0∈lets (s.take i):=of_decide_eq_false<|by rw [← Z]; simpa using I
 refine az 4 U<|p (dc u9 U U ag)<|e<|e9 fE U U fun aL aD aQ E al=> ?_;have V:Wk w aD:=Md.trans (Md.trans O A) E.md;refine e<|ap fE (aR (aR C A) E.md) U (by have :=V.size; omega) U (aU.dB al) (U) (U) ag ag fun aA a6 aw ao a5 aV=> ?_;have am:=Wk.own V (aR (aR C A) E.md) ao<|bf _;have ax:=om aw;exact p aT<|ar 8 U<|tn<|⟨_,ag,i+1,aA,ag,(by rw [n7 ag,if_neg J]; exact ax),am,U,U⟩
 have J:s.getD i 0∈lets (s.take i):=of_decide_eq_true<|by rw [← Z]; simpa using I
 exact aB 8 U<|tn<|⟨_,ag,i+1,.slice ae (lets<|s.take i).length ak,ag,(by rw [n7 ag,if_pos J]; exact aR C A),(Md.trans O A),U,U⟩
 exact aB 2 U<|cg<|fV 5 U<|p (lW nM U ((du C).2)<|U)<|ar 5 U<|f2 U U U<|⟨by show kq #[str (lets<|s.take i),.int .i64 0]=_; unfold letE; rw [if_neg (fun h=>h.elim (fun h=>by rw [h] at av; exact av U) fun h=>by rw [h] at ab; cases ab),show s.take i=s from iV ag]; rfl,O⟩
end Go.Hb
section
namespace Go.Hb
open Go.Hb.kC
def iE (w:ai) (B:Nat) (A:List (Bool×ah)) (l:List bH):Prop :=A.length=l.length∧∀ (i:Nat) q e,A[i]? =some q→l[i]? =some e→q.1=e.1∧Tg w B 251 e.2.length q.2 (kG e.2)
theorem iE.nil (w:ai) (B:Nat):iE w B [] []:=⟨rfl,fun i q r A=>by simp at A⟩
theorem iE.md {F:Nat→Prop} {w w':ai} {B:Nat} {E:List (Bool×ah)} {l:List bH} (h:iE w B E l) (hm:Md F w w') (I:∀ k,F k→B≤k→∀ cur z,w.heap[k]?≠some (.cells cur 251 z)):iE w' B E l:=
 ⟨h.1,fun i q r A C=>⟨(h.2 i q r A C).1,Tg.rh (h.2 i q r A C).2 hm I⟩⟩
theorem iE.wk {w w':ai} {B:Nat} {A:List (Bool×ah)} {l:List bH} (h:iE w B A l) (hm:Wk w w'):iE w' B A l:=h.md hm fun _ C=>C.elim
theorem iE.snoc {w:ai} {B:Nat} {E:List (Bool×ah)} {l:List bH} {v:ah} {e:bH} (ha:iE w B E l) (J:Tg w B 251 e.2.length v (kG e.2)):iE w B (E++ [(e.1,v)]) (l++ [e]):=by
 refine ⟨by rw [bp,bp,ha.1]; rfl,fun i q' r' A C=> ?_⟩;have I:=ha.1;by_cases hi:i < E.length
 · rw [eZ hi] at A;rw [eZ ag] at C;exact ha.2 i q' r' A C
 · rw [eH ag] at A;rw [eH ag,← I] at C;cases hj:i - E.length with
   | zero=>rw [hj] at A C; cases A; cases C; exact ⟨rfl,J⟩
   | succ j=>rw [hj] at A; simp at A
def gu (w:ai) (B:Nat) (v:ah) (l:List bH):Prop := ∃ A,Tg w B 250 l.length v (ou A)∧iE w B A l
theorem gu.md {F:Nat→Prop} {w w':ai} {B:Nat} {v:ah} {l:List bH} (h:gu w B v l) (hm:Md F w w') (C:∀ k,F k→B≤k→∀ cur z,w.heap[k]?≠some (.cells cur 250 z)∧w.heap[k]?≠some (.cells cur 251 z)):gu w' B v l:=by
 obtain ⟨J,E,I⟩:=h;exact ⟨J,Tg.rh E hm fun k A hb cur z=>(C k A hb cur z).1,I.md hm fun k A hb cur z=>(C k A hb cur z).2⟩
theorem gu.wk {w w':ai} {B:Nat} {v:ah} {l:List bH} (h:gu w B v l) (hm:Wk w w'):gu w' B v l:=h.md hm fun _ A=>A.elim
theorem gu.mono {w:ai} {B B':Nat} {v:ah} {l:List bH} (h:gu w B v l) (C:B'≤B):gu w B' v l:=by
 obtain ⟨L,I,J,A⟩:=h;exact ⟨L,I.mono C,J,fun i q e E he=>⟨(A i q e E he).1,(A i q e E he).2.mono C⟩⟩
theorem gu.my {w:ai} {B:Nat} {v:ah} {l:List bH} (h:gu w B v l):∃ A cc,v= .slice A l.length cc∧l.length≤cc∧gh w.heap A l:=by
 obtain ⟨O,E,ad,aa⟩:=h;obtain ⟨A,cc,rfl⟩:=E.slice;obtain ⟨ab,I⟩:=E.mR;refine ⟨A,cc,U,ab,fun h0=>aU.ok I (o8 (f:=fun q:Bool×ah=> [bB q.1,q.2]) (m:=2) (fun _=>rfl) aI ag),fun i hi=> ?_⟩;have L:O[i]? =some (O[i]'ag):=cI ag;have ac:l[i]? =some (bu l i):=by
  unfold bu;rw [cW,cI hi]; rfl
 obtain ⟨g1,g2⟩:=aa i _ _ L ac;obtain ⟨V,Z,M⟩:=g2.slice;have g3:=g2;rw [M] at g3;obtain ⟨_,C⟩:=g3.mR;have J:=mZ (f:=fun q:Bool×ah=> [bB q.1,q.2]) (m:=2) (fun _=>rfl) I L;refine ⟨V,Z,by rw [J 0 ag,g1]; rfl,by rw [J 1 ag,M]; rfl,fun h0=>aU.ok C (o8 (f:=fun e:UInt8×Int=> [bh .u8 e.1.toNat,.int .i64 e.2]) (m:=2) (fun _=>rfl) aI h0),fun k e he=> ?_,fun k e he=> ?_⟩
 · exact mZ (f:=fun e:UInt8×Int=> [bh .u8 e.1.toNat,.int .i64 e.2]) (m:=2) (fun _=>rfl) C he 0 ag
 · exact mZ (f:=fun e:UInt8×Int=> [bh .u8 e.1.toNat,.int .i64 e.2]) (m:=2) (fun _=>rfl) C he 1 ag
set_option maxHeartbeats 2000000 in
theorem JK (rb:Nat) (s:List UInt8) (a:Nat) (w:ai) (bI:aD w.heap rb [str s,aQ a,aQ 0]) (bz:s.length≤1048576) (ha:a≤s.length):
 aY aq 52 (bd [aA rb]) w (fun v w'=> ∃ A q:Nat,aD w'.heap rb [str s,aQ A,aQ q]∧A≤s.length∧((q=0∧∃ l,dy s a= .ok (l,A)∧gu w' w.heap.size v l)∨(q≠0∧(∃ I,dy s a= .error I)∧∃ bf m c,v= .slice bf m c))∧Md (fun k=>k=rb) w w'):=by
 have dR:=bI.lt;refine enter func52 U ntmps52 U<|aP 7 U<|p mv<|e<|aH (rp rb s a 0 w bI bz<|ha) U ?_;rintro v9 eg ⟨n,ax,b8,rfl,aW,b3,dQ,b7,a7⟩;refine aC 3 U ?_;refine ei (fun ca bC=> ∃ (a1:Nat),(aD bC.heap rb [str s,aQ ax,aQ a1])∧((a1=0∧bJ s a= .ok (n,ax)∧¬(n=0∨1048576 < n))∨(a1≠0∧∃ I,dy s a= .error I))∧(Md (fun k=>k=rb) w bC)∧(Sl ca [(0,aA rb),(3,.int .u64 (n:Nat))])) ?_ ?_;refine aP 2 U<|p mv<|aj 2 U<|p (ay U<|aW.aG 2)<|aj 2 U<|gs (t:=15) U (fun b0=> ?_) fun b0=> ?_;have M:=(b7.resolve_right fun h=>h.1 ag).2.2;refine aj 3 U<|gs (t:=18) U (fun c0=> ?_) fun c0=> ?_;refine aj 3 U<|p (rG U)<|aj 4 U<|p mv<|aj 2 U<|e<|st fT U U (U) (aW) (by simp) fun dx bt bj=> ?_
 skip
 exact ar 1 U<|tn<|⟨190,bj,(.inr ⟨aI,_,xc M<|.inl ag⟩),(a7.trans bt),U⟩
 refine aC 6 U<|cd U (fun cW=> ?_) fun cW=> ?_;refine az 1 U<|p mv<|aj 2 U<|e<|st fT U U (U) (aW) (by simp) fun dx bt bj=> ?_
 skip
 exact ar 1 U<|tn<|⟨190,bj,(.inr ⟨aI,_,xc M<|.inr ag⟩),(a7.trans bt),U⟩
 exact aB 1 U<|tn<|⟨b8,aW,(.inl ⟨ag,M,ag⟩),a7,U⟩
 have bX:=b7.resolve_left fun h=>b0<|by rw [h.2.1]; rfl
 exact ar 11 U<|tn<|⟨b8,aW,(.inr ⟨bX.1,bX.2.2.elim (fun h=>absurd U h) fun ⟨ao,h⟩=>⟨ao,Gi h⟩⟩),a7,U⟩
 rintro ca bC ⟨a1,cC,cn,cR,dh⟩;refine bG dh<|bD 5 U ?_;refine ei (fun cb aF=> ∃ (l:List bH) (C:List (Bool×ah)) (ak:ah) (A q:Nat),((q=0∧cY (gO s n) n ax= .ok (l,A)∧bJ s a= .ok (n,ax)∧¬(n=0∨1048576 < n))∨(q≠0∧∃ I,dy s a= .error I))∧(A≤s.length)∧(b9 aF w.heap.size 250 2 ak C.length<|ou C)∧(iE aF w.heap.size C l)∧(aD aF.heap rb [str s,aQ A,aQ q])∧(Md (fun k=>k=rb) w aF)∧(Sl cb [(0,aA rb),(4,ak)])) ?_ ?_;refine bV 1 U<|lp (fun aV cf am=> ∃ (k:Nat) (l:List bH) (C:List (Bool×ah)) (ak:ah) (A q:Nat),(C.length=k)∧(k≤1048577)∧((q=0∧k≤n∧bJ s a= .ok (n,ax)∧¬(n=0∨1048576 < n)∧cY (gO s n) k ax= .ok (l,A))∨(q≠0∧∃ I,dy s a= .error I))∧(A≤s.length)∧(b9 am w.heap.size 250 2 ak C.length<|ou C)∧(iE am w.heap.size C l)∧(aD am.heap rb [str s,aQ A,aQ q])∧(Md (fun k=>k=rb) w am)∧(Sl cf [(0,aA rb),(3,.int .u64 (n:Nat)),(4,ak)])∧(n - k=aV)) _ ⟨0,[],[],.slice none 0 0,ax,a1,U,ag,(cn.imp (fun h=>⟨h.1,ag,h.2.1,h.2.2,U⟩) id),b3,(eL _ _ _ _),(iE.nil _ _),cC,cR,U,U⟩ ?_;rintro aV cf am ⟨k,l,C,ak,A,q,c4,dM,bn,aw,ad,bK,aa,au,dj,rfl⟩;refine bG dj ?_;obtain ⟨aJ,co,rfl⟩:=de ad;refine aP 5 U<|p (jG sf Be U<|jt ag)<|aj 3 U<|gs (t:=31) U (fun c1=> ?_) fun c1=> ?_;refine aj 3 U<|bo U (ay U<|aa.aG 2)<|aC 4 U<|cd U (fun bY=> ?_) fun bY=> ?_;obtain ⟨db,dN,M,av,Z⟩:=bn.resolve_right fun h=>h.1 ag;obtain rfl :q=0:=db;refine az 6 U<|e<|aH (rp rb s A 0 am aa bz<|aw) U ?_;rintro d5 d9 ⟨v0,p1,dt,rfl,bL,c8,dP,b6,bS⟩;refine aC 3 U ?_;refine ei (fun ch bc=> ∃ (a2:Nat),(aD bc.heap rb [str s,aQ p1,aQ a2])∧((a2=0∧bJ s A= .ok (v0,p1)∧¬256 < v0 / 2)∨(a2≠0∧∃ I,dy s a= .error I))∧(Md (fun k=>k=rb) am bc)∧(Sl ch [(0,aA rb),(3,.int .u64 (n:Nat)),(4,.slice aJ C.length co),(5,.int .u64 (v0:Nat))])) ?_ ?_;refine aP 3 U<|p (qu U U ag<|jt ag)<|aC 3 U<|cd U (fun cX=> ?_) fun cX=> ?_;have a8:=(b6.resolve_right fun h=>by have :=h.2.1; omega).2.2;refine az 4 U<|e<|st fT U U (U) (bL) (by simp) fun ek cP cA=> ?_
 skip
 exact ar 1 U<|tn<|⟨190,cA,(.inr ⟨aI,_,rS M av<|jQ Z (GY a8 ag) ag⟩),(bS.trans cP),U⟩
 exact aB 1 U<|tn<|⟨dt,bL,(b6.elim (fun h=> .inl ⟨h.2.1,h.2.2,ag⟩) fun h=> .inr ⟨h.1,h.2.2.elim (fun h=>absurd U h) fun ⟨ao,aK⟩=>⟨ao,rS M av<|jQ Z (GX aK) ag⟩⟩),bS,U⟩
 rintro ch bc ⟨a2,cF,cp,bu,dk⟩;refine bG dk<|bD 1 U<|az 2 U<|p (rm U U ag)<|aj 1 U<|p (dE (ps:= [(0,bB (decide ((v0:Int) % 2=1)))]) (L:= [bB (decide ((v0:Int) % 2=1)),.slice none 0 0]) PF U<|U)<|e<|fv HN fun V ea dC bU cr=> ?_;have dS:=bU.size;refine e<|fk CO U U U U cr (by simp) fun al bT cI=> ?_;have cJ:aD al.heap V [bB (decide ((v0:Int) % 2=1)),.slice none 0 0]:=⟨_,cI⟩
 have a4:Wk bc al:=bU.md.trans' bT fun k E h=>by omega
 have cE:=Wk.B a4 cF;have d0:=au.size;have dY:=bu.size;have d3:=a4.size;have d4:=bT.size;have cM:Md (fun k=>k=rb) w al:=(au.trans bu).trans<|a4.mono fun _ _ h=>h.elim;refine aC 2 U ?_;refine ei (fun ci an=> ∃ (es:List (UInt8×Int)) (O:Option ba) (ce:Nat) (p2 J:Nat),((J=0∧cY (fI s n) (v0 / 2) p1= .ok (es,p2)∧bJ s A= .ok (v0,p1)∧¬256 < v0 / 2)∨(J≠0∧∃ I,dy s a= .error I))∧(p2≤s.length)∧(b9 an al.heap.size 251 2 (.slice O es.length ce) es.length<|kG es)∧(aD an.heap rb [str s,aQ p2,aQ J])∧(aD an.heap V [.bool (decide ((v0:Int) % 2=1)),.slice O es.length ce])∧(Md (fun k=>k=rb∨k=V) al an)∧(Sl ci [(0,aA rb),(3,.int .u64 (n:Nat)),(4,.slice aJ C.length co),(6,aA V)])) ?_ ?_;refine bV 1 U<|lp (fun aV cj aS=> ∃ (j:Nat) (es:List (UInt8×Int)) (bA:ah) (p2 J:Nat),(es.length=j)∧(j≤257)∧((J=0∧j≤v0 / 2∧cY (fI s n) j p1= .ok (es,p2)∧bJ s A= .ok (v0,p1)∧¬256 < v0 / 2)∨(J≠0∧∃ I,dy s a= .error I))∧(p2≤s.length)∧(b9 aS al.heap.size 251 2 bA es.length<|kG es)∧(aD aS.heap rb [str s,aQ p2,aQ J])∧(aD aS.heap V [.bool (decide ((v0:Int) % 2=1)),bA])∧(Md (fun k=>k=rb∨k=V) al aS)∧(Sl cj [(0,aA rb),(3,.int .u64 (n:Nat)),(4,.slice aJ C.length co),(5,.int .u64 (v0:Nat)),(6,aA V)])∧(v0 / 2 - j=aV)) _ ⟨0,[],.slice none 0 0,p1,a2,U,ag,(cp.imp (fun h=>⟨h.1,ag,U,h.2.1,h.2.2⟩) id),c8,(eL _ _ _ _),cE,cJ,(Md.refl _ _),U,U⟩ ?_;rintro aV cj aS ⟨j,es,bA,p2,J,c3,dL,bq,a0,ae,aL,aM,ab,dm,rfl⟩;refine bG dm ?_;obtain ⟨O,ce,rfl⟩:=de ae;have d2:=ab.size;refine aP 4 U<|p (ay U<|aM.aG 1)<|aj 1 U<|p (jG sf Be U<|jt ag)<|aj 1 U<|p (qu U U ag<|jt ag)<|aj 2 U<|gs (t:=57) U (fun c2=> ?_) fun c2=> ?_;refine aj 3 U<|bo U (ay U<|aL.aG 2)<|aC 4 U<|cd U (fun bZ=> ?_) fun bZ=> ?_;obtain ⟨dd,dK,b1,a8,b4⟩:=bq.resolve_right fun h=>h.1 ag;obtain rfl :J=0:=dd;refine az 7 U<|e<|aH (Lt rb s p2 n aS aL bz a0 ag) U ?_;rintro d6 dv ⟨c,t,p3,du,rfl,ct,c9,dq,a5⟩;have dT:=a5.size;have bM:=a5.B aM fun h=>by omega
 refine e<|fv HO fun bF eb dD bW cu=> ?_;have dU:=bW.size;refine e<|fk vt U U U U cu (by simp) fun bE cS cG=> ?_;have cz:aD bE.heap bF [bh .u8 c.toNat,.int .i64 t]:=⟨_,cG⟩
 have aN:Wk dv bE:=bW.md.trans' cS fun k E h=>by omega
 have dZ:=aN.size;refine aj 4 U<|p (ay U<|(Wk.B aN bM).aG 1)<|p (fi vg U (U) (show ∀ j,j < 2→aO bE.heap bF (0 +j)=([bh .u8 c.toNat,.int .i64 t]:List ah)[j]? from fun j _=>cz.aG j))<|e<|lU GI U U U fun dz ec dF aZ cv=> ?_;have dV:=aZ.size;have c7:=aR (aR (cB ae a5 fun k E h=>by have :=da ae E; omega) aN) aZ.md;refine e<|ap GI (c7) U ag U (aU.dB cv) (U) (U) ag ag fun d7 ed b2 a6 dr cZ=> ?_;have dr:=a6.size;have a9:∀ k,(eY O es.length ce).ownBlock=some k→al.heap.size≤k:=fun k h=>(da ae h).1;have cK:=a6.B (Wk.B aZ.md<|Wk.B aN bM) fun h=>by have :=a9 V h; omega
 have cw:=a6.B (Wk.B aZ.md<|Wk.B aN ct) fun h=>by have :=a9 rb h; omega
 obtain ⟨ck,sY,rfl⟩:=de b2;refine aj 1 U<|e<|st KR U U (U) (cK) (by simp) fun eh br cq=> ?_;have cH:=br.B cw fun h=>by omega
 exact ar 2 U<|tn<|⟨_,ag,j+1,es++ [(c,t)],.slice ck (es.length+1) sY,p3,du,(by rw [bp,c3]; rfl),ag,(dq.imp (fun h=>⟨h.1,ag,n5 b1 h.2,a8,b4⟩) fun h=>⟨h.1,h.2.elim fun ao aK=>⟨ao,rS M av<|jQ Z (GZ a8 b4<|jQ b1 aK ag) ag⟩⟩),c9,(by rw [bp,Df]; exact cB b2 br fun k E h=>by rcases cZ k E with aK | aK; exact absurd (a9 k aK) ag; omega),cH,cq,(((((ab.trans<|a5.mono fun _ _ h=> .inl h).trans<|aN.mono fun _ _ h=>h.elim).trans<|aZ.md.mono fun _ _ h=>h.elim).trans' a6 fun k E h=>by have :=a9 k h; omega).trans<|br.mono fun _ _ h=> .inr h),U,U⟩
 exact aB 2 U<|cg<|bg 1 U<|tn<|⟨es,O,ce,p2,J,(bq.elim (fun h=>absurd h.1 fun ao=>bZ ag) .inr),a0,ae,aL,aM,ab,U⟩
 exact ar 11 U<|cg<|bg 1 U<|tn<|⟨es,O,ce,p2,J,(bq.elim (fun h=> .inl ⟨h.1,(by have cm:=h.2.1; have bi:j=v0 / 2:=ag; subst bi; exact h.2.2.1),h.2.2.2.1,h.2.2.2.2⟩) .inr),a0,ae,aL,aM,ab,U⟩
 rintro ci an ⟨es,O,ce,p2,J,cO,a0,ae,aL,aM,ab,dl⟩;refine bG dl ?_;have d1:=ab.size;have bN:Md (fun k=>k=rb∨k=V) am an:=((bu.mono fun k _ h=> .inl h).trans<|a4.mono fun _ _ h=>h.elim).trans ab;have cN:Md (fun k=>k=rb) w an:=cM.trans' ab fun k E h=>by rcases h with h | h; exact h; omega
 have bx:=cB ad bN fun k E h=>by have :=da ad E; omega
 have dp:=bK.md bN (fun k E hb=>by
  rcases E with E | E;omega;exact fun cur z=>Ff ag cur _ z)
 refine az 2 U<|p (fi B7 U (U) (show ∀ j,j < 2→aO an.heap V (0 +j)=([.bool (decide ((v0:Int) % 2=1)),.slice O es.length ce]:List ah)[j]? from fun j _=>aM.aG j))<|e<|lU GK U U U fun dA ee dG ac cx=> ?_;have dX:=ac.size;refine e<|ap GK (aR bx ac.md) U ag U (aU.dB cx) (U) (U) ag ag fun v76 dw c6 aX ds dJ=> ?_;have ds:=aX.size;have b5:∀ k,(eY aJ C.length co).ownBlock=some k→w.heap.size≤k:=fun k h=>(da ad h).1;have cy:=aX.B (Wk.B ac.md aL) fun h=>by have :=b5 rb h; omega
 have cU:Tg dw w.heap.size 251 es.length (.slice O es.length ce) (kG es):=Tg.rh (((Tg.oh ae).mono ag).wk ac.md) aX fun k E _=>hH (aR bx ac.md) aI k E;have dn:=(dp.wk ac.md).md aX fun k E _=>hH (aR bx ac.md) aI k E;have cL:=(cN.trans<|ac.md.mono fun _ _ h=>h.elim).trans' aX fun k E h=>by have :=b5 k h; omega
 exact p aT<|ar 2 U<|tn<|⟨_,ag,k+1,l++ [(decide (v0 % 2=1),es)],C++ [(decide ((v0:Int) % 2=1),.slice O es.length ce)],v76,p2,J,(by rw [bp,c4]; rfl),ag,(cO.imp (fun h=>⟨h.1,ag,M,av,n5 Z<|G0 h.2.2.1 h.2.2.2 h.2.1⟩) id),a0,(by rw [bp,Gx]; exact c6),(by rw [show decide ((v0:Int) % 2=1)=decide (v0 % 2=1) from decide_eq_decide.2 ag] at*; exact iE.snoc (e:=(decide (v0 % 2=1),es)) dn cU),cy,cL,U,U⟩
 exact aB 2 U<|cg<|bg 1 U<|tn<|⟨l,C,.slice aJ C.length co,A,q,(bn.elim (fun h=>absurd h.1 fun ao=>bY ag) .inr),aw,ad,bK,aa,au,U⟩
 exact ar 11 U<|cg<|bg 1 U<|tn<|⟨l,C,.slice aJ C.length co,A,q,(bn.elim (fun h=> .inl ⟨h.1,(by have cm:=h.2.1; have bi:k=n:=ag; subst bi; exact h.2.2.2.2),h.2.2.1,h.2.2.2.1⟩) .inr),aw,ad,bK,aa,au,U⟩
 rintro cb aF ⟨l,C,ak,A,q,bO,aw,ad,bK,aa,au,di⟩;refine bG di<|az 6 U<|p (ay U<|aa.aG 2)<|aC 3 U<|cd U (fun bv=> ?_) fun bv=> ?_;obtain ⟨dc,cV⟩:=bO.resolve_left fun h=>bv<|by rw [h.1]; rfl
 exact aB 7 U<|aE U<|⟨A,q,aa,aw,.inr ⟨dc,cV,none,0,0,U⟩,au⟩
 obtain ⟨_,Z,M,av⟩:=bO.resolve_right fun h=>bv ag;refine bD 3 U ?_;have bP:gu aF w.heap.size ak l:=⟨C,by have h:=Tg.oh ad; rw [bK.1] at h; exact h,bK⟩
 obtain ⟨bf,cc,rfl,dH,cT⟩:=bP.my;have dO:=ke Z;have c5:∀ x∈l,x.2.length≤256:=fun x bb=>(ph (R:=fun A=>A≤s.length) (S:=fun x:bH=>x.2.length≤256) (fun A x q' hr bb=>⟨(uc bb).2.1,(uc bb).2.2.1⟩) b3 Z).2 x bb;refine az 3 U<|e<|aH (Pk l bf cc aF cT ag fun i hi=>cQ (c5 _<|gK (d:=dI) hi) aI) U ?_;rintro d8 ef ⟨rfl,bm⟩;refine aj 2 U<|e<|st fT U U (U) (Wk.B bm aa) (by simp) fun ej bR a3=> ?_
 skip
 refine ar 9 U<|aE U ?_;have bQ:=(au.trans<|bm.mono fun _ _ h=>h.elim).trans bR;cases hsh:shaped l with
 | true =>
   rw [xf hsh] at a3;exact ⟨A,0,a3,aw,.inl ⟨U,l,Gk M av Z hsh,(bP.wk bm).md bR fun k E hb=>absurd hb ag⟩,bQ⟩
 | false =>
   rw [mu hsh] at a3;exact ⟨A,190,a3,aw,.inr ⟨aI,⟨_,Gj M av Z hsh⟩,_,_,_,U⟩,bQ⟩
theorem Pa {r:List UInt8×List UInt8} (E:(!gG r.1)=false) (I:(!gG r.2)=false) (J:¬(r.1.length:Int)=0) (L:¬(r.1.length:Int) > 32) (M:¬(r.2.length:Int) > 32):jr r=true :=by
 have A:gG r.1=true :=by simpa using E
 have C:gG r.2=true :=by simpa using I
 exact Gt (fun h=>J<|by rw [h]; rfl) (by rw [A,decide_eq_true ag]; rfl)<|by rw [C,decide_eq_true ag]; rfl
theorem OL (ls:Nat) (t:List UInt8) (rs:List (List UInt8×List UInt8)) (ra:Option ba) (rc:Nat) (v3 v4 v5 v6:ah) (w:ai) (av:aU w.heap ra (rs.flatMap iN)) (bh:ls≤64) (bm:t.length≤1048576) (bi:rs.length≤1048576) (a4:∀ r∈rs,r.1.length≤1048576∧r.2.length≤1048576):
 aY aq 51 (bd [.agg #[aQ ls,str t,.slice ra rs.length rc,v3,v4,v5,v6]]) w (fun v w'=>v= .bool (fL ls t rs)∧Wk w w'):=by
 refine enter func51 U ntmps51 U<|aP 2 U<|e<|lV U fun I w1 bb O C=>aj 7 U<|p (ay U<|C.aG 0)<|aj 2 U<|gs (t:=12) U (fun a2=> ?_) fun a2=> ?_;exact aj 4 U<|p mv<|ar 15 U<|aE U<|⟨(congrArg bB<|rU (t:=t) (rs:=rs)<|.inl (show ls < 1 by omega)).symm,O.md⟩
 refine aj 1 U<|bo U (ay U<|C.aG 0)<|aj 3 U<|gs (t:=17) U (fun a3=> ?_) fun a3=> ?_;exact ar 15 U<|aE U<|⟨(congrArg bB<|rU (t:=t) (rs:=rs)<|.inr<|.inl (show 64 < ls by omega)).symm,O.md⟩
 refine aj 1 U<|bo U (ay U<|C.aG 2)<|aC 5 U<|cd U (fun a0=> ?_) fun a0=> ?_;exact aB 7 U<|aE U<|⟨(congrArg bB<|rU<|.inr<|.inr (show 256 < rs.length by omega)).symm,O.md⟩
 refine az 5 U<|p (ay U<|C.aG 1)<|e<|aH (Ot t w1 ag) U ?_;rintro bn br ⟨rfl,aw⟩;have M:=O.md.trans aw;have J:=Wk.B aw C;refine p mv<|aC 6 U ?_;refine ei (fun aN an=> ∃ (a8:Unit),(t= []∨letE t=(t,0))∧(Wk w an)∧(aD an.heap I [aQ ls,str t,.slice ra rs.length rc,v3,v4,v5,v6])∧(Sl aN [(1,aA I)])) ?_ ?_;refine aP 3 U<|p (ay U<|J.aG 1)<|aj 3 U<|gs (t:=33) U (fun E=> ?_) fun E=> ?_;refine aj 3 U<|gs (t:=36) U (fun ae=> ?_) fun ae=> ?_;exact aj 5 U<|p (rG U)<|ar 9 U<|tr<|aE U<|⟨(congrArg bB<|xe (fun h=>by rw [h] at E; exact absurd E aI) fun h=>by rw [h] at ae; exact ae U).symm,M⟩
 refine aj 2 U<|bo U (ay U<|J.aG 1)<|aC 5 U<|cd U (fun ad=> ?_) fun ad=> ?_;exact aB 6 U<|tr<|aE U<|⟨(congrArg bB<|xe (fun h=>by rw [h] at E; exact absurd E aI) fun h=>ad<|by rw [h]).symm,M⟩
 exact aB 1 U<|tn<|⟨(),(.inr<|Prod.ext (mD.1 ad)<|by show (letE t).2=0; omega),M,J,U⟩
 exact ar 13 U<|tn<|⟨(),(.inl<|uJ.1 ag),M,J,U⟩
 rintro aN an ⟨a8,a7,aW,aV,a5⟩;refine bG a5<|bD 7 U<|lp (fun ao aO V=> ∃ (i:Nat),(i≤rs.length)∧(∀ j,j < i→jr (rs.getD j jH)=true)∧(Wk w V)∧(aD V.heap I [aQ ls,str t,.slice ra rs.length rc,v3,v4,v5,v6])∧(Sl aO [(1,aA I),(5,aQ i)])∧(rs.length - i=ao)) _ ⟨0,ag,(fun j aL=>by omega),aW,aV,U,U⟩ ?_;rintro ao aO V ⟨i,hi,aM,L,aa,a6,rfl⟩;refine bG a6<|aP 5 U<|p (ay U<|aa.aG 2)<|aC 4 U<|cd U (fun a1=> ?_) fun a1=> ?_;refine az 7 U<|p (ay U<|aa.aG 2)<|aj 1 U<|p (bZ LD U U ag<|aU.ok (av.wk L)<|Gb ag)<|p (fi Jv U (U)<|Ga (av.wk L) ag)<|e<|fv Q3 fun aR bt bc aZ aS=>e<|fk KN U U U U aS (by simp) fun am aX aT=> ?_;have au:aD am.heap aR [str (rs.getD i jH).1,str (rs.getD i jH).2]:=⟨_,aT⟩
 have ax:Wk V am:=Md.trans' aZ.md aX fun k bf h=>by omega
 have bj:=a4 _<|gK (d:=jH) (show i < rs.length by omega);refine aj 5 U<|p (ay U<|au.aG 0)<|e<|aH (wQ _ am ag) U ?_;rintro bp a9 ⟨rfl,ab⟩;have ap:=Wk.B ab au;refine aj 6 U<|p (ay U<|ap.aG 1)<|e<|aH (wQ _ a9 ag) U ?_;rintro bq bu ⟨rfl,ac⟩;have Z:=Wk.B ac ap;have A:=((L.trans ax).trans ab).trans ac;refine aj 8 U<|gb (t:=63) U (fun ak=> ?_) fun ak=> ?_;exact aj 3 U<|p mv<|aj 5 U<|p mv<|aj 5 U<|p mv<|ar 16 U<|tr<|bg 2 U<|aE U<|⟨(congrArg bB<|oo (show i < rs.length by omega)<|AP<|by rw [nT ak]; rfl).symm,A⟩
 refine aj 4 U<|gb (t:=67) U (fun al=> ?_) fun al=> ?_;exact aj 5 U<|p mv<|aj 5 U<|p mv<|ar 16 U<|tr<|bg 2 U<|aE U<|⟨(congrArg bB<|oo (show i < rs.length by omega)<|AQ<|by rw [nT al]; rfl).symm,A⟩
 refine aj 1 U<|bo U (ay U<|Z.aG 0)<|aj 4 U<|gs (t:=73) U (fun aJ=> ?_) fun aJ=> ?_;exact aj 5 U<|p mv<|ar 16 U<|tr<|bg 2 U<|aE U<|⟨(congrArg bB<|oo (show i < rs.length by omega)<|Gs<|uJ.1 ag).symm,A⟩
 refine aj 1 U<|bo U (ay U<|Z.aG 0)<|aj 4 U<|gs (t:=79) U (fun aK=> ?_) fun aK=> ?_;exact ar 16 U<|tr<|bg 2 U<|aE U<|⟨(congrArg bB<|oo (show i < rs.length by omega)<|AP<|by rw [decide_eq_false ag,HX]).symm,A⟩
 refine aj 1 U<|bo U (ay U<|Z.aG 1)<|aC 5 U<|cd U (fun aF=> ?_) fun aF=> ?_;exact aB 8 U<|tr<|bg 2 U<|aE U<|⟨(congrArg bB<|oo (show i < rs.length by omega)<|AQ<|by rw [decide_eq_false ag,HX]).symm,A⟩
 exact az 5 U<|p (bW<|i+1)<|ar 2 U<|tn<|⟨_,ag,i+1,ag,(fun j aL=>by rcases dN j i with h | h <;> first | exact aM j h | (rw [show j=i by omega]; exact Pa ak al aJ aK aF)),A,(Wk.B ((ax.trans ab).trans ac) aa),U,U⟩
 exact aB 2 U<|cg<|bg 8 U<|aE U<|⟨(congrArg bB<|Gq ag a7 fun j aL=>aM j ag).symm,L⟩
end Go.Hb
end
section
namespace Go.Hb.qE
open Go.Hb.kC Go.Hb.lP
def iY (w:ai) (B:Nat) (cs:List ah) (b:eS):Prop := ∃ ra rc vs,cs= [.int .i64 (b.least:Nat),str b.tr,.slice ra b.kP.length rc]++vs∧vs.length=4∧aU w.heap ra (b.kP.flatMap iN)∧∀ i,i < 4→gu w B (vs.getD i .nilFunc) (b.jq.getD i [])
theorem iY.wk {w w':ai} {B:Nat} {cs:List ah} {b:eS} (h:iY w B cs b) (hm:Wk w w'):iY w' B cs b:=by
 obtain ⟨ra,rc,vs,A,C,E,I⟩:=h;exact ⟨ra,rc,vs,A,C,E.wk hm,fun i hi=>(I i hi).wk hm⟩
theorem iY.one {w:ai} {B:Nat} {cs:List ah} {b:eS} (h:iY w B cs b):cs.length=7∧cs.all kW=true :=by
 obtain ⟨ra,rc,vs,rfl,L,_,M⟩:=h;obtain ⟨C,E,I,J,rfl⟩:∃ C E I J,vs= [C,E,I,J]:=by
  match vs,L with
  | [C,E,I,J],_=>exact ⟨_,_,_,_,rfl⟩
 have A:∀ i,i < 4→([C,E,I,J].getD i .nilFunc).oneCell'=true :=fun i hi=>by
  obtain ⟨_,_,e,_⟩:=(M i hi).my;rw [e]; rfl
 have g0:=A 0 ag;have g1:=A 1 ag;have g2:=A 2 ag;have g3:=A 3 ag;simp only [oE,BI] at g0 g1 g2 g3;exact ⟨U,by simp only [List.cons_append,oF,uD,BH,g0,g1,g2,g3]; rfl⟩
def u5 (s:List UInt8) (w:ai) (v:ah) (w':ai):Prop :=((∃ b cs,cC s= .ok b∧v= .tuple #[.agg cs.toArray,.int .i64 0]∧iY w' w.heap.size cs b)∨((∃ A,cC s= .error A)∧∃ q:Nat,q≠0∧v= .tuple #[.agg [bh .i64 0,str [],.slice none 0 0,.slice none 0 0,.slice none 0 0,.slice none 0 0,.slice none 0 0].toArray,.int .i64 (q:Nat)]))∧Wk w w'
theorem K7 {s:List UInt8} {n p1 M p2 O m p3 U:Nat} {t:List UInt8} (hm:s.take 4=gn) (A:((0:Nat)=0∧M=0∧bJ s 4= .ok (n,p1))∨(M≠0∧n=0∧((0:Nat)≠0∨∃ e,bJ s 4= .error e)))
 (C:(M=0∧O=0∧dK s p1= .ok (t,p2))∨(O≠0∧(M≠0∨∃ e,dK s p1= .error e))) (E:(O=0∧U=0∧bJ s p2= .ok (m,p3))∨(U≠0∧m=0∧(O≠0∨∃ e,bJ s p2= .error e))):(U=0∧bJ s 4= .ok (n,p1)∧dK s p1= .ok (t,p2)∧bJ s p2= .ok (m,p3))∨(U≠0∧∃ J,cC s= .error J):=by
 rcases A with ⟨_,V,A⟩ | ⟨V,_,A⟩
 · rcases C with ⟨_,L,C⟩ | ⟨L,C⟩
   · rcases E with ⟨_,I,E⟩ | ⟨I,_,E⟩
     · exact .inl ⟨I,A,C,E⟩
     · exact .inr ⟨I,E.elim (fun h=>absurd L h) fun ⟨e,h⟩=>⟨e,C2 hm A C h⟩⟩
   · have hb:∃ J,cC s= .error J:=C.elim (fun h=>absurd V h) fun ⟨e,h⟩=>⟨e,C1 hm A h⟩
     rcases E with ⟨h,_⟩ | ⟨I,_⟩
     · exact absurd h L
     · exact .inr ⟨I,hb⟩
 · have hb:∃ J,cC s= .error J:=A.elim (fun h=>absurd rfl h) fun ⟨e,h⟩=>⟨e,C0 hm h⟩
   rcases C with ⟨h,_⟩ | ⟨L,_⟩
   · exact absurd h V
   · rcases E with ⟨h,_⟩ | ⟨I,_⟩
     · exact absurd h L
     · exact .inr ⟨I,hb⟩
def tT (s:List UInt8) (k a:Nat):List (List bH):=match cY (dy s) k a with
 | .ok x=>x.1
 | .error _=> []
theorem O4 {s:List UInt8} {w w1 w':ai} {B A C Z ad f9 J rb M V:Nat} {t:List UInt8} {rs:List (List UInt8×List UInt8)} {ls:List (List bH)} {vs:List ah} {L:Option ba} {cc:Nat} (O:cY (dy s) A C= .ok (ls,Z)) (aa:cC s=iq s J t rs C) (bK:fL J t rs=true)
 (aq:(f9=0∧∃ l,dy s Z= .ok (l,ad)∧gu w1 w.heap.size (.slice L V cc) l)∨(f9≠0∧(∃ E,dy s Z= .error E)∧∃ a2 ar c2,eY L V cc= .slice a2 ar c2)) (ak:∀ i,i < A→gu w B (vs.getD i .nilFunc) (ls.getD i [])) (I:A < 4) (au:vs.length=4)
 (al:Md (fun k=>k=rb∨k=M) w w') (ac:∀ k,k=rb∨k=M→k < B) (aj:B≤w.heap.size) (am:Md (fun k=>k=M) w1 w'):(f9=0∧(cC s=iq s J t rs C∧fL J t rs=true)∧cY (dy s) (A+1) C= .ok (tT s (A+1) C,ad)∧∀ i,i < A+1→gu w' B ((vs.set A<|.slice L V cc).getD i .nilFunc) ((tT s (A+1) C).getD i []))∨(f9≠0∧∃ E,cC s= .error E):=by
 rcases aq with ⟨h0,l,an,ae⟩ | ⟨h0,⟨E,he⟩,_⟩
 · have ab:=n5 O an;have ao:=ke O;have ap:tT s (A+1) C=ls++ [l]:=by unfold tT; rw [ab]
   rw [ab,ap];refine .inl ⟨h0,⟨aa,bK⟩,U,fun i hi=> ?_⟩;rcases dN i A with h | h
   · rw [Eh ag,Ed ag];exact (ak i h).md al fun k I hb=>absurd hb<|by have :=ac k I; omega
   · obtain rfl :i=A:=ag;rw [Eg ag,Ec ao.symm];exact (ae.mono aj).md am fun k I hb=>absurd hb<|by have :=ac k (.inr I); omega
 · exact .inr ⟨h0,E,by rw [aa,CX bK (jQ O he I)]⟩
set_option maxHeartbeats 4000000 in
theorem Of (s:List UInt8) (w:ai) (a5:s.length≤1048576):
 aY aq 23 (bd [str s]) w (u5 s w):=by
 refine enter func23 U ntmps23 U<|aP 2 U<|e<|al Bu fun V w2 J bO bZ=>aj 6 U<|p mv<|aj 3 U<|gs (t:=15) U (fun ed=> ?_) fun ed=> ?_;have au:¬s.take 4=gn:=fun h=>by have :=congrArg jx h; rw [bX] at this; simp only [gn,cn,fq] at this; omega
 refine aj 9 U<|p (dE (ps:= []) (L:= [.int .i64 0,.string ⟨⟨[]⟩⟩,.slice none 0 0,.slice none 0 0,.slice none 0 0,.slice none 0 0,.slice none 0 0]) xn U<|U)<|e<|r6 qL U U U U (bZ) (by simp) fun eP b2 b0=> ?_
 skip
 exact ar 5 U<|nR U (jn (cs:= [bh .i64 0,str [],.slice none 0 0,.slice none 0 0,.slice none 0 0,.slice none 0 0,.slice none 0 0]) U oW U fun j cj=>b0.aG j) np<|⟨.inr ⟨⟨_,yY au⟩,200,aI,U⟩,bO.md.trans' b2 fun k A h=>by omega⟩
 refine bo U mv<|bo U (rZ u9 U U ag)<|aC 4 U<|cd U (fun cf=> ?_) fun cf=> ?_;have au:¬s.take 4=gn:=cf;refine az 2 U<|p (dE (ps:= []) (L:= [.int .i64 0,.string ⟨⟨[]⟩⟩,.slice none 0 0,.slice none 0 0,.slice none 0 0,.slice none 0 0,.slice none 0 0]) xn U<|U)<|e<|r6 qL U U U U (bZ) (by simp) fun eP b2 b0=> ?_
 skip
 exact ar 5 U<|nR U (jn (cs:= [bh .i64 0,str [],.slice none 0 0,.slice none 0 0,.slice none 0 0,.slice none 0 0,.slice none 0 0]) U oW U fun j cj=>b0.aG j) np<|⟨.inr ⟨⟨_,yY au⟩,200,aI,U⟩,bO.md.trans' b2 fun k A h=>by omega⟩
 have au:s.take 4=gn:=mD.1 cf;refine az 4 U<|p mv<|p (dE (ps:= [(0,str s),(1,.int .i64 ((4:Nat):Int))]) (L:= [str s,.int .i64 ((4:Nat):Int),.int .i64 0]) Pz U<|U)<|e<|lV U fun cZ ft eS b3 db=> ?_;obtain ⟨rb,rfl⟩:∃ rb,rb=cZ:=⟨_,rfl⟩
 have e4:=bO.size;have e6:=b3.size;refine aj 5 U<|p (dE (ps:= []) (L:= [.int .i64 0,.string ⟨⟨[]⟩⟩,.slice none 0 0,.slice none 0 0,.slice none 0 0,.slice none 0 0,.slice none 0 0]) xn U<|U)<|e<|al Bu fun O fx I bP dl=> ?_;have fc:=bP.size;refine e<|r6 qL U U U U (dl) (by simp) fun bz bL dk=> ?_;have fb:=bL.size;have I:aD bz.heap O [bh .i64 0,str [],.slice none 0 0,.slice none 0 0,.slice none 0 0,.slice none 0 0,.slice none 0 0]:=dk;have J:aD bz.heap V [bh .i64 0,str [],.slice none 0 0,.slice none 0 0,.slice none 0 0,.slice none 0 0,.slice none 0 0]:=bL.B (Wk.B bP.md<|Wk.B b3.md bZ) fun h=>by omega
 have C:aD bz.heap rb [str s,aQ 4,aQ 0]:=bL.B (Wk.B bP.md db) fun h=>by omega
 have dv:Wk w bz:=((bO.md.trans b3.md).trans bP.md).trans' bL fun k A h=>by omega
 refine aj 5 U<|e<|aH (rp rb s 4 0 bz C a5 ag) U ?_;rintro fj Z ⟨n,p1,cq,rfl,cu,en,eV,eB,bE⟩;have e8:=bE.size;have cy:=bE.B J fun h=>by omega
 have cA:=bE.B I fun h=>by omega
 have cx:=(dv).trans' bE fun k A h=>by omega
 refine aC 3 U ?_;refine ei (fun cQ aT=> ∃ (eI:Unit),(aD aT.heap V [bh .i64 0,str [],.slice none 0 0,.slice none 0 0,.slice none 0 0,.slice none 0 0,.slice none 0 0])∧(aD aT.heap O<|[bh .i64 ((if n≤64 then n else 0:Nat):Int),str [],.slice none 0 0,.slice none 0 0,.slice none 0 0,.slice none 0 0,.slice none 0 0])∧(aD aT.heap rb [str s,aQ p1,aQ cq])∧(Wk w aT)∧(Z.heap.size≤aT.heap.size)∧(Sl cQ [(0,str s),(2,aA V),(4,aA rb),(5,aA O)])) ?_ ?_;refine bV 6 U<|cd U (fun d8=> ?_) fun d8=> ?_;refine az 2 U<|p (jG u3 oz U<|km ag)<|aj 1 U<|e<|st fT U U (U) (cA) (by simp) fun fF bM dq=> ?_
 skip
 exact ar 1 U<|tn<|⟨(),(bM.B cy fun h=>by omega),(by rw [if_pos ag]; exact dq),(bM.B cu fun h=>by omega),(cx.trans' bM fun k A h=>by omega),bM.size,U⟩
 exact aB 1 U<|tn<|⟨(),cy,(by rw [if_neg ag]; exact cA),cu,cx,(bf _),U⟩
 rintro cQ aT ⟨eI,J,I,C,M,ab,et⟩;refine bG et<|az 3 U<|e<|aH (zw rb s p1 cq aT C a5<|en) U ?_;rintro fk fv ⟨t,p2,c1,rfl,dj,eo,eW,eC,bF⟩;have e9:=bF.size;have dN:=bF.B J fun h=>by omega
 have dV:=bF.B I fun h=>by omega
 have dD:=(M).trans' bF fun k A h=>by omega
 refine aj 1 U<|e<|st CU U U (U) (dV) (by simp) fun cP bN dr=> ?_;have fh:=bN.size;have dZ:aD cP.heap O [bh .i64 ((if n≤64 then n else 0:Nat):Int),str t,.slice none 0 0,.slice none 0 0,.slice none 0 0,.slice none 0 0,.slice none 0 0]:=dr;have dR:=bN.B dN fun h=>by omega
 have d6:=bN.B dj fun h=>by omega
 have dI:=dD.trans' bN fun k A h=>by omega
 refine aj 5 U<|e<|aH (rp rb s p2 c1 cP d6 a5<|eo) U ?_;rintro fl fw ⟨m,p3,cr,rfl,bB,ep,eX,eD,bI⟩;have fa:=bI.size;have b6:=bI.B dR fun h=>by omega
 have b8:=bI.B dZ fun h=>by omega
 have b5:=(dI).trans' bI fun k A h=>by omega
 have ct:=K7 au eB eC eD;refine aC 3 U ?_;refine ei (fun cR a6=> ∃ (a7:Nat),(aD a6.heap V [bh .i64 0,str [],.slice none 0 0,.slice none 0 0,.slice none 0 0,.slice none 0 0,.slice none 0 0])∧(aD a6.heap O<|[bh .i64 ((if n≤64 then n else 0:Nat):Int),str t,.slice none 0 0,.slice none 0 0,.slice none 0 0,.slice none 0 0,.slice none 0 0])∧(aD a6.heap rb [str s,aQ p3,aQ a7])∧(Wk w a6)∧(Z.heap.size≤a6.heap.size)∧((a7=0∧(bJ s 4= .ok (n,p1)∧dK s p1= .ok (t,p2)∧bJ s p2= .ok (m,p3))∧¬256 < m)∨(a7≠0∧∃ ac,cC s= .error ac))∧(Sl cR [(0,str s),(2,aA V),(4,aA rb),(5,aA O),(7,.int .u64 (m:Nat))])) ?_ ?_;refine aP 5 U<|p (ay U<|bB.aG 2)<|aj 2 U<|gs (t:=42) U (fun cJ=> ?_) fun cJ=> ?_;have aa:=(ct.resolve_right fun h=>h.1 ag).2;refine aC 5 U<|cd U (fun d9=> ?_) fun d9=> ?_;refine az 4 U<|e<|st fT U U (U) (bB) (by simp) fun fC bC c6=> ?_;have e1:=bC.size;exact ar 1 U<|tn<|⟨201,(bC.B b6 fun h=>by omega),(bC.B b8 fun h=>by omega),c6,(b5.trans' bC fun k A h=>by omega),ag,(.inr ⟨aI,_,C3 au aa.1 aa.2.1 aa.2.2 ag⟩),U⟩
 exact aB 1 U<|tn<|⟨cr,b6,b8,bB,b5,ag,(.inl ⟨ag,aa,ag⟩),U⟩
 exact ar 7 U<|tn<|⟨cr,b6,b8,bB,b5,ag,(ct.elim (fun h=>absurd h.1 fun am=>cJ ag) .inr),U⟩
 rintro cR a6 ⟨a7,J,I,C,M,ab,c2,eu⟩;refine bG eu ?_;refine ei (fun cS aw=> ∃ (rs:List (List UInt8×List UInt8)) (ra:Option ba) (rc ak f6:Nat),(aD aw.heap V [bh .i64 0,str [],.slice none 0 0,.slice none 0 0,.slice none 0 0,.slice none 0 0,.slice none 0 0])∧(aD aw.heap O<|[bh .i64 ((if n≤64 then n else 0:Nat):Int),str t,.slice ra rs.length rc,.slice none 0 0,.slice none 0 0,.slice none 0 0,.slice none 0 0])∧(aD aw.heap rb [str s,aQ ak,aQ f6])∧(Wk w aw)∧(Z.heap.size≤aw.heap.size)∧(ak≤s.length)∧((f6=0∧(bJ s 4= .ok (n,p1)∧dK s p1= .ok (t,p2)∧bJ s p2= .ok (m,p3))∧¬256 < m∧cY (iM s) m p3= .ok (rs,ak))∨(f6≠0∧∃ ac,cC s= .error ac))∧(rs.length≤257)∧(∀ r∈rs,r.1.length≤255∧r.2.length≤255)∧(b9 aw Z.heap.size 154 2 (.slice ra rs.length rc) rs.length<|rs.flatMap iN)∧(Sl cS [(0,str s),(2,aA V),(4,aA rb),(5,aA O)])) ?_ ?_;refine bV 1 U<|lp (fun a8 cT aM=> ∃ (rs:List (List UInt8×List UInt8)) (co:ah) (aS f:Nat),(aD aM.heap V [bh .i64 0,str [],.slice none 0 0,.slice none 0 0,.slice none 0 0,.slice none 0 0,.slice none 0 0])∧(aD aM.heap O<|[bh .i64 ((if n≤64 then n else 0:Nat):Int),str t,co,.slice none 0 0,.slice none 0 0,.slice none 0 0,.slice none 0 0])∧(aD aM.heap rb [str s,aQ aS,aQ f])∧(Wk w aM)∧(Z.heap.size≤aM.heap.size)∧(aS≤s.length)∧((f=0∧rs.length≤m∧(bJ s 4= .ok (n,p1)∧dK s p1= .ok (t,p2)∧bJ s p2= .ok (m,p3))∧¬256 < m∧cY (iM s) rs.length p3= .ok (rs,aS))∨(f≠0∧∃ ac,cC s= .error ac))∧(rs.length≤257)∧(∀ r∈rs,r.1.length≤255∧r.2.length≤255)∧(b9 aM Z.heap.size 154 2 co rs.length<|rs.flatMap iN)∧(Sl cT [(0,str s),(2,aA V),(4,aA rb),(5,aA O),(7,.int .u64 (m:Nat))])∧(m - rs.length=a8)) _ ⟨[],.slice none 0 0,p3,a7,J,I,C,M,ab,ep,(c2.imp (fun h=>⟨h.1,Nat.zero_le _,h.2.1,h.2.2,U⟩) id),aI,(fun r hr=>by cases hr),(eL _ _ _ _),U,U⟩ ?_;rintro a8 cT aM ⟨rs,co,aS,f,J,I,C,M,ab,bu,a0,cm,bv,E,ew,rfl⟩;refine bG ew ?_;obtain ⟨ra,rc,rfl⟩:=de E;refine aP 4 U<|p (ay U<|I.aG 2)<|aj 1 U<|p (jG sf Be U<|jt ag)<|aj 3 U<|gs (t:=55) U (fun ee=> ?_) fun ee=> ?_;refine aj 3 U<|bo U (ay U<|C.aG 2)<|aC 4 U<|cd U (fun cF=> ?_) fun cF=> ?_;obtain ⟨ci,eZ,aa,bt,br⟩:=a0.resolve_right fun h=>h.1 ag;obtain rfl :f=0:=ci;refine az 6 U<|e<|aH (zw rb s aS 0 aM C a5<|bu) U ?_;rintro fm eM ⟨cp,p5,f5,rfl,dm,eq,eg,cN,bj⟩;have fd:=bj.size;have dO:=bj.B J fun h=>by omega
 have dX:=bj.B I fun h=>by omega
 have dF:=(M).trans' bj fun k A h=>by omega
 refine aj 6 U<|e<|aH (zw rb s p5 f5 eM dm a5<|eq) U ?_;rintro fo fy ⟨x2,eG,f6,rfl,dn,er,eh,eE,bm⟩;have fe:=bm.size;have dP:=bm.B dO fun h=>by omega
 have cE:=bm.B dX fun h=>by omega
 have dG:=(dF).trans' bm fun k A h=>by omega
 have el:=cB (cB E bj fun k A h=>by have :=(da E A).1; omega) bm fun k A h=>by have :=(da E A).1; omega
 refine aj 5 U<|p (ay U<|cE.aG 2)<|aj 2 U<|p (dE (ps:= [(0,str cp),(1,str x2)]) (L:= [str cp,str x2]) PA U<|U)<|e<|lU GJ U U U fun eQ fz eT a4 dp=> ?_;have ff:=a4.size;refine e<|ap GJ (aR el a4.md) U ag U (aU.dB dp) (U) (U) ag ag fun v72 fA cL bn eF eb=> ?_;have eF:=bn.size;have bx:∀ k,(eY ra rs.length rc).ownBlock=some k→Z.heap.size≤k:=fun k h=>(da E h).1;have dQ:=bn.B (Wk.B a4.md dP) fun h=>by have :=bx _ h; omega
 have dY:=bn.B (Wk.B a4.md cE) fun h=>by have :=bx _ h; omega
 have d5:=bn.B (Wk.B a4.md dn) fun h=>by have :=bx _ h; omega
 have dH:=(dG.trans a4.md).trans' bn fun k A h=>by have :=bx _ h; omega
 obtain ⟨a72,jF,rfl⟩:=de cL;refine aj 1 U<|e<|st KU U U (U) (dY) (by simp) fun eN bb c7=> ?_;have e2:=bb.size;have dT:aD eN.heap O [bh .i64 ((if n≤64 then n else 0:Nat):Int),str t,.slice a72 (rs.length+1) jF,.slice none 0 0,.slice none 0 0,.slice none 0 0,.slice none 0 0]:=c7;have dL:=bb.B dQ fun h=>by omega
 have d3:=bb.B d5 fun h=>by omega
 have dx:=dH.trans' bb fun k A h=>by omega
 have ej:=cB cL bb fun k A h=>by rcases eb k A with aZ | aZ; exact absurd (bx k aZ) ag; omega
 exact ar 2 U<|tn<|⟨_,by rw [bp,dC]; omega,rs++ [(cp,x2)],.slice a72 (rs.length+1) jF,eG,f6,dL,dT,d3,dx,ag,er,(by rcases eE with ⟨bA,aZ,bU⟩ | ⟨aZ,bU⟩; exact .inl ⟨aZ,by rw [bp,dC]; omega,aa,bt,by rw [bp,dC]; exact n5 br<|F9 (cN.resolve_right fun h=>h.1 bA).2.2 bU⟩; refine .inr ⟨aZ,?_⟩; rcases cN with ⟨_,bA,bY⟩ | ⟨bA,bY⟩; exact bU.elim (fun h=>absurd bA h) (fun ⟨am,h⟩=>⟨am,vv au aa.1 aa.2.1 aa.2.2 bt<|jQ br (F8 bY h) ag⟩); exact bY.elim (fun h=>absurd U h) fun ⟨am,h⟩=>⟨am,vv au aa.1 aa.2.1 aa.2.2 bt<|jQ br (F7 h) ag⟩),(by rw [bp,dC]; omega),(fun r hr=>by rcases dz.1 hr with h | h; exact bv r h; rw [fu.1 h]; exact ⟨eg,eh⟩),(by rw [bp,IJ]; exact ej),U,U⟩
 exact aB 2 U<|cg<|bg 1 U<|tn<|⟨rs,ra,rc,aS,f,J,I,C,M,ab,bu,(a0.elim (fun h=>absurd h.1 fun am=>cF ag) .inr),cm,bv,E,U⟩
 exact ar 11 U<|cg<|bg 1 U<|tn<|⟨rs,ra,rc,aS,f,J,I,C,M,ab,bu,(a0.elim (fun h=> .inl ⟨h.1,h.2.2.1,h.2.2.2.1,(by have eR:=h.2.1; have am:rs.length=m:=ag; rw [← am]; exact h.2.2.2.2)⟩) .inr),cm,bv,E,U⟩
 rintro cS aw ⟨rs,ra,rc,ak,f6,J,I,C,M,ab,bu,a0,cm,bv,E,ev⟩;refine bG ev<|az 2 U<|p (fi oW U (U) (show ∀ j,j < 7→aO aw.heap O (0 +j)=([bh .i64 ((if n≤64 then n else 0:Nat):Int),str t,.slice ra rs.length rc,.slice none 0 0,.slice none 0 0,.slice none 0 0,.slice none 0 0]:List ah)[j]? from fun j _=>I.aG j))<|e<|aH (OL (if n≤64 then n else 0) t rs ra rc (.slice none 0 0) (.slice none 0 0) (.slice none 0 0) (.slice none 0 0) aw (du E).2 (by split <;> omega) ag ag fun r hr=>by have :=bv r hr; omega) U ?_;rintro v75 fB ⟨rfl,aK⟩;have fg:=aK.size;have b7:=Wk.B aK J;have ca:=Wk.B aK I;have bQ:=Wk.B aK C;have ck:=aR E aK;refine aC 3 U ?_;refine ei (fun cU aV=> ∃ (f7:Nat),(aD aV.heap V [bh .i64 0,str [],.slice none 0 0,.slice none 0 0,.slice none 0 0,.slice none 0 0,.slice none 0 0])∧(aD aV.heap O<|[bh .i64 ((if n≤64 then n else 0:Nat):Int),str t,.slice ra rs.length rc,.slice none 0 0,.slice none 0 0,.slice none 0 0,.slice none 0 0])∧(aD aV.heap rb [str s,aQ ak,aQ f7])∧(Wk w aV)∧(Z.heap.size≤aV.heap.size)∧((f7=0∧cC s=iq s (if n≤64 then n else 0) t rs ak∧fL (if n≤64 then n else 0) t rs=true)∨(f7≠0∧∃ ac,cC s= .error ac))∧(b9 aV Z.heap.size 154 2 (.slice ra rs.length rc) rs.length<|rs.flatMap iN)∧(Sl cU [(0,str s),(2,aA V),(4,aA rb),(5,aA O)])) ?_ ?_;refine aP 5 U<|p (ay U<|bQ.aG 2)<|aj 2 U<|gs (t:=81) U (fun cK=> ?_) fun cK=> ?_;obtain ⟨_,aa,bt,br⟩:=a0.resolve_right fun h=>h.1 ag;have cH:=C4 au aa.1 aa.2.1 aa.2.2 bt br;refine aC 5 U<|cb U (fun ch=> ?_) fun ch=> ?_;have bK:fL (if n≤64 then n else 0) t rs=false :=by simpa using ch
 refine az 4 U<|e<|st fT U U (U) (bQ) (by simp) fun fD bc c8=> ?_;have e3:=bc.size;exact ar 1 U<|tn<|⟨201,(bc.B b7 fun h=>by omega),(bc.B ca fun h=>by omega),c8,((M.trans aK).trans' bc fun k A h=>by omega),ag,(.inr ⟨aI,_,by rw [cH,CW bK]⟩),(cB ck bc fun k A h=>by have :=(da E A).1; omega),U⟩
 have bK:fL (if n≤64 then n else 0) t rs=true :=by simpa using ch
 exact aB 1 U<|tn<|⟨f6,b7,ca,bQ,(M.trans aK),ag,(.inl ⟨ag,cH,bK⟩),ck,U⟩
 exact ar 7 U<|tn<|⟨f6,b7,ca,bQ,(M.trans aK),ag,(a0.elim (fun h=>absurd h.1 fun am=>cK ag) .inr),ck,U⟩
 rintro cU aV ⟨f7,J,I,C,M,ab,c3,E,ex⟩;refine bG ex ?_;refine ei (fun cV aL=> ∃ (ls:List (List bH)) (vs:List ah) (ad f8:Nat),(aD aL.heap V [bh .i64 0,str [],.slice none 0 0,.slice none 0 0,.slice none 0 0,.slice none 0 0,.slice none 0 0])∧(aD aL.heap O<|[bh .i64 ((if n≤64 then n else 0:Nat):Int),str t,.slice ra rs.length rc]++vs)∧(aD aL.heap rb [str s,aQ ad,aQ f8])∧(Wk w aL)∧(Z.heap.size≤aL.heap.size)∧(ad≤s.length)∧(vs.length=4)∧((f8=0∧(cC s=iq s (if n≤64 then n else 0) t rs ak∧fL (if n≤64 then n else 0) t rs=true)∧cY (dy s) 4 ak= .ok (ls,ad)∧∀ i,i < 4→gu aL Z.heap.size (vs.getD i .nilFunc) (ls.getD i []))∨(f8≠0∧∃ ac,cC s= .error ac))∧(b9 aL Z.heap.size 154 2 (.slice ra rs.length rc) rs.length<|rs.flatMap iN)∧(Sl cV [(0,str s),(2,aA V),(4,aA rb),(5,aA O)])) ?_ ?_;refine bV 6 U<|lp (fun a8 cW ao=> ∃ (ae:Nat) (ls:List (List bH)) (vs:List ah) (ad f8:Nat),(aD ao.heap V [bh .i64 0,str [],.slice none 0 0,.slice none 0 0,.slice none 0 0,.slice none 0 0,.slice none 0 0])∧(aD ao.heap O<|[bh .i64 ((if n≤64 then n else 0:Nat):Int),str t,.slice ra rs.length rc]++vs)∧(aD ao.heap rb [str s,aQ ad,aQ f8])∧(Wk w ao)∧(Z.heap.size≤ao.heap.size)∧(ae≤4)∧(ad≤s.length)∧(vs.length=4)∧((f8=0∧(cC s=iq s (if n≤64 then n else 0) t rs ak∧fL (if n≤64 then n else 0) t rs=true)∧cY (dy s) ae ak= .ok (ls,ad)∧∀ i,i < ae→gu ao Z.heap.size (vs.getD i .nilFunc) (ls.getD i []))∨(f8≠0∧∃ ac,cC s= .error ac))∧(b9 ao Z.heap.size 154 2 (.slice ra rs.length rc) rs.length<|rs.flatMap iN)∧(Sl cW [(0,str s),(2,aA V),(4,aA rb),(5,aA O),(11,aQ ae)])∧(4 - ae=a8)) _ ⟨0,[],[.slice none 0 0,.slice none 0 0,.slice none 0 0,.slice none 0 0],ak,f7,J,I,C,M,ab,ag,bu,U,(c3.imp (fun h=>⟨h.1,h.2,U,fun i hi=>by omega⟩) id),E,U,U⟩ ?_;rintro a8 cW ao ⟨ae,ls,vs,ad,f8,J,I,C,M,ab,eU,bS,av,a1,E,ez,rfl⟩;refine bG ez<|aP 6 U<|gs (t:=90) U (fun ef=> ?_) fun ef=> ?_;refine aj 3 U<|bo U (ay U<|C.aG 2)<|aC 4 U<|cd U (fun cG=> ?_) fun cG=> ?_;obtain ⟨ci,aN,bR,a2⟩:=a1.resolve_right fun h=>h.1 ag;obtain rfl :f8=0:=ci;refine az 7 U<|e<|aH (JK rb s ad ao C a5 bS) U ?_;rintro eJ fs ⟨eH,f9,c5,em,cM,a9⟩;have e0:=a9.size;obtain ⟨aX,bT,cc,rfl⟩:∃ aX bT cc,eJ= .slice aX bT cc:=by
  rcases cM with ⟨_,l,_,c4⟩ | ⟨_,_,h⟩;obtain ⟨aX,cc,h,_⟩:=c4.my; exact ⟨aX,_,cc,h⟩;exact h
 have dJ:=a9.B J fun h=>by omega
 have dS:=a9.B I fun h=>by omega
 have dw:=(M).trans' a9 fun k A h=>by omega
 refine aj 1 U<|p (pc Cj U U ag)<|e<|st KV U U (U) (dS) (by simp only [bp,cn,fq,av]; omega) fun cO a3 c9=> ?_;have e5:=a3.size;have dU:aD cO.heap O ([bh .i64 ((if n≤64 then n else 0:Nat):Int),str t,.slice ra rs.length rc]++vs.set ae (.slice aX bT cc)):=by rw [← Gn]; exact c9
 have dM:=a3.B dJ fun h=>by omega
 have d4:=a3.B c5 fun h=>by omega
 have dA:=dw.trans' a3 fun k A h=>by omega
 have cw:Md (fun k=>k=rb∨k=O) ao cO:=(a9.mono fun _ _ h=> .inl h).trans<|a3.mono fun _ _ h=> .inr h;have ek:=cB E cw fun k A h=>by have :=(da E A).1; omega
 exact aj 5 U<|p (bW<|ae+1)<|ar 2 U<|tn<|⟨_,ag,ae+1,tT s (ae+1) ak,vs.set ae (.slice aX bT cc),eH,f9,dM,dU,d4,dA,ag,ag,em,(by rw [qp]; exact av),(O4 bR aN.1 aN.2 cM a2 ag av cw (fun k A=>by omega) ab a3),ek,U,U⟩
 exact aB 2 U<|cg<|bg 1 U<|tn<|⟨ls,vs,ad,f8,J,I,C,M,ab,bS,av,(a1.elim (fun h=>absurd h.1 fun am=>cG ag) .inr),E,U⟩
 exact ar 11 U<|cg<|bg 1 U<|tn<|⟨ls,vs,ad,f8,J,I,C,M,ab,bS,av,((by have c0:ae=4:=ag; subst c0; exact a1)),E,U⟩
 rintro cV aL ⟨ls,vs,ad,f8,J,I,C,M,ab,bS,av,a1,E,ey⟩;refine bG ey ?_;refine ei (fun cX wD=> ∃ (f9:Nat),(aD wD.heap V [bh .i64 0,str [],.slice none 0 0,.slice none 0 0,.slice none 0 0,.slice none 0 0,.slice none 0 0])∧(aD wD.heap O<|[bh .i64 ((if n≤64 then n else 0:Nat):Int),str t,.slice ra rs.length rc]++vs)∧(aD wD.heap rb [str s,aQ ad,aQ f9])∧(Wk w wD)∧(Z.heap.size≤wD.heap.size)∧((f9=0∧cC s= .ok ⟨if n≤64 then n else 0,t,rs,ls⟩∧∀ i,i < 4→gu wD Z.heap.size (vs.getD i .nilFunc) (ls.getD i []))∨(f9≠0∧∃ ac,cC s= .error ac))∧(b9 wD Z.heap.size 154 2 (.slice ra rs.length rc) rs.length<|rs.flatMap iN)∧(Sl cX [(0,str s),(2,aA V),(4,aA rb),(5,aA O)])) ?_ ?_;refine aP 5 U<|p (ay U<|C.aG 2)<|aj 2 U<|gs (t:=109) U (fun cI=> ?_) fun cI=> ?_;obtain ⟨_,aN,bR,a2⟩:=a1.resolve_right fun h=>h.1 ag;refine aj 3 U<|bo U (ay U<|C.aG 1)<|aC 6 U<|cd U (fun d7=> ?_) fun d7=> ?_;refine az 4 U<|e<|st fT U U (U) (C) (by simp) fun fE bi dc=> ?_;have e7:=bi.size;exact ar 1 U<|tn<|⟨202,(bi.B J fun h=>by omega),(bi.B I fun h=>by omega),dc,(M.trans' bi fun k A h=>by omega),ag,(.inr ⟨aI,_,by rw [aN.1,CY aN.2 bR ag]⟩),(cB E bi fun k A h=>by have :=(da E A).1; omega),U⟩
 exact aB 1 U<|tn<|⟨f8,J,I,C,M,ab,(.inl ⟨ag,by rw [aN.1,CZ aN.2 bR ag],a2⟩),E,U⟩
 exact ar 12 U<|tn<|⟨f8,J,I,C,M,ab,(a1.elim (fun h=>absurd h.1 fun am=>cI ag) .inr),E,U⟩
 rintro cX wD ⟨f9,J,I,C,M,ab,cv,E,eA⟩;refine bG eA<|az 6 U<|p (ay U<|C.aG 2)<|aC 3 U<|cd U (fun ce=> ?_) fun ce=> ?_;obtain ⟨ec,d0⟩:=cv.resolve_left fun h=>ce<|by rw [h.1]; rfl
 refine bD 1 U ?_;have bq:(fun w'=>Md (fun k=>k=V) wD w') wD.drew:=(Md.refl _ _).drew;refine bK (fun w'=>Md (fun k=>k=V) wD w') U wide bq<|cz 0 U (dE (ps:= []) (L:= [.int .i64 0,.string ⟨⟨[]⟩⟩,.slice none 0 0,.slice none 0 0,.slice none 0 0,.slice none 0 0,.slice none 0 0]) xn U<|U) bq<|aW [1,2,3] U bq<|gL 4 U (fun w' dt=>ay U<|(Md.B dt C fun h=>by omega).aG 2) bq<|he 5 U an<|r6 qL U U U U (J) (by simp) fun eO ds dd=> ?_
 skip
 have b4:(fun w'=>Md (fun k=>k=V) wD w') eO:=Md.trans bq ds;refine ⟨b4,?_⟩;exact aW [6] U b4<|hn an<|bg 3 U<|nR U (jn (cs:= [bh .i64 0,str [],.slice none 0 0,.slice none 0 0,.slice none 0 0,.slice none 0 0,.slice none 0 0]) U oW U fun j cj=>dd.aG j) np<|⟨.inr ⟨d0,f9,ec,U⟩,M.trans' b4 fun k A h=>by omega⟩
 obtain ⟨_,ea,a2⟩:=cv.resolve_right fun h=>ce ag;refine bD 3 U ?_;obtain ⟨ax,aE,aF,aJ,rfl⟩:∃ ax aE aF aJ,vs= [ax,aE,aF,aJ]:=by
  match vs,av with
  | [ax,aE,aF,aJ],_=>exact ⟨_,_,_,_,rfl⟩
 have d1:iY wD w.heap.size [bh .i64 ((if n≤64 then n else 0:Nat):Int),str t,.slice ra rs.length rc,ax,aE,aF,aJ] ⟨if n≤64 then n else 0,t,rs,ls⟩:=⟨ra,rc,[ax,aE,aF,aJ],rfl,av,(du E).2,fun i hi=>(a2 i hi).mono ag⟩
 have d2:=d1.one;refine az 1 U<|p (fi oW U (U) (show ∀ j,j < 7→aO wD.heap O (0 +j)=([bh .i64 ((if n≤64 then n else 0:Nat):Int),str t,.slice ra rs.length rc,ax,aE,aF,aJ]:List ah)[j]? from fun j _=>I.aG j))<|e<|r6 qL U U U d2.2 J aI fun eK b1 dh=> ?_;have di:aD eK.heap V [bh .i64 ((if n≤64 then n else 0:Nat):Int),str t,.slice ra rs.length rc,ax,aE,aF,aJ]:=dh;exact ar 4 U<|nR U (jn (cs:= [bh .i64 ((if n≤64 then n else 0:Nat):Int),str t,.slice ra rs.length rc,ax,aE,aF,aJ]) U oW U fun j cj=>di.aG j) np<|⟨.inl ⟨_,_,ea,U,⟨ra,rc,[ax,aE,aF,aJ],U,av,(du<|cB E b1 fun k A h=>by have :=(da E A).1; omega).2,fun i hi=>((a2 i hi).md b1 fun k A hb=>absurd hb ag).mono ag⟩⟩,M.trans' b1 fun k A h=>by omega⟩
end Go.Hb.qE
end
