/-
  Walks and plain laws that the law rests on, laid together. No conditions but those that each theorem names.
-/
import Derived.Test.YtfgapieofinadaaGreatDoorMnOwnPlays4
set_option linter.unusedVariables false
set_option maxRecDepth 20000
set_option maxHeartbeats 1000000
open Array renaming getElem?_eq_some_iff→cx
open Bool renaming and_false→Io,noConfusion→dS
open Classical renaming not_not→mJ
open Go renaming Addr→aW,Value→ah,World→ai
open Go.Proofs.Tryz renaming prog→aq
open Go.Result renaming andThen_ok→ij
open Go.Sem renaming run_bind→iE,run_pure→kA
open Go.Value renaming bool→bB,int→bh,oneCell'→lh,slice→ff,tuple→kB
open Go.World renaming ownsRow→b9,ownsRow_nil→eL
open List renaming all_cons→uR,all_nil→BW,append_assoc→iF,append_nil→kC,drop_eq_nil_of_le→iY,flatMap_append→I8,getD_cons_succ→BX,getD_cons_zero→oP,getD_eq_getElem?_getD→cQ,getElem?_append_left→eR,getElem?_append_right→eC,getElem?_eq_getElem→cr,getElem?_eq_some_iff→dt,length→jC,length_append→bo,length_cons→cg,length_drop→gh,length_eq_zero_iff→uX,length_map→nK,length_nil→fu,length_pos_iff→uY,length_set→qz,length_singleton→dE,length_take→bY,map_append→kE,mem_append→dz,mem_of_getElem?→lj,mem_singleton→fv,nil_append→oQ,take_of_length_le→ja,take_zero→uZ,toArray→bd
open Nat renaming le_refl→bf,le_trans→cR,lt_or_ge→dM,mul_le_mul_right→qB,pow_le_pow_right→sR,sub_self→sS,zero_add→du
open Prod renaming snd→jE
open UInt8 renaming toNat_inj→nO,toNat_lt→oW
open Go.Proofs.Tryz
open Go.Hb.dN Go.Proofs

section
namespace Go.Hb.kH
theorem QF {s:List UInt8} {i:Nat} (h:i < s.length):(s.drop i).take 1= [s.getD i 0]:=by
 rw [drop_cons 0 h]; rfl
def oE (l:List (Bool×ah)):List ah:=l.flatMap fun q=> [.bool q.1,q.2]
def kL (l:List (UInt8×Int)):List ah:=l.flatMap fun e=> [.int .u8 e.1.toNat,.int .i64 e.2]
theorem Tg.rp {F:Nat→Prop} {w w':ai} {B e n:Nat} {v:ah} {xs:List ah} (h:Tg w B e n v xs) (hm:Md F w w') (I:∀ k,F k→B≤k→∀ cur z,w.heap[k]?≠some (.cells cur e z)):Tg w' B e n v xs:=by
 obtain ⟨a,C,rfl,E,h | ⟨b,cur,z,rfl,hb,A,L⟩⟩:=h
 · exact ⟨a,C,U,E,.inl h⟩
 · exact ⟨_,C,U,E,.inr ⟨b,cur,z,U,hb,by rw [hm.dC b (cx.1 A).1 (fun J=>I b J hb cur z A)]; exact A,L⟩⟩
theorem FB {w:ai} {k:Nat} (h:w.heap.size≤k) (cur:Array ah) (e:Nat) (z:Nat×Nat):w.heap[k]?≠some (.cells cur e z):=by
 rw [Array.getElem?_eq_none h]; intro h; cases h
def jb (w:ai) (B:Nat) (A:List (Bool×ah)) (l:List bH):Prop :=A.length=l.length∧∀ (i:Nat) q e,A[i]? =some q→l[i]? =some e→q.1=e.1∧Tg w B 244 e.2.length q.2 (kL e.2)
theorem jb.nil (w:ai) (B:Nat):jb w B [] []:=⟨rfl,fun i q r A=>by simp at A⟩
theorem jb.md {F:Nat→Prop} {w w':ai} {B:Nat} {E:List (Bool×ah)} {l:List bH} (h:jb w B E l) (hm:Md F w w') (I:∀ k,F k→B≤k→∀ cur z,w.heap[k]?≠some (.cells cur 244 z)):jb w' B E l:=
 ⟨h.1,fun i q r A C=>⟨(h.2 i q r A C).1,Tg.rp (h.2 i q r A C).2 hm I⟩⟩
theorem jb.wk {w w':ai} {B:Nat} {A:List (Bool×ah)} {l:List bH} (h:jb w B A l) (hm:Wk w w'):jb w' B A l:=h.md hm fun _ C=>C.elim
theorem jb.snoc {w:ai} {B:Nat} {E:List (Bool×ah)} {l:List bH} {v:ah} {e:bH} (ha:jb w B E l) (J:Tg w B 244 e.2.length v (kL e.2)):jb w B (E++ [(e.1,v)]) (l++ [e]):=by
 refine ⟨by rw [bo,bo,ha.1]; rfl,fun i q' r' A C=> ?_⟩;have I:=ha.1;by_cases hi:i < E.length
 · rw [eR hi] at A;rw [eR ag] at C;exact ha.2 i q' r' A C
 · rw [eC ag] at A;rw [eC ag,← I] at C;cases hj:i - E.length with
   | zero=>rw [hj] at A C; cases A; cases C; exact ⟨rfl,J⟩
   | succ j=>rw [hj] at A; simp at A
def iH (w:ai) (B:Nat) (v:ah) (l:List bH):Prop := ∃ A,Tg w B 195 l.length v (oE A)∧jb w B A l
theorem iH.md {F:Nat→Prop} {w w':ai} {B:Nat} {v:ah} {l:List bH} (h:iH w B v l) (hm:Md F w w') (C:∀ k,F k→B≤k→∀ cur z,w.heap[k]?≠some (.cells cur 195 z)∧w.heap[k]?≠some (.cells cur 244 z)):iH w' B v l:=by
 obtain ⟨J,E,I⟩:=h;exact ⟨J,Tg.rp E hm fun k A hb cur z=>(C k A hb cur z).1,I.md hm fun k A hb cur z=>(C k A hb cur z).2⟩
theorem iH.wk {w w':ai} {B:Nat} {v:ah} {l:List bH} (h:iH w B v l) (hm:Wk w w'):iH w' B v l:=h.md hm fun _ A=>A.elim
theorem iH.mono {w:ai} {B B':Nat} {v:ah} {l:List bH} (h:iH w B v l) (C:B'≤B):iH w B' v l:=by
 obtain ⟨L,I,J,A⟩:=h;exact ⟨L,I.mono C,J,fun i q e E he=>⟨(A i q e E he).1,(A i q e E he).2.mono C⟩⟩
theorem iH.mE {w:ai} {B:Nat} {v:ah} {l:List bH} (h:iH w B v l):∃ A cc,v= .slice A l.length cc∧l.length≤cc∧gj w.heap A l:=by
 obtain ⟨O,E,ad,aa⟩:=h;obtain ⟨A,cc,rfl⟩:=E.slice;obtain ⟨ab,I⟩:=E.mY;refine ⟨A,cc,U,ab,fun h0=>aT.ok I (pq (f:=fun q:Bool×ah=> [bB q.1,q.2]) (m:=2) (fun _=>rfl) aJ ag),fun i hi=> ?_⟩;have L:O[i]? =some (O[i]'ag):=cr ag;have ac:l[i]? =some (bp l i):=by
  unfold bp;rw [cQ,cr hi]; rfl
 obtain ⟨g1,g2⟩:=aa i _ _ L ac;obtain ⟨V,Z,M⟩:=g2.slice;have g3:=g2;rw [M] at g3;obtain ⟨_,C⟩:=g3.mY;have J:=nf (f:=fun q:Bool×ah=> [bB q.1,q.2]) (m:=2) (fun _=>rfl) I L;refine ⟨V,Z,by rw [J 0 ag,g1]; rfl,by rw [J 1 ag,M]; rfl,fun h0=>aT.ok C (pq (f:=fun e:UInt8×Int=> [bh .u8 e.1.toNat,.int .i64 e.2]) (m:=2) (fun _=>rfl) aJ h0),fun k e he=> ?_,fun k e he=> ?_⟩
 · exact nf (f:=fun e:UInt8×Int=> [bh .u8 e.1.toNat,.int .i64 e.2]) (m:=2) (fun _=>rfl) C he 0 ag
 · exact nf (f:=fun e:UInt8×Int=> [bh .u8 e.1.toNat,.int .i64 e.2]) (m:=2) (fun _=>rfl) C he 1 ag
theorem GQ (A:List (Bool×ah)) (q:Bool×ah):oE (A++ [q])=oE A++ [.bool q.1,q.2]:=by simp [oE]
theorem Dx (es:List (UInt8×Int)) (e:UInt8×Int):kL (es++ [e])=kL es++ [.int .u8 e.1.toNat,.int .i64 e.2]:=by simp [kL]
section
variable {s:List UInt8} {n a e t p v k:Nat} {es:List (UInt8×Int)} {l:List bH}
theorem Dy (h:s.length≤a):fL s n a= .error 60:=by unfold fL; rw [if_pos h]
theorem Dz (h:¬s.length≤a) (A:bJ s (a+1)= .error e):fL s n a= .error e:=by unfold fL; rw [if_neg h,A]
theorem DA (h:¬s.length≤a) (A:bJ s (a+1)= .ok (t,p)) (C:n≤t):fL s n a= .error 190:=by unfold fL; rw [if_neg h,A]; exact if_pos C
theorem DB (h:¬s.length≤a) (A:bJ s (a+1)= .ok (t,p)) (C:¬n≤t):fL s n a= .ok ((s.getD a 0,(t:Int)),p):=by unfold fL; rw [if_neg h,A]; exact if_neg C
theorem Hf (h:bJ s a= .error e):gS s n a= .error e:=by unfold gS; rw [h]
theorem Hg (h:bJ s a= .ok (v,p)) (A:256 < v / 2):gS s n a= .error 190:=by unfold gS; rw [h]; exact if_pos A
theorem Hh (h:bJ s a= .ok (v,p)) (A:¬256 < v / 2) (C:cY (fL s n) (v / 2) p= .error e):gS s n a= .error e:=by unfold gS; rw [h]; simp only; rw [if_neg A,C]
theorem Hi (h:bJ s a= .ok (v,p)) (A:¬256 < v / 2) (C:cY (fL s n) (v / 2) p= .ok (es,t)):gS s n a= .ok ((decide (v % 2=1),es),t):=by unfold gS; rw [h]; simp only; rw [if_neg A,C]
theorem GB (h:bJ s a= .error e):dy s a= .error e:=by unfold dy; rw [h]
theorem xy (h:bJ s a= .ok (n,p)) (A:n=0∨1048576 < n):dy s a= .error 190:=by unfold dy; rw [h]; exact if_pos A
theorem rX (h:bJ s a= .ok (n,p)) (A:¬(n=0∨1048576 < n)) (C:cY (gS s n) n p= .error e):dy s a= .error e:=by unfold dy; rw [h]; simp only; rw [if_neg A,C]
theorem GC (h:bJ s a= .ok (n,p)) (A:¬(n=0∨1048576 < n)) (C:cY (gS s n) n p= .ok (l,t)) (E:shaped l=false):dy s a= .error 190:=by unfold dy; rw [h]; simp only; rw [if_neg A,C]; simp only; rw [E]; rfl
theorem GD (h:bJ s a= .ok (n,p)) (A:¬(n=0∨1048576 < n)) (C:cY (gS s n) n p= .ok (l,t)) (E:shaped l=true):dy s a= .ok (l,t):=by unfold dy; rw [h]; simp only; rw [if_neg A,C]; simp only; rw [E]; rfl
end
theorem PF (rb:Nat) (s:List UInt8) (a:Nat) (w:ai) (a7:aD w.heap rb [str s,.int .i64 (a:Nat)]) (aO:s.length≤1048576) (ha:a≤s.length):
 o5 aq 74 (bd [.pointer (some ⟨rb,0,none⟩)]) w (fun v w'=> ∃ l p,dy s a= .ok (l,p)∧iH w' w.heap.size v l∧aD w'.heap rb [str s,.int .i64 (p:Nat)]∧Md (fun k=>k=rb) w w') (fun c w'=> ∃ e,dy s a= .error e∧c=ng e∧Md (fun k=>k=rb) w w'):=by
 have dc:=a7.lt;refine tC func74 U ntmps74 U<|aP 7 U<|p mv<|eP U (fQ qO (rz rb s (a) w a7 aO<|ha) U fun v10 bt b0=> ?_) fun c w' A σ' M=>by obtain ⟨e,he,au,am⟩:=A; exact ⟨e,GB he,au,am⟩
 obtain ⟨n,a3,V,rfl,bC,aW⟩:=b0;obtain ⟨cW,c1,c4⟩:=kY V;refine aC 3 U ?_;refine ei (fun bu a4=> ∃ (cB:Unit),(¬(n=0∨1048576 < n))∧(aD a4.heap rb [str s,.int .i64 (a3:Nat)])∧(Md (fun k=>k=rb) w a4)∧(Sl bu [(0,.pointer (some ⟨rb,0,none⟩)),(3,.int .u64 (n:Nat))])) ?_ ?_;refine aP 1 U<|p mv<|aj 3 U<|gs (t:=14) U (fun cg=> ?_) fun cg=> ?_;refine aj 3 U<|eP U (fQ jJ (lK _ _ _ bt) U fun cD cG aZ=> ?_) fun c w' A σ' M=>⟨190,xy V (by have :=of_decide_eq_false A.2.1; omega),A.1,by rw [A.2.2]; exact aW⟩
 obtain ⟨rfl,bq,rfl⟩:=aZ;have bq:=of_decide_eq_true bq;exact ar 1 U<|tn<|⟨(),ag,bC,aW,U⟩
 refine aj 3 U<|eP U (fQ jJ (lK _ _ _ bt) U fun cD cG aZ=> ?_) fun c w' A σ' M=>⟨190,xy V ag,A.1,by rw [A.2.2]; exact aW⟩
 exact absurd aZ.2.1 aJ;rintro bu a4 ⟨cB,av,bT,bZ,cm⟩;refine bE cm<|bD 13 U<|lp (fun ak bv J=> ∃ (k:Nat) (l:List bH) (ad:List (Bool×ah)) (aa:ah) (q:Nat),(k≤n)∧(cY (gS s n) k a3= .ok (l,q))∧(q≤s.length)∧(b9 J w.heap.size 195 2 aa ad.length<|oE ad)∧(jb J w.heap.size ad l)∧(aD J.heap rb [str s,.int .i64 (q:Nat)])∧(Md (fun k=>k=rb) w J)∧(Sl bv [(0,.pointer (some ⟨rb,0,none⟩)),(3,.int .u64 (n:Nat)),(4,aa),(19,.int .u64 (n:Nat)),(20,.int .u64 (k:Nat))])∧(n - k=ak)) _ ⟨0,[],[],.slice none 0 0,a3,ag,U,ag,(eL _ _ _ _),(jb.nil _ _),bT,bZ,U,U⟩ ?_;rintro ak bv J ⟨k,l,ad,aa,q,C,I,c9,aN,bK,a8,ac,cn,rfl⟩;refine bE cn<|bV 6 U<|cd U (fun ca=> ?_) fun ca=> ?_;refine az 7 U<|eP U (fQ qO (rz rb s (q) J a8 aO ag) U fun dr cH b1=> ?_) fun c w' A σ' M=>by obtain ⟨e,he,au,am⟩:=A; exact ⟨e,rX V av (jV I (Hf he) ag),au,ac.trans am⟩
 obtain ⟨v0,p1,aL,rfl,bG,aF⟩:=b1;obtain ⟨cX,c2,c5⟩:=kY aL;refine aj 7 U<|p (qu U U ag<|jw ag)<|aj 1 U<|eP U (fQ jJ (lK _ _ _ cH) U fun v28 cI b2=> ?_) fun c w' A σ' M=>⟨190,rX V av (jV I (Hg aL<|by have :=of_decide_eq_false A.2.1; omega) ag),A.1,by rw [A.2.2]; exact ac.trans aF⟩
 obtain ⟨rfl,cv,rfl⟩:=b2;have bm:¬256 < v0 / 2:=by have :=of_decide_eq_true cv; omega
 have bY:=ac.trans aF;refine aj 5 U<|p (rm U U ag)<|aj 1 U<|p (dZ (ps:= [(0,.bool (decide ((v0:Int) % 2=1)))]) (L:= [.bool (decide ((v0:Int) % 2=1)),.slice none 0 0]) Qc U<|U)<|e<|fK Ib fun ab dC cS bi bO=> ?_;have dm:=bi.size;refine e<|fG C4 U U U U bO (by simp) fun ae bh bQ=> ?_;have bR:aD ae.heap ab [.bool (decide ((v0:Int) % 2=1)),.slice none 0 0]:=⟨_,bQ⟩
 have aA:Wk cI ae:=bi.md.trans' bh fun k C h=>by omega
 have bS:=Wk.B aA bG;have dq:=ac.size;have di:=aF.size;have dn:=aA.size;have dp:=bh.size;have bX:Md (fun k=>k=rb) w ae:=bY.trans<|aA.mono fun _ _ h=>h.elim;refine aj 6 U<|p (qu U U ag<|jw ag)<|aC 4 U<|lp (fun ak bx Z=> ∃ (j:Nat) (es:List (UInt8×Int)) (aV:ah) (E:Nat),(j≤v0 / 2)∧(cY (fL s n) j p1= .ok (es,E))∧(E≤s.length)∧(b9 Z ae.heap.size 244 2 aV es.length<|kL es)∧(aD Z.heap rb [str s,.int .i64 (E:Nat)])∧(aD Z.heap ab [.bool (decide ((v0:Int) % 2=1)),aV])∧(Md (fun k=>k=rb∨k=ab) ae Z)∧(Sl bx [(0,.pointer (some ⟨rb,0,none⟩)),(3,.int .u64 (n:Nat)),(4,aa),(5,.int .u64 (v0:Nat)),(6,.pointer (some ⟨ab,0,none⟩)),(19,.int .u64 (n:Nat)),(20,.int .u64 (k:Nat)),(34,.int .u64 ((v0 / 2:Nat):Int)),(35,.int .u64 (j:Nat))])∧(v0 / 2 - j=ak)) _ ⟨0,[],.slice none 0 0,p1,ag,U,ag,(eL _ _ _ _),bS,bR,(Md.refl _ _),U,U⟩ ?_;rintro ak bx Z ⟨j,es,aV,E,c0,aM,db,aw,a9,ba,al,co,rfl⟩;refine bE co ?_;have cU:=kj aM;have a1:∀ e,fL s n E= .error e→j < v0 / 2→dy s a= .error e:=fun e he ch=>rX V av<|jV I (Hh aL bm<|jV aM he ch) ag;have aE:Md (fun k=>k=rb) w Z:=bX.trans' al fun k C h=>by rcases h with h | h; exact h; omega
 refine bV 6 U<|cd U (fun cb=> ?_) fun cb=> ?_;refine az 7 U<|eP U (fQ CO (Hu rb s E 1 Z a9 aO ag ag) U fun ds cJ b3=> ?_) fun c w' A σ' M=>⟨60,a1 _ (Dy ag) ag,A.2.1,aE.trans A.2.2⟩
 obtain ⟨dh,bn,bI,aY⟩:=b3;rw [QF ag] at bn;subst bn;refine p (kP 0 u9 U U<|by simp)<|aj 6 U<|eP U (fQ qO (rz rb s (E+1) cJ bI aO ag) U fun dt cK b4=> ?_) fun c w' A σ' M=>by obtain ⟨e,he,au,am⟩:=A; exact ⟨e,a1 _ (Dz ag he) ag,au,(aE.trans aY).trans am⟩
 obtain ⟨to,cA,a0,rfl,bJ,bg⟩:=b4;obtain ⟨cZ,c3,c6⟩:=kY a0;refine aj 9 U<|eP U (fQ jJ (lK _ _ _ cK) U fun v46 dx b5=> ?_) fun c w' A σ' M=>⟨190,a1 _ (DA ag a0<|by have :=of_decide_eq_false A.2.1; omega) ag,A.1,by rw [A.2.2]; exact (aE.trans aY).trans bg⟩
 obtain ⟨rfl,cw,rfl⟩:=b5;have cu:¬n≤to:=by have :=of_decide_eq_true cw; omega
 have aH:=aY.trans bg;have bb:=aH.B ba fun h=>by omega
 have cz:=al.size;have dj:=aH.size;refine aj 4 U<|p (ay U<|bb.aG 1)<|aj 2 U<|p (jL u3 oI U<|ku ag)<|p (dZ (ps:= [(0,.int .u8 (s.getD E 0).toNat),(1,.int .i64 (to:Nat))]) (L:= [.int .u8 (s.getD E 0).toNat,.int .i64 (to:Nat)]) Qd U<|U)<|e<|l6 G0 U U U fun cN dz cP ao bL=> ?_;have dk:=ao.size;have ck:=aR (cC aw aH fun k C h=>by have :=da aw C; omega) ao.md;refine e<|ap G0 (ck) U ag U (aT.dD bL) (U) (U) ag ag fun du dA bj aK cx cf=> ?_;have cx:=aK.size;have aQ:∀ k,aV.ownBlock=some k→ae.heap.size≤k:=fun k h=>(da aw h).1;have bW:=aK.B (Wk.B ao.md bb) fun h=>by have :=aQ ab h; omega
 have bM:=aK.B (Wk.B ao.md bJ) fun h=>by have :=aQ rb h; omega
 obtain ⟨bz,bB,rfl⟩:=de bj;refine aj 1 U<|e<|st Lh U U (U) (bW) (by simp) fun dF aX bF=> ?_;have bU:=aX.B bM fun h=>by omega
 exact ar 7 U<|tn<|⟨_,ag,j+1,es++ [(s.getD E 0,(to:Int))],.slice bz (es.length+1) bB,cA,ag,(og aM<|DB ag a0 cu),ag,(by rw [bo,Dx]; exact cC bj aX fun k C h=>by rcases cf k C with a6 | a6; exact absurd (aQ k a6) ag; omega),bU,bF,((((al.trans<|aH.mono fun _ _ h=> .inl h).trans<|ao.md.mono fun _ _ h=>h.elim).trans' aK fun k C h=>by have :=aQ k h; omega).trans<|aX.mono fun _ _ h=> .inr h),U,U⟩
 refine aB 2 U<|te _<|dT 2 U ?_;obtain ⟨a5,ce,rfl⟩:=de aw;obtain rfl :j=v0 / 2:=ag;have c7:=kj I;have dd:=bK.1;have ct:=Hi aL bm aM;have cz:=al.size;have bc:Md (fun k=>k=rb∨k=ab) J Z:=((aF.mono fun k _ h=> .inl h).trans<|aA.mono fun _ _ h=>h.elim).trans al;have a2:=cC aN bc fun k C h=>by have :=da aN C; omega
 have cr:=bK.md bc (fun k C hb=>by
  rcases C with C | C;omega;exact fun cur z=>FB ag cur _ z)
 refine az 1 U<|p (pN (aa) U)<|p (eZ Ci U (U) fun j _=>ba.aG j)<|e<|l6 G7 U U U fun cO dB cQ O bN=> ?_;have dl:=O.size;refine e<|ap G7 (aR a2 O.md) U ag U (aT.dD bN) (U) (U) ag ag fun cF cL cj an cy cV=> ?_;have cy:=an.size;have bp:∀ k,aa.ownBlock=some k→w.heap.size≤k:=fun k h=>(da aN h).1;have bP:=an.B (Wk.B O.md a9) fun h=>by have :=bp rb h; omega
 have b8:Tg cL w.heap.size 244 es.length (.slice a5 es.length ce) (kL es):=Tg.rp (((Tg.oz aw).mono ag).wk O.md) an fun k C _=>ib (aR a2 O.md) aJ k C;have cq:=(cr.wk O.md).md an fun k C _=>ib (aR a2 O.md) aJ k C;exact p aU<|ar 7 U<|tn<|⟨_,ag,k+1,l++ [(decide (v0 % 2=1),es)],ad++ [(decide ((v0:Int) % 2=1),.slice a5 es.length ce)],cF,E,ag,(og I ct),ag,(by rw [bo,GQ]; exact cj),(by rw [show decide ((v0:Int) % 2=1)=decide (v0 % 2=1) from decide_eq_decide.2 ag] at*; exact jb.snoc (e:=(decide (v0 % 2=1),es)) cq b8),bP,((aE.trans<|O.md.mono fun _ _ h=>h.elim).trans' an fun k C h=>by have :=bp k h; omega),U,U⟩
 refine aB 2 U<|te _<|dT 3 U ?_;obtain rfl :k=n:=ag;have bf:iH J w.heap.size aa l:=⟨ad,by have h:=Tg.oz aN; rw [bK.1] at h; exact h,bK⟩
 obtain ⟨bA,cc,rfl,cT,b7⟩:=bf.mE;have c8:=kj I;have ci:∀ x∈l,x.2.length≤256:=fun x aS=>(pF (R:=fun p=>p≤s.length) (S:=fun x:bH=>x.2.length≤256) (fun p x q' hr aS=>⟨(uu aS).2.1,(uu aS).2.2.1⟩) ag I).2 x aS;refine az 3 U<|e<|aI (PS l bA cc J b7 ag fun i hi=>cR (ci _<|gO (d:=dI) hi) aJ) U ?_;rintro dv cM ⟨rfl,ax⟩;refine aj 1 U ?_;refine eP U (fQ jJ (lK _ _ _ cM) U fun dw dE b6=> ?_) (fun c w' A σ' M=>⟨190,GC V av I (by
  cases h:shaped l;rfl;exact absurd (show uj l=0 from xB h) (of_decide_eq_false A.2.1)),A.1,by rw [A.2.2]; exact ac.trans (ax.mono fun _ _ h=>h.elim)⟩)
 obtain ⟨rfl,br,rfl⟩:=b6;have cp:shaped l=true :=by
  cases h:shaped l;rw [mC h] at br; exact absurd (of_decide_eq_true br) aJ;rfl
 exact ar 9 U<|tI<|f1 U U<|⟨l,q,GD V av I cp,bf.wk ax,Wk.B ax a8,ac.trans<|ax.mono fun _ _ h=>h.elim⟩
end Go.Hb.kH
end
section
namespace Go.Hb.lU
open Go.Hb.kH
theorem zR (s A:List UInt8) (w:ai) (E:s.length≤1073741824) (hp:A.length≤1073741824):
 aZ aq 121 (bd [str s,str A]) w (fun v w'=>v= .bool (decide (s.take A.length=A))∧Wk w w'):=by
 refine enter func121 U ntmps121 U<|aP 13 U<|gs (t:=10) U (fun C=> ?_) fun C=> ?_;exact aj 3 U<|bA U (se u9 U U ag)<|ar 7 U<|aE U<|⟨U,Md.refl _ _⟩
 exact aj 7 U<|p aU<|ar 3 U<|aE U<|⟨by show bB false =_; rw [decide_eq_false (fun h=>by have :=congrArg jC h; rw [bY] at this; omega)],Md.refl _ _⟩
theorem ML (s A:List UInt8) (w:ai) (E:s.length≤1073741824) (hp:A.length≤1073741824):
 aZ aq 68 (bd [str s,str A]) w (fun v w'=>v= .bool (decide (s.take A.length=A))∧Wk w w'):=by
 refine enter func68 U ntmps68 U<|aP 9 U<|e<|aI (zR s A _ E hp) U ?_;rintro I J ⟨rfl,C⟩;exact ar 4 U<|aE U<|⟨U,C⟩
theorem LB (p2 p3:Nat) (w:ai):
 CallsD aq 69 (bd [.pointer (some ⟨p2,0,none⟩),.pointer (some ⟨p3,0,none⟩)]) .returning w (fun A I w'=> ∃ v,A= .returned v∧I= .returning∧(fun w'=>Wk w w') w'):=by
 refine CQ (v:= .nilIface) func69 U ntmps69 U (fun L cs E=> .inr ⟨by simp [recoverD,E],U,U⟩) ?_;exact p (Hr wV RX U)<|p mv<|p (xt U U)<|p (xt U U)<|p aU<|p aU<|nl<|tn<|sq fun J C=>rg U<|p mv<|nl<|tn<|C _ _<|cf (U)<|GU<|f0 U<|Md.refl _ _
theorem LA (p2 p3:Nat) (A:Int) (w:ai) (C:∃ L:List ah,L.length=7∧w.heap[p2]? =some (.cells L.toArray 92 (0,0))) (E:∃ v:ah,w.heap[p3]? =some (.cells [v].toArray 33 (0,0))) (O:p2≠p3):
 CallsD aq 69 (bd [.pointer (some ⟨p2,0,none⟩),.pointer (some ⟨p3,0,none⟩)]) (.panicking<|ng A) w (fun V ad w'=> ∃ v,V= .returned v∧ad=(.panicking [{v:= .iface 33 (.int .i64 A),recovered:=true}])∧(fun w'=>w'.heap[p2]? =some (.cells [bh .i64 0,str [],.slice none 0 0,.slice none 0 0,.slice none 0 0,.slice none 0 0,.slice none 0 0].toArray 92 (0,0))∧w'.heap[p3]? =some (.cells [.int .i64 A].toArray 33 (0,0))∧Md (fun k=>k=p2∨k=p3) w w') w'):=by
 obtain ⟨ak,ab,C⟩:=C;obtain ⟨v3,E⟩:=E;have am:=(cx.1 C).1;have an:=(cx.1 E).1;refine CQ (v:= .iface 33<|.int .i64 A) func69 U ntmps69 U (fun al cs ac=> .inl<|by simp [recoverD,ac,ng]) ?_;refine p (Hq wV U)<|p mv<|p (xt U U)<|p (xt U U)<|p aU<|p aU<|nl<|tn<|sq fun aj aa=>rg U<|p mv<|nl<|tn<|aa _ _<|ct (U)<|rg U<|p (dZ (ps:= []) (L:= [.int .i64 0,.string ⟨⟨[]⟩⟩,.slice none 0 0,.slice none 0 0,.slice none 0 0,.slice none 0 0,.slice none 0 0]) Ha U<|U)<|p mv<|e<|fG vM U U U U C (by rw [ab]; decide) fun ae J I=>e<|fl zh U U (v:= .int .i64 A) U (J.ax E fun h=>O h.symm) (by show 0 < 1; decide) fun ao M Z=>nl<|f0 U ?_;have I:ae.heap[p2]? =some (.cells [bh .i64 0,str [],.slice none 0 0,.slice none 0 0,.slice none 0 0,.slice none 0 0,.slice none 0 0].toArray 92 (0,0)):=I.trans<|by rw [iY ag]; rfl
 exact ⟨M.ax I O,Z,(J.mono fun _ _ h=> .inl h).trans' M fun _ _ h=> .inr h⟩
theorem Db (p2 p3:Nat) (w:ai):(invoke (.fn (.func 69) #[aA p2,aA p3]) #[]).run aq w= .ok (.enter 69 #[aA p2,aA p3]) w:=by
 have h:=Ks #[aA p2,aA p3] w;simp [invoke,h]
theorem vZ {n:Nat} {D:List Deferred} {G:List Nat} {σ:Nat→ah} {t:Nat} (h:t < n):ev ⟨n,D,G,none⟩ σ (.tmp t)=σ t:=by
 show cond (Nat.blt t n) (σ t) undef=_;rw [show Nat.blt t n=true from by simpa using h]; rfl
theorem LD {n:Nat} {G:List Nat} {fn:Func} {R:ah→ai→Prop} {σ:Nat→ah} {w:ai} {p2 p3:Nat} {A:Int} (V:fn.results= #[.cell 2 92,.cell 3 33]) (ab:3 < n) (Z:σ 2= .pointer (some ⟨p2,0,none⟩)) (aa:σ 3= .pointer (some ⟨p3,0,none⟩)) (C:∃ L:List ah,L.length=7∧w.heap[p2]? =some (.cells L.toArray 92 (0,0))) (E:∃ v:ah,w.heap[p3]? =some (.cells [v].toArray 33 (0,0))) (O:p2≠p3)
 (I:∀ w',Md (fun k=>k=p2∨k=p3) w w'→R (.tuple #[.agg [bh .i64 0,str [],.slice none 0 0,.slice none 0 0,.slice none 0 0,.slice none 0 0,.slice none 0 0].toArray,.int .i64 A]) w'):qb ⟨n,[{target:= .fn (.func 69) #[.pointer (some ⟨p2,0,none⟩),.pointer (some ⟨p3,0,none⟩)],args:= #[]}],G,none⟩ (nP aq fn R) (.panic<|ng A) σ w:=by
 refine Mo (Db p2 p3 w) (LA p2 p3 A w C E O) ?_;rintro w' ⟨J,M,hm⟩;exact ⟨_,xq V (lM<|jY (cs:= [bh .i64 0,str [],.slice none 0 0,.slice none 0 0,.slice none 0 0,.slice none 0 0,.slice none 0 0]) ((vZ ag).trans Z) td U fun j _=>by rw [du,eB J]; simp) (lM<|kX ((vZ ag).trans aa) Co<|(eB M).trans U),I w' hm⟩
theorem LF {n:Nat} {G:List Nat} {fn:Func} {R:ah→ai→Prop} {σ:Nat→ah} {w:ai} {p2 p3:Nat} {v:ah} {L:List ah} (O:fn.results= #[.cell 2 92,.cell 3 33]) (aa:3 < n) (V:σ 2= .pointer (some ⟨p2,0,none⟩)) (Z:σ 3= .pointer (some ⟨p3,0,none⟩)) (A:w.heap[p2]? =some (.cells L.toArray 92 (0,0))) (C:w.heap[p3]? =some (.cells [v].toArray 33 (0,0))) (E:L.length=7)
 (I:∀ w',Wk w w'→R (.tuple #[.agg L.toArray,v]) w'):qb ⟨n,[{target:= .fn (.func 69) #[.pointer (some ⟨p2,0,none⟩),.pointer (some ⟨p3,0,none⟩)],args:= #[]}],G,none⟩ (nP aq fn R) .ret σ w:=by
 refine Mn (Db p2 p3 w) (LB p2 p3 w) ?_;intro w' hm;have J:=Wk.ax hm A;have M:=Wk.ax hm C;exact ⟨_,xq O (lM<|jY (cs:=L) ((vZ ag).trans V) td E fun j _=>by rw [du,eB J]; simp) (lM<|kX ((vZ ag).trans Z) Co<|(eB M).trans U),I w' hm⟩
section
variable {s:List UInt8} {a e n m p1 p2 p3 p4 p5 p q ls:Nat} {t f:List UInt8} {rs:List (List UInt8×List UInt8)} {l:List (List bH)}
theorem Gr (h:dJ s a= .error e):iR s a= .error e:=by unfold iR; rw [h]
theorem Gs (h:dJ s a= .ok (f,p)) (A:dJ s p= .error e):iR s a= .error e:=by unfold iR; rw [h]; simp only; rw [A]
theorem Gt (h:dJ s a= .ok (f,p)) (A:dJ s p= .ok (t,q)):iR s a= .ok ((f,t),q):=by unfold iR; rw [h]; simp only; rw [A]
theorem zj (hm:¬s.take 4=gu):cD s= .error 200:=if_neg hm
theorem Dg (hm:s.take 4=gu) (h:bJ s 4= .error e):cD s= .error e:=by unfold cD; rw [if_pos hm,h]
theorem Dh (hm:s.take 4=gu) (h:bJ s 4= .ok (n,p1)) (A:dJ s p1= .error e):cD s= .error e:=by unfold cD; rw [if_pos hm,h]; simp only; rw [A]
theorem Di (hm:s.take 4=gu) (h:bJ s 4= .ok (n,p1)) (A:dJ s p1= .ok (t,p2)) (C:bJ s p2= .error e):cD s= .error e:=by unfold cD; rw [if_pos hm,h]; simp only; rw [A]; simp only; rw [C]
theorem Dj (hm:s.take 4=gu) (h:bJ s 4= .ok (n,p1)) (A:dJ s p1= .ok (t,p2)) (C:bJ s p2= .ok (m,p3)) (E:256 < m):cD s= .error 201:=by unfold cD; rw [if_pos hm,h]; simp only; rw [A]; simp only; rw [C]; exact if_pos E
theorem vN (hm:s.take 4=gu) (h:bJ s 4= .ok (n,p1)) (A:dJ s p1= .ok (t,p2)) (C:bJ s p2= .ok (m,p3)) (E:¬256 < m) (I:cY (iR s) m p3= .error e):cD s= .error e:=by unfold cD; rw [if_pos hm,h]; simp only; rw [A]; simp only; rw [C]; simp only; rw [if_neg E,I]
theorem Dk (hm:s.take 4=gu) (h:bJ s 4= .ok (n,p1)) (A:dJ s p1= .ok (t,p2)) (C:bJ s p2= .ok (m,p3)) (E:¬256 < m) (I:cY (iR s) m p3= .ok (rs,p4)):cD s=iu s (if n≤64 then n else 0) t rs p4:=by unfold cD; rw [if_pos hm,h]; simp only; rw [A]; simp only; rw [C]; simp only; rw [if_neg E,I]
theorem Dc (h:fO ls t rs=false):iu s ls t rs a= .error 201:=by unfold iu; rw [h]; rfl
theorem Dd (h:fO ls t rs=true) (A:cY (dy s) 4 a= .error e):iu s ls t rs a= .error e:=by unfold iu; rw [if_pos h,A]
theorem De (h:fO ls t rs=true) (A:cY (dy s) 4 a= .ok (l,p5)) (C:p5≠s.length):iu s ls t rs a= .error 202:=by unfold iu; rw [if_pos h,A]; exact if_neg C
theorem Df (h:fO ls t rs=true) (A:cY (dy s) 4 a= .ok (l,p5)) (C:p5=s.length):iu s ls t rs a= .ok ⟨ls,t,rs,l⟩:=by unfold iu; rw [if_pos h,A]; exact if_pos C
end
def qD (w:ai) (B:Nat) (cs:List ah) (b:eU):Prop := ∃ ra rc vs,cs= [.int .i64 (b.least:Nat),str b.tr,.slice ra b.kV.length rc]++vs∧vs.length=4∧aT w.heap ra (b.kV.flatMap iS)∧∀ i,i < 4→iH w B (vs.getD i .nilFunc) (b.jt.getD i [])
theorem qD.wk {w w':ai} {B:Nat} {cs:List ah} {b:eU} (h:qD w B cs b) (hm:Wk w w'):qD w' B cs b:=by
 obtain ⟨ra,rc,vs,A,C,E,I⟩:=h;exact ⟨ra,rc,vs,A,C,E.wk hm,fun i hi=>(I i hi).wk hm⟩
def ll (s:List UInt8) (w:ai) (v:ah) (w':ai):Prop :=(match cD s with
 | .ok b=> ∃ cs,v= .tuple #[.agg cs.toArray,.int .i64 0]∧qD w' w.heap.size cs b
 | .error e=>v= .tuple #[.agg [bh .i64 0,str [],.slice none 0 0,.slice none 0 0,.slice none 0 0,.slice none 0 0,.slice none 0 0].toArray,.int .i64 (e:Nat)])∧Wk w w'
theorem ll.no {s:List UInt8} {w w':ai} {e:Nat} (h:cD s= .error e) (hm:Wk w w'):ll s w (.tuple #[.agg [bh .i64 0,str [],.slice none 0 0,.slice none 0 0,.slice none 0 0,.slice none 0 0,.slice none 0 0].toArray,.int .i64 (e:Nat)]) w':=by
 unfold ll; rw [h]; exact ⟨rfl,hm⟩
theorem GH {a b c v:ah} {vs:List ah} {k:Nat} :([a,b,c]++vs).set (0 +3 +((k:Nat):Int).toNat*1) v= [a,b,c]++vs.set k v:=by
 rw [show 0 +3 +((k:Nat):Int).toNat*1=k+1 +1 +1 from by omega]; rfl
theorem Ez {α:Type} {l:List α} {i k:Nat} {v d:α} (h:i≠k):(l.set k v).getD i d=l.getD i d:=by
 rw [cQ,List.getElem?_set_ne (fun e=>h e.symm),cQ]
theorem Ey {α:Type} {l:List α} {k:Nat} {v d:α} (h:k < l.length):(l.set k v).getD k d=v:=by
 rw [cQ,List.getElem?_set_self h]; rfl
theorem Ev {α:Type} {l m:List α} {i:Nat} {d:α} (h:i < l.length):(l++m).getD i d=l.getD i d:=by
 rw [cQ,eR h,cQ]
theorem Eu {α:Type} {l:List α} {a d:α} {i:Nat} (h:i=l.length):(l++ [a]).getD i d=a:=by
 subst h;rw [cQ,eC (bf _),sS]; rfl
structure im (w0 w:ai) (b2 b3:Nat) (L:List ah):Prop where
 c2:w.heap[b2]? =some (.cells L.toArray 92 (0,0))
 c3:w.heap[b3]? =some (.cells [bh .i64 0].toArray 33 (0,0))
 len:L.length=7
 lo:w0.heap.size≤b2∧w0.heap.size≤b3∧b2≠b3
 wk:Wk w0 w
theorem im.md {F:Nat→Prop} {w0 w w':ai} {A C:Nat} {L:List ah} (h:im w0 w A C L) (hm:Md F w w') (E:¬F A) (I:¬F C) (J:∀ k,F k→w0.heap.size≤k):im w0 w' A C L:=
 ⟨hm.ax h.c2 E,hm.ax h.c3 I,h.len,h.lo,h.wk.trans' hm fun k O M=>by have :=J k M; omega⟩
theorem im.Rr {w0 w w':ai} {A C:Nat} {L:List ah} (h:im w0 w A C L) (hm:Wk w w'):im w0 w' A C L:=h.md hm (fun h=>h) (fun h=>h) fun _ h=>h.elim
theorem im.rb {w0 w w':ai} {A C rb:Nat} {L:List ah} (h:im w0 w A C L) (hm:Md (fun k=>k=rb) w w') (E:A≠rb) (I:C≠rb) (h0:w0.heap.size≤rb):im w0 w' A C L:=h.md hm E I fun k J=>by omega
theorem m7 {n:Nat} {G:List Nat} {fn:Func} {σ:Nat→ah} {s:List UInt8} {w W:ai} {C E e:Nat} {L:List ah} (J:fn.results= #[.cell 2 92,.cell 3 33]) (I:3 < n) (M:σ 2= .pointer (some ⟨C,0,none⟩)) (O:σ 3= .pointer (some ⟨E,0,none⟩)) (A:im w W C E L) (U:cD s= .error e):qb ⟨n,[{target:= .fn (.func 69) #[.pointer (some ⟨C,0,none⟩),.pointer (some ⟨E,0,none⟩)],args:= #[]}],G,none⟩ (nP aq fn<|ll s w) (.panic<|ng (e:Nat)) σ W:=
 LD J I M O ⟨_,A.len,A.c2⟩ ⟨_,A.c3⟩ A.lo.2.2 (fun w' hm=>ll.no U<|A.wk.trans' hm fun k V h=>by rcases h with rfl | rfl; have :=A.lo.1; omega; have :=A.lo.2.1; omega)
theorem LG (s:List UInt8) (w:ai) (aK:s.length≤1048576):
 aZ aq 31 (bd [str s]) w (ll s w):=by
 refine L1 [2,3] func31 U ntmps31 U ?_;refine eK<|eY<|aP 1 U<|e<|fK Ig fun C w2 dW b0 cy=>e<|fK RP fun M cm dY bC cF=> ?_;have er:=b0.size;have et:=bC.size;have cW:Wk w cm:=b0.md.trans bC.md;have dz:=Wk.ax bC.md cy;refine ar 1 U<|cE<|eK<|eK<|eY<|aP 2 U<|e<|aI (ML s gu cm ag aJ) U ?_;rintro v10 eH ⟨rfl,a5⟩;have bP:=cW.trans a5;have ci:=Wk.ax a5 dz;have cj:=Wk.ax a5 cF;have ep:=a5.size;refine ar 2 U<|cE<|eY<|cb U (fun aW=> ?_) fun aW=> ?_;have aa:¬s.take 4=gu:=fun h=>by rw [show s.take gu.length=gu from h] at aW; simp at aW
 refine aP 2 U<|p (dZ (ps:= []) (L:= [.int .i64 0,.string ⟨⟨[]⟩⟩,.slice none 0 0,.slice none 0 0,.slice none 0 0,.slice none 0 0,.slice none 0 0]) Ha U<|U)<|e<|fG vM U U U U ci aJ fun eN bW cM=>e<|fl zh U U (v:= .int .i64 200) U (bW.ax cj fun h=>by omega) aJ fun dT bZ cO=>ar 3 U<|prt ?_;have dk:dT.heap[C]? =some (.cells [bh .i64 0,str [],.slice none 0 0,.slice none 0 0,.slice none 0 0,.slice none 0 0,.slice none 0 0].toArray 92 (0,0)):=(bZ.ax cM fun h=>by omega).trans rfl;exact Ml (xq U (lM<|jY U U U fun j d8=>by rw [du,eB dk]; simp)<|lM<|kX U U<|(eB cO).trans U)<|ll.no (zj aa)<|(bP.trans' bW fun k E h=>by omega).trans' bZ fun k E h=>by omega
 have aa:s.take 4=gu:=Classical.byContradiction fun h=>by rw [decide_eq_false (show ¬s.take gu.length=gu from h)] at aW; cases aW
 have cu:4≤s.length:=by have :=congrArg jC aa; rw [bY] at this; simp only [gu,cg,fu] at this; omega
 refine kN 1 U<|cE<|eK<|m9 NA #[.pointer (some ⟨C,0,none⟩),.pointer (some ⟨M,0,none⟩)] U aJ ?_;refine eK<|eY<|aP 2 U<|p (dZ (ps:= [(0,str s),(1,.int .i64 4)]) (L:= [str s,.int .i64 4]) Qa U<|U)<|e<|tl U fun rb ab en ba cx=> ?_;have eq:=ba.size;have cS:aD ab.heap rb [str s,.int .i64 ((4:Nat):Int)]:=⟨_,cx⟩
 have b8:im w ab C M [bh .i64 0,str [],.slice none 0 0,.slice none 0 0,.slice none 0 0,.slice none 0 0,.slice none 0 0]:=⟨Wk.ax ba.md ci,Wk.ax ba.md cj,rfl,⟨ag,ag,ag⟩,bP.trans ba.md⟩
 refine ar 2 U<|cE<|P6 (fun cq a3=> ∃ (n p1:Nat),(im w a3 C M [.int .i64 ((if n≤64 then n else 0:Nat):Int),str [],.slice none 0 0,.slice none 0 0,.slice none 0 0,.slice none 0 0,.slice none 0 0])∧(aD a3.heap rb [str s,.int .i64 (p1:Nat)])∧(Md (fun k=>k=rb∨k=C) ab a3)∧(bJ s 4= .ok (n,p1))∧(p1≤s.length)∧(Sl cq [(0,str s),(2,.pointer (some ⟨C,0,none⟩)),(3,.pointer (some ⟨M,0,none⟩)),(4,.pointer (some ⟨rb,0,none⟩))])) ?_ ?_;refine eK<|eY<|aP 2 U ?_;refine eP U (fQ qO (rz rb s (4) ab cS aK<|cu) U fun ey eI c0=> ?_) (fun c w' I σ' A=>by
  obtain ⟨e,he,rfl,V⟩:=I;exact m7 U aJ ((A 2<|.head _).trans U) ((A 3<|.tail _<|.head _).trans U) ((b8).rb V ag ag ag) (Dg aa he))
 obtain ⟨n,p1,Z,rfl,bN,bx⟩:=c0;obtain ⟨d2,bG,ed⟩:=kY Z;have a0:=b8.rb bx ag ag ag;refine ar 2 U<|cE<|eK<|eY<|kN 4 U<|cE<|eY<|cd U (fun bF=> ?_) fun bF=> ?_;exact aP 2 U<|p (jL u3 oI U<|ku ag)<|aj 1 U<|e<|fl fW U U (v:= .int .i64 (n:Nat)) U a0.c2 aJ fun eR a8 cP=>ar 1 U<|CZ<|⟨n,p1,(⟨by rw [if_pos ag]; exact cP,a8.ax a0.c3 (fun h=>by omega),U,a0.lo,a0.wk.trans' a8 fun k E h=>by omega⟩),(a8.B bN fun h=>by omega),((bx.mono fun _ _ h=> .inl h).trans<|a8.mono fun _ _ h=> .inr h),Z,bG,U⟩
 exact kN 1 U<|CZ<|⟨n,p1,(by rw [if_neg ag]; exact a0),bN,(bx.mono fun _ _ h=> .inl h),Z,bG,U⟩
 rintro cq a3 ⟨n,p1,ch,cR,cV,Z,bG,dE⟩;refine PN dE ?_;refine eK<|eY<|aP 2 U ?_;refine eP U (fQ tt (zL rb s (p1) a3 cR aK ag) U fun ez eJ c1=> ?_) (fun c w' I σ' A=>by
  obtain ⟨e,he,rfl,V⟩:=I;exact m7 U aJ ((A 2<|.head _).trans U) ((A 3<|.tail _<|.head _).trans U) ((ch).rb V ag ag ag) (Dh aa Z he))
 obtain ⟨t,p2,aF,rfl,cB,bR⟩:=c1;obtain ⟨d3,d9,ee⟩:=q6 aF;have bj:=ch.rb bR ag ag ag;refine aj 1 U<|e<|fl Da U U (v:=str t) U bj.c2 (by simp) fun cp a9 cQ=> ?_;have cf:im w cp C M [.int .i64 ((if n≤64 then n else 0:Nat):Int),str t,.slice none 0 0,.slice none 0 0,.slice none 0 0,.slice none 0 0,.slice none 0 0]:=⟨cQ,a9.ax bj.c3 (fun h=>by omega),rfl,bj.lo,bj.wk.trans' a9 fun k E h=>by omega⟩
 have cT:=a9.B cB fun h=>by omega
 refine ar 1 U<|cE<|eK<|eY<|aP 2 U ?_;refine eP U (fQ qO (rz rb s (p2) cp cT aK ag) U fun v28 dN c4=> ?_) (fun c w' I σ' A=>by
  obtain ⟨e,he,rfl,V⟩:=I;exact m7 U aJ ((A 2<|.head _).trans U) ((A 3<|.tail _<|.head _).trans U) ((cf).rb V ag ag ag) (Di aa Z aF he))
 obtain ⟨m,p3,aV,rfl,cD,bS⟩:=c4;obtain ⟨d4,ea,ef⟩:=kY aV;have ca:=cf.rb bS ag ag ag;refine ar 2 U<|cE<|eK<|eY<|aP 4 U ?_;refine eP U (fQ jJ (lK _ _ _ dN) U fun eA eM c5=> ?_) (fun c w' I σ' A=>by
  obtain ⟨rfl,hb,rfl⟩:=I;exact m7 U aJ ((A 2<|.head _).trans U) ((A 3<|.tail _<|.head _).trans U) (ca) (Dj aa Z aF aV<|by have :=of_decide_eq_false hb; omega))
 obtain ⟨rfl,dI,rfl⟩:=c5;have bI:¬256 < m:=by have :=of_decide_eq_true dI; omega
 refine ar 1 U<|cE<|eK<|eK<|eY<|kN 4 U<|cE<|eY<|bV 1 U<|lp (fun aN cr al=> ∃ (k:Nat) (rs:List (List UInt8×List UInt8)) (O:ah) (q:Nat),(k≤m)∧(cY (iR s) k p3= .ok (rs,q))∧(q≤s.length)∧(b9 al ab.heap.size 181 2 O rs.length<|rs.flatMap iS)∧(aD al.heap rb [str s,.int .i64 (q:Nat)])∧(im w al C M [.int .i64 ((if n≤64 then n else 0:Nat):Int),str t,O,.slice none 0 0,.slice none 0 0,.slice none 0 0,.slice none 0 0])∧(Md (fun k=>k=rb∨k=C) ab al)∧(Sl cr [(0,str s),(2,.pointer (some ⟨C,0,none⟩)),(3,.pointer (some ⟨M,0,none⟩)),(4,.pointer (some ⟨rb,0,none⟩)),(33,.int .u64 (m:Nat)),(34,.int .u64 (k:Nat))])∧(m - k=aN)) _ ⟨0,[],.slice none 0 0,p3,ag,U,ag,(eL _ _ _ _),cD,ca,(((cV.trans<|bR.mono fun _ _ h=> .inl h).trans<|a9.mono fun _ _ h=> .inr h).trans<|bS.mono fun _ _ h=> .inl h),U,U⟩ ?_;rintro aN cr al ⟨k,rs,O,q,ej,ae,el,am,bO,aY,bu,dF,rfl⟩;refine bE dF<|bV 6 U<|cd U (fun di=> ?_) fun di=> ?_;refine az 7 U ?_;refine eP U (fQ tt (zL rb s (q) al bO aK ag) U fun v37 ak c6=> ?_) (fun c w' I σ' A=>by
  obtain ⟨e,he,rfl,V⟩:=I;exact m7 U aJ ((A 2<|.head _).trans U) ((A 3<|.tail _<|.head _).trans U) ((aY).rb V ag ag ag) (vN aa Z aF aV bI<|jV ae (Gr he) ag))
 obtain ⟨f,bL,bD,rfl,cI,a7⟩:=c6;obtain ⟨d5,eb,eg⟩:=q6 bD;have a1:=aY.rb a7 ag ag ag;have dr:=cC am a7 fun k E h=>by have :=da am E; omega
 have eu:=a7.size;have ex:=bu.size;have ao:∀ k,O.ownBlock=some k→ab.heap.size≤k:=fun k h=>(da am h).1;refine aC 3 U ?_;have bc:(fun w'=>Md (fun k=>k=rb∨O.ownBlock=some k) ak w') ak.drew:=(Md.refl _ _).drew;refine tR (fun w'=>Md (fun k=>k=rb∨O.ownBlock=some k) ak w') 9 U wide bc<|mi [0] U bc<|Fb 1 U an (fun w' dc=>ay U<|Md.aH dc ((eB a1.c2).trans U) fun h=>by rcases h with h | h; omega; have :=ao _ h; omega) bc<|mi [2,3] U bc ?_;refine Nv 4 U an U (fQ tt (zL rb s bL ak.drew cI aK ag) U fun eC cn c7=> ?_) (fun c w' I σ' A=>by
  obtain ⟨e,he,rfl,V⟩:=I;exact m7 U aJ ((A 2<|.head _).trans U) ((A 3<|.tail _<|.head _).trans U) (a1.rb (Md.gM V) ag ag ag) (vN aa Z aF aV bI<|jV ae (Gs bD he) ag))
 obtain ⟨t2,dL,b5,rfl,cJ,aS⟩:=c7;obtain ⟨d6,ec,ei⟩:=q6 b5;have aS:=Md.gM aS;have b3:Md (fun k=>k=rb∨O.ownBlock=some k) ak cn:=aS.mono fun _ _ h=> .inl h;have ev:=aS.size;have b1:(fun w'=>Md (fun k=>k=rb∨O.ownBlock=some k) ak w') cn:=b3;refine ⟨b1,?_⟩;refine tQ 5 U an (fun _=>dZ (ps:= [(0,str f),(1,str t2)]) (L:= [str f,str t2]) Qb U<|U) (fun _=>b1)<|rh 6 U an<|l6 G6 U U U fun dU dQ d0 bb cK=> ?_;have ew:=bb.size;have b4:=b3.trans<|bb.md.mono fun _ _ h=>h.elim;have ds:=aR (cC dr aS fun k E h=>by have :=da am E; omega) bb.md;have dd:(fun w'=>Md (fun k=>k=rb∨O.ownBlock=some k) ak w') dQ:=b4;refine ⟨dd,?_⟩;refine rh 7 U an<|ap G6 (ds) U ag U (aT.dD cK) (U) (U) (by have :=kj ae; omega) (by have :=kj ae; omega) fun eD dR b7 bA dK dm=> ?_;obtain ⟨bq,br,rfl⟩:=de b7;have aU:=b4.trans<|bA.mono fun _ _ h=> .inr h;have dK:=bA.size;have dp:¬(C=rb∨O.ownBlock=some C):=fun h=>by rcases h with h | h; omega; have :=ao _ h; omega
 have dq:¬(M=rb∨O.ownBlock=some M):=fun h=>by rcases h with h | h; omega; have :=ao _ h; omega
 have dj:=aU.ax a1.c2 dp;have cL:=bA.B (Wk.B bb.md cJ) fun h=>by have :=ao _ h; omega
 have b2:(fun w'=>Md (fun k=>k=rb∨O.ownBlock=some k) ak w') dR:=aU;refine ⟨b2,?_⟩;refine mi [8] U b2<|pI 9 U an an<|fl Lt U U (v:= .slice bq (rs.length+1) br) U dj (by simp) fun ck aO cv=> ?_;have dt:im w ck C M [.int .i64 ((if n≤64 then n else 0:Nat):Int),str t,.slice bq (rs.length+1) br,.slice none 0 0,.slice none 0 0,.slice none 0 0,.slice none 0 0]:=⟨cv,aO.ax (aU.ax a1.c3 dq) (fun h=>by omega),rfl,aY.lo,(a1.wk.trans' aU fun k E h=>by rcases h with h | h; omega; have :=ao _ h; omega).trans' aO fun k E h=>by omega⟩
 have cw:=aO.B cL fun h=>by omega
 have cU:Md (fun k=>k=rb∨k=C) ab ck:=((bu.trans<|a7.mono fun _ _ h=> .inl h).trans' aU fun k E h=>by rcases h with h | h; exact .inl h; have :=ao _ h; omega).trans<|aO.mono fun _ _ h=> .inr h;exact pK an<|bg 6 U<|tn<|⟨_,ag,k+1,rs++ [(f,t2)],.slice bq (rs.length+1) br,dL,ag,(og ae<|Gt bD b5),ag,(by rw [bo,I8]; exact cC b7 aO fun k E h=>by rcases dm k E with bM | bM; exact absurd (ao k bM) ag; omega),cw,dt,cU,U,U⟩
 refine aB 2 U<|te _<|bg 1 U<|cE<|eK<|eY ?_;obtain ⟨ra,rc,rfl⟩:=de am;obtain rfl :k=m:=ag;obtain ⟨bn,dA⟩:∃ bn,bn=q:=⟨q,rfl⟩
 subst dA;have bf:=Dk aa Z aF aV bI ae;have ek:=kj ae;have dC:∀ r∈rs,r.1.length≤1048576∧r.2.length≤1048576:=fun r hr=>by
  have :=(pF (R:=fun _=>True) (S:=fun r:List UInt8×List UInt8=>r.1.length≤255∧r.2.length≤255) (fun p x q' _ dH=>⟨trivial,(Pb dH).2.2⟩) trivial ae).2 r hr;omega
 refine aP 2 U<|p (eZ td U (U) (show ∀ j,j < 7→aH al.heap C (0 +j)=([.int .i64 ((if n≤64 then n else 0:Nat):Int),str t,.slice ra rs.length rc,.slice none 0 0,.slice none 0 0,.slice none 0 0,.slice none 0 0]:List ah)[j]? from fun j _=>by rw [du,eB aY.c2]; simp))<|e<|aI (PL (if n≤64 then n else 0) t rs ra rc (.slice none 0 0) (.slice none 0 0) (.slice none 0 0) (.slice none 0 0) al (dx am).2 (by split <;> omega) ag ag dC) U ?_;rintro eE dS ⟨rfl,a6⟩;have ce:=aY.Rr a6;refine eP U (fQ jJ (lK _ _ _ dS) U fun v51 eO c8=> ?_) (fun c w' I σ' A=>by
  obtain ⟨rfl,hb,rfl⟩:=I;exact m7 U aJ ((A 2<|.head _).trans U) ((A 3<|.tail _<|.head _).trans U) (ce) (by rw [bf,Dc hb]))
 obtain ⟨rfl,bK,rfl⟩:=c8;refine ar 1 U<|cE<|eK<|eK<|eY<|kN 3 U<|cE<|eY<|bV 1 U<|lp (fun aN ct ad=> ∃ (J:Nat) (ls:List (List bH)) (vs:List ah) (aL:Nat),(J≤4)∧(cY (dy s) J bn= .ok (ls,aL))∧(aL≤s.length)∧(vs.length=4)∧(aD ad.heap rb [str s,.int .i64 (aL:Nat)])∧(im w ad C M<|[.int .i64 ((if n≤64 then n else 0:Nat):Int),str t,.slice ra rs.length rc]++vs)∧(∀ i,i < J→iH ad (rb+1) (vs.getD i .nilFunc) (ls.getD i []))∧(Md (fun k=>k=rb∨k=C) ab ad)∧(b9 ad ab.heap.size 181 2 (.slice ra rs.length rc) rs.length<|rs.flatMap iS)∧(Sl ct [(0,str s),(2,.pointer (some ⟨C,0,none⟩)),(3,.pointer (some ⟨M,0,none⟩)),(4,.pointer (some ⟨rb,0,none⟩)),(52,.int .i64 (J:Nat))])∧(4 - J=aN)) _ ⟨0,[],[.slice none 0 0,.slice none 0 0,.slice none 0 0,.slice none 0 0],bn,ag,U,ag,U,(Wk.B a6 bO),ce,(fun i hi=>by omega),(bu.trans<|a6.mono fun _ _ h=>h.elim),(aR am a6),U,U⟩ ?_;rintro aN ct ad ⟨J,ls,vs,aL,eh,aX,em,a2,bt,ac,bv,cX,bi,dG,rfl⟩;refine bE dG<|bV 6 U<|cd U (fun dl=> ?_) fun dl=> ?_;refine az 13 U ?_;refine eP U (fQ Kt (PF rb s aL ad bt aK ag) U fun eF eQ c9=> ?_) (fun c w' I σ' A=>by
  obtain ⟨e,he,rfl,V⟩:=I;exact m7 U aJ ((A 2<|.head _).trans U) ((A 3<|.tail _<|.head _).trans U) (ac.rb V ag ag ag) (by rw [bf,Dd bK (jV aX he (show J < 4 by omega))]))
 obtain ⟨au,bL,b6,bQ,cN,bX⟩:=c9;obtain ⟨aM,cc,rfl,d1,dV⟩:=bQ.mE;have bm:=ac.rb bX ag ag ag;have d7:=GF b6;refine aj 1 U<|p (pC CB U U ag)<|e<|fl Lu U U (v:= .slice aM au.length cc) U bm.c2 (by simp only [bo,cg,fu,a2]; omega) fun bp aQ cz=> ?_;have dn:=kj aX;have bF:bp.heap[C]? =some (.cells ([.int .i64 ((if n≤64 then n else 0:Nat):Int),str t,.slice ra rs.length rc]++vs.set J (.slice aM au.length cc)).toArray 92 (0,0)):=by rw [← GH]; exact cz
 have dv:im w bp C M ([.int .i64 ((if n≤64 then n else 0:Nat):Int),str t,.slice ra rs.length rc]++vs.set J (.slice aM au.length cc)):=⟨bF,aQ.ax bm.c3 (fun h=>by omega),by simp [a2],bm.lo,bm.wk.trans' aQ fun k E h=>by omega⟩
 have cA:=aQ.B cN fun h=>by omega
 have eo:=bt.lt;have bB:Md (fun k=>k=rb∨k=C) ad bp:=(bX.mono fun _ _ h=> .inl h).trans<|aQ.mono fun _ _ h=> .inr h;have cZ:∀ i,i < J+1→iH bp (rb+1) ((vs.set J<|.slice aM au.length cc).getD i .nilFunc) ((ls++ [au]).getD i []):=fun i hi=>by
  rcases dM i J with h | h;rw [Ez ag,Ev ag];exact (bv i h).md bB fun k E hb=>absurd hb ag;obtain rfl :i=J:=ag;rw [Ey ag,Eu dn.symm];exact (bQ.mono ag).md aQ fun k E hb=>absurd hb ag
 exact ar 7 U<|tn<|⟨_,ag,J+1,ls++ [au],vs.set J (.slice aM au.length cc),bL,ag,(og aX b6),ag,(by rw [qz]; exact a2),cA,dv,cZ,(cX.trans bB),(cC bi bB fun k E h=>by have :=(da bi E).1; omega),U,U⟩
 refine aB 2 U<|te _<|bg 1 U<|cE<|eK<|eY ?_;obtain rfl :J=4:=ag;obtain ⟨av,aw,aA,aE,rfl⟩:∃ av aw aA aE,vs= [av,aw,aA,aE]:=by
  match vs,a2 with
  | [av,aw,aA,aE],_=>exact ⟨_,_,_,_,rfl⟩
 have a4:∀ i,i < 4→([av,aw,aA,aE].getD i .nilFunc).oneCell'=true :=fun i hi=>by
  obtain ⟨_,_,e,_⟩:=(bv i hi).mE;rw [e]; rfl
 have dw:([.int .i64 ((if n≤64 then n else 0:Nat):Int),str t,.slice ra rs.length rc,av,aw,aA,aE]:List ah).all lh=true :=by
  have g0:=a4 0 ag;have g1:=a4 1 ag;have g2:=a4 2 ag;have g3:=a4 3 ag;simp only [oP,BX] at g0 g1 g2 g3;simp only [uR,BW,g0,g1,g2,g3]; rfl
 refine aP 5 U<|p (ay U<|bt.aG 1)<|aj 3 U ?_;refine eP U (fQ jJ (lK _ _ _ ad) U fun eG co db=> ?_) (fun c w' I σ' A=>by
  obtain ⟨rfl,hb,rfl⟩:=I;exact m7 U aJ ((A 2<|.head _).trans U) ((A 3<|.tail _<|.head _).trans U) (ac) (by rw [bf,De bK aX (fun h=>of_decide_eq_false hb<|by rw [h])]))
 obtain ⟨rfl,dJ,rfl⟩:=db;have dB:aL=s.length:=by have :=of_decide_eq_true dJ; omega
 refine ar 1 U<|cE<|eK<|eY<|aP 1 U<|p (eZ td U (U) (show ∀ j,j < 7→aH co.heap C (0 +j)=([.int .i64 ((if n≤64 then n else 0:Nat):Int),str t,.slice ra rs.length rc,av,aw,aA,aE]:List ah)[j]? from fun j _=>by rw [du,eB ac.c2]; simp))<|e<|fG vM U U U dw ac.c2 (by rw [ac.len]; decide) fun dO bT cG=> ?_;have dh:dO.heap[C]? =some (.cells ([.int .i64 ((if n≤64 then n else 0:Nat):Int),str t,.slice ra rs.length rc]++ [av,aw,aA,aE]).toArray 92 (0,0)):=cG.trans<|by rw [iY (by rw [ac.len]; decide),uZ,oQ,kC]; rfl
 refine e<|fl zh U U (v:= .int .i64 0) U (bT.ax ac.c3 fun h=>by omega) aJ fun dP bU cH=>ar 1 U<|cE<|AW ?_;exact LF U aJ U U (bU.ax dh fun h=>by omega) cH U (fun w' hm=>by
  unfold ll;rw [bf,Df bK aX dB];have bz:Md (fun k=>k=C∨k=M) co dP:=(bT.mono fun _ _ h=> .inl h).trans<|bU.mono fun _ _ h=> .inr h;refine ⟨⟨_,U,ra,rc,_,U,a2,(dx<|aR (cC bi bz fun k E h=>by have :=(da bi E).1; omega) hm).2,fun i hi=>(((bv i hi).md bz fun k E hb=>absurd hb ag).wk hm).mono ag⟩,(ac.wk.trans' bz fun k E h=>by omega).trans hm⟩)
theorem tM {α:Type} {f:Nat→Except Nat (α×Nat)} (C:∀ a e,f a= .error e→e≠0):∀ {k a e:Nat},cY f k a= .error e→e≠0
 | 0,a,e,h=>by cases h
 | k+1,a,e,h=>by
   rw [cY] at h;split at h
   · rename_i E A;cases h;exact tM C A
   · split at h
     · rename_i E A;cases h;exact C _ _ A
     · cases h
theorem rT {s:List UInt8} {a e:Nat} (h:bJ s a= .error e):e≠0:=by rcases AY h with h | h <;> omega
theorem zJ {s:List UInt8} {a e:Nat} (h:dJ s a= .error e):e≠0:=by
 unfold dJ at h;split at h
 · rename_i A; cases h; exact rT A
 · repeat' split at h
   all_goals first | (cases h; decide) | cases h
theorem Pc {s:List UInt8} {a e:Nat} (h:iR s a= .error e):e≠0:=by
 unfold iR at h;split at h
 · rename_i A; cases h; exact zJ A
 · split at h
   · rename_i A; cases h; exact zJ A
   · cases h
theorem LY {s:List UInt8} {n a e:Nat} (h:fL s n a= .error e):e≠0:=by
 unfold fL at h;split at h
 · cases h; decide
 · split at h
   · rename_i A; cases h; exact rT A
   · split at h
     · cases h; decide
     · cases h
theorem Qq {s:List UInt8} {n a e:Nat} (h:gS s n a= .error e):e≠0:=by
 unfold gS at h;split at h
 · rename_i A; cases h; exact rT A
 · split at h
   · cases h; decide
   · split at h
     · rename_i A; cases h; exact tM (fun _ _=>LY) A
     · cases h
theorem PA {s:List UInt8} {a e:Nat} (h:dy s a= .error e):e≠0:=by
 unfold dy at h;split at h
 · rename_i A; cases h; exact rT A
 · split at h
   · cases h; decide
   · split at h
     · rename_i A; cases h; exact tM (fun _ _=>Qq) A
     · split at h
       · cases h
       · cases h; decide
theorem LC {s:List UInt8} {e:Nat} (h:cD s= .error e):e≠0:=by
 unfold cD at h;split at h
 · split at h
   · rename_i A; cases h; exact rT A
   · split at h
     · rename_i A; cases h; exact zJ A
     · split at h
       · rename_i A; cases h; exact rT A
       · split at h
         · cases h; decide
         · split at h
           · rename_i A; cases h; exact tM (fun _ _=>Pc) A
           · generalize (if _≤64 then _ else 0)=n0 at h;unfold iu at h;split at h
             · split at h
               · rename_i A; cases h; exact tM (fun _ _=>PA) A
               · split at h
                 · cases h
                 · cases h; decide
             · cases h; decide
 · cases h; decide
theorem ll.form {s:List UInt8} {w w':ai} {v:ah} (h:ll s w v w'):∃ L M x2 O V Z aa e,v= .tuple #[.agg [L,M,x2,O,V,Z,aa].toArray,.int .i64 ((e:Nat):Int)]∧[L,M,x2,O,V,Z,aa].all lh=true∧Wk w w'∧
 ((e≠0∧cD s= .error e)∨(e=0∧∃ b,cD s= .ok b∧qD w' w.heap.size [L,M,x2,O,V,Z,aa] b)):=by
 obtain ⟨h,ab⟩:=h;cases hX:cD s with
 | error e=>
   rw [hX] at h;exact ⟨_,_,_,_,_,_,_,e,h,U,ab,.inl ⟨LC hX,U⟩⟩
 | ok b=>
   rw [hX] at h;obtain ⟨cs,ad,hb⟩:=h;obtain ⟨ra,rc,vs,rfl,ae,aj,ac⟩:=id hb;obtain ⟨C,E,I,J,rfl⟩:∃ C E I J,vs= [C,E,I,J]:=by
    match vs,ae with
    | [C,E,I,J],_=>exact ⟨_,_,_,_,rfl⟩
   have A:∀ i,i < 4→([C,E,I,J].getD i .nilFunc).oneCell'=true :=fun i hi=>by
    obtain ⟨_,_,e,_⟩:=(ac i hi).mE;rw [e]; rfl
   have g0:=A 0 ag;have g1:=A 1 ag;have g2:=A 2 ag;have g3:=A 3 ag;simp only [oP,BX] at g0 g1 g2 g3;exact ⟨_,_,_,_,_,_,_,0,ad,by simp only [uR,BW,g0,g1,g2,g3]; rfl,ab,.inr ⟨U,b,U,hb⟩⟩
def ez (w:ai) (B cb:Nat) (b:eU) (A:List UInt8):Prop := ∃ cs,aD w.heap cb (cs++ [str A])∧qD w B cs b∧B≤cb
theorem ez.wk {w w':ai} {B cb:Nat} {b:eU} {A:List UInt8} (h:ez w B cb b A) (hm:Wk w w'):ez w' B cb b A:=by
 obtain ⟨cs,C,E,I⟩:=h;exact ⟨cs,Wk.B hm C,E.wk hm,I⟩
def JJ (s:List UInt8) (w:ai) (v:ah) (w':ai):Prop :=(match cD s with
 | .ok b=> ∃ cb,v= .tuple #[.pointer (some ⟨cb,0,none⟩),.nilIface]∧ez w' w.heap.size cb b s
 | .error e=>v= .tuple #[.pointer none,.iface 33 (.int .i64 ((e:Nat):Int))])∧Wk w w'
theorem NL (s:List UInt8) (w:ai) (aA:s.length≤1048576):
 aZ aq 11 (bd [str s]) w (JJ s w):=by
 refine enter func11 U ntmps11 U<|aP 8 U<|p mv<|e<|aI (LG s w aA) U fun aR aB au=> ?_;obtain ⟨A,C,x2,E,I,J,M,ad,rfl,ay,Z,V⟩:=ll.form au;have aQ:=Z.size;refine p mv<|aj 2 U<|e<|fK Ig fun ac aT aF ae am=> ?_;have aN:=ae.size;refine e<|fG vM U U U ay am aJ fun ab ap an=> ?_;have ao:aD ab.heap ac [A,C,x2,E,I,J,M]:=⟨_,an⟩
 have O:Wk aB ab:=ae.md.trans' ap fun k aL h=>by omega
 have aO:=O.size;refine aC 10 U<|cd U (fun ax=> ?_) fun ax=> ?_;have V:ad≠0∧cD s= .error ad:=V.resolve_right fun h=>by omega
 refine az 3 U<|p (Av wV U)<|ar 6 U<|f2 U U U ?_;refine ⟨?_,Z.trans O⟩;rw [V.2];exact U;obtain ⟨aK,b,av,aw⟩:=V.resolve_left fun h=>by omega
 refine az 4 U<|p (eZ td U (U) (show ∀ j,j < 7→aH ab.heap ac (0 +j)=([A,C,x2,E,I,J,M]:List ah)[j]? from fun j _=>ao.aG j))<|p mv<|p (CG (ps:= [(0,.agg [A,C,x2,E,I,J,M].toArray),(1,str s)]) (L:= [A,C,x2,E,I,J,M,str s]) Qn U<|by simp [Instr.fill,Value.cells,str])<|e<|tl (L:= [A,C,x2,E,I,J,M,str s]) U fun ak aS aE aa al=> ?_;have aM:=aa.size;refine ar 5 U<|f2 U U U ?_;refine ⟨?_,(Z.trans O).trans aa.md⟩;rw [av];exact ⟨ak,U,_,⟨_,al⟩,aw.wk (O.trans aa.md),ag⟩
end Go.Hb.lU
end
section
namespace Go.Hb.nS
open Go.Hb.jH Go.Hb.j7 Go.Hb.vq Go.Hb.o3 Go.Hb.vu Go.Hb.o4 Go.Hb.kH Go.Hb.lU
theorem KQ {g0:List UInt8→Option Int} {hist gz:List (List UInt8→Option Int)} {g:List UInt8→Option Int} (h:kG g0 hist gz g):eA g∧∃ m,dh g m∧m≤500:=by
 have :=h.ok hist.length<|by rw [h.len]; omega
 rwa [h.last] at this
theorem Fy (o:Option aW) (w:ai):aZ aq 12 #[.pointer o] w (fun v w'=>(o=none∧v= .pointer none∧Wk w w')∨∃ A bl bs,o=some A∧v= .pointer (some ⟨bl,0,none⟩)∧w.heap.size≤bl∧w.heap.size≤bs∧cT w' w.heap.size bl bs (.slice none 0 0) A (fun _=>none) 0 [] []∧Wk w w'):=by
 cases o with
 | none=>exact (N7 w).mono fun v w' ⟨E,C⟩=> .inl ⟨rfl,E,C⟩
 | some A=>
   refine (Fz A w).mono fun v w' ⟨bl,bs,E,C,I,O,J,L,M⟩=> .inr ⟨A,bl,bs,U,E,C,I,?_,M⟩;exact ⟨J,L,⟨[],List.nodup_nil,U,fun k=>⟨fun ⟨v,h⟩=>(by rw [rj] at h; cases h),fun h=>by simp at h⟩⟩,ag,fun x h=>(by cases h),⟨C,I⟩,eL _ _ _ _,(fun h=>by simp [Value.ownBlock] at h),trivial⟩
theorem eT.N8 {α β:Type} {R:α→β→Prop} :∀ {l:List α},eT R l ([]:List β)→l= []
 | [],_=>rfl
 | _::_,h=>h.elim
theorem QC {α:Type} {l:List α} {k:Nat} {d:α} (h:k < l.length):l.take (k+1)=l.take k++ [l.getD k d]:=by
 rw [List.take_add_one,cr h,cQ,cr h]; rfl
theorem QW {g0:List UInt8→Option Int} {B bl bs n k:Nat} {vb:ah} {E:aW} {hist gz:List (List UInt8→Option Int)} {gT:List UInt8→Option Int} {cs:List ah} (w:ai) (M:kG g0 hist gz gT) (A:cT w B bl bs vb E (gz.getD k dG) n (hist.take k) cs) (ac:k≤hist.length) (ab:hist.length≤1048576):
 aZ aq 16 #[.pointer (some ⟨bl,0,none⟩)] w (fun v w'=>v= .bool (decide (0 < k))∧∃ I J aa,cT w' B bl bs I E (gz.getD (k - 1) dG) aa (hist.take<|k - 1) J∧Md (jh bl bs vb) w w'∧(∀ j,I.ownBlock=some j→vb.ownBlock=some j)):=by
 cases k with
 | zero=>
   rw [uZ] at A;obtain rfl :=eT.N8 A.bk;refine (QV B bl bs vb E _ n w A).mono fun v w' ⟨L,C⟩=>⟨L,vb,[],n,?_,C.mono (fun _ _ h=>h.elim),fun j h=>h⟩
   rw [uZ]; exact A.wk C
 | succ k=>
   rw [QC (d:=dG) ag] at A;have hb:=M.back k ag;obtain ⟨_,m,hm,V⟩:=M.ok k<|by rw [M.len]; omega
   have Z:=eT.len A.bk;simp only [bo,bY,dE] at Z;refine (HN B bl bs vb E _ (hist.getD k dG) n m (hist.take k) cs w A (by rw [hb]; exact hm) V ag).mono fun v w' ⟨L,I,J,C,O,U⟩=>⟨L.trans (by simp),I,J,m,?_,O,U⟩
   rw [hb] at C;exact C
end Go.Hb.nS
end
section
namespace Go.Hb.ez
open Go.Hb.kH Go.Hb.lU
def jn (c:UInt8) (es:List (UInt8×Int)):Nat:=es.findIdx fun e=>e.1==c
theorem EJ {c:UInt8} {es:List (UInt8×Int)} {i:Nat} {e:UInt8×Int} (he:es[i]? =some e) (A:e.1=c) (E:∀ (j:Nat) (e':UInt8×Int),j < i→es[j]? =some e'→e'.1≠c):jn c es=i:=by
 unfold jn;obtain ⟨hi,rfl⟩:=dt.1 he;rw [List.findIdx_eq hi];refine ⟨by simpa using A,fun j C=> ?_⟩;have :=E j _ C<|cr ag;simpa using this
theorem EK {c:UInt8} {es:List (UInt8×Int)} (C:∀ (j:Nat) (e':UInt8×Int),es[j]? =some e'→e'.1≠c):jn c es=es.length:=by
 unfold jn;refine List.findIdx_eq_length.2 fun e he=> ?_;obtain ⟨j,A⟩:=List.mem_iff_getElem?.1 he;simpa using C j e A
def ji (l:List bH):Nat→List UInt8→Option Nat×Nat
 | n,[]=>(some n,0)
 | n,c::w=>if jn c (bp l n).2 < (bp l n).2.length then ((ji l ((bp l n).2.getD (jn c (bp l n).2) (0,0)).2.toNat w).1,(ji l ((bp l n).2.getD (jn c (bp l n).2) (0,0)).2.toNat w).2 +1) else (none,0)
def jj (l:List bH) (w:List UInt8):Option Nat×Nat:=if l= [] then (none,0) else ji l 0 w
def j9 (l:List bH) (w:List UInt8):Bool:=match (jj l w).1 with
 | some n=>(bp l n).1
 | none=>false
def jd (l:List bH):Prop :=l.length≤1048576∧∀ x∈l,x.2.length≤256∧∀ e∈x.2,0≤e.2∧e.2 < l.length
theorem jd.nil:jd []:=⟨by simp,fun x A=>by simp at A⟩
theorem jd.st {l:List bH} (h:jd l) {n:Nat} (hn:n < l.length):(bp l n).2.length≤256∧∀ (i:Nat) e,(bp l n).2[i]? =some e→0≤e.2∧e.2 < l.length:=by
 have :=h.2 _<|gO (d:=dI) hn;exact ⟨this.1,fun i e he=>this.2 e<|lj he⟩
def cW (b:eU) (n:Int):List bH:=if 0≤n∧n < 4 then b.jt.getD n.toNat [] else []
theorem PB {s:List UInt8} {b:eU} (h:b.Is s) (n:Int):jd (cW b n):=by
 unfold cW;split
 · rename_i hn;have hm:b.jt.getD n.toNat []∈b.jt:=gO<|by rw [h.FD]; omega
   obtain ⟨_,A,C⟩:=h.jt _ hm;exact ⟨A,C⟩
 · exact jd.nil
theorem ez.sec {w:ai} {B cb:Nat} {b:eU} {J:List UInt8} (h:ez w B cb b J) {n:Nat} (hn:n < 4):∃ A cc,aH w.heap cb (3 +n)=some (.slice A (b.jt.getD n []).length cc)∧gj w.heap A (b.jt.getD n []):=by
 obtain ⟨cs,C,⟨ra,rc,vs,rfl,L,_,E⟩,_⟩:=h;obtain ⟨A,cc,e,_,I⟩:=(E n hn).mE;refine ⟨A,cc,?_,I⟩;rw [C.aH,eR (by simp only [bo,cg,fu]; omega),eC (by simp)];rw [cQ] at e;have :vs[n]? =some (vs[n]'ag):=cr ag;rw [this] at e;show vs[3 +n - 3]? =_;rw [Nat.add_sub_cancel_left,this,← e]; rfl
theorem gj.none (h:Array Obj):gj h none []:=⟨fun h=>by simp at h,fun i hi=>by simp at hi⟩
theorem PE (B kb:Nat) (b:eU) (O:List UInt8) (n:Int) (w:ai) (I:ez w B kb b O):
 aZ aq 130 (bd [aA kb,.int .i64 n]) w (fun v w'=>(∃ C cc,v= .slice C (cW b n).length cc∧gj w'.heap C (cW b n))∧Wk w w'):=by
 refine enter func130 U ntmps130 U<|aP 9 U<|p (iM ss U U)<|aj 1 U<|gb (t:=7) U (fun h=>absurd (h.symm.trans<|U) dS) fun V=>aj 4 U<|gs (t:=11) U (fun L=> ?_) fun L=> ?_;refine ar 13 U<|aE U ?_;have A:cW b n= []:=if_neg ag;rw [A];exact ⟨⟨none,0,U,gj.none _⟩,Md.refl _ _⟩;refine aC 5 U<|cd U (fun J=> ?_) fun J=> ?_;refine aB 7 U<|aE U ?_;have A:cW b n= []:=if_neg ag;rw [A];exact ⟨⟨none,0,U,gj.none _⟩,Md.refl _ _⟩;obtain ⟨k,rfl⟩:∃ k:Nat,n=(k:Int):=⟨n.toNat,ag⟩
 have A:cW b (k:Int)=b.jt.getD k []:=if_pos ag;obtain ⟨C,cc,E,M⟩:=ez.sec I (n:=k) ag;rw [show 3 +k=0 +0 +3 +((k:Nat):Int).toNat*1 by omega] at E;refine az 9 U<|p (pC CB U U ag)<|p (ay U<|E)<|p aU<|ar 3 U<|aE U ?_;rw [A];exact ⟨⟨C,cc,U,M⟩,Md.refl _ _⟩
theorem JX (C:UInt8×Int) (x:List UInt8) (i J I:Nat) (w:ai) (M:aD w.heap J [str x]) (L:aD w.heap I [aQ i]) (hi:i < x.length):
 aZ aq 132 (bd [.agg #[.int .u8 C.1.toNat,.int .i64 C.2],aA J,aA I]) w (fun v w'=>v= .bool (decide (C.1=x.getD i 0))∧Wk w w'):=by
 exact enter func132 U ntmps132 U<|aP 2 U<|e<|l9 U fun V aa Z E O=>aC 4 U<|fk fun A=>aY [0] U A<|c9 1 U A (O.aG 0)<|c9 2 U A ((Wk.B E.md M).aG 0)<|c9 3 U A ((Wk.B E.md L).aG 0)<|cB 4 U (dc u9 U U ag) A<|aY [5,6] U A<|hn an<|bg 2 U<|aE U<|⟨bv (by rw [Int.ofNat_inj,nO]),E.md.drew⟩
theorem M5 (a:Option aW) (c:Nat) (es:List (UInt8×Int)) (x:List UInt8) (i I E:Nat) (w:ai) (V:nQ w.heap a es) (ae:aD w.heap I [str x]) (ad:aD w.heap E [aQ i]) (hi:i < x.length) (al:es.length≤256):
 aZ aq 131 (bd [.slice a es.length c,.func (.func 132) #[] #[aA I,aA E]]) w (fun v w'=>(∃ r:Int,v= .int .i64 r∧((r=(jn (x.getD i 0) es:Nat)∧jn (x.getD i 0) es < es.length)∨(r= -1∧jn (x.getD i 0) es=es.length)))∧Wk w w'):=by
 refine enter func131 U ntmps131 U<|aP 8 U<|p mv<|aC 5 U<|lp (fun M ab L=> ∃ (k:Nat),(k≤es.length)∧(∀ (j:Nat) (e':UInt8×Int),j < k→es[j]? =some e'→e'.1≠x.getD i 0)∧(Wk w L)∧(Sl ab [(0,.slice a es.length c),(1,.func (.func 132) #[] #[aA I,aA E]),(7,aQ (es.length)),(8,aQ k)])∧(es.length - k=M)) _ ⟨0,ag,(fun j d aa=>by omega),(Md.refl _ _),U,U⟩ ?_;rintro M ab L ⟨k,ak,J,A,aj,rfl⟩;refine bE aj<|bV 6 U<|cd U (fun ah=> ?_) fun ah=> ?_;refine bD 11 U ?_;obtain ⟨ac,he⟩:∃ d,es[k]? =some d:=⟨_,cr ag⟩
 refine az 4 U<|p (bZ vV U U ag<|V.ok ag)<|p (eZ Cj U (U)<|(V.wk A).two he)<|e<|zd Kr U (JX ac x i I E L (Wk.B A ae) (Wk.B A ad) hi) U ?_;rintro am an ⟨rfl,O⟩;refine aC 2 U<|cb U (fun hm=> ?_) fun hm=> ?_;refine aB 9 U<|tr<|bg 2 U<|aE U ?_;have Z:=EJ he (of_decide_eq_true hm) J;exact ⟨⟨(k:Nat),U,.inl ⟨by rw [Z],by rw [Z]; omega⟩⟩,A.trans O⟩;exact az 4 U<|p (bW<|k+1)<|ar 2 U<|tn<|⟨_,ag,k+1,ag,(fun j e' aa C=>by rcases Nat.lt_succ_iff_lt_or_eq.1 aa with h | rfl; exact J j e' h C; rw [he] at C; cases C; exact of_decide_eq_false hm),(A.trans O),U,U⟩
 exact aB 2 U<|cj<|bg 8 U<|aE U<|⟨⟨-1,U,.inr ⟨U,EK fun j e' C=>J j e' (by have :=(dt.1 C).1; omega) C⟩⟩,A⟩
theorem JZ {l:List bH} {n:Nat} :ji l n []=(some n,0):=rfl
theorem Cq {l:List bH} {n:Nat} {c:UInt8} {w:List UInt8} (h:jn c (bp l n).2=(bp l n).2.length):ji l n (c::w)=(none,0):=by
 rw [ji,if_neg ag]
theorem Cp {l:List bH} {n m:Nat} {c:UInt8} {w:List UInt8} {e:UInt8×Int} (h:(bp l n).2[jn c (bp l n).2]? =some e) (he:e.2=(m:Int)):ji l n (c::w)=((ji l m w).1,(ji l m w).2 +1):=by
 have A:=(dt.1 h).1;rw [ji,if_pos A,cQ,h];show ((ji l e.2.toNat w).1,(ji l e.2.toNat w).2 +1)=_;rw [he,Int.toNat_natCast]
theorem zm {x:List UInt8} {k:Nat} (h:k < x.length):x.drop k=x.getD k 0::x.drop (k+1):=by
 rw [List.drop_eq_getElem_cons h,cQ,cr h]; rfl
def JH (l:List bH) (x:List UInt8) (w:ai) (v:ah) (w':ai):Prop :=Wk w w'∧∃ p,v= .tuple #[p,.int .i64 ((jj l x).2:Nat)]∧match (jj l x).1 with
 | none=>p= .pointer none
 | some q=> ∃ A C,p= .pointer (some ⟨A,C,none⟩)∧aH w'.heap A (C+0)=some (.bool (bp l q).1)
theorem Cu (B kb:Nat) (b:eU) (aN:List UInt8) (n:Int) (x:List UInt8) (w:ai) (aT:ez w B kb b aN) (aE:jd (cW b n)) (bj:x.length≤4294967296):
 aZ aq 83 (bd [aA kb,.int .i64 n,str x]) w (JH (cW b n) x w):=by
 obtain ⟨bb,bc⟩:=id aE;refine enter func83 U ntmps83 U<|aP 2 U<|e<|vF U U fun L ba bi Z au=> ?_;have bn:=Z.size;refine aj 6 U<|p mv<|p mv<|e<|aI (PE B kb b aN n ba<|aT.wk Z.md) U ?_;rintro br a9 ⟨⟨ak,cc,rfl,aX⟩,hE14⟩;have aw:=Z.md.trans hE14;refine p aU<|aj 5 U<|p mv<|aC 4 U<|cd U (fun a0=> ?_) fun a0=> ?_;have I:(cW b n).length=0:=ag;refine aB 8 U<|f2 U U U ?_;have C:jj (cW b n) x=(none,0):=if_pos<|List.eq_nil_of_length_eq_zero I;refine ⟨aw,.pointer none,by rw [C]; rfl,?_⟩;rw [C];have I:0 < (cW b n).length:=ag;refine az 10 U<|p (ay U<|(aD.aG ⟨_,Wk.ax hE14 au⟩ 0:aH a9.heap L 0=some (str x)))<|aC 5 U<|lp (fun ap aO J=> ∃ (k q:Nat),(k≤x.length)∧(q < (cW b n).length)∧(jj (cW b n) x=((ji (cW b n) q<|x.drop k).1,(ji (cW b n) q<|x.drop k).2 +k))∧(gj J.heap ak<|cW b n)∧(aD J.heap L [str x])∧(Wk w J)∧(Sl aO [(5,aA L),(8,.slice ak (cW b n).length cc),(9,aQ q),(19,aQ (x.length)),(20,aQ k)])∧(x.length - k=ap)) _ ⟨0,0,ag,I,(by rw [jj,if_neg (fun h=>by rw [h] at I; simp at I)]; rfl),aX,(⟨_,Wk.ax hE14 au⟩),aw,U,U⟩ ?_;rintro ap aO J ⟨k,q,a3,ae,ac,E,ab,O,a6,rfl⟩;refine bE a6<|bV 6 U<|cd U (fun a1=> ?_) fun a1=> ?_;refine az 7 U<|e<|fK RO fun al bu bf aF aR=> ?_;have bm:=aF.size;refine e<|fl fW U U U aR (by simp) fun ah aW aS=> ?_;have av:aD ah.heap al [aQ k]:=⟨_,aS⟩
 have A:Wk J ah:=Md.trans' aF.md aW fun k a3 h=>by omega
 have bo:=A.size;refine aC 3 U ?_;obtain ⟨am,ao,aa,aV⟩:=E.two ae;have aK:=mF A aa;have V:=aV.wk A;obtain ⟨a4,a5⟩:=aE.st ae;have aL:=zm (x:=x) (k:=k) ag;refine az 3 U<|p (bZ vW U U ag<|E.ok ag)<|aj 1 U<|p (ay U<|aK 1 ag)<|p rq<|e<|aI (M5 am ao (bp (cW b n) q).2 x k L al ah V (A.B ab) av ag a4) U ?_;rintro bt bv ⟨⟨bq,rfl,aM⟩,hE29⟩;refine aC 10 U<|cd U (fun a2=> ?_) fun a2=> ?_;have ad:=aM.resolve_left fun h=>by omega
 refine bD 1 U<|fk fun aJ=>c9 0 U aJ ((hE29.B av).aG 0)<|aY [1,2] U aJ<|hn an<|bg 5 U<|tr<|bg 2 U<|f2 U U U ?_;have C:jj (cW b n) x=(none,k):=by rw [ac,aL,Cq ad.2]; simp
 refine ⟨(O.trans<|A.trans hE29).drew,.pointer none,by rw [C]; rfl,?_⟩;rw [C];obtain ⟨rfl,ad⟩:=aM.resolve_right fun h=>by omega
 refine bD 2 U ?_;obtain ⟨⟨c,z⟩,he⟩:∃ e,(bp (cW b n) q).2[jn (x.getD k 0) (bp (cW b n) q).2]? =some e:=⟨_,cr ad⟩
 obtain ⟨a7,a8⟩:=a5 _ _ he;obtain ⟨m,rfl⟩:∃ m:Nat,z=(m:Int):=⟨z.toNat,by simp only at a7; omega⟩
 simp only at a8;exact az 3 U<|p (bZ vW U U ag<|E.ok ag)<|aj 1 U<|p (ay U<|(mF hE29 aK) 1 ag)<|aj 1 U<|p (bZ vV U U ag<|V.ok ag)<|aj 1 U<|p (ay U (show _=some (bh .i64 ((m:Nat):Int)) from (V.wk hE29).to _ (c,_) he))<|aj 5 U<|p (bW<|k+1)<|ar 2 U<|tn<|⟨_,ag,k+1,m,ag,ag,(by rw [ac,aL,Cp he U]; simp only [Prod.mk.injEq,true_and]; omega),(E.wk<|A.trans hE29),(Wk.B (A.trans hE29) ab),(O.trans<|A.trans hE29),U,U⟩
 refine aB 2 U<|cj<|dT 3 U<|fk fun M=>aY [0,1] U M<|cB 2 U (bZ vW U U ag<|E.ok ag) M<|c9 3 U M (ab.aG 0)<|aY [4,5,6] U M<|hn an<|bg 2 U<|f2 U U U ?_;obtain rfl :k=x.length:=ag;have C:jj (cW b n) x=(some q,x.length):=by rw [ac,List.drop_length,JZ]; simp
 refine ⟨Md.drew O,_,by rw [C]; rfl,?_⟩;rw [C];obtain ⟨am,ao,aa,_⟩:=E.two ae;exact ⟨_,_,U,aa 0 ag⟩
theorem MQ (B kb:Nat) (b:eU) (C:List UInt8) (n:Int) (x:List UInt8) (w:ai) (E:ez w B kb b C) (J:jd (cW b n)) (M:x.length≤4294967296) (A:(jj (cW b n) x).1=none):
 aZ aq 40 (bd [aA kb,.int .i64 n,str x]) w (fun v w'=>v= .bool (j9 (cW b n) x)∧Wk w w'):=by
 refine enter func40 U ntmps40 U<|aP 7 U<|p mv<|p mv<|p mv<|e<|aI (Cu B kb b C n x w E J M) U ?_;rintro V Z ⟨I,p,rfl,hp⟩;rw [A] at hp;subst hp;refine p mv<|aj 2 U<|p aU<|aj 5 U<|p mv<|p (pO HG U U)<|aj 1 U<|gb (t:=18) U (fun h=>absurd (h.symm.trans<|U) dS) fun O=>aj 5 U<|p aU<|ar 3 U<|aE U ?_;have L:j9 (cW b n) x=false :=by rw [j9,A]
 rw [L];exact ⟨U,I⟩
theorem MS (B kb:Nat) (b:eU) (C:List UInt8) (n:Int) (x:List UInt8) (w:ai) (E:ez w B kb b C) (J:jd (cW b n)) (O:x.length≤4294967296) (q:Nat) (A:(jj (cW b n) x).1=some q):
 aZ aq 40 (bd [aA kb,.int .i64 n,str x]) w (fun v w'=>v= .bool (j9 (cW b n) x)∧Wk w w'):=by
 refine enter func40 U ntmps40 U<|aP 7 U<|p mv<|p mv<|p mv<|e<|aI (Cu B kb b C n x w E J O) U ?_;rintro ab ac ⟨I,p,rfl,hp⟩;rw [A] at hp;obtain ⟨V,aa,rfl,M⟩:=hp;refine p mv<|aj 2 U<|p aU<|aj 5 U<|p mv<|p (pO HG U U)<|aj 1 U<|gb (t:=18) U (fun Z=> ?_) fun h=>absurd ((U).symm.trans h) dS;refine bA U mv<|aj 2 U<|bA U (ay U<|M)<|ar 5 U<|aE U ?_;have L:j9 (cW b n) x=(bp (cW b n) q).1:=by rw [j9,A]
 rw [L];exact ⟨U,I⟩
theorem MT (B kb:Nat) (b:eU) (A:List UInt8) (n:Int) (x:List UInt8) (w:ai) (C:ez w B kb b A) (E:jd (cW b n)) (I:x.length≤4294967296):aZ aq 40 (bd [.pointer (some ⟨kb,0,none⟩),.int .i64 n,str x]) w (fun v w'=>v= .bool (j9 (cW b n) x)∧Wk w w'):=by
 cases hX:(jj (cW b n) x).1 with
 | none=>exact MQ B kb b A n x w C E I hX
 | some q=>exact MS B kb b A n x w C E I q hX
theorem KP (B kb:Nat) (b:eU) (A:List UInt8) (x:List UInt8) (w:ai) (C:ez w B kb b A) (I:jd (cW b 0)) (J:x.length≤4294967296):
 aZ aq 21 (bd [aA kb,str x]) w (fun v w'=>v= .bool (j9 (cW b 0) x)∧Wk w w'):=by
 refine enter func21 U ntmps21 U<|aP 7 U<|p mv<|p mv<|e<|aI (MT B kb b A 0 x w C I J) U ?_;rintro L M ⟨rfl,E⟩;exact ar 4 U<|aE U<|⟨U,E⟩
end Go.Hb.ez
end
namespace Go.Hb
theorem Kl {b:Bool} (h:(!b)=true):b=false :=by cases b; rfl; cases h
theorem Kk {b:Bool} (h:(!b)=false):b=true :=by cases b; cases h; rfl
def DG:Except Nat (List UInt8×Int)→ah
 | .ok (x,o)=> .tuple #[str x,.int .i64 o,.int .i64 0]
 | .error e=> .tuple #[str [],.int .i64 0,.int .i64 ((e:Nat):Int)]
theorem L0 (f:List (List UInt8)):∃ x o e,DG (eN f)= .tuple #[str x,.int .i64 o,.int .i64 ((e:Nat):Int)]∧((e=0∧eN f= .ok (x,o))∨(e≠0∧eN f= .error e)):=by
 cases h:eN f with
 | ok p=>exact ⟨p.1,p.2,0,rfl,.inl ⟨rfl,rfl⟩⟩
 | error e=>exact ⟨[],0,e,rfl,.inr ⟨(zq h).1,rfl⟩⟩
theorem L3 (a:Option aW) (cap:Nat) (f:List (List UInt8)) (w:ai) (M:bN w.heap a f) (am:∀ x∈f,x≠[]) (al:∀ x∈f,x.length≤1048576) (au:f.length≤1048577):
 aZ aq 29 (bd [.slice a f.length cap]) w (fun v w'=>v=DG (eN f)∧Wk w w'):=by
 refine enter func29 U ntmps29 U<|aP 10 U<|p mv<|aC 4 U<|cd U (fun ae=> ?_) fun ae=> ?_;exact aB 9 U<|f3 U U U U<|⟨by rw [DK ag]; rfl,Md.refl _ _⟩
 have I:f.length=1:=ag;have av:0 < (f.getD 0 []).length:=uY.2<|am _<|gO ag;have aw:(f.getD 0 []).length≤1048576:=al _<|gO ag;have ap:=H8<|(f.getD 0 []).drop 1;rw [gh] at ap;refine bD 7 U ?_;refine ei (fun ad ab=> ∃ (o:Int),((o=1∧dm f=43)∨(o= -1∧dm f=45))∧(Wk w ab)∧(Sl ad [(0,.slice a f.length cap),(5,.int .i64 o)])) ?_ ?_;refine aP 2 U<|p mv<|p (bZ dH U U ag<|aT.ok (M)<|ef ag)<|p (ay U<|bN.get (i:=0) M ag)<|p (kP 0 u9 U U ag)<|aC 9 U<|cd U (fun ah=> ?_) fun ah=> ?_;have A:dm f=43:=by unfold dm; omega
 exact aB 2 U<|tn<|⟨1,(.inl ⟨U,A⟩),(Md.refl _ _),U⟩
 have aa:dm f≠43:=by unfold dm; omega
 refine bD 6 U<|cd U (fun aj=> ?_) fun aj=> ?_;have A:dm f=45:=by unfold dm; omega
 exact aB 4 U<|tn<|⟨-1,(.inr ⟨U,A⟩),(Md.refl _ _),U⟩
 have ao:dm f≠45:=by unfold dm; omega
 exact aB 9 U<|tr<|f3 U U U U<|⟨by rw [DM I aa ao]; rfl,Md.refl _ _⟩
 rintro ad ab ⟨o,an,C,aa⟩;refine bE aa ?_;have A:dm f=43∨dm f=45:=ag;refine az 3 U<|p (bZ dH U U ag<|aT.ok (M.wk C)<|ef ag)<|p (ay U<|bN.get (i:=0) (M.wk C) ag)<|p (mD u9 U U ag)<|e<|aI (RC ((f.getD 0 []).drop 1) ab<|by rw [gh]; omega) U ?_;rintro ax ar ⟨rfl,L⟩;refine p mv<|aC 19 U<|cd U (fun ak=> ?_) fun ak=> ?_;have E:(dR f).2.2.2≠0:=by show (iC<|(f.getD 0 []).drop 1).2.2.2≠0; omega
 exact aB 11 U<|f3 U U U U<|⟨by rw [DJ I A E]; rfl,C.trans L⟩
 have E:(dR f).2.2.2=0:=by show (iC<|(f.getD 0 []).drop 1).2.2.2=0; omega
 refine bD 6 U<|cb U (fun V=> ?_) fun V=> ?_;have J:(dR f).2.2.1=true :=V;exact aB 10 U<|f3 U U U U<|⟨by rw [DI I A E J]; rfl,C.trans L⟩
 have J:(dR f).2.2.1=false :=V;refine az 3 U<|e<|aI (Bx (iC<|(f.getD 0 []).drop 1).1 ar ag) U ?_;rintro aA aD ⟨rfl,ac⟩;refine aC 4 U<|cb U (fun Z=> ?_) fun Z=> ?_;have O:dK (dR f).1=false :=Kl Z;exact aB 10 U<|f3 U U U U<|⟨by rw [DH I A E J O]; rfl,(C.trans L).trans ac⟩
 have O:dK (dR f).1=true :=Kk Z;refine aB 13 U<|f3 U U U U ?_;refine ⟨?_,(C.trans L).trans ac⟩;rw [DL I A E J O];rcases an with ⟨rfl,h⟩ | ⟨rfl,h⟩;rw [if_pos h]; rfl;rw [if_neg ag]; rfl
theorem Oj {b:UInt8} (h:¬(b.toNat:Int)=10):b≠10:=by rintro rfl; exact h rfl
theorem MY {b:UInt8} (h:(b.toNat:Int)=10):b=10:=nO.1 (by have :(10:UInt8).toNat=10:=rfl; omega)
theorem MZ {b:UInt8} (h:(b.toNat:Int)=13):b=13:=nO.1 (by have :(13:UInt8).toNat=13:=rfl; omega)
theorem Ol {b:UInt8} (h:¬(b.toNat:Int)=13):b≠13:=by rintro rfl; exact h rfl
theorem zN (b:UInt8) (w:ai):
 aZ aq 116 (bd [.int .u8 b.toNat]) w (fun v w'=>v= .bool (kM b)∧Wk w w'):=by
 refine enter func116 U ntmps116 U<|aP 10 U<|gs (t:=5) U (fun A=> ?_) fun A=> ?_;exact aj 3 U<|p aU<|ar 3 U<|aE U<|⟨by show bB true =_; rw [n8,decide_eq_true (.inl ag)],Md.refl _ _⟩
 exact ar 7 U<|aE U<|⟨by show bB (decide ((b.toNat:Int)=9))=_; rw [n8]; exact congrArg bB (decide_eq_decide.2 ag),Md.refl _ _⟩
theorem Mp (l:List UInt8) (w:ai) (a5:l.length≤1048576):
 aZ aq 63 (bd [str l]) w (fun v w'=>b9 w' w.heap.size 9 1 v (bO [] l).length ((bO [] l).map str)∧Wk w w'):=by
 refine enter func63 U ntmps63 U<|bV 24 U<|lp (fun aw ay w1=> ∃ (i:Nat) (fr:Int) (M:List UInt8) (A:List (List UInt8)) (v:ah),(i≤l.length)∧(iq l i fr M)∧(A++bO M (l.drop i)=(bO [] l))∧(Wk w w1)∧(b9 w1 w.heap.size 9 1 v (A).length<|(A).map str)∧(Sl ay [(0,str l),(3,v),(4,.int .i64 fr),(7,.int .i64 l.length),(8,.int .i64 i)])∧(l.length - i=aw)) _ ⟨0,-1,[],[],.slice none 0 0,ag,iq.no,U,(Md.refl _ _),(eL _ _ _ _),U,U⟩ ?_;rintro aw ay w1 ⟨i,fr,M,A,v,hi,J,C,aa,ak,aS,rfl⟩;refine bE aS ?_;have a2:A.length≤l.length+1:=by have O:=congrArg jC C; have L:=tH l []; rw [bo] at O; omega
 refine bV 6 U<|cd U (fun aM=> ?_) fun aM=> ?_;refine az 15 U<|p (dc u9 U U ag)<|e<|aI (zN (l.getD i 0) _) U ?_;rintro a9 aW ⟨rfl,ax⟩;have ab:Wk w aW:=Md.trans aa ax;have a6:=ab.size;have al:=aR ak ax;refine aj 1 U<|gb (t:=16) U (fun I=> ?_) fun I=> ?_;refine aC 6 U<|cd U (fun aK=> ?_) fun aK=> ?_;obtain ⟨gP,Z,au⟩:=J.pos ag;refine az 2 U<|gH (v)<|aj 3 U<|p (oG u9 U U U ag)<|e<|fh ew U U fun aX ba a0 ad aA=>e<|ap ew (aR al ad.md) U (by have :=ad.size; omega) U (aT.dD aA) (U) (U) ag ag fun aV bb aN aH a7 a3=> ?_;have aF:=Wk.own (Md.trans ab ad.md) (aR al ad.md) aH<|bf _;have aO:=ns aN;exact p aU<|ar 12 U<|tn<|⟨_,ag,i+1,-1,[],A++ [(l.take i).drop fr.toNat],aV,ag,iq.no,(by rw [drop_cons 0 ag,Ei I au,Z] at C; rw [iF]; exact C),aF,aO,U,U⟩
 refine az 4 U<|p (dc u9 U U ag)<|e<|aI (zN (l.getD i 0) _) U ?_;rintro v31 av ⟨rfl,V⟩;have ac:Wk w av:=Md.trans ab V;have am:=aR al V;refine aj 2 U<|gb (t:=33) U (fun E=> ?_) fun E=> ?_;refine aC 6 U<|cd U (fun an=> ?_) fun an=> ?_;refine aB 11 U<|tn ?_;rw [I] at E; cases E;refine aB 8 U<|tn ?_;rw [I] at E; cases E;exact aj 3 U<|p aU<|ar 11 U<|tn<|⟨_,ag,i+1,fr,M,A,v,ag,(by obtain ⟨O,L⟩:=J.neg ag; subst O L; exact iq.no),(by obtain ⟨O,L⟩:=J.neg ag; subst L; rw [drop_cons 0 ag,wh I] at C; exact C),ac,am,U,U⟩
 refine aj 3 U<|p aU<|aj 7 U<|p (dc u9 U U ag)<|e<|aI (zN (l.getD i 0) _) U ?_;rintro v31 av ⟨rfl,V⟩;have ac:Wk w av:=Md.trans ab V;have am:=aR al V;refine aj 2 U<|gb (t:=33) U (fun E=> ?_) fun E=> ?_;refine aC 6 U<|cd U (fun an=> ?_) fun an=> ?_;exact aB 11 U<|tn<|⟨_,ag,i+1,i,[l.getD i 0],A,v,ag,(iq.begin ag),(by obtain ⟨O,L⟩:=J.neg ag; subst L; rw [drop_cons 0 ag,zG I] at C; exact C),ac,am,U,U⟩
 exact aB 8 U<|tn<|⟨_,ag,i+1,fr,M++ [l.getD i 0],A,v,ag,(J.more ag ag),(by rw [drop_cons 0 ag,zG I] at C; exact C),ac,am,U,U⟩
 refine aj 3 U<|p aU<|ar 11 U<|tn ?_;rw [I] at E; cases E;refine aB 2 U<|cj<|dT 9 U<|cd U (fun aL=> ?_) fun aL=> ?_;obtain ⟨gP,Z,au⟩:=J.pos ag;refine az 1 U<|gH (v)<|aj 2 U<|p (mD u9 U U ag)<|e<|fh ew U U fun aY bc a1 ae aD=>e<|ap ew (aR ak ae.md) U (by have :=ae.size; have :=aa.size; omega) U (aT.dD aD) (U) (U) ag ag fun v46 bg aP aJ a8 a4=> ?_;have aG:=Wk.own (Md.trans aa ae.md) (aR ak ae.md) aJ<|bf _;have aQ:=ns aP;refine p aU<|aj 4 U<|p mv<|p aU<|ar 3 U<|aE U ?_;have ao:A++ [l.drop fr.toNat]=(bO [] l):=by rw [← C,show l.drop i= [] from iY ag,Ej au,Z,ja ag]
 exact ⟨by rw [← ao]; exact aQ,aG⟩;obtain ⟨gP,Z⟩:=J.neg ag;refine az 4 U<|gH (v)<|p (th (v) U)<|ar 3 U<|aE U ?_;have ao:A=(bO [] l):=by rw [← C,iY ag,Z,zH,kC]
 exact ⟨by rw [← ao]; exact ak,aa⟩
theorem OZ (l:List UInt8) (w:ai) (aW:l.length≤1048576):
 aZ aq 119 (bd [str l]) w (fun v w'=>b9 w' w.heap.size 9 1 v (bO [] l).length ((bO [] l).map str)∧Wk w w'):=by
 refine enter func119 U ntmps119 U<|bV 17 U<|lp (fun V aD am=> ∃ (i:Nat) (C:List (List UInt8)) (v:ah),(i≤l.length)∧(C++bO [] (l.drop i)=(bO [] l))∧(Wk w am)∧(b9 am w.heap.size 9 1 v (C).length<|(C).map str)∧(Sl aD [(0,str l),(3,v),(4,.int .i64 i)])∧(l.length - i=V)) _ ⟨0,[],.slice none 0 0,ag,U,(Md.refl _ _),(eL _ _ _ _),U,U⟩ ?_;rintro V aD am ⟨i,C,v,hi,O,I,J,aN,rfl⟩;refine bE aN ?_;have aS:C.length≤l.length+1:=by have M:=congrArg jC O; have aQ:=tH l []; rw [bo] at M; omega
 refine bV 9 U<|cd U (fun aJ=> ?_) fun aJ=> ?_;refine az 8 U<|p (dc u9 U U ag)<|aj 2 U<|gs (t:=14) U (fun aK=> ?_) fun aK=> ?_;exact ar 18 U<|tn<|⟨_,ag,i+1,C,v,ag,(by rw [drop_cons 0 ag,wh (by rw [n8]; exact decide_eq_true<|.inl ag)] at O; exact O),I,J,U,U⟩
 refine aj 2 U<|bA U (dc u9 U U ag)<|aC 4 U<|cd U (fun aH=> ?_) fun aH=> ?_;exact aB 10 U<|tn<|⟨_,ag,i+1,C,v,ag,(by rw [drop_cons 0 ag,wh (by rw [n8]; exact decide_eq_true<|.inr ag)] at O; exact O),I,J,U,U⟩
 have an:kM (l.getD i 0)=false :=by rw [n8]; exact decide_eq_false ag
 refine bD 10 U<|lp (fun V aF aA=> ∃ (j:Nat),(i≤j∧j≤l.length)∧(aA=am)∧(C++bO ((l.take j).drop i) (l.drop j)=(bO [] l))∧(Sl aF [(0,str l),(3,v),(4,.int .i64 i),(5,.int .i64 j)])∧(l.length - j=V)) _ ⟨i,ag,U,(by rw [iY (by rw [bY]; omega)]; exact O),U,U⟩ ?_;rintro V aF aA ⟨j,aV,aG,E,aO,rfl⟩;refine bE aO ?_;subst aG;refine aP 8 U<|gs (t:=27) U (fun aL=> ?_) fun aL=> ?_;refine aj 2 U<|bA U (dc u9 U U ag)<|aj 3 U<|gs (t:=33) U (fun aM=> ?_) fun aM=> ?_;refine aj 2 U<|bA U (dc u9 U U ag)<|aC 4 U<|cd U (fun aI=> ?_) fun aI=> ?_;exact aB 9 U<|tn<|⟨_,ag,j+1,ag,U,(by rw [drop_cons (l:=l) (i:=j) 0 ag,zG (by rw [n8]; exact decide_eq_false ag),← Ba 0 ag ag] at E; exact E),U,U⟩
 have L:l.length≤j∨kM (l.getD j 0)=true := .inr<|by rw [n8]; exact decide_eq_true<|.inr ag
 have ac:¬j=i:=by
  rintro rfl;rcases L with h | h;omega;rw [an] at h; cases h
 have ad:(l.take j).drop i≠[]:=fun h0=>ac<|by have M:=congrArg jC h0; simp only [gh,bY,fu] at M; omega
 rw [zE (i:=j) ad L] at E;refine aB 2 U<|cj<|fY 4 U<|gH (v)<|aj 3 U<|p (oG u9 U U U ag)<|e<|fh ew U U fun ao ax au A Z=>e<|ap ew (aR J A.md) U (by have :=A.size; have :=I.size; omega) U (aT.dD Z) (U) (U) ag ag fun al ay ae ab aw av=> ?_;have aa:=Wk.own (Md.trans I A.md) (aR J A.md) ab<|bf _;have ak:=ns ae;exact p aU<|ar 7 U<|tn<|⟨_,ag,j,C++ [(l.take j).drop i],al,ag,(by rw [iF]; exact E),aa,ak,U,U⟩
 have L:l.length≤j∨kM (l.getD j 0)=true := .inr<|by rw [n8]; exact decide_eq_true<|.inl ag
 have ac:¬j=i:=by
  rintro rfl;rcases L with h | h;omega;rw [an] at h; cases h
 have ad:(l.take j).drop i≠[]:=fun h0=>ac<|by have M:=congrArg jC h0; simp only [gh,bY,fu] at M; omega
 rw [zE (i:=j) ad L] at E;refine ar 10 U<|cj<|fY 4 U<|gH (v)<|aj 3 U<|p (oG u9 U U U ag)<|e<|fh ew U U fun ao ax au A Z=>e<|ap ew (aR J A.md) U (by have :=A.size; have :=I.size; omega) U (aT.dD Z) (U) (U) ag ag fun al ay ae ab aw av=> ?_;have aa:=Wk.own (Md.trans I A.md) (aR J A.md) ab<|bf _;have ak:=ns ae;exact p aU<|ar 7 U<|tn<|⟨_,ag,j,C++ [(l.take j).drop i],al,ag,(by rw [iF]; exact E),aa,ak,U,U⟩
 have L:l.length≤j∨kM (l.getD j 0)=true := .inl ag;have ac:¬j=i:=by
  rintro rfl;rcases L with h | h;omega;rw [an] at h; cases h
 have ad:(l.take j).drop i≠[]:=fun h0=>ac<|by have M:=congrArg jC h0; simp only [gh,bY,fu] at M; omega
 rw [zE (i:=j) ad L] at E;refine aj 5 U<|p mv<|ar 10 U<|cj<|fY 4 U<|gH (v)<|aj 3 U<|p (oG u9 U U U ag)<|e<|fh ew U U fun ao ax au A Z=>e<|ap ew (aR J A.md) U (by have :=A.size; have :=I.size; omega) U (aT.dD Z) (U) (U) ag ag fun al ay ae ab aw av=> ?_;have aa:=Wk.own (Md.trans I A.md) (aR J A.md) ab<|bf _;have ak:=ns ae;exact p aU<|ar 7 U<|tn<|⟨_,ag,j,C++ [(l.take j).drop i],al,ag,(by rw [iF]; exact E),aa,ak,U,U⟩
 refine aB 2 U<|cj<|fY 4 U<|gH (v)<|p (th (v) U)<|ar 3 U<|aE U ?_;have E:C=(bO [] l):=by rw [← O,iY ag,zH,kC]
 exact ⟨by rw [← E]; exact J,I⟩
theorem NU (s:List UInt8) (w:ai):
 aZ aq 169 (bd [str s]) w (fun v w'=>v= .bool (rn s)∧Wk w w'):=by
 refine enter func169 U ntmps169 U<|aP 11 U<|gs (t:=6) U (fun E=> ?_) fun E=> ?_;refine aj 1 U<|bA U (kP 0 u9 U U ag)<|aj 3 U<|gs (t:=11) U (fun A=> ?_) fun A=> ?_;refine aj 1 U<|bA U (kP 1 u9 U U ag)<|aj 3 U<|gs (t:=16) U (fun C=> ?_) fun C=> ?_;exact aj 1 U<|bA U (kP 2 u9 U U ag)<|ar 6 U<|aE U<|⟨by show bB (decide (((s.getD 2 0).toNat:Int)=191))=_; rw [wT]; exact congrArg bB (decide_eq_decide.2 ag),Md.refl _ _⟩
 exact aj 4 U<|p aU<|ar 3 U<|aE U<|⟨by show bB false =_; rw [wT,decide_eq_false ag],Md.refl _ _⟩
 exact aj 4 U<|p mv<|aj 4 U<|p aU<|ar 3 U<|aE U<|⟨by show bB false =_; rw [wT,decide_eq_false ag],Md.refl _ _⟩
 exact aj 4 U<|p mv<|aj 4 U<|p mv<|aj 4 U<|p aU<|ar 3 U<|aE U<|⟨by show bB false =_; rw [wT,decide_eq_false ag],Md.refl _ _⟩
theorem DF (l:List UInt8) (a:Option aW) (c:Nat) (w:ai) (A:aT w.heap a (U8 l)) (J:l.length≤1048576) (I:l.length≤c):
 aZ aq 170 (bd [.slice a l.length c]) w (fun v w'=>v=str (gr l)∧Wk w w'):=by
 refine enter func170 U ntmps170 U<|aP 18 U<|gs (t:=8) U (fun E=> ?_) fun E=> ?_;refine aj 3 U<|bA U (bZ qX U U ag<|aT.ok (A)<|HJ ag)<|bA U (ay U<|(show _=some (bh .u8 (l.getD (l.length - 1) 0).toNat) from by rw [show ((l.length:Int) - 1).toNat=l.length - 1 from by omega]; exact HI A ag))<|aC 4 U<|cd U (fun C=> ?_) fun C=> ?_;exact az 5 U<|p (r9 qX U U ag)<|p (mc nW U (QQ A ((l.length:Int) - 1).toNat)<|by rw [bY]; omega)<|ar 5 U<|aE U<|⟨by show str (l.take ((l.length:Int) - 1).toNat)=_; rw [DE ag (MZ ag),show ((l.length:Int) - 1).toNat=l.length - 1 from by omega],Md.refl _ _⟩
 exact az 5 U<|p (mc nW U (A)<|U)<|ar 4 U<|aE U<|⟨by show str l=_; rw [zo (fun h=>Ol ag h.2)],Md.refl _ _⟩
 exact aj 15 U<|p (mc nW U (A)<|U)<|ar 4 U<|aE U<|⟨by show str l=_; rw [zo ag],Md.refl _ _⟩
end Go.Hb
namespace Go.Hb.yL
theorem F4 {s A:List UInt8} (h:s.take A.length=A):A.length≤s.length:=by grind
theorem Qz {s:List UInt8} (h:decide (1≤s.length∧s.drop (s.length - 1)= [13])=true):gr s=s.take (s.length - 1):=by
 have A:=of_decide_eq_true h;rw [EW ag] at A;exact DE ag<|by simpa using A.2
theorem QA {s:List UInt8} (h:decide (1≤s.length∧s.drop (s.length - 1)= [13])=false):gr s=s:=by
 have A:=of_decide_eq_false h;refine zo fun C=>A ⟨ag,?_⟩;rw [EW ag,C.2]
theorem M4 (c:UInt8):fA c [c]=0:=by unfold fA; simp
theorem zR (s A:List UInt8) (w:ai) (E:s.length≤1099511627776) (hp:A.length≤1099511627776):
 aZ aq 121 (bd [str s,str A]) w (fun v w'=>v= .bool (decide (s.take A.length=A))∧Wk w w'):=by
 refine enter func121 U ntmps121 U<|aP 13 U<|gs (t:=10) U (fun C=> ?_) fun C=> ?_;exact aj 3 U<|bA U (se u9 U U ag)<|ar 7 U<|aE U<|⟨U,Md.refl _ _⟩
 exact aj 7 U<|p aU<|ar 3 U<|aE U<|⟨by show bB false =_; rw [decide_eq_false (fun h=>by have :=F4 h; omega)],Md.refl _ _⟩
theorem QG (s A:List UInt8) (w:ai) (J:s.length≤1099511627776) (hp:A.length≤1099511627776):
 aZ aq 166 (bd [str s,str A]) w (fun v w'=>v=str (sm s A)∧Wk w w'):=by
 refine enter func166 U ntmps166 U<|aP 10 U<|e<|aI (zR s A _ J hp) U ?_;rintro M O ⟨rfl,I⟩;refine aC 2 U<|cb U (fun E=> ?_) fun E=> ?_;have C:=of_decide_eq_true E;have L:=F4 C;exact az 5 U<|p (mD u9 U U ag)<|ar 5 U<|aE U<|⟨by show str (s.drop (A.length:Int).toNat)=_; unfold sm; rw [if_pos C]; rfl,I⟩
 have C:=of_decide_eq_false E;exact aB 9 U<|aE U<|⟨by show str s=_; unfold sm; rw [if_neg C],I⟩
theorem QH (s A:List UInt8) (w:ai) (E:s.length≤1099511627776) (hp:A.length≤1099511627776):
 aZ aq 113 (bd [str s,str A]) w (fun v w'=>v=str (sm s A)∧Wk w w'):=by
 refine enter func113 U ntmps113 U<|aP 9 U<|e<|aI (QG s A _ E hp) U ?_;rintro I J ⟨rfl,C⟩;exact ar 4 U<|aE U<|⟨U,C⟩
theorem MM (s A:List UInt8) (w:ai) (E:s.length≤1099511627776) (hp:A.length≤1099511627776):
 aZ aq 224 (bd [str s,str A]) w (fun v w'=>v= .bool (decide (A.length≤s.length∧s.drop (s.length - A.length)=A))∧Wk w w'):=by
 refine enter func224 U ntmps224 U<|aP 13 U<|gs (t:=10) U (fun C=> ?_) fun C=> ?_;exact aj 6 U<|bA U (mD u9 U U ag)<|ar 7 U<|aE U<|⟨by show bB (decide (s.drop ((s.length:Int) - (A.length:Int)).toNat=A))=_; rw [show ((s.length:Int) - (A.length:Int)).toNat=s.length - A.length from by omega]; exact bv (by constructor <;> intro h <;> first | exact ⟨ag,h⟩ | exact h.2),Md.refl _ _⟩
 exact aj 10 U<|p aU<|ar 3 U<|aE U<|⟨by show bB false =_; rw [decide_eq_false ag],Md.refl _ _⟩
theorem QI (s:List UInt8) (w:ai) (E:s.length≤1099511627776):
 aZ aq 168 (bd [str s,str [13]]) w (fun v w'=>v=str (gr s)∧Wk w w'):=by
 refine enter func168 U ntmps168 U<|aP 10 U<|e<|aI (MM s [13] _ E aJ) U ?_;rintro L M ⟨rfl,C⟩;refine aC 2 U<|cb U (fun A=> ?_) fun A=> ?_;have J:=(of_decide_eq_true A).1;have I:([13]:List UInt8).length=1:=rfl;exact az 8 U<|p (se u9 U U ag)<|ar 5 U<|aE U<|⟨by show str (s.take ((s.length:Int) - (([13]:List UInt8).length:Int)).toNat)=_; rw [Qz A,show ((s.length:Int) - (([13]:List UInt8).length:Int)).toNat=s.length - 1 from by simp only [dE]; omega],C⟩
 exact aB 9 U<|aE U<|⟨by show str s=_; rw [QA A],C⟩
theorem QJ (s:List UInt8) (w:ai) (C:s.length≤1099511627776):
 aZ aq 115 (bd [str s,str [13]]) w (fun v w'=>v=str (gr s)∧Wk w w'):=by
 refine enter func115 U ntmps115 U<|aP 9 U<|e<|aI (QI s _ C) U ?_;rintro E I ⟨rfl,A⟩;exact ar 4 U<|aE U<|⟨U,A⟩
theorem MV (s:List UInt8) (c:UInt8) (w:ai):
 aZ aq 266 (bd [str s,.int .u8 c.toNat]) w (fun v w'=>v= .int .i64 (fA c s)∧Wk w w'):=by
 exact enter func266 U ntmps266 U<|aP 9 U<|p (K2 (EL s c _) U)<|ar 4 U<|aE U<|⟨U,Md.refl _ _⟩
theorem MU (s:List UInt8) (c:UInt8) (w:ai):
 aZ aq 223 (bd [str s,str [c]]) w (fun v w'=>v= .int .i64 (fA c s)∧Wk w w'):=by
 refine enter func223 U ntmps223 U<|aP 19 U<|gs (t:=19) U (fun h=>absurd h<|by simp) fun I=>aC 7 U<|cd U (fun A=> ?_) fun A=> ?_;exact aB 8 U<|aE U<|⟨by show bh .i64 0=_; rw [← A,M4],Md.refl _ _⟩
 refine bD 7 U<|cd U (fun E=> ?_) fun h=>absurd U h;refine az 4 U<|p (kP 0 u9 U U<|by simp)<|e<|aI (MV s c _) U ?_;rintro v30 J ⟨rfl,C⟩;exact ar 6 U<|aE U<|⟨U,C⟩
theorem La (s:List UInt8) (c:UInt8) (w:ai) (L:s.length≤1099511627776):
 aZ aq 167 (bd [str s,str [c]]) w (fun v w'=>v= .tuple #[str (ke c s),str (lz c s),.bool (!decide (fA c s < 0))]∧Wk w w'):=by
 refine enter func167 U ntmps167 U<|aP 12 U<|e<|aI (MU s c _) U ?_;rintro v10 M ⟨rfl,C⟩;refine aC 9 U<|cd U (fun E=> ?_) fun E=> ?_;have I:=EI (c:=c) (l:=s) ag;have J:[c].length=1:=rfl;exact bD 1 U<|fk fun A=>aY [0,1] U A<|cB 2 U (se u9 U U ag) A<|aY [3,4,5,6] U A<|cB 7 U (bW<|s.idxOf c+1) A<|cB 8 U (mD u9 U U ag) A<|aY [9,10,11] U A<|hn an<|bg 3 U<|f3 U U U U<|⟨by show kB #[str (s.take (fA c s).toNat),str (s.drop<|s.idxOf c+1),.bool true]=_; unfold ke lz; rw [if_neg ag,if_neg ag,I.1,decide_eq_false ag]; rfl,Md.trans C (Md.refl _ _).drew⟩
 exact aB 11 U<|f3 U U U U<|⟨by show kB #[str s,str [],.bool false]=_; unfold ke lz; rw [if_pos ag,if_pos ag,decide_eq_true ag]; rfl,C⟩
theorem Lc (s:List UInt8) (c:UInt8) (w:ai) (C:s.length≤1099511627776):
 aZ aq 114 (bd [str s,str [c]]) w (fun v w'=>v= .tuple #[str (ke c s),str (lz c s),.bool (!decide (fA c s < 0))]∧Wk w w'):=by
 refine enter func114 U ntmps114 U<|aP 11 U<|e<|aI (La s c _ C) U ?_;rintro v9 E ⟨rfl,A⟩;exact ar 9 U<|f3 U U U U<|⟨U,A⟩
end Go.Hb.yL
section
namespace Go.Hb
open Go.Hb.yL
theorem ME {α:Type} {l:List α} {i:Nat} {d:α} (h:i < l.length):l.getD i d∈l:=by grind
def gQ (n:Nat) (ls:List (List UInt8)):List (Nat×List UInt8):=(ls.zipIdx n).map fun q=>(q.2,q.1)
theorem Of (n:Nat) (l:List UInt8) (ls:List (List UInt8)):gQ n (l::ls)=(n,l)::gQ (n+1) ls:=by simp [gQ,List.zipIdx_cons]
theorem Oh (n:Nat):gQ n []= []:=rfl
theorem FF (n:Nat) (ls:List (List UInt8)):(gQ n ls).map jE=ls:=by
 unfold gQ; rw [List.map_map]; exact List.zipIdx_map_fst n ls
theorem Og (n:Nat) (ls:List (List UInt8)):(gQ n ls).length=ls.length:=by simp [gQ]
def zn (x:Nat×List UInt8):Array ah:= #[.int .i64 x.1,str x.2]
theorem FE {ls:List (List UInt8)} {n:Nat} {pre:List (Nat×List UInt8)} {x:Nat×List UInt8} {rest:List (Nat×List UInt8)} (h:gQ n ls=pre++x::rest):pre.length < ls.length∧x.1=n+pre.length∧ls=pre.map jE++x.2::rest.map jE:=by
 have E:=congrArg jC h;rw [Og,bo,cg] at E;have C:=congrArg (List.map jE) h;rw [FF,kE,List.map_cons] at C;refine ⟨ag,?_,C⟩;have A:=congrArg (fun l=>l[pre.length]?) h;simp only [gQ,List.getElem?_map,List.getElem?_zipIdx,eC (bf _),sS,List.getElem?_cons_zero] at A;cases h4:ls[pre.length]? with
 | none=>rw [h4] at A; cases A
 | some q=>rw [h4] at A; cases A; rfl
theorem LU (s:List UInt8) (w:ai):
 aZ aq 62 (bd [str s]) w (fun v w'=> ∃ b,v= .func (.func 112) #[] #[aA b]∧w.heap.size≤b∧w'.heap[b]? =some (.cells [str s].toArray 9 (0,0))∧Wk w w'):=by
 exact enter func62 U ntmps62 U<|aP 2 U<|e<|vF U U fun A w1 I E C=>aj 5 U<|p rq<|ar 4 U<|aE U<|⟨A,U,ag,C,E.md⟩
theorem LR (s:List UInt8) (b:Nat) (aE:s.length≤65536) (l:Nat) (A:List (Nat×List UInt8)→ai→Prop) (w:ai) (h0:A [] w) (aj:∀ pre W,A pre W→W.heap[b]? =some (.cells [str s].toArray 9 (0,0))) (bK:∀ pre C M,A pre C→Wk C M→A pre M) (an:∀ pre x rest C,(gQ 1<|cy s)=pre++x::rest→A pre C→YieldAt Fence.wide 0 aq l (zn x) C fun e W'=>e= .returned (.bool true)∧A (pre++ [x]) W'):
 aZ aq 112 (bd [.func (.yield l) #[] #[],aA b]) w (fun v w'=>A (gQ 1<|cy s) w'):=by
 have Z:=aj _ _ h0;refine enter func112 U ntmps112 U<|aP 3 U<|p (ay U<|(eB Z).trans U)<|aC 4 U<|cd U (fun h=>absurd h ag) fun av=>az 4 U<|p (ay U<|(eB Z).trans U)<|e<|aI (QH s oo _ ag aJ) U ?_;rintro v12 aH ⟨rfl,ab⟩;refine aC 9 U<|lp (fun O L J=> ∃ (r:List UInt8) (pre:List (Nat×List UInt8)),(r.length≤s.length)∧((gQ 1<|cy s)=pre++gQ (pre.length+1) (dV [] r))∧(A pre J)∧(pre.length≤s.length)∧(L 4=aQ (pre.length+1))∧(Sl L [(0,.func (.yield l) #[] #[]),(3,str r)])∧(r.length=O)) _ ⟨jZ s,[],(xO s),U,(bK _ _ _ h0 ab),(Nat.zero_le _),(iv<|by first | rfl | (rw [bo]; rfl)),U,U⟩ ?_;rintro O L J ⟨r,pre,aD,aa,V,aw,am,al,rfl⟩;refine bE al<|fx 4 am<|bV 7 U<|cd U (fun E=> ?_) fun E=> ?_;have I:(gQ 1<|cy s)=pre++(pre.length+1,gr (ke 10 r))::gQ (pre.length+2) (dV []<|lz 10 r):=by rw [aa,NK E,Of]
 have ax:=Lb (c:=10) E;have au:=K9 10 r;refine az 7 U<|e<|aI (Lc r 10 _ ag) U ?_;rintro aF aK ⟨rfl,ac⟩;refine p mv<|aC 15 U<|Gi<|py U (pN (.func (.yield l) #[] #[]) U)<|py U (pN (aQ<|pre.length+1) U)<|py U mv<|ey U<|aI (QJ (ke 10 r) _ ag) U ?_;rintro aG aL ⟨rfl,ad⟩;have ae:=bK _ _ _ V<|Md.trans ac ad;refine Ia U U (an pre (pre.length+1,gr (ke 10 r)) _ _ I ae) fun aM ah=> ?_;refine py U (no U)<|FA ?_;exact dT 1 U<|cf (U)<|az 5 U<|p (bW<|pre.length+2)<|ar 2 U<|tn<|⟨_,ag,lz 10 r,pre++ [(pre.length+1,gr (ke 10 r))],ag,(by rw [I,iF,bo]; rfl),ah,(by have ao:=FE I; have ap:=ri s; rw [bo,dE]; omega),(iv<|by first | rfl | (rw [bo]; rfl)),U,U⟩
 refine aB 2 U<|cj<|bg 1 U<|f0 U ?_;show A (gQ 1<|cy s) J;have ak:r= []:=Decidable.of_not_not E;rw [aa,ak,Ah,Oh,kC];exact V
theorem LS (s:List UInt8) (b:Nat) (I:s.length≤65536):Cc aq 112 #[.pointer (some ⟨b,0,none⟩)] zn (gQ 1<|cy s) (fun W=>W.heap[b]? =some (.cells [str s].toArray 9 (0,0))):=
 fun l A W h0 C bK J=>Calls.mono (LR s b I l A W h0 C bK J) fun e w' ⟨v,he,E⟩=>⟨⟨v,he⟩,E⟩
end Go.Hb
end
section
namespace Go.Hb
open Go.Hb.yL
set_option maxHeartbeats 1000000 in
theorem Pa (s:List UInt8) (w:ai) (ce:s.length≤1048576):
 aZ aq 28 (bd [str s]) w (fun v w'=>(∃ a,v= .tuple #[a,.int .i64 (if 65536 < s.length then 10 else 0)]∧(if 65536 < s.length then a= .slice none 0 0 else ∃ vs,b9 w' w.heap.size 79 2 a (eu s).length (mB vs)∧fV w' w.heap.size 9 vs (eu s)))∧Wk w w'):=by
 refine DO [] func28 U ntmps28 U ?_;refine eK<|eY<|kN 4 U<|cE<|eK<|eK<|eY<|kN 5 U<|cE<|eY<|cd U (fun bG=> ?_) fun bG=> ?_;refine kN 7 U<|prt<|Mj U U U ?_;have ab:65536 < s.length:=ag;exact ⟨⟨.slice none 0 0,by show kB #[.slice none 0 0,.int .i64 10]=_; rw [if_pos ab],by rw [if_pos ab]⟩,Md.refl _ _⟩;refine kN 1 U<|cE<|eK<|eY<|aP 1 U<|e<|fK RR fun au b1 b6 bB a0=>ar 1 U<|cE<|eK<|eK<|eY<|aP 2 U<|e<|aI (LU s _) U ?_;rintro cj aE ⟨aG,rfl,b4,aY,a2⟩;have ad:Wk w aE:=Md.trans bB.md a2;have cf:au < b1.heap.size:=(cx.1 a0).1;have bC:=a2.ax a0;have b5:=(cx.1 aY).1;have ab:s.length≤65536:=ag;refine ar 1 U<|cE ?_;apply O5 (zn) (gQ 1<|cy s) (fun W=>W.heap[aG]? =some (.cells [str s].toArray 9 (0,0))) (fun pre M=> ∃ v vs,M.heap[au]? =some (.cells [v].toArray 75 (0,0))∧b9 M aE.heap.size 79 2 v (iQ 1<|pre.map jE).length (mB vs)∧fV M aE.heap.size 9 vs (iQ 1<|pre.map jE)∧M.heap[aG]? =some (.cells [str s].toArray 9 (0,0))∧aE.heap.size≤M.heap.size∧Wk w M) rfl Kq (fun _=>rfl) (LS s aG ab) (⟨.slice none 0 0,[],bC,eL _ _ _ _,fV.nil _ _ _,aY,bf _,ad⟩) (fun _ _ ⟨_,_,_,_,_,h,_⟩=>h) (fun pre A C F ⟨v,vs,av,bj,bm,bn,bq,bp⟩ hm ak=>⟨v,vs,xJ av hm ak,Hj bj hm ak,bm.md hm (fun k E cur z=>(ak k E).2 cur _ z),xJ bn hm ak,cR bq hm.size,Hk bp hm ad.size ak⟩);intro l x M K ae;exact kN 8 U<|tn<|ae;intro l pre x rest M bU aM;obtain ⟨v,vs,aS,an,aw,aQ,aA,aL⟩:=aM;obtain ⟨cc,bW,bX⟩:=FE bU;have ca:=ri s;have cg:=(cx.1 aQ).1;have ch:x.2.length≤s.length:=Ad<|by rw [bX]; simp
 have b8:=tH x.2 [];have bP:=AU (pre.map jE) 1;rw [nK] at bP;refine aP 3 U<|p mv<|e<|aI (Mp x.2 _ ag) U ?_;rintro ck a9 ⟨am,bv⟩;obtain ⟨O,aH,rfl⟩:=de am;have a3:=(dx am).2;have bH:=(dx am).1;refine p aU<|aC 2 U ?_;refine ei (fun bc aF=> ∃ (n V:Nat),(n≤(bO [] x.2).length)∧(n≤V)∧(lH (bO [] x.2)=(bO [] x.2).take n)∧(Wk a9 aF)∧(Sl bc [(4,.pointer (some ⟨au,0,none⟩)),(5,.int .i64 x.1),(7,.slice O n V)])) ?_ ?_;refine aP 2 U<|p mv<|aC 5 U<|lp (fun aX bh bb=> ∃ (i:Nat),(i≤(bO [] x.2).length)∧(∀ q,q < i→ug ((bO [] x.2).getD q [])=false)∧(Wk a9 bb)∧(Sl bh [(4,.pointer (some ⟨au,0,none⟩)),(5,.int .i64 x.1),(7,.slice O (bO [] x.2).length aH),(19,.slice O (bO [] x.2).length aH),(20,.int .i64 (bO [] x.2).length),(21,.int .i64 i)])∧((bO [] x.2).length - i=aX)) _ ⟨0,ag,(fun q bM=>by omega),(Md.refl _ _),U,U⟩ ?_;rintro aX bh bb ⟨i,hi,aW,ah,bT,rfl⟩;refine bE bT<|bV 6 U<|cd U (fun bI=> ?_) fun bI=> ?_;refine az 7 U<|p (bZ dH U U ag<|aT.ok (a3.wk ah)<|ef ag)<|p (ay U<|bN.get (i:=i) (a3.wk ah) ag)<|aj 7 U<|p (kP 0 u9 U U<|uY.2 (zF _ _ _<|ME ag).1)<|aC 3 U<|cd U (fun bJ=> ?_) fun bJ=> ?_;exact az 5 U<|p (CX dH U U U ag)<|ar 6 U<|te _<|bg 1 U<|tn<|⟨i,i,hi,(bf _),(wx hi aW<|.inr<|decide_eq_true ag),ah,U⟩
 exact aB 7 U<|tn<|⟨_,ag,i+1,ag,(fun q bM=>by rcases dM q i with h | h <;> first | exact aW q h | (rw [show q=i by omega]; exact decide_eq_false ag)),ah,U,U⟩
 exact aB 2 U<|te _<|bg 1 U<|tn<|⟨(bO [] x.2).length,aH,(bf _),bH,(by have h:=wx hi aW (.inl ag); rwa [show i=(bO [] x.2).length from by omega] at h),ah,U⟩
 rintro bc aF ⟨n,V,hn,bL,a5,aK,bS⟩;refine bE bS ?_;have I:Wk M aF:=Md.trans bv aK;have aO:=I.ax aS;have a7:=aR an I;have a8:=aw.wk I;have a4:=I.ax aQ;have a1:Wk w aF:=Md.trans aL I;refine bD 7 U<|cd U (fun bK=> ?_) fun bK=> ?_;have ao:iO x.2 (1 +pre.length)= [(x.1,(bO [] x.2).take n)]:=by unfold iO; rw [a5,if_neg (fun h=>by have h:=congrArg jC h; rw [bY,fu] at h; omega),← bW]
 refine az 1 U<|p (ay U<|(eB aO).trans U)<|aj 2 U<|p (dZ (ps:= [(0,.int .i64 x.1),(1,.slice O n V)]) (L:= [.int .i64 x.1,.slice O n V]) Ql U<|U)<|e<|l6 G5 U U U fun bi ba aN J br=> ?_;have bt:aD ba.heap bi [.int .i64 x.1,.slice O n V]:=br;have bx:Wk w ba:=Md.trans a1 J.md;have ac:=aR a7 J.md;have aN:=J.md.ax aO;refine e<|ap G5 (ac) U (by have :=J.size; have :=I.size; omega) U (aT.dD bt) (U) (U) ag ag fun b0 cm aV Z ci b7=> ?_;have bz:=Wk.own bx ac Z ad.size;have bF:=Z.ax (J.md.ax a4) fun h=>by have :=da ac h; omega
 have al:=Z.ax aN fun h=>rF ac aN aJ h;have bQ:=(a8.wk J.md).md Z<|ib ac aJ;have a6:=cC (aR (aR am aK) J.md) Z fun k E=>rH (aR (aR am aK) J.md) ac aJ E;refine e<|fl Lp U U (F0 aV) al (by simp) fun b2 aa bu=> ?_;have bA:Wk w b2:=Md.trans' bz aa fun k E h=>by omega
 have bR:=(bQ.md aa<|KB al aJ).snoc (n:=x.1) (r:=(bO [] x.2).take n) (v:= .slice O n V)<|by rw [bY,Nat.min_eq_left hn,List.map_take]; exact (Tg.oz<|nr (cC a6 aa fun k E h=>rF a6 al aJ<|h ▸ E) aA).clip bL
 exact ar 2 U<|⟨(fU.wk I).trans ((fU.wk J.md).trans<|(fU.md Z<|ud ac).trans<|fU.md aa fun k E=>⟨_,_,_,E ▸ al⟩),b0,vs++ [(x.1,.slice O n V)],bu,(by rw [kE,show [x].map jE= [x.2] from U,kW,nK,ao]; rw [bo,AZ]; exact cC aV aa fun k E h=>rF aV al aJ<|h ▸ E),(by rw [kE,show [x].map jE= [x.2] from U,kW,nK,ao]; exact bR),aa.ax bF (fun h=>by omega),cR aA (cR I.size<|cR J.md.size<|cR Z.size aa.size),bA⟩
 have ao:iO x.2 (1 +pre.length)= []:=by unfold iO; rw [a5,if_pos (by rw [show n=0 by omega]; rfl)]
 exact aB 2 U<|⟨fU.wk I,v,vs,aO,(by rw [kE,show [x].map jE= [x.2] from U,kW,nK,ao]; rw [kC]; exact a7),(by rw [kE,show [x].map jE= [x.2] from U,kW,nK,ao]; rw [kC]; exact a8),a4,cR aA I.size,a1⟩
 intro D M b3 aM ae;obtain ⟨v,vs,aS,an,aw,aQ,aA,aL⟩:=aM;have cb:=(cx.1 ae).1;refine cE<|eK<|eY<|aP 1 U<|p (ay U<|(eB aS).trans U)<|p aU<|ar 2 U<|cE<|AW<|Mk U U U ae ?_;have ab:¬65536 < s.length:=ag;rw [FF] at an aw;exact ⟨⟨v,by show kB #[v,.int .i64 0]=_; rw [if_neg ab],by rw [if_neg ab]; exact ⟨vs,nr (cC an (pM _ _ _) fun k E h=>by obtain ⟨c,e,z,av⟩:=ud an k E; rw [h,ae] at av; cases av) ad.size,(aw.md (pM _ _ _) fun k E cur z=>by rw [E,ae]; simp).mono ad.size⟩⟩,Md.trans' aL (pM _ _ _) fun k E h=>by have :=ad.size; omega⟩
end Go.Hb
end
section
namespace Go.Hb.qI
open Go.Hb.jH Go.Hb.j7 Go.Hb.nS
def vn (t:List UInt8) (A:aW) (w:ai) (v:ah) (w':ai):Prop :=((∃ g B bl bs,hZ t= .ok g∧v= .tuple #[.pointer (some ⟨bl,0,none⟩),.agg #[bh .i64 0,.int .i64 0,.int .i64 0]]∧w.heap.size≤B∧cT w' B bl bs (.slice none 0 0) A g (eu t).length [] [])∨
 (∃ l e:Nat,hZ t= .error (l,e)∧v= .tuple #[.pointer none,.agg #[bh .i64 0,.int .i64 (l:Nat),.int .i64 (e:Nat)]]))∧Wk w w'
theorem FV {rs:List (Nat×List (List UInt8))} {l e:Nat} :∀ {k:Nat},fE rs k= .error (l,e)→e≠0
 | 0,h=>by cases h
 | k+1,h=>by
   rw [fE] at h;split at h
   · rename_i h0; cases h; exact FV h0
   · split at h
     · rename_i A; cases h; exact (zq A).1
     · repeat' split at h
       all_goals first | (cases h; decide) | cases h
theorem FT {t:List UInt8} {l e:Nat} (h:hZ t= .error (l,e)):e≠0:=by
 unfold hZ at h;split at h
 · cases h; decide
 · exact FV h
theorem Oy (ad:aW) (t:List UInt8) (w:ai) (cn:t.length≤1048576):
 aZ aq 9 (bd [.pointer (some ad),str t]) w (vn t ad w):=by
 have cm:=Gp t;refine enter func9 U ntmps9 U<|aP 3 U<|e<|fK If fun Z cb ch am bz=> ?_;have ct:=am.size;refine aj 5 U<|p mv<|p (iM ss U U)<|aC 2 U<|cf (U)<|az 4 U<|p mv<|e<|aI (Pa t cb ag) U ?_;rintro cy V ⟨⟨cc,rfl,aY⟩,hE19⟩;have cp:=hE19.size;have ao:V.heap[Z]? =some (.cells [bh .i64 0,.int .i64 0,.int .i64 0].toArray 35 (0,0)):=Wk.ax hE19 bz;have ci:=(cx.1 ao).1;refine p mv<|aj 2 U<|p aU<|aC 10 U<|cd U (fun aH=> ?_) fun aH=> ?_;have ac:65536 < t.length:=Decidable.byContradiction fun h=>aH<|by rw [if_neg h]
 refine az 3 U<|p (dZ (ps:= [(2,.int .i64 (if 65536 < t.length then 10 else 0))]) (L:= [.int .i64 0,.int .i64 0,.int .i64 (if 65536 < t.length then 10 else 0)]) uo U<|U)<|aj 1 U<|e<|fG vL U U U U ao (by simp) fun b7 bF bq=> ?_;have br:aD b7.heap Z [bh .i64 0,.int .i64 0,.int .i64 (if 65536 < t.length then 10 else 0)]:=⟨_,bq⟩
 refine ar 4 U<|pj U oB (jY (cs:= [bh .i64 0,.int .i64 0,.int .i64 (if 65536 < t.length then 10 else 0)]) U ta U fun j a8=>br.aG j) ?_;refine ⟨.inr ⟨0,10,if_pos ac,?_⟩,(am.md.trans hE19).trans' bF fun k ap h=>by omega⟩;rw [if_pos ac]; rfl;have ac:¬65536 < t.length:=fun h=>aH<|by rw [if_pos h]; decide
 rw [if_neg ac] at aY;obtain ⟨b5,a9,b3⟩:=aY;obtain ⟨ra,rc,rfl⟩:=de a9;have a2:=(dx a9).2;have aE:=b3.all;refine az 4 U<|p mv<|e<|aI (Fy (some ad) V) U fun cz cB bL=> ?_;obtain ⟨ce,bl,bs,bQ,rfl,cv,cw,bJ,a3⟩:=bL.resolve_left fun ⟨h,_⟩=>by cases h
 cases bQ;have cq:=a3.size;refine p aU<|aj 5 U<|p mv<|aC 5 U<|lp (fun aV bj av=> ∃ (i:Nat) (g:List UInt8→Option Int),(i≤(eu t).length)∧(fE (eu t) i= .ok g)∧(cT av V.heap.size bl bs (.slice none 0 0) ad g i [] [])∧(Wk V av)∧(Sl bj [(5,aA Z),(8,aA bl),(28,.slice ra (eu t).length rc),(29,aQ ((eu t).length)),(30,aQ i)])∧((eu t).length - i=aV)) _ ⟨0,(fun _=>none),ag,U,bJ,a3,U,U⟩ ?_;rintro aV bj av ⟨i,g,hi,ak,E,M,b1,rfl⟩;refine bE b1<|bV 6 U<|cd U (fun bO=> ?_) fun bO=> ?_;refine bD 5 U ?_;obtain ⟨au,J,hr⟩:∃ au J,(eu t).getD i (0,[])=(au,J):=⟨_,_,rfl⟩
 have bb:(eu t)[i]? =some (au,J):=by rw [← hr,cQ,cr ag]; rfl
 have aM:=Gq<|lj bb;obtain ⟨q,ba⟩:∃ q,b5[i]? =some q:=⟨_,cr<|by rw [aE.1]; omega⟩
 obtain ⟨bY,fa,aw,b0,bS⟩:=aE.2 i q _ ba bb;obtain ⟨O,b6⟩:=q;obtain rfl :O=au:=bY;obtain rfl :b6= .slice fa J.length aw:=b0;have ck:J.length≤t.length+1:=aM.2.2.2.1;refine az 1 U<|p (bZ L9 U U ag<|aT.ok (a2.wk M)<|rU<|by rw [aE.1]; omega)<|p (eZ JV U (U)<|rV (a2.wk M) ba)<|e<|fK RT fun aR cA cg a5 bp=> ?_;have co:=a5.size;refine e<|fG Lq U U U U bp (by simp) fun aO bH bA=> ?_;have a1:aD aO.heap aR [bh .i64 (O:Nat),.slice fa J.length aw]:=⟨_,bA⟩
 have ab:Wk av aO:=Md.trans' a5.md bH fun k ap h=>by omega
 have cu:=ab.size;refine aj 5 U<|p (ay U<|a1.aG 1)<|e<|aI (L3 fa aw J aO (bS.wk<|M.trans ab) (fun x aN=>(aM.2.2.2.2 x aN).1) (fun x aN=>by have :=(aM.2.2.2.2 x aN).2; omega) ag) U ?_;rintro v37 ca ⟨bc,ae⟩;obtain ⟨x,o,aS,bR,a0⟩:=L0 J;rw [bR] at bc;subst bc;have A:=E.wk<|ab.trans ae;refine p mv<|aC 8 U ?_;refine ei (fun bm bi=> ∃ (C:Nat),((C≠0∧fE (eu t) (i+1)= .error (O,C))∨(C=0∧eN J= .ok (x,o)∧g x=none∧i≠500))∧(bi=ca)∧(Sl bm [(5,aA Z),(8,aA bl),(10,aA aR),(11,str x),(12,.int .i64 o),(13,aQ C),(28,.slice ra (eu t).length rc),(29,aQ ((eu t).length)),(30,aQ i)])) ?_ ?_;refine bV 8 U<|cd U (fun aK=> ?_) fun aK=> ?_;have aa:=a0.resolve_left fun h=>aK<|by rw [h.1]; rfl
 exact aB 2 U<|tn<|⟨aS,(.inl ⟨aa.1,by rw [FU ak (by rw [hr]; exact aa.2),hr]⟩),U,U⟩
 have aa:=(a0.resolve_right fun h=>aK ag).2;refine az 5 U<|p (ay U<|A.obj.aG 1)<|aj 1 U<|p (tO gI sB kQ (A.dQ.ow) U U (⟨_,U⟩)<|wP g x)<|aC 4 U<|cd U (fun al=> ?_) fun al=> ?_;have I:g x≠none:=fun h=>al<|by rw [h]; rfl
 exact aB 4 U<|tn<|⟨112,(.inl ⟨aJ,by rw [FY ak (by rw [hr]; exact aa) I,hr]⟩),U,U⟩
 have I:g x=none:=by
  cases I:g x with
  | none=>rfl
  | some u=>rw [I] at al; simp only [Option.getD_some,ne_eq,mJ] at al; subst al; exact absurd I<|E.nz x
 refine az 5 U<|p (ay U<|A.obj.aG 1)<|p (wO gI U U A.dQ A.eV)<|aC 4 U<|cd U (fun bP=> ?_) fun bP=> ?_;exact aB 4 U<|tn<|⟨280,(.inl ⟨aJ,by rw [FX ak (by rw [hr]; exact aa) I ag,hr]⟩),U,U⟩
 exact aB 2 U<|tn<|⟨aS,(.inr ⟨ag,aa,I,ag⟩),U,U⟩
 rintro bm bi ⟨C,aX,b4,b2⟩;refine bE b2 ?_;subst b4;refine bD 7 U<|cd U (fun aL=> ?_) fun aL=> ?_;have bn:=aX.resolve_right fun h=>aL<|by rw [h.1]; rfl
 refine bD 1 U ?_;have bM:=Wk.ax ((M.trans ab).trans ae) ao;refine Aj 5 fun ah=>oa [0] U ah<|pQ 1 U ah ((ae.B a1).aG 0)<|oa [2] U ah<|NN 3 U (dZ (ps:= [(1,aQ O),(2,aQ C)]) (L:= [.int .i64 0,aQ O,aQ C]) uo U<|U) ah<|oa [4] U ah<|pI 5 U an an<|fG vL U U U U bM (by simp) fun b8 bG bt=> ?_;have bu:aD b8.heap Z [bh .i64 0,aQ O,aQ C]:=⟨_,bt⟩
 refine pK an<|bg 5 U<|tr<|bg 2 U<|pj U oB (jY (cs:= [bh .i64 0,aQ O,aQ C]) U ta U fun j a8=>bu.aG j) ?_;refine ⟨.inr ⟨O,C,?_,U⟩,((am.md.trans hE19).trans<|(M.trans ab).trans ae).trans' (Md.gM bG) fun k ap h=>by omega⟩;unfold hZ;rw [if_neg ac];exact tZ bn.2 ag;obtain ⟨_,bo,I,bT⟩:=aX.resolve_left fun h=>aL ag;have a7:=FW ak (by rw [hr]; exact bo) I bT;obtain ⟨bC,bI,bX⟩:=xh a7;refine az 6 U<|p (ay U<|A.obj.aG 1)<|aj 2 U<|e<|xP (kx:=str x) (v:= .int .i64 o) gI kQ A.dQ U U U ⟨_,U⟩ fun bf a4 a6=> ?_;rw [rk] at a6;have bU:=A.lo;have bB:Wk V bf:=((M.trans ab).trans ae).trans' a4 fun k ap h=>by omega
 have bK:cT bf V.heap.size bl bs (.slice none 0 0) ad (fun y=>if y=x then some o else g y) (i+1) [] []:=⟨a4.B A.obj (fun h=>by subst h; exact A.dQ.fB A.obj.choose_spec),a6,bI,bX,bC.nz,A.lo,eL _ _ _ _,A.lf,trivial⟩
 exact aj 4 U<|p (bW<|i+1)<|ar 2 U<|tn<|⟨_,ag,i+1,(fun y=>if y=x then some o else g y),ag,a7,bK,bB,U,U⟩
 refine aB 2 U<|cj<|dT 3 U ?_;have bN:=Wk.ax M ao;refine az 2 U<|p (dZ (ps:= []) (L:= [.int .i64 0,.int .i64 0,.int .i64 0]) uo U<|U)<|aj 1 U<|e<|fG vL U U U U bN (by simp) fun b9 aF bv=> ?_;have bx:aD b9.heap Z [bh .i64 0,.int .i64 0,.int .i64 0]:=⟨_,bv⟩
 have bU:=E.lo;refine ar 3 U<|pj U oB (jY (cs:= [bh .i64 0,.int .i64 0,.int .i64 0]) U ta U fun j a8=>bx.aG j) ?_;obtain rfl :i=(eu t).length:=ag;refine ⟨.inl ⟨g,V.heap.size,bl,bs,?_,U,ag,⟨aF.B E.obj ag,E.dQ.md aF ag,E.eV,E.nB,E.nz,E.lo,eL _ _ _ _,E.lf,trivial⟩⟩,((am.md.trans hE19).trans M).trans' aF fun k ap h=>by omega⟩;unfold hZ;rw [if_neg ac];exact ak
end Go.Hb.qI
end
section
namespace Go.Hb.qJ
open Go.Hb.jH Go.Hb.j7 Go.Hb.nS Go.Hb.ez Go.Hb.lU
theorem DR (a b c a' b' c':Int) (w:ai):(binOp .eql 35 (.agg [.int .i64 a,.int .i64 b,.int .i64 c].toArray)<|.agg [.int .i64 a',.int .i64 b',.int .i64 c'].toArray).run aq w= .ok (.bool<|decide (a=a'∧b=b'∧c=c')) w:=by
 have J:=underlying3;have L:=underlying3;have u3:=underlying33;have I:aq.underlying 35=some (.struct<|aq.fieldsOf 35):=an;have hp:aq.stoodInHeld 35=false :=an;rw [run_eql_struct,show (10000:Nat)=9999 +1 from rfl,run_equalIn_agg w 9999 35 _ _ I hp];simp only [Program.fieldsOf,underlying35];go_simp;by_cases A:a=a' <;> by_cases C:b=b' <;> by_cases E:c=c' <;> simp [A,C,E]
section
variable {N:Fm} {σ:Nat→ah} {w:ai} {dst:Option Nat} {ty:TypeId} {pos :String} {af:Array Edge} {g:Option (Nat×Bool)} {x y:Operand}
theorem L4 {I:TypeId} {a b c a' b' c':Int} (C:ev N σ x= .agg [.int .i64 a,.int .i64 b,.int .i64 c].toArray) (E:ev N σ y= .agg [.int .i64 a',.int .i64 b',.int .i64 c'].toArray):
 (execOp (ev N σ) ⟨dst,.binOp .eql 35 x y I,ty,pos,af,g⟩).run aq w= .ok (.value<|.bool<|decide (a=a'∧b=b'∧c=c')) w:=by
 have hm:aq.eqGuardType aq.depth 35=false :=an;have A:=run_eqGuard_agg w .eql 35 x y [.int .i64 a,.int .i64 b,.int .i64 c].toArray [.int .i64 a',.int .i64 b',.int .i64 c'].toArray hm;have he:=DR a b c a' b' c' w;simp only [execOp,C,E,iE,A,he,ij,kA]
theorem N5 {I:TypeId} {a b c a' b' c':Int} (C:ev N σ x= .agg [.int .i64 a,.int .i64 b,.int .i64 c].toArray) (E:ev N σ y= .agg [.int .i64 a',.int .i64 b',.int .i64 c'].toArray):
 (execOp (ev N σ) ⟨dst,.binOp .neq 35 x y I,ty,pos,af,g⟩).run aq w= .ok (.value<|.bool<|decide (¬(a=a'∧b=b'∧c=c'))) w:=by
 have hm:aq.eqGuardType aq.depth 35=false :=an;have A:=run_eqGuard_agg w .neq 35 x y [.int .i64 a,.int .i64 b,.int .i64 c].toArray [.int .i64 a',.int .i64 b',.int .i64 c'].toArray hm;have he:(binOp .neq 35 (.agg [.int .i64 a,.int .i64 b,.int .i64 c].toArray)<|.agg [.int .i64 a',.int .i64 b',.int .i64 c'].toArray).run aq w= .ok (.bool<|decide (¬(a=a'∧b=b'∧c=c'))) w:=by
  have h:=DR a b c a' b' c' w;simp only [binOp,iE] at h ⊢;generalize ((Op.equal 35 (.agg [.int .i64 a,.int .i64 b,.int .i64 c].toArray)<|.agg [.int .i64 a',.int .i64 b',.int .i64 c'].toArray).run aq w)=r at h ⊢;cases r with
  | ok q w2=>
    simp only [ij,kA,Result.ok.injEq,Value.bool.injEq] at h ⊢;rw [h.1];exact ⟨(decide_not).symm,h.2⟩
  | halt q w2=>simp [Result.andThen] at h
 simp only [execOp,C,E,iE,A,he,ij,kA]
end
def ly (g:List UInt8→Option Int) (l:List bH) (x:List UInt8):Bool:=if (g x).getD 0=1 then true else if (g x).getD 0= -1 then false else j9 l x
theorem KW {g:List UInt8→Option Int} {l:List bH} {x:List UInt8} (h:(g x).getD 0=0):ly g l x=j9 l x:=by
 unfold ly; rw [h,if_neg aJ,if_neg aJ]
theorem KV {g:List UInt8→Option Int} {l:List bH} {x:List UInt8} (A:eA g) (h:(g x).getD 0≠0):ly g l x=decide ((g x).getD 0 > 0):=by
 cases hx:g x with
 | none=>rw [hx] at h; exact absurd rfl h
 | some o=>
   unfold ly;rw [hx];rcases A.val x o hx with rfl | rfl <;> rfl
theorem QE {w w':ai} {b o:Nat} {u v x:ah} (hm:Wk w w') (h:∀ j,j < 3→aH w.heap b (o+j)= [u,v,x][j]?):∀ j,j < 3→aH w'.heap b (o+j)= [u,v,x][j]? :=Hv (hm.aH<|h 0 ag) (hm.aH<|h 1 ag)<|hm.aH<|h 2 ag
theorem pB {α:Type} {l:List α} {n i:Nat} {d:α} (h:i < n):(l.take n).getD i d=l.getD i d:=by
 rw [cQ,List.getElem?_take,if_pos h,cQ]
theorem sX.QU {g0:List UInt8→Option Int} {hist gs:List (List UInt8→Option Int)} {g:List UInt8→Option Int} (h:kG g0 hist gs g):kG g0 (hist.take<|hist.length - 1) (gs.take<|hist.length - 1 +1) (gs.getD (hist.length - 1) dG):=by
 have I:=h.len;have C:(hist.take<|hist.length - 1).length=hist.length - 1:=by rw [bY]; omega
 have E:(gs.take<|hist.length - 1 +1).length=hist.length - 1 +1:=by rw [bY]; omega
 refine ⟨ag,by rw [pB ag]; exact h.zero,by rw [C,pB ag],fun k A=> ?_,fun k A=> ?_⟩
 · rw [C] at A;rw [pB A,pB ag,pB ag];exact h.back k ag
 · rw [E] at A;rw [pB A];exact h.ok k ag
theorem jh.not {w:ai} {B bl bs n k:Nat} {vb:ah} {A:aW} {g:List UInt8→Option Int} {hist:List (List UInt8→Option Int)} {cs:List ah} (h:cT w B bl bs vb A g n hist cs) (C:w.heap.size≤k):¬jh bl bs vb k:=by
 rintro (rfl | rfl | hb)
 · have :=h.obj.lt; omega
 · have :=h.dQ.lt; omega
 · have :=(da h.back hb).2; omega
theorem KJ (B bl bs:Nat) (vb:ah) (J:aW) (g:List UInt8→Option Int) (n:Nat) (hist:List (List UInt8→Option Int)) (cs:List ah) (I kb:Nat) (b:eU) (s x:List UInt8) (w:ai) (L:cT w B bl bs vb J g n hist cs) (Z:J=⟨kb,0,none⟩) (M:ez w I kb b s) (V:jd (cW b 0)) (aa:x.length≤4294967296):
 aZ aq 20 (bd [aA bl,str x]) w (fun v w'=>v= .bool (ly g (cW b 0) x)∧Wk w w'):=by
 subst Z;refine enter func20 U ntmps20 U<|aP 10 U<|e<|aI (mj B bl bs vb ⟨kb,0,none⟩ g n hist cs x w L) U ?_;rintro ad ab ⟨rfl,A⟩;refine aC 9 U<|cd U (fun C=> ?_) fun C=> ?_;exact aB 8 U<|aE U<|⟨by unfold ly; rw [if_pos C]; rfl,A⟩
 refine bD 6 U<|cd U (fun E=> ?_) fun E=> ?_;exact aB 8 U<|aE U<|⟨by unfold ly; rw [if_neg C,if_pos E]; rfl,A⟩
 refine az 6 U<|p (pO u32 U U)<|aj 1 U<|gb (t:=14) U (fun ac=> ?_) fun h=>absurd ((U).symm.trans h) dS;refine aj 3 U<|bA U (ay U<|(L.wk A).obj.aG 0)<|aj 1 U<|eg U U U<|aI (KP I kb b s x ab (M.wk A) V aa) U ?_;rintro v20 ae ⟨rfl,O⟩;exact ar 5 U<|aE U<|⟨by unfold ly; rw [if_neg C,if_neg E]; rfl,A.trans O⟩
theorem HB (ws:List (List UInt8)) (A:Option aW) (E:Nat) (w:ai) (L:bN w.heap A ws) (Z:ws.length≤137438953472):
 aZ aq 13 (bd [.slice A ws.length E]) w (fun v w'=>Wk w w'∧b9 w' w.heap.size 9 1 v ws.length (ws.map str)∧(ws= []→v= .slice none 0 0)):=by
 refine enter func13 U ntmps13 U<|aP 8 U<|e<|ap ew (eL w w.heap.size 9 1) U ag U (L) (by simp) (by rw [List.all_map]; exact List.all_eq_true.2 fun _ _=>rfl) ag ag fun v4 O C J M V=> ?_;have I:Wk w O:=J.mono fun k _ h=>absurd (show (none:Option Nat)=some k from h)<|by simp
 refine p aU<|ar 3 U<|aE U ?_;rw [du,oQ] at C;exact ⟨I,C,fun h=>M.2 ⟨U,by rw [h]; rfl⟩⟩
end Go.Hb.qJ
end
section
namespace Go.Hb
open Go.Hb.kH
theorem Nu {s:List UInt8} {a i:Nat} (h:a+i < s.length) (hb:(s.getD (a+i) 0).toNat < 128):(s.getD (a+i) 0).toNat=e7 ((s.drop<|a+i).take<|i+1 - i):=by
 rw [show i+1 - i=1 by omega,drop_cons 0 h];show _=e7 [s.getD (a+i) 0];rw [e7,e7]; omega
theorem Nt {i b:Nat} (hi:i≤9) (hb:b < 128) (J:¬(i=9∧1 < b)):(b+1)*128 ^ i≤18446744073709551616:=by
 have I:(128:Nat) ^ 9=9223372036854775808:=aJ;have E:(128:Nat) ^ 8=72057594037927936:=aJ;rcases dM i 9 with h | h
 · have A:(128:Nat) ^ i≤128 ^ 8:=sR aJ ag;have C:=Nat.mul_le_mul (show b+1≤128 by omega) A;omega
 · obtain rfl :i=9:=ag;have C:=qB (128 ^ 9) (show b+1≤2 by omega);omega
theorem Ns {s:List UInt8} {a i k:Nat} (h:k < i) (ha:a+i < s.length) (hb:128≤(s.getD (a+k) 0).toNat):e7 ((s.drop<|a+k).take<|i+1 - k)=e7 ((s.drop<|a+(k+1)).take<|i+1 - (k+1))*128 +((s.getD (a+k) 0).toNat - 128):=by
 rw [drop_cons (i:=a+k) 0 ag,show i+1 - k=(i+1 - (k+1))+1 by omega,List.take_succ_cons,e7,Nat.add_assoc a k 1];have :=oW<|s.getD (a+k) 0;omega
theorem Ki {n c k:Nat} (h:(n+1)*128 ^ (k+1)≤18446744073709551616) (A:c < 128):(n*128 +c+1)*128 ^ k≤18446744073709551616:=by
 refine cR ?_ h;rw [Nat.pow_succ,Nat.mul_comm (128 ^ k) 128,← Nat.mul_assoc];exact qB _ ag
theorem Kj {n k:Nat} (h:(n+1)*128 ^ (k+1)≤18446744073709551616):n*128 +128≤18446744073709551616:=by
 have A:128 ^ 1≤128 ^ (k+1):=sR aJ ag;have C:=Nat.mul_le_mul_left (n+1) A;omega
theorem Po (s:List UInt8) (a:Nat):∃ n C A:Nat,AX (bJ s a)= .tuple #[.int .u64 (n:Nat),.int .i64 (C:Nat),.int .i64 (A:Nat)]∧((A=0∧bJ s a= .ok (n,C))∨(A≠0∧∃ e,bJ s a= .error e)):=by
 cases h:bJ s a with
 | ok x=>exact ⟨x.1,x.2,0,rfl,.inl ⟨rfl,rfl⟩⟩
 | error e=>
   refine ⟨0,0,e,U,.inr ⟨?_,e,U⟩⟩;rcases AY h with h | h <;> omega
theorem Pg (s:List UInt8) (a:Nat) (w:ai) (aS:s.length≤1048576) (ha:a≤s.length):
 aZ aq 104 (bd [str s,aQ a]) w (fun v w'=>v=AX (bJ s a)∧Wk w w'):=by
 refine enter func104 U ntmps104 U<|aP 10 U<|p mv<|aj 2 U<|gs (t:=13) U (fun h=>absurd h ag) fun aN=>bA U mv<|bA U mv<|aC 5 U<|cd U (fun am=> ?_) fun am=> ?_;exact aB 9 U<|f3 U U U U<|⟨by rw [xw (lI (k:=0) ag (fun j V=>by omega)<|.inr<|.inl ag) ag ag]; rfl,Md.refl _ _⟩
 refine bD 7 U ?_;refine ei (fun ac Z=> ∃ (i:Nat),(i≤10)∧(∀ j,j < i→a+j < s.length∧128≤(s.getD (a+j) 0).toNat)∧(i=10∨s.length≤a+i∨(s.getD (a+i) 0).toNat < 128)∧(Wk w Z)∧(Sl ac [(0,str s),(1,aQ a),(7,aQ i)])) ?_ ?_;refine bV 1 U<|lp (fun E ad aa=> ∃ (i:Nat),(i≤10)∧(∀ j,j < i→a+j < s.length∧128≤(s.getD (a+j) 0).toNat)∧(Wk w aa)∧(Sl ad [(0,str s),(1,aQ a),(7,aQ i)])∧(10 - i=E)) _ ⟨0,ag,(fun j V=>by omega),(Md.refl _ _),U,U⟩ ?_;rintro E ad aa ⟨i,hi,C,J,aF,rfl⟩;refine bE aF<|aP 6 U<|gs (t:=21) U (fun aw=> ?_) fun aw=> ?_;refine aj 8 U<|gs (t:=29) U (fun ax=> ?_) fun ax=> ?_;refine aj 3 U<|bA U (bW<|a+i)<|bA U (dc u9 U U ag)<|aC 4 U<|cd U (fun an=> ?_) fun an=> ?_;exact az 5 U<|p (bW<|i+1)<|ar 3 U<|tn<|⟨_,ag,i+1,ag,(fun j V=>by rcases dM j i with h | h <;> first | exact C j h | (have ak:j=i:=ag; subst ak; exact ⟨ag,ag⟩)),J,U,U⟩
 exact aB 2 U<|cj<|bg 1 U<|tn<|⟨i,hi,C,(.inr<|.inr ag),J,U⟩
 exact ar 12 U<|cj<|bg 1 U<|tn<|⟨i,hi,C,(.inr<|.inl ag),J,U⟩
 exact aj 7 U<|p mv<|ar 12 U<|cj<|bg 1 U<|tn<|⟨i,hi,C,(.inl ag),J,U⟩
 rintro ac Z ⟨i,hi,C,aI,A,aE⟩;refine bE aE ?_;have I:=lI (s:=s) (a:=a) (k:=i) hi C aI;refine bD 7 U<|cd U (fun ao=> ?_) fun ao=> ?_;exact aB 9 U<|f3 U U U U<|⟨by rw [Gw ag]; rfl,A⟩
 refine bD 13 U<|cd U (fun ap=> ?_) fun ap=> ?_;exact aB 9 U<|f3 U U U U<|⟨by rw [xw I ag ag]; rfl,A⟩
 refine az 7 U<|p (bW<|a+i)<|p (dc u9 U U ag)<|aC 3 U ?_;refine ei (fun ae wD=> ∃ (aK:Unit),(¬((i=9∧1 < (s.getD (a+i) 0).toNat)∨(0 < i∧(s.getD (a+i) 0).toNat=0)))∧(Wk w wD)∧(Sl ae [(0,str s),(1,aQ a),(7,aQ i),(8,.int .u8 (s.getD (a+i) 0).toNat)])) ?_ ?_;refine aP 5 U<|gs (t:=54) U (fun ay=> ?_) fun ay=> ?_;refine aj 4 U<|gs (t:=58) U (fun aA=> ?_) fun aA=> ?_;exact ar 18 U<|tr<|f3 U U U U<|⟨by rw [rS I ag ag ag]; rfl,A⟩
 refine aj 3 U<|gs (t:=61) U (fun M=> ?_) fun M=> ?_;refine aC 6 U<|cd U (fun L=> ?_) fun L=> ?_;exact aB 8 U<|tr<|f3 U U U U<|⟨by rw [rS I ag ag ag]; rfl,A⟩
 exact aB 1 U<|tn<|⟨(),ag,A,U⟩
 exact aj 3 U<|p (rK U)<|ar 4 U<|tn<|⟨(),ag,A,U⟩
 refine aj 3 U<|p mv<|aj 3 U<|gs (t:=61) U (fun M=> ?_) fun M=> ?_;refine aC 6 U<|cd U (fun L=> ?_) fun L=> ?_;exact aB 8 U<|tr<|f3 U U U U<|⟨by rw [rS I ag ag ag]; rfl,A⟩
 exact aB 1 U<|tn<|⟨(),ag,A,U⟩
 exact aj 3 U<|p (rK U)<|ar 4 U<|tn<|⟨(),ag,A,U⟩
 rintro ae wD ⟨aK,av,al,aG⟩;refine bE aG<|az 3 U<|p (jL sr Bu U<|jw ag)<|aC 12 U<|lp (fun E ah ab=> ∃ (k n:Nat) (x:Int),(k≤i)∧(x=(k:Int) - 1)∧(n=e7 ((s.drop<|a+k).take<|i+1 - k))∧((n+1)*128 ^ k≤18446744073709551616)∧(Wk w ab)∧(Sl ah [(0,str s),(1,aQ a),(7,aQ i),(9,.int .u64 (n:Nat)),(10,.int .i64 x)])∧(k=E)) _ ⟨i,(s.getD (a+i) 0).toNat,(i:Int) - 1,ag,U,(Nu ag ag),(Nt ag ag ag),al,U,U⟩ ?_;rintro E ah ab ⟨k,n,x,aR,aT,hn,hb,O,aH,rfl⟩;refine bE aH<|bV 7 U<|cd U (fun au=> ?_) fun au=> ?_;obtain ⟨k,rfl⟩:∃ aJ:Nat,k=aJ+1:=⟨k - 1,ag⟩
 obtain rfl :x=(k:Int):=ag;obtain ⟨aO,aD⟩:=C k ag;have aL:=Kj hb;have aM:=oW<|s.getD (a+k) 0;exact az 6 U<|p (Aw ((n*128:Nat):Int) U U<|(jw ag).trans ag)<|aj 3 U<|p (bW<|a+k)<|p (dc u9 U U ag)<|p (A1 (((s.getD (a+k) 0).toNat - 128:Nat):Int) U U<|(BD ag).trans ag)<|p (jL sr Bu U<|jw ag)<|p (yS ((n*128 +((s.getD (a+k) 0).toNat - 128):Nat):Int) U U<|(jw ag).trans ag)<|ar 9 U<|tn<|⟨_,ag,k,n*128 +((s.getD (a+k) 0).toNat - 128),(k:Int) - 1,ag,U,(by rw [hn]; exact (Ns ag ag aD).symm),(Ki hb ag),O,U,U⟩
 refine aB 2 U<|cj<|fY 7 U<|p (bW<|a+i)<|p (bW<|a+i+1)<|ar 6 U<|f3 U U U U ?_;obtain rfl :k=0:=ag;rw [Nat.add_zero,Nat.sub_zero] at hn;subst hn;exact ⟨by rw [xu I ag ag av]; rfl,O⟩
theorem rA (rb:Nat) (s:List UInt8) (a f:Nat) (w:ai) (C:aD w.heap rb [str s,aQ a,aQ f]) (ax:s.length≤1048576) (ha:a≤s.length):
 aZ aq 49 (bd [aA rb]) w (fun v w'=> ∃ n E q:Nat,v= .int .u64 (n:Nat)∧aD w'.heap rb [str s,aQ E,aQ q]∧E≤s.length∧n < 18446744073709551616∧((f=0∧q=0∧bJ s a= .ok (n,E))∨(q≠0∧n=0∧(f≠0∨∃ e,bJ s a= .error e)))∧Md (fun k=>k=rb) w w'):=by
 refine enter func49 U ntmps49 U<|aP 8 U<|p mv<|aj 2 U<|p (ay U<|C.aG 2)<|aC 3 U<|cd U (fun ap=> ?_) fun ap=> ?_;exact aB 7 U<|aE U<|⟨0,a,f,U,C,ha,aJ,.inr ⟨ag,U,.inl ag⟩,Md.refl _ _⟩
 refine bD 3 U<|fk fun A=>cB 0 U (mv) A<|aY [1,2] U A<|c9 3 U A (C.aG 0)<|cB 4 U (mv) A<|aY [5,6] U A<|c9 7 U A (C.aG 1)<|he 8 U an<|aI (Pg s a w.drew ax ha) U ?_;rintro v20 aH ⟨Z,I⟩;obtain ⟨n,E,ad,aw,aa⟩:=Po s a;rw [aw] at Z;subst Z;have M:=Wk.B (Md.gM I) C;have O:=(Md.gM I).mono (G:=fun k=>k=rb) fun _ _ h=>h.elim;have J:(fun w'=>Wk w w') aH:=A.trans I;refine ⟨J,?_⟩;refine cB 9 U (mv) J<|aY [10,11,12,13,14,15] U J<|hn an<|dT 8 U<|cd U (fun L=> ?_) fun L=> ?_;obtain ⟨V,aF⟩:=aa.resolve_left fun h=>L<|by rw [h.1]; rfl
 refine az 2 U<|p mv<|aj 3 U<|e<|st fW U U (U) (M) (by simp) fun aL al ae=> ?_;have ak:=O.trans al;exact ar 9 U<|aE U<|⟨0,a,ad,U,ae,ha,aJ,.inr ⟨V,U,.inr aF⟩,ak⟩
 obtain ⟨V,ab⟩:=aa.resolve_right fun h=>L ag;obtain ⟨aK,au,av⟩:=kY ab;refine az 4 U<|p mv<|aj 3 U<|e<|st fW U U (U) (M) (by simp) fun aM ao ah=> ?_;have am:=O.trans ao;exact ar 9 U<|aE U<|⟨n,E,0,U,(by have ac:f=0:=ag; subst ac; exact ah),au,av,.inl ⟨ag,U,ab⟩,am⟩
theorem zK (rb:Nat) (s:List UInt8) (a f:Nat) (w:ai) (ab:aD w.heap rb [str s,aQ a,aQ f]) (aF:s.length≤1048576) (ha:a≤s.length):
 aZ aq 50 (bd [aA rb]) w (fun v w'=> ∃ (x:List UInt8) (C q:Nat),v=str x∧aD w'.heap rb [str s,aQ C,aQ q]∧C≤s.length∧x.length≤255∧((f=0∧q=0∧dJ s a= .ok (x,C))∨(q≠0∧(f≠0∨∃ e,dJ s a= .error e)))∧Md (fun k=>k=rb) w w'):=by
 refine enter func50 U ntmps50 U<|aP 7 U<|p mv<|e<|aI (rA rb s a f w ab aF<|ha) U ?_;rintro v5 aO ⟨n,C,q,rfl,I,V,aN,Z,L⟩;refine aj 6 U<|p mv<|aj 2 U<|p (ay U<|I.aG 2)<|aC 3 U<|cd U (fun O=> ?_) fun O=> ?_;obtain ⟨_,_,au⟩:=Z.resolve_left fun h=>O<|by rw [h.2.1]; rfl
 exact aB 7 U<|aE U<|⟨[],C,q,U,I,V,aJ,.inr ⟨ag,au.imp id fun ⟨aa,h⟩=>⟨aa,El h⟩⟩,L⟩
 obtain ⟨ax,rfl,M⟩:=Z.resolve_right fun h=>O ag;obtain ⟨aK,aL,aM⟩:=kY M;refine bD 9 U<|cd U (fun av=> ?_) fun av=> ?_;refine az 2 U<|p mv<|aj 2 U<|e<|st fW U U (U) (I) (by simp) fun aR al ad=> ?_;have am:=L.trans al;exact ar 9 U<|aE U<|⟨[],C,62,U,ad,V,aJ,.inr ⟨aJ,.inr ⟨_,Em M ag⟩⟩,am⟩
 refine bD 4 U<|fk fun E=>aY [0] U E<|cB 1 U (jL u3 oI U<|ku ag) E<|cB 2 U (mv) E<|aY [3,4] U E<|c9 5 U E (I.aG 0)<|aY [6] U E<|cB 7 U (mv) E<|aY [8,9] U E<|c9 10 U E (I.aG 1)<|aY [11,12] U E<|hn an<|dT 1 U<|cd U (fun aw=> ?_) fun aw=> ?_;refine az 2 U<|p mv<|aj 2 U<|e<|st fW U U (U) (I) (by simp) fun aS ao ae=> ?_;have ap:=L.trans<|Md.gM ao;exact ar 9 U<|aE U<|⟨[],C,60,U,ae,V,aJ,.inr ⟨aJ,.inr ⟨_,En M ag ag⟩⟩,ap⟩
 refine az 4 U<|p mv<|p mv<|aj 2 U<|p (ay U<|I.aG 1)<|aj 1 U<|p (jL u3 oI U<|ku ag)<|p (bW<|C+n)<|aj 2 U<|e<|st fW U U (U) (I) (by simp) fun aH ah ac=> ?_;have ak:=L.trans<|Md.gM ah;have J:aD aH.heap rb [str s,aQ (C+n),aQ 0]:=ac;exact aC 3 U<|fk fun A=>cB 0 U (mv) A<|aY [1,2] U A<|c9 3 U A (J.aG 0)<|cB 4 U (mv) A<|aY [5,6] U A<|c9 7 U A (J.aG 1)<|aY [8] U A<|cB 9 U (jL u3 oI U<|ku ag) A<|cB 10 U (pS<|C) A<|cB 11 U (mv) A<|aY [12,13] U A<|c9 14 U A (J.aG 1)<|cB 15 U (oG u9 U U U ag) A<|aY [16] U A<|hn an<|bg 2 U<|aE U<|⟨(s.drop C).take n,C+n,0,(by rw [← GX]; rfl),Wk.B A J,ag,by rw [bY]; omega,.inl ⟨ax,U,Eo M ag ag⟩,Md.trans ak<|Md.mono A fun _ _ h=>h.elim⟩
theorem LV (rb:Nat) (s:List UInt8) (a n:Nat) (w:ai) (ak:aD w.heap rb [str s,aQ a,aQ 0]) (bo:s.length≤1048576) (ha:a≤s.length) (bx:n≤1048576):
 aZ aq 107 (bd [aA rb,.int .u64 (n:Nat)]) w (fun v w'=> ∃ (c:UInt8) (t:Int) (E q:Nat),v= .agg #[bh .u8 c.toNat,.int .i64 t]∧aD w'.heap rb [str s,aQ E,aQ q]∧E≤s.length∧((q=0∧fL s n a= .ok ((c,t),E))∨(q≠0∧∃ e,fL s n a= .error e))∧Md (fun k=>k=rb) w w'):=by
 have bz:=ak.lt;refine enter func107 U ntmps107 U<|aP 2 U<|e<|fK Ie fun M bI bu aa al=> ?_;have bC:=aa.size;have I:=Wk.B aa.md ak;refine aC 4 U<|fk fun A=>cB 0 U (mv) A<|aY [1,2] U A<|c9 3 U A (I.aG 1)<|cB 4 U (mv) A<|aY [5,6] U A<|c9 7 U A (I.aG 0)<|aY [8,9] U A<|hn an<|dT 1 U<|cd U (fun bj=> ?_) fun bj=> ?_;refine az 2 U<|p mv<|aj 2 U<|e<|st fW U U (U) (I) (by simp) fun bJ ap a3=> ?_;have bf:=ap.ax al fun h=>by omega
 refine aj 4 U<|p (dZ (ps:= []) (L:= [.int .u8 0,.int .i64 0]) Bg U<|U)<|e<|fG vK U U U U bf (by simp) fun bt au a4=> ?_;have a5:aD bt.heap M [bh .u8 0,.int .i64 0]:=⟨_,a4⟩
 have bb:=au.B a3 fun h=>by omega
 have bc:=((aa.md.mono fun _ _ h=>h.elim).trans (Md.mono A (fun _ _ h=>h.elim) |>.trans ap)).trans' au fun k aN h=>by omega
 exact ar 4 U<|zy U (jY (cs:= [bh .u8 0,.int .i64 0]) U vA U fun j aM=>a5.aG j)<|⟨0,0,a,60,U,bb,ha,.inr ⟨aJ,_,Dy ag⟩,bc⟩
 refine bD 3 U<|fk fun C=>cB 0 U (mv) C<|aY [1,2] U C<|c9 3 U C (I.aG 0)<|cB 4 U (mv) C<|aY [5,6] U C<|c9 7 U C (I.aG 1)<|cB 8 U (dc u9 U U ag) C<|aY [9] U C<|hn an<|fY 3 U<|p mv<|p mv<|aj 2 U<|p (ay U<|I.aG 1)<|p (bW<|a+1)<|aj 2 U<|e<|st fW U U (U) (I) (by simp) fun aT aw a7=> ?_;have a6:aD aT.heap rb [str s,aQ (a+1),aQ 0]:=a7;have bg:=aw.ax al fun h=>by omega
 refine aj 4 U<|p mv<|e<|aI (rA rb s (a+1) 0 aT a6 bo ag) U ?_;rintro bG bH ⟨t,E,q,rfl,Z,aR,bv,aS,av⟩;have ad:=av.ax bg fun h=>by omega
 have J:=(((aa.md.mono (G:=fun k=>k=rb) fun _ _ h=>h.elim).trans<|Md.mono A fun _ _ h=>h.elim).trans<|Md.mono C fun _ _ h=>h.elim).trans<|aw.trans av;refine aC 3 U ?_;refine ei (fun aU V=> ∃ (O:Nat),(aD V.heap rb [str s,aQ E,aQ O])∧((O=0∧fL s n a= .ok ((s.getD a 0,((t:Nat):Int)),E)∧t < n)∨(O≠0∧∃ e,fL s n a= .error e))∧(V.heap[M]? =some (.cells [bh .u8 0,.int .i64 0].toArray 251 (0,0)))∧(Md (fun k=>k=rb) w V)∧(w.heap.size≤V.heap.size)∧(Sl aU [(0,aA rb),(1,.int .u64 (n:Nat)),(4,aA M),(5,.int .u8 (s.getD a 0).toNat),(6,.int .u64 (t:Nat))])) ?_ ?_;refine aP 2 U<|p mv<|aj 2 U<|p (ay U<|Z.aG 2)<|aj 2 U<|gs (t:=45) U (fun aL=> ?_) fun aL=> ?_;have aF:=(aS.resolve_right fun h=>h.1 ag).2.2;refine aj 1 U<|bA U mv<|aC 4 U<|cd U (fun bm=> ?_) fun bm=> ?_;refine az 1 U<|p mv<|aj 2 U<|e<|st fW U U (U) (Z) (by simp) fun bK ac a8=> ?_
 skip
 exact ar 1 U<|tn<|⟨190,a8,(.inr ⟨aJ,_,DA ag aF ag⟩),(ac.ax ad fun h=>by omega),(J.trans ac),((J.trans ac).size),U⟩
 exact aB 1 U<|tn<|⟨0,((by have aV:q=0:=ag; subst aV; exact Z)),(.inl ⟨U,DB ag aF ag,ag⟩),ad,J,J.size,U⟩
 have aK:=aS.resolve_left fun h=>aL<|by rw [h.2.1]; rfl
 exact ar 8 U<|tn<|⟨q,Z,(.inr ⟨aK.1,aK.2.2.elim (fun h=>absurd U h) fun ⟨aW,h⟩=>⟨aW,Dz ag h⟩⟩),ad,J,J.size,U⟩
 rintro aU V ⟨O,ab,ah,aH,aE,bF,bp⟩;refine bE bp<|az 6 U<|p (ay U<|ab.aG 2)<|aC 3 U<|cd U (fun ae=> ?_) fun ae=> ?_;obtain ⟨bn,bi⟩:=ah.resolve_left fun h=>ae<|by rw [h.1]; rfl
 refine az 2 U<|p (dZ (ps:= []) (L:= [.int .u8 0,.int .i64 0]) Bg U<|U)<|e<|fG vK U U U U aH (by simp) fun bq am aX=> ?_;have a0:aD bq.heap M [bh .u8 0,.int .i64 0]:=⟨_,aX⟩
 have a9:=am.B ab fun h=>by omega
 exact ar 4 U<|zy U (jY (cs:= [bh .u8 0,.int .i64 0]) U vA U fun j aM=>a0.aG j)<|⟨0,0,E,O,U,a9,aR,.inr ⟨bn,bi⟩,aE.trans' am fun k aN h=>by omega⟩
 obtain ⟨rfl,aO⟩:=ah.resolve_right fun h=>ae ag;have bB:=aO.2;refine az 6 U<|p (jL u3 oI U<|ku ag)<|p (dZ (ps:= [(0,bh .u8 (s.getD a 0).toNat),(1,aQ t)]) (L:= [bh .u8 (s.getD a 0).toNat,aQ t]) Bg U<|U)<|e<|fG vK U U U U aH (by simp) fun br ao a1=> ?_;have a2:aD br.heap M [bh .u8 (s.getD a 0).toNat,aQ t]:=⟨_,a1⟩
 have ba:=ao.B ab fun h=>by omega
 exact ar 3 U<|zy U (jY (cs:= [bh .u8 (s.getD a 0).toNat,aQ t]) U vA U fun j aM=>a2.aG j)<|⟨s.getD a 0,(t:Nat),E,0,U,ba,aR,.inl ⟨U,aO.1⟩,aE.trans' ao fun k aN h=>by omega⟩
end Go.Hb
end
namespace Go.Hb
theorem N2 {l:List UInt8} {j:Nat} {b:UInt8} (h:j < l.length):b∈l.take (j+1)↔b∈l.take j∨l.getD j 0=b:=by
 rw [ie l j 0 h,dz,fv,eq_comm (a:=b)]
theorem xj (s:List UInt8) (w:ai) (aa:s.length≤1048576):
 aZ aq 106 (bd [str s]) w (fun v w'=>v= .bool (gK s)∧Wk w w'):=by
 refine enter func106 U ntmps106 U<|bV 12 U<|lp (fun C J I=> ∃ (i:Nat),(i≤s.length)∧(∀ j,j < i→gN (s.getD j 0)=true)∧(Wk w I)∧(Sl J [(0,str s),(3,.int .i64 i)])∧(s.length - i=C)) _ ⟨0,ag,(fun j E=>by omega),(Md.refl _ _),U,U⟩ ?_;rintro C J I ⟨i,hi,hp,A,V,rfl⟩;refine bE V<|bV 9 U<|cd U (fun M=> ?_) fun M=> ?_;refine az 8 U<|p (dc u9 U U ag)<|aj 2 U<|gs (t:=14) U (fun O=> ?_) fun O=> ?_;exact ar 16 U<|tr<|bg 2 U<|aE U<|⟨by show bB false =_; rw [tq (i:=i) ag (zC ag)],A⟩
 refine aj 2 U<|bA U (dc u9 U U ag)<|aC 4 U<|cd U (fun L=> ?_) fun L=> ?_;exact aB 8 U<|tr<|bg 2 U<|aE U<|⟨by show bB false =_; rw [tq (i:=i) ag (zC ag)],A⟩
 have Z:gN (s.getD i 0)=true :=Mt ag ag;exact aB 8 U<|tn<|⟨_,ag,i+1,ag,(fun j E=>by rcases dM j i with h | h <;> first | exact hp j h | (rw [show j=i by omega]; exact Z)),A,U,U⟩
 exact aB 2 U<|cj<|bg 8 U<|aE U<|⟨by show bB true =_; rw [vG (fun j E=>hp j ag)],A⟩
theorem Gy (s:List UInt8) (w:ai) (I:s.length≤1048576):
 aZ aq 53 (bd [str s]) w (fun v w'=>v= .bool (dK s)∧Wk w w'):=by
 refine enter func53 U ntmps53 U<|aP 12 U<|gs (t:=6) U (fun E=> ?_) fun E=> ?_;exact ar 14 U<|aE U<|⟨by show bB false =_; unfold dK; rw [decide_eq_false ag],Md.refl _ _⟩
 refine aC 6 U<|cd U (fun C=> ?_) fun C=> ?_;exact aB 7 U<|aE U<|⟨by show bB false =_; unfold dK; rw [decide_eq_false ag],Md.refl _ _⟩
 refine az 5 U<|e<|aI (xj s _ I) U ?_;rintro v12 J ⟨rfl,A⟩;exact ar 4 U<|aE U<|⟨by show bB (gK s)=_; unfold dK; cases h:gK s <;> simp <;> omega,A⟩
theorem Pu (s:List UInt8) (w:ai) (a4:s.length≤1048576):
 aZ aq 120 (bd [str s]) w (fun v w'=>v=Gf (iC s)∧Wk w w'):=by
 refine enter func120 U ntmps120 U<|aP 10 U<|e<|tk fF fun aa aW a1 ax ao=> ?_;have aN:b9 aW w.heap.size 5 1 (.slice (some ⟨aa,0,none⟩) 0 0) (([]:List UInt8)).length (U8<|([]:List UInt8)):=ao _ ag;refine aC 10 U<|lp (fun ac ak V=> ∃ (i:Nat) (acc:List UInt8) (M:ah),(i≤s.length∧acc.length≤i)∧(b9 V w.heap.size 5 1 (M) (acc).length<|U8<|acc)∧(Wk w V)∧(fq acc (s.drop i)=iC s)∧(Sl ak [(0,str s),(6,M),(7,.int .i64 i)])∧(s.length - i=ac)) _ ⟨0,[],.slice (some ⟨aa,0,none⟩) 0 0,(by simp),aN,ax.md,U,U,U⟩ ?_;rintro ac ak V ⟨i,acc,M,hi,E,A,C,aO,rfl⟩;refine bE aO ?_;obtain ⟨Z,ab,rfl⟩:=de E;refine bV 9 U<|cd U (fun aD=> ?_) fun aD=> ?_;refine az 8 U<|p (dc u9 U U ag)<|aC 3 U<|cd U (fun aE=> ?_) fun aE=> ?_;have aA:(s.getD i 0).toNat=47:=ag;exact bD 1 U<|fk fun I=>aY [0,2,3] U I<|cB 4 U (bW<|i+1) I<|cB 5 U (mD u9 U U ag) I<|gP 1 U (fun w' ay=>mc nW U ((dx<|aR E ay).2)<|U) I<|aY [6,7,8,9] U I<|hn an<|bg 4 U<|tr<|bg 2 U<|f4 U U U U U<|⟨by rw [← C,drop_cons 0 (by omega :i < s.length),x8 aA]; rfl,Md.trans A (Md.refl _ _).drew⟩
 refine bD 2 U ?_;refine ei (fun al O=> ∃ (k:Nat),(k < s.length∧i≤k∧k≤i+1)∧(Wk w O)∧(b9 O w.heap.size 5 1 (.slice Z acc.length ab) (acc).length<|U8<|acc)∧(fq (acc++ [s.getD k 0]) (s.drop<|k+1)=iC s)∧(Sl al [(0,str s),(6,.slice Z acc.length ab),(7,.int .i64 k)])) ?_ ?_;refine aP 4 U<|p (dc u9 U U ag)<|aC 3 U<|cd U (fun aF=> ?_) fun aF=> ?_;have J:(s.getD i 0).toNat=92:=ag;refine az 3 U<|p (bW<|i+1)<|aC 12 U<|cd U (fun aG=> ?_) fun aG=> ?_;exact aB 10 U<|tr<|bg 1 U<|tr<|bg 2 U<|f4 U U U U U<|⟨by rw [← C,drop_cons 0 (by omega :i < s.length),iY ag,xX J]; rfl,A⟩
 refine az 6 U<|p (dc u9 U U ag)<|aj 2 U<|gs (t:=37) U (fun aJ=> ?_) fun aJ=> ?_;refine aj 2 U<|bA U (dc u9 U U ag)<|aj 3 U<|gs (t:=43) U (fun aK=> ?_) fun aK=> ?_;refine aj 2 U<|bA U (dc u9 U U ag)<|aC 4 U<|cd U (fun aH=> ?_) fun aH=> ?_;exact aB 9 U<|tr<|bg 1 U<|tr<|bg 2 U<|f4 U U U U U<|⟨by rw [← C,drop_cons 0 (by omega :i < s.length),drop_cons 0 (by omega :i+1 < s.length),xY J (by rw [iN]; exact decide_eq_false ag)]; rfl,A⟩
 exact aB 1 U<|tn<|⟨i+1,ag,A,E,(by rw [← C,drop_cons 0 (by omega :i < s.length),drop_cons 0 (by omega :i+1 < s.length),su J (by rw [iN]; exact decide_eq_true ag)]),U⟩
 exact ar 9 U<|tn<|⟨i+1,ag,A,E,(by rw [← C,drop_cons 0 (by omega :i < s.length),drop_cons 0 (by omega :i+1 < s.length),su J (by rw [iN]; exact decide_eq_true ag)]),U⟩
 exact aj 5 U<|p mv<|ar 9 U<|tn<|⟨i+1,ag,A,E,(by rw [← C,drop_cons 0 (by omega :i < s.length),drop_cons 0 (by omega :i+1 < s.length),su J (by rw [iN]; exact decide_eq_true ag)]),U⟩
 exact aB 1 U<|tn<|⟨i,ag,A,E,(by rw [← C,drop_cons 0 (by omega :i < s.length),xZ ag ag]),U⟩
 rintro al O ⟨k,a3,av,ae,aI,aQ⟩;refine bE aQ<|az 5 U<|p (dc u9 U U ag)<|e<|fh fF U U fun aX aV a0 L am=> ?_;have ad:Wk w aV:=Md.trans av L.md;refine e<|ap fF (aR ae L.md) U (by have :=ad.size; omega) U (aT.dD am) (U) (U) ag ag fun aS a6 aL aw a5 a2=> ?_;have au:=Wk.own ad (aR ae L.md) aw<|bf _;have aM:=oA aL;exact p aU<|aj 4 U<|p (bW<|k+1)<|ar 3 U<|tn<|⟨_,ag,k+1,acc++ [s.getD k 0],aS,(by rw [bo,dE]; omega),aM,au,aI,U,U⟩
 exact aB 2 U<|cj<|fY 5 U<|p (mc nW U ((dx E).2)<|U)<|ar 7 U<|f4 U U U U U<|⟨by rw [← C,iY ag,x7]; rfl,A⟩
theorem O0 (s:List UInt8) (w:ai) (a2:s.length≤1048576):
 aZ aq 105 (bd [str s]) w (fun v w'=>v= .tuple #[str (letE s).1,.int .i64 (letE s).2]∧Wk w w'):=by
 refine enter func105 U ntmps105 U<|aP 9 U<|e<|aI (xj s _ a2) U ?_;rintro v10 a9 ⟨rfl,aa⟩;refine aj 10 U<|gs (t:=14) U (fun av=> ?_) fun av=> ?_;exact ar 14 U<|f2 U U U<|⟨by show kB #[str [],.int .i64 21]=_; unfold letE; rw [if_pos (.inl<|uX.1 ag)]; rfl,aa⟩
 refine aC 5 U<|cb U (fun ab=> ?_) fun ab=> ?_;exact aB 8 U<|f2 U U U<|⟨by show kB #[str [],.int .i64 21]=_; unfold letE; rw [if_pos (.inr<|by simpa using ab)]; rfl,aa⟩
 refine az 4 U<|e<|tk fF fun aE aG a7 aO aM=> ?_;have a1:b9 aG w.heap.size 5 1 (.slice (some ⟨aE,0,none⟩) 0 0) (([]:List UInt8)).length (U8<|([]:List UInt8)):=aM _<|by have :=aa.size; omega
 have aN:Wk w aG:=Md.trans aa aO.md;refine aC 10 U<|lp (fun M aJ ad=> ∃ (i:Nat) (ay:ah),(i≤s.length)∧(b9 ad w.heap.size 5 1 (ay) (lets<|s.take i).length<|U8<|lets<|s.take i)∧(Wk w ad)∧(Sl aJ [(0,str s),(5,ay),(6,.int .i64 i)])∧(s.length - i=M)) _ ⟨0,.slice (some ⟨aE,0,none⟩) 0 0,ag,a1,aN,U,U⟩ ?_;rintro M aJ ad ⟨i,ay,hi,C,O,a3,rfl⟩;refine bE a3 ?_;obtain ⟨ae,ak,rfl⟩:=de C;have aW:=Ab<|s.take i;rw [bY] at aW;refine bV 9 U<|cd U (fun aS=> ?_) fun aS=> ?_;refine bD 16 U<|lp (fun M aK aH=> ∃ (j:Nat) (ob:Bool),(j≤(lets<|s.take i).length)∧(ob=decide (s.getD i 0∈(lets<|s.take i).take j))∧(Wk ad aH)∧(Sl aK [(0,str s),(5,.slice ae (lets<|s.take i).length ak),(6,.int .i64 i),(7,.bool ob),(8,.int .i64 j)])∧((lets<|s.take i).length - j=M)) _ ⟨0,false,ag,U,(Md.refl _ _),U,U⟩ ?_;rintro M aK aH ⟨j,ob,a8,ac,A,a4,rfl⟩;refine bE a4<|aP 8 U<|gs (t:=29) U (fun aX=> ?_) fun aX=> ?_;refine aC 5 U<|cb U (fun au=> ?_) fun au=> ?_;have a0:¬s.getD i 0∈(lets<|s.take i).take j:=of_decide_eq_false<|by rw [← ac]; simpa using au
 exact bD 4 U<|fk fun L=>aY [0,1] U L<|cB 2 U (bZ qX U U ag<|aT.ok ((dx<|aR C A).2)<|HJ ag) L<|c9 3 U L (HI (i:=j) (dx<|aR C A).2 ag)<|aY [4,5] U L<|cB 6 U (dc u9 U U ag) L<|aY [7,8] U L<|hn an<|bg 7 U<|tn<|⟨_,ag,j+1,decide (((lets<|s.take i).getD j 0).toNat=((s.getD i 0).toNat:Int)),ag,(decide_eq_decide.2<|by rw [N2 ag]; constructor <;> intro h <;> first | exact .inr (nO.1 ag) | (rcases h with h | h <;> first | exact absurd h a0 | (rw [h]))),(Md.trans A (Md.refl _ _).drew),U,U⟩
 have Z:ob=decide (s.getD i 0∈lets (s.take i)):=by
  have aF:ob=true :=by simpa using au
  rw [aF] at ac;rw [aF]; exact (decide_eq_true<|List.mem_of_mem_take<|of_decide_eq_true ac.symm).symm
 refine aB 2 U<|cj<|dT 8 U<|cb U (fun I=> ?_) fun I=> ?_;have J:¬s.getD i 0∈lets (s.take i):=of_decide_eq_false<|by rw [← Z]; simpa using I
 refine az 4 U<|p (dc u9 U U ag)<|e<|fh fF U U fun aL aD aQ E al=> ?_;have V:Wk w aD:=Md.trans (Md.trans O A) E.md;refine e<|ap fF (aR (aR C A) E.md) U (by have :=V.size; omega) U (aT.dD al) (U) (U) ag ag fun aA a6 aw ao a5 aV=> ?_;have am:=Wk.own V (aR (aR C A) E.md) ao<|bf _;have ax:=oA aw;exact p aU<|ar 8 U<|tn<|⟨_,ag,i+1,aA,ag,(by rw [om ag,if_neg J]; exact ax),am,U,U⟩
 have J:s.getD i 0∈lets (s.take i):=of_decide_eq_true<|by rw [← Z]; simpa using I
 exact aB 8 U<|tn<|⟨_,ag,i+1,.slice ae (lets<|s.take i).length ak,ag,(by rw [om ag,if_pos J]; exact aR C A),(Md.trans O A),U,U⟩
 have Z:ob=decide (s.getD i 0∈lets (s.take i)):=by rw [ac,ja ag]
 refine ar 8 U<|cj<|dT 8 U<|cb U (fun I=> ?_) fun I=> ?_;have J:¬s.getD i 0∈lets (s.take i):=of_decide_eq_false<|by rw [← Z]; simpa using I
 refine az 4 U<|p (dc u9 U U ag)<|e<|fh fF U U fun aL aD aQ E al=> ?_;have V:Wk w aD:=Md.trans (Md.trans O A) E.md;refine e<|ap fF (aR (aR C A) E.md) U (by have :=V.size; omega) U (aT.dD al) (U) (U) ag ag fun aA a6 aw ao a5 aV=> ?_;have am:=Wk.own V (aR (aR C A) E.md) ao<|bf _;have ax:=oA aw;exact p aU<|ar 8 U<|tn<|⟨_,ag,i+1,aA,ag,(by rw [om ag,if_neg J]; exact ax),am,U,U⟩
 have J:s.getD i 0∈lets (s.take i):=of_decide_eq_true<|by rw [← Z]; simpa using I
 exact aB 8 U<|tn<|⟨_,ag,i+1,.slice ae (lets<|s.take i).length ak,ag,(by rw [om ag,if_pos J]; exact aR C A),(Md.trans O A),U,U⟩
 exact aB 2 U<|cj<|fY 5 U<|p (mc nW U ((dx C).2)<|U)<|ar 5 U<|f2 U U U<|⟨by show kB #[str (lets<|s.take i),.int .i64 0]=_; unfold letE; rw [if_neg (fun h=>h.elim (fun h=>by rw [h] at av; exact av U) fun h=>by rw [h] at ab; cases ab),show s.take i=s from ja ag]; rfl,O⟩
end Go.Hb
section
namespace Go.Hb
open Go.Hb.kH
def iI (w:ai) (B:Nat) (A:List (Bool×ah)) (l:List bH):Prop :=A.length=l.length∧∀ (i:Nat) q e,A[i]? =some q→l[i]? =some e→q.1=e.1∧Tg w B 251 e.2.length q.2 (kL e.2)
theorem iI.nil (w:ai) (B:Nat):iI w B [] []:=⟨rfl,fun i q r A=>by simp at A⟩
theorem iI.md {F:Nat→Prop} {w w':ai} {B:Nat} {E:List (Bool×ah)} {l:List bH} (h:iI w B E l) (hm:Md F w w') (I:∀ k,F k→B≤k→∀ cur z,w.heap[k]?≠some (.cells cur 251 z)):iI w' B E l:=
 ⟨h.1,fun i q r A C=>⟨(h.2 i q r A C).1,Tg.rp (h.2 i q r A C).2 hm I⟩⟩
theorem iI.wk {w w':ai} {B:Nat} {A:List (Bool×ah)} {l:List bH} (h:iI w B A l) (hm:Wk w w'):iI w' B A l:=h.md hm fun _ C=>C.elim
theorem iI.snoc {w:ai} {B:Nat} {E:List (Bool×ah)} {l:List bH} {v:ah} {e:bH} (ha:iI w B E l) (J:Tg w B 251 e.2.length v (kL e.2)):iI w B (E++ [(e.1,v)]) (l++ [e]):=by
 refine ⟨by rw [bo,bo,ha.1]; rfl,fun i q' r' A C=> ?_⟩;have I:=ha.1;by_cases hi:i < E.length
 · rw [eR hi] at A;rw [eR ag] at C;exact ha.2 i q' r' A C
 · rw [eC ag] at A;rw [eC ag,← I] at C;cases hj:i - E.length with
   | zero=>rw [hj] at A C; cases A; cases C; exact ⟨rfl,J⟩
   | succ j=>rw [hj] at A; simp at A
def gC (w:ai) (B:Nat) (v:ah) (l:List bH):Prop := ∃ A,Tg w B 250 l.length v (oE A)∧iI w B A l
theorem gC.md {F:Nat→Prop} {w w':ai} {B:Nat} {v:ah} {l:List bH} (h:gC w B v l) (hm:Md F w w') (C:∀ k,F k→B≤k→∀ cur z,w.heap[k]?≠some (.cells cur 250 z)∧w.heap[k]?≠some (.cells cur 251 z)):gC w' B v l:=by
 obtain ⟨J,E,I⟩:=h;exact ⟨J,Tg.rp E hm fun k A hb cur z=>(C k A hb cur z).1,I.md hm fun k A hb cur z=>(C k A hb cur z).2⟩
theorem gC.wk {w w':ai} {B:Nat} {v:ah} {l:List bH} (h:gC w B v l) (hm:Wk w w'):gC w' B v l:=h.md hm fun _ A=>A.elim
theorem gC.mono {w:ai} {B B':Nat} {v:ah} {l:List bH} (h:gC w B v l) (C:B'≤B):gC w B' v l:=by
 obtain ⟨L,I,J,A⟩:=h;exact ⟨L,I.mono C,J,fun i q e E he=>⟨(A i q e E he).1,(A i q e E he).2.mono C⟩⟩
theorem gC.mE {w:ai} {B:Nat} {v:ah} {l:List bH} (h:gC w B v l):∃ A cc,v= .slice A l.length cc∧l.length≤cc∧gj w.heap A l:=by
 obtain ⟨O,E,ad,aa⟩:=h;obtain ⟨A,cc,rfl⟩:=E.slice;obtain ⟨ab,I⟩:=E.mY;refine ⟨A,cc,U,ab,fun h0=>aT.ok I (pq (f:=fun q:Bool×ah=> [bB q.1,q.2]) (m:=2) (fun _=>rfl) aJ ag),fun i hi=> ?_⟩;have L:O[i]? =some (O[i]'ag):=cr ag;have ac:l[i]? =some (bp l i):=by
  unfold bp;rw [cQ,cr hi]; rfl
 obtain ⟨g1,g2⟩:=aa i _ _ L ac;obtain ⟨V,Z,M⟩:=g2.slice;have g3:=g2;rw [M] at g3;obtain ⟨_,C⟩:=g3.mY;have J:=nf (f:=fun q:Bool×ah=> [bB q.1,q.2]) (m:=2) (fun _=>rfl) I L;refine ⟨V,Z,by rw [J 0 ag,g1]; rfl,by rw [J 1 ag,M]; rfl,fun h0=>aT.ok C (pq (f:=fun e:UInt8×Int=> [bh .u8 e.1.toNat,.int .i64 e.2]) (m:=2) (fun _=>rfl) aJ h0),fun k e he=> ?_,fun k e he=> ?_⟩
 · exact nf (f:=fun e:UInt8×Int=> [bh .u8 e.1.toNat,.int .i64 e.2]) (m:=2) (fun _=>rfl) C he 0 ag
 · exact nf (f:=fun e:UInt8×Int=> [bh .u8 e.1.toNat,.int .i64 e.2]) (m:=2) (fun _=>rfl) C he 1 ag
set_option maxHeartbeats 2000000 in
theorem J8 (rb:Nat) (s:List UInt8) (a:Nat) (w:ai) (bI:aD w.heap rb [str s,aQ a,aQ 0]) (bx:s.length≤1048576) (ha:a≤s.length):
 aZ aq 52 (bd [aA rb]) w (fun v w'=> ∃ A q:Nat,aD w'.heap rb [str s,aQ A,aQ q]∧A≤s.length∧((q=0∧∃ l,dy s a= .ok (l,A)∧gC w' w.heap.size v l)∨(q≠0∧(∃ I,dy s a= .error I)∧∃ bf m c,v= .slice bf m c))∧Md (fun k=>k=rb) w w'):=by
 have dQ:=bI.lt;refine enter func52 U ntmps52 U<|aP 7 U<|p mv<|e<|aI (rA rb s a 0 w bI bx<|ha) U ?_;rintro v9 eg ⟨n,ax,b8,rfl,aX,b3,dP,b7,a8⟩;refine aC 3 U ?_;refine ei (fun ca bC=> ∃ (a2:Nat),(aD bC.heap rb [str s,aQ ax,aQ a2])∧((a2=0∧bJ s a= .ok (n,ax)∧¬(n=0∨1048576 < n))∨(a2≠0∧∃ I,dy s a= .error I))∧(Md (fun k=>k=rb) w bC)∧(Sl ca [(0,aA rb),(3,.int .u64 (n:Nat))])) ?_ ?_;refine aP 2 U<|p mv<|aj 2 U<|p (ay U<|aX.aG 2)<|aj 2 U<|gs (t:=15) U (fun b0=> ?_) fun b0=> ?_;have M:=(b7.resolve_right fun h=>h.1 ag).2.2;refine aj 3 U<|gs (t:=18) U (fun c0=> ?_) fun c0=> ?_;refine aj 3 U<|p (rL U)<|aj 4 U<|p mv<|aj 2 U<|e<|st fW U U (U) (aX) (by simp) fun dx br bj=> ?_
 skip
 exact ar 1 U<|tn<|⟨190,bj,(.inr ⟨aJ,_,xy M<|.inl ag⟩),(a8.trans br),U⟩
 refine aC 6 U<|cd U (fun cW=> ?_) fun cW=> ?_;refine az 1 U<|p mv<|aj 2 U<|e<|st fW U U (U) (aX) (by simp) fun dx br bj=> ?_
 skip
 exact ar 1 U<|tn<|⟨190,bj,(.inr ⟨aJ,_,xy M<|.inr ag⟩),(a8.trans br),U⟩
 exact aB 1 U<|tn<|⟨b8,aX,(.inl ⟨ag,M,ag⟩),a8,U⟩
 have bX:=b7.resolve_left fun h=>b0<|by rw [h.2.1]; rfl
 exact ar 11 U<|tn<|⟨b8,aX,(.inr ⟨bX.1,bX.2.2.elim (fun h=>absurd U h) fun ⟨ao,h⟩=>⟨ao,GB h⟩⟩),a8,U⟩
 rintro ca bC ⟨a2,cB,cn,cQ,dh⟩;refine bE dh<|bD 5 U ?_;refine ei (fun cb aF=> ∃ (l:List bH) (C:List (Bool×ah)) (ak:ah) (A q:Nat),((q=0∧cY (gS s n) n ax= .ok (l,A)∧bJ s a= .ok (n,ax)∧¬(n=0∨1048576 < n))∨(q≠0∧∃ I,dy s a= .error I))∧(A≤s.length)∧(b9 aF w.heap.size 250 2 ak C.length<|oE C)∧(iI aF w.heap.size C l)∧(aD aF.heap rb [str s,aQ A,aQ q])∧(Md (fun k=>k=rb) w aF)∧(Sl cb [(0,aA rb),(4,ak)])) ?_ ?_;refine bV 1 U<|lp (fun aV cf am=> ∃ (k:Nat) (l:List bH) (C:List (Bool×ah)) (ak:ah) (A q:Nat),(C.length=k)∧(k≤1048577)∧((q=0∧k≤n∧bJ s a= .ok (n,ax)∧¬(n=0∨1048576 < n)∧cY (gS s n) k ax= .ok (l,A))∨(q≠0∧∃ I,dy s a= .error I))∧(A≤s.length)∧(b9 am w.heap.size 250 2 ak C.length<|oE C)∧(iI am w.heap.size C l)∧(aD am.heap rb [str s,aQ A,aQ q])∧(Md (fun k=>k=rb) w am)∧(Sl cf [(0,aA rb),(3,.int .u64 (n:Nat)),(4,ak)])∧(n - k=aV)) _ ⟨0,[],[],.slice none 0 0,ax,a2,U,ag,(cn.imp (fun h=>⟨h.1,ag,h.2.1,h.2.2,U⟩) id),b3,(eL _ _ _ _),(iI.nil _ _),cB,cQ,U,U⟩ ?_;rintro aV cf am ⟨k,l,C,ak,A,q,c4,dL,bn,aw,ad,bK,aa,au,dj,rfl⟩;refine bE dj ?_;obtain ⟨aK,co,rfl⟩:=de ad;refine aP 5 U<|p (jL sr Bt U<|jw ag)<|aj 3 U<|gs (t:=31) U (fun c1=> ?_) fun c1=> ?_;refine aj 3 U<|bA U (ay U<|aa.aG 2)<|aC 4 U<|cd U (fun bY=> ?_) fun bY=> ?_;obtain ⟨db,dM,M,av,Z⟩:=bn.resolve_right fun h=>h.1 ag;obtain rfl :q=0:=db;refine az 6 U<|e<|aI (rA rb s A 0 am aa bx<|aw) U ?_;rintro d5 d9 ⟨v0,p1,dt,rfl,bL,c8,dO,b6,bS⟩;refine aC 3 U ?_;refine ei (fun cg bc=> ∃ (a3:Nat),(aD bc.heap rb [str s,aQ p1,aQ a3])∧((a3=0∧bJ s A= .ok (v0,p1)∧¬256 < v0 / 2)∨(a3≠0∧∃ I,dy s a= .error I))∧(Md (fun k=>k=rb) am bc)∧(Sl cg [(0,aA rb),(3,.int .u64 (n:Nat)),(4,.slice aK C.length co),(5,.int .u64 (v0:Nat))])) ?_ ?_;refine aP 3 U<|p (qu U U ag<|jw ag)<|aC 3 U<|cd U (fun cX=> ?_) fun cX=> ?_;have a9:=(b6.resolve_right fun h=>by have :=h.2.1; omega).2.2;refine az 4 U<|e<|st fW U U (U) (bL) (by simp) fun ek cP cA=> ?_
 skip
 exact ar 1 U<|tn<|⟨190,cA,(.inr ⟨aJ,_,rX M av<|jV Z (Hg a9 ag) ag⟩),(bS.trans cP),U⟩
 exact aB 1 U<|tn<|⟨dt,bL,(b6.elim (fun h=> .inl ⟨h.2.1,h.2.2,ag⟩) fun h=> .inr ⟨h.1,h.2.2.elim (fun h=>absurd U h) fun ⟨ao,aL⟩=>⟨ao,rX M av<|jV Z (Hf aL) ag⟩⟩),bS,U⟩
 rintro cg bc ⟨a3,cF,cp,bt,dk⟩;refine bE dk<|bD 1 U<|az 2 U<|p (rm U U ag)<|aj 1 U<|p (dZ (ps:= [(0,bB (decide ((v0:Int) % 2=1)))]) (L:= [bB (decide ((v0:Int) % 2=1)),.slice none 0 0]) Qe U<|U)<|e<|fK Ic fun V ea dB bU cr=> ?_;have dR:=bU.size;refine e<|fG C5 U U U U cr (by simp) fun al bT cI=> ?_;have cJ:aD al.heap V [bB (decide ((v0:Int) % 2=1)),.slice none 0 0]:=⟨_,cI⟩
 have a5:Wk bc al:=bU.md.trans' bT fun k E h=>by omega
 have cD:=Wk.B a5 cF;have d0:=au.size;have dW:=bt.size;have d3:=a5.size;have d4:=bT.size;have cM:Md (fun k=>k=rb) w al:=(au.trans bt).trans<|a5.mono fun _ _ h=>h.elim;refine aC 2 U ?_;refine ei (fun ch an=> ∃ (es:List (UInt8×Int)) (O:Option aW) (ce:Nat) (p2 J:Nat),((J=0∧cY (fL s n) (v0 / 2) p1= .ok (es,p2)∧bJ s A= .ok (v0,p1)∧¬256 < v0 / 2)∨(J≠0∧∃ I,dy s a= .error I))∧(p2≤s.length)∧(b9 an al.heap.size 251 2 (.slice O es.length ce) es.length<|kL es)∧(aD an.heap rb [str s,aQ p2,aQ J])∧(aD an.heap V [.bool (decide ((v0:Int) % 2=1)),.slice O es.length ce])∧(Md (fun k=>k=rb∨k=V) al an)∧(Sl ch [(0,aA rb),(3,.int .u64 (n:Nat)),(4,.slice aK C.length co),(6,aA V)])) ?_ ?_;refine bV 1 U<|lp (fun aV ci aS=> ∃ (j:Nat) (es:List (UInt8×Int)) (bz:ah) (p2 J:Nat),(es.length=j)∧(j≤257)∧((J=0∧j≤v0 / 2∧cY (fL s n) j p1= .ok (es,p2)∧bJ s A= .ok (v0,p1)∧¬256 < v0 / 2)∨(J≠0∧∃ I,dy s a= .error I))∧(p2≤s.length)∧(b9 aS al.heap.size 251 2 bz es.length<|kL es)∧(aD aS.heap rb [str s,aQ p2,aQ J])∧(aD aS.heap V [.bool (decide ((v0:Int) % 2=1)),bz])∧(Md (fun k=>k=rb∨k=V) al aS)∧(Sl ci [(0,aA rb),(3,.int .u64 (n:Nat)),(4,.slice aK C.length co),(5,.int .u64 (v0:Nat)),(6,aA V)])∧(v0 / 2 - j=aV)) _ ⟨0,[],.slice none 0 0,p1,a3,U,ag,(cp.imp (fun h=>⟨h.1,ag,U,h.2.1,h.2.2⟩) id),c8,(eL _ _ _ _),cD,cJ,(Md.refl _ _),U,U⟩ ?_;rintro aV ci aS ⟨j,es,bz,p2,J,c3,dK,bp,a1,ae,aM,aN,ab,dm,rfl⟩;refine bE dm ?_;obtain ⟨O,ce,rfl⟩:=de ae;have d2:=ab.size;refine aP 4 U<|p (ay U<|aN.aG 1)<|aj 1 U<|p (jL sr Bt U<|jw ag)<|aj 1 U<|p (qu U U ag<|jw ag)<|aj 2 U<|gs (t:=57) U (fun c2=> ?_) fun c2=> ?_;refine aj 3 U<|bA U (ay U<|aM.aG 2)<|aC 4 U<|cd U (fun bZ=> ?_) fun bZ=> ?_;obtain ⟨dd,dJ,b1,a9,b4⟩:=bp.resolve_right fun h=>h.1 ag;obtain rfl :J=0:=dd;refine az 7 U<|e<|aI (LV rb s p2 n aS aM bx a1 ag) U ?_;rintro d6 dv ⟨c,t,p3,du,rfl,ct,c9,dq,a6⟩;have dS:=a6.size;have bM:=a6.B aN fun h=>by omega
 refine e<|fK Ie fun bG eb dC bW cu=> ?_;have dT:=bW.size;refine e<|fG vK U U U U cu (by simp) fun bF cS cG=> ?_;have cz:aD bF.heap bG [bh .u8 c.toNat,.int .i64 t]:=⟨_,cG⟩
 have aO:Wk dv bF:=bW.md.trans' cS fun k E h=>by omega
 have dY:=aO.size;refine aj 4 U<|p (ay U<|(Wk.B aO bM).aG 1)<|p (eZ vA U (U) (show ∀ j,j < 2→aH bF.heap bG (0 +j)=([bh .u8 c.toNat,.int .i64 t]:List ah)[j]? from fun j _=>cz.aG j))<|e<|l6 G1 U U U fun dz ec dE a0 cv=> ?_;have dU:=a0.size;have c7:=aR (aR (cC ae a6 fun k E h=>by have :=da ae E; omega) aO) a0.md;refine e<|ap G1 (c7) U ag U (aT.dD cv) (U) (U) ag ag fun d7 ed b2 a7 dr cZ=> ?_;have dr:=a7.size;have ba:∀ k,(ff O es.length ce).ownBlock=some k→al.heap.size≤k:=fun k h=>(da ae h).1;have cK:=a7.B (Wk.B a0.md<|Wk.B aO bM) fun h=>by have :=ba V h; omega
 have cw:=a7.B (Wk.B a0.md<|Wk.B aO ct) fun h=>by have :=ba rb h; omega
 obtain ⟨ck,tt,rfl⟩:=de b2;refine aj 1 U<|e<|st Lj U U (U) (cK) (by simp) fun eh bq cq=> ?_;have cH:=bq.B cw fun h=>by omega
 exact ar 2 U<|tn<|⟨_,ag,j+1,es++ [(c,t)],.slice ck (es.length+1) tt,p3,du,(by rw [bo,c3]; rfl),ag,(dq.imp (fun h=>⟨h.1,ag,og b1 h.2,a9,b4⟩) fun h=>⟨h.1,h.2.elim fun ao aL=>⟨ao,rX M av<|jV Z (Hh a9 b4<|jV b1 aL ag) ag⟩⟩),c9,(by rw [bo,Dx]; exact cC b2 bq fun k E h=>by rcases cZ k E with aL | aL; exact absurd (ba k aL) ag; omega),cH,cq,(((((ab.trans<|a6.mono fun _ _ h=> .inl h).trans<|aO.mono fun _ _ h=>h.elim).trans<|a0.md.mono fun _ _ h=>h.elim).trans' a7 fun k E h=>by have :=ba k h; omega).trans<|bq.mono fun _ _ h=> .inr h),U,U⟩
 exact aB 2 U<|cj<|bg 1 U<|tn<|⟨es,O,ce,p2,J,(bp.elim (fun h=>absurd h.1 fun ao=>bZ ag) .inr),a1,ae,aM,aN,ab,U⟩
 exact ar 11 U<|cj<|bg 1 U<|tn<|⟨es,O,ce,p2,J,(bp.elim (fun h=> .inl ⟨h.1,(by have cm:=h.2.1; have bi:j=v0 / 2:=ag; subst bi; exact h.2.2.1),h.2.2.2.1,h.2.2.2.2⟩) .inr),a1,ae,aM,aN,ab,U⟩
 rintro ch an ⟨es,O,ce,p2,J,cO,a1,ae,aM,aN,ab,dl⟩;refine bE dl ?_;have d1:=ab.size;have bN:Md (fun k=>k=rb∨k=V) am an:=((bt.mono fun k _ h=> .inl h).trans<|a5.mono fun _ _ h=>h.elim).trans ab;have cN:Md (fun k=>k=rb) w an:=cM.trans' ab fun k E h=>by rcases h with h | h; exact h; omega
 have bv:=cC ad bN fun k E h=>by have :=da ad E; omega
 have dp:=bK.md bN (fun k E hb=>by
  rcases E with E | E;omega;exact fun cur z=>FB ag cur _ z)
 refine az 2 U<|p (eZ Cm U (U) (show ∀ j,j < 2→aH an.heap V (0 +j)=([.bool (decide ((v0:Int) % 2=1)),.slice O es.length ce]:List ah)[j]? from fun j _=>aN.aG j))<|e<|l6 G3 U U U fun dA ee dF ac cx=> ?_;have dV:=ac.size;refine e<|ap G3 (aR bv ac.md) U ag U (aT.dD cx) (U) (U) ag ag fun v76 dw c6 aY ds dH=> ?_;have ds:=aY.size;have b5:∀ k,(ff aK C.length co).ownBlock=some k→w.heap.size≤k:=fun k h=>(da ad h).1;have cy:=aY.B (Wk.B ac.md aM) fun h=>by have :=b5 rb h; omega
 have cU:Tg dw w.heap.size 251 es.length (.slice O es.length ce) (kL es):=Tg.rp (((Tg.oz ae).mono ag).wk ac.md) aY fun k E _=>ib (aR bv ac.md) aJ k E;have dn:=(dp.wk ac.md).md aY fun k E _=>ib (aR bv ac.md) aJ k E;have cL:=(cN.trans<|ac.md.mono fun _ _ h=>h.elim).trans' aY fun k E h=>by have :=b5 k h; omega
 exact p aU<|ar 2 U<|tn<|⟨_,ag,k+1,l++ [(decide (v0 % 2=1),es)],C++ [(decide ((v0:Int) % 2=1),.slice O es.length ce)],v76,p2,J,(by rw [bo,c4]; rfl),ag,(cO.imp (fun h=>⟨h.1,ag,M,av,og Z<|Hi h.2.2.1 h.2.2.2 h.2.1⟩) id),a1,(by rw [bo,GQ]; exact c6),(by rw [show decide ((v0:Int) % 2=1)=decide (v0 % 2=1) from decide_eq_decide.2 ag] at*; exact iI.snoc (e:=(decide (v0 % 2=1),es)) dn cU),cy,cL,U,U⟩
 exact aB 2 U<|cj<|bg 1 U<|tn<|⟨l,C,.slice aK C.length co,A,q,(bn.elim (fun h=>absurd h.1 fun ao=>bY ag) .inr),aw,ad,bK,aa,au,U⟩
 exact ar 11 U<|cj<|bg 1 U<|tn<|⟨l,C,.slice aK C.length co,A,q,(bn.elim (fun h=> .inl ⟨h.1,(by have cm:=h.2.1; have bi:k=n:=ag; subst bi; exact h.2.2.2.2),h.2.2.1,h.2.2.2.1⟩) .inr),aw,ad,bK,aa,au,U⟩
 rintro cb aF ⟨l,C,ak,A,q,bO,aw,ad,bK,aa,au,di⟩;refine bE di<|az 6 U<|p (ay U<|aa.aG 2)<|aC 3 U<|cd U (fun bu=> ?_) fun bu=> ?_;obtain ⟨dc,cV⟩:=bO.resolve_left fun h=>bu<|by rw [h.1]; rfl
 exact aB 7 U<|aE U<|⟨A,q,aa,aw,.inr ⟨dc,cV,none,0,0,U⟩,au⟩
 obtain ⟨_,Z,M,av⟩:=bO.resolve_right fun h=>bu ag;refine bD 3 U ?_;have bP:gC aF w.heap.size ak l:=⟨C,by have h:=Tg.oz ad; rw [bK.1] at h; exact h,bK⟩
 obtain ⟨bf,cc,rfl,dG,cT⟩:=bP.mE;have dN:=kj Z;have c5:∀ x∈l,x.2.length≤256:=fun x bb=>(pF (R:=fun A=>A≤s.length) (S:=fun x:bH=>x.2.length≤256) (fun A x q' hr bb=>⟨(uu bb).2.1,(uu bb).2.2.1⟩) b3 Z).2 x bb;refine az 3 U<|e<|aI (PT l bf cc aF cT ag fun i hi=>cR (c5 _<|gO (d:=dI) hi) aJ) U ?_;rintro d8 ef ⟨rfl,bm⟩;refine aj 2 U<|e<|st fW U U (U) (Wk.B bm aa) (by simp) fun ej bR a4=> ?_
 skip
 refine ar 9 U<|aE U ?_;have bQ:=(au.trans<|bm.mono fun _ _ h=>h.elim).trans bR;cases hsh:shaped l with
 | true =>
   rw [xB hsh] at a4;exact ⟨A,0,a4,aw,.inl ⟨U,l,GD M av Z hsh,(bP.wk bm).md bR fun k E hb=>absurd hb ag⟩,bQ⟩
 | false =>
   rw [mC hsh] at a4;exact ⟨A,190,a4,aw,.inr ⟨aJ,⟨_,GC M av Z hsh⟩,_,_,_,U⟩,bQ⟩
theorem PJ {r:List UInt8×List UInt8} (E:(!gK r.1)=false) (I:(!gK r.2)=false) (J:¬(r.1.length:Int)=0) (L:¬(r.1.length:Int) > 32) (M:¬(r.2.length:Int) > 32):ju r=true :=by
 have A:gK r.1=true :=by simpa using E
 have C:gK r.2=true :=by simpa using I
 exact GM (fun h=>J<|by rw [h]; rfl) (by rw [A,decide_eq_true ag]; rfl)<|by rw [C,decide_eq_true ag]; rfl
theorem Pj (ls:Nat) (t:List UInt8) (rs:List (List UInt8×List UInt8)) (ra:Option aW) (rc:Nat) (v3 v4 v5 v6:ah) (w:ai) (av:aT w.heap ra (rs.flatMap iS)) (bh:ls≤64) (bm:t.length≤1048576) (bi:rs.length≤1048576) (a5:∀ r∈rs,r.1.length≤1048576∧r.2.length≤1048576):
 aZ aq 51 (bd [.agg #[aQ ls,str t,.slice ra rs.length rc,v3,v4,v5,v6]]) w (fun v w'=>v= .bool (fO ls t rs)∧Wk w w'):=by
 refine enter func51 U ntmps51 U<|aP 2 U<|e<|l9 U fun I w1 bb O C=>aj 7 U<|p (ay U<|C.aG 0)<|aj 2 U<|gs (t:=12) U (fun a3=> ?_) fun a3=> ?_;exact aj 4 U<|p mv<|ar 15 U<|aE U<|⟨(congrArg bB<|rZ (t:=t) (rs:=rs)<|.inl (show ls < 1 by omega)).symm,O.md⟩
 refine aj 1 U<|bA U (ay U<|C.aG 0)<|aj 3 U<|gs (t:=17) U (fun a4=> ?_) fun a4=> ?_;exact ar 15 U<|aE U<|⟨(congrArg bB<|rZ (t:=t) (rs:=rs)<|.inr<|.inl (show 64 < ls by omega)).symm,O.md⟩
 refine aj 1 U<|bA U (ay U<|C.aG 2)<|aC 5 U<|cd U (fun a1=> ?_) fun a1=> ?_;exact aB 7 U<|aE U<|⟨(congrArg bB<|rZ<|.inr<|.inr (show 256 < rs.length by omega)).symm,O.md⟩
 refine az 5 U<|p (ay U<|C.aG 1)<|e<|aI (O0 t w1 ag) U ?_;rintro bn bq ⟨rfl,aw⟩;have M:=O.md.trans aw;have J:=Wk.B aw C;refine p mv<|aC 6 U ?_;refine ei (fun aN an=> ∃ (a9:Unit),(t= []∨letE t=(t,0))∧(Wk w an)∧(aD an.heap I [aQ ls,str t,.slice ra rs.length rc,v3,v4,v5,v6])∧(Sl aN [(1,aA I)])) ?_ ?_;refine aP 3 U<|p (ay U<|J.aG 1)<|aj 3 U<|gs (t:=33) U (fun E=> ?_) fun E=> ?_;refine aj 3 U<|gs (t:=36) U (fun ae=> ?_) fun ae=> ?_;exact aj 5 U<|p (rL U)<|ar 9 U<|tr<|aE U<|⟨(congrArg bB<|xA (fun h=>by rw [h] at E; exact absurd E aJ) fun h=>by rw [h] at ae; exact ae U).symm,M⟩
 refine aj 2 U<|bA U (ay U<|J.aG 1)<|aC 5 U<|cd U (fun ad=> ?_) fun ad=> ?_;exact aB 6 U<|tr<|aE U<|⟨(congrArg bB<|xA (fun h=>by rw [h] at E; exact absurd E aJ) fun h=>ad<|by rw [h]).symm,M⟩
 exact aB 1 U<|tn<|⟨(),(.inr<|Prod.ext (mJ.1 ad)<|by show (letE t).2=0; omega),M,J,U⟩
 exact ar 13 U<|tn<|⟨(),(.inl<|uX.1 ag),M,J,U⟩
 rintro aN an ⟨a9,a8,aX,aV,a6⟩;refine bE a6<|bD 7 U<|lp (fun ao aO V=> ∃ (i:Nat),(i≤rs.length)∧(∀ j,j < i→ju (rs.getD j jM)=true)∧(Wk w V)∧(aD V.heap I [aQ ls,str t,.slice ra rs.length rc,v3,v4,v5,v6])∧(Sl aO [(1,aA I),(5,aQ i)])∧(rs.length - i=ao)) _ ⟨0,ag,(fun j aL=>by omega),aX,aV,U,U⟩ ?_;rintro ao aO V ⟨i,hi,aM,L,aa,a7,rfl⟩;refine bE a7<|aP 5 U<|p (ay U<|aa.aG 2)<|aC 4 U<|cd U (fun a2=> ?_) fun a2=> ?_;refine az 7 U<|p (ay U<|aa.aG 2)<|aj 1 U<|p (bZ L8 U U ag<|aT.ok (av.wk L)<|Gv ag)<|p (eZ JT U (U)<|Gu (av.wk L) ag)<|e<|fK RK fun aR br bc a0 aS=>e<|fG Le U U U U aS (by simp) fun am aY aU=> ?_;have au:aD am.heap aR [str (rs.getD i jM).1,str (rs.getD i jM).2]:=⟨_,aU⟩
 have ax:Wk V am:=Md.trans' a0.md aY fun k bf h=>by omega
 have bj:=a5 _<|gO (d:=jM) (show i < rs.length by omega);refine aj 5 U<|p (ay U<|au.aG 0)<|e<|aI (xj _ am ag) U ?_;rintro bo ba ⟨rfl,ab⟩;have ap:=Wk.B ab au;refine aj 6 U<|p (ay U<|ap.aG 1)<|e<|aI (xj _ ba ag) U ?_;rintro bp bt ⟨rfl,ac⟩;have Z:=Wk.B ac ap;have A:=((L.trans ax).trans ab).trans ac;refine aj 8 U<|gb (t:=63) U (fun ak=> ?_) fun ak=> ?_;exact aj 3 U<|p mv<|aj 5 U<|p mv<|aj 5 U<|p mv<|ar 16 U<|tr<|bg 2 U<|aE U<|⟨(congrArg bB<|oC (show i < rs.length by omega)<|A4<|by rw [nT ak]; rfl).symm,A⟩
 refine aj 4 U<|gb (t:=67) U (fun al=> ?_) fun al=> ?_;exact aj 5 U<|p mv<|aj 5 U<|p mv<|ar 16 U<|tr<|bg 2 U<|aE U<|⟨(congrArg bB<|oC (show i < rs.length by omega)<|A5<|by rw [nT al]; rfl).symm,A⟩
 refine aj 1 U<|bA U (ay U<|Z.aG 0)<|aj 4 U<|gs (t:=73) U (fun aH=> ?_) fun aH=> ?_;exact aj 5 U<|p mv<|ar 16 U<|tr<|bg 2 U<|aE U<|⟨(congrArg bB<|oC (show i < rs.length by omega)<|GL<|uX.1 ag).symm,A⟩
 refine aj 1 U<|bA U (ay U<|Z.aG 0)<|aj 4 U<|gs (t:=79) U (fun aK=> ?_) fun aK=> ?_;exact ar 16 U<|tr<|bg 2 U<|aE U<|⟨(congrArg bB<|oC (show i < rs.length by omega)<|A4<|by rw [decide_eq_false ag,Io]).symm,A⟩
 refine aj 1 U<|bA U (ay U<|Z.aG 1)<|aC 5 U<|cd U (fun aF=> ?_) fun aF=> ?_;exact aB 8 U<|tr<|bg 2 U<|aE U<|⟨(congrArg bB<|oC (show i < rs.length by omega)<|A5<|by rw [decide_eq_false ag,Io]).symm,A⟩
 exact az 5 U<|p (bW<|i+1)<|ar 2 U<|tn<|⟨_,ag,i+1,ag,(fun j aL=>by rcases dM j i with h | h <;> first | exact aM j h | (rw [show j=i by omega]; exact PJ ak al aH aK aF)),A,(Wk.B ((ax.trans ab).trans ac) aa),U,U⟩
 exact aB 2 U<|cj<|bg 8 U<|aE U<|⟨(congrArg bB<|GJ ag a8 fun j aL=>aM j ag).symm,L⟩
end Go.Hb
end
section
namespace Go.Hb.qK
open Go.Hb.kH Go.Hb.lU
def jc (w:ai) (B:Nat) (cs:List ah) (b:eU):Prop := ∃ ra rc vs,cs= [.int .i64 (b.least:Nat),str b.tr,.slice ra b.kV.length rc]++vs∧vs.length=4∧aT w.heap ra (b.kV.flatMap iS)∧∀ i,i < 4→gC w B (vs.getD i .nilFunc) (b.jt.getD i [])
theorem jc.wk {w w':ai} {B:Nat} {cs:List ah} {b:eU} (h:jc w B cs b) (hm:Wk w w'):jc w' B cs b:=by
 obtain ⟨ra,rc,vs,A,C,E,I⟩:=h;exact ⟨ra,rc,vs,A,C,E.wk hm,fun i hi=>(I i hi).wk hm⟩
theorem jc.one {w:ai} {B:Nat} {cs:List ah} {b:eU} (h:jc w B cs b):cs.length=7∧cs.all lh=true :=by
 obtain ⟨ra,rc,vs,rfl,L,_,M⟩:=h;obtain ⟨C,E,I,J,rfl⟩:∃ C E I J,vs= [C,E,I,J]:=by
  match vs,L with
  | [C,E,I,J],_=>exact ⟨_,_,_,_,rfl⟩
 have A:∀ i,i < 4→([C,E,I,J].getD i .nilFunc).oneCell'=true :=fun i hi=>by
  obtain ⟨_,_,e,_⟩:=(M i hi).mE;rw [e]; rfl
 have g0:=A 0 ag;have g1:=A 1 ag;have g2:=A 2 ag;have g3:=A 3 ag;simp only [oP,BX] at g0 g1 g2 g3;exact ⟨U,by simp only [List.cons_append,oQ,uR,BW,g0,g1,g2,g3]; rfl⟩
def vv (s:List UInt8) (w:ai) (v:ah) (w':ai):Prop :=((∃ b cs,cD s= .ok b∧v= .tuple #[.agg cs.toArray,.int .i64 0]∧jc w' w.heap.size cs b)∨((∃ A,cD s= .error A)∧∃ q:Nat,q≠0∧v= .tuple #[.agg [bh .i64 0,str [],.slice none 0 0,.slice none 0 0,.slice none 0 0,.slice none 0 0,.slice none 0 0].toArray,.int .i64 (q:Nat)]))∧Wk w w'
theorem Lz {s:List UInt8} {n p1 M p2 O m p3 U:Nat} {t:List UInt8} (hm:s.take 4=gu) (A:((0:Nat)=0∧M=0∧bJ s 4= .ok (n,p1))∨(M≠0∧n=0∧((0:Nat)≠0∨∃ e,bJ s 4= .error e)))
 (C:(M=0∧O=0∧dJ s p1= .ok (t,p2))∨(O≠0∧(M≠0∨∃ e,dJ s p1= .error e))) (E:(O=0∧U=0∧bJ s p2= .ok (m,p3))∨(U≠0∧m=0∧(O≠0∨∃ e,bJ s p2= .error e))):(U=0∧bJ s 4= .ok (n,p1)∧dJ s p1= .ok (t,p2)∧bJ s p2= .ok (m,p3))∨(U≠0∧∃ J,cD s= .error J):=by
 rcases A with ⟨_,V,A⟩ | ⟨V,_,A⟩
 · rcases C with ⟨_,L,C⟩ | ⟨L,C⟩
   · rcases E with ⟨_,I,E⟩ | ⟨I,_,E⟩
     · exact .inl ⟨I,A,C,E⟩
     · exact .inr ⟨I,E.elim (fun h=>absurd L h) fun ⟨e,h⟩=>⟨e,Di hm A C h⟩⟩
   · have hb:∃ J,cD s= .error J:=C.elim (fun h=>absurd V h) fun ⟨e,h⟩=>⟨e,Dh hm A h⟩
     rcases E with ⟨h,_⟩ | ⟨I,_⟩
     · exact absurd h L
     · exact .inr ⟨I,hb⟩
 · have hb:∃ J,cD s= .error J:=A.elim (fun h=>absurd rfl h) fun ⟨e,h⟩=>⟨e,Dg hm h⟩
   rcases C with ⟨h,_⟩ | ⟨L,_⟩
   · exact absurd h V
   · rcases E with ⟨h,_⟩ | ⟨I,_⟩
     · exact absurd h L
     · exact .inr ⟨I,hb⟩
def uh (s:List UInt8) (k a:Nat):List (List bH):=match cY (dy s) k a with
 | .ok x=>x.1
 | .error _=> []
theorem PD {s:List UInt8} {w w1 w':ai} {B A C Z ad f9 J rb M V:Nat} {t:List UInt8} {rs:List (List UInt8×List UInt8)} {ls:List (List bH)} {vs:List ah} {L:Option aW} {cc:Nat} (O:cY (dy s) A C= .ok (ls,Z)) (aa:cD s=iu s J t rs C) (bK:fO J t rs=true)
 (aq:(f9=0∧∃ l,dy s Z= .ok (l,ad)∧gC w1 w.heap.size (.slice L V cc) l)∨(f9≠0∧(∃ E,dy s Z= .error E)∧∃ a2 ar c2,ff L V cc= .slice a2 ar c2)) (ak:∀ i,i < A→gC w B (vs.getD i .nilFunc) (ls.getD i [])) (I:A < 4) (au:vs.length=4)
 (al:Md (fun k=>k=rb∨k=M) w w') (ac:∀ k,k=rb∨k=M→k < B) (aj:B≤w.heap.size) (am:Md (fun k=>k=M) w1 w'):(f9=0∧(cD s=iu s J t rs C∧fO J t rs=true)∧cY (dy s) (A+1) C= .ok (uh s (A+1) C,ad)∧∀ i,i < A+1→gC w' B ((vs.set A<|.slice L V cc).getD i .nilFunc) ((uh s (A+1) C).getD i []))∨(f9≠0∧∃ E,cD s= .error E):=by
 rcases aq with ⟨h0,l,an,ae⟩ | ⟨h0,⟨E,he⟩,_⟩
 · have ab:=og O an;have ao:=kj O;have ap:uh s (A+1) C=ls++ [l]:=by unfold uh; rw [ab]
   rw [ab,ap];refine .inl ⟨h0,⟨aa,bK⟩,U,fun i hi=> ?_⟩;rcases dM i A with h | h
   · rw [Ez ag,Ev ag];exact (ak i h).md al fun k I hb=>absurd hb<|by have :=ac k I; omega
   · obtain rfl :i=A:=ag;rw [Ey ag,Eu ao.symm];exact (ae.mono aj).md am fun k I hb=>absurd hb<|by have :=ac k (.inr I); omega
 · exact .inr ⟨h0,E,by rw [aa,Dd bK (jV O he I)]⟩
set_option maxHeartbeats 4000000 in
theorem OP (s:List UInt8) (w:ai) (a6:s.length≤1048576):
 aZ aq 23 (bd [str s]) w (vv s w):=by
 refine enter func23 U ntmps23 U<|aP 2 U<|e<|al BJ fun V w2 J bO bZ=>aj 6 U<|p mv<|aj 3 U<|gs (t:=15) U (fun ed=> ?_) fun ed=> ?_;have au:¬s.take 4=gu:=fun h=>by have :=congrArg jC h; rw [bY] at this; simp only [gu,cg,fu] at this; omega
 refine aj 9 U<|p (dZ (ps:= []) (L:= [.int .i64 0,.string ⟨⟨[]⟩⟩,.slice none 0 0,.slice none 0 0,.slice none 0 0,.slice none 0 0,.slice none 0 0]) xI U<|U)<|e<|sf qQ U U U U (bZ) (by simp) fun eP b2 b0=> ?_
 skip
 exact ar 5 U<|pj U (jY (cs:= [bh .i64 0,str [],.slice none 0 0,.slice none 0 0,.slice none 0 0,.slice none 0 0,.slice none 0 0]) U o8 U fun j ck=>b0.aG j) oB<|⟨.inr ⟨⟨_,zj au⟩,200,aJ,U⟩,bO.md.trans' b2 fun k A h=>by omega⟩
 refine bA U mv<|bA U (se u9 U U ag)<|aC 4 U<|cd U (fun cf=> ?_) fun cf=> ?_;have au:¬s.take 4=gu:=cf;refine az 2 U<|p (dZ (ps:= []) (L:= [.int .i64 0,.string ⟨⟨[]⟩⟩,.slice none 0 0,.slice none 0 0,.slice none 0 0,.slice none 0 0,.slice none 0 0]) xI U<|U)<|e<|sf qQ U U U U (bZ) (by simp) fun eP b2 b0=> ?_
 skip
 exact ar 5 U<|pj U (jY (cs:= [bh .i64 0,str [],.slice none 0 0,.slice none 0 0,.slice none 0 0,.slice none 0 0,.slice none 0 0]) U o8 U fun j ck=>b0.aG j) oB<|⟨.inr ⟨⟨_,zj au⟩,200,aJ,U⟩,bO.md.trans' b2 fun k A h=>by omega⟩
 have au:s.take 4=gu:=mJ.1 cf;refine az 4 U<|p mv<|p (dZ (ps:= [(0,str s),(1,.int .i64 ((4:Nat):Int))]) (L:= [str s,.int .i64 ((4:Nat):Int),.int .i64 0]) P8 U<|U)<|e<|l9 U fun cZ fs eS b3 db=> ?_;obtain ⟨rb,rfl⟩:∃ rb,rb=cZ:=⟨_,rfl⟩
 have e4:=bO.size;have e6:=b3.size;refine aj 5 U<|p (dZ (ps:= []) (L:= [.int .i64 0,.string ⟨⟨[]⟩⟩,.slice none 0 0,.slice none 0 0,.slice none 0 0,.slice none 0 0,.slice none 0 0]) xI U<|U)<|e<|al BJ fun O fx I bP dl=> ?_;have fc:=bP.size;refine e<|sf qQ U U U U (dl) (by simp) fun bx bL dk=> ?_;have fb:=bL.size;have I:aD bx.heap O [bh .i64 0,str [],.slice none 0 0,.slice none 0 0,.slice none 0 0,.slice none 0 0,.slice none 0 0]:=dk;have J:aD bx.heap V [bh .i64 0,str [],.slice none 0 0,.slice none 0 0,.slice none 0 0,.slice none 0 0,.slice none 0 0]:=bL.B (Wk.B bP.md<|Wk.B b3.md bZ) fun h=>by omega
 have C:aD bx.heap rb [str s,aQ 4,aQ 0]:=bL.B (Wk.B bP.md db) fun h=>by omega
 have du:Wk w bx:=((bO.md.trans b3.md).trans bP.md).trans' bL fun k A h=>by omega
 refine aj 5 U<|e<|aI (rA rb s 4 0 bx C a6 ag) U ?_;rintro fj Z ⟨n,p1,cq,rfl,cu,en,eV,eB,bF⟩;have e8:=bF.size;have cy:=bF.B J fun h=>by omega
 have cz:=bF.B I fun h=>by omega
 have cx:=(du).trans' bF fun k A h=>by omega
 refine aC 3 U ?_;refine ei (fun cQ aU=> ∃ (eI:Unit),(aD aU.heap V [bh .i64 0,str [],.slice none 0 0,.slice none 0 0,.slice none 0 0,.slice none 0 0,.slice none 0 0])∧(aD aU.heap O<|[bh .i64 ((if n≤64 then n else 0:Nat):Int),str [],.slice none 0 0,.slice none 0 0,.slice none 0 0,.slice none 0 0,.slice none 0 0])∧(aD aU.heap rb [str s,aQ p1,aQ cq])∧(Wk w aU)∧(Z.heap.size≤aU.heap.size)∧(Sl cQ [(0,str s),(2,aA V),(4,aA rb),(5,aA O)])) ?_ ?_;refine bV 6 U<|cd U (fun d8=> ?_) fun d8=> ?_;refine az 2 U<|p (jL u3 oI U<|ku ag)<|aj 1 U<|e<|st fW U U (U) (cz) (by simp) fun fF bM dq=> ?_
 skip
 exact ar 1 U<|tn<|⟨(),(bM.B cy fun h=>by omega),(by rw [if_pos ag]; exact dq),(bM.B cu fun h=>by omega),(cx.trans' bM fun k A h=>by omega),bM.size,U⟩
 exact aB 1 U<|tn<|⟨(),cy,(by rw [if_neg ag]; exact cz),cu,cx,(bf _),U⟩
 rintro cQ aU ⟨eI,J,I,C,M,ab,et⟩;refine bE et<|az 3 U<|e<|aI (zK rb s p1 cq aU C a6<|en) U ?_;rintro fk ft ⟨t,p2,c1,rfl,dj,eo,eW,eC,bG⟩;have e9:=bG.size;have dM:=bG.B J fun h=>by omega
 have dU:=bG.B I fun h=>by omega
 have dB:=(M).trans' bG fun k A h=>by omega
 refine aj 1 U<|e<|st Da U U (U) (dU) (by simp) fun cP bN dr=> ?_;have fi:=bN.size;have dY:aD cP.heap O [bh .i64 ((if n≤64 then n else 0:Nat):Int),str t,.slice none 0 0,.slice none 0 0,.slice none 0 0,.slice none 0 0,.slice none 0 0]:=dr;have dQ:=bN.B dM fun h=>by omega
 have d6:=bN.B dj fun h=>by omega
 have dH:=dB.trans' bN fun k A h=>by omega
 refine aj 5 U<|e<|aI (rA rb s p2 c1 cP d6 a6<|eo) U ?_;rintro fl fw ⟨m,p3,cr,rfl,bB,ep,eX,eD,bI⟩;have fa:=bI.size;have b6:=bI.B dQ fun h=>by omega
 have b8:=bI.B dY fun h=>by omega
 have b5:=(dH).trans' bI fun k A h=>by omega
 have ct:=Lz au eB eC eD;refine aC 3 U ?_;refine ei (fun cR a7=> ∃ (a8:Nat),(aD a7.heap V [bh .i64 0,str [],.slice none 0 0,.slice none 0 0,.slice none 0 0,.slice none 0 0,.slice none 0 0])∧(aD a7.heap O<|[bh .i64 ((if n≤64 then n else 0:Nat):Int),str t,.slice none 0 0,.slice none 0 0,.slice none 0 0,.slice none 0 0,.slice none 0 0])∧(aD a7.heap rb [str s,aQ p3,aQ a8])∧(Wk w a7)∧(Z.heap.size≤a7.heap.size)∧((a8=0∧(bJ s 4= .ok (n,p1)∧dJ s p1= .ok (t,p2)∧bJ s p2= .ok (m,p3))∧¬256 < m)∨(a8≠0∧∃ ac,cD s= .error ac))∧(Sl cR [(0,str s),(2,aA V),(4,aA rb),(5,aA O),(7,.int .u64 (m:Nat))])) ?_ ?_;refine aP 5 U<|p (ay U<|bB.aG 2)<|aj 2 U<|gs (t:=42) U (fun cJ=> ?_) fun cJ=> ?_;have aa:=(ct.resolve_right fun h=>h.1 ag).2;refine aC 5 U<|cd U (fun d9=> ?_) fun d9=> ?_;refine az 4 U<|e<|st fW U U (U) (bB) (by simp) fun fC bC c6=> ?_;have e1:=bC.size;exact ar 1 U<|tn<|⟨201,(bC.B b6 fun h=>by omega),(bC.B b8 fun h=>by omega),c6,(b5.trans' bC fun k A h=>by omega),ag,(.inr ⟨aJ,_,Dj au aa.1 aa.2.1 aa.2.2 ag⟩),U⟩
 exact aB 1 U<|tn<|⟨cr,b6,b8,bB,b5,ag,(.inl ⟨ag,aa,ag⟩),U⟩
 exact ar 7 U<|tn<|⟨cr,b6,b8,bB,b5,ag,(ct.elim (fun h=>absurd h.1 fun am=>cJ ag) .inr),U⟩
 rintro cR a7 ⟨a8,J,I,C,M,ab,c2,eu⟩;refine bE eu ?_;refine ei (fun cS aw=> ∃ (rs:List (List UInt8×List UInt8)) (ra:Option aW) (rc ak f6:Nat),(aD aw.heap V [bh .i64 0,str [],.slice none 0 0,.slice none 0 0,.slice none 0 0,.slice none 0 0,.slice none 0 0])∧(aD aw.heap O<|[bh .i64 ((if n≤64 then n else 0:Nat):Int),str t,.slice ra rs.length rc,.slice none 0 0,.slice none 0 0,.slice none 0 0,.slice none 0 0])∧(aD aw.heap rb [str s,aQ ak,aQ f6])∧(Wk w aw)∧(Z.heap.size≤aw.heap.size)∧(ak≤s.length)∧((f6=0∧(bJ s 4= .ok (n,p1)∧dJ s p1= .ok (t,p2)∧bJ s p2= .ok (m,p3))∧¬256 < m∧cY (iR s) m p3= .ok (rs,ak))∨(f6≠0∧∃ ac,cD s= .error ac))∧(rs.length≤257)∧(∀ r∈rs,r.1.length≤255∧r.2.length≤255)∧(b9 aw Z.heap.size 154 2 (.slice ra rs.length rc) rs.length<|rs.flatMap iS)∧(Sl cS [(0,str s),(2,aA V),(4,aA rb),(5,aA O)])) ?_ ?_;refine bV 1 U<|lp (fun a9 cT aN=> ∃ (rs:List (List UInt8×List UInt8)) (co:ah) (aS f:Nat),(aD aN.heap V [bh .i64 0,str [],.slice none 0 0,.slice none 0 0,.slice none 0 0,.slice none 0 0,.slice none 0 0])∧(aD aN.heap O<|[bh .i64 ((if n≤64 then n else 0:Nat):Int),str t,co,.slice none 0 0,.slice none 0 0,.slice none 0 0,.slice none 0 0])∧(aD aN.heap rb [str s,aQ aS,aQ f])∧(Wk w aN)∧(Z.heap.size≤aN.heap.size)∧(aS≤s.length)∧((f=0∧rs.length≤m∧(bJ s 4= .ok (n,p1)∧dJ s p1= .ok (t,p2)∧bJ s p2= .ok (m,p3))∧¬256 < m∧cY (iR s) rs.length p3= .ok (rs,aS))∨(f≠0∧∃ ac,cD s= .error ac))∧(rs.length≤257)∧(∀ r∈rs,r.1.length≤255∧r.2.length≤255)∧(b9 aN Z.heap.size 154 2 co rs.length<|rs.flatMap iS)∧(Sl cT [(0,str s),(2,aA V),(4,aA rb),(5,aA O),(7,.int .u64 (m:Nat))])∧(m - rs.length=a9)) _ ⟨[],.slice none 0 0,p3,a8,J,I,C,M,ab,ep,(c2.imp (fun h=>⟨h.1,Nat.zero_le _,h.2.1,h.2.2,U⟩) id),aJ,(fun r hr=>by cases hr),(eL _ _ _ _),U,U⟩ ?_;rintro a9 cT aN ⟨rs,co,aS,f,J,I,C,M,ab,bt,a1,cn,bu,E,ew,rfl⟩;refine bE ew ?_;obtain ⟨ra,rc,rfl⟩:=de E;refine aP 4 U<|p (ay U<|I.aG 2)<|aj 1 U<|p (jL sr Bt U<|jw ag)<|aj 3 U<|gs (t:=55) U (fun ee=> ?_) fun ee=> ?_;refine aj 3 U<|bA U (ay U<|C.aG 2)<|aC 4 U<|cd U (fun cF=> ?_) fun cF=> ?_;obtain ⟨ci,eY,aa,br,bq⟩:=a1.resolve_right fun h=>h.1 ag;obtain rfl :f=0:=ci;refine az 6 U<|e<|aI (zK rb s aS 0 aN C a6<|bt) U ?_;rintro fm eM ⟨cp,p5,f5,rfl,dm,eq,eg,cN,bj⟩;have fd:=bj.size;have dN:=bj.B J fun h=>by omega
 have dV:=bj.B I fun h=>by omega
 have dC:=(M).trans' bj fun k A h=>by omega
 refine aj 6 U<|e<|aI (zK rb s p5 f5 eM dm a6<|eq) U ?_;rintro fo fy ⟨x2,eG,f6,rfl,dn,er,eh,eE,bm⟩;have fe:=bm.size;have dO:=bm.B dN fun h=>by omega
 have cA:=bm.B dV fun h=>by omega
 have dF:=(dC).trans' bm fun k A h=>by omega
 have el:=cC (cC E bj fun k A h=>by have :=(da E A).1; omega) bm fun k A h=>by have :=(da E A).1; omega
 refine aj 5 U<|p (ay U<|cA.aG 2)<|aj 2 U<|p (dZ (ps:= [(0,str cp),(1,str x2)]) (L:= [str cp,str x2]) P9 U<|U)<|e<|l6 G2 U U U fun eQ fz eT a5 dp=> ?_;have fg:=a5.size;refine e<|ap G2 (aR el a5.md) U ag U (aT.dD dp) (U) (U) ag ag fun v72 fA cL bn eF eb=> ?_;have eF:=bn.size;have bv:∀ k,(ff ra rs.length rc).ownBlock=some k→Z.heap.size≤k:=fun k h=>(da E h).1;have dP:=bn.B (Wk.B a5.md dO) fun h=>by have :=bv _ h; omega
 have dW:=bn.B (Wk.B a5.md cA) fun h=>by have :=bv _ h; omega
 have d5:=bn.B (Wk.B a5.md dn) fun h=>by have :=bv _ h; omega
 have dG:=(dF.trans a5.md).trans' bn fun k A h=>by have :=bv _ h; omega
 obtain ⟨a72,jJ,rfl⟩:=de cL;refine aj 1 U<|e<|st Lm U U (U) (dW) (by simp) fun eN bb c7=> ?_;have e2:=bb.size;have dS:aD eN.heap O [bh .i64 ((if n≤64 then n else 0:Nat):Int),str t,.slice a72 (rs.length+1) jJ,.slice none 0 0,.slice none 0 0,.slice none 0 0,.slice none 0 0]:=c7;have dK:=bb.B dP fun h=>by omega
 have d3:=bb.B d5 fun h=>by omega
 have dw:=dG.trans' bb fun k A h=>by omega
 have ej:=cC cL bb fun k A h=>by rcases eb k A with a0 | a0; exact absurd (bv k a0) ag; omega
 exact ar 2 U<|tn<|⟨_,by rw [bo,dE]; omega,rs++ [(cp,x2)],.slice a72 (rs.length+1) jJ,eG,f6,dK,dS,d3,dw,ag,er,(by rcases eE with ⟨bz,a0,bU⟩ | ⟨a0,bU⟩; exact .inl ⟨a0,by rw [bo,dE]; omega,aa,br,by rw [bo,dE]; exact og bq<|Gt (cN.resolve_right fun h=>h.1 bz).2.2 bU⟩; refine .inr ⟨a0,?_⟩; rcases cN with ⟨_,bz,bX⟩ | ⟨bz,bX⟩; exact bU.elim (fun h=>absurd bz h) (fun ⟨am,h⟩=>⟨am,vN au aa.1 aa.2.1 aa.2.2 br<|jV bq (Gs bX h) ag⟩); exact bX.elim (fun h=>absurd U h) fun ⟨am,h⟩=>⟨am,vN au aa.1 aa.2.1 aa.2.2 br<|jV bq (Gr h) ag⟩),(by rw [bo,dE]; omega),(fun r hr=>by rcases dz.1 hr with h | h; exact bu r h; rw [fv.1 h]; exact ⟨eg,eh⟩),(by rw [bo,I8]; exact ej),U,U⟩
 exact aB 2 U<|cj<|bg 1 U<|tn<|⟨rs,ra,rc,aS,f,J,I,C,M,ab,bt,(a1.elim (fun h=>absurd h.1 fun am=>cF ag) .inr),cn,bu,E,U⟩
 exact ar 11 U<|cj<|bg 1 U<|tn<|⟨rs,ra,rc,aS,f,J,I,C,M,ab,bt,(a1.elim (fun h=> .inl ⟨h.1,h.2.2.1,h.2.2.2.1,(by have eR:=h.2.1; have am:rs.length=m:=ag; rw [← am]; exact h.2.2.2.2)⟩) .inr),cn,bu,E,U⟩
 rintro cS aw ⟨rs,ra,rc,ak,f6,J,I,C,M,ab,bt,a1,cn,bu,E,ev⟩;refine bE ev<|az 2 U<|p (eZ o8 U (U) (show ∀ j,j < 7→aH aw.heap O (0 +j)=([bh .i64 ((if n≤64 then n else 0:Nat):Int),str t,.slice ra rs.length rc,.slice none 0 0,.slice none 0 0,.slice none 0 0,.slice none 0 0]:List ah)[j]? from fun j _=>I.aG j))<|e<|aI (Pj (if n≤64 then n else 0) t rs ra rc (.slice none 0 0) (.slice none 0 0) (.slice none 0 0) (.slice none 0 0) aw (dx E).2 (by split <;> omega) ag ag fun r hr=>by have :=bu r hr; omega) U ?_;rintro v75 fB ⟨rfl,aL⟩;have fh:=aL.size;have b7:=Wk.B aL J;have ca:=Wk.B aL I;have bQ:=Wk.B aL C;have cm:=aR E aL;refine aC 3 U ?_;refine ei (fun cU aV=> ∃ (f7:Nat),(aD aV.heap V [bh .i64 0,str [],.slice none 0 0,.slice none 0 0,.slice none 0 0,.slice none 0 0,.slice none 0 0])∧(aD aV.heap O<|[bh .i64 ((if n≤64 then n else 0:Nat):Int),str t,.slice ra rs.length rc,.slice none 0 0,.slice none 0 0,.slice none 0 0,.slice none 0 0])∧(aD aV.heap rb [str s,aQ ak,aQ f7])∧(Wk w aV)∧(Z.heap.size≤aV.heap.size)∧((f7=0∧cD s=iu s (if n≤64 then n else 0) t rs ak∧fO (if n≤64 then n else 0) t rs=true)∨(f7≠0∧∃ ac,cD s= .error ac))∧(b9 aV Z.heap.size 154 2 (.slice ra rs.length rc) rs.length<|rs.flatMap iS)∧(Sl cU [(0,str s),(2,aA V),(4,aA rb),(5,aA O)])) ?_ ?_;refine aP 5 U<|p (ay U<|bQ.aG 2)<|aj 2 U<|gs (t:=81) U (fun cK=> ?_) fun cK=> ?_;obtain ⟨_,aa,br,bq⟩:=a1.resolve_right fun h=>h.1 ag;have cH:=Dk au aa.1 aa.2.1 aa.2.2 br bq;refine aC 5 U<|cb U (fun ch=> ?_) fun ch=> ?_;have bK:fO (if n≤64 then n else 0) t rs=false :=by simpa using ch
 refine az 4 U<|e<|st fW U U (U) (bQ) (by simp) fun fD bc c8=> ?_;have e3:=bc.size;exact ar 1 U<|tn<|⟨201,(bc.B b7 fun h=>by omega),(bc.B ca fun h=>by omega),c8,((M.trans aL).trans' bc fun k A h=>by omega),ag,(.inr ⟨aJ,_,by rw [cH,Dc bK]⟩),(cC cm bc fun k A h=>by have :=(da E A).1; omega),U⟩
 have bK:fO (if n≤64 then n else 0) t rs=true :=by simpa using ch
 exact aB 1 U<|tn<|⟨f6,b7,ca,bQ,(M.trans aL),ag,(.inl ⟨ag,cH,bK⟩),cm,U⟩
 exact ar 7 U<|tn<|⟨f6,b7,ca,bQ,(M.trans aL),ag,(a1.elim (fun h=>absurd h.1 fun am=>cK ag) .inr),cm,U⟩
 rintro cU aV ⟨f7,J,I,C,M,ab,c3,E,ex⟩;refine bE ex ?_;refine ei (fun cV aM=> ∃ (ls:List (List bH)) (vs:List ah) (ad f8:Nat),(aD aM.heap V [bh .i64 0,str [],.slice none 0 0,.slice none 0 0,.slice none 0 0,.slice none 0 0,.slice none 0 0])∧(aD aM.heap O<|[bh .i64 ((if n≤64 then n else 0:Nat):Int),str t,.slice ra rs.length rc]++vs)∧(aD aM.heap rb [str s,aQ ad,aQ f8])∧(Wk w aM)∧(Z.heap.size≤aM.heap.size)∧(ad≤s.length)∧(vs.length=4)∧((f8=0∧(cD s=iu s (if n≤64 then n else 0) t rs ak∧fO (if n≤64 then n else 0) t rs=true)∧cY (dy s) 4 ak= .ok (ls,ad)∧∀ i,i < 4→gC aM Z.heap.size (vs.getD i .nilFunc) (ls.getD i []))∨(f8≠0∧∃ ac,cD s= .error ac))∧(b9 aM Z.heap.size 154 2 (.slice ra rs.length rc) rs.length<|rs.flatMap iS)∧(Sl cV [(0,str s),(2,aA V),(4,aA rb),(5,aA O)])) ?_ ?_;refine bV 6 U<|lp (fun a9 cW ao=> ∃ (ae:Nat) (ls:List (List bH)) (vs:List ah) (ad f8:Nat),(aD ao.heap V [bh .i64 0,str [],.slice none 0 0,.slice none 0 0,.slice none 0 0,.slice none 0 0,.slice none 0 0])∧(aD ao.heap O<|[bh .i64 ((if n≤64 then n else 0:Nat):Int),str t,.slice ra rs.length rc]++vs)∧(aD ao.heap rb [str s,aQ ad,aQ f8])∧(Wk w ao)∧(Z.heap.size≤ao.heap.size)∧(ae≤4)∧(ad≤s.length)∧(vs.length=4)∧((f8=0∧(cD s=iu s (if n≤64 then n else 0) t rs ak∧fO (if n≤64 then n else 0) t rs=true)∧cY (dy s) ae ak= .ok (ls,ad)∧∀ i,i < ae→gC ao Z.heap.size (vs.getD i .nilFunc) (ls.getD i []))∨(f8≠0∧∃ ac,cD s= .error ac))∧(b9 ao Z.heap.size 154 2 (.slice ra rs.length rc) rs.length<|rs.flatMap iS)∧(Sl cW [(0,str s),(2,aA V),(4,aA rb),(5,aA O),(11,aQ ae)])∧(4 - ae=a9)) _ ⟨0,[],[.slice none 0 0,.slice none 0 0,.slice none 0 0,.slice none 0 0],ak,f7,J,I,C,M,ab,ag,bt,U,(c3.imp (fun h=>⟨h.1,h.2,U,fun i hi=>by omega⟩) id),E,U,U⟩ ?_;rintro a9 cW ao ⟨ae,ls,vs,ad,f8,J,I,C,M,ab,eU,bS,av,a2,E,ez,rfl⟩;refine bE ez<|aP 6 U<|gs (t:=90) U (fun ef=> ?_) fun ef=> ?_;refine aj 3 U<|bA U (ay U<|C.aG 2)<|aC 4 U<|cd U (fun cG=> ?_) fun cG=> ?_;obtain ⟨ci,aO,bR,a3⟩:=a2.resolve_right fun h=>h.1 ag;obtain rfl :f8=0:=ci;refine az 7 U<|e<|aI (J8 rb s ad ao C a6 bS) U ?_;rintro eJ fq ⟨eH,f9,c5,em,cM,ba⟩;have e0:=ba.size;obtain ⟨aX,bT,cc,rfl⟩:∃ aX bT cc,eJ= .slice aX bT cc:=by
  rcases cM with ⟨_,l,_,c4⟩ | ⟨_,_,h⟩;obtain ⟨aX,cc,h,_⟩:=c4.mE; exact ⟨aX,_,cc,h⟩;exact h
 have dI:=ba.B J fun h=>by omega
 have dR:=ba.B I fun h=>by omega
 have dv:=(M).trans' ba fun k A h=>by omega
 refine aj 1 U<|p (pC CA U U ag)<|e<|st Ln U U (U) (dR) (by simp only [bo,cg,fu,av]; omega) fun cO a4 c9=> ?_;have e5:=a4.size;have dT:aD cO.heap O ([bh .i64 ((if n≤64 then n else 0:Nat):Int),str t,.slice ra rs.length rc]++vs.set ae (.slice aX bT cc)):=by rw [← GH]; exact c9
 have dL:=a4.B dI fun h=>by omega
 have d4:=a4.B c5 fun h=>by omega
 have dA:=dv.trans' a4 fun k A h=>by omega
 have cw:Md (fun k=>k=rb∨k=O) ao cO:=(ba.mono fun _ _ h=> .inl h).trans<|a4.mono fun _ _ h=> .inr h;have ek:=cC E cw fun k A h=>by have :=(da E A).1; omega
 exact aj 5 U<|p (bW<|ae+1)<|ar 2 U<|tn<|⟨_,ag,ae+1,uh s (ae+1) ak,vs.set ae (.slice aX bT cc),eH,f9,dL,dT,d4,dA,ag,ag,em,(by rw [qz]; exact av),(PD bR aO.1 aO.2 cM a3 ag av cw (fun k A=>by omega) ab a4),ek,U,U⟩
 exact aB 2 U<|cj<|bg 1 U<|tn<|⟨ls,vs,ad,f8,J,I,C,M,ab,bS,av,(a2.elim (fun h=>absurd h.1 fun am=>cG ag) .inr),E,U⟩
 exact ar 11 U<|cj<|bg 1 U<|tn<|⟨ls,vs,ad,f8,J,I,C,M,ab,bS,av,((by have c0:ae=4:=ag; subst c0; exact a2)),E,U⟩
 rintro cV aM ⟨ls,vs,ad,f8,J,I,C,M,ab,bS,av,a2,E,ey⟩;refine bE ey ?_;refine ei (fun cX wD=> ∃ (f9:Nat),(aD wD.heap V [bh .i64 0,str [],.slice none 0 0,.slice none 0 0,.slice none 0 0,.slice none 0 0,.slice none 0 0])∧(aD wD.heap O<|[bh .i64 ((if n≤64 then n else 0:Nat):Int),str t,.slice ra rs.length rc]++vs)∧(aD wD.heap rb [str s,aQ ad,aQ f9])∧(Wk w wD)∧(Z.heap.size≤wD.heap.size)∧((f9=0∧cD s= .ok ⟨if n≤64 then n else 0,t,rs,ls⟩∧∀ i,i < 4→gC wD Z.heap.size (vs.getD i .nilFunc) (ls.getD i []))∨(f9≠0∧∃ ac,cD s= .error ac))∧(b9 wD Z.heap.size 154 2 (.slice ra rs.length rc) rs.length<|rs.flatMap iS)∧(Sl cX [(0,str s),(2,aA V),(4,aA rb),(5,aA O)])) ?_ ?_;refine aP 5 U<|p (ay U<|C.aG 2)<|aj 2 U<|gs (t:=109) U (fun cI=> ?_) fun cI=> ?_;obtain ⟨_,aO,bR,a3⟩:=a2.resolve_right fun h=>h.1 ag;refine aj 3 U<|bA U (ay U<|C.aG 1)<|aC 6 U<|cd U (fun d7=> ?_) fun d7=> ?_;refine az 4 U<|e<|st fW U U (U) (C) (by simp) fun fE bi dc=> ?_;have e7:=bi.size;exact ar 1 U<|tn<|⟨202,(bi.B J fun h=>by omega),(bi.B I fun h=>by omega),dc,(M.trans' bi fun k A h=>by omega),ag,(.inr ⟨aJ,_,by rw [aO.1,De aO.2 bR ag]⟩),(cC E bi fun k A h=>by have :=(da E A).1; omega),U⟩
 exact aB 1 U<|tn<|⟨f8,J,I,C,M,ab,(.inl ⟨ag,by rw [aO.1,Df aO.2 bR ag],a3⟩),E,U⟩
 exact ar 12 U<|tn<|⟨f8,J,I,C,M,ab,(a2.elim (fun h=>absurd h.1 fun am=>cI ag) .inr),E,U⟩
 rintro cX wD ⟨f9,J,I,C,M,ab,cv,E,eA⟩;refine bE eA<|az 6 U<|p (ay U<|C.aG 2)<|aC 3 U<|cd U (fun ce=> ?_) fun ce=> ?_;obtain ⟨ec,d0⟩:=cv.resolve_left fun h=>ce<|by rw [h.1]; rfl
 refine bD 1 U ?_;have bp:(fun w'=>Md (fun k=>k=V) wD w') wD.drew:=(Md.refl _ _).drew;refine bK (fun w'=>Md (fun k=>k=V) wD w') U wide bp<|cB 0 U (dZ (ps:= []) (L:= [.int .i64 0,.string ⟨⟨[]⟩⟩,.slice none 0 0,.slice none 0 0,.slice none 0 0,.slice none 0 0,.slice none 0 0]) xI U<|U) bp<|aY [1,2,3] U bp<|gP 4 U (fun w' dt=>ay U<|(Md.B dt C fun h=>by omega).aG 2) bp<|he 5 U an<|sf qQ U U U U (J) (by simp) fun eO ds dd=> ?_
 skip
 have b4:(fun w'=>Md (fun k=>k=V) wD w') eO:=Md.trans bp ds;refine ⟨b4,?_⟩;exact aY [6] U b4<|hn an<|bg 3 U<|pj U (jY (cs:= [bh .i64 0,str [],.slice none 0 0,.slice none 0 0,.slice none 0 0,.slice none 0 0,.slice none 0 0]) U o8 U fun j ck=>dd.aG j) oB<|⟨.inr ⟨d0,f9,ec,U⟩,M.trans' b4 fun k A h=>by omega⟩
 obtain ⟨_,ea,a3⟩:=cv.resolve_right fun h=>ce ag;refine bD 3 U ?_;obtain ⟨ax,aE,aF,aK,rfl⟩:∃ ax aE aF aK,vs= [ax,aE,aF,aK]:=by
  match vs,av with
  | [ax,aE,aF,aK],_=>exact ⟨_,_,_,_,rfl⟩
 have d1:jc wD w.heap.size [bh .i64 ((if n≤64 then n else 0:Nat):Int),str t,.slice ra rs.length rc,ax,aE,aF,aK] ⟨if n≤64 then n else 0,t,rs,ls⟩:=⟨ra,rc,[ax,aE,aF,aK],rfl,av,(dx E).2,fun i hi=>(a3 i hi).mono ag⟩
 have d2:=d1.one;refine az 1 U<|p (eZ o8 U (U) (show ∀ j,j < 7→aH wD.heap O (0 +j)=([bh .i64 ((if n≤64 then n else 0:Nat):Int),str t,.slice ra rs.length rc,ax,aE,aF,aK]:List ah)[j]? from fun j _=>I.aG j))<|e<|sf qQ U U U d2.2 J aJ fun eK b1 dh=> ?_;have di:aD eK.heap V [bh .i64 ((if n≤64 then n else 0:Nat):Int),str t,.slice ra rs.length rc,ax,aE,aF,aK]:=dh;exact ar 4 U<|pj U (jY (cs:= [bh .i64 ((if n≤64 then n else 0:Nat):Int),str t,.slice ra rs.length rc,ax,aE,aF,aK]) U o8 U fun j ck=>di.aG j) oB<|⟨.inl ⟨_,_,ea,U,⟨ra,rc,[ax,aE,aF,aK],U,av,(dx<|cC E b1 fun k A h=>by have :=(da E A).1; omega).2,fun i hi=>((a3 i hi).md b1 fun k A hb=>absurd hb ag).mono ag⟩⟩,M.trans' b1 fun k A h=>by omega⟩
end Go.Hb.qK
end
