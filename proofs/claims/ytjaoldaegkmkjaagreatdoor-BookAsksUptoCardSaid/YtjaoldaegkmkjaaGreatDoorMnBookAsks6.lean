/-
  Walks and plain laws that the law rests on, laid together. No conditions but those that each theorem names.
-/
import Derived.Test.YtjaoldaegkmkjaaGreatDoorMnBookAsks5
set_option linter.unusedVariables false
set_option maxRecDepth 20000
set_option maxHeartbeats 1000000
open Bool renaming noConfusion→cQ
open List renaming toArray→bD
open Nat renaming zero_le→j2
open Go.Proofs.Tryz

section
namespace Go.Hb
open Go.Hb.ei
open Go.Proofs
open Go.Hb.dm Go.Hb.gO Go.Hb.jA Go.Hb.qX Go.Hb.tP Go.Hb.tR
theorem ym (x:List UInt8):ej [] x=false :=by unfold ej eE; simp
theorem EI (l:List aG) (x:List UInt8):(eE l x).2≤x.length:=by
 unfold eE;split
 · exact j2 _
 · generalize 0=n
   induction x generalizing n with
   | nil=>exact j2 _
   | cons c x ih=>
     unfold fi;split
     · rw [List.length_cons]; exact Nat.succ_le_succ<|ih _
     · exact j2 _
theorem HV (a:List aG) (f:List UInt8) (A:Int):(dQ a f A).length≤4096:=by
 unfold dQ;split
 · exact Nat.le_trans (List.length_take_le ..) U
 · exact j2 _
theorem Bv {b:cY} {n:Int} (h:¬(0≤n∧n < 4)):bd b n= []:=by unfold bd; rw [if_neg h]
theorem Bw {s:List UInt8} {b:cY} (h:b.Is s) {n:Int} (h0:0≤n∧n < 4):shaped (bd b n)=true :=by
 unfold bd; rw [if_pos h0];exact (h.fC _<|kY (l:=b.fC) (i:=n.toNat) (d:= [])<|by rw [h.AS]; omega).1
theorem Jv {l:List aG} (h:shaped l=true):0 < l.length:=by
 obtain ⟨_,A⟩:=qo h;exact A.pos
theorem yu {w:World} {E:Nat} {cs:List Value} {b:cY} (J:aA w.heap E cs) (ha:nb w cs b) {n:Int} (h0:0≤n∧n < 4):∃ I V,az w.heap E (0 +3 +n.toNat*1)=some (.slice I (bd b n).length V)∧cU w.heap I (bd b n):=by
 obtain ⟨O,rc,vs,rfl,Z,_,hg⟩:=ha;obtain ⟨k,rfl⟩:∃ k:Nat,n=k:=⟨n.toNat,U⟩
 obtain ⟨aa,cc,M,L⟩:=hg k U;have C:bd b (k:Int)=b.fC.getD k []:=by unfold bd; rw [if_pos h0,Int.toNat_natCast]
 have A:=G0 (x:= .int .i64 (b.least:Nat)) (y:=str b.tr) (z:= .slice O b.jP.length rc) (ws:=vs) (i:=k) U;rw [List.getElem?_toArray] at A;exact ⟨aa,cc,by rw [J.az,C,← M]; exact A,C ▸ L⟩
theorem Fs {l:List aG} (h:shaped l=true):decide ((dh l).2=0)=decide (((bT l 0:Nat):Int)≤1099511627776):=by
 unfold dh; rw [if_pos h];by_cases A:bT l 0≤1099511627776
 · rw [if_pos A,decide_eq_true (show ((bT l 0:Nat):Int)≤1099511627776 by omega)]; rfl
 · rw [if_neg A,decide_eq_false (show ¬((bT l 0:Nat):Int)≤1099511627776 by omega)]; rfl
theorem Ft {l:List aG} (h:shaped l=true) (A:(dh l).2=0):(dh l).1=((bT l 0:Nat):Int):=by
 unfold dh at*; rw [if_pos h] at*;split <;> rename_i C
 · rfl
 · rw [if_neg C] at A; cases A
theorem yS {l:List aG} (h:shaped l=true) (A:¬(dh l).2=0):(dh l).1=0:=by
 unfold dh at*; rw [if_pos h] at*;split <;> rename_i C
 · rw [if_pos C] at A; exact absurd rfl A
 · rfl
set_option maxHeartbeats 2000000 in
theorem EP (s:List UInt8) (sec:Int) (f:List UInt8) (E:Int) (ws:List (List UInt8)) (b:cY) (ag:Option Addr) (am:Nat) (w:World) (b2:cT 520 bY w) (br:gP w.heap ag ws) (bG:s.length≤1048576) (cP:f.length≤1048576) (c3:ws.length≤1048576) (bJ:∀ i,(ws.getD i []).length≤1048576) (a0:bS s= .ok b):
 bp prog 4 (bD [.agg [str s,.int .i64 sec,str f,.int .i64 E,.slice ag ws.length am].toArray]) w (fun v w'=>v= .bool true∧Wk w w'):=by
 have M:=zj a0;refine enter func4 J ntmps4 J<|aW 2 J<|e<|px (L:= [str s,.int .i64 sec,str f,.int .i64 E,.slice ag ws.length am]) J fun aE a4 cK b0 bQ=> ?_;have A:aA a4.heap aE [str s,.int .i64 sec,str f,.int .i64 E,.slice ag ws.length am]:=⟨_,bQ⟩
 have ah:Wk w a4:=b0.md;refine an 6 J<|e<|a9 (CF a4<|b2.mono ah fun _ _ h=>h) J ?_;rintro dd cD ⟨rfl,aG⟩;refine aI 3 J<|cf (J)<|aH 5 J<|p (ay J<|(Wk.B (aG) A).aN 0)<|e<|a9 (Be s cD bG) J fun de cE b1=> ?_;obtain ⟨bb,bc,x2,bf,bg,bh,bi,rfl,cm,bX,aK⟩:=F3 b1 a0;have c4:=aK.size;refine p mv<|an 2 J<|e<|ek sZ fun aF dl cL bq bR=> ?_;have c5:=bq.size;refine e<|eK l8 J J J cm bR aX fun a7 bo bT=> ?_;have c6:=bo.size;have aP:Wk cE a7:=bq.md.trans' bo fun k ci h=>by omega
 have bW:aA a7.heap aF [bb,bc,x2,bf,bg,bh,bi]:=⟨_,bT⟩
 refine an 6 J<|p (ay J<|(Wk.B ((aG.trans aK).trans aP) A).aN 0)<|e<|a9 (vw s a7 bG) J ?_;rintro v30 aS ⟨bx,aL⟩;rw [a0] at bx;obtain ⟨Z,rfl,ao⟩:=bx;refine p mv<|an 2 J<|p aQ<|p aQ<|an 8 J<|gs (t:=35) J (fun h=>absurd h U) fun cU=>bB J mv<|bB J (rB sR J J)<|aI 3 J<|cf (J)<|bM 4 J ?_;have ad:=((aG.trans aK).trans aP).trans aL;have bt:nb aS [bb,bc,x2,bf,bg,bh,bi] b:=ix.EJ<|ix.wk bX<|aP.trans aL;have bj:aA aS.heap aF [bb,bc,x2,bf,bg,bh,bi]:=Wk.B aL bW;refine aH 2 J<|p (ay J<|(Wk.B (((aG.trans aK).trans aP).trans aL) A).aN 4)<|aI 5 J<|lp (fun ab bK ac=> ∃ (k:Nat),(k≤ws.length)∧(Wk aS ac)∧(Sl bK [(1,aR aE),(3,aR aF),(5,aR Z),(46,.slice ag ws.length am),(47,aD (ws.length)),(48,aD k)])∧(ws.length - k=ab)) _ ⟨0,U,(Md.refl _ _),J,J⟩ ?_;rintro ab bK ac ⟨k,ci,C,co,rfl⟩;refine bw co<|cg 6 J<|cd J (fun b6=> ?_) fun b6=> ?_;refine aH 6 J<|p (bF uF J J U<|aU.ok (br.wk<|(ah.trans ad).trans C)<|nQ U)<|p (ay J<|gP.get (i:=k) (br.wk<|(ah.trans ad).trans C) U)<|aI 9 J<|lp (fun ab bL a8=> ∃ (n:Nat),(n≤4)∧(Wk aS a8)∧(Sl bL [(1,aR aE),(3,aR aF),(5,aR Z),(8,str (ws.getD k [])),(46,.slice ag ws.length am),(47,aD (ws.length)),(48,aD k),(52,aD n)])∧(4 - n=ab)) _ ⟨0,U,C,J,J⟩ ?_;rintro ab bL a8 ⟨n,hn,aj,cp,rfl⟩;refine bw cp<|cg 6 J<|cd J (fun b7=> ?_) fun b7=> ?_;refine bM 11 J ?_;obtain ⟨ax,cu,ck,ct⟩:=yu (Wk.B aj bj) (bt.wk aj) (n:=((n:Nat):Int)) U;refine aH 3 J<|p (lh ua J J U)<|p (ay J<|ck)<|an 1 J<|e<|a9 (IN ax cu (bd b ((n:Nat):Int)) (ws.getD k []) a8 ct (iK M _) (Jv<|Bw M U)<|by have :=bJ k; omega) J ?_;rintro dg cF ⟨rfl,aY⟩;have aT:=ao.wk<|aj.trans aY;have c2:=bJ k;have cJ:=EI (bd b ((n:Nat):Int))<|ws.getD k [];refine p mv<|an 11 J<|e<|a9 (nK _ Z b s ((n:Nat):Int) (ws.getD k []) cF aT (iK M _) U) J ?_;rintro di cG ⟨rfl,aM⟩;refine an 1 J<|p (vI u4 J J)<|an 1 J<|gs (t:=70) J (fun h=>absurd h fun h=>h J) fun cV=>an 3 J<|gs (t:=73) J (fun a1=> ?_) fun a1=> ?_;have bH:bd b 0=(bd b ((n:Nat):Int)):=by rw [show ((n:Nat):Int)=0 from by first | exact a1 | exact of_decide_eq_true a1]
 refine an 2 J<|eg J J J<|a9 (uj _ Z b s (ws.getD k []) cG (aT.wk aM) (iK M 0) U) J ?_;rintro dj cH ⟨rfl,bn⟩;rw [bH];refine an 1 J<|bB J (vI u4 J J)<|an 1 J<|gs (t:=79) J (fun h=>absurd h fun h=>h J) fun cW=>an 2 J<|eg J J J<|a9 (J2 _ Z b s (ws.getD k []) cH ((aT.wk aM).wk bn) (iK M 0) U) J ?_;rintro dk dm ⟨rfl,bZ⟩;rw [bH];exact an 4 J<|gs (t:=86) J (fun h=>absurd h fun h=>h J) fun cX=>aI 9 J<|cd J (fun h=>absurd h<|by first | rfl | omega) fun cO=>aH 4 J<|p (cq<|n+1)<|aB 2 J<|tn<|⟨_,U,n+1,U,((((aj.trans aY).trans aM).trans bn).trans bZ),J,J⟩
 exact an 19 J<|p (lC J)<|an 7 J<|p (cq<|n+1)<|aB 2 J<|tn<|⟨_,U,n+1,U,((aj.trans aY).trans aM),J,J⟩
 exact aJ 2 J<|cw<|iC 4 J<|p (cq<|k+1)<|aB 2 J<|tn<|⟨_,U,k+1,U,aj,J,J⟩
 refine aJ 2 J<|cw<|iC 6 J<|p (ay J<|(Wk.B (ad.trans C) A).aN 1)<|e<|a9 (Fz _ Z b s sec ac (ao.wk C)<|iK M sec) J ?_;rintro c7 cy ⟨rfl,O⟩;refine p mv<|an 10 J<|p (ay J<|(Wk.B ((ad.trans C).trans O) A).aN 1)<|an 1 J<|p (ay J<|(Wk.B ((ad.trans C).trans O) A).aN 2)<|an 1 J<|p (ay J<|(Wk.B ((ad.trans C).trans O) A).aN 3)<|e<|a9 (HP _ Z b s sec f E cy ((ao.wk C).wk O) (iK M sec) U) J ?_;rintro c8 a5 ⟨bz,ap⟩;obtain ⟨la,lc,rfl⟩:=dK bz;have I:=((ad.trans C).trans O).trans ap;refine p aQ<|an 6 J<|p (ay J<|(Wk.B (I) A).aN 1)<|an 2 J<|gs (t:=114) J (fun b9=> ?_) fun b9=> ?_;refine aI 8 J ?_;have V:bd b sec= []:=Bv U;have a2:(!decide ((dh<|bd b sec).2=0))=true :=by rw [V]; rfl
 refine aH 4 J<|gs (t:=121) J (fun ca=> ?_) fun h=>absurd (by rw [V]; rfl) h;refine an 4 J<|gb (t:=125) J (fun ce=> ?_) fun h=>absurd ((a2).symm.trans h) cQ;refine bB J mv<|an 4 J<|gs (t:=130) J (fun ch=> ?_) fun h=>absurd (by rw [V,AB]; rfl) h;refine an 2 J<|bB J (ay J<|(Wk.B (I) A).aN 1)<|an 1 J<|bB J (ay J<|(Wk.B (I) A).aN 2)<|eg J J J<|a9 (nK _ Z b s sec f a5 (((ao.wk C).wk O).wk ap) (iK M sec) U) J ?_;rintro cv cz ⟨rfl,aV⟩;rw [V,ym];exact aB 7 J<|aO J<|⟨J,(ah.trans I).trans aV⟩
 refine an 1 J<|bB J (ay J<|(Wk.B (I) A).aN 1)<|aI 4 J<|cd J (fun b3=> ?_) fun b3=> ?_;refine bM 1 J ?_;have V:bd b sec= []:=Bv U;have a2:(!decide ((dh<|bd b sec).2=0))=true :=by rw [V]; rfl
 refine aH 4 J<|gs (t:=121) J (fun ca=> ?_) fun h=>absurd (by rw [V]; rfl) h;refine an 4 J<|gb (t:=125) J (fun ce=> ?_) fun h=>absurd ((a2).symm.trans h) cQ;refine bB J mv<|an 4 J<|gs (t:=130) J (fun ch=> ?_) fun h=>absurd (by rw [V,AB]; rfl) h;refine an 2 J<|bB J (ay J<|(Wk.B (I) A).aN 1)<|an 1 J<|bB J (ay J<|(Wk.B (I) A).aN 2)<|eg J J J<|a9 (nK _ Z b s sec f a5 (((ao.wk C).wk O).wk ap) (iK M sec) U) J ?_;rintro cv cz ⟨rfl,aV⟩;rw [V,ym];exact aB 7 J<|aO J<|⟨J,(ah.trans I).trans aV⟩
 refine bM 3 J ?_;have bv:0≤sec∧sec < 4:=U;have al:=Bw M bv;obtain ⟨od,ak⟩:=qo al;have c1:=ak.pos;obtain ⟨ax,cc,cj,bI⟩:=yu (Wk.B ((C.trans O).trans ap) bj) (bt.wk<|(C.trans O).trans ap) bv;refine aH 2 J<|p (ay J<|(Wk.B (I) A).aN 1)<|an 1 J<|p (lh ua J J U)<|p (ay J<|cj)<|p aQ<|an 4 J<|p mv<|e<|a9 (FD (bd b sec) od ax cc a5 ak bI) J ?_;rintro c9 cB ⟨ar,aw⟩;obtain ⟨cI,cb,rfl⟩:=dK aw;have b8:=Fs al;refine p aQ<|aI 2 J ?_;refine dv (fun bO a6=> ∃ (cx:Unit),(Wk cB a6)∧(Sl bO [(1,aR aE),(14,.slice la (dQ (bd b sec) f E).length lc),(15,.slice ax (bd b sec).length cc)])) ?_ ?_;refine aW 3 J<|p mv<|p (bF dZ J J U<|aU.ok (bV aw).2<|nR ak.pos)<|p (ay J<|lF (bV aw).2 (i:=0) ak.pos)<|an 1 J<|p (vI u4 J J)<|an 1 J<|gs (t:=152) J (fun h=>absurd h fun h=>h b8) fun cR=>an 2 J<|gb (t:=154) J (fun bu=> ?_) fun bu=> ?_;refine an 1 J<|bB J mv<|bB J (bF dZ J J U<|aU.ok (bV aw).2<|nR ak.pos)<|bB J (ay J<|lF (bV aw).2 (i:=0) ak.pos)<|an 4 J<|gs (t:=162) J (fun h=>absurd h<|by first | rfl | exact fun h=>h<|Ft al<|of_decide_eq_true bu) fun cS=>an 3 J<|gb (t:=165) J (fun av=> ?_) fun av=> ?_;exact aI 6 J<|cd J (fun h=>absurd h<|by first | rfl | exact fun h=>h<|yS al<|by simpa using av) fun b4=>aJ 1 J<|tn<|⟨(),(by first | exact Md.refl _ _ | exact (Md.refl _ _).drew),J⟩
 exact an 3 J<|p (lC J)<|aB 4 J<|tn<|⟨(),(by first | exact Md.refl _ _ | exact (Md.refl _ _).drew),J⟩
 refine an 6 J<|p (lC J)<|p mv<|an 3 J<|gb (t:=165) J (fun av=> ?_) fun av=> ?_;exact aI 6 J<|cd J (fun h=>absurd h<|by first | rfl | exact fun h=>h<|yS al<|by simpa using av) fun b4=>aJ 1 J<|tn<|⟨(),(by first | exact Md.refl _ _ | exact (Md.refl _ _).drew),J⟩
 exact an 3 J<|p (lC J)<|aB 4 J<|tn<|⟨(),(by first | exact Md.refl _ _ | exact (Md.refl _ _).drew),J⟩
 rintro bO a6 ⟨cx,au,cr⟩;refine bw cr<|aH 4 J<|p (ay J<|(Wk.B ((I.trans ar).trans au) A).aN 2)<|an 1 J<|p (ay J<|(Wk.B ((I.trans ar).trans au) A).aN 3)<|e<|a9 (IY (bd b sec) ax cc f E a6 al (bI.wk<|ar.trans au) U) J ?_;rintro da cC ⟨bA,bm⟩;obtain ⟨a3,ld,rfl⟩:=dK bA;have cZ:=HV (bd b sec) f E;refine p aQ<|an 7 J<|p mv<|aI 4 J<|cd J (fun h=>absurd h U) fun cM=>bM 11 J<|lp (fun ab bP ac=> ∃ (q:Nat),(q≤(dQ (bd b sec) f E).length)∧(Wk cC ac)∧(Sl bP [(14,.slice la (dQ (bd b sec) f E).length lc),(17,.slice a3 (dQ (bd b sec) f E).length ld),(182,aD ((dQ (bd b sec) f E).length)),(183,aD q)])∧((dQ (bd b sec) f E).length - q=ab)) _ ⟨0,U,(Md.refl _ _),J,J⟩ ?_;rintro ab bP ac ⟨q,c0,ai,cs,rfl⟩;refine bw cs<|cg 6 J<|cd J (fun b5=> ?_) fun b5=> ?_;refine bM 11 J ?_;have bC:=bN bz<|((ar.trans au).trans bm).trans ai;have bE:=bN bA ai;exact fl fun ae=>ba [0,1] J ae<|dr 2 J (bF uF J J U<|aU.ok (bV bC).2<|nQ U) ae<|pP 3 J (fun w' aZ=>ay J<|aZ.az (show az ac.heap (bk la) (fo la+((q:Nat):Int).toNat*1)=_ from gP.get (l:=dQ (bd b sec) f E) (i:=q) (bV bC).2 U)) ae<|ba [4,5] J ae<|dr 6 J (bF uF J J U<|aU.ok (bV bE).2<|nQ U) ae<|pP 7 J (fun w' aZ=>ay J<|aZ.az (show az ac.heap (bk a3) (fo a3+((q:Nat):Int).toNat*1)=_ from gP.get (l:=dQ (bd b sec) f E) (i:=q) (bV bE).2 U)) ae<|ba [8] J ae<|hn aq<|dG 1 J<|cd J (fun h=>absurd h fun h=>h J) fun cN=>aH 4 J<|p (cq<|q+1)<|aB 2 J<|tn<|⟨_,U,q+1,U,(by first | exact ai | exact Md.drew ai | exact Md.drew<|Md.drew ai),J,J⟩
 exact aJ 2 J<|cw<|bl 8 J<|aO J<|⟨J,(((ah.trans I).trans ar).trans au).trans<|bm.trans ai⟩
theorem EO (s:List UInt8) (sec:Int) (f:List UInt8) (M:Int) (ws:List (List UInt8)) (al:Nat) (A:Option Addr) (C:Nat) (w:World) (av:cT 520 bY w) (aD:gP w.heap A ws) (ai:s.length≤1048576) (aG:f.length≤1048576) (aP:ws.length≤1048576) (aR:∀ i,(ws.getD i []).length≤1048576) (ag:bS s= .error al):
 bp prog 4 (bD [.agg [str s,.int .i64 sec,str f,.int .i64 M,.slice A ws.length C].toArray]) w (fun v w'=>v= .bool true∧Wk w w'):=by
 refine enter func4 J ntmps4 J<|aW 2 J<|e<|px (L:= [str s,.int .i64 sec,str f,.int .i64 M,.slice A ws.length C]) J fun aj O aE ar am=> ?_;have Z:aA O.heap aj [str s,.int .i64 sec,str f,.int .i64 M,.slice A ws.length C]:=⟨_,am⟩
 have ab:Wk w O:=ar.md;refine an 6 J<|e<|a9 (CF O<|av.mono ab fun _ _ h=>h) J ?_;rintro aV aw ⟨rfl,E⟩;refine aI 3 J<|cf (J)<|aH 5 J<|p (ay J<|(Wk.B (E) Z).aN 0)<|e<|a9 (Be s aw ai) J fun aY ax au=> ?_;obtain ⟨aM,rfl,I⟩:=F2 au ag;have aS:=I.size;refine p mv<|an 2 J<|e<|ek sZ fun ak aZ aF ae ao=> ?_;have aT:=ae.size;refine e<|eK l8 J J J J ao aX fun V ad ap=> ?_;have aU:=ad.size;have ac:Wk ax V:=ae.md.trans' ad fun k aL h=>by omega
 have az:aA V.heap ak [Value.int .i64 0,str [],.slice none 0 0,.slice none 0 0,.slice none 0 0,.slice none 0 0,.slice none 0 0]:=⟨_,ap⟩
 refine an 6 J<|p (ay J<|(Wk.B ((E.trans I).trans ac) Z).aN 0)<|e<|a9 (vw s V ai) J ?_;rintro v30 a0 ⟨ah,aq⟩;rw [ag] at ah;subst ah;refine p mv<|an 2 J<|p aQ<|p aQ<|an 8 J<|gs (t:=35) J (fun aJ=> ?_) fun h=>absurd U h;refine an 11 J<|gs (t:=41) J (fun aK=> ?_) fun h=>absurd U h;exact bB J mv<|bB J (rB sR J J)<|aB 6 J<|aO J<|⟨J,ab.trans<|((E.trans I).trans ac).trans aq⟩
theorem ER (s:List UInt8) (sec:Int) (f:List UInt8) (E:Int) (ws:List (List UInt8)) (A:Option Addr) (C:Nat) (w:World) (J:cT 520 bY w) (I:gP w.heap A ws) (M:s.length≤1048576) (L:f.length≤1048576) (O:ws.length≤1048576) (U:∀ i,(ws.getD i []).length≤1048576):bp prog 4 (bD [.agg [str s,.int .i64 sec,str f,.int .i64 E,.slice A ws.length C].toArray]) w (fun v w'=>v= .bool true∧Wk w w'):=by
 cases hX:bS s with
 | ok b=>exact EP s sec f E ws b A C w J I M L O U hX
 | error V=>exact EO s sec f E ws V A C w J I M L O U hX
end Go.Hb
end
