/-
  Walks and plain laws that the law rests on, laid together. No conditions but those that each theorem names.
-/
import Derived.Test.YtfgapieofinadaaGreatDoorMnOwnOpens5
set_option linter.unusedVariables false
set_option maxRecDepth 20000
set_option maxHeartbeats 1000000
open Array renaming getElem?_eq_some_iff→cr,size→HS
open Bool renaming noConfusion→dw
open Classical renaming not_not→mD
open Decidable renaming of_not_not→HZ
open Go renaming Addr→ba,Value→ah,World→ai
open Go.Obj.cells renaming injEq→nC
open Go.Proofs.Tryz renaming prog→aq
open Go.Value renaming bool→bB,int→bh,ownBlock→dM,pointer→cZ,slice→eY,tuple→kq
open Go.World renaming ownsRow→b9,ownsRow_nil→eL
open List renaming append_assoc→iC,append_nil→kr,dropLast_concat_getLast→IE,drop_eq_nil_of_le→iT,eq_nil_of_length_eq_zero→ku,getD_eq_getElem?_getD→cW,getElem?_append_left→eZ,getElem?_append_right→eH,getElem?_eq_getElem→cI,getElem?_eq_some_iff→dX,length_append→bp,length_drop→fY,length_eq_zero_iff→uJ,length_pos_iff→uK,length_singleton→dC,length_take→bX,map_append→kA,mem_append→dz,pairwise_singleton→I0,take_of_length_le→iV,toArray→bd
open Nat renaming add_comm→yn,le_refl→bf,lt_or_ge→dN,sub_self→sK
open Option.some renaming injEq→bR
open Go.Proofs.Tryz
open Go.Hb.dO Go.Proofs Go.Hb.ez Go.Hb.jD Go.Hb.j1 Go.Hb.oR Go.Hb.nJ Go.Hb.kC Go.Hb.lP Go.Hb.qC Go.Hb.qD Go.Hb.qE

namespace Go.Hb.u7
theorem Mg (l:Tl) (wd:List UInt8) (a:Option ba) (cap:Nat) (w:ai) (O:bQ w.heap a l) (hu:l.Pairwise (fun x y=>cm x y=true)) (hlen:l.length≤137438953472):
 aY aq 111 (bd [.slice a l.length cap,str wd]) w (fun v w'=>Wk w w'∧∃ q:Nat,v= .int .i64 q∧q≤l.length∧(∀ i,i < q→cm (l.getD i []) wd=true)∧∀ i,q≤i→i < l.length→cm (l.getD i []) wd=false):=by
 refine enter func111 U ntmps111 U<|bV 19 U<|lp (fun J V w1=> ∃ (lo hi:Nat),(lo≤hi)∧(hi≤l.length)∧(∀ i,i < lo→cm (l.getD i []) wd=true)∧(∀ i,hi≤i→i < l.length→cm (l.getD i []) wd=false)∧(Wk w w1)∧(Sl V [(0,.slice a l.length cap),(1,str wd),(5,.int .i64 lo),(6,.int .i64 hi)])∧(hi - lo=J)) _ ⟨0,l.length,ag,ag,(fun i hi=>by omega),(fun i C E=>by omega),(Md.refl _ _),U,U⟩ ?_;rintro J V w1 ⟨lo,hi,C,E,L,M,A,ab,rfl⟩;refine bG ab<|bV 8 U<|cd U (fun aa=> ?_) fun aa=> ?_;refine az 9 U<|p (qu U U ag<|km ag)<|p (bW<|lo+(hi - lo) / 2)<|aj 7 U<|p (bZ dJ U U ag<|aU.ok (O.wk A)<|ef ag)<|p (ay U<|bQ.get (i:=lo+(hi - lo) / 2) (O.wk A) ag)<|aj 1 U<|p (z1 U U)<|aC 2 U<|cb U (fun I=> ?_) fun I=> ?_;exact aB 6 U<|tn<|⟨_,ag,lo+(hi - lo) / 2 +1,hi,ag,ag,(fun i hi=>Ps hu ag ag I),M,A,U,U⟩
 exact aB 5 U<|tn<|⟨_,ag,lo,lo+(hi - lo) / 2,ag,ag,L,(fun i C E=>Pr hu C E I),A,U,U⟩
 exact aB 2 U<|cg<|bg 9 U<|aE U<|⟨A,lo,U,ag,L,fun i ac Z=>M i ag Z⟩
theorem l9 (l:Tl) (wd:List UInt8) (a:Option ba) (cap:Nat) (w:ai) (C:bQ w.heap a l) (hu:l.Pairwise (fun x y=>cm x y=true)) (hlen:l.length≤137438953472):
 aY aq 60 (bd [.slice a l.length cap,str wd]) w (fun v w'=>v= .bool (decide (wd∈l))∧Wk w w'):=by
 refine enter func60 U ntmps60 U<|aP 9 U<|e<|aH (Mg l wd a cap _ C hu hlen) U ?_;rintro M O ⟨A,q,rfl,L,E,I⟩;refine aj 10 U<|gs (t:=13) U (fun J=> ?_) fun J=> ?_;exact aj 2 U<|bo U (bZ dJ U U ag<|aU.ok (C.wk A)<|ef ag)<|bo U (ay U<|bQ.get (i:=q) (C.wk A) ag)<|ar 7 U<|aE U<|⟨bv ((Ek E I hu).trans ⟨fun h=>h.2,fun h=>⟨ag,h⟩⟩).symm,A⟩
 exact aj 7 U<|p aT<|ar 3 U<|aE U<|⟨bF (fun h=>by have :=((Ek E I hu).1 h).1; omega),A⟩
set_option maxHeartbeats 1000000 in
theorem E4 (la lb:Tl) (V Z:Option ba) (ad kb:Nat) (w:ai) (J:bQ w.heap V la) (aa:bQ w.heap Z lb) (aG:la.Pairwise (fun x y=>cm x y=true)) (br:lb.Pairwise (fun x y=>cm x y=true)) (hlen:la.length+lb.length≤4294967296):
 aY aq 109 (bd [.slice V la.length ad,.slice Z lb.length kb]) w (fun v w'=>Wk w w'∧b9 w' w.heap.size 9 1 v (bP<|la++lb).length ((bP<|la++lb).map str)):=by
 refine enter func109 U ntmps109 U<|bV 22 U<|lp (fun aK aQ am=> ∃ (i j:Nat) (m:Tl) (v:ah),(i≤la.length)∧(j≤lb.length)∧(Wk w am)∧(b9 am w.heap.size 9 1 v m.length<|m.map str)∧(MG la lb i j m)∧(Sl aQ [(0,.slice V la.length ad),(1,.slice Z lb.length kb),(5,v),(6,.int .i64 i),(7,.int .i64 j)])∧((la.length - i)+(lb.length - j)=aK)) _ ⟨0,0,[],.slice none 0 0,ag,ag,(Md.refl _ _),(eL _ _ _ _),(MG.zero _ _),U,U⟩ ?_;rintro aK aQ am ⟨i,j,m,v,hi,bE,A,O,ac,bm,rfl⟩;refine bG bm ?_;have bF:=ac.len;refine ei (fun aS ab=>(i < la.length∨j < lb.length)∧(ab=am)∧(Sl aS [(0,.slice V la.length ad),(1,.slice Z lb.length kb),(5,v),(6,.int .i64 i),(7,.int .i64 j)])) ?_ ?_;refine aP 7 U<|gs (t:=12) U (fun a7=> ?_) fun a7=> ?_;exact ar 9 U<|tn<|⟨(.inl ag),U,U⟩
 refine aC 7 U<|cd U (fun a5=> ?_) fun a5=> ?_;exact aB 1 U<|tn<|⟨(.inr ag),U,U⟩
 refine aB 1 U<|cg<|cg<|fV 4 U<|gD (v)<|p (sT (v) U)<|ar 3 U<|aE U ?_;refine ⟨A,?_⟩;rw [← ac.done ag ag]; exact O;rintro aS ab ⟨bB,bt,bn⟩;refine bG bn ?_;subst bt;refine bV 1 U ?_;refine ei (fun aV aJ=>(j < lb.length)∧(i < la.length→cm (la.getD i []) (lb.getD j [])=false)∧(Wk w aJ)∧(b9 aJ w.heap.size 9 1 v m.length<|m.map str)∧(Sl aV [(0,.slice V la.length ad),(1,.slice Z lb.length kb),(5,v),(6,.int .i64 i),(7,.int .i64 j)])) ?_ ?_;refine bV 1 U<|fh fun C=>aW [0,1,2,3,4] U C<|kJ (t:=22) U (fun a8=> ?_) fun a8=> ?_;refine aW [5,6,7,8,9,10,11,12,13,14,15,16,17,18,19,20] U C<|hn an<|fV 4 U<|gD (v)<|aj 2 U<|p (bZ dJ U U ag<|aU.ok (J.wk<|A.drew)<|ef ag)<|p (ay U<|bQ.get (i:=i) (J.wk<|A.drew) ag)<|e<|e9 eu U U fun aZ bv a4 E ao=>e<|ap eu (aR (aR O (Md.refl _ _).drew) E.md) U (by have :=E.size; have :=A.size; have a0:ab.drew.heap.size=ab.heap.size:=U; omega) U (aU.dB ao) (U) (U) ag ag fun ae aH aA av bu a6=> ?_;have au:=Wk.own (Md.trans A.drew E.md) (aR (aR O (Md.refl _ _).drew) E.md) av<|bf _;have aD:b9 aH w.heap.size 9 1 ae (m++ [la.getD i []]).length ((m++ [la.getD i []]).map str):=by rw [bp,kA]; exact aA
 exact p aT<|aj 5 U<|p (bW<|i+1)<|ar 4 U<|cg<|bg 1 U<|tn<|⟨_,ag,i+1,j,m++ [la.getD i []],ae,ag,ag,au,aD,(ac.a aG ag fun h=>by omega),U,U⟩
 refine aW [5,6,7,8,9] U C<|kJ (t:=27) U (fun a9=> ?_) fun a9=> ?_;refine aW [10,11] U C<|ek 12 U (fun _ _=>bZ dJ U U ag<|aU.ok (J.wk A)<|ef ag) C<|ek 13 U (fun w' M=>ay U<|Wk.aO M<|bQ.get (i:=i) (J.wk A) ag) C<|aW [14,15] U C<|ek 16 U (fun _ _=>bZ dJ U U ag<|aU.ok (aa.wk A)<|ef ag) C<|ek 17 U (fun w' M=>ay U<|Wk.aO M<|bQ.get (i:=j) (aa.wk A) ag) C<|ek 18 U (fun _ _=>z1 U U) C<|aW [19,20] U C<|hn an<|ee 1 U<|cb U (fun aw=> ?_) fun aw=> ?_;refine az 2 U<|gD (v)<|aj 2 U<|p (bZ dJ U U ag<|aU.ok (J.wk<|A.drew)<|ef ag)<|p (ay U<|bQ.get (i:=i) (J.wk<|A.drew) ag)<|e<|e9 eu U U fun aZ bv a4 E ao=>e<|ap eu (aR (aR O (Md.refl _ _).drew) E.md) U (by have :=E.size; have :=A.size; have a0:ab.drew.heap.size=ab.heap.size:=U; omega) U (aU.dB ao) (U) (U) ag ag fun ae aH aA av bu a6=> ?_;have au:=Wk.own (Md.trans A.drew E.md) (aR (aR O (Md.refl _ _).drew) E.md) av<|bf _;have aD:b9 aH w.heap.size 9 1 ae (m++ [la.getD i []]).length ((m++ [la.getD i []]).map str):=by rw [bp,kA]; exact aA
 exact p aT<|aj 5 U<|p (bW<|i+1)<|ar 4 U<|cg<|bg 1 U<|tn<|⟨_,ag,i+1,j,m++ [la.getD i []],ae,ag,ag,au,aD,(ac.a aG ag fun _=>aw),U,U⟩
 exact aB 1 U<|tn<|⟨ag,(fun _=>aw),A.drew,(aR O (Md.refl _ _).drew),U⟩
 exact aW [10,11,12,13,14,15,16,17,18,19] U C<|cz 20 U (rF U) C<|hn an<|bg 3 U<|tn<|⟨ag,(fun h=>by omega),A.drew,(aR O (Md.refl _ _).drew),U⟩
 rintro aV aJ ⟨bc,bh,L,aF,bo⟩;refine bG bo ?_;refine ei (fun aX aI=> ∃ (i2:Nat),((i2=i∧(i < la.length→la.getD i []≠lb.getD j []))∨(i2=i+1∧i < la.length∧la.getD i []=lb.getD j []))∧(Wk w aI)∧(b9 aI w.heap.size 9 1 v m.length<|m.map str)∧(Sl aX [(0,.slice V la.length ad),(1,.slice Z lb.length kb),(5,v),(6,.int .i64 i2),(7,.int .i64 j)])) ?_ ?_;refine bV 1 U<|fh fun I=>aW [0,1,2,3,4] U I<|kJ (t:=52) U (fun bb=> ?_) fun bb=> ?_;refine aW [5,6] U I<|ek 7 U (fun _ _=>bZ dJ U U ag<|aU.ok (J.wk L)<|ef ag) I<|ek 8 U (fun w' M=>ay U<|Wk.aO M<|bQ.get (i:=i) (J.wk L) ag) I<|aW [9,10] U I<|ek 11 U (fun _ _=>bZ dJ U U ag<|aU.ok (aa.wk L)<|ef ag) I<|ek 12 U (fun w' M=>ay U<|Wk.aO M<|bQ.get (i:=j) (aa.wk L) ag) I<|aW [13,14] U I<|hn an<|ee 1 U<|cd U (fun ax=> ?_) fun ax=> ?_;exact az 2 U<|p (bW<|i+1)<|ar 2 U<|tn<|⟨i+1,(.inr ⟨U,ag,ax⟩),L.drew,(aR aF (Md.refl _ _).drew),U⟩
 exact aB 1 U<|tn<|⟨i,(.inl ⟨U,fun _=>ax⟩),L.drew,(aR aF (Md.refl _ _).drew),U⟩
 exact aW [5,6,7,8,9,10,11,12,13,14] U I<|hn an<|bg 3 U<|tn<|⟨i,(.inl ⟨U,fun h=>by omega⟩),L.drew,(aR aF (Md.refl _ _).drew),U⟩
 rintro aX aI ⟨i2,aL,ak,aM,bq⟩;refine bG bq ?_;have bD:i2≤la.length∧i≤i2:=by rcases aL with h | h <;> omega
 refine az 2 U<|gD (v)<|aj 2 U<|p (bZ dJ U U ag<|aU.ok (aa.wk ak)<|ef ag)<|p (ay U<|bQ.get (i:=j) (aa.wk ak) ag)<|e<|e9 eu U U fun bz bI bA al a1=>e<|ap eu (aR aM al.md) U (by have :=al.size; have :=ak.size; omega) U (aU.dB a1) (U) (U) ag ag fun aN bx bi a3 bH bC=> ?_;have a2:=Wk.own (Md.trans ak al.md) (aR aM al.md) a3<|bf _;have bj:b9 bx w.heap.size 9 1 aN (m++ [lb.getD j []]).length ((m++ [lb.getD j []]).map str):=by rw [bp,kA]; exact bi
 exact p aT<|aj 4 U<|p (bW<|j+1)<|ar 3 U<|tn<|⟨_,ag,i2,j+1,m++ [lb.getD j []],aN,ag,ag,a2,bj,(ac.b aG br bc bh aL),U,U⟩
theorem NS (n:Nat) (l:Tl) (a:Option ba) (cap:Nat) (w:ai) (an:l.length=n) (A:bQ w.heap a l) (am:n≤cap) (hlen:n≤1073741824):
 aY aq 54 (bd [.slice a n cap]) w (fun v w'=>Wk w w'∧b9 w' w.heap.size 9 1 v (bP l).length ((bP l).map str)):=by
 induction n using Nat.strongRecOn generalizing l a cap w with
 | _ n ih=>
   refine enter func54 U ntmps54 U<|bV 13 U<|cd U (fun ac=> ?_) fun ac=> ?_;refine aB 7 U<|aE U ?_;have h0:l= []:=ku ag;subst h0;exact ⟨Md.refl _ _,eL _ _ _ _⟩;refine bD 10 U<|cd U (fun ab=> ?_) fun ab=> ?_;refine az 3 U<|p (bZ dJ U U ag<|aU.ok (A)<|ef ag)<|p (ay U<|bQ.get (i:=0) A ag)<|e<|JY eu U U fun ak au al aa V=>ar 5 U<|aE U ?_;obtain ⟨x,rfl⟩:∃ x,l= [x]:=List.length_eq_one_iff.1 ag;exact ⟨aa.md,V _ ag⟩;refine az 7 U<|p (Au ((n / 2:Nat):Int) U U ag<|uj ag ag)<|p (rX dJ U U ag)<|e<|aH (ih (n / 2) ag (l.take<|n / 2) a cap _ (by rw [bX]; omega) (A.take _) ag ag) U ?_;rintro v20 av ⟨C,ah⟩;refine p aT<|aj 7 U<|p (Au ((n / 2:Nat):Int) U U ag<|uj ag ag)<|p (tX dJ U U ag)<|e<|aH (ih (n - n / 2) ag (l.drop<|n / 2) (dV a cap (n / 2) 1) (cap - n / 2) _ (by rw [fY]; omega) (bQ.wk (A.drop ag) C) ag ag) U ?_;rintro ao aw ⟨E,J⟩;have I:=aR ah E;have ad:=ot<|l.take<|n / 2;have ae:=ot<|l.drop<|n / 2;rw [bX] at ad;rw [fY] at ae;obtain ⟨M,O,rfl⟩:=de I;obtain ⟨a2,c2,rfl⟩:=de J;refine p aT<|aj 4 U<|p mv<|p mv<|e<|aH (E4 (bP<|l.take<|n / 2) (bP<|l.drop<|n / 2) M a2 O c2 _ (du I).2 (du J).2 (iO _) (iO _) ag) U ?_;rintro ap ax ⟨Z,L⟩;have e:bP (bP (l.take<|n / 2)++bP (l.drop<|n / 2))=bP l:=uh (iO _) (iO _) fun x=>by
    rw [ix,dz,ix,ix,ix,← dz,List.take_append_drop]
   rw [e] at L;exact p aT<|ar 3 U<|aE U<|⟨Md.trans (Md.trans C E) Z,nh L<|by have :=C.size; have :=E.size; omega⟩
end Go.Hb.u7
namespace Go.Hb
theorem Ej {α:Type} {l:List α} {i:Nat} {d:α} (h:i < l.length):l.getD i d∈l:=by
 rw [cW,cI h]; exact List.getElem_mem h
theorem Ou (s:List UInt8) (w:ai) (bS:s.length≤1048576):
 aY aq 118 (bd [str s]) w (fun v w'=>b9 w' w.heap.size 9 1 (v) (cx s).length ((cx s).map str)∧Wk w w'):=by
 refine enter func118 U ntmps118 U<|bV 5 U ?_;refine ei (fun aS aQ=>(Wk w aQ)∧(aS 0=str (jT s))) ?_ ?_;refine aP 3 U<|e<|aH (No s _) U ?_;rintro b0 b6 ⟨rfl,aJ⟩;refine aC 2 U<|cb U (fun V=> ?_) fun V=> ?_;have bR:=Nn V;exact az 2 U<|p (mw u9 U U ag)<|ar 2 U<|tn<|⟨aJ,by show str (s.drop 3)=_; rw [Qs V]⟩
 exact aB 1 U<|tn<|⟨aJ,by show str s=_; rw [Qr V]⟩
 rintro aS aQ ⟨ay,bt⟩;refine fx 0 bt ?_;have bU:=xx s;refine az 7 U<|e<|sV fE fun av aN bH a9 aX=> ?_;have bq:b9 aN w.heap.size 5 1 (.slice (some ⟨av,0,none⟩) 0 0) (([]:List UInt8)).length (U8<|([]:List UInt8)):=aX _<|by have :=ay.size; omega
 have a3:Wk w aN:=Md.trans ay a9.md;refine aC 15 U<|lp (fun ax aV aa=> ∃ (i:Nat) (C:List (List UInt8)) (A:List UInt8) (ob:Bool) (I Z:ah),(i≤(jT s).length)∧(C++dU A ((jT s).drop i)=cx s)∧(ob=decide (A≠[]))∧(A.length≤i)∧(Wk w aa)∧(b9 aa w.heap.size 9 1 (I) (C).length<|(C).map str)∧(b9 aa w.heap.size 5 1 (Z) (A).length<|U8<|A)∧(Sl aV [(0,str (jT s)),(3,I),(4,Z),(5,.bool ob),(6,.int .i64 i)])∧((jT s).length - i=ax)) _ ⟨0,[],[],false,.slice none 0 0,.slice (some ⟨av,0,none⟩) 0 0,ag,U,U,(by simp),a3,(eL _ _ _ _),bq,U,U⟩ ?_;rintro ax aV aa ⟨i,C,A,ob,I,Z,hi,J,aM,bM,M,L,E,bu,rfl⟩;refine bG bu ?_;have bN:C.length≤s.length+1:=by have aW:=congrArg List.length J; have bF:=q7 s; rw [bp] at aW; omega
 have bT:=M.size;refine bV 9 U<|cd U (fun bb=> ?_) fun bb=> ?_;refine az 9 U<|p (dc u9 U U ag)<|aC 3 U<|cd U (fun am=> ?_) fun am=> ?_;refine az 2 U<|gD (Z)<|aj 2 U<|p (dc u9 U U ag)<|e<|e9 fE U U fun bC bz bI O aZ=> ?_;have aA:Wk w bz:=Md.trans M O.md;refine e<|ap fE (aR E O.md) U (by have :=aA.size; omega) U (aU.dB aZ) (U) (U) ag ag fun bv b1 bg aK bW bO=> ?_;have a4:=Wk.own aA (aR E O.md) aK<|bf _;have bh:=om bg;have bo:=cB (aR L O.md) aK fun k bc=>rC L E aI bc;exact p aT<|ar 16 U<|tn<|⟨_,ag,i+1,C,A++ [(jT s).getD i 0],true,I,bv,ag,(by rw [drop_cons 0 ag,zW (NQ am)] at J; exact J),(by simp),(by rw [bp,dC]; omega),a4,bo,bh,U,U⟩
 have ba:=Mu<|HZ am;obtain ⟨ab,ac,rfl⟩:=de E;refine az 4 U<|gD (I)<|aj 1 U<|e<|aH (Dp A ab ac _ (du E).2 ag (du E).1) U ?_;rintro v30 b2 ⟨rfl,ad⟩;refine e<|e9 eu U U fun bD bA bJ ak a0=> ?_;have aD:Wk w bA:=Md.trans (Md.trans M ad) ak.md;refine e<|ap eu (aR (aR L ad) ak.md) U (by have :=aD.size; omega) U (aU.dB a0) (U) (U) ag ag fun bx b3 bi a7 bX bP=> ?_;have aF:=Wk.own aD (aR (aR L ad) ak.md) a7<|bf _;have bj:=ni bi;refine p aT<|aj 4 U<|e<|sV fE fun aw aO bK aL a1=> ?_;have a5:Wk w aO:=Md.trans aF aL.md;have br:b9 aO w.heap.size 5 1 (.slice (some ⟨aw,0,none⟩) 0 0) (([]:List UInt8)).length (U8<|([]:List UInt8)):=a1 _<|by have :=aF.size; omega
 exact ar 13 U<|tn<|⟨_,ag,i+1,C++ [gl A],[],false,bx,.slice (some ⟨aw,0,none⟩) 0 0,ag,(by rw [drop_cons 0 ag,ba,ER] at J; rw [iC]; exact J),U,(by simp),a5,(aR bj aL.md),br,U,U⟩
 refine aB 2 U<|cg<|ee 8 U<|cb U (fun an=> ?_) fun an=> ?_;have au:A≠[]:=by have :=aM.symm.trans an; exact of_decide_eq_true this
 obtain ⟨ab,ac,rfl⟩:=de E;refine az 1 U<|gD (I)<|aj 1 U<|e<|aH (Dp A ab ac _ (du E).2 ag (du E).1) U ?_;rintro v37 b4 ⟨rfl,ae⟩;refine e<|e9 eu U U fun bE bB bL al a2=> ?_;have aG:Wk w bB:=Md.trans (Md.trans M ae) al.md;refine e<|ap eu (aR (aR L ae) al.md) U (by have :=aG.size; omega) U (aU.dB a2) (U) (U) ag ag fun bZ b5 bm a8 bY bQ=> ?_;have a6:=Wk.own aG (aR (aR L ae) al.md) a8<|bf _;have bn:=ni bm;refine p aT<|aj 4 U<|p mv<|p aT<|ar 3 U<|aE U ?_;have ao:C++ [gl A]=cx s:=by rw [← J,show List.drop i (jT s)= [] from iT ag,EP au]
 exact ⟨by rw [← ao]; exact bn,a6⟩;have au:A= []:=HZ<|of_decide_eq_false<|aM.symm.trans an;refine az 4 U<|gD (I)<|p (sT (I) U)<|ar 3 U<|aE U ?_;have ao:C=cx s:=by rw [← J,show List.drop i (jT s)= [] from iT ag,au,zX,kr]
 exact ⟨by rw [← ao]; exact L,M⟩
set_option maxHeartbeats 1000000 in
theorem OI (s:List UInt8) (w:ai) (bu:s.length≤1048576):
 aY aq 66 (bd [str s]) w (fun v w'=>(∃ a,v= .tuple #[a,.int .i64 (if 65536 < s.length then 10 else 0)]∧(if 65536 < s.length then a= .slice none 0 0 else ∃ vs,b9 w' w.heap.size 174 2 a (et s).length (mr vs)∧fS w' w.heap.size 9 vs (et s)))∧Wk w w'):=by
 refine enter func66 U ntmps66 U<|bV 14 U<|cd U (fun bg=> ?_) fun bg=> ?_;refine aB 8 U<|f2 U U U ?_;have ao:65536 < s.length:=ag;exact ⟨⟨.slice none 0 0,by show kq #[.slice none 0 0,.int .i64 10]=_; rw [if_pos ao],by rw [if_pos ao]⟩,Md.refl _ _⟩;refine az 10 U<|e<|aH (Ou s _ bu) U ?_;rintro bP ae ⟨a3,aJ⟩;obtain ⟨aX,aZ,rfl⟩:=de a3;have a1:=(du a3).2;have bK:=q7 s;refine p aT<|aC 9 U<|lp (fun ak a5 aA=> ∃ (i:Nat) (J:ah) (vs:List (Nat×ah)),(i≤(cx s).length)∧(Wk ae aA)∧(b9 aA ae.heap.size 174 2 J (iL 1<|(cx s).take i).length<|mr vs)∧(fS aA ae.heap.size 9 vs<|iL 1<|(cx s).take i)∧(Sl a5 [(4,J),(5,.slice aX (cx s).length aZ),(6,.int .i64 i)])∧((cx s).length - i=ak)) _ ⟨0,.slice none 0 0,[],ag,(Md.refl _ _),(eL _ _ _ _),(fS.nil _ _ _),U,U⟩ ?_;rintro ak a5 aA ⟨i,J,vs,hi,am,I,ad,bv,rfl⟩;refine bG bv ?_;have bt:=AF ((cx s).take i) 1;rw [bX] at bt;have bL:=am.size;refine bV 2 U ?_;have bJ:((cx s).getD i []).length≤s.length:=by rcases dN i (cx s).length with h | h <;> first | exact zT (Ej h) | (rw [cW,List.getElem?_eq_none h]; exact Nat.zero_le _)
 refine bD 7 U<|cd U (fun bh=> ?_) fun bh=> ?_;refine az 13 U<|p (bZ dJ U U ag<|aU.ok (a1.wk am)<|ef ag)<|p (ay U<|bQ.get (i:=i) (a1.wk am) ag)<|e<|aH (Oq ((cx s).getD i []) _ ag) U ?_;rintro bR ax ⟨a4,E⟩;obtain ⟨a7,a8,rfl⟩:=de a4;have av:=(du a4).2;have ac:Wk ae ax:=Md.trans am E;have bH:=tt ((cx s).getD i []) [];refine p aT<|aC 9 U<|lp (fun ak a6 aW=> ∃ (j:Nat) (aw:ah),(j≤(bN []<|(cx s).getD i []).length)∧(∀ q,q < j→tS ((bN []<|(cx s).getD i []).getD q [])=false)∧(Wk ax aW)∧(b9 aW ax.heap.size 9 1 (aw) ((bN []<|(cx s).getD i []).take j).length<|((bN []<|(cx s).getD i []).take j).map str)∧(Sl a6 [(4,J),(5,.slice aX (cx s).length aZ),(6,.int .i64 i),(7,aw),(8,.slice a7 (bN []<|(cx s).getD i []).length a8),(9,.int .i64 j)])∧((bN []<|(cx s).getD i []).length - j=ak)) _ ⟨0,.slice none 0 0,ag,(fun q br=>by omega),(Md.refl _ _),(eL _ _ _ _),U,U⟩ ?_;rintro ak a6 aW ⟨j,aw,a2,aO,A,Z,bx,rfl⟩;refine bG bx ?_;have bI:((bN []<|(cx s).getD i []).take j).length≤j:=by rw [bX]; omega
 have bM:=A.size;refine aP 8 U<|gs (t:=30) U (fun bm=> ?_) fun bm=> ?_;refine aj 2 U<|bo U (bZ dJ U U ag<|aU.ok (av.wk A)<|ef ag)<|bo U (ay U<|bQ.get (i:=j) (av.wk A) ag)<|bo U (kK 0 u9 U U<|uK.2 (zo _ _ _<|Ej ag).1)<|aC 4 U<|cd U (fun bi=> ?_) fun bi=> ?_;refine az 5 U<|gD (aw)<|aj 2 U<|p (bZ dJ U U ag<|aU.ok (av.wk A)<|ef ag)<|p (ay U<|bQ.get (i:=j) (av.wk A) ag)<|e<|e9 eu U U fun bC bA bE aL a9=> ?_;have a0:Wk ax bA:=Md.trans A aL.md;refine e<|ap eu (aR Z aL.md) U (by have :=a0.size; omega) U (aU.dB a9) (U) (U) ag ag fun v46 bS bn bb bO bF=> ?_;have ba:=Wk.own a0 (aR Z aL.md) bb<|bf _;have bq:=ni bn;exact p aT<|ar 8 U<|tn<|⟨_,ag,j+1,v46,ag,(fun q br=>by rcases dN q j with h | h <;> first | exact aO q h | (rw [show q=j by omega]; exact decide_eq_false ag)),ba,(by rw [ib _ j [] ag]; exact bq),U,U⟩
 have an:lA (bN []<|(cx s).getD i [])=((bN []<|(cx s).getD i []).take j):=vR a2 aO<|.inr<|decide_eq_true ag;obtain ⟨O,V,rfl⟩:=de Z;refine aB 2 U<|cg<|ee 9 U<|cd U (fun ab=> ?_) fun ab=> ?_;have M:iJ ((cx s).getD i []) (1 +i)= [(i+1,((bN []<|(cx s).getD i []).take j))]:=by unfold iJ; rw [an,if_neg (fun h=>by rw [h] at ab; simp at ab),yn]
 refine az 1 U<|gD (J)<|aj 1 U<|p (bW<|i+1)<|aj 1 U<|p (dE (ps:= [(0,aQ (i+1)),(1,.slice O ((bN []<|(cx s).getD i []).take j).length V)]) (L:= [aQ (i+1),.slice O ((bN []<|(cx s).getD i []).take j).length V]) GP U<|U)<|e<|lU xm U U U fun aE au bc C aF=> ?_;have aG:aD au.heap aE [aQ (i+1),.slice O ((bN []<|(cx s).getD i []).take j).length V]:=aF;have al:Wk ae au:=Md.trans ac<|Md.trans A C.md;refine e<|ap xm (aR (aR (aR I E) A) C.md) U (by have :=al.size; omega) U (aU.dB aG) (U) (U) ag ag fun aV bB aN aa bz bj=> ?_;have aK:=Wk.own al (aR (aR (aR I E) A) C.md) aa<|bf _;have aS:=((((ad.wk E).wk A).wk C.md).md aa<|hH (aR (aR (aR I E) A) C.md) aI).snoc (n:=i+1)<|Tg.oh<|nh (cB (aR Z C.md) aa fun k aM=>rC (aR Z C.md) (aR (aR (aR I E) A) C.md) aI aM)<|by have :=Md.size ac; omega
 exact p aT<|ar 8 U<|tn<|⟨_,ag,i+1,aV,vs++ [(i+1,.slice O ((bN []<|(cx s).getD i []).take j).length V)],ag,aK,(by rw [ib _ i [] ag,kQ,show ((cx s).take i).length=i from by rw [bX]; omega,M,bp,AJ]; exact aN),(by rw [ib _ i [] ag,kQ,show ((cx s).take i).length=i from by rw [bX]; omega,M]; exact aS),U,U⟩
 have M:∀ n,iJ ((cx s).getD i []) n= []:=fun n=>by unfold iJ; rw [an,if_pos (uJ.1 ag)]
 exact aB 8 U<|tn<|⟨_,ag,i+1,J,vs,ag,(Md.trans ac A),(by rw [ib _ i [] ag,kQ,M,kr]; exact aR (aR I E) A),(by rw [ib _ i [] ag,kQ,M,kr]; exact (ad.wk E).wk A),U,U⟩
 have an:lA (bN []<|(cx s).getD i [])=((bN []<|(cx s).getD i []).take j):=vR a2 aO<|.inl ag;obtain ⟨O,V,rfl⟩:=de Z;refine ar 12 U<|cg<|ee 9 U<|cd U (fun ab=> ?_) fun ab=> ?_;have M:iJ ((cx s).getD i []) (1 +i)= [(i+1,((bN []<|(cx s).getD i []).take j))]:=by unfold iJ; rw [an,if_neg (fun h=>by rw [h] at ab; simp at ab),yn]
 refine az 1 U<|gD (J)<|aj 1 U<|p (bW<|i+1)<|aj 1 U<|p (dE (ps:= [(0,aQ (i+1)),(1,.slice O ((bN []<|(cx s).getD i []).take j).length V)]) (L:= [aQ (i+1),.slice O ((bN []<|(cx s).getD i []).take j).length V]) GP U<|U)<|e<|lU xm U U U fun aE au bc C aF=> ?_;have aG:aD au.heap aE [aQ (i+1),.slice O ((bN []<|(cx s).getD i []).take j).length V]:=aF;have al:Wk ae au:=Md.trans ac<|Md.trans A C.md;refine e<|ap xm (aR (aR (aR I E) A) C.md) U (by have :=al.size; omega) U (aU.dB aG) (U) (U) ag ag fun aV bB aN aa bz bj=> ?_;have aK:=Wk.own al (aR (aR (aR I E) A) C.md) aa<|bf _;have aS:=((((ad.wk E).wk A).wk C.md).md aa<|hH (aR (aR (aR I E) A) C.md) aI).snoc (n:=i+1)<|Tg.oh<|nh (cB (aR Z C.md) aa fun k aM=>rC (aR Z C.md) (aR (aR (aR I E) A) C.md) aI aM)<|by have :=Md.size ac; omega
 exact p aT<|ar 8 U<|tn<|⟨_,ag,i+1,aV,vs++ [(i+1,.slice O ((bN []<|(cx s).getD i []).take j).length V)],ag,aK,(by rw [ib _ i [] ag,kQ,show ((cx s).take i).length=i from by rw [bX]; omega,M,bp,AJ]; exact aN),(by rw [ib _ i [] ag,kQ,show ((cx s).take i).length=i from by rw [bX]; omega,M]; exact aS),U,U⟩
 have M:∀ n,iJ ((cx s).getD i []) n= []:=fun n=>by unfold iJ; rw [an,if_pos (uJ.1 ag)]
 exact aB 8 U<|tn<|⟨_,ag,i+1,J,vs,ag,(Md.trans ac A),(by rw [ib _ i [] ag,kQ,M,kr]; exact aR (aR I E) A),(by rw [ib _ i [] ag,kQ,M,kr]; exact (ad.wk E).wk A),U,U⟩
 refine aB 2 U<|cg<|fV 4 U<|gD (J)<|p (sT (J) U)<|ar 4 U<|f2 U U U ?_;have ao:¬65536 < s.length:=ag;rw [show (cx s).take i=cx s from iV ag] at I ad;exact ⟨⟨J,by show kq #[J,.int .i64 0]=_; rw [if_neg ao],by rw [if_neg ao]; exact ⟨vs,nh I aJ.size,ad.mono aJ.size⟩⟩,Md.trans aJ am⟩
end Go.Hb
section
namespace Go.Hb.nK
open Go.Hb.u7
theorem OM (a:Option ba) (aa:Nat) (l:List bH) (n:Nat) (C:UInt8) (w:ai) (M:gh w.heap a l) (al:iZ l) (ae:n < l.length):
 aY aq 110 (bd [.slice a l.length aa,aQ n,.int .u8 C.toNat]) w (fun v w'=>(∃ r:Int,v= .int .i64 r∧((jj C (bu l n).2=(bu l n).2.length∧r= -1)∨(∃ (m:Nat) (c:UInt8),m < l.length∧r=m∧(bu l n).2[jj C (bu l n).2]? =some (c,(m:Int)))))∧Wk w w'):=by
 obtain ⟨au,av,O,L⟩:=M.two ae;obtain ⟨aw,an⟩:=al.st ae;refine enter func110 U ntmps110 U<|bV 12 U<|lp (fun ab ak ah=> ∃ (i:Nat),(i≤(bu l n).2.length)∧(∀ (j:Nat) (I:UInt8×Int),j < i→(bu l n).2[j]? =some I→I.1≠C)∧(Wk w ah)∧(Sl ak [(0,.slice a l.length aa),(1,aQ n),(2,.int .u8 C.toNat),(7,aQ i)])∧((bu l n).2.length - i=ab)) _ ⟨0,ag,(fun j d ad=>by omega),(Md.refl _ _),U,U⟩ ?_;rintro ab ak ah ⟨i,hi,Z,A,ao,rfl⟩;refine bG ao<|aP 6 U<|p (bZ tl U U ag<|(M.wk A).ok ag)<|aj 1 U<|p (ay U<|(mz A O) 1 ag)<|aC 4 U<|cd U (fun am=> ?_) fun am=> ?_;refine bD 5 U ?_;obtain ⟨E,J⟩:∃ d,(bu l n).2[i]? =some d:=⟨_,cI ag⟩
 refine az 3 U<|p (bZ tl U U ag<|(M.wk A).ok ag)<|aj 1 U<|p (ay U<|(mz A O) 1 ag)<|aj 1 U<|p (bZ qT U U ag<|(L.wk A).ok ag)<|aj 1 U<|p (ay U<|(L.wk A).b i E J)<|aC 4 U<|cd U (fun ac=> ?_) fun ac=> ?_;have V:E.1=C:=UInt8.toNat_inj.1 ag;refine az 4 U<|p (bZ tl U U ag<|(M.wk A).ok ag)<|aj 1 U<|p (ay U<|(mz A O) 1 ag)<|aj 1 U<|p (bZ qT U U ag<|(L.wk A).ok ag)<|aj 1 U<|p (ay U<|(L.wk A).to i E J)<|ar 6 U<|tr<|bg 2 U<|aE U ?_;obtain ⟨ap,ax⟩:=an _ _ J;exact ⟨⟨E.2,U,.inr ⟨E.2.toNat,E.1,ag,ag,by rw [Es J V Z,J,Int.toNat_of_nonneg ap]⟩⟩,A⟩;have V:E.1≠C:=fun h=>ac<|by rw [h]
 exact az 5 U<|p (bW<|i+1)<|ar 2 U<|tn<|⟨_,ag,i+1,ag,(fun j I ad ji=>by rcases Nat.lt_succ_iff_lt_or_eq.1 ad with h | rfl; exact Z j I h ji; rw [J] at ji; cases ji; exact V),A,U,U⟩
 exact aB 2 U<|cg<|bg 8 U<|aE U<|⟨⟨-1,U,.inl ⟨Et (fun j I ji=>Z j I (by have :=(dX.1 ji).1; omega) ji),U⟩⟩,A⟩
theorem Oe (a:Option ba) (C:Nat) (l:List bH) (x:List UInt8) (w:ai) (E:gh w.heap a l) (V:iZ l) (L:0 < l.length) (ap:x.length≤4294967296):
 aY aq 59 (bd [.slice a l.length C,str x]) w (fun v w'=>(∃ m:Nat,v= .tuple #[.bool (j3 l x),aQ m])∧Wk w w'):=by
 have an:=V.1;refine enter func59 U ntmps59 U<|bV 18 U<|lp (fun O aa M=> ∃ (k q:Nat),(k≤x.length)∧(q < l.length)∧((je l x).1=(jd l q<|x.drop k).1)∧(Wk w M)∧(Sl aa [(0,.slice a l.length C),(1,str x),(6,aQ q),(7,aQ k)])∧(x.length - k=O)) _ ⟨0,0,ag,L,(by rw [je,if_neg (fun h=>by rw [h] at L; simp at L)]; rfl),(Md.refl _ _),U,U⟩ ?_;rintro O aa M ⟨k,q,ao,Z,J,A,ak,rfl⟩;refine bG ak<|bV 9 U<|cd U (fun ac=> ?_) fun ac=> ?_;refine az 10 U<|p (dc u9 U U ag)<|e<|aH (OM a C l q (x.getD k 0) M (E.wk A) V Z) U ?_;rintro au av ⟨⟨r,rfl,hr⟩,hE19⟩;refine aC 9 U<|cd U (fun ad=> ?_) fun ad=> ?_;have ah:=(hr.resolve_right fun ⟨m,c,_,h,_⟩=>by omega).1;refine aB 10 U<|tr<|bg 2 U<|f2 U U U ?_;have I:(je l x).1=none:=by rw [J,y8 ag,Ca ah]
 exact ⟨⟨k,by unfold j3; rw [I]; rfl⟩,A.trans hE19⟩;obtain ⟨m,c,hm,rfl,ae⟩:=hr.resolve_left fun h=>by omega
 exact az 5 U<|p (bW<|k+1)<|ar 2 U<|tn<|⟨_,ag,k+1,m,ag,hm,(by rw [J,y8 ag,B9 ae U]),(A.trans hE19),U,U⟩
 refine aB 2 U<|cg<|ee 3 U ?_;obtain ⟨al,am,ab,_⟩:=(E.wk A).two Z;refine az 3 U<|p (bZ tl U U ag<|(E.wk A).ok ag)<|aj 1 U<|p (ay U<|ab 0 ag)<|ar 7 U<|f2 U U U ?_;obtain rfl :k=x.length:=ag;have I:(je l x).1=some q:=by rw [J,List.drop_length]; rfl
 exact ⟨⟨x.length,by unfold j3; rw [I]; rfl⟩,A⟩
theorem OW (s:List UInt8) (w:ai) (bc:s.length≤1048576):
 aY aq 61 (bd [str s]) w (fun v w'=>v=str (eG s)∧Wk w w'):=by
 refine enter func61 U ntmps61 U<|aP 7 U<|e<|sV fE fun am a6 a9 aM aI=> ?_;have a0:b9 a6 w.heap.size 5 1 (.slice (some ⟨am,0,none⟩) 0 0) (([]:List UInt8)).length (U8<|([]:List UInt8)):=aI _ ag;refine aC 10 U<|lp (fun an aA ak=> ∃ (i:Nat) (ad:ah),(i≤s.length)∧(b9 ak w.heap.size 5 1 (ad) (eG<|s.take i).length<|U8<|eG<|s.take i)∧(Wk w ak)∧(Sl aA [(0,str s),(3,ad),(4,aQ i)])∧(s.length - i=an)) _ ⟨0,.slice (some ⟨am,0,none⟩) 0 0,ag,a0,aM.md,U,U⟩ ?_;rintro an aA ak ⟨i,ad,hi,C,J,a1,rfl⟩;refine bG a1 ?_;obtain ⟨aF,aG,rfl⟩:=de C;have a3:=sj<|s.take i;rw [bX] at a3;refine bV 9 U<|cd U (fun aO=> ?_) fun aO=> ?_;refine bD 4 U ?_;refine ei (fun aD ae=> ∃ (Z:List UInt8) (ab:ah),(Z.length≤2 *i+1)∧(Wk w ae)∧(b9 ae w.heap.size 5 1 (ab) (Z).length<|U8<|Z)∧(Z++ [s.getD i 0]=eG (s.take<|i+1))∧(Sl aD [(0,str s),(3,ab),(4,aQ i)])) ?_ ?_;refine aP 4 U<|p (dc u9 U U ag)<|aj 2 U<|gs (t:=16) U (fun aS=> ?_) fun aS=> ?_;refine aj 5 U<|p mv<|aj 10 U<|e<|e9 fE U U fun al aa au A I=> ?_;have E:Wk w aa:=Md.trans J A.md;refine e<|ap fE (aR C A.md) U (by have :=E.size; omega) U (aU.dB I) (U) (U) ag ag fun v30 ay O M ax av=> ?_;have L:=Wk.own E (aR C A.md) M<|bf _;have V:=om (x:=92) O;exact p aT<|ar 1 U<|tn<|⟨eG (s.take i)++ [92],v30,(by rw [bp,dC]; omega),L,V,(by rw [sm ag,if_pos (show jN (s.getD i 0)=true from decide_eq_true ag),iC]; rfl),U⟩
 refine aj 2 U<|bo U (dc u9 U U ag)<|aj 3 U<|gs (t:=22) U (fun aV=> ?_) fun aV=> ?_;refine aj 10 U<|e<|e9 fE U U fun al aa au A I=> ?_;have E:Wk w aa:=Md.trans J A.md;refine e<|ap fE (aR C A.md) U (by have :=E.size; omega) U (aU.dB I) (U) (U) ag ag fun v30 ay O M ax av=> ?_;have L:=Wk.own E (aR C A.md) M<|bf _;have V:=om (x:=92) O;exact p aT<|ar 1 U<|tn<|⟨eG (s.take i)++ [92],v30,(by rw [bp,dC]; omega),L,V,(by rw [sm ag,if_pos (show jN (s.getD i 0)=true from decide_eq_true ag),iC]; rfl),U⟩
 refine aj 2 U<|bo U (dc u9 U U ag)<|aC 4 U<|cd U (fun aN=> ?_) fun aN=> ?_;refine az 2 U<|e<|e9 fE U U fun al aa au A I=> ?_;have E:Wk w aa:=Md.trans J A.md;refine e<|ap fE (aR C A.md) U (by have :=E.size; omega) U (aU.dB I) (U) (U) ag ag fun v30 ay O M ax av=> ?_;have L:=Wk.own E (aR C A.md) M<|bf _;have V:=om (x:=92) O;exact p aT<|ar 1 U<|tn<|⟨eG (s.take i)++ [92],v30,(by rw [bp,dC]; omega),L,V,(by rw [sm ag,if_pos (show jN (s.getD i 0)=true from decide_eq_true ag),iC]; rfl),U⟩
 exact aB 1 U<|tn<|⟨eG (s.take i),.slice aF (eG<|s.take i).length aG,ag,J,C,(by rw [sm ag,if_neg (fun h=>by have :=of_decide_eq_true h; omega)]),U⟩
 rintro aD ae ⟨Z,ab,bb,aK,aw,aW,a2⟩;refine bG a2<|az 1 U<|gD (ab)<|aj 2 U<|p (dc u9 U U ag)<|e<|e9 fE U U fun a7 a5 a8 ac aH=> ?_;have ao:Wk w a5:=Md.trans aK ac.md;refine e<|ap fE (aR aw ac.md) U (by have :=ao.size; omega) U (aU.dB aH) (U) (U) ag ag fun a4 bh aX aL bg ba=> ?_;have aJ:=Wk.own ao (aR aw ac.md) aL<|bf _;have aZ:=om aX;exact p aT<|ar 8 U<|tn<|⟨_,ag,i+1,a4,ag,(by rw [← aW]; exact aZ),aJ,U,U⟩
 exact aB 2 U<|cg<|fV 5 U<|p (lW nM U ((du C).2)<|U)<|ar 4 U<|aE U<|⟨by show str (eG<|s.take i)=_; rw [show s.take i=s from iV ag],J⟩
theorem uf (la lb:Tl) (A C:Option ba) (E kb:Nat) (w:ai) (I:bQ w.heap A la) (J:bQ w.heap C lb) (M:mN la) (O:mN lb) (hlen:la.length+lb.length≤4294967296):
 aY aq 55 (bd [.slice A la.length E,.slice C lb.length kb]) w (fun v w'=>Wk w w'∧b9 w' w.heap.size 9 1 v (bP<|la++lb).length ((bP<|la++lb).map str)):=by
 exact enter func55 U ntmps55 U<|aP 9 U<|e<|aH (E4 la lb A C E kb w I J M O hlen) U fun V Z L=>p aT<|ar 3 U<|aE U<|L
theorem E6 (la lb:Tl) (O I:Option ba) (al kb:Nat) (w:ai) (J:bQ w.heap O la) (ao:bQ w.heap I lb) (aI:mN lb) (hlen:la.length+lb.length≤4294967296):
 aY aq 56 (bd [.slice O la.length al,.slice I lb.length kb]) w (fun v w'=>Wk w w'∧b9 w' w.heap.size 9 1 (v) (iy la lb).length ((iy la lb).map str)):=by
 refine enter func56 U ntmps56 U<|bV 17 U<|lp (fun ae am E=> ∃ (i:Nat) (ab:ah),(i≤la.length)∧(b9 E w.heap.size 9 1 (ab) (iy (la.take i) lb).length<|(iy (la.take i) lb).map str)∧(Wk w E)∧(Sl am [(0,.slice O la.length al),(1,.slice I lb.length kb),(5,ab),(6,aQ i)])∧(la.length - i=ae)) _ ⟨0,.slice none 0 0,ag,(eL _ _ _ _),(Md.refl _ _),U,U⟩ ?_;rintro ae am E ⟨i,ab,hi,A,C,aG,rfl⟩;refine bG aG ?_;obtain ⟨ac,ad,rfl⟩:=de A;have aA:=Af (la.take i) lb;rw [bX] at aA;refine bV 9 U<|cd U (fun ax=> ?_) fun ax=> ?_;refine az 9 U<|p (bZ dJ U U ag<|aU.ok (J.wk C)<|ef ag)<|p (ay U<|bQ.get (i:=i) (J.wk C) ag)<|e<|aH (l9 lb (la.getD i []) I kb E (ao.wk C) aI ag) U ?_;rintro aO aP ⟨rfl,L⟩;have M:=C.trans L;refine aC 9 U<|cb U (fun Z=> ?_) fun Z=> ?_;have aa:la.getD i []∉lb:=by simpa using Z
 refine az 4 U<|p (bZ dJ U U ag<|aU.ok (J.wk M)<|ef ag)<|p (ay U<|bQ.get (i:=i) (J.wk M) ag)<|e<|e9 eu U U fun aK aJ aL V au=> ?_;have ak:Wk w aJ:=Md.trans M V.md;refine e<|ap eu (aR (aR A L) V.md) U (by have :=ak.size; omega) U (aU.dB au) (U) (U) ag ag fun v28 aS aD aw aN aM=> ?_;have av:=Wk.own ak (aR (aR A L) V.md) aw<|bf _;have aF:=ni aD;exact p aT<|aj 5 U<|p (bW<|i+1)<|ar 2 U<|tn<|⟨_,ag,i+1,v28,ag,(by rw [E5 ag,if_neg aa]; exact aF),av,U,U⟩
 have aa:la.getD i []∈lb:=by simpa using Z
 exact az 5 U<|p (bW<|i+1)<|ar 2 U<|tn<|⟨_,ag,i+1,.slice ac (iy (la.take i) lb).length ad,ag,(by rw [E5 ag,if_pos aa]; exact aR A L),M,U,U⟩
 refine aB 2 U<|cg<|bg 9 U<|aE U ?_;have an:la.take i=la:=iV ag;refine ⟨C,?_⟩;show b9 E w.heap.size 9 1 (.slice ac (iy (la.take i) lb).length ad) _ _;rw [an] at A ⊢;exact A
abbrev dt (w:ai) (B:Nat) (v:ah) (l:Tl):Prop :=Tg w B 9 l.length v<|l.map str
theorem dt.nil (w:ai) (B:Nat):dt w B (.slice none 0 0) []:=⟨none,0,rfl,bf _,.inl rfl⟩
theorem dt.own {w:ai} {B:Nat} {v:ah} {l:Tl} (h:b9 w B 9 1 v l.length (l.map str)):dt w B v l:=Tg.oh h
theorem dt.sl {w:ai} {B:Nat} {v:ah} {l:Tl} (h:dt w B v l):∃ a c,v= .slice a l.length c∧bQ w.heap a l:=by
 obtain ⟨a,c,rfl⟩:=h.slice;exact ⟨a,c,U,h.mR.2⟩
def tZ (vals:List (ah×ah)):List ah:=vals.flatMap fun q=> [q.1,q.2]
theorem GU (vals:List (ah×ah)):(tZ vals).length=vals.length*2:=DY (f:=fun q:ah×ah=> [q.1,q.2]) (m:=2) (fun _=>rfl) vals
theorem GV (vals:List (ah×ah)) (q:ah×ah):tZ (vals++ [q])=tZ vals++ [q.1,q.2]:=by simp [tZ]
structure cT (w:ai) (B xr:Nat) (a b:Tl) (va vb vk:ah) (vals:List (ah×ah)) (bck:List (Tl×Tl)):Prop where
 obj:w.heap[xr]? =some (.cells [va,vb,vk].toArray 68 (0,0))
 lo:B≤xr
 ra:dt w B va a
 rb:dt w B vb b
 back:b9 w B 65 2 vk bck.length (tZ vals)
 vl:vals.length=bck.length
 fM:∀ (i:Nat) q t,vals[i]? =some q→bck[i]? =some t→dt w B q.1 t.1∧dt w B q.2 t.2
theorem cT.wk {w w':ai} {B xr:Nat} {a b:Tl} {va vb vk:ah} {vals:List (ah×ah)} {bck:List (Tl×Tl)} (h:cT w B xr a b va vb vk vals bck) (hm:Wk w w'):cT w' B xr a b va vb vk vals bck:=
 ⟨Wk.ax hm h.obj,h.lo,h.ra.wk hm,h.rb.wk hm,aR h.back hm,h.vl,fun i q t A C=>⟨(h.fM i q t A C).1.wk hm,(h.fM i q t A C).2.wk hm⟩⟩
theorem cT.B {w:ai} {B xr:Nat} {a b:Tl} {va vb vk:ah} {vals:List (ah×ah)} {bck:List (Tl×Tl)} (h:cT w B xr a b va vb vk vals bck):aD w.heap xr [va,vb,vk]:=⟨_,h.obj⟩
theorem DO {x y:Tl} (E:x.length=y.length) (h:∀ j,j < x.length→x.getD j []=y.getD j []):x=y:=by
 refine List.ext_getElem E fun i A C=> ?_;have :=h i A;rw [cW,cW,cI A,cI C] at this;exact this
def F4:Except Nat (List UInt8×Int)→ah
 | .ok (x,_)=> .tuple #[str x,.int .i64 0]
 | .error q=> .tuple #[str [],.int .i64 ((q:Nat):Int)]
theorem yK {b:Bool} (h:(!b)=true):b=false :=by cases b; rfl; cases h
theorem yJ {b:Bool} (h:(!b)=false):b=true :=by cases b; cases h; rfl
theorem FZ (B xr:Nat) (a b:Tl) (va vb vk:ah) (vals:List (ah×ah)) (bck:List (Tl×Tl)) (x:List UInt8) (w:ai) (C:cT w B xr a b va vb vk vals bck) (ac:mN a) (ad:mN b) (hlen:a.length+b.length≤4294967296):
 aY aq 58 (bd [aA xr,str x]) w (fun v w'=>v= .int .i64 (if x∈a then 1 else if x∈b then -1 else 0)∧Wk w w'):=by
 obtain ⟨a0,V,rfl,aa⟩:=C.ra.sl;obtain ⟨O,Z,rfl,ab⟩:=C.rb.sl;refine enter func58 U ntmps58 U<|aP 11 U<|p (ay U<|C.B.aG 0)<|aj 1 U<|e<|aH (l9 a x a0 V w aa ac ag) U ?_;rintro ak ae ⟨rfl,A⟩;refine aC 9 U<|cb U (fun I=> ?_) fun I=> ?_;have E:x∈a:=by simpa using I
 exact aB 7 U<|aE U<|⟨by rw [if_pos E]; rfl,A⟩
 have E:x∉a:=by simpa using I
 refine az 8 U<|p (ay U<|(C.wk A).B.aG 1)<|aj 1 U<|e<|aH (l9 b x O Z ae (ab.wk A) ad ag) U ?_;rintro v21 al ⟨rfl,M⟩;refine aC 9 U<|cb U (fun J=> ?_) fun J=> ?_;have L:x∈b:=by simpa using J
 exact aB 7 U<|aE U<|⟨by rw [if_neg E,if_pos L]; rfl,A.trans M⟩
 have L:x∉b:=by simpa using J
 exact aB 8 U<|aE U<|⟨by rw [if_neg E,if_neg L]; rfl,A.trans M⟩
theorem OK (la lb ma mb:Tl) (a0 ab a3 a4:Option ba) (aD aF c3 aH:Nat) (w:ai) (ae:bQ w.heap a0 la) (ak:bQ w.heap ab lb) (ah:bQ w.heap a3 ma) (al:bQ w.heap a4 mb) (hlen:la.length+lb.length≤4294967296):
 aY aq 57 (bd [.agg #[.slice a0 la.length aD,.slice ab lb.length aF],.agg #[.slice a3 ma.length c3,.slice a4 mb.length aH]]) w (fun v w'=>v= .bool (decide (la=ma∧lb=mb))∧Wk w w'):=by
 refine enter func57 U ntmps57 U<|aP 2 U<|e<|lV U fun ac w2 aT aL aI=>e<|lV U fun ad aa aV am aJ=> ?_;have J:=Wk.B am.md aI;have O:=aJ;have C:Wk w aa:=Md.trans aL.md am.md;refine aj 7 U<|p (ay U<|J.aG 0)<|aj 2 U<|p (ay U<|O.aG 0)<|aj 3 U<|gs (t:=14) U (fun ap=> ?_) fun ap=> ?_;exact ar 18 U<|aE U<|⟨bF (fun h=>ap<|by rw [h.1]),C⟩
 refine aj 1 U<|bo U (ay U<|J.aG 1)<|aj 2 U<|bo U (ay U<|O.aG 1)<|aC 5 U<|cd U (fun ao=> ?_) fun ao=> ?_;exact aB 7 U<|aE U<|⟨bF (fun h=>ao<|by rw [h.2]),C⟩
 refine bD 9 U<|lp (fun L aw au=> ∃ (i:Nat),(i≤la.length)∧(∀ j,j < i→la.getD j []=ma.getD j [])∧(Wk aa au)∧(Sl aw [(2,aA ac),(3,aA ad),(5,aQ i)])∧(la.length - i=L)) _ ⟨0,ag,(fun j M=>by omega),(Md.refl _ _),U,U⟩ ?_;rintro L aw au ⟨i,hi,heq,A,aR,rfl⟩;refine bG aR<|aP 5 U<|p (ay U<|(Wk.B A J).aG 0)<|aC 4 U<|cd U (fun aM=> ?_) fun aM=> ?_;refine bD 5 U<|fh fun I=>aW [0] U I<|c9 1 U I ((Wk.B A J).aG 0)<|aW [2] U I<|cz 3 U (bZ dJ U U ag<|aU.ok (ae.wk<|C.trans A)<|ef ag) I<|c9 4 U I (bQ.get (i:=i) (ae.wk<|C.trans A) ag)<|aW [5] U I<|c9 6 U I ((Wk.B A O).aG 0)<|aW [7] U I<|cz 8 U (bZ dJ U U ag<|aU.ok (ah.wk<|C.trans A)<|ef ag) I<|c9 9 U I (bQ.get (i:=i) (ah.wk<|C.trans A) ag)<|aW [10] U I<|hn an<|ee 1 U<|cd U (fun V=> ?_) fun V=> ?_;exact aB 8 U<|tr<|bg 2 U<|aE U<|⟨bF (fun h=>V<|by rw [h.1]),(C.trans A).trans I⟩
 exact az 5 U<|p (bW<|i+1)<|ar 2 U<|tn<|⟨_,ag,i+1,ag,(fun j M=>by rcases dN j i with h | h <;> first | exact heq j h | (rw [show j=i by omega]; exact mD.1 V)),(A.trans I),U,U⟩
 refine aB 2 U<|cg<|ee 4 U ?_;have aO:=DO (x:=la) (y:=ma) ag fun j M=>heq j ag;have aK:=A;clear hi heq A;refine bD 5 U<|lp (fun L ax av=> ∃ (i:Nat),(i≤lb.length)∧(∀ j,j < i→lb.getD j []=mb.getD j [])∧(Wk aa av)∧(Sl ax [(2,aA ac),(3,aA ad),(6,aQ i)])∧(lb.length - i=L)) _ ⟨0,ag,(fun j M=>by omega),aK,U,U⟩ ?_;rintro L ax av ⟨i,hi,heq,A,aS,rfl⟩;refine bG aS<|aP 5 U<|p (ay U<|(Wk.B A J).aG 1)<|aC 4 U<|cd U (fun aN=> ?_) fun aN=> ?_;refine bD 5 U<|fh fun E=>aW [0] U E<|c9 1 U E ((Wk.B A J).aG 1)<|aW [2] U E<|cz 3 U (bZ dJ U U ag<|aU.ok (ak.wk<|C.trans A)<|ef ag) E<|c9 4 U E (bQ.get (i:=i) (ak.wk<|C.trans A) ag)<|aW [5] U E<|c9 6 U E ((Wk.B A O).aG 1)<|aW [7] U E<|cz 8 U (bZ dJ U U ag<|aU.ok (al.wk<|C.trans A)<|ef ag) E<|c9 9 U E (bQ.get (i:=i) (al.wk<|C.trans A) ag)<|aW [10] U E<|hn an<|ee 1 U<|cd U (fun Z=> ?_) fun Z=> ?_;exact aB 8 U<|tr<|bg 2 U<|aE U<|⟨bF (fun h=>Z<|by rw [h.2]),(C.trans A).trans E⟩
 exact az 5 U<|p (bW<|i+1)<|ar 2 U<|tn<|⟨_,ag,i+1,ag,(fun j M=>by rcases dN j i with h | h <;> first | exact heq j h | (rw [show j=i by omega]; exact mD.1 Z)),(A.trans E),U,U⟩
 exact aB 2 U<|cg<|bg 8 U<|aE U<|⟨bT ⟨aO,DO ag fun j M=>heq j ag⟩,C.trans A⟩
theorem OH (a:Option ba) (cap:Nat) (f:List (List UInt8)) (w:ai) (C:bQ w.heap a f) (am:∀ x∈f,x≠[]) (ak:∀ x∈f,x.length≤1048576) (av:f.length≤1048577):
 aY aq 67 (bd [.slice a f.length cap]) w (fun v w'=>v=F4 (eN f)∧Wk w w'):=by
 refine enter func67 U ntmps67 U<|aP 9 U<|p mv<|aC 4 U<|cd U (fun ad=> ?_) fun ad=> ?_;exact aB 8 U<|f2 U U U<|⟨by rw [Du ag]; rfl,Md.refl _ _⟩
 have I:f.length=1:=ag;have aw:0 < (f.getD 0 []).length:=uK.2<|am _<|gK ag;have ax:(f.getD 0 []).length≤1048576:=ak _<|gK ag;have ao:=HJ<|(f.getD 0 []).drop 1;rw [fY] at ao;refine bD 2 U ?_;refine ei (fun ac aa=> ∃ (ap:Unit),(dm f=43∨dm f=45)∧(Wk w aa)∧(Sl ac [(0,.slice a f.length cap)])) ?_ ?_;refine aP 2 U<|p mv<|p (bZ dJ U U ag<|aU.ok (C)<|ef ag)<|p (ay U<|bQ.get (i:=0) C ag)<|p (kK 0 u9 U U ag)<|aj 2 U<|gs (t:=17) U (fun al=> ?_) fun al=> ?_;refine bo U mv<|bo U (bZ dJ U U ag<|aU.ok (C)<|ef ag)<|bo U (ay U<|bQ.get (i:=0) C ag)<|bo U (kK 0 u9 U U ag)<|aC 4 U<|cd U (fun ae=> ?_) fun ae=> ?_;exact aB 7 U<|tr<|f2 U U U<|⟨by rw [Dw I (by unfold dm; omega) (by unfold dm; omega)]; rfl,Md.refl _ _⟩
 exact aB 1 U<|tn<|⟨(),(by unfold dm; omega),(Md.refl _ _),U⟩
 exact ar 10 U<|tn<|⟨(),(by unfold dm; omega),(Md.refl _ _),U⟩
 rintro ac aa ⟨ap,M,A,an⟩;refine bG an<|az 3 U<|p (bZ dJ U U ag<|aU.ok (C.wk A)<|ef ag)<|p (ay U<|bQ.get (i:=0) (C.wk A) ag)<|p (mw u9 U U ag)<|e<|aH (OV ((f.getD 0 []).drop 1) aa<|by rw [fY]; omega) U ?_;rintro aA au ⟨rfl,L⟩;refine p mv<|aC 17 U<|cd U (fun ah=> ?_) fun ah=> ?_;have E:(dS f).2.2.2≠0:=by show (iA<|(f.getD 0 []).drop 1).2.2.2≠0; omega
 exact aB 9 U<|f2 U U U<|⟨by rw [Dt I M E]; rfl,A.trans L⟩
 have E:(dS f).2.2.2=0:=by show (iA<|(f.getD 0 []).drop 1).2.2.2=0; omega
 refine bD 8 U<|cb U (fun V=> ?_) fun V=> ?_;have J:(dS f).2.2.1=true :=V;exact aB 8 U<|f2 U U U<|⟨by rw [Ds I M E J]; rfl,A.trans L⟩
 have J:(dS f).2.2.1=false :=V;refine az 5 U<|e<|aH (Gf (iA<|(f.getD 0 []).drop 1).1 au ag) U ?_;rintro aD aE ⟨rfl,ab⟩;refine aC 10 U<|cb U (fun Z=> ?_) fun Z=> ?_;have O:dL (dS f).1=false :=yK Z;exact aB 8 U<|f2 U U U<|⟨by rw [Dr I M E J O]; rfl,(A.trans L).trans ab⟩
 have O:dL (dS f).1=true :=yJ Z;exact aB 10 U<|f2 U U U<|⟨by rw [Dv I M E J O]; rfl,(A.trans L).trans ab⟩
end Go.Hb.nK
end
section
namespace Go.Hb.oT
open Go.Hb.u7 Go.Hb.nK
theorem Qq {G:Nat→Prop} {w w':ai} (h:Md G w.drew w'):Md G w w':=⟨h.os,h.output,h.size,h.dA⟩
def eo (A:Bool) (a b ws:Tl):Tl×Tl:=if A=true then (bP (a++bP ws),iy b (bP ws)) else (iy a (bP ws),bP (b++bP ws))
theorem Ob (A:Bool) (a b ws:Tl):(eo A a b ws).1.length +(eo A a b ws).2.length≤a.length+b.length+ws.length:=by
 have C:=ot<|a++bP ws;have E:=ot<|b++bP ws;have I:=ot ws;have J:=Af a<|bP ws;have L:=Af b<|bP ws;rw [bp] at C E;unfold eo;split <;> simp only <;> omega
def lS (B xr:Nat) (a b:Tl) (vk:ah) (bck:List (Tl×Tl)) (ws:Tl) (A:Bool) (w:ai) (v:ah) (w':ai):Prop :=
 ((∃ x∈ws,dL x=false)∧v= .int .i64 21∧Wk w w')∨((∀ x∈ws,dL x=true)∧((500 < (eo A a b ws).1.length +(eo A a b ws).2.length∧v= .int .i64 280∧Wk w w')∨((eo A a b ws).1.length +(eo A a b ws).2.length≤500∧v= .int .i64 0∧(((eo A a b ws).1=a∧(eo A a b ws).2=b∧Wk w w')∨
 (¬((eo A a b ws).1=a∧(eo A a b ws).2=b)∧∃ E J C I,cT w' B xr (eo A a b ws).1 (eo A a b ws).2 E J C I (bck++ [(a,b)])∧Md (fun k=>k=xr∨vk.ownBlock=some k) w w'∧∀ k,C.ownBlock=some k→vk.ownBlock=some k∨w.heap.size≤k)))))
theorem Hh {h:Array Obj} {bl:Nat} {u v x:ah} (hb:aD h bl [u,v,x]):∀ j,j < 2→aO h bl (0 +0 +j)= [u,v][j]? :=fun j A=>(hb.aG j).trans (match j,A with
 | 0,_=>rfl
 | 1,_=>rfl)
theorem cT.xk {w:ai} {B xr:Nat} {a b:Tl} {va vb vk:ah} {vals:List (ah×ah)} {bck:List (Tl×Tl)} (h:cT w B xr a b va vb vk vals bck):¬vk.ownBlock=some xr:=fun A=>hH (e':=68) h.back aI xr A _ _ h.obj
set_option maxHeartbeats 2000000 in
theorem FN (C:Bool) (B xr:Nat) (a b:Tl) (va vb vk:ah) (vals:List (ah×ah)) (bck:List (Tl×Tl)) (ws:Tl) (aS:Option ba) (aZ:Nat) (w:ai) (E:cT w B xr a b va vb vk vals bck) (cW:mN a) (cX:mN b) (J:bQ w.heap aS ws) (cI:ws.length≤aZ) (dk:ws.length≤1048576) (c0:∀ x∈ws,x.length≤1048576) (hlen:a.length+b.length≤500) (dh:bck.length≤1048576) (c9:B≤w.heap.size):
 aY aq 24 (bd [aA xr,.slice aS ws.length aZ,.bool C]) w (lS B xr a b vk bck ws C w):=by
 obtain ⟨a0,aV,rfl,bq⟩:=E.ra.sl;obtain ⟨aP,aX,rfl,br⟩:=E.rb.sl;have dj:=ot ws;have di:=Ob C a b ws;have dl:=(cr.1 E.obj).1;refine enter func24 U ntmps24 U<|bV 12 U<|lp (fun bM b7 bj=> ∃ (i:Nat),(i≤ws.length)∧(∀ x∈ws.take i,dL x=true)∧(Wk w bj)∧(Sl b7 [(0,aA xr),(1,.slice aS ws.length aZ),(2,.bool C),(7,aQ i)])∧(ws.length - i=bM)) _ ⟨0,ag,(fun x aw=>by simp at aw),(Md.refl _ _),U,U⟩ ?_;rintro bM b7 bj ⟨i,hi,b3,am,cR,rfl⟩;refine bG cR<|bV 9 U<|cd U (fun cG=> ?_) fun cG=> ?_;refine az 8 U<|p (bZ dJ U U ag<|aU.ok (J.wk am)<|ef ag)<|p (ay U<|bQ.get (i:=i) (J.wk am) ag)<|e<|aH (Gf (ws.getD i []) bj<|c0 _<|gK ag) U ?_;rintro dC dK ⟨rfl,bO⟩;refine aC 9 U<|cb U (fun bA=> ?_) fun bA=> ?_;have ac:dL (ws.getD i [])=false :=yK bA;exact aB 8 U<|tr<|bg 2 U<|aE U<|.inl ⟨⟨_,gK (show i < ws.length by omega),ac⟩,U,am.trans bO⟩;have ac:dL (ws.getD i [])=true :=yJ bA;exact az 5 U<|p (bW<|i+1)<|ar 2 U<|tn<|⟨_,ag,i+1,ag,(fun x aw=>by rw [ib ws i [] ag,dz,List.mem_singleton] at aw; rcases aw with aw | rfl; exact b3 x aw; exact ac),(am.trans bO),U,U⟩
 refine aB 2 U<|cg<|ee 3 U ?_;have bK:∀ x∈ws,dL x=true :=by
  have h:=b3;rw [show ws.take i=ws from iV ag] at h;exact h
 refine az 2 U<|e<|aH (NS ws.length ws aS aZ bj U (J.wk am) cI ag) U ?_;rintro dD dM ⟨cx,aO⟩;obtain ⟨bh,bi,rfl⟩:=de aO;have bR:=am.trans cx;refine p aT<|aj 4 U<|p (dE (ps:= []) (L:= [.slice none 0 0,.slice none 0 0]) PJ U<|U)<|e<|al Q8 fun ak dI Z bz ck=> ?_;have dm:=bz.size;have dr:=bR.size;refine e<|r6 yX U U U U (ck) (by simp) fun bm bS cu=> ?_;have Z:aD bm.heap ak [.slice none 0 0,.slice none 0 0]:=cu;have ab:Wk w bm:=(bR.trans bz.md).trans' bS fun k A h=>by omega
 have bJ:=cB (aR aO bz.md) bS fun k A h=>by have :=da aO A; omega
 have dy:=ab.size;have bY:=(du bJ).2;refine aC 2 U ?_;refine ei (fun b8 ae=> ∃ (a2 a3:Option ba) (c2 c3:Nat),(aD ae.heap ak [.slice a2 (eo C a b ws).1.length c2,.slice a3 (eo C a b ws).2.length c3])∧(dt ae B (.slice a2 (eo C a b ws).1.length c2) (eo C a b ws).1)∧(dt ae B (.slice a3 (eo C a b ws).2.length c3) (eo C a b ws).2)∧(Wk w ae)∧(Sl b8 [(0,aA xr),(10,aA ak)])) ?_ ?_;refine bV 5 U<|cb U (fun bB=> ?_) fun bB=> ?_;subst bB;refine az 6 U<|p (ay U<|(E.wk ab).B.aG 0)<|p mv<|e<|aH (uf a (bP ws) a0 bh aV bi bm (bq.wk ab) bY cW (iO _) ag) U ?_;rintro dF dO ⟨a1,bc⟩;obtain ⟨b9,cc,rfl⟩:=de bc;have ds:=a1.size;refine aj 1 U<|e<|st o0 U U (U) (Wk.B a1 Z) (by simp) fun b5 a7 cm=> ?_;have bt:Wk w b5:=(ab.trans a1).trans' a7 fun k A h=>by omega
 have cL:=cB bc a7 fun k A h=>by have :=da bc A; have :=Z.lt; omega
 have cS:=cB (aR bJ a1) a7 fun k A h=>by have :=da aO A; omega
 have dn:=a7.size;refine aj 7 U<|p (ay U<|(E.wk bt).B.aG 1)<|p mv<|e<|aH (E6 b (bP ws) aP bh aX bi b5 (br.wk bt) (du cS).2 (iO _) ag) U ?_;rintro dG dP ⟨a4,bE⟩;obtain ⟨ca,ce,rfl⟩:=de bE;have dv:=a4.size;refine aj 1 U<|e<|st o0 U U (U) (Wk.B a4 cm) (by simp) fun c6 bv cn=> ?_;have cv:Wk w c6:=(bt.trans a4).trans' bv fun k A h=>by omega
 have cN:=cB bE bv fun k A h=>by have :=da bE A; have :=Z.lt; omega
 have cM:=cB (aR cL a4) bv fun k A h=>by have :=da bc A; have :=Z.lt; omega
 exact ar 1 U<|tn<|⟨b9,ca,cc,ce,cn,((dt.own cM).mono ag),((dt.own cN).mono ag),cv,U⟩
 subst bB;refine az 6 U<|p (ay U<|(E.wk ab).B.aG 0)<|p mv<|e<|aH (E6 a (bP ws) a0 bh aV bi bm (bq.wk ab) bY (iO _) ag) U ?_;rintro v51 dQ ⟨a5,bf⟩;obtain ⟨a51,cf,rfl⟩:=de bf;have dw:=a5.size;refine aj 1 U<|e<|st o0 U U (U) (Wk.B a5 Z) (by simp) fun b6 a8 co=> ?_;have bu:Wk w b6:=(ab.trans a5).trans' a8 fun k A h=>by omega
 have cO:=cB bf a8 fun k A h=>by have :=da bf A; have :=Z.lt; omega
 have cU:=cB (aR bJ a5) a8 fun k A h=>by have :=da aO A; omega
 have dp:=a8.size;refine aj 7 U<|p (ay U<|(E.wk bu).B.aG 1)<|p mv<|e<|aH (uf b (bP ws) aP bh aX bi b6 (br.wk bu) (du cU).2 cX (iO _) ag) U ?_;rintro v59 dR ⟨a6,bF⟩;obtain ⟨a59,ch,rfl⟩:=de bF;have dx:=a6.size;refine aj 1 U<|e<|st o0 U U (U) (Wk.B a6 co) (by simp) fun c7 bx cp=> ?_;have cw:Wk w c7:=(bu.trans a6).trans' bx fun k A h=>by omega
 have cQ:=cB bF bx fun k A h=>by have :=da bF A; have :=Z.lt; omega
 have cP:=cB (aR cO a6) bx fun k A h=>by have :=da bf A; have :=Z.lt; omega
 exact ar 1 U<|tn<|⟨a51,a59,cf,ch,cp,((dt.own cP).mono ag),((dt.own cQ).mono ag),cw,U⟩
 rintro b8 ae ⟨a2,a3,c2,c3,aN,b0,b1,aK,cV⟩;refine bG cV<|az 4 U<|p (ay U<|aN.aG 0)<|aj 2 U<|p (ay U<|aN.aG 1)<|aC 5 U<|cd U (fun cH=> ?_) fun cH=> ?_;exact aB 7 U<|aE U<|.inr ⟨bK,.inl ⟨ag,U,aK⟩⟩;refine bD 3 U ?_;have cz:=E.wk aK;refine fh fun bb=>gL 0 U (fun w' J=>fi sP U (U) fun j aa=>mz J (xq (aN.aG 0)<|aN.aG 1) j aa) bb<|aW [1,2,3] U bb<|gL 4 U (fun w' J=>fi sP U (U) fun j aa=>mz J (Hh cz.B) j aa) bb<|he 5 U an<|aH (OK (eo C a b ws).1 (eo C a b ws).2 a b a2 a3 a0 aP c2 c3 aV aX ae.drew (b0.mR.2) (b1.mR.2) (bq.wk aK.drew) (br.wk aK.drew) ag) U ?_;rintro dH ad ⟨rfl,cy⟩;have av:(fun w'=>Wk ae w') ad:=bb.trans cy;refine ⟨av,?_⟩;refine aW [6] U av<|hn an<|ee 3 U ?_;have aL:=aK.trans av;have V:=E.wk aL;have cF:=Wk.B av aN;have cA:=b0.wk av;have cC:=b1.wk av;refine bD 5 U<|cb U (fun bC=> ?_) fun bC=> ?_;have cK:¬((eo C a b ws).1=a∧(eo C a b ws).2=b):=of_decide_eq_false<|yK bC;refine bD 1 U ?_;have ac:=cT.xk V;have cY:¬vk.ownBlock=some ak:=fun h=>by have :=(da E.back h).2; omega
 have dc:ak≠xr:=fun h=>ag;have aM:(fun w'=>Md (fun q=>vk.ownBlock=some q) ad w') ad.drew:=(Md.refl _ _).drew;refine tF (fun w'=>Md (fun q=>vk.ownBlock=some q) ad w') 13 U wide aM<|l6 [0,1,2,3] U aM<|tD 4 U (fun w' J=>ay U<|(J.B V.B ac).aG 2) aM<|l6 [5,6,7] U aM<|tD 8 U (fun w' J=>fi sP U (U) fun j aa=>Hh (J.B V.B ac) j aa) aM<|q6 9 U an<|lU GL U U U fun c8 c5 dd bT ct=> ?_;have dA:=bT.size;have O:=Qq bT.md;have bX:(fun w'=>Md (fun q=>vk.ownBlock=some q) ad w') c5:=Md.mono O fun _ _ h=>h.elim;refine ⟨bX,?_⟩;refine q6 10 U an<|ap GL (aR V.back O) U (by have :=aL.size; have :=O.size; omega) U (aU.dB ct) (U) (U) ag ag fun v87 bL bH au c1 cJ=> ?_;have c1:=au.size;have bI:=au.ax (Wk.ax O V.obj) ac;obtain ⟨bn,bo,rfl⟩:=de bH;have bU:(fun w'=>Md (fun q=>vk.ownBlock=some q) ad w') bL:=bX.trans' au fun _ _ h=>h;refine ⟨bU,?_⟩;refine l6 [11,12] U bU<|pn 13 U an an<|fj CR U U (v:= .slice bn (bck.length+1) bo) U bI (by show 2 < 3; decide) fun c4 ao bN=> ?_;have dq:=ao.size;have cE:aD c4.heap ak [.slice a2 (eo C a b ws).1.length c2,.slice a3 (eo C a b ws).2.length c3]:=ao.B (au.B (Wk.B O cF) cY) fun h=>by omega
 refine pq an<|fV 3 U<|p (fi sP U (U) fun j aa=>cE.aG j)<|aj 2 U<|e<|fk yX U U U U bN (by show 0 +2≤3; decide) fun b4 a9 cq=>ar 8 U<|aE U<|.inr ⟨bK,.inr ⟨ag,U,.inr ⟨cK,.slice a2 (eo C a b ws).1.length c2,.slice a3 (eo C a b ws).2.length c3,.slice bn (bck.length+1) bo,vals++ [(.slice a0 a.length aV,.slice aP b.length aX)],?_,?_,?_⟩⟩⟩;have db:Md (fun k=>k=xr∨vk.ownBlock=some k) bL b4:=(ao.mono fun _ _ h=> .inl h).trans<|a9.mono fun _ _ h=> .inl h;have aF:∀ {v:ah} {l:Tl},dt ad B v l→dt b4 B v l:=fun {v l} h=>by
  have M:dt bL B v l:=(h.wk O).md au fun k A cur z=>hH (aR V.back O) aI k A cur z;exact (M.md ao fun k A cur z=>by subst A; rw [bI]; intro I; injection I with I; injection I with _ I; exact absurd I aI).md a9 fun k A cur z=>by subst A; rw [bN]; intro I; injection I with I; injection I with _ I; exact absurd I aI
 refine ⟨cq,E.lo,aF cA,aF cC,?_,by rw [bp,bp,E.vl]; rfl,fun i q t M aJ=> ?_⟩;rw [bp,GV];have b2:∀ k,(eY bn (bck.length+1) bo).ownBlock=some k→¬k=xr:=fun k A h=>by subst h; exact hH (e':=68) bH aI k A _ _ bI
 exact cB (cB bH ao b2) a9 b2;have cZ:=E.vl;rcases dN i bck.length with h | h;rw [eZ ag] at M aJ;obtain ⟨ci,cj⟩:=V.fM i q t M aJ;exact ⟨aF ci,aF cj⟩;rw [eH ag] at M aJ;rw [cZ] at M;cases aa:i - bck.length with
 | zero=>rw [aa] at M aJ; cases M; cases aJ; exact ⟨aF V.ra,aF V.rb⟩
 | succ j=>rw [aa] at M; simp at M
 exact ((((aL.mono fun _ _ h=>h.elim).trans<|O.mono fun _ _ h=>h.elim).trans<|au.mono fun _ _ h=> .inr h).trans<|ao.mono fun _ _ h=> .inl h).trans<|a9.mono fun _ _ h=> .inl h;intro k A;rcases cJ k A with h | h;exact .inl h;exact .inr<|by have :=aL.size; have :=O.size; omega
 have heq:(eo C a b ws).1=a∧(eo C a b ws).2=b:=of_decide_eq_true<|yJ bC;exact aB 8 U<|aE U<|.inr ⟨bK,.inr ⟨ag,U,.inl ⟨heq.1,heq.2,aL⟩⟩⟩
theorem Qm (B xr:Nat) (a b:Tl) (va vb vk:ah) (vals:List (ah×ah)) (bck:List (Tl×Tl)) (w:ai) (A:cT w B xr a b va vb vk vals bck) (C:bck= []):
 aY aq 25 (bd [aA xr]) w (fun v w'=>v= .bool false∧Wk w w'):=by
 subst C;obtain ⟨E,ck,rfl⟩:=de A.back;refine enter func25 U ntmps25 U<|aP 10 U<|p (ay U<|A.B.aG 2)<|aC 11 U<|cd U (fun I=> ?_) fun h=>absurd U h;exact aB 7 U<|aE U<|⟨U,Md.refl _ _⟩
theorem Qo (B xr:Nat) (a b:Tl) (va vb vk:ah) (vals:List (ah×ah)) (bck:List (Tl×Tl)) (ma mb:Tl) (w:ai) (C:cT w B xr a b va vb vk vals (bck++ [(ma,mb)])) (aR:bck.length≤1048576):
 aY aq 25 (bd [aA xr]) w (fun v w'=>v= .bool true∧(∃ aJ aL ap aK,cT w' B xr ma mb aJ aL ap aK bck∧Md (fun k=>k=xr) w w'∧∀ k,ap.ownBlock=some k→vk.ownBlock=some k)):=by
 have J:=C.back;have M:=C.vl;rw [bp,dC] at J M;obtain ⟨I,ck,rfl⟩:=de J;obtain ⟨V,E,rfl⟩:∃ l x,vals=l++ [x]:=⟨vals.dropLast,vals.getLast (fun h=>by rw [h] at M; simp at M),(IE _).symm⟩
 rw [bp,dC] at M;obtain ⟨an,ao⟩:=C.fM bck.length E (ma,mb) (by rw [eH ag,show bck.length - V.length=0 by omega]; rfl)<|by rw [eH ag,sK]; rfl
 obtain ⟨aT,al⟩:=du J;have aQ:=C.back;have ak:I≠none:=fun h=>by
  subst h;rcases J.2 with ⟨_,h⟩ | ⟨g,cap,cur,h,_⟩;omega;cases h
 have aF:(V++ [E])[bck.length]? =some E:=by rw [eH ag,show bck.length - V.length=0 by omega]; rfl
 obtain ⟨aZ,ac⟩:=an.slice;obtain ⟨aW,ac⟩:=ac;obtain ⟨a0,aX,aH⟩:=ao.slice;refine enter func25 U ntmps25 U<|aP 7 U<|p mv<|aj 2 U<|p (ay U<|C.B.aG 2)<|aC 11 U<|cd U (fun h=>absurd h ag) fun aS=>az 4 U<|p mv<|p mv<|aj 2 U<|p (ay U<|C.B.aG 2)<|aj 1 U<|p (pH<|bck.length)<|p (bZ DL U U ag<|aU.ok (al)<|o8 (f:=fun q:ah×ah=> [q.1,q.2]) (m:=2) (fun _=>rfl) aI<|by rw [bp]; simp)<|p (fi sP U (U) (show ∀ j,j < 2→aO w.heap (bk I) (fo I+bck.length*2 +j)=([E.1,E.2]:List ah)[j]? from mZ (f:=fun q:ah×ah=> [q.1,q.2]) (m:=2) (fun _=>rfl) al aF))<|aj 2 U<|e<|fk yX U U U (by rw [ac,aH]; rfl) C.obj (by show 0 +2≤3; decide) fun aM aa Z=> ?_;have aB:aD aM.heap xr [E.1,E.2,.slice I (bck.length+1) ck]:=⟨_,Z⟩
 refine aj 4 U<|p mv<|p mv<|aj 2 U<|p (ay U<|aB.aG 2)<|aj 1 U<|p (pH<|bck.length)<|p (rX DL U U ag)<|aj 2 U<|e<|fj CR U U (v:= .slice I bck.length ck) U Z (by show 2 < 3; decide) fun aN ab ax=>ar 8 U<|aE U ?_;refine ⟨U,E.1,E.2,.slice I bck.length ck,V,?_,aa.trans ab,fun k h=>(by
  cases I with
  | none=>exact absurd rfl ak
  | some ad=>exact h)⟩
 have am:∀ k,(eY I (bck.length+1) ck).ownBlock=some k→¬k=xr:=fun k L h=>by subst h; exact hH (e':=68) J aI k L _ _ C.obj
 have O:∀ {v:ah} {l:Tl},dt w B v l→dt aN B v l:=fun {v l} h=>
  (h.md aa fun k L cur z=>by subst L; rw [C.obj]; intro A; injection A with A; injection A with _ A; exact absurd A aI).md ab (fun k L cur z=>by subst L; rw [Z]; intro A; injection A with A; injection A with _ A; exact absurd A aI)
 refine ⟨ax,C.lo,O an,O ao,?_,ag,fun i q t au ae=> ?_⟩;have h:=N7 (cB (cB J aa am) ab am) (show bck.length≤bck.length+1 by omega) ak;rw [GV,List.take_append_of_le_length (by rw [GU]; omega),iV (by rw [GU]; omega)] at h;exact h;have aV:=(dX.1 ae).1;obtain ⟨av,aw⟩:=C.fM i q t (by rw [eZ ag]; exact au)<|by rw [eZ ag]; exact ae
 exact ⟨O av,O aw⟩
end Go.Hb.oT
end
section
namespace Go.Hb.qF
open Go.Hb.u7 Go.Hb.nK Go.Hb.oT
theorem Pf {g:List UInt8→Option Int} {a b:Tl} {x:List UInt8} (A:dd g a b) (h:x∈a):(43:UInt8)=if 0 < (g x).getD 0 then 43 else 45:=by
 rw [(A.ma x).1 h]; rfl
theorem Pg {g:List UInt8→Option Int} {a b:Tl} {x:List UInt8} (C:dd g a b) (E:x∈(bP<|a++b)) (h:x∉a):(45:UInt8)=if 0 < (g x).getD 0 then 43 else 45:=by
 rcases dz.1 (ix.1 E) with A | A
 · exact absurd A h
 · rw [(C.mb x).1 A]; rfl
theorem OA (f:List (List UInt8)):∃ x o A,F4 (eN f)= .tuple #[str x,.int .i64 ((A:Nat):Int)]∧((A=0∧eN f= .ok (x,o))∨(A≠0∧eN f= .error A)):=by
 cases h:eN f with
 | ok q=>exact ⟨q.1,q.2,0,rfl,.inl ⟨rfl,rfl⟩⟩
 | error A=>exact ⟨[],0,A,rfl,.inr ⟨(zb h).1,rfl⟩⟩
def uX (t:List UInt8) (w:ai) (v:ah) (w':ai):Prop :=((∃ g a b xr va vb,gZ t= .ok g∧v= .tuple #[.pointer (some ⟨xr,0,none⟩),.int .i64 0,.int .i64 0]∧cT w' w.heap.size xr a b va vb (.slice none 0 0) [] []∧dd g a b)∨
 (∃ l q:Nat,gZ t= .error (l,q)∧v= .tuple #[.pointer none,.int .i64 (l:Nat),.int .i64 (q:Nat)]))∧Wk w w'
theorem OB {g:List UInt8→Option Int} {a b:Tl} {x:List UInt8} {o:Int} (A:dd g a b) (hn:g x=none):(o=1→dd (fun y=>if y=x then some o else g y) (bP<|a++ [x]) b)∧(o= -1→dd (fun y=>if y=x then some o else g y) a (bP<|b++ [x])):=by
 constructor
 · rintro rfl;rcases A.row (o:=1) hn with h | h
   · simpa using h
   · exact absurd (.inl U) h
 · rintro rfl;rcases A.row (o:= -1) hn with h | h
   · simpa using h
   · exact absurd (.inr U) h
theorem P4 (B xr:Nat) (a b:Tl) (va vb vk:ah) (vals:List (ah×ah)) (bck:List (Tl×Tl)) (g:List UInt8→Option Int) (w:ai) (L:cT w B xr a b va vb vk vals bck) (C:dd g a b) (ac:eA g) (hlen:a.length+b.length≤500):
 aY aq 27 (bd [aA xr]) w (fun v w'=>v=str (se g)∧Wk w w'):=by
 obtain ⟨a0,au,rfl,aw⟩:=L.ra.sl;obtain ⟨aJ,aK,rfl,aL⟩:=L.rb.sl;have a4:(bP<|a++b).length≤500:=by have :=ot (a++b); rw [bp] at this; omega
 have aP:=C.fin ac;have aC:∀ x∈(bP<|a++b),x.length≤64:=fun x al=>by
  obtain ⟨o,aS⟩:=(aP.2 x).1 al;exact ac.len x o aS
 refine enter func27 U ntmps27 U<|bV 6 U<|fh fun E=>cz 0 U (mv) E<|aW [1,2,3] U E<|c9 4 U E (L.B.aG 0)<|cz 5 U (mv) E<|aW [6,7,8] U E<|c9 9 U E (L.B.aG 1)<|he 10 U an<|aH (uf a b a0 aJ au aK w.drew aw aL C.ua C.ub ag) U ?_;rintro a7 ao ⟨aM,ax⟩;obtain ⟨a2,c2,rfl⟩:=de ax;have M:=(du ax).2;have ad:(fun w'=>Wk w w') ao:=E.trans aM;refine ⟨ad,?_⟩;refine cz 11 U (aT) ad<|hn an<|ee 2 U ?_;have aa:=ad;refine bD 11 U<|lp (fun av aF Z=> ∃ (i:Nat) (J:List UInt8),(i≤(bP<|a++b).length)∧(J=gQ g ((bP<|a++b).take i))∧(Wk ao Z)∧(Sl aF [(0,aA xr),(3,.slice a2 (bP<|a++b).length c2),(4,str J),(5,aQ i)])∧((bP<|a++b).length - i=av)) _ ⟨0,[],ag,U,(Md.refl _ _),U,U⟩ ?_;rintro av aF Z ⟨i,J,hi,ak,A,aV,rfl⟩;refine bG aV<|bV 9 U<|cd U (fun aR=> ?_) fun aR=> ?_;refine bD 10 U ?_;have aD:((bP<|a++b).getD i [])∈(bP<|a++b):=gK ag;have a6:=aC _ aD;have a1:=xu (g:=g) (xs:=(bP<|a++b).take i) fun x al=>aC x<|List.mem_of_mem_take al;rw [← ak,bX] at a1;refine fh fun I=>aW [0,1,2,3] U I<|c9 4 U I ((L.wk<|aa.trans A).B.aG 0)<|aW [5,6] U I<|cz 7 U (bZ dJ U U ag<|aU.ok (M.wk A)<|ef ag) I<|c9 8 U I (bQ.get (i:=i) (M.wk A) ag)<|he 9 U an<|aH (l9 a ((bP<|a++b).getD i []) a0 au Z.drew (aw.wk (aa.trans A).drew) C.ua ag) U ?_;rintro a8 a3 ⟨rfl,aN⟩;have O:(fun w'=>Wk Z w') a3:=I.trans aN;refine ⟨O,?_⟩;refine aW [10] U O<|hn an<|ee 1 U ?_;refine ei (fun aI ap=> ∃ (V:UInt8),(V=if 0 < (g<|(bP<|a++b).getD i []).getD 0 then 43 else 45)∧(Wk ao ap)∧(Sl aI [(0,aA xr),(3,.slice a2 (bP<|a++b).length c2),(4,str J),(5,aQ i),(6,str [V])])) ?_ ?_;refine bV 5 U<|cb U (fun ae=> ?_) fun ae=> ?_;have am:((bP<|a++b).getD i [])∈a:=by simpa using ae
 exact aB 3 U<|tn<|⟨43,(Pf C am),(A.trans O),U⟩
 have am:((bP<|a++b).getD i [])∉a:=by simpa using ae
 exact aB 1 U<|tn<|⟨45,(Pg C aD am),(A.trans O),U⟩
 rintro aI ap ⟨V,aZ,ab,aX⟩;refine bG aX<|az 4 U<|p (bZ dJ U U ag<|aU.ok (M.wk ab)<|ef ag)<|p (ay U<|bQ.get (i:=i) (M.wk ab) ag)<|e<|aH (OW ((bP<|a++b).getD i []) ap ag) U ?_;rintro a9 ba ⟨rfl,aO⟩;have a5:=sj<|(bP<|a++b).getD i [];exact aj 6 U<|p (cc U U<|by simp only [dC]; omega)<|aj 1 U<|p (cc U U<|by simp only [bp,dC]; omega)<|p (cc U U<|by simp only [bp,dC]; omega)<|aj 6 U<|p (bW<|i+1)<|ar 2 U<|tn<|⟨_,ag,i+1,J++ [V]++eG ((bP<|a++b).getD i [])++ [10],ag,(by rw [Hi ag,← ak]; unfold ns; rw [← aZ]; simp),(ab.trans aO),U,U⟩
 refine aB 2 U<|cg<|bg 9 U<|aE U ?_;obtain rfl :J=se g:=by rw [ak,iV ag]; exact C.Qb ac
 exact ⟨U,aa.trans A⟩
set_option maxHeartbeats 2000000 in
theorem NZ (t:List UInt8) (w:ai) (co:t.length≤1048576):
 aY aq 30 (bd [str t]) w (uX t w):=by
 have cn:=F5 t;refine enter func30 U ntmps30 U<|aP 9 U<|p mv<|e<|aH (OI t w ag) U ?_;rintro cu bE ⟨⟨ce,rfl,bf⟩,hE15⟩;have cq:=hE15.size;refine p mv<|aj 2 U<|p aT<|aC 10 U<|cd U (fun a5=> ?_) fun a5=> ?_;have V:65536 < t.length:=Decidable.byContradiction fun h=>a5<|by rw [if_neg h]
 refine aB 10 U<|f3 U U U U ?_;refine ⟨.inr ⟨0,10,if_pos V,?_⟩,hE15⟩;rw [if_pos V]; rfl;have V:¬65536 < t.length:=fun h=>a5<|by rw [if_pos h]; decide
 rw [if_neg V] at bf;obtain ⟨b7,bu,b6⟩:=bf;obtain ⟨ra,rc,rfl⟩:=de bu;have E:=(du bu).2;have aa:=b6.all;refine az 4 U<|p (dE (ps:= []) (L:= [.slice none 0 0,.slice none 0 0,.slice none 0 0]) GR U<|U)<|e<|sW (L:= [.slice none 0 0,.slice none 0 0,.slice none 0 0]) U fun Z b9 ch bq bM=> ?_;have cr:=bq.size;have bT:cT b9 w.heap.size Z [] [] (.slice none 0 0) (.slice none 0 0) (.slice none 0 0) [] []:=⟨bM,ag,dt.nil _ _,dt.nil _ _,eL _ _ _ _,rfl,fun i q r av bh=>by simp at av⟩
 refine aC 10 U<|lp (fun bc bI aN=> ∃ (i:Nat) (g:List UInt8→Option Int) (a b:Tl) (va vb:ah),(i≤(et t).length)∧(fD (et t) i= .ok g)∧(cT aN w.heap.size Z a b va vb (.slice none 0 0) [] [])∧(dd g a b)∧(Wk bE aN)∧(Sl bI [(5,.slice ra (et t).length rc),(7,aA Z),(8,aQ i)])∧((et t).length - i=bc)) _ ⟨0,(fun _=>none),[],[],.slice none 0 0,.slice none 0 0,ag,U,bT,dd.nil,bq.md,U,U⟩ ?_;rintro bc bI aN ⟨i,g,a,b,va,vb,hi,ap,ac,M,I,b5,rfl⟩;refine bG b5<|bV 9 U<|cd U (fun bU=> ?_) fun bU=> ?_;refine bD 5 U ?_;obtain ⟨aM,A,hr⟩:∃ aM A,(et t).getD i (0,[])=(aM,A):=⟨_,_,rfl⟩
 have bz:(et t)[i]? =some (aM,A):=by rw [← hr,cW,cI ag]; rfl
 have aK:=F6<|List.mem_of_getElem? bz;obtain ⟨q,au⟩:∃ q,b7[i]? =some q:=⟨_,cI<|by rw [aa.1]; omega⟩
 obtain ⟨b3,fa,bb,b4,ax⟩:=aa.2 i q _ au bz;obtain ⟨aL,b8⟩:=q;obtain rfl :aL=aM:=b3;obtain rfl :b8= .slice fa A.length bb:=b4;have cm:A.length≤t.length+1:=aK.2.2.2.1;have ax:bQ bE.heap fa A:=ax;have b2:∀ x∈A,x≠[]∧x.length≤t.length:=aK.2.2.2.2;obtain ⟨a3,bO,cj⟩:=wO ap;have cf:=M.eT a3 bO;refine az 3 U<|p (bZ tk U U ag<|aU.ok (E.wk I)<|rP<|by rw [aa.1]; omega)<|aj 1 U<|p (ay U<|rQ (E.wk I) au 1 ag)<|e<|aH (OH fa bb A aN (ax.wk I) (fun x a9=>(aK.2.2.2.2 x a9).1) (fun x a9=>by have :=(aK.2.2.2.2 x a9).2; omega) ag) U ?_;rintro cv ca ⟨bB,ae⟩;obtain ⟨x,o,bJ,b0,bi⟩:=OA A;rw [b0] at bB;subst bB;refine p mv<|aC 13 U<|cd U (fun a6=> ?_) fun a6=> ?_;have ad:=bi.resolve_left fun h=>a6<|by rw [h.1]; rfl
 refine bD 1 U<|fh fun al=>aW [0,1] U al<|cz 2 U (bZ tk U U ag<|aU.ok (E.wk<|I.trans ae)<|rP<|by rw [aa.1]; omega) al<|aW [3] U al<|c9 4 U al (rQ (E.wk<|I.trans ae) au 0 ag)<|aW [5,6,7,8] U al<|hn an<|bg 5 U<|tr<|bg 2 U<|f3 U U U U ?_;refine ⟨.inr ⟨aL,bJ,?_,U⟩,(hE15.trans<|I.trans ae).trans al⟩;unfold gZ;rw [if_neg V];exact tN (k:=i+1) (by rw [FB ap (by rw [hr]; exact ad.2),hr]) ag;have ad:=(bi.resolve_right fun h=>a6 ag).2;refine az 6 U<|e<|aH (FZ w.heap.size Z a b va vb (.slice none 0 0) [] [] x ca (ac.wk ae) M.ua M.ub ag) U ?_;rintro cw cA ⟨bC,bj⟩;rw [← M.has a3 x] at bC;subst bC;have ab:=(I.trans ae).trans bj;refine aC 10 U<|cd U (fun aw=> ?_) fun aw=> ?_;have O:g x≠none:=fun h=>aw<|by rw [h]; rfl
 refine bD 1 U<|fh fun am=>aW [0,1] U am<|cz 2 U (bZ tk U U ag<|aU.ok (E.wk ab)<|rP<|by rw [aa.1]; omega) am<|aW [3] U am<|c9 4 U am (rQ (E.wk ab) au 0 ag)<|aW [5,6,7] U am<|hn an<|bg 5 U<|tr<|bg 2 U<|f3 U U U U ?_;refine ⟨.inr ⟨aL,112,?_,U⟩,(hE15.trans ab).trans am⟩;unfold gZ;rw [if_neg V];exact tN (k:=i+1) (by rw [FF ap (by rw [hr]; exact ad) O,hr]) ag;have O:g x=none:=by
  cases O:g x with
  | none=>rfl
  | some u=>rw [O] at aw; simp only [Option.getD_some,ne_eq,mD] at aw; subst aw; exact absurd O<|a3.nz x
 refine bD 9 U<|cd U (fun bX=> ?_) fun bX=> ?_;refine bD 1 U<|fh fun ao=>aW [0,1] U ao<|cz 2 U (bZ tk U U ag<|aU.ok (E.wk ab)<|rP<|by rw [aa.1]; omega) ao<|aW [3] U ao<|c9 4 U ao (rQ (E.wk ab) au 0 ag)<|aW [5,6,7] U ao<|hn an<|bg 5 U<|tr<|bg 2 U<|f3 U U U U ?_;refine ⟨.inr ⟨aL,280,?_,U⟩,(hE15.trans ab).trans ao⟩;unfold gZ;rw [if_neg V];exact tN (k:=i+1) (by rw [FE ap (by rw [hr]; exact ad) O ag,hr]) ag;refine bD 3 U ?_;have bt:=FD ap (by rw [hr]; exact ad) O ag;have a8:=Dx ad;have ck:=a8.2.2;have bA:=OB (o:=o) M O;have cp:0 < (A.getD 0 []).length:=uK.2 (b2 _<|gK ag).1;obtain ⟨a0,aX,rfl⟩:=ac.ra.slice;obtain ⟨aO,aZ,rfl⟩:=ac.rb.slice;refine az 2 U<|e<|e9 eu U U fun aV ba ci a4 bN=> ?_;have ct:=a4.size;have J:=ab.trans a4.md;have ak:=ac.wk<|(ae.trans bj).trans a4.md;have br:bQ ba.heap (some ⟨aV,0,none⟩) [x]:=aU.dB bN;refine aj 7 U<|p (bZ tk U U ag<|aU.ok (E.wk J)<|rP<|by rw [aa.1]; omega)<|aj 1 U<|p (ay U<|rQ (E.wk J) au 1 ag)<|p (bZ dJ U U ag<|aU.ok (ax.wk J)<|ef ag)<|p (ay U<|bQ.get (i:=0) (ax.wk J) ag)<|p (kK 0 u9 U U ag)<|aC 3 U<|cd U (fun bY=> ?_) fun bY=> ?_;have a7:o=1:=a8.2.1.elim (fun h=>h.1) fun h=>absurd (show dm A=43 by unfold dm; omega) h.2;refine az 6 U<|p (ay U<|ak.B.aG 0)<|aj 1 U<|e<|aH (uf a [x] a0 (some ⟨aV,0,none⟩) aX 1 ba (ak.ra.mR.2) br M.ua (I0 _ _)<|by simp only [dC]; omega) U ?_;rintro cx cb ⟨bm,bv⟩;obtain ⟨aR,a1,rfl⟩:=de bv;have aF:=ak.wk bm;refine aj 3 U<|e<|fj o0 U U (v:= .slice aR (bP<|a++ [x]).length a1) U aF.obj (by show 0 < 3; decide) fun bF bo bK=> ?_;have bR:cT bF w.heap.size Z (bP<|a++ [x]) b (.slice aR (bP<|a++ [x]).length a1) (.slice aO b.length aZ) (.slice none 0 0) [] []:=by
  have aE:∀ {v:ah} {l:Tl},dt cb w.heap.size v l→dt bF w.heap.size v l:=fun {v l} h=>h.md bo fun k aD cur z=>by subst aD; rw [aF.obj]; intro C; injection C with C; injection C with _ C; exact absurd C aI
  exact ⟨bK,aF.lo,aE ((dt.own bv).mono<|by have :=J.size; omega),aE aF.rb,eL _ _ _ _,U,fun i q r av bh=>by simp at av⟩
 have b1:=ac.lo;exact aj 5 U<|p (bW<|i+1)<|ar 2 U<|tn<|⟨_,ag,i+1,(fun y=>if y=x then some o else g y),bP (a++ [x]),b,.slice aR (bP<|a++ [x]).length a1,.slice aO b.length aZ,ag,bt,bR,(bA.1 a7),((J.trans bm).trans' bo fun k aD h=>by omega),U,U⟩
 have a7:o= -1:=a8.2.1.elim (fun h=>absurd (show ((A.getD 0 []).getD 0 0).toNat=43 from h.2) ag) fun h=>h.1;refine az 6 U<|p (ay U<|ak.B.aG 1)<|aj 1 U<|e<|aH (uf b [x] aO (some ⟨aV,0,none⟩) aZ 1 ba (ak.rb.mR.2) br M.ub (I0 _ _)<|by simp only [dC]; omega) U ?_;rintro cy cc ⟨bn,bx⟩;obtain ⟨aS,a2,rfl⟩:=de bx;have aJ:=ak.wk bn;refine aj 3 U<|e<|fj o0 U U (v:= .slice aS (bP<|b++ [x]).length a2) U aJ.obj (by show 1 < 3; decide) fun bH bp bL=> ?_;have bS:cT bH w.heap.size Z a (bP<|b++ [x]) (.slice a0 a.length aX) (.slice aS (bP<|b++ [x]).length a2) (.slice none 0 0) [] []:=by
  have aE:∀ {v:ah} {l:Tl},dt cc w.heap.size v l→dt bH w.heap.size v l:=fun {v l} h=>h.md bp fun k aD cur z=>by subst aD; rw [aJ.obj]; intro C; injection C with C; injection C with _ C; exact absurd C aI
  exact ⟨bL,aJ.lo,aE aJ.ra,aE ((dt.own bx).mono<|by have :=J.size; omega),eL _ _ _ _,U,fun i q r av bh=>by simp at av⟩
 have b1:=ac.lo;exact aj 5 U<|p (bW<|i+1)<|ar 2 U<|tn<|⟨_,ag,i+1,(fun y=>if y=x then some o else g y),a,bP (b++ [x]),.slice a0 a.length aX,.slice aS (bP<|b++ [x]).length a2,ag,bt,bS,(bA.2 a7),((J.trans bn).trans' bp fun k aD h=>by omega),U,U⟩
 refine aB 2 U<|cg<|bg 11 U<|f3 U U U U ?_;obtain rfl :i=(et t).length:=ag;refine ⟨.inl ⟨g,a,b,Z,va,vb,?_,U,ac,M⟩,hE15.trans I⟩;unfold gZ;rw [if_neg V];exact ap
end Go.Hb.qF
end
section
namespace Go.Hb.sO
open Go.Hb.nK Go.Hb.oT Go.Hb.qF
def uT (w:ai) (k:Nat):Prop := ∃ cur e z,w.heap[k]? =some (.cells cur e z)∧e≠1∧cur.size≠1∧(cur.size≠3∨∃ a n c,cur[0]? =some (eY a n c))
theorem cR.sS {w w':ai} {B bl bs n:Nat} {vb:ah} {M:ba} {g:List UInt8→Option Int} {hist:List (List UInt8→Option Int)} {cs:List ah} {F:Nat→Prop} (h:cR w B bl bs vb M g n hist cs) (hm:Md F w w') (J:∀ k,F k→uT w k):cR w' B bl bs vb M g n hist cs:=by
 have an:¬F bl:=fun E=>by
  obtain ⟨cur,I,z,A,_,C⟩:=J _ E;obtain ⟨ac,L⟩:=h.obj;rw [L] at A;simp only [bR,nC] at A;obtain ⟨rfl,_⟩:=A;rcases C with ⟨_,C | ⟨a,n,c,C⟩⟩
  · exact C U
  · simp at C
 have ab:∀ {q:Nat} {f:ah→Option ah},cJ w.heap q dT f→¬F q:=fun {q f} hb E=>by
  obtain ⟨cur,I,z,A,_⟩:=J _ E;exact hb.fA A
 have am:∀ k,vb.ownBlock=some k→¬F k:=fun k al E=>by
  obtain ⟨cur,I,z,A,C,_⟩:=J _ E;exact hH (e':=I) h.back (fun ad=>C ad.symm) k al _ _ A
 refine ⟨hm.B h.obj an,h.dR.md hm (ab h.dR),h.eT,h.nB,h.nz,h.lo,cB h.back hm am,h.kV,?_⟩;have aa:∀ {q:Nat} {u:ah},aD w.heap q [u]→¬F q:=fun {q u} hb E=>by
  obtain ⟨cur,I,z,A,_,C⟩:=J _ E;obtain ⟨ac,L⟩:=hb;rw [L] at A;simp only [bR,nC] at A;obtain ⟨rfl,_⟩:=A;exact C.1 U
 exact h.bk.imp fun v q ⟨ao,lb,ap,A,C,ae,ag,aj,ak,O,V,Z⟩=>⟨ao,lb,ap,A,C,ae,ag,aj,ak,hm.B O (aa O),hm.B V (aa V),Z.md hm<|ab Z⟩
theorem dt.rD {w w':ai} {B bl bs n:Nat} {vb:ah} {M:ba} {g:List UInt8→Option Int} {hist:List (List UInt8→Option Int)} {cs:List ah} {J:Nat} {v:ah} {l:Tl} (E:cR w B bl bs vb M g n hist cs) (hm:Md (jc bl bs vb) w w') (h:dt w J v l):dt w' J v l:=by
 obtain ⟨a,C,rfl,I,h | ⟨b,cur,z,rfl,hb,A,L⟩⟩:=h
 · exact ⟨a,C,U,I,.inl h⟩
 · cases l with
   | nil=>exact ⟨_,C,rfl,I,.inl rfl⟩
   | cons x xs=>
     refine ⟨_,C,U,I,.inr ⟨b,cur,z,U,hb,?_,L⟩⟩;have h0:=L 0 (str x) rfl;rw [hm.dA b (cr.1 A).1 ?_]
     · exact A
     · rintro (rfl | rfl | V)
       · obtain ⟨Z,O⟩:=E.obj;rw [O] at A;simp only [bR,nC] at A;obtain ⟨rfl,_⟩:=A;simp [str] at h0
       · exact E.dR.fA A
       · exact hH (e':=9) E.back aI b V _ _ A
theorem cT.rD {w w':ai} {B bl bs n:Nat} {vb:ah} {O:ba} {g:List UInt8→Option Int} {hist:List (List UInt8→Option Int)} {cs:List ah} {L xr:Nat} {a b:Tl} {va vc vk:ah} {vals:List (ah×ah)} {bck:List (Tl×Tl)} (C:cR w B bl bs vb O g n hist cs) (hm:Md (jc bl bs vb) w w') (h:cT w L xr a b va vc vk vals bck) (V:∀ k,vk.ownBlock=some k→k≠bl∧k≠bs):cT w' L xr a b va vc vk vals bck:=by
 refine ⟨hm.ax h.obj ?_,h.lo,dt.rD C hm h.ra,dt.rD C hm h.rb,cB h.back hm fun k J E=> ?_,h.vl,fun i q t A I=>⟨dt.rD C hm (h.fM i q t A I).1,dt.rD C hm (h.fM i q t A I).2⟩⟩
 · rintro (rfl | rfl | J)
   · obtain ⟨Z,U⟩:=C.obj;have A:=h.obj;rw [U] at A;simp only [bR,nC] at A;obtain ⟨a2,c2,I⟩:=h.ra.slice;have M:=congrArg (fun q=>q[0]?) A.1;rw [I] at M;simp at M
   · exact C.dR.fA h.obj
   · exact hH (e':=68) C.back aI xr J _ _ h.obj
 · obtain ⟨A,I⟩:=V k J;rcases E with E | E | E
   · exact A E
   · exact I E
   · exact rC h.back C.back aI J E
def kZ (w:ai) (vk:ah):Prop := ∀ k,vk.ownBlock=some k→∃ cur z,w.heap[k]? =some (.cells cur 65 z)∧cur.size≠1∧∃ a n c,cur[0]? =some (eY a n c)
theorem kZ.md {F:Nat→Prop} {w w':ai} {vk:ah} (h:kZ w vk) (hm:Md F w w') (I:∀ k,vk.ownBlock=some k→¬F k):kZ w' vk:=fun k A=>by
 obtain ⟨cur,z,C,E⟩:=h k A;exact ⟨cur,z,hm.ax C (I k A),E⟩
theorem kZ.of {V xr:Nat} {a b:Tl} {va vc vk:ah} {vals:List (ah×ah)} {bck:List (Tl×Tl)} {w:ai} (h:cT w V xr a b va vc vk vals bck) (hn:bck≠[]):kZ w vk:=fun k I=>by
 cases hb:bck with
 | nil=>exact absurd hb hn
 | cons t0 tr=>
   obtain ⟨cur,z,M⟩:=rB h.back I;have U:=h.vl;rw [hb] at U;obtain ⟨A,qr,rfl⟩:∃ A qr,vals=A::qr:=by
    cases vals with
    | nil=>simp at U
    | cons A qr=>exact ⟨_,_,rfl⟩
   obtain ⟨a2,c2,Z⟩:=(h.fM 0 A t0 rfl (by rw [hb]; rfl)).1.slice;have L:cur[0]? =some A.1∧cur[1]? =some A.2:=by
    rcases h.back.2 with ⟨rfl,_⟩ | ⟨g0,cap,aa,rfl,_,J,_,_,_,O⟩
    · simp [dM] at I
    · simp only [dM,bR] at I;subst I;rw [M] at J;simp only [bR,nC] at J;obtain ⟨rfl,_⟩:=J;have C:(cur.toList.take<|bck.length*2)[0]? =some A.1:=by rw [O]; rfl
      have E:(cur.toList.take<|bck.length*2)[1]? =some A.2:=by rw [O]; rfl
      rw [List.getElem?_take] at C E;constructor
      · split at C
        · simpa using C
        · cases C
      · split at E
        · simpa using E
        · cases E
   refine ⟨cur,z,M,fun ab=> ?_,a2,_,c2,by rw [L.1,Z]⟩;have :=(cr.1 L.2).1;omega
theorem cT.sS {C xr:Nat} {a b:Tl} {va vc vk:ah} {vals:List (ah×ah)} {bck:List (Tl×Tl)} {w:ai} (h:cT w C xr a b va vc vk vals bck) (L:kZ w vk):∀ k,k=xr∨vk.ownBlock=some k→uT w k:=by
 rintro k (rfl | E)
 · obtain ⟨a2,c2,A⟩:=h.ra.slice;exact ⟨_,_,_,h.obj,aI,(by show (3:Nat)≠1; decide),.inr ⟨a2,_,c2,by rw [A]; rfl⟩⟩
 · obtain ⟨cur,z,A,I,J⟩:=L k E;exact ⟨cur,_,z,A,aI,I,.inr J⟩
structure eB (wD w:ai) (bw kb:Nat) (cs7:List ah) (bl bs:Nat) (vb:ah) (g:List UInt8→Option Int) (n:Nat) (hist gz:List (List UInt8→Option Int)) (cs:List ah) (xr:Nat) (la lb:Tl) (va vc vk:ah) (vals:List (ah×ah)) (bck:List (Tl×Tl)):Prop where
 wk:Wk wD w
 obj:w.heap[bw]? =some (.cells ([cZ (some ⟨kb,0,none⟩)]++cs7++ [cZ (some ⟨bl,0,none⟩),cZ (some ⟨xr,0,none⟩)]).toArray 70 (0,0))
 lo:wD.heap.size≤bw
 own:cR w wD.heap.size bl bs vb ⟨kb,0,none⟩ g n hist cs
 ta:∃ g0,kB g0 hist gz g
 ref:cT w wD.heap.size xr la lb va vc vk vals bck
 jS:dd g la lb
 oX:bck.length=hist.length
 kP:∀ (i:Nat) t,bck[i]? =some t→dd (gz.getD i dG) t.1 t.2
 sep:∀ k,vk.ownBlock=some k→k≠bl∧k≠bs
 Cq:kZ w vk
 c7:cs7.length=7
def mO (wD w:ai) (bw kb:Nat) (cs7:List ah) (m:Nat):Prop := ∃ bl bs vb g n hist gz cs xr la lb va vc vk vals bck,eB wD w bw kb cs7 bl bs vb g n hist gz cs xr la lb va vc vk vals bck∧hist.length≤m
section
variable {wD w w':ai} {bw kb:Nat} {cs7:List ah} {bl bs:Nat} {vb:ah} {g:List UInt8→Option Int} {n:Nat} {hist gz:List (List UInt8→Option Int)} {cs:List ah} {xr:Nat} {la lb:Tl} {va vc vk:ah} {vals:List (ah×ah)} {bck:List (Tl×Tl)}
theorem eB.nw (h:eB wD w bw kb cs7 bl bs vb g n hist gz cs xr la lb va vc vk vals bck) (hm:Wk w w'):eB wD w' bw kb cs7 bl bs vb g n hist gz cs xr la lb va vc vk vals bck:=
 ⟨h.wk.trans hm,Wk.ax hm h.obj,h.lo,h.own.wk hm,h.ta,h.ref.wk hm,h.jS,h.oX,h.kP,h.sep,h.Cq.md hm (fun _ _ h=>h),h.c7⟩
theorem eB.ok (h:eB wD w bw kb cs7 bl bs vb g n hist gz cs xr la lb va vc vk vals bck):eA g∧∃ m,dh g m∧m≤500:=by
 obtain ⟨g0,h⟩:=h.ta;exact Kq h
theorem eB.len (h:eB wD w bw kb cs7 bl bs vb g n hist gz cs xr la lb va vc vk vals bck):la.length+lb.length=n∧n≤500:=⟨h.jS.eT h.ok.1 h.own.eT,h.own.nB⟩
theorem eB.B (h:eB wD w bw kb cs7 bl bs vb g n hist gz cs xr la lb va vc vk vals bck):aD w.heap bw ([cZ (some ⟨kb,0,none⟩)]++cs7++ [cZ (some ⟨bl,0,none⟩),cZ (some ⟨xr,0,none⟩)]):=⟨_,h.obj⟩
theorem eB.cells (h:eB wD w bw kb cs7 bl bs vb g n hist gz cs xr la lb va vc vk vals bck):aO w.heap bw (0 +0)=some (.pointer<|some ⟨kb,0,none⟩)∧aO w.heap bw (0 +8)=some (.pointer<|some ⟨bl,0,none⟩)∧aO w.heap bw (0 +9)=some (.pointer<|some ⟨xr,0,none⟩)∧∀ j,j < 7→aO w.heap bw (0 +(1 +j))=cs7[j]? :=by
 have O:=h.c7;obtain ⟨A,C,E,I,J,L,M,rfl⟩:∃ A C E I J L M,cs7= [A,C,E,I,J,L,M]:=by
  match cs7,O with
  | [A,C,E,I,J,L,M],_=>exact ⟨_,_,_,_,_,_,_,rfl⟩
 refine ⟨h.B.aG 0,h.B.aG 8,h.B.aG 9,fun j U=>(h.B.aG<|1 +j).trans ?_⟩
 match j,U with
 | 0,_=>rfl
 | 1,_=>rfl
 | 2,_=>rfl
 | 3,_=>rfl
 | 4,_=>rfl
 | 5,_=>rfl
 | 6,_=>rfl
theorem eB.size (h:eB wD w bw kb cs7 bl bs vb g n hist gz cs xr la lb va vc vk vals bck):([cZ (some ⟨kb,0,none⟩)]++cs7++ [cZ (some ⟨bl,0,none⟩),cZ (some ⟨xr,0,none⟩)]).toArray.size=10:=by
 simp only [List.size_toArray,bp,List.length_cons,List.length_nil,h.c7]
theorem eB.sZ (h:eB wD w bw kb cs7 bl bs vb g n hist gz cs xr la lb va vc vk vals bck) (hm:Md (jc bl bs vb) w w'):
 Wk wD w'∧w'.heap[bw]? =some (.cells ([cZ (some ⟨kb,0,none⟩)]++cs7++ [cZ (some ⟨bl,0,none⟩),cZ (some ⟨xr,0,none⟩)]).toArray 70 (0,0))∧cT w' wD.heap.size xr la lb va vc vk vals bck∧kZ w' vk:=by
 refine ⟨h.wk.trans' hm (fun k E A=> ?_),hm.ax h.obj ?_,cT.rD h.own hm h.ref h.sep,h.Cq.md hm fun k E A=> ?_⟩
 · rcases A with rfl | rfl | A
   · have :=h.own.lo; omega
   · have :=h.own.lo; omega
   · have :=(da h.own.back A).1; omega
 · rintro (rfl | rfl | E)
   · obtain ⟨L,J⟩:=h.own.obj;have C:=h.obj;rw [J] at C;simp only [bR,nC] at C;have I:=congrArg HS C.1;rw [h.size] at I;simp at I
   · exact h.own.dR.fA h.obj
   · exact hH (e':=70) h.own.back aI bw E _ _ h.obj
 · obtain ⟨C,I⟩:=h.sep k E;rcases A with A | A | A
   · exact C A
   · exact I A
   · exact rC h.ref.back h.own.back aI E A
theorem eB.FT (U:cR w wD.heap.size bl bs vb ⟨kb,0,none⟩ g n hist cs) (I:w.heap[bw]? =some (.cells ([cZ (some ⟨kb,0,none⟩)]++cs7++ [cZ (some ⟨bl,0,none⟩),cZ (some ⟨xr,0,none⟩)]).toArray 70 (0,0))) (M:cs7.length=7) (A:cT w wD.heap.size xr la lb va vc vk vals bck) (O:kZ w vk) (hw:Wk wD w) (hm:Md (fun k=>k=xr∨vk.ownBlock=some k) w w'):
 Wk wD w'∧w'.heap[bw]? =some (.cells ([cZ (some ⟨kb,0,none⟩)]++cs7++ [cZ (some ⟨bl,0,none⟩),cZ (some ⟨xr,0,none⟩)]).toArray 70 (0,0))∧cR w' wD.heap.size bl bs vb ⟨kb,0,none⟩ g n hist cs:=by
 refine ⟨hw.trans' hm (fun k J E=> ?_),hm.ax I ?_,cR.sS U hm<|cT.sS A O⟩
 · rcases E with rfl | E
   · have :=A.lo; omega
   · have :=(da A.back E).1; omega
 · rintro (rfl | J)
   · have C:=A.obj;rw [I] at C;simp only [bR,nC] at C;have L:=congrArg HS C.1;simp [M] at L
   · exact hH (e':=70) A.back aI bw J _ _ I
end
end Go.Hb.sO
end
section
namespace Go.Hb.uZ
open Go.Hb.nK Go.Hb.oT Go.Hb.qF Go.Hb.sO
theorem u5.form {s:List UInt8} {w w':ai} {v:ah} (h:u5 s w v w'):∃ E I x2 J L M O q,v= .tuple #[.agg [E,I,x2,J,L,M,O].toArray,.int .i64 ((q:Nat):Int)]∧[E,I,x2,J,L,M,O].all Value.oneCell'=true∧Wk w w'∧
 ((q≠0∧∃ aj,cC s= .error aj)∨(q=0∧∃ b,cC s= .ok b∧iY w' w.heap.size [E,I,x2,J,L,M,O] b)):=by
 obtain ⟨h,ag⟩:=h;rcases h with ⟨b,cs,A,C,hb⟩ | ⟨A,q,am,C⟩
 · obtain ⟨al,ak⟩:=hb.one;obtain ⟨V,Z,aa,ab,ac,ad,ae,rfl⟩:∃ V Z aa ab ac ad ae,cs= [V,Z,aa,ab,ac,ad,ae]:=by
    match cs,al with
    | [V,Z,aa,ab,ac,ad,ae],_=>exact ⟨_,_,_,_,_,_,_,rfl⟩
   exact ⟨_,_,_,_,_,_,_,0,C,ak,ag,.inr ⟨U,b,A,hb⟩⟩
 · exact ⟨_,_,_,_,_,_,_,q,C,U,ag,.inl ⟨am,A⟩⟩
def uU (s:List UInt8) (w:ai) (v:ah) (w':ai):Prop :=((∃ C,cC s= .error C)∧v= .tuple #[.pointer none,.bool true]∧Wk w w')∨(∃ wD bw kb b B1 A cs7,cC s= .ok b∧v= .tuple #[.pointer (some ⟨bw,0,none⟩),.bool true]∧Wk w wD∧ez wD B1 kb b s∧iY wD A cs7 b∧mO wD w' bw kb cs7 0)
theorem Pl {l:List bH} (h:shaped l=true):0 < l.length:=by
 unfold shaped at h;simp only [Bool.and_eq_true,decide_eq_true_eq] at h;exact h.1.1
theorem Kt {g:List UInt8→Option Int} {l:List bH} {x:List UInt8} (h:(g x).getD 0=1):lk g l x=true :=by
 unfold lk; rw [if_pos h]
theorem Ks {g:List UInt8→Option Int} {l:List bH} {x:List UInt8} (A:eA g) (h:¬(g x).getD 0=1) (h0:¬(g x).getD 0=0):lk g l x=false :=by
 rw [Ku A h0];refine decide_eq_false ?_;cases hx:g x with
 | none=>rw [hx] at h0; exact absurd rfl h0
 | some o=>
   rcases A.val x o hx with rfl | rfl
   · rw [hx] at h; exact absurd rfl h
   · decide
theorem iY.sec {w:ai} {B:Nat} {cs:List ah} {b:eS} (h:iY w B cs b):∃ A cc,cs[3]? =some (.slice A (cU b 0).length cc)∧gh w.heap A (cU b 0):=by
 obtain ⟨ra,rc,vs,rfl,J,_,E⟩:=h;obtain ⟨A,cc,C,_,I⟩:=(E 0 ag).my;refine ⟨A,cc,?_,I⟩;rw [eH (by simp)];show vs[0]? =_;rw [cW] at C;rw [cI ag] at C ⊢;exact congrArg some C
theorem O3 {s:List UInt8} {b:eS} (h:cC s= .ok b):0 < (cU b 0).length:=by
 have hi:=C5 h;have hm:b.jq.getD 0 []∈b.jq:=gK<|by rw [hi.Fh]; decide
 exact Pl (hi.jq _ hm).1
theorem JQ (s:List UInt8) (w:ai) (aK:s.length≤1048576):
 aY aq 7 (bd [str s]) w (uU s w):=by
 refine enter func7 U ntmps7 U<|aP 8 U<|p mv<|e<|aH (Nd s w aK) U ?_;rintro v11 aM ⟨ab,a1⟩;obtain ⟨E,u,rfl,aF,a6⟩:∃ E u,v11= .tuple #[.pointer E,u]∧(∀ A,E=some A→∃ kb b,A=⟨kb,0,none⟩∧cC s= .ok b∧ez aM w.heap.size kb b s)∧(E=none→∃ ad,cC s= .error ad):=by
  cases hX:cC s with
  | ok b=>rw [hX] at ab; obtain ⟨kb,h,a5⟩:=ab; exact ⟨_,_,h,fun A C=>⟨kb,b,(Option.some.inj C).symm,rfl,a5⟩,fun C=>by cases C⟩
  | error q=>rw [hX] at ab; exact ⟨_,_,ab,fun A C=>(by cases C),fun _=>⟨q,rfl⟩⟩
 clear ab;refine p mv<|aj 2 U<|p aT<|p aT<|aj 4 U<|p mv<|e<|aH (Of s aM aK) U fun bv a8 a4=> ?_;obtain ⟨I,J,x2,M,O,V,Z,q,rfl,a7,ak,aL⟩:=u5.form a4;have bm:=ak.size;refine p mv<|aj 2 U<|e<|fv Bu fun ap bz bf ay aV=> ?_;have br:=ay.size;refine e<|fk qL U U U a7 aV aI fun wD a2 aW=> ?_;have aX:aD wD.heap ap [I,J,x2,M,O,V,Z]:=⟨_,aW⟩
 have al:Wk a8 wD:=ay.md.trans' a2 fun k bi h=>by omega
 have av:Wk w wD:=(a1.trans ak).trans al;refine aj 5 U<|p mv<|e<|aH (Fb E wD) U fun v20 ao aB=>p aT<|aC 9 U<|cd U (fun an=> ?_) fun an=> ?_;obtain ⟨_,ad,aJ⟩:=aL.resolve_right fun h=>an<|by rw [h.1]; rfl
 obtain rfl :E=none:=by
  cases E with
  | none=>rfl
  | some A=>obtain ⟨_,_,_,h,_⟩:=aF A rfl; rw [aJ] at h; cases h
 obtain ⟨_,rfl,aa⟩:(none:Option ba)=none∧v20= .pointer none∧Wk wD ao:=aB.resolve_right fun ⟨_,_,_,h,_⟩=>by cases h
 refine az 2 U<|p mv<|p (gW pO U U)<|aj 1 U<|gb (t:=25) U (fun bg=> ?_) fun h=>absurd ((U).symm.trans h) dw;exact bo U mv<|bo U (gW u32 U U)<|ar 7 U<|f2 U U U<|.inl ⟨⟨ad,aJ⟩,U,av.trans aa⟩;obtain ⟨bj,b,ae,aZ⟩:=aL.resolve_left fun h=>an ag;obtain ⟨A,bl,bs,rfl,rfl,bt,bu,a3,aa⟩:=aB.resolve_left fun ⟨h,_⟩=>by obtain ⟨ad,C⟩:=a6 h; rw [C] at ae; cases ae
 obtain ⟨kb,aN,rfl,aE,a0⟩:=aF A rfl;obtain rfl :b=aN:=by rw [ae] at aE; cases aE; rfl
 have bn:=aa.size;refine az 4 U<|p mv<|p (fi oW U (U) (show ∀ j,j < 7→aO ao.heap ap (0 +j)=([I,J,x2,M,O,V,Z]:List ah)[j]? from fun j _=>(Wk.B aa aX).aG j))<|p mv<|p (dE (ps:= []) (L:= [.slice none 0 0,.slice none 0 0,.slice none 0 0]) GR U<|U)<|e<|sW (L:= [.slice none 0 0,.slice none 0 0,.slice none 0 0]) U fun ac bx bb aw aS=> ?_;have bp:=aw.size;refine p (Cr (ps:= [(0,aA kb),(1,.agg [I,J,x2,M,O,V,Z].toArray),(2,aA bl),(3,aA ac)]) (L:= [cZ (some ⟨kb,0,none⟩),I,J,x2,M,O,V,Z,aA bl,aA ac]) PK U<|by simp [Instr.fill,Value.cells])<|e<|sW (L:= [cZ (some ⟨kb,0,none⟩),I,J,x2,M,O,V,Z,aA bl,aA ac]) U fun aQ a9 bc am aU=> ?_;have bq:=am.size;have au:Wk ao a9:=aw.md.trans am.md;refine p mv<|p (pD pO U U)<|aj 1 U<|gb (t:=38) U (fun bh=> ?_) fun h=>absurd ((U).symm.trans h) dw;refine bo U mv<|bo U (pD u32 U U)<|ar 6 U<|f2 U U U<|.inr ⟨wD,aQ,kb,b,_,_,[I,J,x2,M,O,V,Z],ae,U,av,a0.wk (ak.trans al),aZ.wk al,bl,bs,.slice none 0 0,(fun _=>none),0,[],[fun _=>none],[],ac,[],[],.slice none 0 0,.slice none 0 0,.slice none 0 0,[],[],?_,by simp⟩;exact ⟨aa.trans au,aU,ag,a3.wk au,⟨_,sN.start⟩,⟨Wk.ax am.md aS,ag,dt.nil _ _,dt.nil _ _,eL _ _ _ _,U,fun i q t aR C=>by simp at aR⟩,dd.nil,U,fun i t h=>by simp at h,fun k h=>by simp [dM] at h,fun k h=>by simp [dM] at h,U⟩
set_option maxHeartbeats 2000000 in
theorem Kk {wD:ai} {bw kb:Nat} {cs7:List ah} {bl bs:Nat} {vb:ah} {g:List UInt8→Option Int} {n:Nat} {hist gz:List (List UInt8→Option Int)} {cs:List ah} {xr:Nat} {la lb:Tl} {va vc vk:ah} {vals:List (ah×ah)} {bck:List (Tl×Tl)} (w:ai) {b:eS} {s:List UInt8} {B1 ax:Nat} (h:eB wD w bw kb cs7 bl bs vb g n hist gz cs xr la lb va vc vk vals bck) (aG:ez wD B1 kb b s) (aF:iY wD ax cs7 b) (am:cC s= .ok b) (ws:Tl) (M:Option ba) (av:Nat) (al:bQ w.heap M ws) (a0:ws.length≤1048576) (aS:∀ x∈ws,x.length≤1048576):
 aY aq 26 (bd [aA bw,.slice M ws.length av]) w (fun v w'=>v= .bool true∧Wk w w'):=by
 obtain ⟨O,V,aD,aL⟩:=iY.sec aF;have ak:iZ (cU b 0):=O2 (C5 am) 0;have aN:=O3 am;have ao:=h.ok.1;have aZ:=h.len;refine enter func26 U ntmps26 U<|aP 8 U<|p mv<|aC 5 U<|lp (fun Z aw L=> ∃ (j:Nat),(j≤ws.length)∧(Wk w L)∧(Sl aw [(0,aA bw),(10,.slice M ws.length av),(11,aQ (ws.length)),(12,aQ j)])∧(ws.length - j=Z)) _ ⟨0,ag,(Md.refl _ _),U,U⟩ ?_;rintro Z aw L ⟨j,aX,A,aR,rfl⟩;refine bG aR<|bV 6 U<|cd U (fun aM=> ?_) fun aM=> ?_;refine bD 5 U ?_;have a1:(ws.getD j []).length≤1048576:=aS _<|gK ag;refine az 1 U<|p (bZ dJ U U ag<|aU.ok (al.wk A)<|ef ag)<|p (ay U<|bQ.get (i:=j) (al.wk A) ag)<|aj 8 U<|p (ay U<|(h.nw A).cells.2.2.1)<|aj 1 U<|e<|aH (FZ wD.heap.size xr la lb va vc vk vals bck (ws.getD j []) L (h.nw A).ref h.jS.ua h.jS.ub ag) U ?_;rintro v21 au ⟨ap,aI⟩;rw [← h.jS.has ao (ws.getD j [])] at ap;subst ap;have ac:=A.trans aI;have aa:=h.nw ac;refine aj 9 U<|p (pc Cj U U ag)<|p (ay U (show aO au.heap bw (0 +(1 +3))=some (.slice O (cU b 0).length V) from (aa.cells.2.2.2 3 ag).trans aD))<|aj 1 U<|e<|aH (Oe O V (cU b 0) (ws.getD j []) au (aL.wk aa.wk) ak aN ag) U ?_;rintro v30 aT ⟨⟨a2,rfl⟩,hE30⟩;have ad:=ac.trans hE30;have ab:=h.nw ad;refine p mv<|aj 11 U<|p (ay U<|ab.cells.2.1)<|aj 1 U<|e<|aH (l9 wD.heap.size bl bs vb ⟨kb,0,none⟩ g n hist cs (ws.getD j []) aT ab.own) U ?_;rintro a3 aV ⟨rfl,aJ⟩;have ae:=ad.trans aJ;have C:=h.nw ae;refine aj 3 U<|gs (t:=41) U (fun h=>absurd h fun h=>h U) fun aW=>aj 3 U<|bo U (ay U<|C.cells.2.1)<|aj 1 U<|eg U U U<|aH (Kj wD.heap.size bl bs vb ⟨kb,0,none⟩ g n hist cs B1 kb b s (ws.getD j []) aV C.own U (aG.wk C.wk) ak ag) U ?_;rintro a4 a5 ⟨rfl,aK⟩;have E:=ae.trans aK;refine aj 3 U<|gs (t:=50) U (fun I=> ?_) fun I=> ?_;exact aj 6 U<|bo U (Ai u4 U U)<|aC 3 U<|cd U (fun h=>absurd h fun h=>h<|Kt I) fun an=>az 4 U<|p (bW<|j+1)<|ar 2 U<|tn<|⟨_,ag,j+1,ag,E,U,U⟩
 refine aj 3 U<|gs (t:=53) U (fun J=> ?_) fun J=> ?_;exact aj 3 U<|bo U (Ai u4 U U)<|aC 3 U<|cd U (fun h=>absurd h fun h=>h<|Kv J) fun an=>az 4 U<|p (bW<|j+1)<|ar 2 U<|tn<|⟨_,ag,j+1,ag,E,U,U⟩
 exact aj 2 U<|bo U (rF U)<|bo U (Ai u4 U U)<|aC 3 U<|cd U (fun h=>absurd h fun h=>h<|Ks ao I J) fun an=>az 4 U<|p (bW<|j+1)<|ar 2 U<|tn<|⟨_,ag,j+1,ag,E,U,U⟩
 exact aB 2 U<|cg<|bg 8 U<|aE U<|⟨U,A⟩
end Go.Hb.uZ
end
section
namespace Go.Hb.yx
open Go.Hb.nK Go.Hb.oT Go.Hb.qF Go.Hb.sO Go.Hb.uZ
theorem uW.form {t:List UInt8} {I:ba} {w w':ai} {v:ah} (h:uW t I w v w'):∃ (E:Option ba) (l q:Nat),v= .tuple #[.pointer E,.agg #[bh .i64 0,.int .i64 (l:Nat),.int .i64 (q:Nat)]]∧Wk w w'∧((q=0∧l=0∧∃ g B bl bs,gZ t= .ok g∧E=some ⟨bl,0,none⟩∧w.heap.size≤B∧cR w' B bl bs (.slice none 0 0) I g (et t).length [] [])∨(q≠0∧E=none∧gZ t= .error (l,q))):=by
 obtain ⟨⟨g,B,bl,bs,A,C,J,L⟩ | ⟨l,q,A,C⟩,hE⟩:=h
 · exact ⟨_,0,0,C,hE,.inl ⟨U,U,g,B,bl,bs,A,U,J,L⟩⟩
 · exact ⟨none,l,q,C,hE,.inr ⟨FA A,U,A⟩⟩
theorem uX.form {t:List UInt8} {w w':ai} {v:ah} (h:uX t w v w'):∃ (E:Option ba) (l q:Nat),v= .tuple #[.pointer E,.int .i64 (l:Nat),.int .i64 (q:Nat)]∧Wk w w'∧((q=0∧l=0∧∃ g a b xr va vb,gZ t= .ok g∧E=some ⟨xr,0,none⟩∧cT w' w.heap.size xr a b va vb (.slice none 0 0) [] []∧dd g a b)∨(q≠0∧E=none∧gZ t= .error (l,q))):=by
 obtain ⟨⟨g,a,b,xr,va,vb,A,C,I,J⟩ | ⟨l,q,A,C⟩,hE⟩:=h
 · exact ⟨_,0,0,C,hE,.inl ⟨U,U,g,a,b,xr,va,vb,A,U,I,J⟩⟩
 · exact ⟨none,l,q,C,hE,.inr ⟨FA A,U,A⟩⟩
theorem N1 {t:List UInt8} {g:List UInt8→Option Int} (h:gZ t= .ok g):eA g∧dh g (et t).length∧(et t).length≤500:=by
 unfold gZ at h;split at h
 · cases h
 · exact wO h
theorem cR.mono {w:ai} {B B' bl bs n:Nat} {vb:ah} {A:ba} {g:List UInt8→Option Int} {hist:List (List UInt8→Option Int)} {cs:List ah} (h:cR w B bl bs vb A g n hist cs) (C:B'≤B):cR w B' bl bs vb A g n hist cs:=
 ⟨h.obj,h.dR,h.eT,h.nB,h.nz,⟨by have :=h.lo; omega,by have :=h.lo; omega⟩,nh h.back C,h.kV,h.bk⟩
theorem cT.mono {w:ai} {B B' xr:Nat} {a b:Tl} {va vb vk:ah} {vals:List (ah×ah)} {bck:List (Tl×Tl)} (h:cT w B xr a b va vb vk vals bck) (A:B'≤B):cT w B' xr a b va vb vk vals bck:=
 ⟨h.obj,by have :=h.lo; omega,h.ra.mono A,h.rb.mono A,nh h.back A,h.vl,fun i q t C E=>⟨(h.fM i q t C E).1.mono A,(h.fM i q t C E).2.mono A⟩⟩
theorem cT.Hj {F:Nat→Prop} {w w':ai} {B xr:Nat} {a b:Tl} {va vb vk:ah} {vals:List (ah×ah)} {bck:List (Tl×Tl)} (h:cT w B xr a b va vb vk vals bck) (hm:Md F w w') (J:∀ k,F k→∃ cur z,w.heap[k]? =some (.cells cur 70 z)):cT w' B xr a b va vb vk vals bck:=by
 have I:∀ k,F k→∀ cur z,w.heap[k]?≠some (.cells cur 9 z):=fun k E cur z=>by
  obtain ⟨L,z2,A⟩:=J k E;rw [A]; intro e; injection e with e; injection e with _ e; exact absurd e aI
 refine ⟨hm.ax h.obj (fun E=> ?_),h.lo,h.ra.md hm I,h.rb.md hm I,cB h.back hm (fun k E M=> ?_),h.vl,fun i q t A C=>⟨(h.fM i q t A C).1.md hm I,(h.fM i q t A C).2.md hm I⟩⟩
 · obtain ⟨L,z2,A⟩:=J _ E;have C:=h.obj;rw [A] at C;injection C with e; injection e with _ e; exact absurd e aI
 · obtain ⟨L,z2,A⟩:=J _ M;exact hH (e':=70) h.back aI k E _ _ A
theorem iG.int {B bl bs:Nat} {vb:ah} {A:ba} {g:List UInt8→Option Int} {hist:List (List UInt8→Option Int)} {C:Int} {l:Tl} {w w':ai} {v:ah} (h:iG B bl bs vb A g hist C l w v w'):∃ i,v= .int .i64 i:=by
 rcases h with ⟨_,h,_⟩ | ⟨_,m,_,⟨_,h,_⟩ | ⟨_,h,_⟩⟩ <;> exact ⟨_,h⟩
theorem iG.oa {B bl bs:Nat} {vb:ah} {A:ba} {g:List UInt8→Option Int} {hist:List (List UInt8→Option Int)} {C:Int} {l:Tl} {w w':ai} {v:ah} (h:iG B bl bs vb A g hist C l w v w'):Md (jc bl bs vb) w w':=by
 rcases h with ⟨_,_,h⟩ | ⟨_,m,_,⟨_,_,h⟩ | ⟨_,_,⟨_,h⟩ | ⟨_,_,_,_,h,_⟩⟩⟩
 · exact h.mono fun _ _ h=>h.elim
 · exact h.mono fun _ _ h=>h.elim
 · exact h.mono fun _ _ h=>h.elim
 · exact h
theorem lS.int {B xr:Nat} {a b:Tl} {vk:ah} {bck:List (Tl×Tl)} {ws:Tl} {A:Bool} {w w':ai} {v:ah} (h:lS B xr a b vk bck ws A w v w'):∃ i,v= .int .i64 i:=by
 rcases h with ⟨_,h,_⟩ | ⟨_,⟨_,h,_⟩ | ⟨_,h,_⟩⟩ <;> exact ⟨_,h⟩
theorem lS.oa {B xr:Nat} {a b:Tl} {vk:ah} {bck:List (Tl×Tl)} {ws:Tl} {A:Bool} {w w':ai} {v:ah} (h:lS B xr a b vk bck ws A w v w'):Md (fun k=>k=xr∨vk.ownBlock=some k) w w':=by
 rcases h with ⟨_,_,h⟩ | ⟨_,⟨_,_,h⟩ | ⟨_,_,⟨_,_,h⟩ | ⟨_,_,_,_,_,_,h,_⟩⟩⟩
 · exact h.mono fun _ _ h=>h.elim
 · exact h.mono fun _ _ h=>h.elim
 · exact h.mono fun _ _ h=>h.elim
 · exact h
def mA (A:Bool):Int:=if A=true then 1 else -1
theorem Oj {g:List UInt8→Option Int} {a b ws:Tl} (A:Bool) (h:dd g a b):dd (eD (mA A) (c8 (mA A) g ws) g) (eo A a b ws).1 (eo A a b ws).2:=by
 cases A with
 | true =>exact h.add
 | false =>exact h.JN
section
variable {wD w w1 w2:ai} {bw kb:Nat} {cs7:List ah} {bl bs:Nat} {vb:ah} {g:List UInt8→Option Int} {n:Nat} {hist gz:List (List UInt8→Option Int)} {cs:List ah} {xr:Nat} {la lb:Tl} {va vc vk:ah} {vals:List (ah×ah)} {bck:List (Tl×Tl)} {m:Nat}
theorem FR {ws:Tl} {i j:Int} (A:Bool) (h:eB wD w bw kb cs7 bl bs vb g n hist gz cs xr la lb va vc vk vals bck) (hm:hist.length≤m) (M:iG wD.heap.size bl bs vb ⟨kb,0,none⟩ g hist (mA A) ws w (.int .i64 i) w1) (E:lS wD.heap.size xr la lb vk bck ws A w1 (.int .i64 j) w2):i=j∧mO wD w2 bw kb cs7 (m+1):=by
 have aB:mA A=1∨mA A= -1:=by cases A <;> simp [mA]
 have an:mA A≠0:=ag;have am:=h.ok.1;have same:Wk w w1→Wk w1 w2→mO wD w2 bw kb cs7 (m+1):=fun C ac=>⟨_,_,_,_,_,_,_,_,_,_,_,_,_,_,_,_,h.nw (C.trans ac),ag⟩
 rcases M with ⟨⟨x,Z,aa⟩,O,J⟩ | ⟨ab,aC,az,M⟩
 · rcases E with ⟨_,V,L⟩ | ⟨ab,_⟩
   · cases O; cases V; exact ⟨rfl,same J L⟩
   · rw [ab x Z] at aa; cases aa
 · rcases E with ⟨⟨x,Z,aa⟩,_⟩ | ⟨_,E⟩
   · rw [ab x Z] at aa; cases aa
   · have ah:=Oj (ws:=ws) A h.jS;have ae:eA (eD (mA A) (c8 (mA A) g ws) g):=am.put aB ab;have aI:=ah.eT ae<|FQ an az;rcases M with ⟨ai,O,J⟩ | ⟨ai,O,M⟩
     · rcases E with ⟨_,V,L⟩ | ⟨ar,_⟩
       · cases O; cases V; exact ⟨rfl,same J L⟩
       · omega
     · rcases E with ⟨ar,_⟩ | ⟨_,V,E⟩
       · omega
       · cases O; cases V;refine ⟨U,?_⟩;have ak:=ah.ext h.jS ae am;rcases M with ⟨h0,J⟩ | ⟨aF,aq,⟨x,o,Z⟩,hO',hM',hf'⟩
         · rcases E with ⟨_,_,L⟩ | ⟨aA,_⟩
           · exact same J L
           · refine absurd (ak.2 ?_) aA;funext y;refine FO ?_;cases hy:c8 (mA A) g ws y with
             | none=>rfl
             | some o=>
               have :=fG.zero h0<|str y;rw [iK,hy] at this; cases this
         · have ax:=Ko an Z;rcases E with ⟨C,ac,_⟩ | ⟨_,aD,aG,aH,aE,aj,au,aw⟩
           · exact absurd (ak.1 ⟨C,ac⟩) ax
           · obtain ⟨ao,c2,c3,ap⟩:=eB.sZ h hM';obtain ⟨d1,d2,d3⟩:=eB.FT hO' c2 h.c7 c3 ap ao au;obtain ⟨g0,ad⟩:=h.ta;have av:=ad.add ae hO'.eT ai<|yG h.own.nz;have al:=ad.len;refine ⟨_,_,aF,_,aC,_,_,aq,xr,_,_,aD,aG,aH,aE,_,⟨d1,d2,h.lo,d3,⟨g0,av⟩,aj,ah,by rw [bp,bp,h.oX]; rfl,fun i t I=> ?_,fun k ay=> ?_,kZ.of aj (by simp),h.c7⟩,by rw [bp,dC]; omega⟩
             · rcases dN i bck.length with C | C
               · rw [eZ C] at I;rw [nU (by rw [al,← h.oX]; omega)];exact h.kP i t I
               · rw [eH C] at I;cases hj:i - bck.length with
                 | zero=>
                   rw [hj] at I; cases I;rw [nU (by rw [al,← h.oX]; omega),show i=hist.length by rw [← h.oX]; omega,ad.last];exact h.jS
                 | succ q=>rw [hj] at I; simp at I
             · rcases aw k ay with C | C
               · exact h.sep k C
               · have :=h.own.obj.lt;have :=h.own.dR.lt;have :=hM'.size;exact ⟨ag,ag⟩
def qH (B xr:Nat) (vk:ah) (bck:List (Tl×Tl)) (w:ai) (v:ah) (w':ai):Prop :=v= .bool (decide (0 < bck.length))∧((bck= []∧Wk w w')∨(∃ A t E J C I,bck=A++ [t]∧cT w' B xr t.1 t.2 E J C I A∧Md (fun k=>k=xr) w w'∧∀ k,C.ownBlock=some k→vk.ownBlock=some k))
theorem Qn {B xr:Nat} {a b:Tl} {va vb vk:ah} {vals:List (ah×ah)} {bck:List (Tl×Tl)} (w:ai) (I:cT w B xr a b va vb vk vals bck) (M:bck.length≤1048576):aY aq 25 (bd [.pointer (some ⟨xr,0,none⟩)]) w (qH B xr vk bck w):=by
 by_cases hb:bck= []
 · refine (Qm B xr a b va vb vk vals bck w I hb).mono fun v w' ⟨A,C⟩=>⟨?_,.inl ⟨hb,C⟩⟩
   rw [A,hb]; rfl
 · obtain ⟨E,t,rfl⟩:∃ l x,bck=l++ [x]:=⟨bck.dropLast,bck.getLast hb,(IE hb).symm⟩
   refine (Qo B xr a b va vb vk vals E t.1 t.2 w I<|by rw [bp] at M; omega).mono fun v w' ⟨A,O,Z,aa,V,C,J,L⟩=>⟨?_,.inr ⟨E,t,O,Z,aa,V,U,C,J,L⟩⟩
   rw [A,bp,dC,decide_eq_true ag]
theorem qH.oa {B xr:Nat} {vk:ah} {bck:List (Tl×Tl)} {w w':ai} {v:ah} (h:qH B xr vk bck w v w'):Md (fun k=>k=xr∨vk.ownBlock=some k) w w':=by
 rcases h.2 with ⟨_,h⟩ | ⟨_,_,_,_,_,_,_,_,h,_⟩
 · exact h.mono fun _ _ h=>h.elim
 · exact h.mono fun _ _ h=> .inl h
theorem Qi {v:ah} {U:ah} {J:List ah} {O:Nat} (h:eB wD w bw kb cs7 bl bs vb g n hist gz cs xr la lb va vc vk vals bck) (hm:hist.length≤m) (al:cR w1 wD.heap.size bl bs U ⟨kb,0,none⟩ (gz.getD (hist.length - 1) dG) O (hist.take<|hist.length - 1) J) (aj:Md (jc bl bs vb) w w1) (aa:qH wD.heap.size xr vk bck w1 v w2):mO wD w2 bw kb cs7 m:=by
 obtain ⟨ae,c2,c3,I⟩:=eB.sZ h aj;obtain ⟨d1,d2,d3⟩:=eB.FT al c2 h.c7 c3 I ae<|qH.oa aa;obtain ⟨g0,ac⟩:=h.ta;have ad:=sN.Qj ac;have ab:=h.oX;rcases aa.2 with ⟨hb,Z⟩ | ⟨E,t,ap,ar,V,aq,hb,am,ak,L⟩
 · have M:hist= []:=ku<|by rw [← ab,hb]; rfl
   have an:gz.getD (hist.length - 1) dG=g:=by rw [M]; have :=ac.last; rw [M] at this; exact this
   refine ⟨bl,bs,U,_,O,_,_,J,xr,la,lb,va,vc,vk,vals,bck,⟨d1,d2,h.lo,d3,⟨g0,ad⟩,c3.wk Z,by rw [an]; exact h.jS,by rw [hb,M]; rfl,fun i q A=>by rw [hb] at A; simp at A,h.sep,I.md Z (fun _ _ h=>h),h.c7⟩,by rw [bX]; omega⟩
 · rw [hb,bp,dC] at ab;have ao:∀ k,V.ownBlock=some k→¬k=xr:=fun k C ai=>by subst ai; exact cT.xk c3<|L _ C
   refine ⟨bl,bs,U,_,O,_,_,J,xr,t.1,t.2,ap,ar,V,aq,E,⟨d1,d2,h.lo,d3,⟨g0,ad⟩,am,?_,by rw [bX]; omega,fun i q A=> ?_,fun k C=>h.sep k (L k C),fun k C=>kZ.md (vk:=V) (fun q A=>I q<|L q A) ak ao k C,h.c7⟩,by rw [bX]; omega⟩
   · exact (show hist.length - 1=E.length by omega) ▸ h.kP E.length t (by rw [hb,eH (bf _),sK]; rfl)
   · have hi:=(dX.1 A).1;rw [pb ag];exact h.kP i q<|by rw [hb,eZ hi]; exact A
end
theorem Ar {wD:ai} {bw kb:Nat} {cs7:List ah} {bl bs:Nat} {vb:ah} {g:List UInt8→Option Int} {n:Nat} {hist gz:List (List UInt8→Option Int)} {cs:List ah} {xr:Nat} {la lb:Tl} {va vc vk:ah} {vals:List (ah×ah)} {bck:List (Tl×Tl)} {m:Nat} (w:ai) (h:eB wD w bw kb cs7 bl bs vb g n hist gz cs xr la lb va vc vk vals bck) (hm:hist.length≤m) (C:List UInt8) (aK:C.length≤1048576):
 aY aq 10 (bd [aA bw,str C]) w (fun v w'=>v= .bool true∧mO wD w' bw kb cs7 m):=by
 have aU:=h.c7;obtain ⟨ae,ak,al,am,an,ao,ap,rfl⟩:∃ ae ak al am an ao ap,cs7= [ae,ak,al,am,an,ao,ap]:=by
  match cs7,aU with
  | [ae,ak,al,am,an,ao,ap],_=>exact ⟨_,_,_,_,_,_,_,rfl⟩
 refine enter func10 U ntmps10 U<|aP 7 U<|p mv<|aj 2 U<|p (ay U<|h.cells.1)<|p mv<|e<|aH (N0 ⟨kb,0,none⟩ C w aK) U fun bE bi a5=> ?_;obtain ⟨bA,l,q,rfl,a0,aL⟩:=uW.form a5;refine p mv<|aj 2 U<|e<|fv xM fun J bF bm aF aX=> ?_;have bv:=aF.size;refine p aT<|e<|fk qK U U U U aX (by simp) fun I a1 aV=> ?_;have aW:aD I.heap J [bh .i64 0,aQ l,aQ q]:=⟨_,aV⟩
 have aw:Wk bi I:=aF.md.trans' a1 fun k A h=>by omega
 have ax:=a0.trans aw;refine aj 4 U<|p mv<|e<|aH (NZ C I aK) U fun v21 ad a7=> ?_;obtain ⟨bC,bx,bD,rfl,O,aM⟩:=uX.form a7;have aB:=ax.trans O;have av:=Wk.B O aW;refine p mv<|aj 3 U<|p aT<|aC 11 U<|cd U (fun ab=> ?_) fun ab=> ?_;obtain ⟨_,rfl,aa⟩:=aM.resolve_left fun h=>ab<|by rw [h.1]; rfl
 obtain ⟨_,rfl,bb⟩:=aL.resolve_left fun ⟨_,_,g,_,_,_,h,_⟩=>by rw [aa] at h; cases h
 rw [bb] at aa;cases aa;refine az 2 U<|p mv<|p (gW u32 U U)<|aj 1 U<|gb (t:=29) U (fun bp=> ?_) fun h=>absurd ((U).symm.trans h) dw;exact bo U (fi oV U (U) (show ∀ j,j < 3→aO ad.heap J (0 +j)=([bh .i64 0,aQ l,aQ q]:List ah)[j]? from fun j _=>av.aG j))<|aj 2 U<|bo U (dE (ps:= [(1,aQ l),(2,aQ q)]) (L:= [.int .i64 0,aQ l,aQ q]) pM U<|U)<|bo U (DC U U)<|ar 6 U<|aE U<|⟨by show bB (decide _)=_; rw [decide_eq_true ⟨U,U,U⟩],_,_,_,_,_,_,_,_,_,_,_,_,_,_,_,_,h.nw aB,hm⟩
 obtain ⟨rfl,rfl,g2,ma,mb,aN,ua,ub,ac,rfl,a6,a4⟩:=aM.resolve_right fun h=>ab ag;obtain ⟨rfl,rfl,g3,aR,au,aS,aJ,rfl,bz,a2⟩:=aL.resolve_right fun ⟨_,_,h⟩=>by rw [ac] at h; cases h
 rw [ac] at aJ;cases aJ;obtain ⟨bg,bc,bf⟩:=N1 ac;have E:=h.nw aB;refine az 5 U<|p mv<|p (gW u32 U U)<|aj 1 U<|gb (t:=38) U (fun h=>absurd (h.symm.trans<|U) dw) fun bq=>bo U (fi oV U (U) (show ∀ j,j < 3→aO ad.heap J (0 +j)=([bh .i64 0,.int .i64 ((0:Nat):Int),.int .i64 ((0:Nat):Int)]:List ah)[j]? from fun j _=>av.aG j))<|bo U (dE (ps:= []) (L:= [.int .i64 0,.int .i64 0,.int .i64 0]) pM U<|U)<|bo U (NB U U)<|aC 3 U<|cd U (fun h=>absurd h fun h=>h ⟨U,U,U⟩) fun bn=>az 4 U<|p mv<|p mv<|p mv<|p mv<|aj 2 U<|e<|fj KS U U (v:=aA au) U E.obj (by show 8 < 10; decide) fun bj V M=>aj 2 U<|e<|fj KW U U (v:=aA aN) U M (by show 9 < 10; decide) fun bG Z aZ=>ar 8 U<|aE U ?_;have a9:∀ k,k=bw→uT ad k:=fun k A=>by subst A; exact ⟨_,_,_,E.obj,aI,(by show (10:Nat)≠1; decide),.inl<|by show (10:Nat)≠3; decide⟩
 have ba:∀ k,k=bw→uT bj k:=fun k A=>by subst A; exact ⟨_,_,_,M,aI,(by show (10:Nat)≠1; decide),.inl<|by show (10:Nat)≠3; decide⟩
 have br:=h.lo;have bt:=h.wk.size;have a3:=cR.sS (cR.sS ((cR.mono a2 (show wD.heap.size≤aR by omega)).wk<|aw.trans O) V a9) Z ba;have bu:=ax.size;have a8:=cT.Hj (cT.Hj (cT.mono a6 (show wD.heap.size≤I.heap.size by omega)) V fun k A=>by subst A; exact ⟨_,_,E.obj⟩) Z fun k A=>by subst A; exact ⟨_,_,M⟩
 refine ⟨U,au,aS,.slice none 0 0,g2,(et C).length,[],[g2],[],aN,ma,mb,ua,ub,.slice none 0 0,[],[],?_,by simp⟩;exact ⟨(E.wk.trans' V fun k A h=>by omega).trans' Z (fun k A h=>by omega),aZ,h.lo,a3,⟨g2,kB.one bg bc bf⟩,a8,a4,U,fun i t h=>by simp at h,fun k h=>by simp [dM] at h,fun k h=>by simp [dM] at h,U⟩
end Go.Hb.yx
end
section
namespace Go.Hb
open Go.Hb.nK Go.Hb.oT Go.Hb.qF Go.Hb.sO Go.Hb.uZ Go.Hb.yx
theorem Ao {w1 w2:ai} {B xr bw e:Nat} {a b:Tl} {va vb vk:ah} {vals:List (ah×ah)} {bck:List (Tl×Tl)} {L:List ah} (E:cT w1 B xr a b va vb vk vals bck) (hm:Md (fun k=>k=xr∨vk.ownBlock=some k) w1 w2) (A:w1.heap[bw]? =some (.cells L.toArray 70 (0,0))):w2.heap[bw]? =some (.cells L.toArray 70 (0,0)):=by
 refine hm.ax A ?_;rintro (rfl | I)
 · have C:=E.obj;rw [A] at C;injection C with q; injection q with _ q; exact absurd q aI
 · exact hH (e':=70) E.back aI bw I _ _ A
theorem yB {wD w:ai} {bw kb:Nat} {cs7:List ah} {m:Nat} (h:mO wD w bw kb cs7 m):mO wD w bw kb cs7 (m+1):=by
 obtain ⟨bl,bs,vb,g,n,hist,gz,cs,xr,la,lb,va,vc,vk,vals,bck,h,hm⟩:=h;exact ⟨bl,bs,vb,g,n,hist,gz,cs,xr,la,lb,va,vc,vk,vals,bck,h,ag⟩
set_option maxHeartbeats 4000000 in
theorem G4 {wD:ai} {bw kb:Nat} {cs7:List ah} {bl bs:Nat} {vb:ah} {g:List UInt8→Option Int} {n:Nat} {hist gz:List (List UInt8→Option Int)} {cs:List ah} {xr:Nat} {la lb:Tl} {va vc vk:ah} {vals:List (ah×ah)} {bck:List (Tl×Tl)} {m:Nat} (w:ai) {b:eS} {s:List UInt8} {B1 bW:Nat} (h:eB wD w bw kb cs7 bl bs vb g n hist gz cs xr la lb va vc vk vals bck) (hm:hist.length≤m) (cW:m≤1048576) (b6:ez wD B1 kb b s) (b5:iY wD bW cs7 b) (ck:cC s= .ok b) (am:Int) (ws:Tl) (ab:Option ba) (ac:Nat) (ae:List UInt8) (aF:bQ wD.heap ab ws) (bG:ws.length≤ac) (cY:ws.length≤1048576) (aN:∀ x∈ws,x.length≤1048576) (cB:ae.length≤1048576):
 aY aq 8 (bd [aA bw,.agg #[bh .i64 am,.slice ab ws.length ac,str ae]]) w (fun v w'=>v= .bool true∧mO wD w' bw kb cs7 (m+1)):=by
 have b2:=h.c7;obtain ⟨E,I,J,M,O,V,Z,rfl⟩:∃ E I J M O V Z,cs7= [E,I,J,M,O,V,Z]:=by
  match cs7,b2 with
  | [E,I,J,M,O,V,Z],_=>exact ⟨_,_,_,_,_,_,_,rfl⟩
 have cV:=h.len;have aS:=h.ok.1;have cR:=eR.len h.own.bk;have cm:=h.oX;have cQ:=h.B.lt;have cX:=h.own.obj.lt;obtain ⟨a0,aU,rfl⟩:=h.ref.ra.slice;obtain ⟨aT,aV,rfl⟩:=h.ref.rb.slice;obtain ⟨cN,bF⟩:=h.ta;refine enter func8 U ntmps8 U<|aP 2 U<|e<|lV U fun ao ad cP bu b4=> ?_;have au:=b4;have c1:=bu.size;have b8:Wk w ad:=bu.md;have C:=h.nw b8;refine aj 7 U<|p (ay U<|au.aG 0)<|aC 9 U<|cd U (fun cv=> ?_) fun cv=> ?_;refine bD 1 U ?_;have ak:(fun w'=>w'.heap[bw]? =some (.cells [cZ (some ⟨kb,0,none⟩),E,I,J,M,O,V,Z,aA bl,aA xr].toArray 70 (0,0))∧aD w'.heap ao [bh .i64 am,.slice ab ws.length ac,str ae]) ad.drew:=⟨C.obj,au⟩
 refine bK (fun w'=>w'.heap[bw]? =some (.cells [cZ (some ⟨kb,0,none⟩),E,I,J,M,O,V,Z,aA bl,aA xr].toArray 70 (0,0))∧aD w'.heap ao [bh .i64 am,.slice ab ws.length ac,str ae]) U wide ak<|cz 0 U (mv) ak<|aW [1,2] U ak<|gL 3 U (fun w' A=>ay U (show aO w'.heap bw (0 +8)=some (aA bl) from aD.aG (L:= [cZ (some ⟨kb,0,none⟩),E,I,J,M,O,V,Z,aA bl,aA xr]) ⟨_,A.1⟩ 8)) ak<|aW [4] U ak<|gL 5 U (fun w' A=>ay U<|A.2.aG 1) ak<|cz 8 U (mv) ak<|aW [9,10] U ak<|gL 11 U (fun w' A=>ay U (show aO w'.heap bw (0 +9)=some (aA xr) from aD.aG (L:= [cZ (some ⟨kb,0,none⟩),E,I,J,M,O,V,Z,aA bl,aA xr]) ⟨_,A.1⟩ 9)) ak<|aW [12] U ak<|gL 13 U (fun w' A=>ay U<|A.2.aG 1) ak<|he 6 U an<|aH (Hg ws ab ac ad.drew (aF.wk C.wk.drew) ag) U ?_;rintro c5 bO ⟨bj,bH,_⟩;obtain ⟨bX,bZ,rfl⟩:=de bH;have aQ:=C.nw<|Md.gI bj;have bC:=Wk.B (Md.gI bj) au;have cc:(fun w'=>w'.heap[bw]? =some (.cells [cZ (some ⟨kb,0,none⟩),E,I,J,M,O,V,Z,aA bl,aA xr].toArray 70 (0,0))∧aD w'.heap ao [bh .i64 am,.slice ab ws.length ac,str ae]) bO:=⟨aQ.obj,bC⟩
 refine ⟨cc,?_⟩;refine he 7 U an<|aH (B4 wD.heap.size bl bs vb ⟨kb,0,none⟩ g n hist cs ws bX bZ bO aQ.own (du bH).2 ag aN ag) U fun c6 bP aX=> ?_;obtain ⟨i7,rfl⟩:=iG.int aX;have bq:=iG.oa aX;obtain ⟨aI,aL,aM,cw⟩:=eB.sZ aQ bq;have aJ:=bq.B bC<|jc.not h.own ag;have bb:=aI.size;have ce:(fun w'=>w'.heap[bw]? =some (.cells [cZ (some ⟨kb,0,none⟩),E,I,J,M,O,V,Z,aA bl,aA xr].toArray 70 (0,0))∧aD w'.heap ao [bh .i64 am,.slice ab ws.length ac,str ae]) bP:=⟨aL,aJ⟩
 refine ⟨ce,?_⟩;refine he 14 U an<|aH (FN true wD.heap.size xr la lb (.slice a0 la.length aU) (.slice aT lb.length aV) vk vals bck ws ab ac bP aM h.jS.ua h.jS.ub (aF.wk aI) bG ag aN ag ag bb) U fun c8 cI aZ=> ?_;obtain ⟨cG,rfl⟩:=lS.int aZ;have ax:=lS.oa aZ;have a8:=Ao (e:=0) aM ax aL;have a6:=ax.B aJ fun ap=>by rcases ap with ap | ap; have :=(cr.1 h.ref.obj).1; omega; have :=(da h.ref.back ap).2; omega
 have bz:(fun w'=>w'.heap[bw]? =some (.cells [cZ (some ⟨kb,0,none⟩),E,I,J,M,O,V,Z,aA bl,aA xr].toArray 70 (0,0))∧aD w'.heap ao [bh .i64 am,.slice ab ws.length ac,str ae]) cI:=⟨a8,a6⟩
 refine ⟨bz,?_⟩;refine aW [15,16] U bz<|hn an<|bg 4 U<|aE U ?_;obtain ⟨a7,a5⟩:=FR true aQ hm aX aZ;exact ⟨by rw [a7]; exact congrArg bB (decide_eq_true U),a5⟩;refine bD 6 U<|cd U (fun cp=> ?_) fun cp=> ?_;refine bD 1 U ?_;have al:(fun w'=>w'.heap[bw]? =some (.cells [cZ (some ⟨kb,0,none⟩),E,I,J,M,O,V,Z,aA bl,aA xr].toArray 70 (0,0))∧aD w'.heap ao [bh .i64 am,.slice ab ws.length ac,str ae]) ad.drew:=⟨C.obj,au⟩
 refine bK (fun w'=>w'.heap[bw]? =some (.cells [cZ (some ⟨kb,0,none⟩),E,I,J,M,O,V,Z,aA bl,aA xr].toArray 70 (0,0))∧aD w'.heap ao [bh .i64 am,.slice ab ws.length ac,str ae]) U wide al<|cz 0 U (mv) al<|aW [1,2] U al<|gL 3 U (fun w' A=>ay U (show aO w'.heap bw (0 +8)=some (aA bl) from aD.aG (L:= [cZ (some ⟨kb,0,none⟩),E,I,J,M,O,V,Z,aA bl,aA xr]) ⟨_,A.1⟩ 8)) al<|aW [4] U al<|gL 5 U (fun w' A=>ay U<|A.2.aG 1) al<|cz 8 U (mv) al<|aW [9,10] U al<|gL 11 U (fun w' A=>ay U (show aO w'.heap bw (0 +9)=some (aA xr) from aD.aG (L:= [cZ (some ⟨kb,0,none⟩),E,I,J,M,O,V,Z,aA bl,aA xr]) ⟨_,A.1⟩ 9)) al<|aW [12] U al<|gL 13 U (fun w' A=>ay U<|A.2.aG 1) al<|he 6 U an<|aH (Hg ws ab ac ad.drew (aF.wk C.wk.drew) ag) U ?_;rintro db bR ⟨bm,bI,_⟩;obtain ⟨bY,b0,rfl⟩:=de bI;have aR:=C.nw<|Md.gI bm;have bE:=Wk.B (Md.gI bm) au;have cf:(fun w'=>w'.heap[bw]? =some (.cells [cZ (some ⟨kb,0,none⟩),E,I,J,M,O,V,Z,aA bl,aA xr].toArray 70 (0,0))∧aD w'.heap ao [bh .i64 am,.slice ab ws.length ac,str ae]) bR:=⟨aR.obj,bE⟩
 refine ⟨cf,?_⟩;refine he 7 U an<|aH (Cp wD.heap.size bl bs vb ⟨kb,0,none⟩ g n hist cs ws bY b0 bR aR.own (du bI).2 ag aN ag) U fun dc bS a1=> ?_;obtain ⟨i7,rfl⟩:=iG.int a1;have br:=iG.oa a1;obtain ⟨aI,aL,aM,cw⟩:=eB.sZ aR br;have aJ:=br.B bE<|jc.not h.own ag;have bb:=aI.size;have cg:(fun w'=>w'.heap[bw]? =some (.cells [cZ (some ⟨kb,0,none⟩),E,I,J,M,O,V,Z,aA bl,aA xr].toArray 70 (0,0))∧aD w'.heap ao [bh .i64 am,.slice ab ws.length ac,str ae]) bS:=⟨aL,aJ⟩
 refine ⟨cg,?_⟩;refine he 14 U an<|aH (FN false wD.heap.size xr la lb (.slice a0 la.length aU) (.slice aT lb.length aV) vk vals bck ws ab ac bS aM h.jS.ua h.jS.ub (aF.wk aI) bG ag aN ag ag bb) U fun dd cJ a2=> ?_;obtain ⟨cG,rfl⟩:=lS.int a2;have ax:=lS.oa a2;have a8:=Ao (e:=0) aM ax aL;have a6:=ax.B aJ fun ap=>by rcases ap with ap | ap; have :=(cr.1 h.ref.obj).1; omega; have :=(da h.ref.back ap).2; omega
 have bA:(fun w'=>w'.heap[bw]? =some (.cells [cZ (some ⟨kb,0,none⟩),E,I,J,M,O,V,Z,aA bl,aA xr].toArray 70 (0,0))∧aD w'.heap ao [bh .i64 am,.slice ab ws.length ac,str ae]) cJ:=⟨a8,a6⟩
 refine ⟨bA,?_⟩;refine aW [15,16] U bA<|hn an<|bg 4 U<|aE U ?_;obtain ⟨a7,a5⟩:=FR false aR hm a1 a2;exact ⟨by rw [a7]; exact congrArg bB (decide_eq_true U),a5⟩;refine bD 6 U<|cd U (fun cq=> ?_) fun cq=> ?_;refine bD 1 U ?_;have av:(fun w'=>w'.heap[bw]? =some (.cells [cZ (some ⟨kb,0,none⟩),E,I,J,M,O,V,Z,aA bl,aA xr].toArray 70 (0,0))) ad.drew:=C.obj;refine bK (fun w'=>w'.heap[bw]? =some (.cells [cZ (some ⟨kb,0,none⟩),E,I,J,M,O,V,Z,aA bl,aA xr].toArray 70 (0,0))) U wide av<|cz 0 U (mv) av<|aW [1,2] U av<|gL 3 U (fun w' A=>ay U (show aO w'.heap bw (0 +8)=some (aA bl) from aD.aG (L:= [cZ (some ⟨kb,0,none⟩),E,I,J,M,O,V,Z,aA bl,aA xr]) ⟨_,A⟩ 8)) av<|cz 5 U (mv) av<|aW [6,7] U av<|gL 8 U (fun w' A=>ay U (show aO w'.heap bw (0 +9)=some (aA xr) from aD.aG (L:= [cZ (some ⟨kb,0,none⟩),E,I,J,M,O,V,Z,aA bl,aA xr]) ⟨_,A⟩ 9)) av<|he 4 U an<|aH (Ql (k:=hist.length) (gz:=gz) (gT:=g) ad.drew bF (by rw [bF.last,List.take_length]; exact C.own.wk (Md.refl _ _).drew) (bf _) ag) U ?_;rintro v49 bT ⟨rfl,dm,cM,c2,cb,ca,cS⟩;have bt:=Md.gI ca;obtain ⟨cO,bJ,bL,cU⟩:=eB.sZ C bt;have ch:(fun w'=>w'.heap[bw]? =some (.cells [cZ (some ⟨kb,0,none⟩),E,I,J,M,O,V,Z,aA bl,aA xr].toArray 70 (0,0))) bT:=bJ;refine ⟨ch,?_⟩;refine he 9 U an<|aH (Qn bT bL ag) U fun dh cK a3=> ?_;have cE:=a3.1;subst cE;have cy:=Ao (e:=0) bL (qH.oa a3) bJ;have a4:(fun w'=>w'.heap[bw]? =some (.cells [cZ (some ⟨kb,0,none⟩),E,I,J,M,O,V,Z,aA bl,aA xr].toArray 70 (0,0))) cK:=cy;refine ⟨a4,?_⟩;exact cz 10 U (LB u4 U U) a4<|aW [11] U a4<|hn an<|bg 4 U<|aE U<|⟨by rw [cm]; exact congrArg bB (decide_eq_true U),yB<|Qi C hm cb bt a3⟩
 refine bD 6 U<|cd U (fun ct=> ?_) fun ct=> ?_;refine az 2 U<|p mv<|aj 1 U<|p (ay U<|au.aG 1)<|e<|aH (Kk ad C b6 b5 ck ws ab ac (aF.wk C.wk) ag aN) U ?_;rintro di dq ⟨rfl,b9⟩;exact ar 6 U<|aE U<|⟨U,⟨_,_,_,_,_,_,_,_,_,_,_,_,_,_,_,_,C.nw b9,ag⟩⟩
 refine bD 6 U<|cd U (fun cu=> ?_) fun cu=> ?_;refine bD 1 U<|fh fun aw=>cz 0 U (mv) aw<|aW [1,2] U aw<|c9 3 U aw (C.cells.2.1)<|cz 5 U (mv) aw<|aW [6,7] U aw<|c9 8 U aw (C.cells.2.2.1)<|he 4 U an<|aH (A7 wD.heap.size bl bs vb ⟨kb,0,none⟩ g n hist cs ad.drew (C.own.wk (Md.refl _ _).drew) aS.len) U ?_;rintro dj bU ⟨xs,aK,a9,bN,bn⟩;rw [A8 aK a9] at bN;subst bN;have bc:=C.nw<|Md.gI bn;have bx:(fun w'=>Wk ad w') bU:=Md.gI bn;refine ⟨bx,?_⟩;refine he 9 U an<|aH (P4 wD.heap.size xr la lb (.slice a0 la.length aU) (.slice aT lb.length aV) vk vals bck g bU bc.ref h.jS aS ag) U ?_;rintro dk bV ⟨rfl,bo⟩;have bi:=bc.nw bo;have aa:(fun w'=>Wk ad w') bV:=bx.trans bo;refine ⟨aa,?_⟩;refine aW [10,11] U aa<|kJ (t:=75) U (fun cT=> ?_) fun h=>absurd U h;refine ek 12 U (fun _ _=>mv) aa<|aW [13,14] U aa<|ek 15 U (fun w' A=>ay U<|Wk.aO A<|C.cells.2.1) aa<|ek 17 U (fun _ _=>mv) aa<|aW [18,19] U aa<|ek 20 U (fun w' A=>ay U<|Wk.aO A<|C.cells.2.2.1) aa<|aW [21,22,23] U aa<|ek 24 U (fun w' A=>ay U<|Wk.aO A<|C.ref.B.aG 0) aa<|aW [25] U aa<|ek 26 U (fun _ _=>mv) aa<|aW [27,28] U aa<|ek 29 U (fun w' A=>ay U<|Wk.aO A<|C.cells.2.2.1) aa<|aW [30,31,32] U aa<|ek 33 U (fun w' A=>ay U<|Wk.aO A<|C.ref.B.aG 1) aa<|aW [34,35] U aa<|zE 16 U an U U U<|aH (M1 wD.heap.size bl bs vb ⟨kb,0,none⟩ g n hist cs bV bi.own) U ?_;rintro dl cL ⟨rfl,bp⟩;have b3:=bi.nw bp;have bv:(fun w'=>Wk ad w') cL:=aa.trans bp;refine ⟨bv,?_⟩;exact aW [36,37,38] U bv<|hn an<|bg 4 U<|aE U<|⟨congrArg bB (decide_eq_true ag),⟨_,_,_,_,_,_,_,_,_,_,_,_,_,_,_,_,b3,ag⟩⟩
 refine bD 6 U<|cd U (fun cn=> ?_) fun cn=> ?_;refine az 2 U<|p mv<|aj 1 U<|p (ay U<|au.aG 2)<|e<|aH (Ar ad C hm ae cB) U ?_;rintro v107 dn ⟨rfl,ci⟩;exact ar 6 U<|aE U<|⟨U,yB ci⟩
 refine bD 6 U<|cd U (fun co=> ?_) fun co=> ?_;refine az 2 U<|p mv<|p mv<|aj 2 U<|p (ay U<|C.cells.2.1)<|e<|aH (A7 wD.heap.size bl bs vb ⟨kb,0,none⟩ g n hist cs ad C.own aS.len) U ?_;rintro c3 cH ⟨xs,aK,a9,bM,b7⟩;have cA:=xu (g:=g) (xs:=xs) fun x cF=>by
  obtain ⟨o,cx⟩:=(aK.2 x).1 cF;exact aS.len x o cx
 have c0:=aK.eT h.own.eT;rw [A8 aK a9] at bM cA;subst bM;have b1:=C.nw b7;refine e<|aH (Ar cH b1 hm (se g) ag) U ?_;rintro c4 dp ⟨rfl,cj⟩;exact ar 6 U<|aE U<|⟨U,yB cj⟩
 exact aB 9 U<|aE U<|⟨U,⟨_,_,_,_,_,_,_,_,_,_,_,_,_,_,_,_,C,ag⟩⟩
end Go.Hb
end
section
namespace Go.Hb.BX
open Go.Hb.oQ Go.Hb.u0 Go.Hb.nK Go.Hb.oT Go.Hb.qF Go.Hb.sO Go.Hb.uZ Go.Hb.yx
theorem uU.form {s:List UInt8} {w w':ai} {v:ah} (h:uU s w v w'):∃ I,v= .tuple #[.pointer I,.bool true]∧((I=none∧Wk w w')∨(∃ wD bw kb b B1 A cs7,I=some ⟨bw,0,none⟩∧cC s= .ok b∧Wk w wD∧ez wD B1 kb b s∧iY wD A cs7 b∧mO wD w' bw kb cs7 0)):=by
 rcases h with ⟨_,C,E⟩ | ⟨wD,bw,kb,b,B1,A,cs7,C,E,J,L,M,O⟩
 · exact ⟨none,C,.inl ⟨U,E⟩⟩
 · exact ⟨_,E,.inr ⟨wD,bw,kb,b,B1,A,cs7,U,C,J,L,M,O⟩⟩
theorem N4 (s I:List UInt8) (w:ai) (aA:dY 544 pI w) (aL:s.length≤1048576) (aM:I.length≤1048576):
 aY aq 4 (bd [str s,str I]) w (fun v w'=>v= .bool true∧Wk w w'):=by
 refine enter func4 U ntmps4 U<|aP 8 U<|e<|aH (QH w aA) U ?_;rintro v9 aS ⟨rfl,aa⟩;refine aC 3 U<|cf (U)<|az 4 U<|p mv<|e<|aH (JQ s aS aL) U fun a4 ak ay=> ?_;obtain ⟨ae,rfl,ad⟩:=uU.form ay;refine p mv<|aj 2 U<|p aT<|aj 6 U<|p mv<|p (gW Qc U U)<|aj 1 U<|gb (t:=18) U (fun E=> ?_) fun E=> ?_;obtain rfl :ae=none:=by cases ae; rfl; cases E
 obtain ⟨_,ap⟩:=ad.resolve_right fun ⟨_,_,_,_,_,_,_,h,_⟩=>by cases h
 refine aj 8 U<|p mv<|e<|aH (NY I ak) U ?_;rintro v24 aN ⟨rfl,au⟩;refine p mv<|aj 2 U<|e<|fv xM fun O a9 aW ab an=> ?_;have a3:=ab.size;refine p aT<|e<|fk qK U U U U an (by simp) fun M ax al=> ?_;have am:aD M.heap O [bh .i64 0,.int .i64 0,.int .i64 1]:=⟨_,al⟩
 have av:Wk aN M:=ab.md.trans' ax fun k a2 h=>by omega
 refine aj 6 U<|gb (t:=28) U (fun aX=> ?_) fun h=>absurd ((U).symm.trans h) dw;refine bo U mv<|bo U (gW u32 U U)<|aj 2 U<|gb (t:=32) U (fun aZ=> ?_) fun h=>absurd ((U).symm.trans h) dw;exact bo U (fi oV U (U) (show ∀ j,j < 3→aO M.heap O (0 +j)=([bh .i64 0,.int .i64 0,.int .i64 1]:List ah)[j]? from fun j _=>am.aG j))<|bo U (dE (ps:= [(2,.int .i64 1)]) (L:= [.int .i64 0,.int .i64 0,.int .i64 1]) pM U<|U)<|bo U (DC U U)<|ar 6 U<|aE U<|⟨congrArg bB (decide_eq_true ⟨U,U,U⟩),((aa.trans ap).trans au).trans av⟩
 obtain ⟨wD,bw,kb,b,B1,aV,cs7,rfl,ac,aw,Z,V,aB⟩:=ad.resolve_left fun ⟨h,_⟩=>by rw [h] at E; cases E
 have ao:=aa.trans aw;refine aC 5 U<|cf (U)<|bD 3 U ?_;obtain ⟨bl,bs,vb,g,n,hist,gz,cs,xr,la,lb,va,vc,vk,vals,bck,A,C⟩:=aB;refine az 1 U<|p mv<|p mv<|e<|aH (Ar ak A C I aM) U ?_;rintro a5 aQ ⟨rfl,aF⟩;obtain ⟨bl,bs,vb,g,n,hist,gz,cs,xr,la,lb,va,vc,vk,vals,bck,A,C⟩:=aF;refine aj 1 U<|gb (t:=40) U (fun a0=> ?_) fun h=>absurd ((U).symm.trans h) dw;refine bo U mv<|bo U (dE (ps:= [(0,.int .i64 5)]) (L:= [.int .i64 5,.slice none 0 0,.string ⟨⟨[]⟩⟩]) GQ U<|U)<|eg U U U<|aH (G4 aQ A C ag Z V ac 5 [] none 0 [] (aU.nil _ _) aI aI (fun x J=>by cases J) aI) U ?_;rintro a6 aR ⟨rfl,aJ⟩;obtain ⟨bl,bs,vb,g,n,hist,gz,cs,xr,la,lb,va,vc,vk,vals,bck,A,C⟩:=aJ;refine aj 2 U<|gb (t:=45) U (fun a1=> ?_) fun h=>absurd ((U).symm.trans h) dw;refine bo U mv<|bo U (dE (ps:= [(0,.int .i64 3)]) (L:= [.int .i64 3,.slice none 0 0,.string ⟨⟨[]⟩⟩]) GQ U<|U)<|eg U U U<|aH (G4 aR A C ag Z V ac 3 [] none 0 [] (aU.nil _ _) aI aI (fun x J=>by cases J) aI) U ?_;rintro a7 a8 ⟨rfl,aK⟩;obtain ⟨bl,bs,vb,g,n,hist,gz,cs,xr,la,lb,va,vc,vk,vals,bck,A,C⟩:=aK;exact ar 5 U<|aE U<|⟨U,ao.trans A.wk⟩
end Go.Hb.BX
end
