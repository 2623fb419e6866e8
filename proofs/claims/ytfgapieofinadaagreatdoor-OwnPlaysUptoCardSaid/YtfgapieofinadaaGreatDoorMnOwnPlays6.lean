/-
  Walks and plain laws that the law rests on, laid together. No conditions but those that each theorem names.
-/
import Derived.Test.YtfgapieofinadaaGreatDoorMnOwnPlays5
set_option linter.unusedVariables false
set_option maxRecDepth 20000
set_option maxHeartbeats 1000000
open Array renaming getElem?_eq_some_iff→cx,size→Ii
open Bool renaming noConfusion→dS
open Classical renaming not_not→mJ
open Decidable renaming of_not_not→Iq
open Go renaming Addr→aW,Value→ah,World→ai
open Go.Obj.cells renaming injEq→nH
open Go.Proofs.Tryz renaming prog→aq
open Go.Value renaming bool→bB,int→bh,ownBlock→dL,pointer→cZ,slice→ff,tuple→kB
open Go.World renaming ownsRow→b9,ownsRow_nil→eL
open List renaming append_assoc→iF,append_nil→kC,dropLast_concat_getLast→I3,drop_eq_nil_of_le→iY,eq_nil_of_length_eq_zero→j5,getD_eq_getElem?_getD→cQ,getElem?_append_left→eR,getElem?_append_right→eC,getElem?_eq_getElem→cr,getElem?_eq_some_iff→dt,length_append→bo,length_drop→gh,length_eq_zero_iff→uX,length_pos_iff→uY,length_singleton→dE,length_take→bY,map_append→kE,mem_append→dz,pairwise_singleton→Jo,take_of_length_le→ja,toArray→bd
open Nat renaming add_comm→yF,le_refl→bf,lt_or_ge→dM,sub_self→sS
open Option.some renaming injEq→bR
open Go.Proofs.Tryz
open Go.Hb.dN Go.Proofs Go.Hb.ez Go.Hb.jH Go.Hb.j7 Go.Hb.o4 Go.Hb.nS Go.Hb.kH Go.Hb.lU Go.Hb.qI Go.Hb.qJ Go.Hb.qK

namespace Go.Hb.vx
theorem MK (l:Tl) (wd:List UInt8) (a:Option aW) (cap:Nat) (w:ai) (O:bN w.heap a l) (hu:l.Pairwise (fun x y=>cn x y=true)) (hlen:l.length≤137438953472):
 aZ aq 111 (bd [.slice a l.length cap,str wd]) w (fun v w'=>Wk w w'∧∃ q:Nat,v= .int .i64 q∧q≤l.length∧(∀ i,i < q→cn (l.getD i []) wd=true)∧∀ i,q≤i→i < l.length→cn (l.getD i []) wd=false):=by
 refine enter func111 U ntmps111 U<|bV 19 U<|lp (fun J V w1=> ∃ (lo hi:Nat),(lo≤hi)∧(hi≤l.length)∧(∀ i,i < lo→cn (l.getD i []) wd=true)∧(∀ i,hi≤i→i < l.length→cn (l.getD i []) wd=false)∧(Wk w w1)∧(Sl V [(0,.slice a l.length cap),(1,str wd),(5,.int .i64 lo),(6,.int .i64 hi)])∧(hi - lo=J)) _ ⟨0,l.length,ag,ag,(fun i hi=>by omega),(fun i C E=>by omega),(Md.refl _ _),U,U⟩ ?_;rintro J V w1 ⟨lo,hi,C,E,L,M,A,ab,rfl⟩;refine bE ab<|bV 8 U<|cd U (fun aa=> ?_) fun aa=> ?_;refine az 9 U<|p (qu U U ag<|ku ag)<|p (bW<|lo+(hi - lo) / 2)<|aj 7 U<|p (bZ dH U U ag<|aT.ok (O.wk A)<|ef ag)<|p (ay U<|bN.get (i:=lo+(hi - lo) / 2) (O.wk A) ag)<|aj 1 U<|p (Ak U U)<|aC 2 U<|cb U (fun I=> ?_) fun I=> ?_;exact aB 6 U<|tn<|⟨_,ag,lo+(hi - lo) / 2 +1,hi,ag,ag,(fun i hi=>P0 hu ag ag I),M,A,U,U⟩
 exact aB 5 U<|tn<|⟨_,ag,lo,lo+(hi - lo) / 2,ag,ag,L,(fun i C E=>PZ hu C E I),A,U,U⟩
 exact aB 2 U<|cj<|bg 9 U<|aE U<|⟨A,lo,U,ag,L,fun i ac Z=>M i ag Z⟩
theorem mj (l:Tl) (wd:List UInt8) (a:Option aW) (cap:Nat) (w:ai) (C:bN w.heap a l) (hu:l.Pairwise (fun x y=>cn x y=true)) (hlen:l.length≤137438953472):
 aZ aq 60 (bd [.slice a l.length cap,str wd]) w (fun v w'=>v= .bool (decide (wd∈l))∧Wk w w'):=by
 refine enter func60 U ntmps60 U<|aP 9 U<|e<|aI (MK l wd a cap _ C hu hlen) U ?_;rintro M O ⟨A,q,rfl,L,E,I⟩;refine aj 10 U<|gs (t:=13) U (fun J=> ?_) fun J=> ?_;exact aj 2 U<|bA U (bZ dH U U ag<|aT.ok (C.wk A)<|ef ag)<|bA U (ay U<|bN.get (i:=q) (C.wk A) ag)<|ar 7 U<|aE U<|⟨bv ((EC E I hu).trans ⟨fun h=>h.2,fun h=>⟨ag,h⟩⟩).symm,A⟩
 exact aj 7 U<|p aU<|ar 3 U<|aE U<|⟨bF (fun h=>by have :=((EC E I hu).1 h).1; omega),A⟩
set_option maxHeartbeats 1000000 in
theorem Fo (la lb:Tl) (V Z:Option aW) (ad kb:Nat) (w:ai) (J:bN w.heap V la) (aa:bN w.heap Z lb) (aG:la.Pairwise (fun x y=>cn x y=true)) (br:lb.Pairwise (fun x y=>cn x y=true)) (hlen:la.length+lb.length≤4294967296):
 aZ aq 109 (bd [.slice V la.length ad,.slice Z lb.length kb]) w (fun v w'=>Wk w w'∧b9 w' w.heap.size 9 1 v (bQ<|la++lb).length ((bQ<|la++lb).map str)):=by
 refine enter func109 U ntmps109 U<|bV 22 U<|lp (fun aL aQ am=> ∃ (i j:Nat) (m:Tl) (v:ah),(i≤la.length)∧(j≤lb.length)∧(Wk w am)∧(b9 am w.heap.size 9 1 v m.length<|m.map str)∧(MG la lb i j m)∧(Sl aQ [(0,.slice V la.length ad),(1,.slice Z lb.length kb),(5,v),(6,.int .i64 i),(7,.int .i64 j)])∧((la.length - i)+(lb.length - j)=aL)) _ ⟨0,0,[],.slice none 0 0,ag,ag,(Md.refl _ _),(eL _ _ _ _),(MG.zero _ _),U,U⟩ ?_;rintro aL aQ am ⟨i,j,m,v,hi,bF,A,O,ac,bm,rfl⟩;refine bE bm ?_;have bG:=ac.len;refine ei (fun aS ab=>(i < la.length∨j < lb.length)∧(ab=am)∧(Sl aS [(0,.slice V la.length ad),(1,.slice Z lb.length kb),(5,v),(6,.int .i64 i),(7,.int .i64 j)])) ?_ ?_;refine aP 7 U<|gs (t:=12) U (fun a8=> ?_) fun a8=> ?_;exact ar 9 U<|tn<|⟨(.inl ag),U,U⟩
 refine aC 7 U<|cd U (fun a6=> ?_) fun a6=> ?_;exact aB 1 U<|tn<|⟨(.inr ag),U,U⟩
 refine aB 1 U<|cj<|cj<|fY 4 U<|gH (v)<|p (th (v) U)<|ar 3 U<|aE U ?_;refine ⟨A,?_⟩;rw [← ac.done ag ag]; exact O;rintro aS ab ⟨bB,bt,bn⟩;refine bE bn ?_;subst bt;refine bV 1 U ?_;refine ei (fun aV aK=>(j < lb.length)∧(i < la.length→cn (la.getD i []) (lb.getD j [])=false)∧(Wk w aK)∧(b9 aK w.heap.size 9 1 v m.length<|m.map str)∧(Sl aV [(0,.slice V la.length ad),(1,.slice Z lb.length kb),(5,v),(6,.int .i64 i),(7,.int .i64 j)])) ?_ ?_;refine bV 1 U<|fk fun C=>aY [0,1,2,3,4] U C<|kO (t:=22) U (fun a9=> ?_) fun a9=> ?_;refine aY [5,6,7,8,9,10,11,12,13,14,15,16,17,18,19,20] U C<|hn an<|fY 4 U<|gH (v)<|aj 2 U<|p (bZ dH U U ag<|aT.ok (J.wk<|A.drew)<|ef ag)<|p (ay U<|bN.get (i:=i) (J.wk<|A.drew) ag)<|e<|fh ew U U fun a0 bv a5 E ao=>e<|ap ew (aR (aR O (Md.refl _ _).drew) E.md) U (by have :=E.size; have :=A.size; have a1:ab.drew.heap.size=ab.heap.size:=U; omega) U (aT.dD ao) (U) (U) ag ag fun ae aI aA av bu a7=> ?_;have au:=Wk.own (Md.trans A.drew E.md) (aR (aR O (Md.refl _ _).drew) E.md) av<|bf _;have aD:b9 aI w.heap.size 9 1 ae (m++ [la.getD i []]).length ((m++ [la.getD i []]).map str):=by rw [bo,kE]; exact aA
 exact p aU<|aj 5 U<|p (bW<|i+1)<|ar 4 U<|cj<|bg 1 U<|tn<|⟨_,ag,i+1,j,m++ [la.getD i []],ae,ag,ag,au,aD,(ac.a aG ag fun h=>by omega),U,U⟩
 refine aY [5,6,7,8,9] U C<|kO (t:=27) U (fun ba=> ?_) fun ba=> ?_;refine aY [10,11] U C<|eo 12 U (fun _ _=>bZ dH U U ag<|aT.ok (J.wk A)<|ef ag) C<|eo 13 U (fun w' M=>ay U<|Wk.aH M<|bN.get (i:=i) (J.wk A) ag) C<|aY [14,15] U C<|eo 16 U (fun _ _=>bZ dH U U ag<|aT.ok (aa.wk A)<|ef ag) C<|eo 17 U (fun w' M=>ay U<|Wk.aH M<|bN.get (i:=j) (aa.wk A) ag) C<|eo 18 U (fun _ _=>Ak U U) C<|aY [19,20] U C<|hn an<|dT 1 U<|cb U (fun aw=> ?_) fun aw=> ?_;refine az 2 U<|gH (v)<|aj 2 U<|p (bZ dH U U ag<|aT.ok (J.wk<|A.drew)<|ef ag)<|p (ay U<|bN.get (i:=i) (J.wk<|A.drew) ag)<|e<|fh ew U U fun a0 bv a5 E ao=>e<|ap ew (aR (aR O (Md.refl _ _).drew) E.md) U (by have :=E.size; have :=A.size; have a1:ab.drew.heap.size=ab.heap.size:=U; omega) U (aT.dD ao) (U) (U) ag ag fun ae aI aA av bu a7=> ?_;have au:=Wk.own (Md.trans A.drew E.md) (aR (aR O (Md.refl _ _).drew) E.md) av<|bf _;have aD:b9 aI w.heap.size 9 1 ae (m++ [la.getD i []]).length ((m++ [la.getD i []]).map str):=by rw [bo,kE]; exact aA
 exact p aU<|aj 5 U<|p (bW<|i+1)<|ar 4 U<|cj<|bg 1 U<|tn<|⟨_,ag,i+1,j,m++ [la.getD i []],ae,ag,ag,au,aD,(ac.a aG ag fun _=>aw),U,U⟩
 exact aB 1 U<|tn<|⟨ag,(fun _=>aw),A.drew,(aR O (Md.refl _ _).drew),U⟩
 exact aY [10,11,12,13,14,15,16,17,18,19] U C<|cB 20 U (rK U) C<|hn an<|bg 3 U<|tn<|⟨ag,(fun h=>by omega),A.drew,(aR O (Md.refl _ _).drew),U⟩
 rintro aV aK ⟨bc,bh,L,aF,bp⟩;refine bE bp ?_;refine ei (fun aX aJ=> ∃ (i2:Nat),((i2=i∧(i < la.length→la.getD i []≠lb.getD j []))∨(i2=i+1∧i < la.length∧la.getD i []=lb.getD j []))∧(Wk w aJ)∧(b9 aJ w.heap.size 9 1 v m.length<|m.map str)∧(Sl aX [(0,.slice V la.length ad),(1,.slice Z lb.length kb),(5,v),(6,.int .i64 i2),(7,.int .i64 j)])) ?_ ?_;refine bV 1 U<|fk fun I=>aY [0,1,2,3,4] U I<|kO (t:=52) U (fun bb=> ?_) fun bb=> ?_;refine aY [5,6] U I<|eo 7 U (fun _ _=>bZ dH U U ag<|aT.ok (J.wk L)<|ef ag) I<|eo 8 U (fun w' M=>ay U<|Wk.aH M<|bN.get (i:=i) (J.wk L) ag) I<|aY [9,10] U I<|eo 11 U (fun _ _=>bZ dH U U ag<|aT.ok (aa.wk L)<|ef ag) I<|eo 12 U (fun w' M=>ay U<|Wk.aH M<|bN.get (i:=j) (aa.wk L) ag) I<|aY [13,14] U I<|hn an<|dT 1 U<|cd U (fun ax=> ?_) fun ax=> ?_;exact az 2 U<|p (bW<|i+1)<|ar 2 U<|tn<|⟨i+1,(.inr ⟨U,ag,ax⟩),L.drew,(aR aF (Md.refl _ _).drew),U⟩
 exact aB 1 U<|tn<|⟨i,(.inl ⟨U,fun _=>ax⟩),L.drew,(aR aF (Md.refl _ _).drew),U⟩
 exact aY [5,6,7,8,9,10,11,12,13,14] U I<|hn an<|bg 3 U<|tn<|⟨i,(.inl ⟨U,fun h=>by omega⟩),L.drew,(aR aF (Md.refl _ _).drew),U⟩
 rintro aX aJ ⟨i2,aM,ak,aN,bq⟩;refine bE bq ?_;have bD:i2≤la.length∧i≤i2:=by rcases aM with h | h <;> omega
 refine az 2 U<|gH (v)<|aj 2 U<|p (bZ dH U U ag<|aT.ok (aa.wk ak)<|ef ag)<|p (ay U<|bN.get (i:=j) (aa.wk ak) ag)<|e<|fh ew U U fun bz bI bA al a2=>e<|ap ew (aR aN al.md) U (by have :=al.size; have :=ak.size; omega) U (aT.dD a2) (U) (U) ag ag fun aO bx bi a4 bH bC=> ?_;have a3:=Wk.own (Md.trans ak al.md) (aR aN al.md) a4<|bf _;have bj:b9 bx w.heap.size 9 1 aO (m++ [lb.getD j []]).length ((m++ [lb.getD j []]).map str):=by rw [bo,kE]; exact bi
 exact p aU<|aj 4 U<|p (bW<|j+1)<|ar 3 U<|tn<|⟨_,ag,i2,j+1,m++ [lb.getD j []],aO,ag,ag,a3,bj,(ac.b aG br bc bh aM),U,U⟩
theorem Om (n:Nat) (l:Tl) (a:Option aW) (cap:Nat) (w:ai) (an:l.length=n) (A:bN w.heap a l) (am:n≤cap) (hlen:n≤1073741824):
 aZ aq 54 (bd [.slice a n cap]) w (fun v w'=>Wk w w'∧b9 w' w.heap.size 9 1 v (bQ l).length ((bQ l).map str)):=by
 induction n using Nat.strongRecOn generalizing l a cap w with
 | _ n ih=>
   refine enter func54 U ntmps54 U<|bV 13 U<|cd U (fun ac=> ?_) fun ac=> ?_;refine aB 7 U<|aE U ?_;have h0:l= []:=j5 ag;subst h0;exact ⟨Md.refl _ _,eL _ _ _ _⟩;refine bD 10 U<|cd U (fun ab=> ?_) fun ab=> ?_;refine az 3 U<|p (bZ dH U U ag<|aT.ok (A)<|ef ag)<|p (ay U<|bN.get (i:=0) A ag)<|e<|Km ew U U fun ak au al aa V=>ar 5 U<|aE U ?_;obtain ⟨x,rfl⟩:∃ x,l= [x]:=List.length_eq_one_iff.1 ag;exact ⟨aa.md,V _ ag⟩;refine az 7 U<|p (AK ((n / 2:Nat):Int) U U ag<|uB ag ag)<|p (r9 dH U U ag)<|e<|aI (ih (n / 2) ag (l.take<|n / 2) a cap _ (by rw [bY]; omega) (A.take _) ag ag) U ?_;rintro v20 av ⟨C,ah⟩;refine p aU<|aj 7 U<|p (AK ((n / 2:Nat):Int) U U ag<|uB ag ag)<|p (um dH U U ag)<|e<|aI (ih (n - n / 2) ag (l.drop<|n / 2) (dW a cap (n / 2) 1) (cap - n / 2) _ (by rw [gh]; omega) (bN.wk (A.drop ag) C) ag ag) U ?_;rintro ao aw ⟨E,J⟩;have I:=aR ah E;have ad:=oD<|l.take<|n / 2;have ae:=oD<|l.drop<|n / 2;rw [bY] at ad;rw [gh] at ae;obtain ⟨M,O,rfl⟩:=de I;obtain ⟨a2,c2,rfl⟩:=de J;refine p aU<|aj 4 U<|p mv<|p mv<|e<|aI (Fo (bQ<|l.take<|n / 2) (bQ<|l.drop<|n / 2) M a2 O c2 _ (dx I).2 (dx J).2 (iT _) (iT _) ag) U ?_;rintro ap ax ⟨Z,L⟩;have e:bQ (bQ (l.take<|n / 2)++bQ (l.drop<|n / 2))=bQ l:=uz (iT _) (iT _) fun x=>by
    rw [iz,dz,iz,iz,iz,← dz,List.take_append_drop]
   rw [e] at L;exact p aU<|ar 3 U<|aE U<|⟨Md.trans (Md.trans C E) Z,nr L<|by have :=C.size; have :=E.size; omega⟩
end Go.Hb.vx
namespace Go.Hb
theorem EB {α:Type} {l:List α} {i:Nat} {d:α} (h:i < l.length):l.getD i d∈l:=by
 rw [cQ,cr h]; exact List.getElem_mem h
theorem O1 (s:List UInt8) (w:ai) (bS:s.length≤1048576):
 aZ aq 118 (bd [str s]) w (fun v w'=>b9 w' w.heap.size 9 1 (v) (cy s).length ((cy s).map str)∧Wk w w'):=by
 refine enter func118 U ntmps118 U<|bV 5 U ?_;refine ei (fun aS aQ=>(Wk w aQ)∧(aS 0=str (jZ s))) ?_ ?_;refine aP 3 U<|e<|aI (NU s _) U ?_;rintro b0 b6 ⟨rfl,aH⟩;refine aC 2 U<|cb U (fun V=> ?_) fun V=> ?_;have bR:=NT V;exact az 2 U<|p (mD u9 U U ag)<|ar 2 U<|tn<|⟨aH,by show str (s.drop 3)=_; rw [Q3 V]⟩
 exact aB 1 U<|tn<|⟨aH,by show str s=_; rw [Q2 V]⟩
 rintro aS aQ ⟨ay,bt⟩;refine fx 0 bt ?_;have bU:=xO s;refine az 7 U<|e<|tk fF fun av aN bH a9 aX=> ?_;have bq:b9 aN w.heap.size 5 1 (.slice (some ⟨av,0,none⟩) 0 0) (([]:List UInt8)).length (U8<|([]:List UInt8)):=aX _<|by have :=ay.size; omega
 have a3:Wk w aN:=Md.trans ay a9.md;refine aC 15 U<|lp (fun ax aV aa=> ∃ (i:Nat) (C:List (List UInt8)) (A:List UInt8) (ob:Bool) (I Z:ah),(i≤(jZ s).length)∧(C++dV A ((jZ s).drop i)=cy s)∧(ob=decide (A≠[]))∧(A.length≤i)∧(Wk w aa)∧(b9 aa w.heap.size 9 1 (I) (C).length<|(C).map str)∧(b9 aa w.heap.size 5 1 (Z) (A).length<|U8<|A)∧(Sl aV [(0,str (jZ s)),(3,I),(4,Z),(5,.bool ob),(6,.int .i64 i)])∧((jZ s).length - i=ax)) _ ⟨0,[],[],false,.slice none 0 0,.slice (some ⟨av,0,none⟩) 0 0,ag,U,U,(by simp),a3,(eL _ _ _ _),bq,U,U⟩ ?_;rintro ax aV aa ⟨i,C,A,ob,I,Z,hi,J,aM,bM,M,L,E,bu,rfl⟩;refine bE bu ?_;have bN:C.length≤s.length+1:=by have aW:=congrArg List.length J; have bG:=ri s; rw [bo] at aW; omega
 have bT:=M.size;refine bV 9 U<|cd U (fun bb=> ?_) fun bb=> ?_;refine az 9 U<|p (dc u9 U U ag)<|aC 3 U<|cd U (fun am=> ?_) fun am=> ?_;refine az 2 U<|gH (Z)<|aj 2 U<|p (dc u9 U U ag)<|e<|fh fF U U fun bC bz bI O aY=> ?_;have aA:Wk w bz:=Md.trans M O.md;refine e<|ap fF (aR E O.md) U (by have :=aA.size; omega) U (aT.dD aY) (U) (U) ag ag fun bv b1 bg aK bW bO=> ?_;have a4:=Wk.own aA (aR E O.md) aK<|bf _;have bh:=oA bg;have bp:=cC (aR L O.md) aK fun k bc=>rH L E aJ bc;exact p aU<|ar 16 U<|tn<|⟨_,ag,i+1,C,A++ [(jZ s).getD i 0],true,I,bv,ag,(by rw [drop_cons 0 ag,Ag (Oj am)] at J; exact J),(by simp),(by rw [bo,dE]; omega),a4,bp,bh,U,U⟩
 have ba:=MY<|Iq am;obtain ⟨ab,ac,rfl⟩:=de E;refine az 4 U<|gH (I)<|aj 1 U<|e<|aI (DF A ab ac _ (dx E).2 ag (dx E).1) U ?_;rintro v30 b2 ⟨rfl,ad⟩;refine e<|fh ew U U fun bD bA bJ ak a0=> ?_;have aD:Wk w bA:=Md.trans (Md.trans M ad) ak.md;refine e<|ap ew (aR (aR L ad) ak.md) U (by have :=aD.size; omega) U (aT.dD a0) (U) (U) ag ag fun bx b3 bi a7 bX bP=> ?_;have aF:=Wk.own aD (aR (aR L ad) ak.md) a7<|bf _;have bj:=ns bi;refine p aU<|aj 4 U<|e<|tk fF fun aw aO bK aL a1=> ?_;have a5:Wk w aO:=Md.trans aF aL.md;have br:b9 aO w.heap.size 5 1 (.slice (some ⟨aw,0,none⟩) 0 0) (([]:List UInt8)).length (U8<|([]:List UInt8)):=a1 _<|by have :=aF.size; omega
 exact ar 13 U<|tn<|⟨_,ag,i+1,C++ [gr A],[],false,bx,.slice (some ⟨aw,0,none⟩) 0 0,ag,(by rw [drop_cons 0 ag,ba,E9] at J; rw [iF]; exact J),U,(by simp),a5,(aR bj aL.md),br,U,U⟩
 refine aB 2 U<|cj<|dT 8 U<|cb U (fun an=> ?_) fun an=> ?_;have au:A≠[]:=by have :=aM.symm.trans an; exact of_decide_eq_true this
 obtain ⟨ab,ac,rfl⟩:=de E;refine az 1 U<|gH (I)<|aj 1 U<|e<|aI (DF A ab ac _ (dx E).2 ag (dx E).1) U ?_;rintro v37 b4 ⟨rfl,ae⟩;refine e<|fh ew U U fun bF bB bL al a2=> ?_;have aG:Wk w bB:=Md.trans (Md.trans M ae) al.md;refine e<|ap ew (aR (aR L ae) al.md) U (by have :=aG.size; omega) U (aT.dD a2) (U) (U) ag ag fun bZ b5 bm a8 bY bQ=> ?_;have a6:=Wk.own aG (aR (aR L ae) al.md) a8<|bf _;have bn:=ns bm;refine p aU<|aj 4 U<|p mv<|p aU<|ar 3 U<|aE U ?_;have ao:C++ [gr A]=cy s:=by rw [← J,show List.drop i (jZ s)= [] from iY ag,E8 au]
 exact ⟨by rw [← ao]; exact bn,a6⟩;have au:A= []:=Iq<|of_decide_eq_false<|aM.symm.trans an;refine az 4 U<|gH (I)<|p (th (I) U)<|ar 3 U<|aE U ?_;have ao:C=cy s:=by rw [← J,show List.drop i (jZ s)= [] from iY ag,au,Ah,kC]
 exact ⟨by rw [← ao]; exact L,M⟩
set_option maxHeartbeats 1000000 in
theorem Pf (s:List UInt8) (w:ai) (bt:s.length≤1048576):
 aZ aq 66 (bd [str s]) w (fun v w'=>(∃ a,v= .tuple #[a,.int .i64 (if 65536 < s.length then 10 else 0)]∧(if 65536 < s.length then a= .slice none 0 0 else ∃ vs,b9 w' w.heap.size 174 2 a (eu s).length (mB vs)∧fV w' w.heap.size 9 vs (eu s)))∧Wk w w'):=by
 refine enter func66 U ntmps66 U<|bV 14 U<|cd U (fun bg=> ?_) fun bg=> ?_;refine aB 8 U<|f2 U U U ?_;have ao:65536 < s.length:=ag;exact ⟨⟨.slice none 0 0,by show kB #[.slice none 0 0,.int .i64 10]=_; rw [if_pos ao],by rw [if_pos ao]⟩,Md.refl _ _⟩;refine az 10 U<|e<|aI (O1 s _ bt) U ?_;rintro bQ ae ⟨a3,aH⟩;obtain ⟨aX,aY,rfl⟩:=de a3;have a1:=(dx a3).2;have bK:=ri s;refine p aU<|aC 9 U<|lp (fun ak a5 aA=> ∃ (i:Nat) (J:ah) (vs:List (Nat×ah)),(i≤(cy s).length)∧(Wk ae aA)∧(b9 aA ae.heap.size 174 2 J (iQ 1<|(cy s).take i).length<|mB vs)∧(fV aA ae.heap.size 9 vs<|iQ 1<|(cy s).take i)∧(Sl a5 [(4,J),(5,.slice aX (cy s).length aY),(6,.int .i64 i)])∧((cy s).length - i=ak)) _ ⟨0,.slice none 0 0,[],ag,(Md.refl _ _),(eL _ _ _ _),(fV.nil _ _ _),U,U⟩ ?_;rintro ak a5 aA ⟨i,J,vs,hi,am,I,ad,bu,rfl⟩;refine bE bu ?_;have br:=AU ((cy s).take i) 1;rw [bY] at br;have bL:=am.size;refine bV 2 U ?_;have bJ:((cy s).getD i []).length≤s.length:=by rcases dM i (cy s).length with h | h <;> first | exact Ad (EB h) | (rw [cQ,List.getElem?_eq_none h]; exact Nat.zero_le _)
 refine bD 7 U<|cd U (fun bh=> ?_) fun bh=> ?_;refine az 13 U<|p (bZ dH U U ag<|aT.ok (a1.wk am)<|ef ag)<|p (ay U<|bN.get (i:=i) (a1.wk am) ag)<|e<|aI (OZ ((cy s).getD i []) _ ag) U ?_;rintro bR ax ⟨a4,E⟩;obtain ⟨a7,a8,rfl⟩:=de a4;have av:=(dx a4).2;have ac:Wk ae ax:=Md.trans am E;have bH:=tH ((cy s).getD i []) [];refine p aU<|aC 9 U<|lp (fun ak a6 aW=> ∃ (j:Nat) (aw:ah),(j≤(bO []<|(cy s).getD i []).length)∧(∀ q,q < j→ug ((bO []<|(cy s).getD i []).getD q [])=false)∧(Wk ax aW)∧(b9 aW ax.heap.size 9 1 (aw) ((bO []<|(cy s).getD i []).take j).length<|((bO []<|(cy s).getD i []).take j).map str)∧(Sl a6 [(4,J),(5,.slice aX (cy s).length aY),(6,.int .i64 i),(7,aw),(8,.slice a7 (bO []<|(cy s).getD i []).length a8),(9,.int .i64 j)])∧((bO []<|(cy s).getD i []).length - j=ak)) _ ⟨0,.slice none 0 0,ag,(fun q bq=>by omega),(Md.refl _ _),(eL _ _ _ _),U,U⟩ ?_;rintro ak a6 aW ⟨j,aw,a2,aO,A,Z,bv,rfl⟩;refine bE bv ?_;have bI:((bO []<|(cy s).getD i []).take j).length≤j:=by rw [bY]; omega
 have bM:=A.size;refine aP 8 U<|gs (t:=30) U (fun bm=> ?_) fun bm=> ?_;refine aj 2 U<|bA U (bZ dH U U ag<|aT.ok (av.wk A)<|ef ag)<|bA U (ay U<|bN.get (i:=j) (av.wk A) ag)<|bA U (kP 0 u9 U U<|uY.2 (zF _ _ _<|EB ag).1)<|aC 4 U<|cd U (fun bi=> ?_) fun bi=> ?_;refine az 5 U<|gH (aw)<|aj 2 U<|p (bZ dH U U ag<|aT.ok (av.wk A)<|ef ag)<|p (ay U<|bN.get (i:=j) (av.wk A) ag)<|e<|fh ew U U fun bC bz bF aL a9=> ?_;have a0:Wk ax bz:=Md.trans A aL.md;refine e<|ap ew (aR Z aL.md) U (by have :=a0.size; omega) U (aT.dD a9) (U) (U) ag ag fun v46 bS bn bb bP bG=> ?_;have ba:=Wk.own a0 (aR Z aL.md) bb<|bf _;have bp:=ns bn;exact p aU<|ar 8 U<|tn<|⟨_,ag,j+1,v46,ag,(fun q bq=>by rcases dM q j with h | h <;> first | exact aO q h | (rw [show q=j by omega]; exact decide_eq_false ag)),ba,(by rw [ie _ j [] ag]; exact bp),U,U⟩
 have an:lH (bO []<|(cy s).getD i [])=((bO []<|(cy s).getD i []).take j):=wx a2 aO<|.inr<|decide_eq_true ag;obtain ⟨O,V,rfl⟩:=de Z;refine aB 2 U<|cj<|dT 9 U<|cd U (fun ab=> ?_) fun ab=> ?_;have M:iO ((cy s).getD i []) (1 +i)= [(i+1,((bO []<|(cy s).getD i []).take j))]:=by unfold iO; rw [an,if_neg (fun h=>by rw [h] at ab; simp at ab),yF]
 refine az 1 U<|gH (J)<|aj 1 U<|p (bW<|i+1)<|aj 1 U<|p (dZ (ps:= [(0,aQ (i+1)),(1,.slice O ((bO []<|(cy s).getD i []).take j).length V)]) (L:= [aQ (i+1),.slice O ((bO []<|(cy s).getD i []).take j).length V]) G8 U<|U)<|e<|l6 xH U U U fun aE au bc C aF=> ?_;have aG:aD au.heap aE [aQ (i+1),.slice O ((bO []<|(cy s).getD i []).take j).length V]:=aF;have al:Wk ae au:=Md.trans ac<|Md.trans A C.md;refine e<|ap xH (aR (aR (aR I E) A) C.md) U (by have :=al.size; omega) U (aT.dD aG) (U) (U) ag ag fun aV bB aN aa bx bj=> ?_;have aK:=Wk.own al (aR (aR (aR I E) A) C.md) aa<|bf _;have aS:=((((ad.wk E).wk A).wk C.md).md aa<|ib (aR (aR (aR I E) A) C.md) aJ).snoc (n:=i+1)<|Tg.oz<|nr (cC (aR Z C.md) aa fun k aM=>rH (aR Z C.md) (aR (aR (aR I E) A) C.md) aJ aM)<|by have :=Md.size ac; omega
 exact p aU<|ar 8 U<|tn<|⟨_,ag,i+1,aV,vs++ [(i+1,.slice O ((bO []<|(cy s).getD i []).take j).length V)],ag,aK,(by rw [ie _ i [] ag,kW,show ((cy s).take i).length=i from by rw [bY]; omega,M,bo,AZ]; exact aN),(by rw [ie _ i [] ag,kW,show ((cy s).take i).length=i from by rw [bY]; omega,M]; exact aS),U,U⟩
 have M:∀ n,iO ((cy s).getD i []) n= []:=fun n=>by unfold iO; rw [an,if_pos (uX.1 ag)]
 exact aB 8 U<|tn<|⟨_,ag,i+1,J,vs,ag,(Md.trans ac A),(by rw [ie _ i [] ag,kW,M,kC]; exact aR (aR I E) A),(by rw [ie _ i [] ag,kW,M,kC]; exact (ad.wk E).wk A),U,U⟩
 have an:lH (bO []<|(cy s).getD i [])=((bO []<|(cy s).getD i []).take j):=wx a2 aO<|.inl ag;obtain ⟨O,V,rfl⟩:=de Z;refine ar 12 U<|cj<|dT 9 U<|cd U (fun ab=> ?_) fun ab=> ?_;have M:iO ((cy s).getD i []) (1 +i)= [(i+1,((bO []<|(cy s).getD i []).take j))]:=by unfold iO; rw [an,if_neg (fun h=>by rw [h] at ab; simp at ab),yF]
 refine az 1 U<|gH (J)<|aj 1 U<|p (bW<|i+1)<|aj 1 U<|p (dZ (ps:= [(0,aQ (i+1)),(1,.slice O ((bO []<|(cy s).getD i []).take j).length V)]) (L:= [aQ (i+1),.slice O ((bO []<|(cy s).getD i []).take j).length V]) G8 U<|U)<|e<|l6 xH U U U fun aE au bc C aF=> ?_;have aG:aD au.heap aE [aQ (i+1),.slice O ((bO []<|(cy s).getD i []).take j).length V]:=aF;have al:Wk ae au:=Md.trans ac<|Md.trans A C.md;refine e<|ap xH (aR (aR (aR I E) A) C.md) U (by have :=al.size; omega) U (aT.dD aG) (U) (U) ag ag fun aV bB aN aa bx bj=> ?_;have aK:=Wk.own al (aR (aR (aR I E) A) C.md) aa<|bf _;have aS:=((((ad.wk E).wk A).wk C.md).md aa<|ib (aR (aR (aR I E) A) C.md) aJ).snoc (n:=i+1)<|Tg.oz<|nr (cC (aR Z C.md) aa fun k aM=>rH (aR Z C.md) (aR (aR (aR I E) A) C.md) aJ aM)<|by have :=Md.size ac; omega
 exact p aU<|ar 8 U<|tn<|⟨_,ag,i+1,aV,vs++ [(i+1,.slice O ((bO []<|(cy s).getD i []).take j).length V)],ag,aK,(by rw [ie _ i [] ag,kW,show ((cy s).take i).length=i from by rw [bY]; omega,M,bo,AZ]; exact aN),(by rw [ie _ i [] ag,kW,show ((cy s).take i).length=i from by rw [bY]; omega,M]; exact aS),U,U⟩
 have M:∀ n,iO ((cy s).getD i []) n= []:=fun n=>by unfold iO; rw [an,if_pos (uX.1 ag)]
 exact aB 8 U<|tn<|⟨_,ag,i+1,J,vs,ag,(Md.trans ac A),(by rw [ie _ i [] ag,kW,M,kC]; exact aR (aR I E) A),(by rw [ie _ i [] ag,kW,M,kC]; exact (ad.wk E).wk A),U,U⟩
 refine aB 2 U<|cj<|fY 4 U<|gH (J)<|p (th (J) U)<|ar 4 U<|f2 U U U ?_;have ao:¬65536 < s.length:=ag;rw [show (cy s).take i=cy s from ja ag] at I ad;exact ⟨⟨J,by show kB #[J,.int .i64 0]=_; rw [if_neg ao],by rw [if_neg ao]; exact ⟨vs,nr I aH.size,ad.mono aH.size⟩⟩,Md.trans aH am⟩
end Go.Hb
section
namespace Go.Hb.nU
open Go.Hb.vx
theorem Pk (a:Option aW) (aa:Nat) (l:List bH) (n:Nat) (C:UInt8) (w:ai) (M:gj w.heap a l) (al:jd l) (ae:n < l.length):
 aZ aq 110 (bd [.slice a l.length aa,aQ n,.int .u8 C.toNat]) w (fun v w'=>(∃ r:Int,v= .int .i64 r∧((jn C (bp l n).2=(bp l n).2.length∧r= -1)∨(∃ (m:Nat) (c:UInt8),m < l.length∧r=m∧(bp l n).2[jn C (bp l n).2]? =some (c,(m:Int)))))∧Wk w w'):=by
 obtain ⟨au,av,O,L⟩:=M.two ae;obtain ⟨aw,an⟩:=al.st ae;refine enter func110 U ntmps110 U<|bV 12 U<|lp (fun ab ak ah=> ∃ (i:Nat),(i≤(bp l n).2.length)∧(∀ (j:Nat) (I:UInt8×Int),j < i→(bp l n).2[j]? =some I→I.1≠C)∧(Wk w ah)∧(Sl ak [(0,.slice a l.length aa),(1,aQ n),(2,.int .u8 C.toNat),(7,aQ i)])∧((bp l n).2.length - i=ab)) _ ⟨0,ag,(fun j d ad=>by omega),(Md.refl _ _),U,U⟩ ?_;rintro ab ak ah ⟨i,hi,Z,A,ao,rfl⟩;refine bE ao<|aP 6 U<|p (bZ tF U U ag<|(M.wk A).ok ag)<|aj 1 U<|p (ay U<|(mF A O) 1 ag)<|aC 4 U<|cd U (fun am=> ?_) fun am=> ?_;refine bD 5 U ?_;obtain ⟨E,J⟩:∃ d,(bp l n).2[i]? =some d:=⟨_,cr ag⟩
 refine az 3 U<|p (bZ tF U U ag<|(M.wk A).ok ag)<|aj 1 U<|p (ay U<|(mF A O) 1 ag)<|aj 1 U<|p (bZ qY U U ag<|(L.wk A).ok ag)<|aj 1 U<|p (ay U<|(L.wk A).b i E J)<|aC 4 U<|cd U (fun ac=> ?_) fun ac=> ?_;have V:E.1=C:=UInt8.toNat_inj.1 ag;refine az 4 U<|p (bZ tF U U ag<|(M.wk A).ok ag)<|aj 1 U<|p (ay U<|(mF A O) 1 ag)<|aj 1 U<|p (bZ qY U U ag<|(L.wk A).ok ag)<|aj 1 U<|p (ay U<|(L.wk A).to i E J)<|ar 6 U<|tr<|bg 2 U<|aE U ?_;obtain ⟨ap,ax⟩:=an _ _ J;exact ⟨⟨E.2,U,.inr ⟨E.2.toNat,E.1,ag,ag,by rw [EJ J V Z,J,Int.toNat_of_nonneg ap]⟩⟩,A⟩;have V:E.1≠C:=fun h=>ac<|by rw [h]
 exact az 5 U<|p (bW<|i+1)<|ar 2 U<|tn<|⟨_,ag,i+1,ag,(fun j I ad jm=>by rcases Nat.lt_succ_iff_lt_or_eq.1 ad with h | rfl; exact Z j I h jm; rw [J] at jm; cases jm; exact V),A,U,U⟩
 exact aB 2 U<|cj<|bg 8 U<|aE U<|⟨⟨-1,U,.inl ⟨EK (fun j I jm=>Z j I (by have :=(dt.1 jm).1; omega) jm),U⟩⟩,A⟩
theorem OO (a:Option aW) (C:Nat) (l:List bH) (x:List UInt8) (w:ai) (E:gj w.heap a l) (V:jd l) (L:0 < l.length) (ap:x.length≤4294967296):
 aZ aq 59 (bd [.slice a l.length C,str x]) w (fun v w'=>(∃ m:Nat,v= .tuple #[.bool (j9 l x),aQ m])∧Wk w w'):=by
 have an:=V.1;refine enter func59 U ntmps59 U<|bV 18 U<|lp (fun O aa M=> ∃ (k q:Nat),(k≤x.length)∧(q < l.length)∧((jj l x).1=(ji l q<|x.drop k).1)∧(Wk w M)∧(Sl aa [(0,.slice a l.length C),(1,str x),(6,aQ q),(7,aQ k)])∧(x.length - k=O)) _ ⟨0,0,ag,L,(by rw [jj,if_neg (fun h=>by rw [h] at L; simp at L)]; rfl),(Md.refl _ _),U,U⟩ ?_;rintro O aa M ⟨k,q,ao,Z,J,A,ak,rfl⟩;refine bE ak<|bV 9 U<|cd U (fun ac=> ?_) fun ac=> ?_;refine az 10 U<|p (dc u9 U U ag)<|e<|aI (Pk a C l q (x.getD k 0) M (E.wk A) V Z) U ?_;rintro au av ⟨⟨r,rfl,hr⟩,hE19⟩;refine aC 9 U<|cd U (fun ad=> ?_) fun ad=> ?_;have ah:=(hr.resolve_right fun ⟨m,c,_,h,_⟩=>by omega).1;refine aB 10 U<|tr<|bg 2 U<|f2 U U U ?_;have I:(jj l x).1=none:=by rw [J,zm ag,Cq ah]
 exact ⟨⟨k,by unfold j9; rw [I]; rfl⟩,A.trans hE19⟩;obtain ⟨m,c,hm,rfl,ae⟩:=hr.resolve_left fun h=>by omega
 exact az 5 U<|p (bW<|k+1)<|ar 2 U<|tn<|⟨_,ag,k+1,m,ag,hm,(by rw [J,zm ag,Cp ae U]),(A.trans hE19),U,U⟩
 refine aB 2 U<|cj<|dT 3 U ?_;obtain ⟨al,am,ab,_⟩:=(E.wk A).two Z;refine az 3 U<|p (bZ tF U U ag<|(E.wk A).ok ag)<|aj 1 U<|p (ay U<|ab 0 ag)<|ar 7 U<|f2 U U U ?_;obtain rfl :k=x.length:=ag;have I:(jj l x).1=some q:=by rw [J,List.drop_length]; rfl
 exact ⟨⟨x.length,by unfold j9; rw [I]; rfl⟩,A⟩
theorem Pv (s:List UInt8) (w:ai) (bc:s.length≤1048576):
 aZ aq 61 (bd [str s]) w (fun v w'=>v=str (eH s)∧Wk w w'):=by
 refine enter func61 U ntmps61 U<|aP 7 U<|e<|tk fF fun am a6 a9 aM aI=> ?_;have a0:b9 a6 w.heap.size 5 1 (.slice (some ⟨am,0,none⟩) 0 0) (([]:List UInt8)).length (U8<|([]:List UInt8)):=aI _ ag;refine aC 10 U<|lp (fun an aA ak=> ∃ (i:Nat) (ad:ah),(i≤s.length)∧(b9 ak w.heap.size 5 1 (ad) (eH<|s.take i).length<|U8<|eH<|s.take i)∧(Wk w ak)∧(Sl aA [(0,str s),(3,ad),(4,aQ i)])∧(s.length - i=an)) _ ⟨0,.slice (some ⟨am,0,none⟩) 0 0,ag,a0,aM.md,U,U⟩ ?_;rintro an aA ak ⟨i,ad,hi,C,J,a1,rfl⟩;refine bE a1 ?_;obtain ⟨aF,aG,rfl⟩:=de C;have a3:=sw<|s.take i;rw [bY] at a3;refine bV 9 U<|cd U (fun aO=> ?_) fun aO=> ?_;refine bD 4 U ?_;refine ei (fun aD ae=> ∃ (Z:List UInt8) (ab:ah),(Z.length≤2 *i+1)∧(Wk w ae)∧(b9 ae w.heap.size 5 1 (ab) (Z).length<|U8<|Z)∧(Z++ [s.getD i 0]=eH (s.take<|i+1))∧(Sl aD [(0,str s),(3,ab),(4,aQ i)])) ?_ ?_;refine aP 4 U<|p (dc u9 U U ag)<|aj 2 U<|gs (t:=16) U (fun aS=> ?_) fun aS=> ?_;refine aj 5 U<|p mv<|aj 10 U<|e<|fh fF U U fun al aa au A I=> ?_;have E:Wk w aa:=Md.trans J A.md;refine e<|ap fF (aR C A.md) U (by have :=E.size; omega) U (aT.dD I) (U) (U) ag ag fun v30 ay O M ax av=> ?_;have L:=Wk.own E (aR C A.md) M<|bf _;have V:=oA (x:=92) O;exact p aU<|ar 1 U<|tn<|⟨eH (s.take i)++ [92],v30,(by rw [bo,dE]; omega),L,V,(by rw [sA ag,if_pos (show jS (s.getD i 0)=true from decide_eq_true ag),iF]; rfl),U⟩
 refine aj 2 U<|bA U (dc u9 U U ag)<|aj 3 U<|gs (t:=22) U (fun aV=> ?_) fun aV=> ?_;refine aj 10 U<|e<|fh fF U U fun al aa au A I=> ?_;have E:Wk w aa:=Md.trans J A.md;refine e<|ap fF (aR C A.md) U (by have :=E.size; omega) U (aT.dD I) (U) (U) ag ag fun v30 ay O M ax av=> ?_;have L:=Wk.own E (aR C A.md) M<|bf _;have V:=oA (x:=92) O;exact p aU<|ar 1 U<|tn<|⟨eH (s.take i)++ [92],v30,(by rw [bo,dE]; omega),L,V,(by rw [sA ag,if_pos (show jS (s.getD i 0)=true from decide_eq_true ag),iF]; rfl),U⟩
 refine aj 2 U<|bA U (dc u9 U U ag)<|aC 4 U<|cd U (fun aN=> ?_) fun aN=> ?_;refine az 2 U<|e<|fh fF U U fun al aa au A I=> ?_;have E:Wk w aa:=Md.trans J A.md;refine e<|ap fF (aR C A.md) U (by have :=E.size; omega) U (aT.dD I) (U) (U) ag ag fun v30 ay O M ax av=> ?_;have L:=Wk.own E (aR C A.md) M<|bf _;have V:=oA (x:=92) O;exact p aU<|ar 1 U<|tn<|⟨eH (s.take i)++ [92],v30,(by rw [bo,dE]; omega),L,V,(by rw [sA ag,if_pos (show jS (s.getD i 0)=true from decide_eq_true ag),iF]; rfl),U⟩
 exact aB 1 U<|tn<|⟨eH (s.take i),.slice aF (eH<|s.take i).length aG,ag,J,C,(by rw [sA ag,if_neg (fun h=>by have :=of_decide_eq_true h; omega)]),U⟩
 rintro aD ae ⟨Z,ab,bb,aK,aw,aW,a2⟩;refine bE a2<|az 1 U<|gH (ab)<|aj 2 U<|p (dc u9 U U ag)<|e<|fh fF U U fun a7 a5 a8 ac aH=> ?_;have ao:Wk w a5:=Md.trans aK ac.md;refine e<|ap fF (aR aw ac.md) U (by have :=ao.size; omega) U (aT.dD aH) (U) (U) ag ag fun a4 bh aX aL bg ba=> ?_;have aJ:=Wk.own ao (aR aw ac.md) aL<|bf _;have aY:=oA aX;exact p aU<|ar 8 U<|tn<|⟨_,ag,i+1,a4,ag,(by rw [← aW]; exact aY),aJ,U,U⟩
 exact aB 2 U<|cj<|fY 5 U<|p (mc nW U ((dx C).2)<|U)<|ar 4 U<|aE U<|⟨by show str (eH<|s.take i)=_; rw [show s.take i=s from ja ag],J⟩
theorem ux (la lb:Tl) (A C:Option aW) (E kb:Nat) (w:ai) (I:bN w.heap A la) (J:bN w.heap C lb) (M:mV la) (O:mV lb) (hlen:la.length+lb.length≤4294967296):
 aZ aq 55 (bd [.slice A la.length E,.slice C lb.length kb]) w (fun v w'=>Wk w w'∧b9 w' w.heap.size 9 1 v (bQ<|la++lb).length ((bQ<|la++lb).map str)):=by
 exact enter func55 U ntmps55 U<|aP 9 U<|e<|aI (Fo la lb A C E kb w I J M O hlen) U fun V Z L=>p aU<|ar 3 U<|aE U<|L
theorem Fs (la lb:Tl) (O I:Option aW) (al kb:Nat) (w:ai) (J:bN w.heap O la) (ao:bN w.heap I lb) (aH:mV lb) (hlen:la.length+lb.length≤4294967296):
 aZ aq 56 (bd [.slice O la.length al,.slice I lb.length kb]) w (fun v w'=>Wk w w'∧b9 w' w.heap.size 9 1 (v) (iA la lb).length ((iA la lb).map str)):=by
 refine enter func56 U ntmps56 U<|bV 17 U<|lp (fun ae am E=> ∃ (i:Nat) (ab:ah),(i≤la.length)∧(b9 E w.heap.size 9 1 (ab) (iA (la.take i) lb).length<|(iA (la.take i) lb).map str)∧(Wk w E)∧(Sl am [(0,.slice O la.length al),(1,.slice I lb.length kb),(5,ab),(6,aQ i)])∧(la.length - i=ae)) _ ⟨0,.slice none 0 0,ag,(eL _ _ _ _),(Md.refl _ _),U,U⟩ ?_;rintro ae am E ⟨i,ab,hi,A,C,aG,rfl⟩;refine bE aG ?_;obtain ⟨ac,ad,rfl⟩:=de A;have aA:=Au (la.take i) lb;rw [bY] at aA;refine bV 9 U<|cd U (fun ax=> ?_) fun ax=> ?_;refine az 9 U<|p (bZ dH U U ag<|aT.ok (J.wk C)<|ef ag)<|p (ay U<|bN.get (i:=i) (J.wk C) ag)<|e<|aI (mj lb (la.getD i []) I kb E (ao.wk C) aH ag) U ?_;rintro aO aP ⟨rfl,L⟩;have M:=C.trans L;refine aC 9 U<|cb U (fun Z=> ?_) fun Z=> ?_;have aa:la.getD i []∉lb:=by simpa using Z
 refine az 4 U<|p (bZ dH U U ag<|aT.ok (J.wk M)<|ef ag)<|p (ay U<|bN.get (i:=i) (J.wk M) ag)<|e<|fh ew U U fun aK aJ aL V au=> ?_;have ak:Wk w aJ:=Md.trans M V.md;refine e<|ap ew (aR (aR A L) V.md) U (by have :=ak.size; omega) U (aT.dD au) (U) (U) ag ag fun v28 aS aD aw aN aM=> ?_;have av:=Wk.own ak (aR (aR A L) V.md) aw<|bf _;have aF:=ns aD;exact p aU<|aj 5 U<|p (bW<|i+1)<|ar 2 U<|tn<|⟨_,ag,i+1,v28,ag,(by rw [Fp ag,if_neg aa]; exact aF),av,U,U⟩
 have aa:la.getD i []∈lb:=by simpa using Z
 exact az 5 U<|p (bW<|i+1)<|ar 2 U<|tn<|⟨_,ag,i+1,.slice ac (iA (la.take i) lb).length ad,ag,(by rw [Fp ag,if_pos aa]; exact aR A L),M,U,U⟩
 refine aB 2 U<|cj<|bg 9 U<|aE U ?_;have an:la.take i=la:=ja ag;refine ⟨C,?_⟩;show b9 E w.heap.size 9 1 (.slice ac (iA (la.take i) lb).length ad) _ _;rw [an] at A ⊢;exact A
abbrev dw (w:ai) (B:Nat) (v:ah) (l:Tl):Prop :=Tg w B 9 l.length v<|l.map str
theorem dw.nil (w:ai) (B:Nat):dw w B (.slice none 0 0) []:=⟨none,0,rfl,bf _,.inl rfl⟩
theorem dw.own {w:ai} {B:Nat} {v:ah} {l:Tl} (h:b9 w B 9 1 v l.length (l.map str)):dw w B v l:=Tg.oz h
theorem dw.sl {w:ai} {B:Nat} {v:ah} {l:Tl} (h:dw w B v l):∃ a c,v= .slice a l.length c∧bN w.heap a l:=by
 obtain ⟨a,c,rfl⟩:=h.slice;exact ⟨a,c,U,h.mY.2⟩
def ur (vals:List (ah×ah)):List ah:=vals.flatMap fun q=> [q.1,q.2]
theorem Hc (vals:List (ah×ah)):(ur vals).length=vals.length*2:=Ef (f:=fun q:ah×ah=> [q.1,q.2]) (m:=2) (fun _=>rfl) vals
theorem Hd (vals:List (ah×ah)) (q:ah×ah):ur (vals++ [q])=ur vals++ [q.1,q.2]:=by simp [ur]
structure cU (w:ai) (B xr:Nat) (a b:Tl) (va vb vk:ah) (vals:List (ah×ah)) (bck:List (Tl×Tl)):Prop where
 obj:w.heap[xr]? =some (.cells [va,vb,vk].toArray 68 (0,0))
 lo:B≤xr
 ra:dw w B va a
 rb:dw w B vb b
 back:b9 w B 65 2 vk bck.length (ur vals)
 vl:vals.length=bck.length
 fP:∀ (i:Nat) q t,vals[i]? =some q→bck[i]? =some t→dw w B q.1 t.1∧dw w B q.2 t.2
theorem cU.wk {w w':ai} {B xr:Nat} {a b:Tl} {va vb vk:ah} {vals:List (ah×ah)} {bck:List (Tl×Tl)} (h:cU w B xr a b va vb vk vals bck) (hm:Wk w w'):cU w' B xr a b va vb vk vals bck:=
 ⟨Wk.ax hm h.obj,h.lo,h.ra.wk hm,h.rb.wk hm,aR h.back hm,h.vl,fun i q t A C=>⟨(h.fP i q t A C).1.wk hm,(h.fP i q t A C).2.wk hm⟩⟩
theorem cU.B {w:ai} {B xr:Nat} {a b:Tl} {va vb vk:ah} {vals:List (ah×ah)} {bck:List (Tl×Tl)} (h:cU w B xr a b va vb vk vals bck):aD w.heap xr [va,vb,vk]:=⟨_,h.obj⟩
theorem D5 {x y:Tl} (E:x.length=y.length) (h:∀ j,j < x.length→x.getD j []=y.getD j []):x=y:=by
 refine List.ext_getElem E fun i A C=> ?_;have :=h i A;rw [cQ,cQ,cr A,cr C] at this;exact this
def Gn:Except Nat (List UInt8×Int)→ah
 | .ok (x,_)=> .tuple #[str x,.int .i64 0]
 | .error q=> .tuple #[str [],.int .i64 ((q:Nat):Int)]
theorem yY {b:Bool} (h:(!b)=true):b=false :=by cases b; rfl; cases h
theorem yX {b:Bool} (h:(!b)=false):b=true :=by cases b; cases h; rfl
theorem Gj (B xr:Nat) (a b:Tl) (va vb vk:ah) (vals:List (ah×ah)) (bck:List (Tl×Tl)) (x:List UInt8) (w:ai) (C:cU w B xr a b va vb vk vals bck) (ac:mV a) (ad:mV b) (hlen:a.length+b.length≤4294967296):
 aZ aq 58 (bd [aA xr,str x]) w (fun v w'=>v= .int .i64 (if x∈a then 1 else if x∈b then -1 else 0)∧Wk w w'):=by
 obtain ⟨a0,V,rfl,aa⟩:=C.ra.sl;obtain ⟨O,Z,rfl,ab⟩:=C.rb.sl;refine enter func58 U ntmps58 U<|aP 11 U<|p (ay U<|C.B.aG 0)<|aj 1 U<|e<|aI (mj a x a0 V w aa ac ag) U ?_;rintro ak ae ⟨rfl,A⟩;refine aC 9 U<|cb U (fun I=> ?_) fun I=> ?_;have E:x∈a:=by simpa using I
 exact aB 7 U<|aE U<|⟨by rw [if_pos E]; rfl,A⟩
 have E:x∉a:=by simpa using I
 refine az 8 U<|p (ay U<|(C.wk A).B.aG 1)<|aj 1 U<|e<|aI (mj b x O Z ae (ab.wk A) ad ag) U ?_;rintro v21 al ⟨rfl,M⟩;refine aC 9 U<|cb U (fun J=> ?_) fun J=> ?_;have L:x∈b:=by simpa using J
 exact aB 7 U<|aE U<|⟨by rw [if_neg E,if_pos L]; rfl,A.trans M⟩
 have L:x∉b:=by simpa using J
 exact aB 8 U<|aE U<|⟨by rw [if_neg E,if_neg L]; rfl,A.trans M⟩
theorem Ph (la lb ma mb:Tl) (a0 ab a3 a4:Option aW) (aD aF c3 aH:Nat) (w:ai) (ae:bN w.heap a0 la) (ak:bN w.heap ab lb) (ah:bN w.heap a3 ma) (al:bN w.heap a4 mb) (hlen:la.length+lb.length≤4294967296):
 aZ aq 57 (bd [.agg #[.slice a0 la.length aD,.slice ab lb.length aF],.agg #[.slice a3 ma.length c3,.slice a4 mb.length aH]]) w (fun v w'=>v= .bool (decide (la=ma∧lb=mb))∧Wk w w'):=by
 refine enter func57 U ntmps57 U<|aP 2 U<|e<|l9 U fun ac w2 aU aL aI=>e<|l9 U fun ad aa aV am aJ=> ?_;have J:=Wk.B am.md aI;have O:=aJ;have C:Wk w aa:=Md.trans aL.md am.md;refine aj 7 U<|p (ay U<|J.aG 0)<|aj 2 U<|p (ay U<|O.aG 0)<|aj 3 U<|gs (t:=14) U (fun ap=> ?_) fun ap=> ?_;exact ar 18 U<|aE U<|⟨bF (fun h=>ap<|by rw [h.1]),C⟩
 refine aj 1 U<|bA U (ay U<|J.aG 1)<|aj 2 U<|bA U (ay U<|O.aG 1)<|aC 5 U<|cd U (fun ao=> ?_) fun ao=> ?_;exact aB 7 U<|aE U<|⟨bF (fun h=>ao<|by rw [h.2]),C⟩
 refine bD 9 U<|lp (fun L aw au=> ∃ (i:Nat),(i≤la.length)∧(∀ j,j < i→la.getD j []=ma.getD j [])∧(Wk aa au)∧(Sl aw [(2,aA ac),(3,aA ad),(5,aQ i)])∧(la.length - i=L)) _ ⟨0,ag,(fun j M=>by omega),(Md.refl _ _),U,U⟩ ?_;rintro L aw au ⟨i,hi,heq,A,aR,rfl⟩;refine bE aR<|aP 5 U<|p (ay U<|(Wk.B A J).aG 0)<|aC 4 U<|cd U (fun aM=> ?_) fun aM=> ?_;refine bD 5 U<|fk fun I=>aY [0] U I<|c9 1 U I ((Wk.B A J).aG 0)<|aY [2] U I<|cB 3 U (bZ dH U U ag<|aT.ok (ae.wk<|C.trans A)<|ef ag) I<|c9 4 U I (bN.get (i:=i) (ae.wk<|C.trans A) ag)<|aY [5] U I<|c9 6 U I ((Wk.B A O).aG 0)<|aY [7] U I<|cB 8 U (bZ dH U U ag<|aT.ok (ah.wk<|C.trans A)<|ef ag) I<|c9 9 U I (bN.get (i:=i) (ah.wk<|C.trans A) ag)<|aY [10] U I<|hn an<|dT 1 U<|cd U (fun V=> ?_) fun V=> ?_;exact aB 8 U<|tr<|bg 2 U<|aE U<|⟨bF (fun h=>V<|by rw [h.1]),(C.trans A).trans I⟩
 exact az 5 U<|p (bW<|i+1)<|ar 2 U<|tn<|⟨_,ag,i+1,ag,(fun j M=>by rcases dM j i with h | h <;> first | exact heq j h | (rw [show j=i by omega]; exact mJ.1 V)),(A.trans I),U,U⟩
 refine aB 2 U<|cj<|dT 4 U ?_;have aO:=D5 (x:=la) (y:=ma) ag fun j M=>heq j ag;have aK:=A;clear hi heq A;refine bD 5 U<|lp (fun L ax av=> ∃ (i:Nat),(i≤lb.length)∧(∀ j,j < i→lb.getD j []=mb.getD j [])∧(Wk aa av)∧(Sl ax [(2,aA ac),(3,aA ad),(6,aQ i)])∧(lb.length - i=L)) _ ⟨0,ag,(fun j M=>by omega),aK,U,U⟩ ?_;rintro L ax av ⟨i,hi,heq,A,aS,rfl⟩;refine bE aS<|aP 5 U<|p (ay U<|(Wk.B A J).aG 1)<|aC 4 U<|cd U (fun aN=> ?_) fun aN=> ?_;refine bD 5 U<|fk fun E=>aY [0] U E<|c9 1 U E ((Wk.B A J).aG 1)<|aY [2] U E<|cB 3 U (bZ dH U U ag<|aT.ok (ak.wk<|C.trans A)<|ef ag) E<|c9 4 U E (bN.get (i:=i) (ak.wk<|C.trans A) ag)<|aY [5] U E<|c9 6 U E ((Wk.B A O).aG 1)<|aY [7] U E<|cB 8 U (bZ dH U U ag<|aT.ok (al.wk<|C.trans A)<|ef ag) E<|c9 9 U E (bN.get (i:=i) (al.wk<|C.trans A) ag)<|aY [10] U E<|hn an<|dT 1 U<|cd U (fun Z=> ?_) fun Z=> ?_;exact aB 8 U<|tr<|bg 2 U<|aE U<|⟨bF (fun h=>Z<|by rw [h.2]),(C.trans A).trans E⟩
 exact az 5 U<|p (bW<|i+1)<|ar 2 U<|tn<|⟨_,ag,i+1,ag,(fun j M=>by rcases dM j i with h | h <;> first | exact heq j h | (rw [show j=i by omega]; exact mJ.1 Z)),(A.trans E),U,U⟩
 exact aB 2 U<|cj<|bg 8 U<|aE U<|⟨bT ⟨aO,D5 ag fun j M=>heq j ag⟩,C.trans A⟩
theorem Pe (a:Option aW) (cap:Nat) (f:List (List UInt8)) (w:ai) (C:bN w.heap a f) (am:∀ x∈f,x≠[]) (ak:∀ x∈f,x.length≤1048576) (av:f.length≤1048577):
 aZ aq 67 (bd [.slice a f.length cap]) w (fun v w'=>v=Gn (eN f)∧Wk w w'):=by
 refine enter func67 U ntmps67 U<|aP 9 U<|p mv<|aC 4 U<|cd U (fun ad=> ?_) fun ad=> ?_;exact aB 8 U<|f2 U U U<|⟨by rw [DK ag]; rfl,Md.refl _ _⟩
 have I:f.length=1:=ag;have aw:0 < (f.getD 0 []).length:=uY.2<|am _<|gO ag;have ax:(f.getD 0 []).length≤1048576:=ak _<|gO ag;have ao:=H8<|(f.getD 0 []).drop 1;rw [gh] at ao;refine bD 2 U ?_;refine ei (fun ac aa=> ∃ (ap:Unit),(dm f=43∨dm f=45)∧(Wk w aa)∧(Sl ac [(0,.slice a f.length cap)])) ?_ ?_;refine aP 2 U<|p mv<|p (bZ dH U U ag<|aT.ok (C)<|ef ag)<|p (ay U<|bN.get (i:=0) C ag)<|p (kP 0 u9 U U ag)<|aj 2 U<|gs (t:=17) U (fun al=> ?_) fun al=> ?_;refine bA U mv<|bA U (bZ dH U U ag<|aT.ok (C)<|ef ag)<|bA U (ay U<|bN.get (i:=0) C ag)<|bA U (kP 0 u9 U U ag)<|aC 4 U<|cd U (fun ae=> ?_) fun ae=> ?_;exact aB 7 U<|tr<|f2 U U U<|⟨by rw [DM I (by unfold dm; omega) (by unfold dm; omega)]; rfl,Md.refl _ _⟩
 exact aB 1 U<|tn<|⟨(),(by unfold dm; omega),(Md.refl _ _),U⟩
 exact ar 10 U<|tn<|⟨(),(by unfold dm; omega),(Md.refl _ _),U⟩
 rintro ac aa ⟨ap,M,A,an⟩;refine bE an<|az 3 U<|p (bZ dH U U ag<|aT.ok (C.wk A)<|ef ag)<|p (ay U<|bN.get (i:=0) (C.wk A) ag)<|p (mD u9 U U ag)<|e<|aI (Pu ((f.getD 0 []).drop 1) aa<|by rw [gh]; omega) U ?_;rintro aA au ⟨rfl,L⟩;refine p mv<|aC 17 U<|cd U (fun ah=> ?_) fun ah=> ?_;have E:(dR f).2.2.2≠0:=by show (iC<|(f.getD 0 []).drop 1).2.2.2≠0; omega
 exact aB 9 U<|f2 U U U<|⟨by rw [DJ I M E]; rfl,A.trans L⟩
 have E:(dR f).2.2.2=0:=by show (iC<|(f.getD 0 []).drop 1).2.2.2=0; omega
 refine bD 8 U<|cb U (fun V=> ?_) fun V=> ?_;have J:(dR f).2.2.1=true :=V;exact aB 8 U<|f2 U U U<|⟨by rw [DI I M E J]; rfl,A.trans L⟩
 have J:(dR f).2.2.1=false :=V;refine az 5 U<|e<|aI (Gy (iC<|(f.getD 0 []).drop 1).1 au ag) U ?_;rintro aD aE ⟨rfl,ab⟩;refine aC 10 U<|cb U (fun Z=> ?_) fun Z=> ?_;have O:dK (dR f).1=false :=yY Z;exact aB 8 U<|f2 U U U<|⟨by rw [DH I M E J O]; rfl,(A.trans L).trans ab⟩
 have O:dK (dR f).1=true :=yX Z;exact aB 10 U<|f2 U U U<|⟨by rw [DL I M E J O]; rfl,(A.trans L).trans ab⟩
end Go.Hb.nU
end
section
namespace Go.Hb.o6
open Go.Hb.vx Go.Hb.nU
theorem Q1 {G:Nat→Prop} {w w':ai} (h:Md G w.drew w'):Md G w w':=⟨h.os,h.output,h.size,h.dC⟩
def et (A:Bool) (a b ws:Tl):Tl×Tl:=if A=true then (bQ (a++bQ ws),iA b (bQ ws)) else (iA a (bQ ws),bQ (b++bQ ws))
theorem OL (A:Bool) (a b ws:Tl):(et A a b ws).1.length +(et A a b ws).2.length≤a.length+b.length+ws.length:=by
 have C:=oD<|a++bQ ws;have E:=oD<|b++bQ ws;have I:=oD ws;have J:=Au a<|bQ ws;have L:=Au b<|bQ ws;rw [bo] at C E;unfold et;split <;> simp only <;> omega
def lX (B xr:Nat) (a b:Tl) (vk:ah) (bck:List (Tl×Tl)) (ws:Tl) (A:Bool) (w:ai) (v:ah) (w':ai):Prop :=
 ((∃ x∈ws,dK x=false)∧v= .int .i64 21∧Wk w w')∨((∀ x∈ws,dK x=true)∧((500 < (et A a b ws).1.length +(et A a b ws).2.length∧v= .int .i64 280∧Wk w w')∨((et A a b ws).1.length +(et A a b ws).2.length≤500∧v= .int .i64 0∧(((et A a b ws).1=a∧(et A a b ws).2=b∧Wk w w')∨
 (¬((et A a b ws).1=a∧(et A a b ws).2=b)∧∃ E J C I,cU w' B xr (et A a b ws).1 (et A a b ws).2 E J C I (bck++ [(a,b)])∧Md (fun k=>k=xr∨vk.ownBlock=some k) w w'∧∀ k,C.ownBlock=some k→vk.ownBlock=some k∨w.heap.size≤k)))))
theorem HC {h:Array Obj} {bl:Nat} {u v x:ah} (hb:aD h bl [u,v,x]):∀ j,j < 2→aH h bl (0 +0 +j)= [u,v][j]? :=fun j A=>(hb.aG j).trans (match j,A with
 | 0,_=>rfl
 | 1,_=>rfl)
theorem cU.xk {w:ai} {B xr:Nat} {a b:Tl} {va vb vk:ah} {vals:List (ah×ah)} {bck:List (Tl×Tl)} (h:cU w B xr a b va vb vk vals bck):¬vk.ownBlock=some xr:=fun A=>ib (e':=68) h.back aJ xr A _ _ h.obj
set_option maxHeartbeats 2000000 in
theorem F7 (C:Bool) (B xr:Nat) (a b:Tl) (va vb vk:ah) (vals:List (ah×ah)) (bck:List (Tl×Tl)) (ws:Tl) (aS:Option aW) (a1:Nat) (w:ai) (E:cU w B xr a b va vb vk vals bck) (cW:mV a) (cX:mV b) (J:bN w.heap aS ws) (cI:ws.length≤a1) (dk:ws.length≤1048576) (c0:∀ x∈ws,x.length≤1048576) (hlen:a.length+b.length≤500) (dh:bck.length≤1048576) (c9:B≤w.heap.size):
 aZ aq 24 (bd [aA xr,.slice aS ws.length a1,.bool C]) w (lX B xr a b vk bck ws C w):=by
 obtain ⟨a0,aV,rfl,bq⟩:=E.ra.sl;obtain ⟨aP,aX,rfl,br⟩:=E.rb.sl;have dj:=oD ws;have di:=OL C a b ws;have dl:=(cx.1 E.obj).1;refine enter func24 U ntmps24 U<|bV 12 U<|lp (fun bM b7 bj=> ∃ (i:Nat),(i≤ws.length)∧(∀ x∈ws.take i,dK x=true)∧(Wk w bj)∧(Sl b7 [(0,aA xr),(1,.slice aS ws.length a1),(2,.bool C),(7,aQ i)])∧(ws.length - i=bM)) _ ⟨0,ag,(fun x aw=>by simp at aw),(Md.refl _ _),U,U⟩ ?_;rintro bM b7 bj ⟨i,hi,b3,am,cR,rfl⟩;refine bE cR<|bV 9 U<|cd U (fun cG=> ?_) fun cG=> ?_;refine az 8 U<|p (bZ dH U U ag<|aT.ok (J.wk am)<|ef ag)<|p (ay U<|bN.get (i:=i) (J.wk am) ag)<|e<|aI (Gy (ws.getD i []) bj<|c0 _<|gO ag) U ?_;rintro dB dJ ⟨rfl,bP⟩;refine aC 9 U<|cb U (fun bA=> ?_) fun bA=> ?_;have ac:dK (ws.getD i [])=false :=yY bA;exact aB 8 U<|tr<|bg 2 U<|aE U<|.inl ⟨⟨_,gO (show i < ws.length by omega),ac⟩,U,am.trans bP⟩;have ac:dK (ws.getD i [])=true :=yX bA;exact az 5 U<|p (bW<|i+1)<|ar 2 U<|tn<|⟨_,ag,i+1,ag,(fun x aw=>by rw [ie ws i [] ag,dz,List.mem_singleton] at aw; rcases aw with aw | rfl; exact b3 x aw; exact ac),(am.trans bP),U,U⟩
 refine aB 2 U<|cj<|dT 3 U ?_;have bK:∀ x∈ws,dK x=true :=by
  have h:=b3;rw [show ws.take i=ws from ja ag] at h;exact h
 refine az 2 U<|e<|aI (Om ws.length ws aS a1 bj U (J.wk am) cI ag) U ?_;rintro dC dL ⟨cw,aO⟩;obtain ⟨bh,bi,rfl⟩:=de aO;have bR:=am.trans cw;refine p aU<|aj 4 U<|p (dZ (ps:= []) (L:= [.slice none 0 0,.slice none 0 0]) Qj U<|U)<|e<|al RQ fun ak dI Z bz ck=> ?_;have dm:=bz.size;have dr:=bR.size;refine e<|sf zi U U U U (ck) (by simp) fun bm bS ct=> ?_;have Z:aD bm.heap ak [.slice none 0 0,.slice none 0 0]:=ct;have ab:Wk w bm:=(bR.trans bz.md).trans' bS fun k A h=>by omega
 have bJ:=cC (aR aO bz.md) bS fun k A h=>by have :=da aO A; omega
 have dy:=ab.size;have bY:=(dx bJ).2;refine aC 2 U ?_;refine ei (fun b8 ae=> ∃ (a2 a3:Option aW) (c2 c3:Nat),(aD ae.heap ak [.slice a2 (et C a b ws).1.length c2,.slice a3 (et C a b ws).2.length c3])∧(dw ae B (.slice a2 (et C a b ws).1.length c2) (et C a b ws).1)∧(dw ae B (.slice a3 (et C a b ws).2.length c3) (et C a b ws).2)∧(Wk w ae)∧(Sl b8 [(0,aA xr),(10,aA ak)])) ?_ ?_;refine bV 5 U<|cb U (fun bB=> ?_) fun bB=> ?_;subst bB;refine az 6 U<|p (ay U<|(E.wk ab).B.aG 0)<|p mv<|e<|aI (ux a (bQ ws) a0 bh aV bi bm (bq.wk ab) bY cW (iT _) ag) U ?_;rintro dE dN ⟨a4,bc⟩;obtain ⟨b9,cc,rfl⟩:=de bc;have ds:=a4.size;refine aj 1 U<|e<|st pd U U (U) (Wk.B a4 Z) (by simp) fun b5 a8 cm=> ?_;have bt:Wk w b5:=(ab.trans a4).trans' a8 fun k A h=>by omega
 have cL:=cC bc a8 fun k A h=>by have :=da bc A; have :=Z.lt; omega
 have cS:=cC (aR bJ a4) a8 fun k A h=>by have :=da aO A; omega
 have dn:=a8.size;refine aj 7 U<|p (ay U<|(E.wk bt).B.aG 1)<|p mv<|e<|aI (Fs b (bQ ws) aP bh aX bi b5 (br.wk bt) (dx cS).2 (iT _) ag) U ?_;rintro dF dO ⟨a5,bF⟩;obtain ⟨ca,ce,rfl⟩:=de bF;have dt:=a5.size;refine aj 1 U<|e<|st pd U U (U) (Wk.B a5 cm) (by simp) fun c6 bv cn=> ?_;have cu:Wk w c6:=(bt.trans a5).trans' bv fun k A h=>by omega
 have cN:=cC bF bv fun k A h=>by have :=da bF A; have :=Z.lt; omega
 have cM:=cC (aR cL a5) bv fun k A h=>by have :=da bc A; have :=Z.lt; omega
 exact ar 1 U<|tn<|⟨b9,ca,cc,ce,cn,((dw.own cM).mono ag),((dw.own cN).mono ag),cu,U⟩
 subst bB;refine az 6 U<|p (ay U<|(E.wk ab).B.aG 0)<|p mv<|e<|aI (Fs a (bQ ws) a0 bh aV bi bm (bq.wk ab) bY (iT _) ag) U ?_;rintro v51 dP ⟨a6,bf⟩;obtain ⟨a51,cf,rfl⟩:=de bf;have du:=a6.size;refine aj 1 U<|e<|st pd U U (U) (Wk.B a6 Z) (by simp) fun b6 a9 co=> ?_;have bu:Wk w b6:=(ab.trans a6).trans' a9 fun k A h=>by omega
 have cO:=cC bf a9 fun k A h=>by have :=da bf A; have :=Z.lt; omega
 have cT:=cC (aR bJ a6) a9 fun k A h=>by have :=da aO A; omega
 have dp:=a9.size;refine aj 7 U<|p (ay U<|(E.wk bu).B.aG 1)<|p mv<|e<|aI (ux b (bQ ws) aP bh aX bi b6 (br.wk bu) (dx cT).2 cX (iT _) ag) U ?_;rintro v59 dQ ⟨a7,bG⟩;obtain ⟨a59,cg,rfl⟩:=de bG;have dv:=a7.size;refine aj 1 U<|e<|st pd U U (U) (Wk.B a7 co) (by simp) fun c7 bx cp=> ?_;have cv:Wk w c7:=(bu.trans a7).trans' bx fun k A h=>by omega
 have cQ:=cC bG bx fun k A h=>by have :=da bG A; have :=Z.lt; omega
 have cP:=cC (aR cO a7) bx fun k A h=>by have :=da bf A; have :=Z.lt; omega
 exact ar 1 U<|tn<|⟨a51,a59,cf,cg,cp,((dw.own cP).mono ag),((dw.own cQ).mono ag),cv,U⟩
 rintro b8 ae ⟨a2,a3,c2,c3,aN,b0,b1,aK,cV⟩;refine bE cV<|az 4 U<|p (ay U<|aN.aG 0)<|aj 2 U<|p (ay U<|aN.aG 1)<|aC 5 U<|cd U (fun cH=> ?_) fun cH=> ?_;exact aB 7 U<|aE U<|.inr ⟨bK,.inl ⟨ag,U,aK⟩⟩;refine bD 3 U ?_;have cz:=E.wk aK;refine fk fun bb=>gP 0 U (fun w' J=>eZ tc U (U) fun j aa=>mF J (xL (aN.aG 0)<|aN.aG 1) j aa) bb<|aY [1,2,3] U bb<|gP 4 U (fun w' J=>eZ tc U (U) fun j aa=>mF J (HC cz.B) j aa) bb<|he 5 U an<|aI (Ph (et C a b ws).1 (et C a b ws).2 a b a2 a3 a0 aP c2 c3 aV aX ae.drew (b0.mY.2) (b1.mY.2) (bq.wk aK.drew) (br.wk aK.drew) ag) U ?_;rintro dG ad ⟨rfl,cy⟩;have av:(fun w'=>Wk ae w') ad:=bb.trans cy;refine ⟨av,?_⟩;refine aY [6] U av<|hn an<|dT 3 U ?_;have aL:=aK.trans av;have V:=E.wk aL;have cF:=Wk.B av aN;have cA:=b0.wk av;have cB:=b1.wk av;refine bD 5 U<|cb U (fun bC=> ?_) fun bC=> ?_;have cK:¬((et C a b ws).1=a∧(et C a b ws).2=b):=of_decide_eq_false<|yY bC;refine bD 1 U ?_;have ac:=cU.xk V;have cY:¬vk.ownBlock=some ak:=fun h=>by have :=(da E.back h).2; omega
 have dc:ak≠xr:=fun h=>ag;have aM:(fun w'=>Md (fun q=>vk.ownBlock=some q) ad w') ad.drew:=(Md.refl _ _).drew;refine tR (fun w'=>Md (fun q=>vk.ownBlock=some q) ad w') 13 U wide aM<|mi [0,1,2,3] U aM<|tP 4 U (fun w' J=>ay U<|(J.B V.B ac).aG 2) aM<|mi [5,6,7] U aM<|tP 8 U (fun w' J=>eZ tc U (U) fun j aa=>HC (J.B V.B ac) j aa) aM<|rh 9 U an<|l6 G4 U U U fun c8 c5 dd bT cr=> ?_;have dA:=bT.size;have O:=Q1 bT.md;have bX:(fun w'=>Md (fun q=>vk.ownBlock=some q) ad w') c5:=Md.mono O fun _ _ h=>h.elim;refine ⟨bX,?_⟩;refine rh 10 U an<|ap G4 (aR V.back O) U (by have :=aL.size; have :=O.size; omega) U (aT.dD cr) (U) (U) ag ag fun v87 bL bH au c1 cJ=> ?_;have c1:=au.size;have bI:=au.ax (Wk.ax O V.obj) ac;obtain ⟨bn,bp,rfl⟩:=de bH;have bU:(fun w'=>Md (fun q=>vk.ownBlock=some q) ad w') bL:=bX.trans' au fun _ _ h=>h;refine ⟨bU,?_⟩;refine mi [11,12] U bU<|pI 13 U an an<|fl C8 U U (v:= .slice bn (bck.length+1) bp) U bI (by show 2 < 3; decide) fun c4 ao bO=> ?_;have dq:=ao.size;have cD:aD c4.heap ak [.slice a2 (et C a b ws).1.length c2,.slice a3 (et C a b ws).2.length c3]:=ao.B (au.B (Wk.B O cF) cY) fun h=>by omega
 refine pK an<|fY 3 U<|p (eZ tc U (U) fun j aa=>cD.aG j)<|aj 2 U<|e<|fG zi U U U U bO (by show 0 +2≤3; decide) fun b4 ba cq=>ar 8 U<|aE U<|.inr ⟨bK,.inr ⟨ag,U,.inr ⟨cK,.slice a2 (et C a b ws).1.length c2,.slice a3 (et C a b ws).2.length c3,.slice bn (bck.length+1) bp,vals++ [(.slice a0 a.length aV,.slice aP b.length aX)],?_,?_,?_⟩⟩⟩;have db:Md (fun k=>k=xr∨vk.ownBlock=some k) bL b4:=(ao.mono fun _ _ h=> .inl h).trans<|ba.mono fun _ _ h=> .inl h;have aF:∀ {v:ah} {l:Tl},dw ad B v l→dw b4 B v l:=fun {v l} h=>by
  have M:dw bL B v l:=(h.wk O).md au fun k A cur z=>ib (aR V.back O) aJ k A cur z;exact (M.md ao fun k A cur z=>by subst A; rw [bI]; intro I; injection I with I; injection I with _ I; exact absurd I aJ).md ba fun k A cur z=>by subst A; rw [bO]; intro I; injection I with I; injection I with _ I; exact absurd I aJ
 refine ⟨cq,E.lo,aF cA,aF cB,?_,by rw [bo,bo,E.vl]; rfl,fun i q t M aH=> ?_⟩;rw [bo,Hd];have b2:∀ k,(ff bn (bck.length+1) bp).ownBlock=some k→¬k=xr:=fun k A h=>by subst h; exact ib (e':=68) bH aJ k A _ _ bI
 exact cC (cC bH ao b2) ba b2;have cZ:=E.vl;rcases dM i bck.length with h | h;rw [eR ag] at M aH;obtain ⟨ch,ci⟩:=V.fP i q t M aH;exact ⟨aF ch,aF ci⟩;rw [eC ag] at M aH;rw [cZ] at M;cases aa:i - bck.length with
 | zero=>rw [aa] at M aH; cases M; cases aH; exact ⟨aF V.ra,aF V.rb⟩
 | succ j=>rw [aa] at M; simp at M
 exact ((((aL.mono fun _ _ h=>h.elim).trans<|O.mono fun _ _ h=>h.elim).trans<|au.mono fun _ _ h=> .inr h).trans<|ao.mono fun _ _ h=> .inl h).trans<|ba.mono fun _ _ h=> .inl h;intro k A;rcases cJ k A with h | h;exact .inl h;exact .inr<|by have :=aL.size; have :=O.size; omega
 have heq:(et C a b ws).1=a∧(et C a b ws).2=b:=of_decide_eq_true<|yX bC;exact aB 8 U<|aE U<|.inr ⟨bK,.inr ⟨ag,U,.inl ⟨heq.1,heq.2,aL⟩⟩⟩
theorem QX (B xr:Nat) (a b:Tl) (va vb vk:ah) (vals:List (ah×ah)) (bck:List (Tl×Tl)) (w:ai) (A:cU w B xr a b va vb vk vals bck) (C:bck= []):
 aZ aq 25 (bd [aA xr]) w (fun v w'=>v= .bool false∧Wk w w'):=by
 subst C;obtain ⟨E,ck,rfl⟩:=de A.back;refine enter func25 U ntmps25 U<|aP 10 U<|p (ay U<|A.B.aG 2)<|aC 11 U<|cd U (fun I=> ?_) fun h=>absurd U h;exact aB 7 U<|aE U<|⟨U,Md.refl _ _⟩
theorem QZ (B xr:Nat) (a b:Tl) (va vb vk:ah) (vals:List (ah×ah)) (bck:List (Tl×Tl)) (ma mb:Tl) (w:ai) (C:cU w B xr a b va vb vk vals (bck++ [(ma,mb)])) (aR:bck.length≤1048576):
 aZ aq 25 (bd [aA xr]) w (fun v w'=>v= .bool true∧(∃ aK aM ap aL,cU w' B xr ma mb aK aM ap aL bck∧Md (fun k=>k=xr) w w'∧∀ k,ap.ownBlock=some k→vk.ownBlock=some k)):=by
 have J:=C.back;have M:=C.vl;rw [bo,dE] at J M;obtain ⟨I,ck,rfl⟩:=de J;obtain ⟨V,E,rfl⟩:∃ l x,vals=l++ [x]:=⟨vals.dropLast,vals.getLast (fun h=>by rw [h] at M; simp at M),(I3 _).symm⟩
 rw [bo,dE] at M;obtain ⟨an,ao⟩:=C.fP bck.length E (ma,mb) (by rw [eC ag,show bck.length - V.length=0 by omega]; rfl)<|by rw [eC ag,sS]; rfl
 obtain ⟨aU,al⟩:=dx J;have aQ:=C.back;have ak:I≠none:=fun h=>by
  subst h;rcases J.2 with ⟨_,h⟩ | ⟨g,cap,cur,h,_⟩;omega;cases h
 have aF:(V++ [E])[bck.length]? =some E:=by rw [eC ag,show bck.length - V.length=0 by omega]; rfl
 obtain ⟨aY,ac⟩:=an.slice;obtain ⟨aW,ac⟩:=ac;obtain ⟨a0,aX,aI⟩:=ao.slice;refine enter func25 U ntmps25 U<|aP 7 U<|p mv<|aj 2 U<|p (ay U<|C.B.aG 2)<|aC 11 U<|cd U (fun h=>absurd h ag) fun aS=>az 4 U<|p mv<|p mv<|aj 2 U<|p (ay U<|C.B.aG 2)<|aj 1 U<|p (pS<|bck.length)<|p (bZ D0 U U ag<|aT.ok (al)<|pq (f:=fun q:ah×ah=> [q.1,q.2]) (m:=2) (fun _=>rfl) aJ<|by rw [bo]; simp)<|p (eZ tc U (U) (show ∀ j,j < 2→aH w.heap (bk I) (fo I+bck.length*2 +j)=([E.1,E.2]:List ah)[j]? from nf (f:=fun q:ah×ah=> [q.1,q.2]) (m:=2) (fun _=>rfl) al aF))<|aj 2 U<|e<|fG zi U U U (by rw [ac,aI]; rfl) C.obj (by show 0 +2≤3; decide) fun aN aa Z=> ?_;have aB:aD aN.heap xr [E.1,E.2,.slice I (bck.length+1) ck]:=⟨_,Z⟩
 refine aj 4 U<|p mv<|p mv<|aj 2 U<|p (ay U<|aB.aG 2)<|aj 1 U<|p (pS<|bck.length)<|p (r9 D0 U U ag)<|aj 2 U<|e<|fl C8 U U (v:= .slice I bck.length ck) U Z (by show 2 < 3; decide) fun aO ab ax=>ar 8 U<|aE U ?_;refine ⟨U,E.1,E.2,.slice I bck.length ck,V,?_,aa.trans ab,fun k h=>(by
  cases I with
  | none=>exact absurd rfl ak
  | some ad=>exact h)⟩
 have am:∀ k,(ff I (bck.length+1) ck).ownBlock=some k→¬k=xr:=fun k L h=>by subst h; exact ib (e':=68) J aJ k L _ _ C.obj
 have O:∀ {v:ah} {l:Tl},dw w B v l→dw aO B v l:=fun {v l} h=>
  (h.md aa fun k L cur z=>by subst L; rw [C.obj]; intro A; injection A with A; injection A with _ A; exact absurd A aJ).md ab (fun k L cur z=>by subst L; rw [Z]; intro A; injection A with A; injection A with _ A; exact absurd A aJ)
 refine ⟨ax,C.lo,O an,O ao,?_,ag,fun i q t au ae=> ?_⟩;have h:=OG (cC (cC J aa am) ab am) (show bck.length≤bck.length+1 by omega) ak;rw [Hd,List.take_append_of_le_length (by rw [Hc]; omega),ja (by rw [Hc]; omega)] at h;exact h;have aV:=(dt.1 ae).1;obtain ⟨av,aw⟩:=C.fP i q t (by rw [eR ag]; exact au)<|by rw [eR ag]; exact ae
 exact ⟨O av,O aw⟩
end Go.Hb.o6
end
section
namespace Go.Hb.qL
open Go.Hb.vx Go.Hb.nU Go.Hb.o6
theorem PO {g:List UInt8→Option Int} {a b:Tl} {x:List UInt8} (A:dd g a b) (h:x∈a):(43:UInt8)=if 0 < (g x).getD 0 then 43 else 45:=by
 rw [(A.ma x).1 h]; rfl
theorem PQ {g:List UInt8→Option Int} {a b:Tl} {x:List UInt8} (C:dd g a b) (E:x∈(bQ<|a++b)) (h:x∉a):(45:UInt8)=if 0 < (g x).getD 0 then 43 else 45:=by
 rcases dz.1 (iz.1 E) with A | A
 · exact absurd A h
 · rw [(C.mb x).1 A]; rfl
theorem O7 (f:List (List UInt8)):∃ x o A,Gn (eN f)= .tuple #[str x,.int .i64 ((A:Nat):Int)]∧((A=0∧eN f= .ok (x,o))∨(A≠0∧eN f= .error A)):=by
 cases h:eN f with
 | ok q=>exact ⟨q.1,q.2,0,rfl,.inl ⟨rfl,rfl⟩⟩
 | error A=>exact ⟨[],0,A,rfl,.inr ⟨(zq h).1,rfl⟩⟩
def vp (t:List UInt8) (w:ai) (v:ah) (w':ai):Prop :=((∃ g a b xr va vb,hZ t= .ok g∧v= .tuple #[.pointer (some ⟨xr,0,none⟩),.int .i64 0,.int .i64 0]∧cU w' w.heap.size xr a b va vb (.slice none 0 0) [] []∧dd g a b)∨
 (∃ l q:Nat,hZ t= .error (l,q)∧v= .tuple #[.pointer none,.int .i64 (l:Nat),.int .i64 (q:Nat)]))∧Wk w w'
theorem O8 {g:List UInt8→Option Int} {a b:Tl} {x:List UInt8} {o:Int} (A:dd g a b) (hn:g x=none):(o=1→dd (fun y=>if y=x then some o else g y) (bQ<|a++ [x]) b)∧(o= -1→dd (fun y=>if y=x then some o else g y) a (bQ<|b++ [x])):=by
 constructor
 · rintro rfl;rcases A.row (o:=1) hn with h | h
   · simpa using h
   · exact absurd (.inl U) h
 · rintro rfl;rcases A.row (o:= -1) hn with h | h
   · simpa using h
   · exact absurd (.inr U) h
theorem QD (B xr:Nat) (a b:Tl) (va vb vk:ah) (vals:List (ah×ah)) (bck:List (Tl×Tl)) (g:List UInt8→Option Int) (w:ai) (L:cU w B xr a b va vb vk vals bck) (C:dd g a b) (ac:eA g) (hlen:a.length+b.length≤500):
 aZ aq 27 (bd [aA xr]) w (fun v w'=>v=str (sn g)∧Wk w w'):=by
 obtain ⟨a0,au,rfl,aw⟩:=L.ra.sl;obtain ⟨aJ,aK,rfl,aL⟩:=L.rb.sl;have a4:(bQ<|a++b).length≤500:=by have :=oD (a++b); rw [bo] at this; omega
 have aP:=C.fin ac;have aC:∀ x∈(bQ<|a++b),x.length≤64:=fun x al=>by
  obtain ⟨o,aS⟩:=(aP.2 x).1 al;exact ac.len x o aS
 refine enter func27 U ntmps27 U<|bV 6 U<|fk fun E=>cB 0 U (mv) E<|aY [1,2,3] U E<|c9 4 U E (L.B.aG 0)<|cB 5 U (mv) E<|aY [6,7,8] U E<|c9 9 U E (L.B.aG 1)<|he 10 U an<|aI (ux a b a0 aJ au aK w.drew aw aL C.ua C.ub ag) U ?_;rintro a7 ao ⟨aM,ax⟩;obtain ⟨a2,c2,rfl⟩:=de ax;have M:=(dx ax).2;have ad:(fun w'=>Wk w w') ao:=E.trans aM;refine ⟨ad,?_⟩;refine cB 11 U (aU) ad<|hn an<|dT 2 U ?_;have aa:=ad;refine bD 11 U<|lp (fun av aF Z=> ∃ (i:Nat) (J:List UInt8),(i≤(bQ<|a++b).length)∧(J=gV g ((bQ<|a++b).take i))∧(Wk ao Z)∧(Sl aF [(0,aA xr),(3,.slice a2 (bQ<|a++b).length c2),(4,str J),(5,aQ i)])∧((bQ<|a++b).length - i=av)) _ ⟨0,[],ag,U,(Md.refl _ _),U,U⟩ ?_;rintro av aF Z ⟨i,J,hi,ak,A,aV,rfl⟩;refine bE aV<|bV 9 U<|cd U (fun aR=> ?_) fun aR=> ?_;refine bD 10 U ?_;have aD:((bQ<|a++b).getD i [])∈(bQ<|a++b):=gO ag;have a6:=aC _ aD;have a1:=xM (g:=g) (xs:=(bQ<|a++b).take i) fun x al=>aC x<|List.mem_of_mem_take al;rw [← ak,bY] at a1;refine fk fun I=>aY [0,1,2,3] U I<|c9 4 U I ((L.wk<|aa.trans A).B.aG 0)<|aY [5,6] U I<|cB 7 U (bZ dH U U ag<|aT.ok (M.wk A)<|ef ag) I<|c9 8 U I (bN.get (i:=i) (M.wk A) ag)<|he 9 U an<|aI (mj a ((bQ<|a++b).getD i []) a0 au Z.drew (aw.wk (aa.trans A).drew) C.ua ag) U ?_;rintro a8 a3 ⟨rfl,aN⟩;have O:(fun w'=>Wk Z w') a3:=I.trans aN;refine ⟨O,?_⟩;refine aY [10] U O<|hn an<|dT 1 U ?_;refine ei (fun aH ap=> ∃ (V:UInt8),(V=if 0 < (g<|(bQ<|a++b).getD i []).getD 0 then 43 else 45)∧(Wk ao ap)∧(Sl aH [(0,aA xr),(3,.slice a2 (bQ<|a++b).length c2),(4,str J),(5,aQ i),(6,str [V])])) ?_ ?_;refine bV 5 U<|cb U (fun ae=> ?_) fun ae=> ?_;have am:((bQ<|a++b).getD i [])∈a:=by simpa using ae
 exact aB 3 U<|tn<|⟨43,(PO C am),(A.trans O),U⟩
 have am:((bQ<|a++b).getD i [])∉a:=by simpa using ae
 exact aB 1 U<|tn<|⟨45,(PQ C aD am),(A.trans O),U⟩
 rintro aH ap ⟨V,aX,ab,aW⟩;refine bE aW<|az 4 U<|p (bZ dH U U ag<|aT.ok (M.wk ab)<|ef ag)<|p (ay U<|bN.get (i:=i) (M.wk ab) ag)<|e<|aI (Pv ((bQ<|a++b).getD i []) ap ag) U ?_;rintro a9 ba ⟨rfl,aO⟩;have a5:=sw<|(bQ<|a++b).getD i [];exact aj 6 U<|p (cc U U<|by simp only [dE]; omega)<|aj 1 U<|p (cc U U<|by simp only [bo,dE]; omega)<|p (cc U U<|by simp only [bo,dE]; omega)<|aj 6 U<|p (bW<|i+1)<|ar 2 U<|tn<|⟨_,ag,i+1,J++ [V]++eH ((bQ<|a++b).getD i [])++ [10],ag,(by rw [HE ag,← ak]; unfold nC; rw [← aX]; simp),(ab.trans aO),U,U⟩
 refine aB 2 U<|cj<|bg 9 U<|aE U ?_;obtain rfl :J=sn g:=by rw [ak,ja ag]; exact C.QM ac
 exact ⟨U,aa.trans A⟩
set_option maxHeartbeats 2000000 in
theorem Ox (t:List UInt8) (w:ai) (co:t.length≤1048576):
 aZ aq 30 (bd [str t]) w (vp t w):=by
 have cn:=Gp t;refine enter func30 U ntmps30 U<|aP 9 U<|p mv<|e<|aI (Pf t w ag) U ?_;rintro cv bF ⟨⟨ce,rfl,bf⟩,hE15⟩;have cq:=hE15.size;refine p mv<|aj 2 U<|p aU<|aC 10 U<|cd U (fun a5=> ?_) fun a5=> ?_;have V:65536 < t.length:=Decidable.byContradiction fun h=>a5<|by rw [if_neg h]
 refine aB 10 U<|f3 U U U U ?_;refine ⟨.inr ⟨0,10,if_pos V,?_⟩,hE15⟩;rw [if_pos V]; rfl;have V:¬65536 < t.length:=fun h=>a5<|by rw [if_pos h]; decide
 rw [if_neg V] at bf;obtain ⟨b7,bu,b6⟩:=bf;obtain ⟨ra,rc,rfl⟩:=de bu;have E:=(dx bu).2;have aa:=b6.all;refine az 4 U<|p (dZ (ps:= []) (L:= [.slice none 0 0,.slice none 0 0,.slice none 0 0]) G9 U<|U)<|e<|tl (L:= [.slice none 0 0,.slice none 0 0,.slice none 0 0]) U fun Z b9 cg bq bM=> ?_;have ct:=bq.size;have bT:cU b9 w.heap.size Z [] [] (.slice none 0 0) (.slice none 0 0) (.slice none 0 0) [] []:=⟨bM,ag,dw.nil _ _,dw.nil _ _,eL _ _ _ _,rfl,fun i q r av bh=>by simp at av⟩
 refine aC 10 U<|lp (fun bc bI aN=> ∃ (i:Nat) (g:List UInt8→Option Int) (a b:Tl) (va vb:ah),(i≤(eu t).length)∧(fE (eu t) i= .ok g)∧(cU aN w.heap.size Z a b va vb (.slice none 0 0) [] [])∧(dd g a b)∧(Wk bF aN)∧(Sl bI [(5,.slice ra (eu t).length rc),(7,aA Z),(8,aQ i)])∧((eu t).length - i=bc)) _ ⟨0,(fun _=>none),[],[],.slice none 0 0,.slice none 0 0,ag,U,bT,dd.nil,bq.md,U,U⟩ ?_;rintro bc bI aN ⟨i,g,a,b,va,vb,hi,ap,ac,M,I,b5,rfl⟩;refine bE b5<|bV 9 U<|cd U (fun bU=> ?_) fun bU=> ?_;refine bD 5 U ?_;obtain ⟨aM,A,hr⟩:∃ aM A,(eu t).getD i (0,[])=(aM,A):=⟨_,_,rfl⟩
 have bz:(eu t)[i]? =some (aM,A):=by rw [← hr,cQ,cr ag]; rfl
 have aK:=Gq<|List.mem_of_getElem? bz;obtain ⟨q,au⟩:∃ q,b7[i]? =some q:=⟨_,cr<|by rw [aa.1]; omega⟩
 obtain ⟨b3,fa,bb,b4,ax⟩:=aa.2 i q _ au bz;obtain ⟨aL,b8⟩:=q;obtain rfl :aL=aM:=b3;obtain rfl :b8= .slice fa A.length bb:=b4;have cm:A.length≤t.length+1:=aK.2.2.2.1;have ax:bN bF.heap fa A:=ax;have b2:∀ x∈A,x≠[]∧x.length≤t.length:=aK.2.2.2.2;obtain ⟨a3,bP,ci⟩:=xh ap;have cf:=M.eV a3 bP;refine az 3 U<|p (bZ tE U U ag<|aT.ok (E.wk I)<|rU<|by rw [aa.1]; omega)<|aj 1 U<|p (ay U<|rV (E.wk I) au 1 ag)<|e<|aI (Pe fa bb A aN (ax.wk I) (fun x a9=>(aK.2.2.2.2 x a9).1) (fun x a9=>by have :=(aK.2.2.2.2 x a9).2; omega) ag) U ?_;rintro cw ca ⟨bB,ae⟩;obtain ⟨x,o,bJ,b0,bi⟩:=O7 A;rw [b0] at bB;subst bB;refine p mv<|aC 13 U<|cd U (fun a6=> ?_) fun a6=> ?_;have ad:=bi.resolve_left fun h=>a6<|by rw [h.1]; rfl
 refine bD 1 U<|fk fun al=>aY [0,1] U al<|cB 2 U (bZ tE U U ag<|aT.ok (E.wk<|I.trans ae)<|rU<|by rw [aa.1]; omega) al<|aY [3] U al<|c9 4 U al (rV (E.wk<|I.trans ae) au 0 ag)<|aY [5,6,7,8] U al<|hn an<|bg 5 U<|tr<|bg 2 U<|f3 U U U U ?_;refine ⟨.inr ⟨aL,bJ,?_,U⟩,(hE15.trans<|I.trans ae).trans al⟩;unfold hZ;rw [if_neg V];exact tZ (k:=i+1) (by rw [FU ap (by rw [hr]; exact ad.2),hr]) ag;have ad:=(bi.resolve_right fun h=>a6 ag).2;refine az 6 U<|e<|aI (Gj w.heap.size Z a b va vb (.slice none 0 0) [] [] x ca (ac.wk ae) M.ua M.ub ag) U ?_;rintro cx cA ⟨bC,bj⟩;rw [← M.has a3 x] at bC;subst bC;have ab:=(I.trans ae).trans bj;refine aC 10 U<|cd U (fun aw=> ?_) fun aw=> ?_;have O:g x≠none:=fun h=>aw<|by rw [h]; rfl
 refine bD 1 U<|fk fun am=>aY [0,1] U am<|cB 2 U (bZ tE U U ag<|aT.ok (E.wk ab)<|rU<|by rw [aa.1]; omega) am<|aY [3] U am<|c9 4 U am (rV (E.wk ab) au 0 ag)<|aY [5,6,7] U am<|hn an<|bg 5 U<|tr<|bg 2 U<|f3 U U U U ?_;refine ⟨.inr ⟨aL,112,?_,U⟩,(hE15.trans ab).trans am⟩;unfold hZ;rw [if_neg V];exact tZ (k:=i+1) (by rw [FY ap (by rw [hr]; exact ad) O,hr]) ag;have O:g x=none:=by
  cases O:g x with
  | none=>rfl
  | some u=>rw [O] at aw; simp only [Option.getD_some,ne_eq,mJ] at aw; subst aw; exact absurd O<|a3.nz x
 refine bD 9 U<|cd U (fun bX=> ?_) fun bX=> ?_;refine bD 1 U<|fk fun ao=>aY [0,1] U ao<|cB 2 U (bZ tE U U ag<|aT.ok (E.wk ab)<|rU<|by rw [aa.1]; omega) ao<|aY [3] U ao<|c9 4 U ao (rV (E.wk ab) au 0 ag)<|aY [5,6,7] U ao<|hn an<|bg 5 U<|tr<|bg 2 U<|f3 U U U U ?_;refine ⟨.inr ⟨aL,280,?_,U⟩,(hE15.trans ab).trans ao⟩;unfold hZ;rw [if_neg V];exact tZ (k:=i+1) (by rw [FX ap (by rw [hr]; exact ad) O ag,hr]) ag;refine bD 3 U ?_;have bt:=FW ap (by rw [hr]; exact ad) O ag;have a8:=DN ad;have ck:=a8.2.2;have bA:=O8 (o:=o) M O;have cp:0 < (A.getD 0 []).length:=uY.2 (b2 _<|gO ag).1;obtain ⟨a0,aW,rfl⟩:=ac.ra.slice;obtain ⟨aO,aX,rfl⟩:=ac.rb.slice;refine az 2 U<|e<|fh ew U U fun aV ba ch a4 bO=> ?_;have cu:=a4.size;have J:=ab.trans a4.md;have ak:=ac.wk<|(ae.trans bj).trans a4.md;have br:bN ba.heap (some ⟨aV,0,none⟩) [x]:=aT.dD bO;refine aj 7 U<|p (bZ tE U U ag<|aT.ok (E.wk J)<|rU<|by rw [aa.1]; omega)<|aj 1 U<|p (ay U<|rV (E.wk J) au 1 ag)<|p (bZ dH U U ag<|aT.ok (ax.wk J)<|ef ag)<|p (ay U<|bN.get (i:=0) (ax.wk J) ag)<|p (kP 0 u9 U U ag)<|aC 3 U<|cd U (fun bY=> ?_) fun bY=> ?_;have a7:o=1:=a8.2.1.elim (fun h=>h.1) fun h=>absurd (show dm A=43 by unfold dm; omega) h.2;refine az 6 U<|p (ay U<|ak.B.aG 0)<|aj 1 U<|e<|aI (ux a [x] a0 (some ⟨aV,0,none⟩) aW 1 ba (ak.ra.mY.2) br M.ua (Jo _ _)<|by simp only [dE]; omega) U ?_;rintro cy cb ⟨bm,bv⟩;obtain ⟨aR,a1,rfl⟩:=de bv;have aF:=ak.wk bm;refine aj 3 U<|e<|fl pd U U (v:= .slice aR (bQ<|a++ [x]).length a1) U aF.obj (by show 0 < 3; decide) fun bG bo bK=> ?_;have bR:cU bG w.heap.size Z (bQ<|a++ [x]) b (.slice aR (bQ<|a++ [x]).length a1) (.slice aO b.length aX) (.slice none 0 0) [] []:=by
  have aE:∀ {v:ah} {l:Tl},dw cb w.heap.size v l→dw bG w.heap.size v l:=fun {v l} h=>h.md bo fun k aD cur z=>by subst aD; rw [aF.obj]; intro C; injection C with C; injection C with _ C; exact absurd C aJ
  exact ⟨bK,aF.lo,aE ((dw.own bv).mono<|by have :=J.size; omega),aE aF.rb,eL _ _ _ _,U,fun i q r av bh=>by simp at av⟩
 have b1:=ac.lo;exact aj 5 U<|p (bW<|i+1)<|ar 2 U<|tn<|⟨_,ag,i+1,(fun y=>if y=x then some o else g y),bQ (a++ [x]),b,.slice aR (bQ<|a++ [x]).length a1,.slice aO b.length aX,ag,bt,bR,(bA.1 a7),((J.trans bm).trans' bo fun k aD h=>by omega),U,U⟩
 have a7:o= -1:=a8.2.1.elim (fun h=>absurd (show ((A.getD 0 []).getD 0 0).toNat=43 from h.2) ag) fun h=>h.1;refine az 6 U<|p (ay U<|ak.B.aG 1)<|aj 1 U<|e<|aI (ux b [x] aO (some ⟨aV,0,none⟩) aX 1 ba (ak.rb.mY.2) br M.ub (Jo _ _)<|by simp only [dE]; omega) U ?_;rintro cz cc ⟨bn,bx⟩;obtain ⟨aS,a2,rfl⟩:=de bx;have aH:=ak.wk bn;refine aj 3 U<|e<|fl pd U U (v:= .slice aS (bQ<|b++ [x]).length a2) U aH.obj (by show 1 < 3; decide) fun bH bp bL=> ?_;have bS:cU bH w.heap.size Z a (bQ<|b++ [x]) (.slice a0 a.length aW) (.slice aS (bQ<|b++ [x]).length a2) (.slice none 0 0) [] []:=by
  have aE:∀ {v:ah} {l:Tl},dw cc w.heap.size v l→dw bH w.heap.size v l:=fun {v l} h=>h.md bp fun k aD cur z=>by subst aD; rw [aH.obj]; intro C; injection C with C; injection C with _ C; exact absurd C aJ
  exact ⟨bL,aH.lo,aE aH.ra,aE ((dw.own bx).mono<|by have :=J.size; omega),eL _ _ _ _,U,fun i q r av bh=>by simp at av⟩
 have b1:=ac.lo;exact aj 5 U<|p (bW<|i+1)<|ar 2 U<|tn<|⟨_,ag,i+1,(fun y=>if y=x then some o else g y),a,bQ (b++ [x]),.slice a0 a.length aW,.slice aS (bQ<|b++ [x]).length a2,ag,bt,bS,(bA.2 a7),((J.trans bn).trans' bp fun k aD h=>by omega),U,U⟩
 refine aB 2 U<|cj<|bg 11 U<|f3 U U U U ?_;obtain rfl :i=(eu t).length:=ag;refine ⟨.inl ⟨g,a,b,Z,va,vb,?_,U,ac,M⟩,hE15.trans I⟩;unfold hZ;rw [if_neg V];exact ap
end Go.Hb.qL
end
section
namespace Go.Hb.sY
open Go.Hb.nU Go.Hb.o6 Go.Hb.qL
def vi (w:ai) (k:Nat):Prop := ∃ cur e z,w.heap[k]? =some (.cells cur e z)∧e≠1∧cur.size≠1∧(cur.size≠3∨∃ a n c,cur[0]? =some (ff a n c))
theorem cT.tg {w w':ai} {B bl bs n:Nat} {vb:ah} {M:aW} {g:List UInt8→Option Int} {hist:List (List UInt8→Option Int)} {cs:List ah} {F:Nat→Prop} (h:cT w B bl bs vb M g n hist cs) (hm:Md F w w') (J:∀ k,F k→vi w k):cT w' B bl bs vb M g n hist cs:=by
 have an:¬F bl:=fun E=>by
  obtain ⟨cur,I,z,A,_,C⟩:=J _ E;obtain ⟨ac,L⟩:=h.obj;rw [L] at A;simp only [bR,nH] at A;obtain ⟨rfl,_⟩:=A;rcases C with ⟨_,C | ⟨a,n,c,C⟩⟩
  · exact C U
  · simp at C
 have ab:∀ {q:Nat} {f:ah→Option ah},cJ w.heap q dU f→¬F q:=fun {q f} hb E=>by
  obtain ⟨cur,I,z,A,_⟩:=J _ E;exact hb.fB A
 have am:∀ k,vb.ownBlock=some k→¬F k:=fun k al E=>by
  obtain ⟨cur,I,z,A,C,_⟩:=J _ E;exact ib (e':=I) h.back (fun ad=>C ad.symm) k al _ _ A
 refine ⟨hm.B h.obj an,h.dQ.md hm (ab h.dQ),h.eV,h.nB,h.nz,h.lo,cC h.back hm am,h.lf,?_⟩;have aa:∀ {q:Nat} {u:ah},aD w.heap q [u]→¬F q:=fun {q u} hb E=>by
  obtain ⟨cur,I,z,A,_,C⟩:=J _ E;obtain ⟨ac,L⟩:=hb;rw [L] at A;simp only [bR,nH] at A;obtain ⟨rfl,_⟩:=A;exact C.1 U
 exact h.bk.imp fun v q ⟨ao,lb,ap,A,C,ae,ag,aj,ak,O,V,Z⟩=>⟨ao,lb,ap,A,C,ae,ag,aj,ak,hm.B O (aa O),hm.B V (aa V),Z.md hm<|ab Z⟩
theorem dw.rI {w w':ai} {B bl bs n:Nat} {vb:ah} {M:aW} {g:List UInt8→Option Int} {hist:List (List UInt8→Option Int)} {cs:List ah} {J:Nat} {v:ah} {l:Tl} (E:cT w B bl bs vb M g n hist cs) (hm:Md (jh bl bs vb) w w') (h:dw w J v l):dw w' J v l:=by
 obtain ⟨a,C,rfl,I,h | ⟨b,cur,z,rfl,hb,A,L⟩⟩:=h
 · exact ⟨a,C,U,I,.inl h⟩
 · cases l with
   | nil=>exact ⟨_,C,rfl,I,.inl rfl⟩
   | cons x xs=>
     refine ⟨_,C,U,I,.inr ⟨b,cur,z,U,hb,?_,L⟩⟩;have h0:=L 0 (str x) rfl;rw [hm.dC b (cx.1 A).1 ?_]
     · exact A
     · rintro (rfl | rfl | V)
       · obtain ⟨Z,O⟩:=E.obj;rw [O] at A;simp only [bR,nH] at A;obtain ⟨rfl,_⟩:=A;simp [str] at h0
       · exact E.dQ.fB A
       · exact ib (e':=9) E.back aJ b V _ _ A
theorem cU.rI {w w':ai} {B bl bs n:Nat} {vb:ah} {O:aW} {g:List UInt8→Option Int} {hist:List (List UInt8→Option Int)} {cs:List ah} {L xr:Nat} {a b:Tl} {va vc vk:ah} {vals:List (ah×ah)} {bck:List (Tl×Tl)} (C:cT w B bl bs vb O g n hist cs) (hm:Md (jh bl bs vb) w w') (h:cU w L xr a b va vc vk vals bck) (V:∀ k,vk.ownBlock=some k→k≠bl∧k≠bs):cU w' L xr a b va vc vk vals bck:=by
 refine ⟨hm.ax h.obj ?_,h.lo,dw.rI C hm h.ra,dw.rI C hm h.rb,cC h.back hm fun k J E=> ?_,h.vl,fun i q t A I=>⟨dw.rI C hm (h.fP i q t A I).1,dw.rI C hm (h.fP i q t A I).2⟩⟩
 · rintro (rfl | rfl | J)
   · obtain ⟨Z,U⟩:=C.obj;have A:=h.obj;rw [U] at A;simp only [bR,nH] at A;obtain ⟨a2,c2,I⟩:=h.ra.slice;have M:=congrArg (fun q=>q[0]?) A.1;rw [I] at M;simp at M
   · exact C.dQ.fB h.obj
   · exact ib (e':=68) C.back aJ xr J _ _ h.obj
 · obtain ⟨A,I⟩:=V k J;rcases E with E | E | E
   · exact A E
   · exact I E
   · exact rH h.back C.back aJ J E
def lk (w:ai) (vk:ah):Prop := ∀ k,vk.ownBlock=some k→∃ cur z,w.heap[k]? =some (.cells cur 65 z)∧cur.size≠1∧∃ a n c,cur[0]? =some (ff a n c)
theorem lk.md {F:Nat→Prop} {w w':ai} {vk:ah} (h:lk w vk) (hm:Md F w w') (I:∀ k,vk.ownBlock=some k→¬F k):lk w' vk:=fun k A=>by
 obtain ⟨cur,z,C,E⟩:=h k A;exact ⟨cur,z,hm.ax C (I k A),E⟩
theorem lk.of {V xr:Nat} {a b:Tl} {va vc vk:ah} {vals:List (ah×ah)} {bck:List (Tl×Tl)} {w:ai} (h:cU w V xr a b va vc vk vals bck) (hn:bck≠[]):lk w vk:=fun k I=>by
 cases hb:bck with
 | nil=>exact absurd hb hn
 | cons t0 tr=>
   obtain ⟨cur,z,M⟩:=rG h.back I;have U:=h.vl;rw [hb] at U;obtain ⟨A,qr,rfl⟩:∃ A qr,vals=A::qr:=by
    cases vals with
    | nil=>simp at U
    | cons A qr=>exact ⟨_,_,rfl⟩
   obtain ⟨a2,c2,Z⟩:=(h.fP 0 A t0 rfl (by rw [hb]; rfl)).1.slice;have L:cur[0]? =some A.1∧cur[1]? =some A.2:=by
    rcases h.back.2 with ⟨rfl,_⟩ | ⟨g0,cap,aa,rfl,_,J,_,_,_,O⟩
    · simp [dL] at I
    · simp only [dL,bR] at I;subst I;rw [M] at J;simp only [bR,nH] at J;obtain ⟨rfl,_⟩:=J;have C:(cur.toList.take<|bck.length*2)[0]? =some A.1:=by rw [O]; rfl
      have E:(cur.toList.take<|bck.length*2)[1]? =some A.2:=by rw [O]; rfl
      rw [List.getElem?_take] at C E;constructor
      · split at C
        · simpa using C
        · cases C
      · split at E
        · simpa using E
        · cases E
   refine ⟨cur,z,M,fun ab=> ?_,a2,_,c2,by rw [L.1,Z]⟩;have :=(cx.1 L.2).1;omega
theorem cU.tg {C xr:Nat} {a b:Tl} {va vc vk:ah} {vals:List (ah×ah)} {bck:List (Tl×Tl)} {w:ai} (h:cU w C xr a b va vc vk vals bck) (L:lk w vk):∀ k,k=xr∨vk.ownBlock=some k→vi w k:=by
 rintro k (rfl | E)
 · obtain ⟨a2,c2,A⟩:=h.ra.slice;exact ⟨_,_,_,h.obj,aJ,(by show (3:Nat)≠1; decide),.inr ⟨a2,_,c2,by rw [A]; rfl⟩⟩
 · obtain ⟨cur,z,A,I,J⟩:=L k E;exact ⟨cur,_,z,A,aJ,I,.inr J⟩
structure eD (wD w:ai) (bw kb:Nat) (cs7:List ah) (bl bs:Nat) (vb:ah) (g:List UInt8→Option Int) (n:Nat) (hist gz:List (List UInt8→Option Int)) (cs:List ah) (xr:Nat) (la lb:Tl) (va vc vk:ah) (vals:List (ah×ah)) (bck:List (Tl×Tl)):Prop where
 wk:Wk wD w
 obj:w.heap[bw]? =some (.cells ([cZ (some ⟨kb,0,none⟩)]++cs7++ [cZ (some ⟨bl,0,none⟩),cZ (some ⟨xr,0,none⟩)]).toArray 70 (0,0))
 lo:wD.heap.size≤bw
 own:cT w wD.heap.size bl bs vb ⟨kb,0,none⟩ g n hist cs
 tv:∃ g0,kG g0 hist gz g
 ref:cU w wD.heap.size xr la lb va vc vk vals bck
 jX:dd g la lb
 o9:bck.length=hist.length
 kV:∀ (i:Nat) t,bck[i]? =some t→dd (gz.getD i dG) t.1 t.2
 sep:∀ k,vk.ownBlock=some k→k≠bl∧k≠bs
 CF:lk w vk
 c7:cs7.length=7
def lZ (wD w:ai) (bw kb:Nat) (cs7:List ah) (m:Nat):Prop := ∃ bl bs vb g n hist gz cs xr la lb va vc vk vals bck,eD wD w bw kb cs7 bl bs vb g n hist gz cs xr la lb va vc vk vals bck∧hist.length≤m
section
variable {wD w w':ai} {bw kb:Nat} {cs7:List ah} {bl bs:Nat} {vb:ah} {g:List UInt8→Option Int} {n:Nat} {hist gz:List (List UInt8→Option Int)} {cs:List ah} {xr:Nat} {la lb:Tl} {va vc vk:ah} {vals:List (ah×ah)} {bck:List (Tl×Tl)}
theorem eD.nw (h:eD wD w bw kb cs7 bl bs vb g n hist gz cs xr la lb va vc vk vals bck) (hm:Wk w w'):eD wD w' bw kb cs7 bl bs vb g n hist gz cs xr la lb va vc vk vals bck:=
 ⟨h.wk.trans hm,Wk.ax hm h.obj,h.lo,h.own.wk hm,h.tv,h.ref.wk hm,h.jX,h.o9,h.kV,h.sep,h.CF.md hm (fun _ _ h=>h),h.c7⟩
theorem eD.ok (h:eD wD w bw kb cs7 bl bs vb g n hist gz cs xr la lb va vc vk vals bck):eA g∧∃ m,dh g m∧m≤500:=by
 obtain ⟨g0,h⟩:=h.tv;exact KQ h
theorem eD.len (h:eD wD w bw kb cs7 bl bs vb g n hist gz cs xr la lb va vc vk vals bck):la.length+lb.length=n∧n≤500:=⟨h.jX.eV h.ok.1 h.own.eV,h.own.nB⟩
theorem eD.B (h:eD wD w bw kb cs7 bl bs vb g n hist gz cs xr la lb va vc vk vals bck):aD w.heap bw ([cZ (some ⟨kb,0,none⟩)]++cs7++ [cZ (some ⟨bl,0,none⟩),cZ (some ⟨xr,0,none⟩)]):=⟨_,h.obj⟩
theorem eD.cells (h:eD wD w bw kb cs7 bl bs vb g n hist gz cs xr la lb va vc vk vals bck):aH w.heap bw (0 +0)=some (.pointer<|some ⟨kb,0,none⟩)∧aH w.heap bw (0 +8)=some (.pointer<|some ⟨bl,0,none⟩)∧aH w.heap bw (0 +9)=some (.pointer<|some ⟨xr,0,none⟩)∧∀ j,j < 7→aH w.heap bw (0 +(1 +j))=cs7[j]? :=by
 have O:=h.c7;obtain ⟨A,C,E,I,J,L,M,rfl⟩:∃ A C E I J L M,cs7= [A,C,E,I,J,L,M]:=by
  match cs7,O with
  | [A,C,E,I,J,L,M],_=>exact ⟨_,_,_,_,_,_,_,rfl⟩
 refine ⟨h.B.aG 0,h.B.aG 8,h.B.aG 9,fun j U=>(h.B.aG<|1 +j).trans ?_⟩
 match j,U with
 | 0,_=>rfl
 | 1,_=>rfl
 | 2,_=>rfl
 | 3,_=>rfl
 | 4,_=>rfl
 | 5,_=>rfl
 | 6,_=>rfl
theorem eD.size (h:eD wD w bw kb cs7 bl bs vb g n hist gz cs xr la lb va vc vk vals bck):([cZ (some ⟨kb,0,none⟩)]++cs7++ [cZ (some ⟨bl,0,none⟩),cZ (some ⟨xr,0,none⟩)]).toArray.size=10:=by
 simp only [List.size_toArray,bo,List.length_cons,List.length_nil,h.c7]
theorem eD.tu (h:eD wD w bw kb cs7 bl bs vb g n hist gz cs xr la lb va vc vk vals bck) (hm:Md (jh bl bs vb) w w'):
 Wk wD w'∧w'.heap[bw]? =some (.cells ([cZ (some ⟨kb,0,none⟩)]++cs7++ [cZ (some ⟨bl,0,none⟩),cZ (some ⟨xr,0,none⟩)]).toArray 70 (0,0))∧cU w' wD.heap.size xr la lb va vc vk vals bck∧lk w' vk:=by
 refine ⟨h.wk.trans' hm (fun k E A=> ?_),hm.ax h.obj ?_,cU.rI h.own hm h.ref h.sep,h.CF.md hm fun k E A=> ?_⟩
 · rcases A with rfl | rfl | A
   · have :=h.own.lo; omega
   · have :=h.own.lo; omega
   · have :=(da h.own.back A).1; omega
 · rintro (rfl | rfl | E)
   · obtain ⟨L,J⟩:=h.own.obj;have C:=h.obj;rw [J] at C;simp only [bR,nH] at C;have I:=congrArg Ii C.1;rw [h.size] at I;simp at I
   · exact h.own.dQ.fB h.obj
   · exact ib (e':=70) h.own.back aJ bw E _ _ h.obj
 · obtain ⟨C,I⟩:=h.sep k E;rcases A with A | A | A
   · exact C A
   · exact I A
   · exact rH h.ref.back h.own.back aJ E A
theorem eD.Gc (U:cT w wD.heap.size bl bs vb ⟨kb,0,none⟩ g n hist cs) (I:w.heap[bw]? =some (.cells ([cZ (some ⟨kb,0,none⟩)]++cs7++ [cZ (some ⟨bl,0,none⟩),cZ (some ⟨xr,0,none⟩)]).toArray 70 (0,0))) (M:cs7.length=7) (A:cU w wD.heap.size xr la lb va vc vk vals bck) (O:lk w vk) (hw:Wk wD w) (hm:Md (fun k=>k=xr∨vk.ownBlock=some k) w w'):
 Wk wD w'∧w'.heap[bw]? =some (.cells ([cZ (some ⟨kb,0,none⟩)]++cs7++ [cZ (some ⟨bl,0,none⟩),cZ (some ⟨xr,0,none⟩)]).toArray 70 (0,0))∧cT w' wD.heap.size bl bs vb ⟨kb,0,none⟩ g n hist cs:=by
 refine ⟨hw.trans' hm (fun k J E=> ?_),hm.ax I ?_,cT.tg U hm<|cU.tg A O⟩
 · rcases E with rfl | E
   · have :=A.lo; omega
   · have :=(da A.back E).1; omega
 · rintro (rfl | J)
   · have C:=A.obj;rw [I] at C;simp only [bR,nH] at C;have L:=congrArg Ii C.1;simp [M] at L
   · exact ib (e':=70) A.back aJ bw J _ _ I
end
end Go.Hb.sY
end
section
namespace Go.Hb.vt
open Go.Hb.nU Go.Hb.o6 Go.Hb.qL Go.Hb.sY
theorem vv.form {s:List UInt8} {w w':ai} {v:ah} (h:vv s w v w'):∃ E I x2 J L M O q,v= .tuple #[.agg [E,I,x2,J,L,M,O].toArray,.int .i64 ((q:Nat):Int)]∧[E,I,x2,J,L,M,O].all Value.oneCell'=true∧Wk w w'∧
 ((q≠0∧∃ aj,cD s= .error aj)∨(q=0∧∃ b,cD s= .ok b∧jc w' w.heap.size [E,I,x2,J,L,M,O] b)):=by
 obtain ⟨h,ag⟩:=h;rcases h with ⟨b,cs,A,C,hb⟩ | ⟨A,q,am,C⟩
 · obtain ⟨al,ak⟩:=hb.one;obtain ⟨V,Z,aa,ab,ac,ad,ae,rfl⟩:∃ V Z aa ab ac ad ae,cs= [V,Z,aa,ab,ac,ad,ae]:=by
    match cs,al with
    | [V,Z,aa,ab,ac,ad,ae],_=>exact ⟨_,_,_,_,_,_,_,rfl⟩
   exact ⟨_,_,_,_,_,_,_,0,C,ak,ag,.inr ⟨U,b,A,hb⟩⟩
 · exact ⟨_,_,_,_,_,_,_,q,C,U,ag,.inl ⟨am,A⟩⟩
def vj (s:List UInt8) (w:ai) (v:ah) (w':ai):Prop :=((∃ C,cD s= .error C)∧v= .tuple #[.pointer none,.bool true]∧Wk w w')∨(∃ wD bw kb b B1 A cs7,cD s= .ok b∧v= .tuple #[.pointer (some ⟨bw,0,none⟩),.bool true]∧Wk w wD∧ez wD B1 kb b s∧jc wD A cs7 b∧lZ wD w' bw kb cs7 0)
theorem PU {l:List bH} (h:shaped l=true):0 < l.length:=by
 unfold shaped at h;simp only [Bool.and_eq_true,decide_eq_true_eq] at h;exact h.1.1
theorem KU {g:List UInt8→Option Int} {l:List bH} {x:List UInt8} (h:(g x).getD 0=1):ly g l x=true :=by
 unfold ly; rw [if_pos h]
theorem KS {g:List UInt8→Option Int} {l:List bH} {x:List UInt8} (A:eA g) (h:¬(g x).getD 0=1) (h0:¬(g x).getD 0=0):ly g l x=false :=by
 rw [KV A h0];refine decide_eq_false ?_;cases hx:g x with
 | none=>rw [hx] at h0; exact absurd rfl h0
 | some o=>
   rcases A.val x o hx with rfl | rfl
   · rw [hx] at h; exact absurd rfl h
   · decide
theorem jc.sec {w:ai} {B:Nat} {cs:List ah} {b:eU} (h:jc w B cs b):∃ A cc,cs[3]? =some (.slice A (cW b 0).length cc)∧gj w.heap A (cW b 0):=by
 obtain ⟨ra,rc,vs,rfl,J,_,E⟩:=h;obtain ⟨A,cc,C,_,I⟩:=(E 0 ag).mE;refine ⟨A,cc,?_,I⟩;rw [eC (by simp)];show vs[0]? =_;rw [cQ] at C;rw [cr ag] at C ⊢;exact congrArg some C
theorem PC {s:List UInt8} {b:eU} (h:cD s= .ok b):0 < (cW b 0).length:=by
 have hi:=Dm h;have hm:b.jt.getD 0 []∈b.jt:=gO<|by rw [hi.FD]; decide
 exact PU (hi.jt _ hm).1
theorem Ke (s:List UInt8) (w:ai) (aL:s.length≤1048576):
 aZ aq 7 (bd [str s]) w (vj s w):=by
 refine enter func7 U ntmps7 U<|aP 8 U<|p mv<|e<|aI (NL s w aL) U ?_;rintro v11 aN ⟨ab,a2⟩;obtain ⟨E,u,rfl,aF,a7⟩:∃ E u,v11= .tuple #[.pointer E,u]∧(∀ A,E=some A→∃ kb b,A=⟨kb,0,none⟩∧cD s= .ok b∧ez aN w.heap.size kb b s)∧(E=none→∃ ad,cD s= .error ad):=by
  cases hX:cD s with
  | ok b=>rw [hX] at ab; obtain ⟨kb,h,a6⟩:=ab; exact ⟨_,_,h,fun A C=>⟨kb,b,(Option.some.inj C).symm,rfl,a6⟩,fun C=>by cases C⟩
  | error q=>rw [hX] at ab; exact ⟨_,_,ab,fun A C=>(by cases C),fun _=>⟨q,rfl⟩⟩
 clear ab;refine p mv<|aj 2 U<|p aU<|p aU<|aj 4 U<|p mv<|e<|aI (OP s aN aL) U fun bu a9 a5=> ?_;obtain ⟨I,J,x2,M,O,V,Z,q,rfl,a8,ak,aM⟩:=vv.form a5;have bm:=ak.size;refine p mv<|aj 2 U<|e<|fK BJ fun ap bx bf ay aV=> ?_;have bq:=ay.size;refine e<|fG qQ U U U a8 aV aJ fun wD a3 aX=> ?_;have aY:aD wD.heap ap [I,J,x2,M,O,V,Z]:=⟨_,aX⟩
 have al:Wk a9 wD:=ay.md.trans' a3 fun k bi h=>by omega
 have av:Wk w wD:=(a2.trans ak).trans al;refine aj 5 U<|p mv<|e<|aI (Fy E wD) U fun v20 ao aB=>p aU<|aC 9 U<|cd U (fun an=> ?_) fun an=> ?_;obtain ⟨_,ad,aK⟩:=aM.resolve_right fun h=>an<|by rw [h.1]; rfl
 obtain rfl :E=none:=by
  cases E with
  | none=>rfl
  | some A=>obtain ⟨_,_,_,h,_⟩:=aF A rfl; rw [aK] at h; cases h
 obtain ⟨_,rfl,aa⟩:(none:Option aW)=none∧v20= .pointer none∧Wk wD ao:=aB.resolve_right fun ⟨_,_,_,h,_⟩=>by cases h
 refine az 2 U<|p mv<|p (iM ss U U)<|aj 1 U<|gb (t:=25) U (fun bg=> ?_) fun h=>absurd ((U).symm.trans h) dS;exact bA U mv<|bA U (iM u32 U U)<|ar 7 U<|f2 U U U<|.inl ⟨⟨ad,aK⟩,U,av.trans aa⟩;obtain ⟨bj,b,ae,a0⟩:=aM.resolve_left fun h=>an ag;obtain ⟨A,bl,bs,rfl,rfl,br,bt,a4,aa⟩:=aB.resolve_left fun ⟨h,_⟩=>by obtain ⟨ad,C⟩:=a7 h; rw [C] at ae; cases ae
 obtain ⟨kb,aO,rfl,aE,a1⟩:=aF A rfl;obtain rfl :b=aO:=by rw [ae] at aE; cases aE; rfl
 have bn:=aa.size;refine az 4 U<|p mv<|p (eZ o8 U (U) (show ∀ j,j < 7→aH ao.heap ap (0 +j)=([I,J,x2,M,O,V,Z]:List ah)[j]? from fun j _=>(Wk.B aa aY).aG j))<|p mv<|p (dZ (ps:= []) (L:= [.slice none 0 0,.slice none 0 0,.slice none 0 0]) G9 U<|U)<|e<|tl (L:= [.slice none 0 0,.slice none 0 0,.slice none 0 0]) U fun ac bv bb aw aS=> ?_;have bo:=aw.size;refine p (CG (ps:= [(0,aA kb),(1,.agg [I,J,x2,M,O,V,Z].toArray),(2,aA bl),(3,aA ac)]) (L:= [cZ (some ⟨kb,0,none⟩),I,J,x2,M,O,V,Z,aA bl,aA ac]) Qk U<|by simp [Instr.fill,Value.cells])<|e<|tl (L:= [cZ (some ⟨kb,0,none⟩),I,J,x2,M,O,V,Z,aA bl,aA ac]) U fun aQ ba bc am aT=> ?_;have bp:=am.size;have au:Wk ao ba:=aw.md.trans am.md;refine p mv<|p (pO ss U U)<|aj 1 U<|gb (t:=38) U (fun bh=> ?_) fun h=>absurd ((U).symm.trans h) dS;refine bA U mv<|bA U (pO u32 U U)<|ar 6 U<|f2 U U U<|.inr ⟨wD,aQ,kb,b,_,_,[I,J,x2,M,O,V,Z],ae,U,av,a1.wk (ak.trans al),a0.wk al,bl,bs,.slice none 0 0,(fun _=>none),0,[],[fun _=>none],[],ac,[],[],.slice none 0 0,.slice none 0 0,.slice none 0 0,[],[],?_,by simp⟩;exact ⟨aa.trans au,aT,ag,a4.wk au,⟨_,sX.start⟩,⟨Wk.ax am.md aS,ag,dw.nil _ _,dw.nil _ _,eL _ _ _ _,U,fun i q t aR C=>by simp at aR⟩,dd.nil,U,fun i t h=>by simp at h,fun k h=>by simp [dL] at h,fun k h=>by simp [dL] at h,U⟩
set_option maxHeartbeats 2000000 in
theorem KL {wD:ai} {bw kb:Nat} {cs7:List ah} {bl bs:Nat} {vb:ah} {g:List UInt8→Option Int} {n:Nat} {hist gz:List (List UInt8→Option Int)} {cs:List ah} {xr:Nat} {la lb:Tl} {va vc vk:ah} {vals:List (ah×ah)} {bck:List (Tl×Tl)} (w:ai) {b:eU} {s:List UInt8} {B1 ax:Nat} (h:eD wD w bw kb cs7 bl bs vb g n hist gz cs xr la lb va vc vk vals bck) (aG:ez wD B1 kb b s) (aF:jc wD ax cs7 b) (am:cD s= .ok b) (ws:Tl) (M:Option aW) (av:Nat) (al:bN w.heap M ws) (a1:ws.length≤1048576) (aS:∀ x∈ws,x.length≤1048576):
 aZ aq 26 (bd [aA bw,.slice M ws.length av]) w (fun v w'=>v= .bool true∧Wk w w'):=by
 obtain ⟨O,V,aD,aM⟩:=jc.sec aF;have ak:jd (cW b 0):=PB (Dm am) 0;have aO:=PC am;have ao:=h.ok.1;have a0:=h.len;refine enter func26 U ntmps26 U<|aP 8 U<|p mv<|aC 5 U<|lp (fun Z aw L=> ∃ (j:Nat),(j≤ws.length)∧(Wk w L)∧(Sl aw [(0,aA bw),(10,.slice M ws.length av),(11,aQ (ws.length)),(12,aQ j)])∧(ws.length - j=Z)) _ ⟨0,ag,(Md.refl _ _),U,U⟩ ?_;rintro Z aw L ⟨j,aY,A,aR,rfl⟩;refine bE aR<|bV 6 U<|cd U (fun aN=> ?_) fun aN=> ?_;refine bD 5 U ?_;have a2:(ws.getD j []).length≤1048576:=aS _<|gO ag;refine az 1 U<|p (bZ dH U U ag<|aT.ok (al.wk A)<|ef ag)<|p (ay U<|bN.get (i:=j) (al.wk A) ag)<|aj 8 U<|p (ay U<|(h.nw A).cells.2.2.1)<|aj 1 U<|e<|aI (Gj wD.heap.size xr la lb va vc vk vals bck (ws.getD j []) L (h.nw A).ref h.jX.ua h.jX.ub ag) U ?_;rintro v21 au ⟨ap,aJ⟩;rw [← h.jX.has ao (ws.getD j [])] at ap;subst ap;have ac:=A.trans aJ;have aa:=h.nw ac;refine aj 9 U<|p (pC CA U U ag)<|p (ay U (show aH au.heap bw (0 +(1 +3))=some (.slice O (cW b 0).length V) from (aa.cells.2.2.2 3 ag).trans aD))<|aj 1 U<|e<|aI (OO O V (cW b 0) (ws.getD j []) au (aM.wk aa.wk) ak aO ag) U ?_;rintro v30 aU ⟨⟨a3,rfl⟩,hE30⟩;have ad:=ac.trans hE30;have ab:=h.nw ad;refine p mv<|aj 11 U<|p (ay U<|ab.cells.2.1)<|aj 1 U<|e<|aI (mj wD.heap.size bl bs vb ⟨kb,0,none⟩ g n hist cs (ws.getD j []) aU ab.own) U ?_;rintro a4 aV ⟨rfl,aK⟩;have ae:=ad.trans aK;have C:=h.nw ae;refine aj 3 U<|gs (t:=41) U (fun h=>absurd h fun h=>h U) fun aX=>aj 3 U<|bA U (ay U<|C.cells.2.1)<|aj 1 U<|eg U U U<|aI (KJ wD.heap.size bl bs vb ⟨kb,0,none⟩ g n hist cs B1 kb b s (ws.getD j []) aV C.own U (aG.wk C.wk) ak ag) U ?_;rintro a5 a6 ⟨rfl,aL⟩;have E:=ae.trans aL;refine aj 3 U<|gs (t:=50) U (fun I=> ?_) fun I=> ?_;exact aj 6 U<|bA U (Ax u4 U U)<|aC 3 U<|cd U (fun h=>absurd h fun h=>h<|KU I) fun an=>az 4 U<|p (bW<|j+1)<|ar 2 U<|tn<|⟨_,ag,j+1,ag,E,U,U⟩
 refine aj 3 U<|gs (t:=53) U (fun J=> ?_) fun J=> ?_;exact aj 3 U<|bA U (Ax u4 U U)<|aC 3 U<|cd U (fun h=>absurd h fun h=>h<|KW J) fun an=>az 4 U<|p (bW<|j+1)<|ar 2 U<|tn<|⟨_,ag,j+1,ag,E,U,U⟩
 exact aj 2 U<|bA U (rK U)<|bA U (Ax u4 U U)<|aC 3 U<|cd U (fun h=>absurd h fun h=>h<|KS ao I J) fun an=>az 4 U<|p (bW<|j+1)<|ar 2 U<|tn<|⟨_,ag,j+1,ag,E,U,U⟩
 exact aB 2 U<|cj<|bg 8 U<|aE U<|⟨U,A⟩
end Go.Hb.vt
end
section
namespace Go.Hb.yM
open Go.Hb.nU Go.Hb.o6 Go.Hb.qL Go.Hb.sY Go.Hb.vt
theorem vn.form {t:List UInt8} {I:aW} {w w':ai} {v:ah} (h:vn t I w v w'):∃ (E:Option aW) (l q:Nat),v= .tuple #[.pointer E,.agg #[bh .i64 0,.int .i64 (l:Nat),.int .i64 (q:Nat)]]∧Wk w w'∧((q=0∧l=0∧∃ g B bl bs,hZ t= .ok g∧E=some ⟨bl,0,none⟩∧w.heap.size≤B∧cT w' B bl bs (.slice none 0 0) I g (eu t).length [] [])∨(q≠0∧E=none∧hZ t= .error (l,q))):=by
 obtain ⟨⟨g,B,bl,bs,A,C,J,L⟩ | ⟨l,q,A,C⟩,hE⟩:=h
 · exact ⟨_,0,0,C,hE,.inl ⟨U,U,g,B,bl,bs,A,U,J,L⟩⟩
 · exact ⟨none,l,q,C,hE,.inr ⟨FT A,U,A⟩⟩
theorem vp.form {t:List UInt8} {w w':ai} {v:ah} (h:vp t w v w'):∃ (E:Option aW) (l q:Nat),v= .tuple #[.pointer E,.int .i64 (l:Nat),.int .i64 (q:Nat)]∧Wk w w'∧((q=0∧l=0∧∃ g a b xr va vb,hZ t= .ok g∧E=some ⟨xr,0,none⟩∧cU w' w.heap.size xr a b va vb (.slice none 0 0) [] []∧dd g a b)∨(q≠0∧E=none∧hZ t= .error (l,q))):=by
 obtain ⟨⟨g,a,b,xr,va,vb,A,C,I,J⟩ | ⟨l,q,A,C⟩,hE⟩:=h
 · exact ⟨_,0,0,C,hE,.inl ⟨U,U,g,a,b,xr,va,vb,A,U,I,J⟩⟩
 · exact ⟨none,l,q,C,hE,.inr ⟨FT A,U,A⟩⟩
theorem OB {t:List UInt8} {g:List UInt8→Option Int} (h:hZ t= .ok g):eA g∧dh g (eu t).length∧(eu t).length≤500:=by
 unfold hZ at h;split at h
 · cases h
 · exact xh h
theorem cT.mono {w:ai} {B B' bl bs n:Nat} {vb:ah} {A:aW} {g:List UInt8→Option Int} {hist:List (List UInt8→Option Int)} {cs:List ah} (h:cT w B bl bs vb A g n hist cs) (C:B'≤B):cT w B' bl bs vb A g n hist cs:=
 ⟨h.obj,h.dQ,h.eV,h.nB,h.nz,⟨by have :=h.lo; omega,by have :=h.lo; omega⟩,nr h.back C,h.lf,h.bk⟩
theorem cU.mono {w:ai} {B B' xr:Nat} {a b:Tl} {va vb vk:ah} {vals:List (ah×ah)} {bck:List (Tl×Tl)} (h:cU w B xr a b va vb vk vals bck) (A:B'≤B):cU w B' xr a b va vb vk vals bck:=
 ⟨h.obj,by have :=h.lo; omega,h.ra.mono A,h.rb.mono A,nr h.back A,h.vl,fun i q t C E=>⟨(h.fP i q t C E).1.mono A,(h.fP i q t C E).2.mono A⟩⟩
theorem cU.HF {F:Nat→Prop} {w w':ai} {B xr:Nat} {a b:Tl} {va vb vk:ah} {vals:List (ah×ah)} {bck:List (Tl×Tl)} (h:cU w B xr a b va vb vk vals bck) (hm:Md F w w') (J:∀ k,F k→∃ cur z,w.heap[k]? =some (.cells cur 70 z)):cU w' B xr a b va vb vk vals bck:=by
 have I:∀ k,F k→∀ cur z,w.heap[k]?≠some (.cells cur 9 z):=fun k E cur z=>by
  obtain ⟨L,z2,A⟩:=J k E;rw [A]; intro e; injection e with e; injection e with _ e; exact absurd e aJ
 refine ⟨hm.ax h.obj (fun E=> ?_),h.lo,h.ra.md hm I,h.rb.md hm I,cC h.back hm (fun k E M=> ?_),h.vl,fun i q t A C=>⟨(h.fP i q t A C).1.md hm I,(h.fP i q t A C).2.md hm I⟩⟩
 · obtain ⟨L,z2,A⟩:=J _ E;have C:=h.obj;rw [A] at C;injection C with e; injection e with _ e; exact absurd e aJ
 · obtain ⟨L,z2,A⟩:=J _ M;exact ib (e':=70) h.back aJ k E _ _ A
theorem iK.int {B bl bs:Nat} {vb:ah} {A:aW} {g:List UInt8→Option Int} {hist:List (List UInt8→Option Int)} {C:Int} {l:Tl} {w w':ai} {v:ah} (h:iK B bl bs vb A g hist C l w v w'):∃ i,v= .int .i64 i:=by
 rcases h with ⟨_,h,_⟩ | ⟨_,m,_,⟨_,h,_⟩ | ⟨_,h,_⟩⟩ <;> exact ⟨_,h⟩
theorem iK.ou {B bl bs:Nat} {vb:ah} {A:aW} {g:List UInt8→Option Int} {hist:List (List UInt8→Option Int)} {C:Int} {l:Tl} {w w':ai} {v:ah} (h:iK B bl bs vb A g hist C l w v w'):Md (jh bl bs vb) w w':=by
 rcases h with ⟨_,_,h⟩ | ⟨_,m,_,⟨_,_,h⟩ | ⟨_,_,⟨_,h⟩ | ⟨_,_,_,_,h,_⟩⟩⟩
 · exact h.mono fun _ _ h=>h.elim
 · exact h.mono fun _ _ h=>h.elim
 · exact h.mono fun _ _ h=>h.elim
 · exact h
theorem lX.int {B xr:Nat} {a b:Tl} {vk:ah} {bck:List (Tl×Tl)} {ws:Tl} {A:Bool} {w w':ai} {v:ah} (h:lX B xr a b vk bck ws A w v w'):∃ i,v= .int .i64 i:=by
 rcases h with ⟨_,h,_⟩ | ⟨_,⟨_,h,_⟩ | ⟨_,h,_⟩⟩ <;> exact ⟨_,h⟩
theorem lX.ou {B xr:Nat} {a b:Tl} {vk:ah} {bck:List (Tl×Tl)} {ws:Tl} {A:Bool} {w w':ai} {v:ah} (h:lX B xr a b vk bck ws A w v w'):Md (fun k=>k=xr∨vk.ownBlock=some k) w w':=by
 rcases h with ⟨_,_,h⟩ | ⟨_,⟨_,_,h⟩ | ⟨_,_,⟨_,_,h⟩ | ⟨_,_,_,_,_,_,h,_⟩⟩⟩
 · exact h.mono fun _ _ h=>h.elim
 · exact h.mono fun _ _ h=>h.elim
 · exact h.mono fun _ _ h=>h.elim
 · exact h
def mG (A:Bool):Int:=if A=true then 1 else -1
theorem OU {g:List UInt8→Option Int} {a b ws:Tl} (A:Bool) (h:dd g a b):dd (eE (mG A) (c8 (mG A) g ws) g) (et A a b ws).1 (et A a b ws).2:=by
 cases A with
 | true =>exact h.add
 | false =>exact h.Kb
section
variable {wD w w1 w2:ai} {bw kb:Nat} {cs7:List ah} {bl bs:Nat} {vb:ah} {g:List UInt8→Option Int} {n:Nat} {hist gz:List (List UInt8→Option Int)} {cs:List ah} {xr:Nat} {la lb:Tl} {va vc vk:ah} {vals:List (ah×ah)} {bck:List (Tl×Tl)} {m:Nat}
theorem Gb {ws:Tl} {i j:Int} (A:Bool) (h:eD wD w bw kb cs7 bl bs vb g n hist gz cs xr la lb va vc vk vals bck) (hm:hist.length≤m) (M:iK wD.heap.size bl bs vb ⟨kb,0,none⟩ g hist (mG A) ws w (.int .i64 i) w1) (E:lX wD.heap.size xr la lb vk bck ws A w1 (.int .i64 j) w2):i=j∧lZ wD w2 bw kb cs7 (m+1):=by
 have aB:mG A=1∨mG A= -1:=by cases A <;> simp [mG]
 have an:mG A≠0:=ag;have am:=h.ok.1;have same:Wk w w1→Wk w1 w2→lZ wD w2 bw kb cs7 (m+1):=fun C ac=>⟨_,_,_,_,_,_,_,_,_,_,_,_,_,_,_,_,h.nw (C.trans ac),ag⟩
 rcases M with ⟨⟨x,Z,aa⟩,O,J⟩ | ⟨ab,aC,az,M⟩
 · rcases E with ⟨_,V,L⟩ | ⟨ab,_⟩
   · cases O; cases V; exact ⟨rfl,same J L⟩
   · rw [ab x Z] at aa; cases aa
 · rcases E with ⟨⟨x,Z,aa⟩,_⟩ | ⟨_,E⟩
   · rw [ab x Z] at aa; cases aa
   · have ah:=OU (ws:=ws) A h.jX;have ae:eA (eE (mG A) (c8 (mG A) g ws) g):=am.put aB ab;have aI:=ah.eV ae<|Ga an az;rcases M with ⟨ai,O,J⟩ | ⟨ai,O,M⟩
     · rcases E with ⟨_,V,L⟩ | ⟨ar,_⟩
       · cases O; cases V; exact ⟨rfl,same J L⟩
       · omega
     · rcases E with ⟨ar,_⟩ | ⟨_,V,E⟩
       · omega
       · cases O; cases V;refine ⟨U,?_⟩;have ak:=ah.ext h.jX ae am;rcases M with ⟨h0,J⟩ | ⟨aF,aq,⟨x,o,Z⟩,hO',hM',hf'⟩
         · rcases E with ⟨_,_,L⟩ | ⟨aA,_⟩
           · exact same J L
           · refine absurd (ak.2 ?_) aA;funext y;refine F8 ?_;cases hy:c8 (mG A) g ws y with
             | none=>rfl
             | some o=>
               have :=fI.zero h0<|str y;rw [iP,hy] at this; cases this
         · have ax:=KO an Z;rcases E with ⟨C,ac,_⟩ | ⟨_,aD,aG,aH,aE,aj,au,aw⟩
           · exact absurd (ak.1 ⟨C,ac⟩) ax
           · obtain ⟨ao,c2,c3,ap⟩:=eD.tu h hM';obtain ⟨d1,d2,d3⟩:=eD.Gc hO' c2 h.c7 c3 ap ao au;obtain ⟨g0,ad⟩:=h.tv;have av:=ad.add ae hO'.eV ai<|yU h.own.nz;have al:=ad.len;refine ⟨_,_,aF,_,aC,_,_,aq,xr,_,_,aD,aG,aH,aE,_,⟨d1,d2,h.lo,d3,⟨g0,av⟩,aj,ah,by rw [bo,bo,h.o9]; rfl,fun i t I=> ?_,fun k ay=> ?_,lk.of aj (by simp),h.c7⟩,by rw [bo,dE]; omega⟩
             · rcases dM i bck.length with C | C
               · rw [eR C] at I;rw [n7 (by rw [al,← h.o9]; omega)];exact h.kV i t I
               · rw [eC C] at I;cases hj:i - bck.length with
                 | zero=>
                   rw [hj] at I; cases I;rw [n7 (by rw [al,← h.o9]; omega),show i=hist.length by rw [← h.o9]; omega,ad.last];exact h.jX
                 | succ q=>rw [hj] at I; simp at I
             · rcases aw k ay with C | C
               · exact h.sep k C
               · have :=h.own.obj.lt;have :=h.own.dQ.lt;have :=hM'.size;exact ⟨ag,ag⟩
def qN (B xr:Nat) (vk:ah) (bck:List (Tl×Tl)) (w:ai) (v:ah) (w':ai):Prop :=v= .bool (decide (0 < bck.length))∧((bck= []∧Wk w w')∨(∃ A t E J C I,bck=A++ [t]∧cU w' B xr t.1 t.2 E J C I A∧Md (fun k=>k=xr) w w'∧∀ k,C.ownBlock=some k→vk.ownBlock=some k))
theorem QY {B xr:Nat} {a b:Tl} {va vb vk:ah} {vals:List (ah×ah)} {bck:List (Tl×Tl)} (w:ai) (I:cU w B xr a b va vb vk vals bck) (M:bck.length≤1048576):aZ aq 25 (bd [.pointer (some ⟨xr,0,none⟩)]) w (qN B xr vk bck w):=by
 by_cases hb:bck= []
 · refine (QX B xr a b va vb vk vals bck w I hb).mono fun v w' ⟨A,C⟩=>⟨?_,.inl ⟨hb,C⟩⟩
   rw [A,hb]; rfl
 · obtain ⟨E,t,rfl⟩:∃ l x,bck=l++ [x]:=⟨bck.dropLast,bck.getLast hb,(I3 hb).symm⟩
   refine (QZ B xr a b va vb vk vals E t.1 t.2 w I<|by rw [bo] at M; omega).mono fun v w' ⟨A,O,Z,aa,V,C,J,L⟩=>⟨?_,.inr ⟨E,t,O,Z,aa,V,U,C,J,L⟩⟩
   rw [A,bo,dE,decide_eq_true ag]
theorem qN.ou {B xr:Nat} {vk:ah} {bck:List (Tl×Tl)} {w w':ai} {v:ah} (h:qN B xr vk bck w v w'):Md (fun k=>k=xr∨vk.ownBlock=some k) w w':=by
 rcases h.2 with ⟨_,h⟩ | ⟨_,_,_,_,_,_,_,_,h,_⟩
 · exact h.mono fun _ _ h=>h.elim
 · exact h.mono fun _ _ h=> .inl h
theorem QT {v:ah} {U:ah} {J:List ah} {O:Nat} (h:eD wD w bw kb cs7 bl bs vb g n hist gz cs xr la lb va vc vk vals bck) (hm:hist.length≤m) (al:cT w1 wD.heap.size bl bs U ⟨kb,0,none⟩ (gz.getD (hist.length - 1) dG) O (hist.take<|hist.length - 1) J) (aj:Md (jh bl bs vb) w w1) (aa:qN wD.heap.size xr vk bck w1 v w2):lZ wD w2 bw kb cs7 m:=by
 obtain ⟨ae,c2,c3,I⟩:=eD.tu h aj;obtain ⟨d1,d2,d3⟩:=eD.Gc al c2 h.c7 c3 I ae<|qN.ou aa;obtain ⟨g0,ac⟩:=h.tv;have ad:=sX.QU ac;have ab:=h.o9;rcases aa.2 with ⟨hb,Z⟩ | ⟨E,t,ap,ar,V,aq,hb,am,ak,L⟩
 · have M:hist= []:=j5<|by rw [← ab,hb]; rfl
   have an:gz.getD (hist.length - 1) dG=g:=by rw [M]; have :=ac.last; rw [M] at this; exact this
   refine ⟨bl,bs,U,_,O,_,_,J,xr,la,lb,va,vc,vk,vals,bck,⟨d1,d2,h.lo,d3,⟨g0,ad⟩,c3.wk Z,by rw [an]; exact h.jX,by rw [hb,M]; rfl,fun i q A=>by rw [hb] at A; simp at A,h.sep,I.md Z (fun _ _ h=>h),h.c7⟩,by rw [bY]; omega⟩
 · rw [hb,bo,dE] at ab;have ao:∀ k,V.ownBlock=some k→¬k=xr:=fun k C ai=>by subst ai; exact cU.xk c3<|L _ C
   refine ⟨bl,bs,U,_,O,_,_,J,xr,t.1,t.2,ap,ar,V,aq,E,⟨d1,d2,h.lo,d3,⟨g0,ad⟩,am,?_,by rw [bY]; omega,fun i q A=> ?_,fun k C=>h.sep k (L k C),fun k C=>lk.md (vk:=V) (fun q A=>I q<|L q A) ak ao k C,h.c7⟩,by rw [bY]; omega⟩
   · exact (show hist.length - 1=E.length by omega) ▸ h.kV E.length t (by rw [hb,eC (bf _),sS]; rfl)
   · have hi:=(dt.1 A).1;rw [pB ag];exact h.kV i q<|by rw [hb,eR hi]; exact A
end
theorem FR {wD:ai} {bw kb:Nat} {cs7:List ah} {bl bs:Nat} {vb:ah} {g:List UInt8→Option Int} {n:Nat} {hist gz:List (List UInt8→Option Int)} {cs:List ah} {xr:Nat} {la lb:Tl} {va vc vk:ah} {vals:List (ah×ah)} {bck:List (Tl×Tl)} {m:Nat} (w:ai) (h:eD wD w bw kb cs7 bl bs vb g n hist gz cs xr la lb va vc vk vals bck) (hm:hist.length≤m) (C:List UInt8) (aL:C.length≤1048576):
 aZ aq 10 (bd [aA bw,str C]) w (fun v w'=>v= .bool true∧lZ wD w' bw kb cs7 m):=by
 have aT:=h.c7;obtain ⟨ae,ak,al,am,an,ao,ap,rfl⟩:∃ ae ak al am an ao ap,cs7= [ae,ak,al,am,an,ao,ap]:=by
  match cs7,aT with
  | [ae,ak,al,am,an,ao,ap],_=>exact ⟨_,_,_,_,_,_,_,rfl⟩
 refine enter func10 U ntmps10 U<|aP 7 U<|p mv<|aj 2 U<|p (ay U<|h.cells.1)<|p mv<|e<|aI (Oy ⟨kb,0,none⟩ C w aL) U fun bE bi a5=> ?_;obtain ⟨bz,l,q,rfl,a0,aM⟩:=vn.form a5;refine p mv<|aj 2 U<|e<|fK If fun J bF bm aF aX=> ?_;have bu:=aF.size;refine p aU<|e<|fG vL U U U U aX (by simp) fun I a1 aV=> ?_;have aW:aD I.heap J [bh .i64 0,aQ l,aQ q]:=⟨_,aV⟩
 have aw:Wk bi I:=aF.md.trans' a1 fun k A h=>by omega
 have ax:=a0.trans aw;refine aj 4 U<|p mv<|e<|aI (Ox C I aL) U fun v21 ad a7=> ?_;obtain ⟨bC,bv,bD,rfl,O,aN⟩:=vp.form a7;have aB:=ax.trans O;have av:=Wk.B O aW;refine p mv<|aj 3 U<|p aU<|aC 11 U<|cd U (fun ab=> ?_) fun ab=> ?_;obtain ⟨_,rfl,aa⟩:=aN.resolve_left fun h=>ab<|by rw [h.1]; rfl
 obtain ⟨_,rfl,bb⟩:=aM.resolve_left fun ⟨_,_,g,_,_,_,h,_⟩=>by rw [aa] at h; cases h
 rw [bb] at aa;cases aa;refine az 2 U<|p mv<|p (iM u32 U U)<|aj 1 U<|gb (t:=29) U (fun bo=> ?_) fun h=>absurd ((U).symm.trans h) dS;exact bA U (eZ ta U (U) (show ∀ j,j < 3→aH ad.heap J (0 +j)=([bh .i64 0,aQ l,aQ q]:List ah)[j]? from fun j _=>av.aG j))<|aj 2 U<|bA U (dZ (ps:= [(1,aQ l),(2,aQ q)]) (L:= [.int .i64 0,aQ l,aQ q]) uo U<|U)<|bA U (L4 U U)<|ar 6 U<|aE U<|⟨by show bB (decide _)=_; rw [decide_eq_true ⟨U,U,U⟩],_,_,_,_,_,_,_,_,_,_,_,_,_,_,_,_,h.nw aB,hm⟩
 obtain ⟨rfl,rfl,g2,ma,mb,aO,ua,ub,ac,rfl,a6,a4⟩:=aN.resolve_right fun h=>ab ag;obtain ⟨rfl,rfl,g3,aR,au,aS,aK,rfl,bx,a2⟩:=aM.resolve_right fun ⟨_,_,h⟩=>by rw [ac] at h; cases h
 rw [ac] at aK;cases aK;obtain ⟨bg,bc,bf⟩:=OB ac;have E:=h.nw aB;refine az 5 U<|p mv<|p (iM u32 U U)<|aj 1 U<|gb (t:=38) U (fun h=>absurd (h.symm.trans<|U) dS) fun bp=>bA U (eZ ta U (U) (show ∀ j,j < 3→aH ad.heap J (0 +j)=([bh .i64 0,.int .i64 ((0:Nat):Int),.int .i64 ((0:Nat):Int)]:List ah)[j]? from fun j _=>av.aG j))<|bA U (dZ (ps:= []) (L:= [.int .i64 0,.int .i64 0,.int .i64 0]) uo U<|U)<|bA U (N5 U U)<|aC 3 U<|cd U (fun h=>absurd h fun h=>h ⟨U,U,U⟩) fun bn=>az 4 U<|p mv<|p mv<|p mv<|p mv<|aj 2 U<|e<|fl Ll U U (v:=aA au) U E.obj (by show 8 < 10; decide) fun bj V M=>aj 2 U<|e<|fl Lo U U (v:=aA aO) U M (by show 9 < 10; decide) fun bG Z aY=>ar 8 U<|aE U ?_;have a9:∀ k,k=bw→vi ad k:=fun k A=>by subst A; exact ⟨_,_,_,E.obj,aJ,(by show (10:Nat)≠1; decide),.inl<|by show (10:Nat)≠3; decide⟩
 have ba:∀ k,k=bw→vi bj k:=fun k A=>by subst A; exact ⟨_,_,_,M,aJ,(by show (10:Nat)≠1; decide),.inl<|by show (10:Nat)≠3; decide⟩
 have bq:=h.lo;have br:=h.wk.size;have a3:=cT.tg (cT.tg ((cT.mono a2 (show wD.heap.size≤aR by omega)).wk<|aw.trans O) V a9) Z ba;have bt:=ax.size;have a8:=cU.HF (cU.HF (cU.mono a6 (show wD.heap.size≤I.heap.size by omega)) V fun k A=>by subst A; exact ⟨_,_,E.obj⟩) Z fun k A=>by subst A; exact ⟨_,_,M⟩
 refine ⟨U,au,aS,.slice none 0 0,g2,(eu C).length,[],[g2],[],aO,ma,mb,ua,ub,.slice none 0 0,[],[],?_,by simp⟩;exact ⟨(E.wk.trans' V fun k A h=>by omega).trans' Z (fun k A h=>by omega),aY,h.lo,a3,⟨g2,kG.one bg bc bf⟩,a8,a4,U,fun i t h=>by simp at h,fun k h=>by simp [dL] at h,fun k h=>by simp [dL] at h,U⟩
end Go.Hb.yM
end
section
namespace Go.Hb
open Go.Hb.nU Go.Hb.o6 Go.Hb.qL Go.Hb.sY Go.Hb.vt Go.Hb.yM
theorem AF {w1 w2:ai} {B xr bw e:Nat} {a b:Tl} {va vb vk:ah} {vals:List (ah×ah)} {bck:List (Tl×Tl)} {L:List ah} (E:cU w1 B xr a b va vb vk vals bck) (hm:Md (fun k=>k=xr∨vk.ownBlock=some k) w1 w2) (A:w1.heap[bw]? =some (.cells L.toArray 70 (0,0))):w2.heap[bw]? =some (.cells L.toArray 70 (0,0)):=by
 refine hm.ax A ?_;rintro (rfl | I)
 · have C:=E.obj;rw [A] at C;injection C with q; injection q with _ q; exact absurd q aJ
 · exact ib (e':=70) E.back aJ bw I _ _ A
theorem yQ {wD w:ai} {bw kb:Nat} {cs7:List ah} {m:Nat} (h:lZ wD w bw kb cs7 m):lZ wD w bw kb cs7 (m+1):=by
 obtain ⟨bl,bs,vb,g,n,hist,gz,cs,xr,la,lb,va,vc,vk,vals,bck,h,hm⟩:=h;exact ⟨bl,bs,vb,g,n,hist,gz,cs,xr,la,lb,va,vc,vk,vals,bck,h,ag⟩
set_option maxHeartbeats 4000000 in
theorem Hm {wD:ai} {bw kb:Nat} {cs7:List ah} {bl bs:Nat} {vb:ah} {g:List UInt8→Option Int} {n:Nat} {hist gz:List (List UInt8→Option Int)} {cs:List ah} {xr:Nat} {la lb:Tl} {va vc vk:ah} {vals:List (ah×ah)} {bck:List (Tl×Tl)} {m:Nat} (w:ai) {b:eU} {s:List UInt8} {B1 bW:Nat} (h:eD wD w bw kb cs7 bl bs vb g n hist gz cs xr la lb va vc vk vals bck) (hm:hist.length≤m) (cW:m≤1048576) (b6:ez wD B1 kb b s) (b5:jc wD bW cs7 b) (ck:cD s= .ok b) (am:Int) (ws:Tl) (ab:Option aW) (ac:Nat) (ae:List UInt8) (aF:bN wD.heap ab ws) (bG:ws.length≤ac) (cY:ws.length≤1048576) (aO:∀ x∈ws,x.length≤1048576) (cA:ae.length≤1048576):
 aZ aq 8 (bd [aA bw,.agg #[bh .i64 am,.slice ab ws.length ac,str ae]]) w (fun v w'=>v= .bool true∧lZ wD w' bw kb cs7 (m+1)):=by
 have b2:=h.c7;obtain ⟨E,I,J,M,O,V,Z,rfl⟩:∃ E I J M O V Z,cs7= [E,I,J,M,O,V,Z]:=by
  match cs7,b2 with
  | [E,I,J,M,O,V,Z],_=>exact ⟨_,_,_,_,_,_,_,rfl⟩
 have cV:=h.len;have aS:=h.ok.1;have cR:=eT.len h.own.bk;have cm:=h.o9;have cQ:=h.B.lt;have cX:=h.own.obj.lt;obtain ⟨a0,aU,rfl⟩:=h.ref.ra.slice;obtain ⟨aT,aV,rfl⟩:=h.ref.rb.slice;obtain ⟨cN,bF⟩:=h.tv;refine enter func8 U ntmps8 U<|aP 2 U<|e<|l9 U fun ao ad cP bu b4=> ?_;have au:=b4;have c1:=bu.size;have b8:Wk w ad:=bu.md;have C:=h.nw b8;refine aj 7 U<|p (ay U<|au.aG 0)<|aC 9 U<|cd U (fun cu=> ?_) fun cu=> ?_;refine bD 1 U ?_;have ak:(fun w'=>w'.heap[bw]? =some (.cells [cZ (some ⟨kb,0,none⟩),E,I,J,M,O,V,Z,aA bl,aA xr].toArray 70 (0,0))∧aD w'.heap ao [bh .i64 am,.slice ab ws.length ac,str ae]) ad.drew:=⟨C.obj,au⟩
 refine bK (fun w'=>w'.heap[bw]? =some (.cells [cZ (some ⟨kb,0,none⟩),E,I,J,M,O,V,Z,aA bl,aA xr].toArray 70 (0,0))∧aD w'.heap ao [bh .i64 am,.slice ab ws.length ac,str ae]) U wide ak<|cB 0 U (mv) ak<|aY [1,2] U ak<|gP 3 U (fun w' A=>ay U (show aH w'.heap bw (0 +8)=some (aA bl) from aD.aG (L:= [cZ (some ⟨kb,0,none⟩),E,I,J,M,O,V,Z,aA bl,aA xr]) ⟨_,A.1⟩ 8)) ak<|aY [4] U ak<|gP 5 U (fun w' A=>ay U<|A.2.aG 1) ak<|cB 8 U (mv) ak<|aY [9,10] U ak<|gP 11 U (fun w' A=>ay U (show aH w'.heap bw (0 +9)=some (aA xr) from aD.aG (L:= [cZ (some ⟨kb,0,none⟩),E,I,J,M,O,V,Z,aA bl,aA xr]) ⟨_,A.1⟩ 9)) ak<|aY [12] U ak<|gP 13 U (fun w' A=>ay U<|A.2.aG 1) ak<|he 6 U an<|aI (HB ws ab ac ad.drew (aF.wk C.wk.drew) ag) U ?_;rintro c5 bP ⟨bj,bH,_⟩;obtain ⟨bX,bZ,rfl⟩:=de bH;have aQ:=C.nw<|Md.gM bj;have bC:=Wk.B (Md.gM bj) au;have cc:(fun w'=>w'.heap[bw]? =some (.cells [cZ (some ⟨kb,0,none⟩),E,I,J,M,O,V,Z,aA bl,aA xr].toArray 70 (0,0))∧aD w'.heap ao [bh .i64 am,.slice ab ws.length ac,str ae]) bP:=⟨aQ.obj,bC⟩
 refine ⟨cc,?_⟩;refine he 7 U an<|aI (Ch wD.heap.size bl bs vb ⟨kb,0,none⟩ g n hist cs ws bX bZ bP aQ.own (dx bH).2 ag aO ag) U fun c6 bQ aX=> ?_;obtain ⟨i7,rfl⟩:=iK.int aX;have bq:=iK.ou aX;obtain ⟨aJ,aM,aN,cv⟩:=eD.tu aQ bq;have aK:=bq.B bC<|jh.not h.own ag;have bb:=aJ.size;have ce:(fun w'=>w'.heap[bw]? =some (.cells [cZ (some ⟨kb,0,none⟩),E,I,J,M,O,V,Z,aA bl,aA xr].toArray 70 (0,0))∧aD w'.heap ao [bh .i64 am,.slice ab ws.length ac,str ae]) bQ:=⟨aM,aK⟩
 refine ⟨ce,?_⟩;refine he 14 U an<|aI (F7 true wD.heap.size xr la lb (.slice a0 la.length aU) (.slice aT lb.length aV) vk vals bck ws ab ac bQ aN h.jX.ua h.jX.ub (aF.wk aJ) bG ag aO ag ag bb) U fun c8 cI a1=> ?_;obtain ⟨cG,rfl⟩:=lX.int a1;have ax:=lX.ou a1;have a9:=AF (e:=0) aN ax aM;have a7:=ax.B aK fun ap=>by rcases ap with ap | ap; have :=(cx.1 h.ref.obj).1; omega; have :=(da h.ref.back ap).2; omega
 have bz:(fun w'=>w'.heap[bw]? =some (.cells [cZ (some ⟨kb,0,none⟩),E,I,J,M,O,V,Z,aA bl,aA xr].toArray 70 (0,0))∧aD w'.heap ao [bh .i64 am,.slice ab ws.length ac,str ae]) cI:=⟨a9,a7⟩
 refine ⟨bz,?_⟩;refine aY [15,16] U bz<|hn an<|bg 4 U<|aE U ?_;obtain ⟨a8,a6⟩:=Gb true aQ hm aX a1;exact ⟨by rw [a8]; exact congrArg bB (decide_eq_true U),a6⟩;refine bD 6 U<|cd U (fun cp=> ?_) fun cp=> ?_;refine bD 1 U ?_;have al:(fun w'=>w'.heap[bw]? =some (.cells [cZ (some ⟨kb,0,none⟩),E,I,J,M,O,V,Z,aA bl,aA xr].toArray 70 (0,0))∧aD w'.heap ao [bh .i64 am,.slice ab ws.length ac,str ae]) ad.drew:=⟨C.obj,au⟩
 refine bK (fun w'=>w'.heap[bw]? =some (.cells [cZ (some ⟨kb,0,none⟩),E,I,J,M,O,V,Z,aA bl,aA xr].toArray 70 (0,0))∧aD w'.heap ao [bh .i64 am,.slice ab ws.length ac,str ae]) U wide al<|cB 0 U (mv) al<|aY [1,2] U al<|gP 3 U (fun w' A=>ay U (show aH w'.heap bw (0 +8)=some (aA bl) from aD.aG (L:= [cZ (some ⟨kb,0,none⟩),E,I,J,M,O,V,Z,aA bl,aA xr]) ⟨_,A.1⟩ 8)) al<|aY [4] U al<|gP 5 U (fun w' A=>ay U<|A.2.aG 1) al<|cB 8 U (mv) al<|aY [9,10] U al<|gP 11 U (fun w' A=>ay U (show aH w'.heap bw (0 +9)=some (aA xr) from aD.aG (L:= [cZ (some ⟨kb,0,none⟩),E,I,J,M,O,V,Z,aA bl,aA xr]) ⟨_,A.1⟩ 9)) al<|aY [12] U al<|gP 13 U (fun w' A=>ay U<|A.2.aG 1) al<|he 6 U an<|aI (HB ws ab ac ad.drew (aF.wk C.wk.drew) ag) U ?_;rintro db bR ⟨bm,bI,_⟩;obtain ⟨bY,b0,rfl⟩:=de bI;have aR:=C.nw<|Md.gM bm;have bE:=Wk.B (Md.gM bm) au;have cf:(fun w'=>w'.heap[bw]? =some (.cells [cZ (some ⟨kb,0,none⟩),E,I,J,M,O,V,Z,aA bl,aA xr].toArray 70 (0,0))∧aD w'.heap ao [bh .i64 am,.slice ab ws.length ac,str ae]) bR:=⟨aR.obj,bE⟩
 refine ⟨cf,?_⟩;refine he 7 U an<|aI (CE wD.heap.size bl bs vb ⟨kb,0,none⟩ g n hist cs ws bY b0 bR aR.own (dx bI).2 ag aO ag) U fun dc bS a2=> ?_;obtain ⟨i7,rfl⟩:=iK.int a2;have br:=iK.ou a2;obtain ⟨aJ,aM,aN,cv⟩:=eD.tu aR br;have aK:=br.B bE<|jh.not h.own ag;have bb:=aJ.size;have cg:(fun w'=>w'.heap[bw]? =some (.cells [cZ (some ⟨kb,0,none⟩),E,I,J,M,O,V,Z,aA bl,aA xr].toArray 70 (0,0))∧aD w'.heap ao [bh .i64 am,.slice ab ws.length ac,str ae]) bS:=⟨aM,aK⟩
 refine ⟨cg,?_⟩;refine he 14 U an<|aI (F7 false wD.heap.size xr la lb (.slice a0 la.length aU) (.slice aT lb.length aV) vk vals bck ws ab ac bS aN h.jX.ua h.jX.ub (aF.wk aJ) bG ag aO ag ag bb) U fun dd cJ a3=> ?_;obtain ⟨cG,rfl⟩:=lX.int a3;have ax:=lX.ou a3;have a9:=AF (e:=0) aN ax aM;have a7:=ax.B aK fun ap=>by rcases ap with ap | ap; have :=(cx.1 h.ref.obj).1; omega; have :=(da h.ref.back ap).2; omega
 have bA:(fun w'=>w'.heap[bw]? =some (.cells [cZ (some ⟨kb,0,none⟩),E,I,J,M,O,V,Z,aA bl,aA xr].toArray 70 (0,0))∧aD w'.heap ao [bh .i64 am,.slice ab ws.length ac,str ae]) cJ:=⟨a9,a7⟩
 refine ⟨bA,?_⟩;refine aY [15,16] U bA<|hn an<|bg 4 U<|aE U ?_;obtain ⟨a8,a6⟩:=Gb false aR hm a2 a3;exact ⟨by rw [a8]; exact congrArg bB (decide_eq_true U),a6⟩;refine bD 6 U<|cd U (fun cq=> ?_) fun cq=> ?_;refine bD 1 U ?_;have av:(fun w'=>w'.heap[bw]? =some (.cells [cZ (some ⟨kb,0,none⟩),E,I,J,M,O,V,Z,aA bl,aA xr].toArray 70 (0,0))) ad.drew:=C.obj;refine bK (fun w'=>w'.heap[bw]? =some (.cells [cZ (some ⟨kb,0,none⟩),E,I,J,M,O,V,Z,aA bl,aA xr].toArray 70 (0,0))) U wide av<|cB 0 U (mv) av<|aY [1,2] U av<|gP 3 U (fun w' A=>ay U (show aH w'.heap bw (0 +8)=some (aA bl) from aD.aG (L:= [cZ (some ⟨kb,0,none⟩),E,I,J,M,O,V,Z,aA bl,aA xr]) ⟨_,A⟩ 8)) av<|cB 5 U (mv) av<|aY [6,7] U av<|gP 8 U (fun w' A=>ay U (show aH w'.heap bw (0 +9)=some (aA xr) from aD.aG (L:= [cZ (some ⟨kb,0,none⟩),E,I,J,M,O,V,Z,aA bl,aA xr]) ⟨_,A⟩ 9)) av<|he 4 U an<|aI (QW (k:=hist.length) (gz:=gz) (gT:=g) ad.drew bF (by rw [bF.last,List.take_length]; exact C.own.wk (Md.refl _ _).drew) (bf _) ag) U ?_;rintro v49 bT ⟨rfl,dm,cM,c2,cb,ca,cS⟩;have bt:=Md.gM ca;obtain ⟨cO,bJ,bL,cU⟩:=eD.tu C bt;have ch:(fun w'=>w'.heap[bw]? =some (.cells [cZ (some ⟨kb,0,none⟩),E,I,J,M,O,V,Z,aA bl,aA xr].toArray 70 (0,0))) bT:=bJ;refine ⟨ch,?_⟩;refine he 9 U an<|aI (QY bT bL ag) U fun dh cK a4=> ?_;have cC:=a4.1;subst cC;have cy:=AF (e:=0) bL (qN.ou a4) bJ;have a5:(fun w'=>w'.heap[bw]? =some (.cells [cZ (some ⟨kb,0,none⟩),E,I,J,M,O,V,Z,aA bl,aA xr].toArray 70 (0,0))) cK:=cy;refine ⟨a5,?_⟩;exact cB 10 U (L5 u4 U U) a5<|aY [11] U a5<|hn an<|bg 4 U<|aE U<|⟨by rw [cm]; exact congrArg bB (decide_eq_true U),yQ<|QT C hm cb bt a4⟩
 refine bD 6 U<|cd U (fun cr=> ?_) fun cr=> ?_;refine az 2 U<|p mv<|aj 1 U<|p (ay U<|au.aG 1)<|e<|aI (KL ad C b6 b5 ck ws ab ac (aF.wk C.wk) ag aO) U ?_;rintro di dq ⟨rfl,b9⟩;exact ar 6 U<|aE U<|⟨U,⟨_,_,_,_,_,_,_,_,_,_,_,_,_,_,_,_,C.nw b9,ag⟩⟩
 refine bD 6 U<|cd U (fun ct=> ?_) fun ct=> ?_;refine bD 1 U<|fk fun aw=>cB 0 U (mv) aw<|aY [1,2] U aw<|c9 3 U aw (C.cells.2.1)<|cB 5 U (mv) aw<|aY [6,7] U aw<|c9 8 U aw (C.cells.2.2.1)<|he 4 U an<|aI (Bn wD.heap.size bl bs vb ⟨kb,0,none⟩ g n hist cs ad.drew (C.own.wk (Md.refl _ _).drew) aS.len) U ?_;rintro dj bU ⟨xs,aL,ba,bO,bn⟩;rw [Bo aL ba] at bO;subst bO;have bc:=C.nw<|Md.gM bn;have bx:(fun w'=>Wk ad w') bU:=Md.gM bn;refine ⟨bx,?_⟩;refine he 9 U an<|aI (QD wD.heap.size xr la lb (.slice a0 la.length aU) (.slice aT lb.length aV) vk vals bck g bU bc.ref h.jX aS ag) U ?_;rintro dk bV ⟨rfl,bo⟩;have bi:=bc.nw bo;have aa:(fun w'=>Wk ad w') bV:=bx.trans bo;refine ⟨aa,?_⟩;refine aY [10,11] U aa<|kO (t:=75) U (fun cT=> ?_) fun h=>absurd U h;refine eo 12 U (fun _ _=>mv) aa<|aY [13,14] U aa<|eo 15 U (fun w' A=>ay U<|Wk.aH A<|C.cells.2.1) aa<|eo 17 U (fun _ _=>mv) aa<|aY [18,19] U aa<|eo 20 U (fun w' A=>ay U<|Wk.aH A<|C.cells.2.2.1) aa<|aY [21,22,23] U aa<|eo 24 U (fun w' A=>ay U<|Wk.aH A<|C.ref.B.aG 0) aa<|aY [25] U aa<|eo 26 U (fun _ _=>mv) aa<|aY [27,28] U aa<|eo 29 U (fun w' A=>ay U<|Wk.aH A<|C.cells.2.2.1) aa<|aY [30,31,32] U aa<|eo 33 U (fun w' A=>ay U<|Wk.aH A<|C.ref.B.aG 1) aa<|aY [34,35] U aa<|zS 16 U an U U U<|aI (Ny wD.heap.size bl bs vb ⟨kb,0,none⟩ g n hist cs bV bi.own) U ?_;rintro dl cL ⟨rfl,bp⟩;have b3:=bi.nw bp;have bv:(fun w'=>Wk ad w') cL:=aa.trans bp;refine ⟨bv,?_⟩;exact aY [36,37,38] U bv<|hn an<|bg 4 U<|aE U<|⟨congrArg bB (decide_eq_true ag),⟨_,_,_,_,_,_,_,_,_,_,_,_,_,_,_,_,b3,ag⟩⟩
 refine bD 6 U<|cd U (fun cn=> ?_) fun cn=> ?_;refine az 2 U<|p mv<|aj 1 U<|p (ay U<|au.aG 2)<|e<|aI (FR ad C hm ae cA) U ?_;rintro v107 dn ⟨rfl,ci⟩;exact ar 6 U<|aE U<|⟨U,yQ ci⟩
 refine bD 6 U<|cd U (fun co=> ?_) fun co=> ?_;refine az 2 U<|p mv<|p mv<|aj 2 U<|p (ay U<|C.cells.2.1)<|e<|aI (Bn wD.heap.size bl bs vb ⟨kb,0,none⟩ g n hist cs ad C.own aS.len) U ?_;rintro c3 cH ⟨xs,aL,ba,bM,b7⟩;have cz:=xM (g:=g) (xs:=xs) fun x cF=>by
  obtain ⟨o,cw⟩:=(aL.2 x).1 cF;exact aS.len x o cw
 have c0:=aL.eV h.own.eV;rw [Bo aL ba] at bM cz;subst bM;have b1:=C.nw b7;refine e<|aI (FR cH b1 hm (sn g) ag) U ?_;rintro c4 dp ⟨rfl,cj⟩;exact ar 6 U<|aE U<|⟨U,yQ cj⟩
 exact aB 9 U<|aE U<|⟨U,⟨_,_,_,_,_,_,_,_,_,_,_,_,_,_,_,_,C,ag⟩⟩
end Go.Hb
end
section
namespace Go.Hb.Ce
open Go.Hb.o3 Go.Hb.vu Go.Hb.nU Go.Hb.o6 Go.Hb.qL Go.Hb.sY Go.Hb.vt Go.Hb.yM
theorem vj.form {s:List UInt8} {w w':ai} {v:ah} (h:vj s w v w'):∃ I,v= .tuple #[.pointer I,.bool true]∧((I=none∧Wk w w')∨(∃ wD bw kb b B1 A cs7,I=some ⟨bw,0,none⟩∧cD s= .ok b∧Wk w wD∧ez wD B1 kb b s∧jc wD A cs7 b∧lZ wD w' bw kb cs7 0)):=by
 rcases h with ⟨_,C,E⟩ | ⟨wD,bw,kb,b,B1,A,cs7,C,E,J,L,M,O⟩
 · exact ⟨none,C,.inl ⟨U,E⟩⟩
 · exact ⟨_,E,.inr ⟨wD,bw,kb,b,B1,A,cs7,U,C,J,L,M,O⟩⟩
theorem OH (s:List UInt8) (ops:List mS) (a:Option aW) (cap:Nat) (w:ai) (aR:dY 544 pT w) (a4:s.length≤1048576) (am:sZ w.heap a ops) (a9:(ops.map kT).sum≤1048575):
 aZ aq 3 (bd [str s,.slice a ops.length cap]) w (fun v w'=>v= .bool true∧Wk w w'):=by
 have bb:=Oq ops;refine enter func3 U ntmps3 U<|aP 8 U<|e<|aI (Rj w aR) U ?_;rintro v9 a6 ⟨rfl,ae⟩;refine aC 3 U<|cf (U)<|az 4 U<|p mv<|e<|aI (Ke s a6 a4) U fun bf bi aO=> ?_;obtain ⟨au,rfl,ap⟩:=vj.form aO;refine p mv<|aj 2 U<|p aU<|aj 6 U<|p mv<|p (iM QN U U)<|aj 1 U<|gb (t:=18) U (fun C=> ?_) fun C=> ?_;obtain rfl :au=none:=by cases au; rfl; cases C
 obtain ⟨_,aK⟩:=ap.resolve_right fun ⟨_,_,_,_,_,_,_,h,_⟩=>by cases h
 exact ar 14 U<|aE U<|⟨U,ae.trans aK⟩
 obtain ⟨wD,bw,kb,b,B1,a7,cs7,rfl,ao,aM,ad,ac,aV⟩:=ap.resolve_left fun ⟨h,_⟩=>by rw [h] at C; cases C
 have J:=ae.trans aM;refine aC 5 U<|cf (U)<|az 5 U<|p mv<|aC 5 U<|lp (fun ab av I=> ∃ (i:Nat),(i≤ops.length)∧(lZ wD I bw kb cs7 i)∧(Sl av [(5,aA bw),(23,.slice a ops.length cap),(24,aQ (ops.length)),(25,aQ i)])∧(ops.length - i=ab)) _ ⟨0,ag,aV,U,U⟩ ?_;rintro ab av I ⟨i,hi,an,a5,rfl⟩;refine bE a5<|bV 6 U<|cd U (fun a1=> ?_) fun a1=> ?_;refine bD 5 U ?_;obtain ⟨V,Z,aw,aS,a2⟩:=am.st i ag;have a3:=Oo (ops:=ops) (i:=i) ag;obtain ⟨bl,bs,vb,g,n,hist,gz,cs,xr,la,lb,va,vc,vk,vals,bck,A,M⟩:=an;have ak:=J.trans A.wk;refine az 1 U<|p (bZ L7 U U ag<|(am.wk ak).ok ag)<|p (eZ Cn U (U)<|QE ak aw)<|e<|fK RN fun aa bn a8 al ax=> ?_;have bc:=al.size;refine e<|fG Lk U U U U ax (by simp) fun E aN ay=> ?_;have aF:aD E.heap aa [bh .i64 (ops.getD i eW).1,.slice V (ops.getD i eW).2.1.length Z,str (ops.getD i eW).2.2]:=⟨_,ay⟩
 have aL:Wk I E:=al.md.trans' aN fun k ba h=>by omega
 refine aj 5 U<|p (eZ Cn U (U) (show ∀ j,j < 3→aH E.heap aa (0 +j)=([bh .i64 (ops.getD i eW).1,.slice V (ops.getD i eW).2.1.length Z,str (ops.getD i eW).2.2]:List ah)[j]? from fun j _=>aF.aG j))<|e<|aI (Hm E (A.nw aL) M ag ad ac ao (ops.getD i eW).1 (ops.getD i eW).2.1 V Z (ops.getD i eW).2.2 (aS.wk J) a2 ag (fun x O=>Nat.le_trans (a3.2.2 x O) ag) ag) U ?_;rintro v31 bj ⟨rfl,aX⟩;exact aC 3 U<|cf (U)<|az 4 U<|p (bW<|i+1)<|ar 2 U<|tn<|⟨_,ag,i+1,ag,aX,U,U⟩
 refine aB 2 U<|cj<|dT 3 U ?_;obtain ⟨bl,bs,vb,g,n,hist,gz,cs,xr,la,lb,va,vc,vk,vals,bck,A,M⟩:=an;refine az 2 U<|p (dZ (ps:= [(0,.int .i64 5)]) (L:= [.int .i64 5,.slice none 0 0,.string ⟨⟨[]⟩⟩]) Qf U<|U)<|e<|aI (Hm I A M ag ad ac ao 5 [] none 0 [] (aT.nil _ _) aJ aJ (fun x O=>by cases O) aJ) U ?_;rintro bg bm ⟨rfl,aY⟩;refine ar 4 U<|aE U ?_;obtain ⟨_,_,vb,g,n,hist,gz,cs,xr,la,lb,va,vc,vk,vals,bck,a0,_⟩:=aY;exact ⟨U,J.trans a0.wk⟩
end Go.Hb.Ce
end
