/-
  Walks and plain laws that the law rests on, laid together. No conditions but those that each theorem names.
-/
import Derived.Test.YtchkamdekbbgeaaGreatDoorMnAnalyseCounts3
set_option linter.unusedVariables false
set_option maxRecDepth 20000
set_option maxHeartbeats 1000000
open Array renaming getElem?_eq_some_iff→bT
open Bool renaming eq_iff_iff→p8,noConfusion→c7
open Classical renaming not_not→mI
open Go.Proofs.Tryz renaming prog→ao
open Go.Value renaming bool→bU,int→fL,slice→bC,tuple→j8
open Go.Value.slice renaming injEq→ma
open Go.World renaming ownsRow→bq,ownsRow_nil→eh
open List renaming append_assoc→ea,append_nil→eu,count_eq_zero→qg,count_le_length→sR,count_pos_iff→yb,drop_drop→yc,drop_eq_nil_of_le→lK,drop_succ_cons→uZ,drop_take→yd,drop_zero→u6,eq_nil_of_length_eq_zero→gq,flatMap_append→q8,flatMap_singleton→sS,getD_cons_zero→mJ,getD_eq_getElem?_getD→cU,getElem?_eq_getElem→bX,idxOf_lt_length_iff→vb,length→mL,length_append→bJ,length_cons→bS,length_drop→gI,length_map→e9,length_nil→gJ,length_replicate→nL,length_singleton→iG,length_take→eE,map_append→gV,map_take→JH,mem_append→iW,mem_singleton→gK,replicate→jM,take→rj,take_of_length_le→fu,take_succ_cons→sZ,take_zero→pB,toArray→a7
open Nat renaming add_le_add_left→JV,le_refl→cj,le_trans→dS,lt_or_ge→jk,zero_add→fN
open UInt8 renaming toNat_inj→rp,toNat_lt→jN
open Go.Proofs.Tryz
open Go.Hb.dI Go.Proofs Go.Hb.fw Go.Hb.ez

namespace Go.Hb
theorem Qy {kind:Nat} {s:List UInt8} (h:kind=1∧s.length=1∧iz (s.getD 0 0)=true):eN kind s=(s.getD 0 0).toNat:=by unfold eN; rw [if_pos h.1,if_pos h.2]
theorem QA {kind:Nat} {s:List UInt8} (h:kind=2∧s.length=2∧iz (s.getD 0 0)=true∧iz (s.getD 1 0)=true):eN kind s=256 *(s.getD 0 0).toNat+(s.getD 1 0).toNat:=by unfold eN; rw [if_neg ab,if_pos h.1,if_pos h.2]
theorem QB {kind:Nat} {s:List UInt8} (h:kind=3):eN kind s=(fH s 65535).1:=by unfold eN; rw [if_neg ab,if_neg ab]
theorem Qx {kind:Nat} {s:List UInt8} (h:kind=1∨kind=2) (h1:¬(kind=1∧s.length=1∧iz (s.getD 0 0)=true)) (h2:¬(kind=2∧s.length=2∧iz (s.getD 0 0)=true∧iz (s.getD 1 0)=true)):eN kind s=0:=by
 unfold eN
 rcases h with h | h
 · rw [if_pos h,if_neg (fun h3=>h1 ⟨h,h3⟩)]
 · rw [if_neg ab,if_pos h,if_neg (fun h3=>h2 ⟨h,h3⟩)]
theorem R7 {c:UInt8} {l:List UInt8} (h:0 < l.count c):¬eB c l < 0:=by
 intro h1
 exact F6 h1<|vb.2<|yb.1 h
theorem UL (n:Nat) (x:List UInt8):jM n (str x)=(jM n x).map str:=by rw [List.map_replicate]
theorem HF {c:List (List UInt8)} {m:Nat} {x:List UInt8} (h:0 < m):((c++jM m []).map str).set c.length (str x)=((c++ [x])++jM (m - 1) []).map str:=by
 obtain ⟨m,rfl⟩:∃ k,m=k+1:=⟨m - 1,ab⟩
 rw [← List.map_set,List.set_append_right _ _ (cj _),Nat.sub_self,List.replicate_succ,List.set_cons_zero,Nat.add_sub_cancel,ea]; rfl
theorem P9 {kind:Nat} {ps:List (List UInt8)} {i:Nat} (h:i < ps.length) (h1:¬∃ x∈ps.take i,eN kind x=0) (h2:eN kind (ps.getD i [])≠0):¬∃ x∈ps.take (i+1),eN kind x=0:=by
 rw [k8 ps i [] h]
 rintro ⟨x,c,h3⟩
 rcases iW.1 c with c | c
 · exact h1 ⟨x,c,h3⟩
 · rw [gK] at c; subst c; exact h2 h3
theorem FG {α:Type} {l:List α} {i:Nat} {d:α} (h:i < l.length):l.getD i d∈l:=by
 rw [cU,bX h]; exact List.getElem_mem h
theorem E8 (kind:Nat) (s:List UInt8) (w:World) (hk:kind=1∨kind=2∨kind=3) (hs:s.length≤1048576):
 bf ao 238 (a7 [aj kind,str s]) w (fun v w'=>v=aX (eN kind s)∧Wk w w'):=by
 refine enter func238 aa ntmps238 aa<|ak fun am=>ay<|am<|aB fun an=>az ?_
 refine e8 (fun G al=> ∃ (O:Bool),(O=decide (kind=1∧s.length=1∧iz (s.getD 0 0)=true))∧(Wk w al)∧(G 0=aj kind)∧(G 1=str s)∧(G 7= .bool O)) ?_ ?_
 refine rg aa<|au (aj kind)<|p (cx aa aa)<|p mv<|gs (t:=10) aa (fun aI=> ?_) fun aI=> ?_
 refine a6 aa (aH (str s) aa)<|a6 aa (dC u9 aa aa)<|a6 aa (cx aa aa)<|p (bO aa)<|p mv<|gs (t:=15) aa (fun aJ=> ?_) fun aJ=> ?_
 refine a6 aa (aH (str s) aa)<|a6 aa (nj 0 u9 aa aa ab)<|eg aa aa aa<|cl y4 (Bt (s.getD 0 0) _) aa fun aW aZ aA=> ?_
 obtain ⟨rfl,aq⟩:=aA
 exact p (bO aa)<|p aE<|nl<|tn<|⟨iz (s.getD 0 0),(by rw [p8,decide_eq_true_iff]; exact ⟨fun h=>⟨ab,ab,h⟩,fun h=>h.2.2⟩),aq,aa,aa,aa⟩
 exact aT aa<|aT aa<|aT aa<|p (bG aa)<|p aE<|nl<|tn<|⟨false,((decide_eq_false fun h=>by omega).symm),(Md.refl _ _),aa,aa,aa⟩
 exact aT aa<|aT aa<|aT aa<|p (bG aa)<|p mv<|aT aa<|aT aa<|aT aa<|p (bG aa)<|p aE<|nl<|tn<|⟨false,((decide_eq_false fun h=>by omega).symm),(Md.refl _ _),aa,aa,aa⟩
 rintro G al ⟨O,ah,A,aN,aO,aP⟩
 refine fx 0 aN<|fx 1 aO<|fx 7 aP<|cb aa (fun Z=> ?_) fun Z=> ?_
 have ac:kind=1∧s.length=1∧iz (s.getD 0 0)=true :=of_decide_eq_true<|ah ▸ Z
 exact ak fun C=>au (str s)<|p (nj 0 u9 aa aa ab)<|p (n2 xI uI aa<|sF<|by have :=jN (s.getD 0 0); omega)<|ay<|C<|rt<|br<|tr<|a8 aa<|⟨by rw [Qy ac]; rfl,A⟩
 have ac:¬(kind=1∧s.length=1∧iz (s.getD 0 0)=true):=of_decide_eq_false<|ah ▸ Z
 refine e8 (fun I wB=> ∃ (V:Bool),(V=decide (kind=2∧s.length=2∧iz (s.getD 0 0)=true∧iz (s.getD 1 0)=true))∧(Wk w wB)∧(I 0=aj kind)∧(I 1=str s)∧(I 23= .bool V)) ?_ ?_
 refine rg aa<|au (aj kind)<|p (cx aa aa)<|p mv<|gs (t:=26) aa (fun aL=> ?_) fun aL=> ?_
 refine a6 aa (aH (str s) aa)<|a6 aa (dC u9 aa aa)<|a6 aa (cx aa aa)<|p (bO aa)<|p mv<|gs (t:=31) aa (fun aM=> ?_) fun aM=> ?_
 refine a6 aa (aH (str s) aa)<|a6 aa (nj 0 u9 aa aa ab)<|eg aa aa aa<|cl y4 (Bt (s.getD 0 0) _) aa fun aY a0 aC=> ?_
 obtain ⟨rfl,ae⟩:=aC
 refine p (bO aa)<|p mv<|gb (t:=36) aa (fun E=> ?_) fun E=> ?_
 refine a6 aa (aH (str s) aa)<|a6 aa (nj 1 u9 aa aa ab)<|eg aa aa aa<|cl y4 (Bt (s.getD 1 0) _) aa fun v39 a1 aD=> ?_
 obtain ⟨rfl,av⟩:=aD
 exact p (bO aa)<|p aE<|nl<|tn<|⟨iz (s.getD 1 0),(by rw [p8,decide_eq_true_iff]; exact ⟨fun h=>⟨ab,ab,E,h⟩,fun h=>h.2.2.2⟩),(Md.trans A<|Md.trans ae av),aa,aa,aa⟩
 exact aT aa<|aT aa<|aT aa<|p (bG aa)<|p aE<|nl<|tn<|⟨false,((decide_eq_false fun h=>by rw [h.2.2.1] at E; cases E).symm),(Md.trans A ae),aa,aa,aa⟩
 exact aT aa<|aT aa<|aT aa<|p (bG aa)<|p mv<|aT aa<|aT aa<|aT aa<|p (bG aa)<|p aE<|nl<|tn<|⟨false,((decide_eq_false fun h=>by omega).symm),A,aa,aa,aa⟩
 exact aT aa<|aT aa<|aT aa<|p (bG aa)<|p mv<|aT aa<|aT aa<|aT aa<|p (bG aa)<|p mv<|aT aa<|aT aa<|aT aa<|p (bG aa)<|p aE<|nl<|tn<|⟨false,((decide_eq_false fun h=>by omega).symm),A,aa,aa,aa⟩
 rintro I wB ⟨V,ai,A,aQ,aS,aU⟩
 refine fx 0 aQ<|fx 1 aS<|fx 23 aU<|cb aa (fun Y=> ?_) fun Y=> ?_
 have ad:kind=2∧s.length=2∧iz (s.getD 0 0)=true∧iz (s.getD 1 0)=true :=of_decide_eq_true<|ai ▸ Y
 have g0:=jN<|s.getD 0 0
 have g1:=jN<|s.getD 1 0
 refine aB fun C=> ?_
 have c:(fun w'=>Wk wB w') wB.drew:=(Md.refl _ _).drew
 exact bR (fun w'=>Wk wB w') aa wide c<|bY 0 aa (str s) c<|aK 1 aa (fun _ _=>nj 0 u9 aa aa ab) c<|aK 2 aa (fun _ _=>n2 xI uI aa<|sF ab) c<|aK 3 aa (fun _ _=>shl aa aa aw<|Vk g0) c<|bY 4 aa (str s) c<|aK 5 aa (fun _ _=>nj 1 u9 aa aa ab) c<|aK 6 aa (fun _ _=>n2 xI uI aa<|sF ab) c<|aK 7 aa (fun _ _=>Db aa aa<|TT g0 g1) c<|aK 8 aa (fun _ _=>aE) c<|hn ag<|C<|rt<|br<|tr<|a8 aa<|⟨by rw [QA ad]; rfl,A.drew⟩
 have ad:¬(kind=2∧s.length=2∧iz (s.getD 0 0)=true∧iz (s.getD 1 0)=true):=of_decide_eq_false<|ai ▸ Y
 refine ak fun C=>au (aj kind)<|p (cx aa aa)<|ay<|C<|cd aa (fun aG=> ?_) fun aG=> ?_
 refine ak fun J=>au (str s)<|e<|cl vH (wX s 65535 _ hs aw) aa fun v54 a2 aF=> ?_
 obtain ⟨rfl,ax⟩:=aF
 have aV:=TD s
 exact p mv<|p (xt aa aa)<|p (xt aa aa)<|p aE<|ay<|J<|aB fun ap=>rg aa<|p mv<|p (n2 xI sA aa<|sF ab)<|ay<|ap<|rt<|br<|tr<|a8 aa<|⟨by rw [QB ab]; rfl,Md.trans A ax⟩
 exact aR<|bn<|an<|ak fun J=>ay<|J<|rt<|a8 aa<|⟨by rw [Qx ab ac ad]; rfl,A⟩
theorem TQ (kind:Nat) (s:List UInt8) (w:World) (hk:kind=1∨kind=2∨kind=3) (hs:s.length≤1048576):
 bf ao 233 (a7 [aj kind,str s]) w (fun v w'=>v= .tuple #[aX (iS kind s).1,aj ((iS kind s).2)]∧Wk w w'):=by
 refine enter func233 aa ntmps233 aa<|ak fun E=>p aE<|ay<|E<|aB fun G=>aB fun I=>rg aa<|au (aj kind)<|e<|cl DH (Gb kind _) aa fun ad ag Z=> ?_
 obtain ⟨rfl,C⟩:=Z
 refine p (no aa)<|nl<|I<|cf (by rw [decide_eq_true ab]; rfl)<|aR<|G<|ak fun J=>au (aj kind)<|au (str s)<|e<|cl DI (E8 kind s _ hk hs) aa fun v12 ae Y=> ?_
 obtain ⟨rfl,A⟩:=Y
 refine ay<|J<|aB fun O=>ak fun V=>p mv<|p (cx aa aa)<|nl<|V<|cd aa (fun ac=> ?_) fun ac=> ?_
 exact ak fun c=>p aE<|ay<|c<|rt<|tr<|f2 aa aa aa<|⟨by unfold iS; rw [if_pos (show eN kind s=0 by omega)]; rfl,Md.trans C A⟩
 exact aR<|O<|ak fun c=>p mv<|p aE<|p aE<|nl<|c<|rt<|f2 aa aa aa<|⟨by unfold iS; rw [if_neg (show ¬eN kind s=0 by omega)]; rfl,Md.trans C A⟩
theorem Ou (s:List UInt8) (c:UInt8) (w:World):
 bf ao 298 (a7 [str s,str [c]]) w (fun v w'=>v=aj (s.count c)∧Wk w w'):=by
 refine enter func298 aa ntmps298 aa<|ak fun A=>ay<|A<|aB fun C=>ak fun E=>au (str [c])<|p (dC u9 aa aa)<|p (cx aa aa)<|nl<|E<|cd aa (fun h=>absurd h<|by simp) fun V=>aR<|C<|aB fun J=>ak fun G=>au (str [c])<|p (dC u9 aa aa)<|p (cx aa aa)<|nl<|G<|cd aa (fun O=> ?_) fun h=>absurd aa h
 exact ak fun I=>au (str s)<|au (str [c])<|p (nj 0 u9 aa aa<|by simp)<|p (Ef (N9 s c _) aa)<|p aE<|nl<|I<|rt<|tr<|a8 aa<|⟨aa,Md.refl _ _⟩
theorem Q4 (s:List UInt8) (w:World) (hs:s.length≤1048576):
 bf ao 280 (a7 [str s,str [44],.int .i64 0,.int .i64 (-1)]) w (fun v w'=>bq w' w.heap.size 9 1 (v) (gT 44 [] s).length ((gT 44 [] s).map str)∧Wk w w'):=by
 have bk:=sR (a:=(44:UInt8)) (l:=s)
 have a6:=By 44 s []
 refine enter func280 aa ntmps280 aa<|ak fun ai=>ay<|ai<|aB fun aC=>ak fun aD=>au (.int .i64<|-1)<|p (cx aa aa)<|nl<|aD<|cd aa (fun h=>absurd h aw) fun bg=>aR<|aC<|aB fun aF=>ak fun aH=>au (str [44])<|p (jD aa aa)<|nl<|aH<|cd aa (fun h=>absurd h<|by simp) fun bh=> ?_
 refine aR<|aF<|aB fun aI=>ak fun aJ=>au (.int .i64<|-1)<|p (lt aa aa)<|nl<|aJ<|cd aa (fun bi=> ?_) fun h=>absurd aw h
 refine rg aa<|au (str s)<|au (str [44])<|e<|cl MD (Ou s 44 _) aa fun v23 br aS=> ?_
 obtain ⟨rfl,ad⟩:=aS
 refine p (bK ((s.count 44 +1:Nat):Int) aa aa<|bl ab ab)<|ay<|aI<|ak fun aK=>p mv<|au (str s)<|p (dC u9 aa aa)<|p (bK ((s.length+1:Nat):Int) aa aa<|bl ab ab)<|p (mn aa aa)<|ay<|aK<|ak fun aL=>p mv<|e<|Tm (n:=s.count 44 +1) (zv:=str []) kp Xs aa (show fL .i64 (min ((s.count 44 +1:Nat):Int) ((s.length+1:Nat):Int))=_ from iv ab) (show fL .i64 (min ((s.count 44 +1:Nat):Int) ((s.length+1:Nat):Int))=_ from iv ab) ab (by unfold maxLen; omega) fun G bs bd aQ aX=> ?_
 have ae:=aX w.heap.size<|by have :=ad.size; omega
 rw [UL] at ae
 refine ay<|aL<|ak fun al=>p mv<|p (dz ((s.count 44:Nat):Int) aa aa<|bl ab ab)<|p aE<|nl<|al<|ak fun am=>ay<|am<|aB fun an=>az<|lp (fun Z A Y=> ∃ (i:Nat) (C:List (List UInt8)) (r:List UInt8),(C.length=i)∧(r.count 44 +i=s.count 44∧r.length≤s.length)∧(C++gT 44 [] r=gT 44 [] s)∧(bq Y w.heap.size 9 1 (.slice (some ⟨G,0,none⟩) (s.count 44 +1)<|s.count 44 +1) (s.count 44 +1)<|(C++jM (s.count 44 +1 - i) []).map str)∧(Wk w Y)∧(A 0=str r)∧(A 1=str [44])∧(A 2= .int .i64 0)∧(A 3=aj (s.count 44))∧(A 9= .slice (some ⟨G,0,none⟩) (s.count 44 +1) (s.count 44 +1))∧(A 10=aj i)∧(r.length=Z)) _ ⟨0,[],s,aa,(ab),aa,ae,(Md.trans ad aQ.md),aa,aa,aa,aa,aa,aa,aa⟩ ?_
 rintro Z A Y ⟨i,C,r,hi,bo,hd,E,ac,a0,a1,a3,a4,a5,a2,rfl⟩
 refine fx 0 a0<|fx 1 a1<|fx 2 a3<|fx 3 a4<|fx 9 a5<|fx 10 a2 ?_
 have bp:=sR (a:=(44:UInt8)) (l:=r)
 refine aB fun ap=>ak fun aq=>au (aj i)<|au (aj<|s.count 44)<|p (lt aa aa)<|nl<|aq<|cd aa (fun aU=> ?_) fun aU=> ?_
 refine aR<|ap<|az<|ak fun J=>au (str r)<|au (str [44])<|e<|cl ME (RS r 44 _) aa fun v39 bt aT=> ?_
 obtain ⟨rfl,I⟩:=aT
 refine ay<|J<|aB fun O=>ak fun av=>p mv<|p (lt aa aa)<|nl<|av<|cd aa (fun h=>absurd h<|R7 ab) fun aV=>aR<|O<|aB fun ax=> ?_
 have ag:=r8 (c:=(44:UInt8)) (l:=r) aV
 have bm:[(44:UInt8)].length=1:=rfl
 refine rg aa<|au (.slice (some ⟨G,0,none⟩) (s.count 44 +1)<|s.count 44 +1)<|au (aj i)<|au (str r)<|p mv<|au (.int .i64 0)<|p (bK ((r.idxOf 44:Nat):Int) aa aa<|bl ab ab)<|p (sr u9 aa aa ab)<|p (bc ec aa aa ab<|aG.ok ((aY<|ba E I).2)<|c8<|by rw [bJ,nL]; omega)<|e<|su (j:=i) (u:=str<|r.take<|r.idxOf 44) (ba E I) oP aa aa aa ab ab fun a9 aO ah=> ?_
 have aM:Wk w a9:=Wk.own (Md.trans ac I) (ba E I) aO<|cj _
 rw [← hi,HF ab,hi] at ah
 exact nl<|ax<|ak fun aA=>au (str r)<|p mv<|au (str [44])<|p (dC u9 aa aa)<|p (bK ((r.idxOf 44 +1:Nat):Int) aa aa<|bl ab ab)<|p (o0 u9 aa aa ab)<|ay<|aA<|rg aa<|au (aj i)<|p (bK ((i+1:Nat):Int) aa aa<|bl ab ab)<|p aE<|nl<|bn<|tn<|⟨_,by rw [gI]; omega,i+1,C++ [r.take (r.idxOf 44)],r.drop (r.idxOf 44 +1),(by rw [bJ,hi]; rfl),(by have :=OP ag.2; rw [gI]; omega),(by rw [ea,← hd,HN 44 r [] ag.2]; rfl),(by rw [show s.count 44 +1 - (i+1)=s.count 44 +1 - i - 1 by omega]; exact ah),aM,aa,aa,aa,aa,aa,aa,aa⟩
 refine ext<|bj<|bj<|be<|an<|ak fun J=>au (.slice (some ⟨G,0,none⟩) (s.count 44 +1)<|s.count 44 +1)<|au (aj i)<|au (str r)<|p (bc ec aa aa ab<|aG.ok ((aY E).2)<|c8<|by rw [bJ,nL]; omega)<|e<|su (j:=i) (u:=str r) E oP aa aa aa ab ab fun bb aP V=> ?_
 have aN:Wk w bb:=Wk.own ac E aP<|cj _
 rw [← hi,HF ab,hi] at V
 refine nl<|J<|ak fun O=>au (.slice (some ⟨G,0,none⟩) (s.count 44 +1)<|s.count 44 +1)<|au (aj i)<|p (bK ((i+1:Nat):Int) aa aa<|bl ab ab)<|p (ux ec aa aa ab)<|ay<|O<|rt<|a8 aa ?_
 have aZ:¬(44:UInt8)∈r:=fun h=>by have :=yb.2 h; omega
 have aW:C++ [r]=gT 44 [] s:=by rw [← hd,VG 44 r [] aZ]; rfl
 rw [show s.count 44 +1 - i - 1=0 by omega,List.replicate_zero,eu,aW] at V
 exact ⟨by rw [a6,show s.count 44 +1=i+1 by omega] at*; exact V,aN⟩
theorem VY (s:List UInt8) (w:World) (hs:s.length≤1048576):
 bf ao 264 (a7 [str s,str [44]]) w (fun v w'=>bq w' w.heap.size 9 1 (v) (gT 44 [] s).length ((gT 44 [] s).map str)∧Wk w w'):=by
 exact enter func264 aa ntmps264 aa<|ak fun c=>ay<|c<|ak fun A=>au (str s)<|au (str [44])<|e<|cl Mr (Q4 s _ hs) aa fun E G C=>ay<|A<|rt<|a8 aa<|C
theorem Um (kind:Nat) (s:List UInt8) (w:World) (hk:kind=1∨kind=2∨kind=3) (hs:s.length≤1048576):
 bf ao 237 (a7 [aj kind,str s]) w (fun v w'=>bq w' w.heap.size 9 1 (v) (eD kind s).length ((eD kind s).map str)∧Wk w w'):=by
 refine enter func237 aa ntmps237 aa<|ak fun ad=>ay<|ad<|aB fun ae=>ak fun ag=>au (aj kind)<|p (cx aa aa)<|nl<|ag<|cd aa (fun aA=> ?_) fun aA=> ?_
 refine ak fun E=>au (str s)<|e<|cl Mp (VY s _ hs) aa fun v10 aS aw=>ay<|E<|rt<|tr<|a8 aa ?_
 unfold eD; rw [if_pos ab]; exact aw
 refine aR<|ae<|ak fun E=>ay<|E<|aB fun ah=>ak fun ai=>ay<|ai<|az<|lp (fun V C O=> ∃ (i:Nat) (c:List (List UInt8)) (A:Value),(i≤s.length+kind∧c.length≤i)∧(c++chunks kind (s.drop i)=chunks kind s)∧(bq O w.heap.size 9 1 (A) (c).length<|(c).map str)∧(Wk w O)∧(C 0=aj kind)∧(C 1=str s)∧(C 5=A)∧(C 6=aj i)∧(s.length - i=V)) _ ⟨0,[],.slice none 0 0,(by simp),aa,(eh _ _ _ _),(Md.refl _ _),aa,aa,aa,aa,aa⟩ ?_
 rintro V C O ⟨i,c,A,hi,hd,J,Y,aH,aI,aJ,aK,rfl⟩
 refine fx 0 aH<|fx 1 aI<|fx 5 aJ<|fx 6 aK<|aB fun al=>ak fun am=>au (aj i)<|au (str s)<|p (dC u9 aa aa)<|p (lt aa aa)<|nl<|am<|cd aa (fun ax=> ?_) fun ax=> ?_
 have aD:s.drop i≠[]:=fun h=>by have :=congrArg mL h; rw [gI,gJ] at this; omega
 refine aR<|al<|aB fun G=>az<|rg aa<|au (A)<|au (str s)<|au (aj i)<|au (aj i)<|au (aj kind)<|p (bK ((i+kind:Nat):Int) aa aa<|bl ab ab)<|au (str s)<|p (dC u9 aa aa)<|p (mn aa aa)<|p (uz u9 aa aa aa ab)<|e<|lk kp aa aa fun aN aM aO I an=> ?_
 have Z:Wk w aM:=Md.trans Y I.md
 refine e<|ap kp (ba J I.md) aa (by have :=Z.size; omega) aa (aG.gl an) (aa) (aa) ab ab fun aL aT ac av aQ aP=> ?_
 have aq:=Wk.own Z (ba J I.md) av<|cj _
 rw [No] at ac
 have aF:=A8 ac
 exact p aE<|nl<|bn<|G<|rg aa<|au (aj i)<|au (aj kind)<|p (bK ((i+kind:Nat):Int) aa aa<|bl ab ab)<|p aE<|nl<|tn<|⟨_,ab,i+kind,c++ [(s.drop i).take kind],aL,(by rw [bJ,iG]; omega),(by rw [← hd,zh (k:=kind) ab aD,ea,yc]; rfl),aF,aq,aa,aa,aa,aa,aa⟩
 refine ext<|bj<|bj<|be<|ah<|ak fun G=>au (A)<|p (cg (A) aa)<|nl<|G<|rt<|a8 aa ?_
 have aC:c=eD kind s:=by unfold eD; rw [if_neg ab,← hd,lK ab,zi,eu]
 exact ⟨by rw [← aC]; exact J,Y⟩
theorem FC (kind:Nat) (s:List UInt8) (w:World) (hk:kind=1∨kind=2∨kind=3) (hs:s.length≤1048576):
 bf ao 200 (a7 [aj kind,str s]) w (fun v w'=>(∃ a,v= .tuple #[a,aj ((e5 kind s).2)]∧bq w' w.heap.size 95 1 a (e5 kind s).1.length ((e5 kind s).1.map aX))∧Wk w w'):=by
 refine enter func200 aa ntmps200 aa<|ak fun aH=>p aE<|ay<|aH<|aB fun aM=>aB fun aN=>rg aa<|au (aj kind)<|e<|cl DH (Gb kind _) aa fun v11 bD a4=> ?_
 obtain ⟨rfl,aw⟩:=a4
 refine p (no aa)<|nl<|aN<|cf (by rw [decide_eq_true ab]; rfl)<|aR<|aM<|aB fun aO=>aB fun aP=>rg aa<|au (str s)<|p (jD aa aa)<|nl<|aP<|cd aa (fun E=> ?_) fun E=> ?_
 exact ak fun ai=>p aE<|ay<|ai<|rt<|tr<|f2 aa aa aa<|⟨⟨.slice none 0 0,by unfold e5; rw [if_pos E]; rfl,by unfold e5; rw [if_pos E]; exact eh _ _ _ _⟩,aw⟩
 refine aR<|aO<|ak fun ai=>ay<|ai<|aB fun aQ=>ak fun aS=>au (aj kind)<|au (str s)<|e<|cl Mh (Um kind s _ hk hs) aa fun v17 O a5=> ?_
 obtain ⟨aC,aZ⟩:=a5
 obtain ⟨aU,aV,rfl⟩:=c5 aC
 have aA:=(aY aC).2
 have bB:=Uk (kind:=kind) (s:=s) ab
 have Z:Wk w O:=Md.trans aw aZ
 refine p (bP gU aa aa)<|p mv<|nl<|aS<|az<|lp (fun av C aq=> ∃ (i:Nat) (Y:Value),(i≤(eD kind s).length)∧(¬∃ x∈(eD kind s).take i,eN kind x=0)∧(bq aq O.heap.size 95 1 Y (((eD kind s).take i).map<|eN kind).length<|(((eD kind s).take i).map<|eN kind).map aX)∧(Wk O aq)∧(C 0=aj kind)∧(C 1=str s)∧(C 6=Y)∧(C 17= .slice aU (eD kind s).length aV)∧(C 18=aj ((eD kind s).length))∧(C 19=aj i)∧((eD kind s).length - i=av)) _ ⟨0,.slice none 0 0,ab,(by rintro ⟨x,bt,_⟩; simp at bt),(eh _ _ _ _),(Md.refl _ _),aa,aa,aa,aa,aa,aa,aa⟩ ?_
 rintro av C aq ⟨i,Y,hi,I,J,A,bi,bk,bp,bl,bm,bo,rfl⟩
 refine fx 0 bi<|fx 1 bk<|fx 6 bp<|fx 17 bl<|fx 18 bm<|fx 19 bo ?_
 have bA:(((eD kind s).take i).map<|eN kind).length≤i:=by rw [e9,eE]; omega
 refine ak fun aT=>p (lt aa aa)<|nl<|aT<|aB fun aI=>cd aa (fun a9=> ?_) fun a9=> ?_
 refine aR<|aI<|aB fun ag=>az<|ak fun ah=>p (bc ec aa aa ab<|aG.ok (aA.wk A)<|c8 ab)<|p (ld cR aa<|dE.get (i:=i) (aA.wk A) ab)<|ay<|ah<|ak fun G=>au (aj kind)<|p mv<|e<|cl DI (E8 kind ((eD kind s).getD i []) _ hk<|by have :=Ul (kind:=kind) ab (FG (d:= []) (show i < (eD kind s).length by omega)); omega) aa fun v25 bE a6=> ?_
 obtain ⟨rfl,ac⟩:=a6
 refine ay<|G<|aB fun aJ=>ak fun aK=>p mv<|p (cx aa aa)<|nl<|aK<|cd aa (fun bb=> ?_) fun bb=> ?_
 refine ak fun aL=>p aE<|ay<|aL<|rt<|tr<|br<|tr<|tr<|br<|tr<|f2 aa aa aa ?_
 have c:e5 kind s=([],31):=by unfold e5; rw [if_neg E,if_pos ⟨_,FG (d:= []) (show i < (eD kind s).length by omega),ab⟩]
 exact ⟨⟨.slice none 0 0,by rw [c]; rfl,by rw [c]; exact eh _ _ _ _⟩,Md.trans Z<|Md.trans A ac⟩
 refine aR<|aJ<|rg aa<|au (Y)<|p mv<|e<|lk xv aa aa fun bw bu bx am aW=> ?_
 have ax:Wk O bu:=Md.trans (Md.trans A ac) am.md
 refine e<|ap xv (ba (ba J ac) am.md) aa (by have :=ax.size; omega) aa (aG.gl aW) (aa) (aa) ab ab fun v31 bv bg a3 bC bz=> ?_
 have a0:=Wk.own ax (ba (ba J ac) am.md) a3<|cj _
 have bh:bq bv O.heap.size 95 1 v31 (((eD kind s).take<|i+1).map<|eN kind).length ((((eD kind s).take<|i+1).map<|eN kind).map aX):=by
  rw [k8 _ i [] ab,gV,bJ,gV]; exact bg
 exact p aE<|nl<|bn<|ag<|rg aa<|p (ad aa aa<|cz ab)<|p mv<|nl<|tn<|⟨_,ab,i+1,v31,ab,(P9 ab I ab),bh,a0,aa,aa,aa,aa,aa,aa,aa⟩
 refine ext<|bj<|bj<|be<|aQ<|aB fun ag=>aB fun ah=> ?_
 obtain ⟨V,al,rfl⟩:=c5 J
 have bs:(((eD kind s).take i).map<|eN kind).length=(eD kind s).length:=by rw [e9,eE]; omega
 have ae:(eD kind s).take i=(eD kind s):=fu ab
 have bd:V=none→(((eD kind s).take i).map<|eN kind).length=0:=fun h=>by obtain ⟨a2,c2,aF,_,_,h3⟩:=Rd.kL J; simp only [ma] at aF; exact h3<|aF.1 ▸ h
 refine rg aa<|au (.slice V (((eD kind s).take i).map<|eN kind).length al)<|p (bP oq aa aa)<|p (gt aa aa)<|nl<|ah<|cd aa (fun an=> ?_) fun an=> ?_
 refine ak fun G=>p aE<|ay<|G<|rt<|tr<|f2 aa aa aa ?_
 rw [ae] at I bs
 have c:e5 kind s=([],32):=by unfold e5; rw [if_neg E,if_neg I,if_pos (by rw [ae,e9] at an; omega)]
 exact ⟨⟨.slice none 0 0,by rw [c]; rfl,by rw [c]; exact eh _ _ _ _⟩,Md.trans Z A⟩
 refine aR<|ag<|ak fun G=>au (.slice V (((eD kind s).take i).map<|eN kind).length al)<|e<|cl DC (wY (((eD kind s).take i).map<|eN kind) V al _ (aY J).2 bd<|by rw [e9,eE] at*; omega) aa fun v37 bF a8=> ?_
 obtain ⟨aD,a1⟩:=a8
 refine p aE<|ay<|G<|rt<|f2 aa aa aa ?_
 rw [ae] at I aD
 have c:e5 kind s=(kZ ((eD kind s).map<|eN kind),0):=by unfold e5; rw [if_neg E,if_neg I,if_neg (by rw [ae,e9] at an; omega)]
 exact ⟨⟨v37,by rw [c]; rfl,by rw [c]; exact fj aD<|by have :=Z.size; have :=A.size; omega⟩,Md.trans Z<|Md.trans A a1⟩
theorem Ag (b:UInt8) (w:World):
 bf ao 191 (a7 [.int .u8 b.toNat]) w (fun v w'=>v= .bool (qF b)∧Wk w w'):=by
 refine enter func191 aa ntmps191 aa<|ak fun A=>ay<|A<|ak fun c=>au (.int .u8 b.toNat)<|p (cx aa aa)<|p mv<|gs (t:=5) aa (fun C=> ?_) fun C=> ?_
 exact aT aa<|aT aa<|p (bO aa)<|ay<|c<|rt<|a8 aa<|⟨by show bU true =_; rw [FE,decide_eq_true (.inl ab)],Md.refl _ _⟩
 exact a6 aa (aH (.int .u8 b.toNat) aa)<|a6 aa (cx aa aa)<|p (bG aa)<|ay<|c<|rt<|a8 aa<|⟨by show bU (decide ((b.toNat:Int)=9))=_; rw [FE]; exact congrArg bU (decide_eq_decide.2 ab),Md.refl _ _⟩
theorem Qg (l:List UInt8) (w:World) (bt:l.length≤1048576):
 bf ao 126 (a7 [str l]) w (fun v w'=>bq w' w.heap.size 9 1 v (dM [] l).length ((dM [] l).map str)∧Wk w w'):=by
 refine enter func126 aa ntmps126 aa<|ak fun aJ=>ay<|aJ<|ak fun aL=>p aE<|nl<|aL<|ak fun aM=>ay<|aM<|aB fun aN=>ak fun aO=>au (str l)<|p (dC u9 aa aa)<|p mv<|nl<|aO<|az<|lp (fun aF V aC=> ∃ (i:Nat) (c:Int) (Y:List UInt8) (A:List (List UInt8)) (v:Value),(i≤l.length)∧(kz l i c Y)∧(A++dM Y (l.drop i)=(dM [] l))∧(Wk w aC)∧(bq aC w.heap.size 9 1 v (A).length<|(A).map str)∧(V 0=str l)∧(V 3=v)∧(V 4= .int .i64 c)∧(V 7= .int .i64 l.length)∧(V 8= .int .i64 i)∧(l.length - i=aF)) _ ⟨0,-1,[],[],.slice none 0 0,ab,kz.no,aa,(Md.refl _ _),(eh _ _ _ _),aa,aa,aa,aa,aa,aa⟩ ?_
 rintro aF V aC ⟨i,c,Y,A,v,hi,J,hd,ae,al,bb,bc,bd,bg,bh,rfl⟩
 refine fx 0 bb<|fx 3 bc<|fx 4 bd<|fx 7 bg<|fx 8 bh ?_
 have bp:A.length≤l.length+1:=by have h1:=congrArg mL hd; have h2:=zW l []; rw [bJ] at h1; omega
 refine ak fun aP=>p (lt aa aa)<|nl<|aP<|aB fun aQ=>cd aa (fun a2=> ?_) fun a2=> ?_
 refine aR<|aQ<|aB fun C=>az<|ak fun aq=>au (.int .i64 i)<|p (cg (.int .i64 i) aa)<|nl<|aq<|az<|ak fun O=>au (str l)<|au (.int .i64 i)<|p (kj u9 aa aa ab)<|e<|cl yU (Ag (l.getD i 0) _) aa fun bx bi aZ=> ?_
 obtain ⟨rfl,aI⟩:=aZ
 have ag:Wk w bi:=Md.trans ae aI
 have bu:=ag.size
 have am:=ba al aI
 refine p mv<|gb (t:=16) aa (fun G=> ?_) fun G=> ?_
 refine a6 aa (aH (.int .i64 c) aa)<|a6 aa (ge aa aa)<|p (bO aa)<|ay<|O<|cd aa (fun a0=> ?_) fun a0=> ?_
 obtain ⟨aK,ac,aA⟩:=J.pos ab
 refine ak fun I=>au (v)<|au (str l)<|au (.int .i64 c)<|au (.int .i64 i)<|p (uz u9 aa aa aa ab)<|e<|lk kp aa aa fun bk bz bm ai aS=>e<|ap kp (ba am ai.md) aa (by have :=ai.size; omega) aa (aG.gl aS) (aa) (aa) ab ab fun v26 bA a3 aX bv br=> ?_
 have aV:=Wk.own (Md.trans ag ai.md) (ba am ai.md) aX<|cj _
 have a4:=A8 a3
 exact ay<|I<|rg aa<|p aE<|nl<|bn<|bn<|C<|rg aa<|p (ad aa aa<|cz ab)<|p mv<|nl<|tn<|⟨_,ab,i+1,-1,[],A++ [(l.take i).drop c.toNat],v26,ab,kz.no,(by rw [drop_cons 0 ab,QJ G aA,ac] at hd; rw [ea]; exact hd),aV,a4,aa,aa,aa,aa,aa,aa⟩
 refine ak fun I=>au (str l)<|au (.int .i64 i)<|p (kj u9 aa aa ab)<|e<|cl yU (Ag (l.getD i 0) _) aa fun v31 aD av=> ?_
 obtain ⟨rfl,Z⟩:=av
 have ah:Wk w aD:=Md.trans ag Z
 have an:=ba am Z
 refine p (no aa)<|p mv<|gb (t:=33) aa (fun E=> ?_) fun E=> ?_
 refine a6 aa (aH (.int .i64 c) aa)<|a6 aa (lt aa aa)<|p (bO aa)<|ay<|I<|cd aa (fun aw=> ?_) fun aw=> ?_
 refine rg aa<|au (.int .i64 i)<|p (cg (.int .i64 i) aa)<|nl<|bn<|bn<|C<|rg aa<|p (ad aa aa<|cz ab)<|p mv<|nl<|tn ?_
 rw [G] at E; cases E
 refine aR<|bn<|bn<|C<|rg aa<|p (ad aa aa<|cz ab)<|p mv<|nl<|tn ?_
 rw [G] at E; cases E
 exact aT aa<|aT aa<|p (bG aa)<|ay<|I<|cf aa<|aR<|bn<|bn<|C<|rg aa<|p (ad aa aa<|cz ab)<|p mv<|nl<|tn<|⟨_,ab,i+1,c,Y,A,v,ab,(by obtain ⟨h1,h2⟩:=J.neg ab; subst h1 h2; exact kz.no),(by obtain ⟨h1,h2⟩:=J.neg ab; subst h2; rw [drop_cons 0 ab,QI G] at hd; exact hd),ah,an,aa,aa,aa,aa,aa,aa⟩
 refine aT aa<|aT aa<|p (bG aa)<|ay<|O<|cf aa<|aB fun I=>rg aa<|au (str l)<|au (.int .i64 i)<|p (kj u9 aa aa ab)<|e<|cl yU (Ag (l.getD i 0) _) aa fun v31 aD av=> ?_
 obtain ⟨rfl,Z⟩:=av
 have ah:Wk w aD:=Md.trans ag Z
 have an:=ba am Z
 refine p (no aa)<|p mv<|gb (t:=33) aa (fun E=> ?_) fun E=> ?_
 refine a6 aa (aH (.int .i64 c) aa)<|a6 aa (lt aa aa)<|p (bO aa)<|ay<|I<|cd aa (fun aw=> ?_) fun aw=> ?_
 exact rg aa<|au (.int .i64 i)<|p (cg (.int .i64 i) aa)<|nl<|bn<|bn<|C<|rg aa<|p (ad aa aa<|cz ab)<|p mv<|nl<|tn<|⟨_,ab,i+1,i,[l.getD i 0],A,v,ab,(kz.begin ab),(by obtain ⟨h1,h2⟩:=J.neg ab; subst h2; rw [drop_cons 0 ab,Fh G] at hd; exact hd),ah,an,aa,aa,aa,aa,aa,aa⟩
 exact aR<|bn<|bn<|C<|rg aa<|p (ad aa aa<|cz ab)<|p mv<|nl<|tn<|⟨_,ab,i+1,c,Y++ [l.getD i 0],A,v,ab,(J.more ab ab),(by rw [drop_cons 0 ab,Fh G] at hd; exact hd),ah,an,aa,aa,aa,aa,aa,aa⟩
 refine aT aa<|aT aa<|p (bG aa)<|ay<|I<|cf aa<|aR<|bn<|bn<|C<|rg aa<|p (ad aa aa<|cz ab)<|p mv<|nl<|tn ?_
 rw [G] at E; cases E
 refine ext<|bj<|bj<|be<|aN<|aB fun C=>ak fun aq=>au (.int .i64 c)<|p (ge aa aa)<|nl<|aq<|cd aa (fun a1=> ?_) fun a1=> ?_
 obtain ⟨aK,ac,aA⟩:=J.pos ab
 refine rg aa<|au (v)<|au (str l)<|au (.int .i64 c)<|p (o0 u9 aa aa ab)<|e<|lk kp aa aa fun bl bB bo aj aU=>e<|ap kp (ba al aj.md) aa (by have :=aj.size; have :=ae.size; omega) aa (aG.gl aU) (aa) (aa) ab ab fun v46 bC a5 aY bw bs=> ?_
 have aW:=Wk.own (Md.trans ae aj.md) (ba al aj.md) aY<|cj _
 have a9:=A8 a5
 refine ay<|C<|ak fun O=>p mv<|p aE<|nl<|O<|rt<|a8 aa ?_
 have ax:A++ [l.drop c.toNat]=(dM [] l):=by rw [← hd,show l.drop i= [] from lK ab,QK aA,ac,fu ab]
 exact ⟨by rw [← ax]; exact a9,aW⟩
 obtain ⟨aK,ac⟩:=J.neg ab
 refine aR<|C<|ak fun O=>au (v)<|p (cg (v) aa)<|nl<|O<|rt<|a8 aa ?_
 have ax:A=(dM [] l):=by rw [← hd,lK ab,ac,QL,eu]
 exact ⟨by rw [← ax]; exact al,ae⟩
theorem RH {l:List Tx} {x:Tx} :∀ {i:Nat},i < l.length→(∀ j,j < i→l.getD j []≠x)→l.getD i []=x→l.idxOf x=i:=by
 induction l with
 | nil=>intro i h; simp at h
 | cons a l E=>
   intro i hi C c
   cases i with
   | zero=>simp only [mJ] at c; rw [c,List.idxOf_cons_self]
   | succ i=>
     have A:=C 0 ab
     simp only [mJ] at A
     rw [List.idxOf_cons,show (a==x)=false from by simpa using A,cond_false,E (i:=i) (by simpa using hi) (fun j G=>by have :=C (j+1) ab; simpa using this) (by simpa using c)]
theorem P5 {a b:List Tx} (h:a.length≠b.length):a≠b:=fun h2=>h<|by rw [h2]
theorem Q7 {a b:List Tx} {i:Nat} (h:a.getD i []≠b.getD i []):a≠b:=fun h2=>h<|by rw [h2]
theorem Q5 {a b:List Tx} (c:a.length=b.length) (h:∀ i,i < a.length→a.getD i []=b.getD i []):a=b:=by
 apply List.ext_getElem c
 intro i h1 h2
 have :=h i h1
 rw [cU,cU,bX h1,bX h2] at this
 exact this
theorem Wd {s:Tx} {i:Nat} (h:i < s.length):(s.drop i).take 1= [s.getD i 0]:=by
 rw [drop_cons 0 h]; rfl
theorem Io (b:UInt8):o5 [b]=iR b:=by
 unfold o5 hU
 cases h:iR b <;> simp [h]
theorem HL {s:Tx} {i:Nat} (h:i < s.length):(s.take<|i+1).drop i= [s.getD i 0]:=by
 rw [yd,show i+1 - i=1 from by omega,Wd h]
theorem E1 {s:Tx} (h:s= []∨hU s=false):ib s=21:=if_pos h
theorem Qp {s:Tx} (h:s≠[]) (h1:hU s=true) (h2:32 < s.length):ib s=22:=by unfold ib; rw [if_neg (by rw [h1]; simp [h]),if_pos h2]
theorem Qq {s:Tx} (h:s≠[]) (h1:hU s=true) (h2:¬32 < s.length):ib s=0:=by unfold ib; rw [if_neg (by rw [h1]; simp [h]),if_neg h2]
theorem Uj {s:Tx} (h:s= [48]):ga true s= .ok []:=by unfold ga; rw [if_pos ⟨rfl,h⟩]
theorem G8 {s:Tx} (h:s≠[48]):ga true s=ga false s:=by unfold ga; simp [h]
theorem Ue {s:Tx} (h:(bD s).2.2.2≠0):ga false s= .error (bD s).2.2.2:=by unfold ga; rw [if_neg (fun h2=>by cases h2.1),if_pos h]
theorem Uf {s:Tx} (h:(bD s).2.2.2=0) (h1:(bD s).2.2.1=true):ga false s= .error 114:=by unfold ga; rw [if_neg (fun h2=>by cases h2.1),if_neg (fun h2=>h2 h),if_pos h1]
theorem Ug {s:Tx} (h:(bD s).2.2.2=0) (h1:(bD s).2.2.1=false) (h2:ib (bD s).1≠0):ga false s= .error (ib (bD s).1):=by unfold ga; rw [if_neg (fun h2=>by cases h2.1),if_neg (fun h2=>h2 h),if_neg (by rw [h1]; simp),if_pos h2]
theorem Uh {s:Tx} (h:(bD s).2.2.2=0) (h1:(bD s).2.2.1=false) (h2:ib (bD s).1=0):ga false s= .ok (bD s).1:=by unfold ga; rw [if_neg (fun h2=>by cases h2.1),if_neg (fun h2=>h2 h),if_neg (by rw [h1]; simp),if_neg (fun h3=>h3 h2)]
theorem wW {s:Tx} {most:Int} (h:(fH s most).2=0):eH s most= .ok (fH s most).1:=by unfold eH; rw [if_neg (fun h2=>h2 h)]
theorem wV {s:Tx} {most:Int} (h:(fH s most).2≠0):eH s most= .error 13∧(fH s most).2=13:=by
 refine ⟨by unfold eH; rw [if_pos h],?_⟩
 rcases GQ s most with h1 | ⟨h1,_⟩
 · rw [h1]
 · rw [h1] at h; exact absurd rfl h
theorem FY (l:List Tx) (a:Option Addr) (c:Nat) (x:Tx) (w:World) (J:dE w.heap a l) (aA:l.length≤1048576):
 bf ao 192 (a7 [.slice a l.length c,str x]) w (fun v w'=>v= .int .i64 (if x∈l then (l.idxOf x:Nat) else -1:Int)∧w'=w):=by
 refine enter func192 aa ntmps192 aa<|ak fun Y=>ay<|Y<|aB fun Z=>ak fun ac=>au (.slice a l.length c)<|p (bP gU aa aa)<|p mv<|nl<|ac<|az<|lp (fun I A V=> ∃ (i:Nat),(i≤l.length)∧(∀ j,j < i→l.getD j []≠x)∧(V=w)∧(A 0= .slice a l.length c)∧(A 1=str x)∧(A 7=aj (l.length))∧(A 8=aj i)∧(l.length - i=I)) _ ⟨0,ab,(fun j O=>by omega),aa,aa,aa,aa,aa,aa⟩ ?_
 rintro I A V ⟨i,hi,G,am,ap,aq,av,aw,rfl⟩
 refine fx 0 ap<|fx 1 aq<|fx 7 av<|fx 8 aw ?_
 subst am
 refine ak fun ae=>p (lt aa aa)<|nl<|ae<|aB fun ag=>cd aa (fun an=> ?_) fun an=> ?_
 refine aR<|ag<|aB fun E=>az<|ak fun ah=>au (aj i)<|p (cg (aj i) aa)<|nl<|ah<|ak fun ai=>au (str x)<|au (.slice a l.length c)<|au (aj i)<|p (bc ec aa aa ab<|aG.ok (J)<|c8 ab)<|p (ld cR aa<|dE.get (i:=i) J ab)<|p (jD aa aa)<|nl<|ai<|cd aa (fun C=> ?_) fun C=> ?_
 exact ak fun al=>au (aj i)<|p (cg (aj i) aa)<|nl<|al<|rt<|br<|tr<|tr<|br<|tr<|a8 aa<|⟨by rw [if_pos (by rw [C]; exact e6 ab),RH ab G C.symm]; rfl,aa⟩
 exact aR<|bn<|E<|rg aa<|p (ad aa aa<|cz ab)<|p mv<|nl<|tn<|⟨_,ab,i+1,ab,(fun j O=>by rcases jk j i with h | h <;> first | exact G j h | (rw [show j=i by omega]; exact fun h2=>C h2.symm)),aa,aa,aa,aa,aa,aa⟩
 exact ext<|bj<|bj<|be<|Z<|ak fun E=>p aE<|nl<|E<|rt<|a8 aa<|⟨by rw [if_neg (fun h=>by obtain ⟨j,O,ax⟩:=oY [] h; exact G j ab ax)]; rfl,aa⟩
theorem P6 (l m:List Tx) (C G:Nat) (a b:Option Addr) (c d:Nat) (w:World) (ae:dE w.heap a l) (ah:dE w.heap b m) (aP:l.length=C) (aQ:m.length=G) (aO:C≤1048576):
 bf ao 234 (a7 [.slice a C c,.slice b G d]) w (fun v w'=>v= .bool (decide (l=m))∧Wk w w'):=by
 refine enter func234 aa ntmps234 aa<|ak fun am=>ay<|am<|aB fun aq=>ak fun av=>au (.slice a C c)<|p (bP gU aa aa)<|au (.slice b G d)<|p (bP gU aa aa)<|p (gF aa aa)<|nl<|av<|cd aa (fun aD=> ?_) fun aD=> ?_
 exact ak fun O=>ay<|O<|rt<|tr<|a8 aa<|⟨by show bU false =_; rw [decide_eq_false (P5 ab)],Md.refl _ _⟩
 have aH:l.length=m.length:=ab
 refine aR<|aq<|aB fun O=>ak fun aw=>au (.slice a C c)<|p (bP gU aa aa)<|p mv<|nl<|aw<|az<|lp (fun ac J I=> ∃ (i:Nat),(i≤C)∧(∀ j,j < i→l.getD j []=m.getD j [])∧(Wk w I)∧(J 0= .slice a C c)∧(J 1= .slice b G d)∧(J 12=aj C)∧(J 13=aj i)∧(C - i=ac)) _ ⟨0,ab,(fun j ai=>by omega),(Md.refl _ _),aa,aa,aa,aa,aa⟩ ?_
 rintro ac J I ⟨i,hi,al,E,aI,aL,aM,aN,rfl⟩
 refine fx 0 aI<|fx 1 aL<|fx 12 aM<|fx 13 aN<|ak fun ax=>p (lt aa aa)<|nl<|ax<|aB fun aA=>cd aa (fun aF=> ?_) fun aF=> ?_
 refine aR<|aA<|aB fun V=>az<|ak fun aC=>au (aj i)<|p (cg (aj i) aa)<|nl<|aC<|aB fun an=> ?_
 have A:(fun w'=>Wk I w') I.drew:=(Md.refl _ _).drew
 refine bR (fun w'=>Wk I w') aa wide A<|bY 0 aa (.slice a C c) A<|bY 1 aa (aj i) A<|aK 2 aa (fun _ _=>bc ec aa aa ab<|aG.ok (ae.wk E)<|c8 ab) A<|aK 3 aa (fun w' Y=>ld cR aa<|Wk.aJ Y<|dE.get (i:=i) (ae.wk E) ab) A<|bY 4 aa (.slice b G d) A<|bY 5 aa (aj i) A<|aK 6 aa (fun _ _=>bc ec aa aa ab<|aG.ok (ah.wk E)<|c8 ab) A<|aK 7 aa (fun w' Y=>ld cR aa<|Wk.aJ Y<|dE.get (i:=i) (ah.wk E) ab) A<|aK 8 aa (fun _ _=>um aa aa) A<|hn ag<|an<|cd aa (fun Z=> ?_) fun Z=> ?_
 exact ak fun ap=>ay<|ap<|rt<|br<|tr<|tr<|br<|tr<|a8 aa<|⟨by show bU false =_; rw [decide_eq_false (Q7 Z)],E.drew⟩
 exact aR<|bn<|V<|rg aa<|p (ad aa aa<|cz ab)<|p mv<|nl<|tn<|⟨_,ab,i+1,ab,(fun j ai=>by rcases jk j i with h | h <;> first | exact al j h | (rw [show j=i by omega]; exact mI.1 Z)),E.drew,aa,aa,aa,aa,aa⟩
 exact ext<|bj<|bj<|be<|O<|ak fun V=>p aE<|nl<|V<|rt<|a8 aa<|⟨by show bU true =_; rw [decide_eq_true (Q5 aH fun j ai=>al j ab)],E⟩
theorem oc (rb ln:Nat) (e:Int) (w:World) (E:Hb.aJ w.heap rb 2=some (.int .i64 (ln:Nat))):
 eK ao 135 (a7 [.pointer (some ⟨rb,0,none⟩),.int .i64 e]) w (fun v w'=>v=j8 #[]∧e=0∧w'=w) (fun c w'=>c=ir 45 ln e∧e≠0∧w'=w):=by
 refine jz func135 aa ntmps135 aa<|sq fun G A=>rg aa<|p (aH (.int .i64 e) aa)<|p (gF aa aa)<|nl<|tn<|A _ _<|cd aa (fun C=> ?_) fun C=> ?_
 exact rg aa<|p (aH (.pointer<|some ⟨rb,0,none⟩) aa)<|p (nc aa)<|p (fa tT aa)<|p (ld bH aa<|E)<|p (aH (.int .i64 e) aa)<|p (du (ps:= [(0,.int .i64 1),(1,.int .i64 (ln:Nat)),(2,.int .i64 e)]) (L:= [.int .i64 1,.int .i64 (ln:Nat),.int .i64 e]) ss aa<|aa)<|p (Tl AM aa)<|Uo aa fun J I=>⟨aa,ab,aa⟩
 refine aR<|ja<|f0 aa ?_
 exact ⟨aa,ab,aa⟩
theorem gE (rb ln:Nat) (b:Bool) (e:Int) (w:World) (I:Hb.aJ w.heap rb 2=some (.int .i64 (ln:Nat))) (he:e≠0):
 eK ao 75 (a7 [.pointer (some ⟨rb,0,none⟩),.bool b,.int .i64 e]) w (fun v w'=>v=j8 #[]∧b=true∧w'=w) (fun c w'=>c=ir 45 ln e∧b=false∧w'=w):=by
 refine jz func75 aa ntmps75 aa<|sq fun J E=>rg aa<|p (aH (.bool b) aa)<|p (no aa)<|nl<|tn<|E _ _<|cb aa (fun A=> ?_) fun A=> ?_
 refine rg aa<|p (aH (.pointer<|some ⟨rb,0,none⟩) aa)<|p (aH (.int .i64 e) aa)<|eP aa (dj nY (oc rb ln e w I) aa fun v10 V G=> ?_) fun c w' C Y O=>⟨C.1,by simpa using A,C.2.2⟩
 exact absurd G.2.1 he
 refine aR<|ja<|f0 aa ?_
 exact ⟨aa,by simpa using A,aa⟩
theorem HZ (B:Nat) (H:cw) (F:aC) (R:gu) (n:Nat) (r:List Tx) (rest:List Rw) (ln:Nat) (seen:List Tx) (w:World) (c:cB w B H F R ((n,r)::rest) ln seen):
 bf ao 74 (a7 [aU H.rb]) w (fun v w'=>(∃ R',cB w' B H F R' rest n seen)∧Tg w' B 9 r.length v (r.map str)∧Md (fun k=>k=H.rb) w w'):=by
 obtain ⟨vr,vs,vn⟩:=R
 obtain ⟨a,cp,aH⟩:=c.rws.slice
 obtain rfl :vr= .slice a (rest.length+1) cp:=aH
 obtain ⟨q,vs,rfl⟩:∃ q G,vs=q::G:=by
  cases vs with
  | nil=>exact absurd c.rt.1<|by simp
  | cons q G=>exact ⟨q,G,rfl⟩
 obtain ⟨C,aI⟩:=q
 obtain ⟨aF,ac⟩:=c.rt.2 0 (C,aI) (n,r) rfl rfl
 obtain rfl :C=n:=aF
 obtain ⟨an,ap,rfl⟩:=ac.slice
 have ad:rest.length+1≤cp∧aG w.heap a (l6 ((C,.slice an r.length ap)::vs)):=c.rws.cells
 have A:=c.cells
 have aN:H.rb < w.heap.size:=(bT.1 A).1
 refine enter func74 aa ntmps74 aa<|ak fun ae=>ay<|ae<|ak fun ag=>au (aU H.rb)<|p (nc aa)<|p (fa tS aa)<|p (ld rB aa<|(aV A).trans aa)<|p (bc rU aa aa ab<|aG.ok (ad.2)<|xj<|by simp)<|p (cE vu aa (aa)<|xk (i:=0) ad.2 aa)<|e<|al IJ fun aL aO aM V av=> ?_
 have aD:=V.md.az A
 refine e<|dd Eo aa aa aa aa (av) (by simp) fun aQ I aq=> ?_
 have Z:=I.az aD fun h=>by omega
 refine nl<|ag<|ak fun ah=>au (aU H.rb)<|au (aU H.rb)<|p (nc aa)<|p (fa tS aa)<|p (ld rB aa<|(aV Z).trans aa)<|p (uy rU aa aa ab)<|p (nc aa)<|p (fa tS aa)<|e<|bW En aa aa (v:= .slice (fD a cp 1 2) rest.length<|cp - 1) aa Z (by show _ < 7; decide) fun aP J ax=> ?_
 have Y:=J.B aq fun h=>by omega
 refine nl<|ah<|ak fun ai=>au (aU H.rb)<|p (fa wj aa)<|p (ld bH aa<|(Y.aJ 0).trans aa)<|p (nc aa)<|p (fa tT aa)<|e<|bW eZ aa aa (v:=aj C) aa ax (by show _ < 7; decide) fun aK O aA=> ?_
 have aB:=O.B Y fun h=>by omega
 refine nl<|ai<|ak fun am=>p (fa tU aa)<|p (ld mS aa<|(aB.aJ 1).trans aa)<|p aE<|nl<|am<|rt<|a8 aa ?_
 have E:Md (fun k=>k=H.rb) w aK:=(((V.md.mono fun _ _ h=>h.elim).trans' I fun k hk h=>by omega).trans' J fun _ _ h=>h).trans' O fun _ _ h=>h
 exact ⟨⟨⟨.slice (fD a cp 1 2) rest.length (cp - 1),vs,vn⟩,c.c6 (R':=⟨.slice (fD a cp 1 2) rest.length (cp - 1),vs,vn⟩) E aA aa (c.rws.rT (m:=2)<|(Hu _).trans<|by have :=c.rt.1; simp at this; simp [this])<|ik.tl c.rt⟩,ac.md E (im A aw),E⟩
theorem Ap (B:Nat) (H:cw) (F:aC) (R:gu) (rows:List Rw) (ln:Nat) (seen:List Tx) (hd:List Tx) (am C:Nat) (G:Option Addr) (I:Nat) (w:World) (V:cB w B H F R rows ln seen) (hH:Tg w am 9 C (.slice G C I) (hd.map str)) (Y:hd.length=C) (aZ:C≤1000) (aM:∀ q∈rows,q.2.length≤70000):
 eK ao 197 (a7 [.pointer (some ⟨H.rb,0,none⟩),.slice G C I]) w (fun v w'=> ∃ n r rest,rows=(n,r)::rest∧r.take hd.length=hd∧(∃ R',cB w' B H F R' rest n seen)∧Tg w' B 9 r.length v (r.map str)∧Md (fun k=>k=H.rb) w w') (fun c w'=>((rows= []∧c=ir 45 H.eof 116)∨(∃ n r rest,rows=(n,r)::rest∧r.take hd.length≠hd∧c=ir 45 n 116))∧Md (fun k=>k=H.rb) w w'):=by
 obtain ⟨a,cp,aN⟩:=V.rws.slice
 have ae:=V.cells
 have ag:=V.cells
 unfold uu at ae
 rw [aN] at ae
 refine jz func197 aa ntmps197 aa<|sq fun aT ay=>rg aa<|p aE<|nl<|tn<|ay _ _<|sq fun aU az=>sq fun aW aA=>rg aa<|p (aH (.pointer<|some ⟨H.rb,0,none⟩) aa)<|p (nc aa)<|p (fa tS aa)<|p (ld rB aa<|(aV ae).trans aa)<|p (bP xG aa aa)<|p (cx aa aa)<|nl<|tn<|aA _ _<|cd aa (fun ak=> ?_) fun ak=> ?_
 obtain rfl :rows= []:=gq ab
 refine sq fun an Z=>rg aa<|p (aH (.pointer<|some ⟨H.rb,0,none⟩) aa)<|p (aH (.pointer<|some ⟨H.rb,0,none⟩) aa)<|p (nc aa)<|p (fa QR aa)<|p (ld bH aa<|(aV ag).trans aa)<|p (nc aa)<|p (fa tT aa)<|e<|bW eZ aa aa (v:= .int .i64 (H.eof:Nat)) aa ag (by show _ < 7; decide) fun aS aB au=>nl<|tn<|Z _ _<|rg aa<|p (aH (.pointer<|some ⟨H.rb,0,none⟩) aa)<|eP aa (dj nY (oc H.rb H.eof 116 aS<|(aV au).trans aa) aa fun v20 a1 aD=> ?_) fun c w' A al ai=>⟨.inl ⟨aa,A.1⟩,A.2.2 ▸ aB⟩
 exact absurd aD.2.1 aw
 obtain ⟨q,rest,rfl⟩:∃ q rest,rows=q::rest:=by
  cases rows with
  | nil=>exact absurd rfl ak
  | cons q rest=>exact ⟨q,rest,rfl⟩
 obtain ⟨n,r⟩:=q
 refine aR<|tn<|az _ _<|sq fun an Z=>rg aa<|p (aH (.pointer<|some ⟨H.rb,0,none⟩) aa)<|e<|cl DX (HZ B H F R n r rest ln seen _ V) aa fun v22 aO aF=> ?_
 obtain ⟨⟨aq,O⟩,hT,J⟩:=aF
 obtain ⟨ar,cr,rfl⟩:=hT.slice
 have aK:=hT.dJ
 have a0:r.length≤70000:=aM (n,r)<|by simp
 have av:=hH.md J<|im ag aw
 have ax:=av.dJ
 have aY:=O.ej
 refine p aE<|nl<|tn<|Z _ _<|sq fun aX aj=>rg aa<|p (aH (.pointer<|some ⟨H.rb,0,none⟩) aa)<|p mv<|p (bP gU aa aa)<|p (aH (.slice G C I) aa)<|p (bP gU aa aa)<|p (ge aa aa)<|p mv<|gs (t:=29) aa (fun aL=> ?_) fun aL=> ?_
 refine pg aa aa aa mv<|pg aa aa aa (aH (.slice G C I) aa)<|pg aa aa aa (bP gU aa aa)<|pg aa aa aa (ux ec aa aa ab)<|pg aa aa aa (aH (.slice G C I) aa)<|eg aa aa aa<|cl Mg (P6 (r.take C) hd _ _ ar G cr I _ (by have :=aG.take aK.2 C; unfold dE; rw [JH]; exact this) ax.2 (by rw [eE]; omega) Y ab) aa fun v35 aP aI=> ?_
 obtain ⟨rfl,E⟩:=aI
 refine p (bO aa)<|eP aa (dj gz (gE H.rb n _ 116 aP (by first | exact O.ej | exact Wk.aJ E O.ej) aw) aa fun v37 aQ ad=> ?_) fun c w' A al ai=>⟨.inr ⟨n,r,rest,aa,(by rw [Y]; first | exact of_decide_eq_false A.2.1 | exact fun h=>by have :=congrArg mL h; rw [eE] at this; omega),A.1⟩,by rw [A.2.2]; first | exact J.trans' E (fun _ _ h=>h.elim) | exact J⟩
 obtain ⟨rfl,ah,rfl⟩:=ad
 exact nl<|tn<|aj _ _<|sq fun ap ac=>rg aa<|p mv<|p aE<|nl<|tn<|ac _ _<|rt<|ja<|f1 aa aa<|⟨n,r,rest,aa,(by rw [Y]; exact of_decide_eq_true ah),⟨aq,O.wk E⟩,hT.wk E,J.trans' E fun _ _ h=>h.elim⟩
 refine sk aa aa aa aa<|sk aa aa aa aa<|sk aa aa aa aa<|sk aa aa aa aa<|sk aa aa aa aa<|sk aa aa aa aa<|p (bG aa)<|eP aa (dj gz (gE H.rb n _ 116 aO (by first | exact O.ej | exact Wk.aJ E O.ej) aw) aa fun v37 aQ ad=> ?_) fun c w' A al ai=>⟨.inr ⟨n,r,rest,aa,(by rw [Y]; first | exact of_decide_eq_false A.2.1 | exact fun h=>by have :=congrArg mL h; rw [eE] at this; omega),A.1⟩,by rw [A.2.2]; first | exact J.trans' E (fun _ _ h=>h.elim) | exact J⟩
 obtain ⟨rfl,ah,rfl⟩:=ad
 exact nl<|tn<|aj _ _<|sq fun ap ac=>rg aa<|p mv<|p aE<|nl<|tn<|ac _ _<|rt<|ja<|f1 aa aa<|absurd ah aw
theorem xe (rb ln:Nat) (s:Tx) (most:Int) (w:World) (Y:Hb.aJ w.heap rb 2=some (.int .i64 (ln:Nat))) (hs:s.length≤1048576) (hm: -9223372036854775808≤most∧most≤9223372036854775807):
 eK ao 196 (a7 [.pointer (some ⟨rb,0,none⟩),str s,.int .i64 most]) w (fun v w'=> ∃ a,eH s most= .ok a∧v= .int .i64 (a:Nat)∧Wk w w') (fun c w'=> ∃ e,eH s most= .error e∧c=ir 45 ln e∧Wk w w'):=by
 refine jz func196 aa ntmps196 aa<|sq fun ac E=>rg aa<|p aE<|nl<|tn<|E _ _<|sq fun ad G=>rg aa<|p (aH (str s) aa)<|p (aH (.int .i64 most) aa)<|e<|cl vH (wX s most _ hs hm) aa fun v12 ab O=> ?_
 obtain ⟨rfl,C⟩:=O
 refine p mv<|p (xt aa aa)<|p (xt aa aa)<|p aE<|p aE<|nl<|tn<|G _ _<|sq fun ae I=>rg aa<|p (aH (.pointer<|some ⟨rb,0,none⟩) aa)<|p mv<|eP aa (dj nY (oc rb ln (fH s most).2 ab<|Wk.aJ C Y) aa fun v17 ai V=> ?_) fun c w' A aj ah=>⟨13,(wV A.2.1).1,(by rw [A.1,(wV A.2.1).2]; rfl),by rw [A.2.2]; exact C⟩
 obtain ⟨rfl,Z,rfl⟩:=V
 exact nl<|tn<|I _ _<|sq fun ag J=>rg aa<|p mv<|p aE<|nl<|tn<|J _ _<|rt<|ja<|f1 aa aa<|⟨_,wW Z,aa,C⟩
theorem A9 (rb ln:Nat) (s:Tx) (w:World) (al:Hb.aJ w.heap rb 2=some (.int .i64 (ln:Nat))) (hs:s.length≤1048576):
 eK ao 193 (a7 [.pointer (some ⟨rb,0,none⟩),str s]) w (fun v w'=>v= .tuple #[]∧hU s=true∧Wk w w') (fun c w'=>c=ir 45 ln 21∧hU s=false∧Wk w w'):=by
 refine jz func193 aa ntmps193 aa<|sq fun av Z=>rg aa<|p (aH (str s) aa)<|p (dC u9 aa aa)<|p mv<|nl<|tn<|Z _ _<|az<|lp (fun I A Y=> ∃ (i:Nat),(i≤s.length)∧(∀ j,j < i→iR (s.getD j 0)=true)∧(Wk w Y)∧(A 0= .pointer (some ⟨rb,0,none⟩))∧(A 1=str s)∧(A 6= .int .i64 (s.length:Nat))∧(A 7= .int .i64 (i:Nat))∧(s.length - i=I)) _ ⟨0,ab,(fun j J=>by omega),(Md.refl _ _),aa,aa,aa,aa,aa⟩ ?_
 rintro I A Y ⟨i,hi,O,C,am,an,ap,aq,rfl⟩
 refine fx 0 am<|fx 1 an<|fx 6 ap<|fx 7 aq<|sq fun ax ac=>rg aa<|p (lt aa aa)<|nl<|tn<|ac _ _<|sq fun ay ae=>cd aa (fun ak=> ?_) fun ak=> ?_
 refine aR<|tn<|ae _ _<|sq fun aA ag=>az<|sq fun aB ah=>rg aa<|p (aH (.int .i64 (i:Nat)) aa)<|p (cg (.int .i64 (i:Nat)) aa)<|nl<|tn<|ah _ _<|rg aa<|p (aH (.pointer<|some ⟨rb,0,none⟩) aa)<|p (aH (str s) aa)<|p (aH (.int .i64 (i:Nat)) aa)<|p (aH (.int .i64 (i:Nat)) aa)<|p (bK ((i+1:Nat):Int) aa aa<|bl ab ab)<|p (uz u9 aa aa aa ab)<|e<|cl Dm (Iq ((s.take<|i+1).drop i) _<|by rw [gI,eE]; omega) aa fun aD au ai=> ?_
 obtain ⟨rfl,E⟩:=ai
 refine eP aa (dj gz (gE rb ln _ 21 au (Wk.aJ (C.trans E) al) aw) aa fun v17 aE aj=> ?_) fun c w' G aF aC=>⟨G.1,vE (i:=i) ab (by have h:=G.2.1; rw [HL (by omega :i < s.length),Io] at h; exact h),by rw [G.2.2]; exact C.trans E⟩
 obtain ⟨rfl,V,rfl⟩:=aj
 rw [HL (by omega :i < s.length),Io] at V
 exact nl<|bn<|tn<|ag _ _<|rg aa<|p (ad aa aa<|cz ab)<|p mv<|nl<|tn<|⟨_,ab,i+1,ab,(fun j J=>by rcases jk j i with h | h <;> first | exact O j h | (rw [show j=i by omega]; exact V)),(C.trans E),aa,aa,aa,aa,aa⟩
 refine ext<|te _<|te _<|be<|ja<|f0 aa ?_
 exact ⟨aa,vF (fun j J=>O j ab),C⟩
theorem Hh (rb ln:Nat) (s:Tx) (w:World) (G:Hb.aJ w.heap rb 2=some (.int .i64 (ln:Nat))) (hs:s.length≤1048576):
 eK ao 235 (a7 [.pointer (some ⟨rb,0,none⟩),str s]) w (fun v w'=>v=str s∧ib s=0∧Wk w w') (fun c w'=>c=ir 45 ln (ib s:Nat)∧ib s≠0∧Wk w w'):=by
 refine jz func235 aa ntmps235 aa<|sq fun al Y=>rg aa<|p aE<|nl<|tn<|Y _ _<|sq fun am Z=>rg aa<|p (aH (.pointer<|some ⟨rb,0,none⟩) aa)<|p (aH (str s) aa)<|eP aa (dj yV (A9 rb ln s w G hs) aa fun ax ak ai=> ?_) (fun c w' A V I=>by have h:ib s=21:=E1 (.inr A.2.1); exact ⟨by rw [h]; exact A.1,by rw [h]; decide,A.2.2⟩)
 obtain ⟨rfl,O,C⟩:=ai
 refine nl<|tn<|Z _ _<|sq fun an ac=>rg aa<|p (aH (.pointer<|some ⟨rb,0,none⟩) aa)<|p (aH (str s) aa)<|p (um aa aa)<|eP aa (dj gz (gE rb ln _ 21 ak (Wk.aJ C G) aw) aa fun v11 aj ag=> ?_) (fun c w' A V I=>by have h:ib s=21:=E1 (.inl<|mI.1<|of_decide_eq_false A.2.1); exact ⟨by rw [h]; exact A.1,by rw [h]; decide,by rw [A.2.2]; exact C⟩)
 obtain ⟨rfl,E,rfl⟩:=ag
 have E:s≠[]:=of_decide_eq_true E
 refine nl<|tn<|ac _ _<|sq fun ap ad=>rg aa<|p (aH (.pointer<|some ⟨rb,0,none⟩) aa)<|p (aH (str s) aa)<|p (dC u9 aa aa)<|p (le aa aa)<|eP aa (dj gz (gE rb ln _ 22 aj (Wk.aJ C G) aw) aa fun av ay ah=> ?_) (fun c w' A V I=>by have au:=of_decide_eq_false A.2.1; have h:ib s=22:=Qp E O ab; exact ⟨by rw [h]; exact A.1,by rw [h]; decide,by rw [A.2.2]; exact C⟩)
 obtain ⟨rfl,J,rfl⟩:=ah
 have J:=of_decide_eq_true J
 exact nl<|tn<|ad _ _<|sq fun aq ae=>rg aa<|p (aH (str s) aa)<|p (cg (str s) aa)<|nl<|tn<|ae _ _<|rt<|ja<|f1 aa aa<|⟨aa,Qq E O ab,C⟩
theorem G9 (rb ln:Nat) (s:Tx) (w:World) (I:Hb.aJ w.heap rb 2=some (.int .i64 (ln:Nat))) (hs:s.length≤1048576):
 eK ao 198 (a7 [.pointer (some ⟨rb,0,none⟩),str s]) w (fun v w'=> ∃ a,ga false s= .ok a∧v=str a∧Wk w w') (fun c w'=> ∃ e,ga false s= .error e∧c=ir 45 ln e∧Wk w w'):=by
 refine jz func198 aa ntmps198 aa<|sq fun ap Y=>rg aa<|p aE<|nl<|tn<|Y _ _<|sq fun aq Z=>rg aa<|p (aH (str s) aa)<|e<|cl yS (BW s _ hs) aa fun v11 al ag=> ?_
 obtain ⟨rfl,C⟩:=ag
 have ay:=xP s
 refine p mv<|p (xt aa aa)<|p (xt aa aa)<|p (xt aa aa)<|p (xt aa aa)<|p aE<|p aE<|p aE<|p aE<|nl<|tn<|Z _ _<|sq fun au ac=>rg aa<|p (aH (.pointer<|some ⟨rb,0,none⟩) aa)<|p mv<|eP aa (dj nY (oc rb ln ((bD s).2.2.2:Nat) al<|Wk.aJ C I) aa fun az am ah=> ?_) fun c w' A O J=>⟨_,Ue (by have :=A.2.1; omega),A.1,by rw [A.2.2]; exact C⟩
 obtain ⟨rfl,E,rfl⟩:=ah
 have E:(bD s).2.2.2=0:=ab
 refine nl<|tn<|ac _ _<|sq fun av ad=>rg aa<|p (aH (.pointer<|some ⟨rb,0,none⟩) aa)<|p mv<|p (no aa)<|eP aa (dj gz (gE rb ln _ 114 am (Wk.aJ C I) aw) aa fun v22 an ai=> ?_) fun c w' A O J=>⟨_,Uf E (by simpa using A.2.1),A.1,by rw [A.2.2]; exact C⟩
 obtain ⟨rfl,G,rfl⟩:=ai
 have G:(bD s).2.2.1=false :=by simpa using G
 refine nl<|tn<|ad _ _<|sq fun ax ae=>rg aa<|p (aH (.pointer<|some ⟨rb,0,none⟩) aa)<|p mv<|eP aa (dj DG (Hh rb ln (bD s).1 an (Wk.aJ C I) ab) aa fun v25 aA aj=> ?_) fun c w' A O J=>⟨_,Ug E G A.2.1,A.1,C.trans A.2.2⟩
 obtain ⟨rfl,ak,V⟩:=aj
 exact p aE<|nl<|tn<|ae _ _<|rt<|ja<|f1 aa aa<|⟨_,Uh E G ak,aa,C.trans V⟩
theorem G7 (rb ln:Nat) (s:Tx) (w:World) (ab:Hb.aJ w.heap rb 2=some (.int .i64 (ln:Nat))) (hs:s.length≤1048576):
 eK ao 199 (a7 [.pointer (some ⟨rb,0,none⟩),str s]) w (fun v w'=> ∃ a,ga true s= .ok a∧v=str a∧Wk w w') (fun c w'=> ∃ e,ga true s= .error e∧c=ir 45 ln e∧Wk w w'):=by
 refine jz func199 aa ntmps199 aa<|sq fun ac I=>rg aa<|p aE<|nl<|tn<|I _ _<|sq fun ad J=>sq fun ae O=>rg aa<|p (aH (str s) aa)<|p (jD aa aa)<|nl<|tn<|O _ _<|cd aa (fun A=> ?_) fun A=> ?_
 exact sq fun E C=>rg aa<|p aE<|nl<|tn<|C _ _<|rt<|tr<|ja<|f1 aa aa<|⟨[],Uj A,aa,Md.refl _ _⟩
 refine aR<|tn<|J _ _<|sq fun E C=>rg aa<|p (aH (.pointer<|some ⟨rb,0,none⟩) aa)<|p (aH (str s) aa)<|eP aa (dj Dx (G9 rb ln s w ab hs) aa fun v9 ah Y=> ?_) fun c w' V ai ag=>by obtain ⟨e,he,h⟩:=V; exact ⟨e,by rw [G8 A]; exact he,h⟩
 obtain ⟨a,Z,rfl,G⟩:=Y
 exact p aE<|nl<|tn<|C _ _<|rt<|ja<|f1 aa aa<|⟨a,by rw [G8 A]; exact Z,aa,G⟩
theorem QT {kind:Nat} {s:Tx} (h:(iS kind s).2=0):(iS kind s).1≠0:=by
 unfold iS at h ⊢
 split
 · rename_i c; rw [if_pos c] at h; cases h
 · rename_i c; exact c
theorem QW {F:aC} {s:Tx} (h:(iS F.kind s).2≠0):iU F s= .error (iS F.kind s).2:=if_pos h
theorem QX {F:aC} {s:Tx} (h:(iS F.kind s).2=0) (h1:eA F (iS F.kind s).1=true):iU F s= .error 115:=by unfold iU; rw [if_neg (fun h2=>h2 h),if_pos h1]
theorem QY {F:aC} {s:Tx} (h:(iS F.kind s).2=0) (h1:eA F (iS F.kind s).1=false):iU F s= .ok (iS F.kind s).1:=by unfold iU; rw [if_neg (fun h2=>h2 h),if_neg (by rw [h1]; exact c7)]
theorem VC {F:aC} {rows:List Rw} {ln e:Nat} {r:List Tx} (h:iU F (r.getD 1 [])= .error e):j0 F rows ln r= .error (ln,e):=by unfold j0; rw [h]
theorem VD {F:aC} {rows:List Rw} {ln x:Nat} {r:List Tx} (h:iU F (r.getD 1 [])= .ok x):j0 F rows ln r= .ok ({F with sp:=F.sp.set (gn.idxOf<|r.getD 0 []) x},rows):=by unfold j0; rw [h]
def od:List Tx:= [jV,km,kI,kX,lz,jb,jd,dF]
theorem G2 (hs:List Tx):ordered hs=true↔∀ k∈od,k∉hs:=by
 unfold ordered
 rw [Bool.not_eq_true',List.any_eq_false]
 have hm:∀ k,k∈od↔(k∈gn∨k=jb∨k=jd∨k=dF):=by
  intro k
  simp only [od,gn,List.mem_cons,List.not_mem_nil,or_false,or_assoc]
 constructor
 · intro h k hk c
   have :=h k c
   rw [decide_eq_true_iff] at this
   exact this<|(hm k).1 hk
 · intro h x A hd
   rw [decide_eq_true_iff] at hd
   exact h x ((hm x).2 hd) A
theorem Ve {F:aC} {rows:List Rw} {ln:Nat} {r:List Tx} (h:hU (r.getD 1 [])=false):mD F rows ln r= .error (ln,21):=if_pos h
theorem Vf {F:aC} {rows:List Rw} {ln:Nat} {r:List Tx} (h:hU (r.getD 1 [])=true):mD F rows ln r= .ok ({F with tx:=r.getD 1 []},rows):=if_neg<|by rw [h]; exact c7
theorem Wv {F:aC} {rows:List Rw} {ln:Nat} {r:List Tx} (h:(letE<|r.getD 1 []).2≠0):mE F rows ln r= .error (ln,(letE<|r.getD 1 []).2):=if_pos h
theorem Ww {F:aC} {rows:List Rw} {ln:Nat} {r:List Tx} (h:(letE<|r.getD 1 []).2=0):mE F rows ln r= .ok ({F with tr:=(letE<|r.getD 1 []).1},rows):=if_neg fun h2=>h2 h
theorem Td {F:aC} {rows:List Rw} {ln e:Nat} {r:List Tx} (h:eH (r.getD 1 []) 64= .error e):kK F rows ln r= .error (ln,e):=by unfold kK; rw [h]
theorem Te {F:aC} {rows:List Rw} {ln n:Nat} {r:List Tx} (h:eH (r.getD 1 []) 64= .ok n) (c:n=0):kK F rows ln r= .error (ln,13):=by unfold kK; rw [h]; exact if_pos c
theorem Tf {F:aC} {rows:List Rw} {ln n:Nat} {r:List Tx} (h:eH (r.getD 1 []) 64= .ok n) (c:n≠0):kK F rows ln r= .ok ({F with least:=n},rows):=by unfold kK; rw [h]; exact if_neg c
theorem Sq {F:aC} {seen:List Tx} {rows:List Rw} {ln:Nat} {r:List Tx} {k:Tx} (hk:k∈od) (h:k∈seen):kJ F seen rows ln r= .error (ln,113):=by
 unfold kJ
 rw [if_pos]
 cases ho:ordered seen with
 | false =>rfl
 | true =>exact absurd h<|(G2 seen).1 ho k hk
theorem Sr {F:aC} {seen:List Tx} {rows:List Rw} {ln:Nat} {r:List Tx} (h:ordered seen=true) (c:kY (r.getD 1 [])=0):kJ F seen rows ln r= .error (ln,114):=by unfold kJ; rw [if_neg (by rw [h]; exact c7),if_pos c]
theorem Ss {F:aC} {seen:List Tx} {rows:List Rw} {ln:Nat} {r:List Tx} (h:ordered seen=true) (c:kY (r.getD 1 [])≠0):kJ F seen rows ln r= .ok ({F with kind:=kY<|r.getD 1 []},rows):=by unfold kJ; rw [if_neg (by rw [h]; exact c7),if_neg c]
def kinds:List Tx:= [Aw,As,Au]
theorem Sn (s:Tx):((if s∈kinds then (kinds.idxOf s:Nat) else -1:Int))=(kY s:Nat) - 1:=by
 unfold kY kinds
 by_cases h1:s=Aw
 · subst h1; decide
 · by_cases h2:s=As
   · subst h2; decide
   · by_cases h3:s=Au
     · subst h3; decide
     · rw [if_neg (by simp [h1,h2,h3]),if_neg h1,if_neg h2,if_neg h3]; rfl
theorem Sp (s:Tx):kY s≤3:=by
 unfold kY
 split
 · omega
 · split
   · omega
   · split <;> omega
theorem Af (B:Nat) (H:cw) (F:aC) (V:ei) (R:gu) (rows:List Rw) (ln:Nat) (seen:List Tx) (s:Tx) (w:World) (J:dp w B H.fb H.mc F V) (E:cB w B H F R rows ln seen) (hk:F.kind=1∨F.kind=2∨F.kind=3) (hs:s.length≤1048576):
 eK ao 195 (a7 [.pointer (some ⟨H.rb,0,none⟩),str s]) w (fun v w'=> ∃ x,iU F s= .ok x∧x≠0∧v=aX x∧eA F x=false∧Wk w w') (fun c w'=> ∃ e,iU F s= .error e∧c=ir 45 ln (e:Nat)∧Wk w w'):=by
 obtain ⟨tf,aj,ak⟩:=E.tm
 refine jz func195 aa ntmps195 aa<|sq fun ap Y=>rg aa<|p aE<|nl<|tn<|Y _ _<|sq fun aq Z=>rg aa<|p (aH (.pointer<|some ⟨H.rb,0,none⟩) aa)<|p (nc aa)<|p (fa gx aa)<|p (ld eY aa<|(aV E.cells).trans aa)<|p (nc aa)<|p (fa fZ aa)<|p (fa rW aa)<|p (ld bH aa<|(aV J.cells).trans aa)<|p (aH (str s) aa)<|e<|cl Mf (TQ F.kind s _ hk hs) aa fun v17 al ag=> ?_
 obtain ⟨rfl,A⟩:=ag
 refine p mv<|p (xt aa aa)<|p (xt aa aa)<|p aE<|p aE<|nl<|tn<|Z _ _<|sq fun au ac=>rg aa<|p (aH (.pointer<|some ⟨H.rb,0,none⟩) aa)<|p mv<|eP aa (dj nY (oc H.rb ln ((iS F.kind s).2:Nat) al<|Wk.aJ A E.ej) aa fun v22 am ah=> ?_) fun c w' C an J=>⟨_,QW (by have :=C.2.1; omega),C.1,by rw [C.2.2]; exact A⟩
 obtain ⟨rfl,I,rfl⟩:=ah
 have I:(iS F.kind s).2=0:=ab
 have O:=QT I
 refine nl<|tn<|ac _ _<|sq fun av ad=>rg aa<|p (aH (.pointer<|some ⟨H.rb,0,none⟩) aa)<|p (aH (.pointer<|some ⟨H.rb,0,none⟩) aa)<|p (nc aa)<|p (fa z6 aa)<|p (ld ti aa<|Wk.aJ A<|(aV E.cells).trans aa)<|p mv<|p (lB qQ mH qH (aj.wk A) aa aa (⟨_,aa⟩)<|ak _ O)<|p (cx aa aa)<|eP aa (dj gz (gE H.rb ln _ 115 am (Wk.aJ A E.ej) aw) aa fun v31 ay ai=> ?_) fun c w' C an J=>⟨115,QX I (by have h:=C.2.1; rw [Ex] at h; simpa using h),C.1,by rw [C.2.2]; exact A⟩
 obtain ⟨rfl,G,rfl⟩:=ai
 rw [Ex] at G
 have G:eA F (iS F.kind s).1=false :=by simpa using G
 exact nl<|tn<|ad _ _<|sq fun ax ae=>rg aa<|p mv<|p aE<|nl<|tn<|ae _ _<|rt<|ja<|f1 aa aa<|⟨_,QY I G,O,aa,G,A⟩
theorem uA (B:Nat) (H:cw) (F:aC) (rows:List Rw) (ln:Nat) (seen:List Tx) (r:List Tx) (aL:Nat) (ar:Option Addr) (cr:Nat) (w:World) (Z:St w B H F rows ln seen) (aj:Tg w aL 9 r.length (.slice ar r.length cr) (r.map str)) (ba:r.length=2) (a0:∀ x∈r,x.length≤70000) (aB:r.getD 0 []∈gn) (a1:F.sp.getD (gn.idxOf<|r.getD 0 []) 0=0):
 eK ao 130 (a7 [.pointer (some ⟨H.rb,0,none⟩),.slice ar r.length cr]) w (iL B H seen (j0 F rows ln r) w) (iK B H (j0 F rows ln r) w):=by
 obtain ⟨V,R,E,I,G⟩:=Z
 have av:=aj.dJ
 have ay:¬(H.rb=H.fb):=fun h=>by have h1:=I.cells; rw [h,E.cells] at h1; cases h1
 have bb:(r.getD 1 []).length≤70000:=a0 _<|e6 ab
 have aA:¬(bk ar=H.fb):=Tg.uk aj (c8 ab) E.cells aw
 obtain ⟨tf,ak,aD⟩:=I.tm
 obtain ⟨bg,bd,bf⟩:=I.sm
 have ax:gn.idxOf (r.getD 0 []) < 5:=vb.2 aB
 refine jz func130 aa ntmps130 aa<|sq fun a6 aP=>rg aa<|p (aH (.pointer<|some ⟨H.rb,0,none⟩) aa)<|p (aH (.slice ar r.length cr) aa)<|p (bc ec aa aa ab<|aG.ok (av.2)<|c8 ab)<|p (ld cR aa<|dE.get (i:=1) av.2 ab)<|eP aa (dj yW (Af B H F V R rows ln seen (r.getD 1 []) w E I G.kd ab) aa fun v9 bh Y=> ?_) fun c w' aR bi E=>by obtain ⟨e,he,h,h2⟩:=aR; exact ⟨ln,e,VC he,h,Wk.mw h2⟩
 obtain ⟨x,a2,a3,rfl,aI,C⟩:=Y
 have aO:=E.wk C
 have Y:=I.wk C
 refine p aE<|nl<|tn<|aP _ _<|sq fun a8 aQ=>rg aa<|p (aH (.pointer<|some ⟨H.rb,0,none⟩) aa)<|p (nc aa)<|p (fa z6 aa)<|p (ld ti aa<|Wk.aJ C<|(aV I.cells).trans aa)<|p mv<|p (lB qQ mH qH (ak.wk C) aa aa (⟨_,aa⟩) (show _=fL .i64 0 from (aD x a3).trans<|by rw [aI]; rfl))<|p (bK ((1:Nat):Int) aa aa<|bl ab ab)<|e<|qR qQ qH (ak.wk C) aa aa aa (⟨_,aa⟩) fun J ad aS=> ?_
 have ap:=Y.uj (F':= {F with sp:=F.sp.set (gn.idxOf<|r.getD 0 []) x}) ad aS rfl (H0 aI aD<|O3 (by rw [E.jZ]; exact ax) a1)
 have ac:=aO.uj Y ad
 have aY:=(aj.wk C).md ad fun k hk cur z aZ=>by subst hk; exact (ak.wk C).nm aZ
 have au:=aY.dJ
 refine nl<|tn<|aQ _ _ ?_
 have A:(fun w'=>Md (fun k=>k=H.fb) J w') J.drew:=(Md.refl _ _).drew
 refine bR (fun w'=>Md (fun k=>k=H.fb) J w') aa wide A<|hp 0 aa ag (fun _ _=>aH (.pointer<|some ⟨H.rb,0,none⟩) aa) A<|hp 1 aa ag (fun _ _=>nc aa) A<|hp 2 aa ag (fun _ _=>fa gx aa) A<|hp 3 aa ag (fun w' Z=>ld eY aa<|Md.aJ Z ((aV ap.cells).trans aa)<|by first | exact ay | exact aA) A<|hp 5 aa ag (fun _ _=>aH (.slice ar r.length cr) aa) A<|hp 6 aa ag (fun _ _=>bc ec aa aa ab<|aG.ok (au.2)<|c8 ab) A<|hp 7 aa ag (fun w' Z=>ld cR aa<|Md.aJ Z (dE.get (i:=0) au.2 ab)<|by first | exact ay | exact aA) A<|hp 9 aa ag (fun _ _=>mv) A<|hp 10 aa ag (fun _ _=>nc aa) A<|hp 11 aa ag (fun _ _=>fa fZ aa) A<|hp 12 aa ag (fun _ _=>fa wg aa) A<|he 4 aa ag<|qu (L:=gn.map str) kp aa aa aa aa fun am aK a9 ah aM=> ?_
 have aU:dE aK.heap (some ⟨am,0,none⟩) gn:=aG.gl ⟨_,aM⟩
 have O:=je ah.md
 have aq:(fun w'=>Md (fun k=>k=H.fb) J w') aK:=A.trans' ah.md fun _ _ h=>h.elim
 refine ⟨aq,?_⟩
 refine he 8 aa ag<|cl Dw (FY gn (some ⟨am,0,none⟩) 5 (r.getD 0 []) _ aU aw) aa fun v25 a4 aT=> ?_
 obtain ⟨aF,rfl⟩:=aT
 rw [if_pos aB] at aF
 subst aF
 have ai:(fun w'=>Md (fun k=>k=H.fb) J w') a4:=aq
 refine ⟨ai,?_⟩
 refine hp 13 aa ag (fun _ _=>lW tp aa aa ab) ai<|he 14 aa ag<|bW fz aa aa (v:=aX x) aa (ah.md.az ac.cells) (by show _ < 14; omega) fun a5 ae an=> ?_
 rw [Qv (i:=gn.idxOf<|r.getD 0 []) E.jZ ax ab] at an
 have aW:(fun w'=>Md (fun k=>k=H.fb) J w') a5:=ai.trans' ae fun _ _ h=>h
 refine ⟨aW,?_⟩
 refine hn ag<|ja<|f0 aa ?_
 have aN:=(ac.wk O).put (F':= {F with sp:=F.sp.set (gn.idxOf<|r.getD 0 []) x}) ae an rfl rfl rfl rfl (by rw [List.length_set]; exact E.jZ)
 exact ⟨aa,_,rows,ln,VD a2,⟨V,R,aN,(ap.wk O).fb (ac.wk O) ae,⟨G.len,G.sl,G.row,G.kd,G.al⟩⟩,((Wk.mw C).trans<|eJ.mt Y ad).trans<|(Wk.mw O).trans<|eJ.fb (ac.wk O) ae⟩
theorem Nh (B:Nat) (H:cw) (F:aC) (rows:List Rw) (ln:Nat) (seen:List Tx) (r:List Tx) (am:Nat) (ar:Option Addr) (cr:Nat) (w:World) (J:St w B H F rows ln seen) (ae:Tg w am 9 r.length (.slice ar r.length cr) (r.map str)) (aA:r.length=2) (av:∀ x∈r,x.length≤70000):
 eK ao 128 (a7 [.pointer (some ⟨H.rb,0,none⟩),.slice ar r.length cr]) w (iL B H seen (mD F rows ln r) w) (iK B H (mD F rows ln r) w):=by
 obtain ⟨V,R,G,I,E⟩:=J
 have ai:=ae.dJ
 have aj:¬(H.rb=H.fb):=fun h=>by have h1:=I.cells; rw [h,G.cells] at h1; cases h1
 have aB:(r.getD 1 []).length≤70000:=av _<|e6 ab
 have ak:¬(bk ar=H.fb):=Tg.uk ae (c8 ab) G.cells aw
 obtain ⟨tf,aF,aI⟩:=I.tm
 obtain ⟨aK,aD,aE⟩:=I.sm
 refine jz func128 aa ntmps128 aa<|sq fun az aq=>rg aa<|p (aH (.pointer<|some ⟨H.rb,0,none⟩) aa)<|p (aH (.slice ar r.length cr) aa)<|p (bc ec aa aa ab<|aG.ok (ai.2)<|c8 ab)<|p (ld cR aa<|dE.get (i:=1) ai.2 ab)<|eP aa (dj yV (A9 H.rb ln (r.getD 1 []) w I.ej ab) aa fun aL ac Z=> ?_) fun c w' ad aM G=>⟨ln,21,Ve ad.2.1,ad.1,Wk.mw ad.2.2⟩
 obtain ⟨rfl,ax,O⟩:=Z
 have Y:=G.wk O
 have Z:=I.wk O
 have ah:=(ae.wk O).dJ
 refine nl<|tn<|aq _ _ ?_
 have A:(fun w'=>Md (fun k=>k=H.fb) ac w') ac.drew:=(Md.refl _ _).drew
 refine bR (fun w'=>Md (fun k=>k=H.fb) ac w') aa wide A<|hp 0 aa ag (fun _ _=>aH (.pointer<|some ⟨H.rb,0,none⟩) aa) A<|hp 1 aa ag (fun _ _=>nc aa) A<|hp 2 aa ag (fun _ _=>fa gx aa) A<|hp 3 aa ag (fun w' J=>ld eY aa<|Md.aJ J ((aV Z.cells).trans aa)<|by first | exact aj | exact ak) A<|hp 4 aa ag (fun _ _=>aH (.slice ar r.length cr) aa) A<|hp 5 aa ag (fun _ _=>bc ec aa aa ab<|aG.ok (ah.2)<|c8 ab) A<|hp 6 aa ag (fun w' J=>ld cR aa<|Md.aJ J (dE.get (i:=1) ah.2 ab)<|by first | exact aj | exact ak) A<|hp 7 aa ag (fun _ _=>nc aa) A<|hp 8 aa ag (fun _ _=>fa fZ aa) A<|hp 9 aa ag (fun _ _=>fa QN aa) A<|he 10 aa ag<|bW oP aa aa (v:=str<|r.getD 1 []) aa Y.cells (by show _ < 14; omega) fun ay C an=> ?_
 have C:=je C
 have au:(fun w'=>Md (fun k=>k=H.fb) ac w') ay:=C
 refine ⟨au,?_⟩
 refine hn ag<|ja<|f0 aa ?_
 have ap:=Y.put (F':= {F with tx:=r.getD 1 []}) C an rfl rfl rfl rfl G.jZ
 exact ⟨aa,_,rows,ln,Vf ax,⟨V,R,ap,(Z.fb Y C).congr aa (fun _=>rfl),⟨E.len,E.sl,E.row,E.kd,E.al⟩⟩,(Wk.mw O).trans<|eJ.fb Y C⟩
theorem Wx (B:Nat) (H:cw) (F:aC) (rows:List Rw) (ln:Nat) (seen:List Tx) (r:List Tx) (ae:Nat) (ar:Option Addr) (cr:Nat) (w:World) (an:St w B H F rows ln seen) (Z:Tg w ae 9 r.length (.slice ar r.length cr) (r.map str)) (az:r.length=2) (ap:∀ x∈r,x.length≤70000):
 eK ao 129 (a7 [.pointer (some ⟨H.rb,0,none⟩),.slice ar r.length cr]) w (iL B H seen (mE F rows ln r) w) (iK B H (mE F rows ln r) w):=by
 obtain ⟨V,R,C,I,A⟩:=an
 have ac:=Z.dJ
 have ax:¬(H.rb=H.fb):=fun h=>by have h1:=I.cells; rw [h,C.cells] at h1; cases h1
 have aA:(r.getD 1 []).length≤70000:=ap _<|e6 ab
 have ay:¬(bk ar=H.fb):=Tg.uk Z (c8 ab) C.cells aw
 obtain ⟨tf,aF,aI⟩:=I.tm
 obtain ⟨aJ,aB,aD⟩:=I.sm
 refine jz func129 aa ntmps129 aa<|sq fun au ai=>rg aa<|p (aH (.slice ar r.length cr) aa)<|p (bc ec aa aa ab<|aG.ok (ac.2)<|c8 ab)<|p (ld cR aa<|dE.get (i:=1) ac.2 ab)<|e<|cl L4 (SE (r.getD 1 []) _ ab) aa fun v10 aq ak=> ?_
 obtain ⟨rfl,E⟩:=ak
 have G:=C.wk E
 have Y:=I.wk E
 refine p mv<|p (xt aa aa)<|p (xt aa aa)<|p aE<|p aE<|nl<|tn<|ai _ _<|sq fun av aj=>rg aa<|p (aH (.pointer<|some ⟨H.rb,0,none⟩) aa)<|p mv<|eP aa (dj nY (oc H.rb ln ((letE<|r.getD 1 []).2:Nat) aq Y.ej) aa fun aK aL am=> ?_) fun c w' O aN C=>⟨ln,_,Wv (by have :=O.2.1; omega),O.1,by rw [O.2.2]; exact Wk.mw E⟩
 obtain ⟨rfl,ad,rfl⟩:=am
 have ad:(letE<|r.getD 1 []).2=0:=ab
 refine nl<|tn<|aj _ _<|rg aa<|p (aH (.pointer<|some ⟨H.rb,0,none⟩) aa)<|p (nc aa)<|p (fa gx aa)<|p (ld eY aa<|(aV Y.cells).trans aa)<|p mv<|p (nc aa)<|p (fa fZ aa)<|p (fa QO aa)<|e<|bW oP aa aa (v:=str (letE<|r.getD 1 []).1) aa G.cells (by show _ < 14; omega) fun aM J ag=>nl<|ja<|f0 aa ?_
 have ah:=G.put (F':= {F with tr:=(letE<|r.getD 1 []).1}) J ag rfl rfl rfl rfl C.jZ
 exact ⟨aa,_,rows,ln,Ww ad,⟨V,R,ah,(Y.fb G J).congr aa (fun _=>rfl),⟨A.len,A.sl,A.row,A.kd,A.al⟩⟩,(Wk.mw E).trans<|eJ.fb G J⟩
theorem Sx (B:Nat) (H:cw) (F:aC) (rows:List Rw) (ln:Nat) (seen:List Tx) (r:List Tx) (aq:Nat) (ar:Option Addr) (cr:Nat) (w:World) (Z:St w B H F rows ln seen) (ah:Tg w aq 9 r.length (.slice ar r.length cr) (r.map str)) (aK:r.length=2) (aB:∀ x∈r,x.length≤70000):
 eK ao 131 (a7 [.pointer (some ⟨H.rb,0,none⟩),.slice ar r.length cr]) w (iL B H seen (kK F rows ln r) w) (iK B H (kK F rows ln r) w):=by
 obtain ⟨V,R,E,G,I⟩:=Z
 have ai:=ah.dJ
 have aj:¬(H.rb=H.fb):=fun h=>by have h1:=G.cells; rw [h,E.cells] at h1; cases h1
 have aL:(r.getD 1 []).length≤70000:=aB _<|e6 ab
 have ak:¬(bk ar=H.fb):=Tg.uk ah (c8 ab) E.cells aw
 obtain ⟨tf,aO,aP⟩:=G.tm
 obtain ⟨aQ,aM,aN⟩:=G.sm
 refine jz func131 aa ntmps131 aa<|sq fun aF av=> ?_
 have A:(fun w'=>Md (fun k=>k=H.fb) w w') w.drew:=(Md.refl _ _).drew
 refine bR (fun w'=>Md (fun k=>k=H.fb) w w') aa wide A<|hp 0 aa ag (fun _ _=>aH (.pointer<|some ⟨H.rb,0,none⟩) aa) A<|hp 1 aa ag (fun _ _=>nc aa) A<|hp 2 aa ag (fun _ _=>fa gx aa) A<|hp 3 aa ag (fun w' Z=>ld eY aa<|Md.aJ Z ((aV G.cells).trans aa)<|by first | exact aj | exact ak) A<|hp 4 aa ag (fun _ _=>aH (.pointer<|some ⟨H.rb,0,none⟩) aa) A<|hp 5 aa ag (fun _ _=>aH (.slice ar r.length cr) aa) A<|hp 6 aa ag (fun _ _=>bc ec aa aa ab<|aG.ok (ai.2)<|c8 ab) A<|hp 7 aa ag (fun w' Z=>ld cR aa<|Md.aJ Z (dE.get (i:=1) ai.2 ab)<|by first | exact aj | exact ak) A<|r7 8 aa ag aa (dj vI (xe H.rb ln (r.getD 1 []) 64 w.drew G.ej ab ab) aa fun v12 aD ax=> ?_) fun c w' Y aE E=>by obtain ⟨e,he,h,h2⟩:=Y; exact ⟨ln,e,Td he,h,Wk.mw<|je h2⟩
 obtain ⟨n,am,rfl,C⟩:=ax
 have C:=je C
 have J:=E.wk C
 have az:=G.wk C
 have ac:(fun w'=>Md (fun k=>k=H.fb) w w') aD:=Md.mono C fun _ _ h=>h.elim
 refine ⟨ac,?_⟩
 refine hp 9 aa ag (fun _ _=>nc aa) ac<|hp 10 aa ag (fun _ _=>fa fZ aa) ac<|hp 11 aa ag (fun _ _=>fa zX aa) ac<|he 12 aa ag<|bW eZ aa aa (v:= .int .i64 (n:Nat)) aa J.cells (by show _ < 14; omega) fun ap O ae=> ?_
 have ad:=az.fb J O
 have aA:(fun w'=>Md (fun k=>k=H.fb) w w') ap:=ac.trans' O fun _ _ h=>h
 refine ⟨aA,?_⟩
 refine hn ag<|tn<|av _ _<|rg aa<|p (aH (.pointer<|some ⟨H.rb,0,none⟩) aa)<|p (aH (.pointer<|some ⟨H.rb,0,none⟩) aa)<|p (nc aa)<|p (fa gx aa)<|p (ld eY aa<|(aV ad.cells).trans aa)<|p (nc aa)<|p (fa fZ aa)<|p (fa zX aa)<|p (ld bH aa<|(aV ae).trans aa)<|p (gt aa aa)<|eP aa (dj gz (gE H.rb ln _ 13 ap ad.ej aw) aa fun v26 aR ay=> ?_) fun c w' Y aE E=>by have aI:=of_decide_eq_false Y.2.1; exact ⟨ln,13,Te am ab,Y.1,by rw [Y.2.2]; exact (Wk.mw C).trans<|eJ.fb J O⟩
 obtain ⟨rfl,an,rfl⟩:=ay
 have an:=of_decide_eq_true an
 refine nl<|ja<|f0 aa ?_
 have au:=J.put (F':= {F with least:=n}) O ae rfl rfl rfl rfl E.jZ
 exact ⟨aa,_,rows,ln,Tf am ab,⟨V,R,au,ad.congr aa (fun _=>rfl),⟨I.len,I.sl,I.row,I.kd,I.al⟩⟩,(Wk.mw C).trans<|eJ.fb J O⟩
theorem Su (B:Nat) (H:cw) (F:aC) (rows:List Rw) (ln:Nat) (seen:List Tx) (r:List Tx) (aW:Nat) (ar:Option Addr) (cr:Nat) (w:World) (Y:St w B H F rows ln seen) (an:Tg w aW 9 r.length (.slice ar r.length cr) (r.map str)) (bI:r.length=2) (bh:∀ x∈r,x.length≤70000):
 eK ao 127 (a7 [.pointer (some ⟨H.rb,0,none⟩),.slice ar r.length cr]) w (iL B H seen (kJ F seen rows ln r) w) (iK B H (kJ F seen rows ln r) w):=by
 obtain ⟨V,R,I,ah,Z⟩:=Y
 have bC:=an.dJ
 have aM:¬(H.rb=H.fb):=fun h=>by have h1:=ah.cells; rw [h,I.cells] at h1; cases h1
 have bJ:(r.getD 1 []).length≤70000:=bh _<|e6 ab
 have aN:¬(bk ar=H.fb):=Tg.uk an (c8 ab) I.cells aw
 obtain ⟨tf,bL,bM⟩:=ah.tm
 obtain ⟨bN,bq,br⟩:=ah.sm
 refine jz func127 aa ntmps127 aa<|sq fun bv a2=>sq fun bw a3=>rg aa<|e<|qu (L:=od.map str) kp aa aa aa aa fun av aq bE a8 aZ=> ?_
 have aI:dE aq.heap (some ⟨av,0,none⟩) od:=aG.gl ⟨_,aZ⟩
 have G:Wk w aq:=a8.md
 have aA:=I.wk G
 have ai:=ah.wk G
 have aK:=(an.wk G).dJ
 have bs:=bq.wk G
 have bG:od.length=8:=rfl
 refine p (bP gU aa aa)<|p mv<|nl<|tn<|a3 _ _<|az<|lp (fun ax O C=> ∃ (i:Nat),(i≤8)∧(∀ j,j < i→od.getD j []∉seen)∧(C=aq)∧(O 0= .pointer (some ⟨H.rb,0,none⟩))∧(O 1= .slice ar r.length cr)∧(O 6= .slice (some ⟨av,0,none⟩) 8 8)∧(O 7= .int .i64 (8:Nat))∧(O 8= .int .i64 (i:Nat))∧(8 - i=ax)) _ ⟨0,ab,(fun j aL=>by omega),aa,aa,aa,aa,aa,aa,aa⟩ ?_
 rintro ax O C ⟨i,hi,aO,a0,bi,bj,bm,bo,bp,rfl⟩
 refine fx 0 bi<|fx 1 bj<|fx 6 bm<|fx 7 bo<|fx 8 bp ?_
 subst a0
 refine sq fun bx a4=>rg aa<|p (lt aa aa)<|nl<|tn<|a4 _ _<|sq fun bz a5=>cd aa (fun bg=> ?_) fun bg=> ?_
 refine aR<|tn<|a5 _ _<|sq fun aX ak=>az<|sq fun bA a6=>rg aa<|p (bc ec aa aa ab<|aG.ok (aI)<|c8 ab)<|p (ld cR aa<|dE.get (i:=i) aI ab)<|p aE<|nl<|tn<|a6 _ _<|rg aa<|p (aH (.pointer<|some ⟨H.rb,0,none⟩) aa)<|p (aH (.pointer<|some ⟨H.rb,0,none⟩) aa)<|p (nc aa)<|p (fa rY aa)<|p (ld rC aa<|(aV ai.cells).trans aa)<|p mv<|p (lB pZ mH gO (bs) aa aa (⟨_,aa⟩)<|br _)<|p (cx aa aa)<|eP aa (dj gz (gE H.rb ln _ 113 C ai.ej aw) aa fun v20 bO a9=> ?_) fun c w' E bu I=>⟨ln,113,Sq (k:=od.getD i []) (e6 ab) (by have h:=of_decide_eq_false E.2.1; exact mI.1 fun h2=>h<|by have :=qg.2 h2; omega),E.1,by rw [E.2.2]; exact Wk.mw G⟩
 obtain ⟨rfl,ap,rfl⟩:=a9
 have ap:od.getD i []∉seen:=qg.1<|by have :=of_decide_eq_true ap; omega
 exact nl<|bn<|tn<|ak _ _<|rg aa<|p (ad aa aa<|cz ab)<|p mv<|nl<|tn<|⟨_,ab,i+1,ab,(fun j aL=>by rcases jk j i with h | h <;> first | exact aO j h | (rw [show j=i by omega]; exact ap)),aa,aa,aa,aa,aa,aa,aa⟩
 refine ext<|te _<|te _<|be<|tn<|a2 _ _<|sq fun aX ak=> ?_
 have aP:ordered seen=true :=(G2 seen).2 fun k hk=>by obtain ⟨j,aL,rfl⟩:=oY [] hk; exact aO j ab
 have A:(fun w'=>Md (fun k=>k=H.fb) C w') C.drew:=(Md.refl _ _).drew
 refine bR (fun w'=>Md (fun k=>k=H.fb) C w') aa wide A<|hp 0 aa ag (fun _ _=>aH (.pointer<|some ⟨H.rb,0,none⟩) aa) A<|hp 1 aa ag (fun _ _=>nc aa) A<|hp 2 aa ag (fun _ _=>fa gx aa) A<|hp 3 aa ag (fun w' Y=>ld eY aa<|Md.aJ Y ((aV ai.cells).trans aa)<|by first | exact aM | exact aN) A<|hp 5 aa ag (fun _ _=>aH (.slice ar r.length cr) aa) A<|hp 6 aa ag (fun _ _=>bc ec aa aa ab<|aG.ok (aK.2)<|c8 ab) A<|hp 7 aa ag (fun w' Y=>ld cR aa<|Md.aJ Y (dE.get (i:=1) aK.2 ab)<|by first | exact aM | exact aN) A<|he 4 aa ag<|qu (L:=kinds.map str) kp aa aa aa aa fun au aT bD aD aY=> ?_
 have bd:dE aT.heap (some ⟨au,0,none⟩) kinds:=aG.gl ⟨_,aY⟩
 have ac:=je aD.md
 have aF:(fun w'=>Md (fun k=>k=H.fb) C w') aT:=A.trans' aD.md fun _ _ h=>h.elim
 refine ⟨aF,?_⟩
 refine he 8 aa ag<|cl Dw (FY kinds (some ⟨au,0,none⟩) 3 (r.getD 1 []) _ bd aw) aa fun v30 bt ba=> ?_
 obtain ⟨aQ,rfl⟩:=ba
 rw [Sn] at aQ
 subst aQ
 have bF:=Sp<|r.getD 1 []
 have J:(fun w'=>Md (fun k=>k=H.fb) C w') bt:=aF
 refine ⟨J,?_⟩
 refine hp 9 aa ag (fun _ _=>bK ((kY (r.getD 1 []):Nat):Int) aa aa<|bl ab ab) J<|hp 10 aa ag (fun _ _=>nc aa) J<|hp 11 aa ag (fun _ _=>fa fZ aa) J<|hp 12 aa ag (fun _ _=>fa rW aa) J<|he 13 aa ag<|bW eZ aa aa (v:= .int .i64 (kY (r.getD 1 []):Nat)) aa ((aA.wk ac).cells) (by show _ < 14; omega) fun aU ae ay=> ?_
 have aj:=aA.wk ac
 have am:=(ai.wk ac).fb aj ae
 have aB:=((Wk.mw G).trans<|Wk.mw ac).trans<|eJ.fb aj ae
 have bf:(fun w'=>Md (fun k=>k=H.fb) C w') aU:=J.trans' ae fun _ _ h=>h
 refine ⟨bf,?_⟩
 refine hn ag<|tn<|ak _ _<|rg aa<|p (aH (.pointer<|some ⟨H.rb,0,none⟩) aa)<|p (aH (.pointer<|some ⟨H.rb,0,none⟩) aa)<|p (nc aa)<|p (fa gx aa)<|p (ld eY aa<|(aV am.cells).trans aa)<|p (nc aa)<|p (fa fZ aa)<|p (fa rW aa)<|p (ld bH aa<|(aV ay).trans aa)<|p (gt aa aa)<|eP aa (dj gz (gE H.rb ln _ 114 aU am.ej aw) aa fun v45 bQ bb=> ?_) fun c w' E bu I=>by have bB:=of_decide_eq_false E.2.1; exact ⟨ln,114,Sr aP ab,E.1,by rw [E.2.2]; exact aB⟩
 obtain ⟨rfl,aS,rfl⟩:=bb
 have aS:=of_decide_eq_true aS
 refine nl<|ja<|f0 aa ?_
 have a1:=aj.put (F':= {F with kind:=kY<|r.getD 1 []}) ae ay rfl rfl rfl rfl I.jZ
 exact ⟨aa,_,rows,ln,Ss aP ab,⟨V,R,a1,am.congr aa (fun _=>rfl),⟨Z.len,Z.sl,Z.row,(by show kY (r.getD 1 [])=1∨kY (r.getD 1 [])=2∨kY (r.getD 1 [])=3; omega),Z.al⟩⟩,aB⟩
end Go.Hb
namespace Go.Hb.pF
theorem Ee {h:Array Obj} {b:Nat} {f:UInt8→Bool} (A:bE h b (dV f)) (c:UInt8):Hb.aJ h b (0 +((c.toNat / 64:Nat):Int).toNat*1)=some (.int .u64<|ee f<|c.toNat / 64):=by
 have C:=jN c
 rw [A.aJ,show 0 +((c.toNat / 64:Nat):Int).toNat*1=c.toNat / 64 from by omega]; exact zl f ab
theorem N0 {h:Array Obj} {b:Nat} {f:UInt8→Bool} {c:UInt8} (A:bE h b ((dV f).set (0 +((c.toNat / 64:Nat):Int).toNat*1)<|.int .u64 ((ee f (c.toNat / 64) ||| 2 ^ (c.toNat % 64):Nat):Int))):bE h b (dV (fun x=>f x || decide (x=c))):=by
 rw [show 0 +((c.toNat / 64:Nat):Int).toNat*1=c.toNat / 64 from by omega,NV] at A; exact A
theorem NX {f g:UInt8→Bool} (h:∀ b,f b=g b):dV f=dV g:=by rw [show f=g from funext h]
theorem RL {l:List UInt8} {i:Nat} (h:i < l.length) (x:UInt8):(decide (x∈l.take i) || decide (x=l.getD i 0))=decide (x∈l.take (i+1)):=by
 rw [k8 l i 0 h,← Bool.decide_or]
 exact decide_eq_decide.2<|by rw [iW,gK]
theorem A6 {w:World} {B e n cp i:Nat} {a:Option Addr} {l:List UInt8} (h:w.ownsRow B e 1 (.slice a n cp) n (U8 l)) (hi:i≤n) (hn:0 < n):w.ownsRow B e 1 (.slice a i cp) i (U8<|l.take i):=by
 have c:a≠none:=by
  rintro rfl
  rcases h.2 with ⟨_,h5⟩ | ⟨g,cap,cur,h4,_⟩
  · omega
  · simp at h4
 have :=G4 h hi c
 rw [Nat.mul_one] at this
 unfold U8 at*
 rwa [JH]
theorem T2 {w:World} {B e n cp:Nat} {a:Option Addr} {xs:List Value} (h:w.ownsRow B e 1 (.slice a n cp) n xs) (hn:0 < n):∃ c,a=some ⟨c,0,none⟩:=by
 rcases h.2 with ⟨_,h5⟩ | ⟨g,cap,cur,h4,_⟩
 · omega
 · simp only [ma] at h4; exact ⟨g,h4.1⟩
theorem WA {w:World} {B e n cp j:Nat} {a:Option Addr} {l:List UInt8} (h:w.ownsRow B e 1 (.slice a n cp) n (U8 l)):aG w.heap (fD a cp j 1) (U8<|l.drop j):=by
 have h2:=(aY h).2.drop (cap:=cp) (k:=j) (size:=1)<|by have h1:=h.1; have h3:=(aY h).1; omega
 rw [Nat.mul_one] at h2
 unfold U8 at*
 rwa [List.map_drop]
theorem BL {w:World} {B e n:Nat} {v:Value} {l:List UInt8} (h:w.ownsRow B e 1 v n (U8 l)):l.length=n:=by have :=h.1; rw [vq] at this; omega
theorem Hf (b:Nat) (c:UInt8) (f:UInt8→Bool) (w:World) (C:bE w.heap b (dV f)):
 bf ao 220 (a7 [aU b,.int .u8 c.toNat]) w (fun v w'=>v= .tuple #[]∧bE w'.heap b (dV (fun x=>f x || decide (x=c)))∧Md (fun q=>q=b) w w'):=by
 have O:=jN c
 refine enter func220 aa ntmps220 aa ?_
 have A:(fun w'=>Wk w w') w.drew:=(Md.refl _ _).drew
 refine eG (fun w'=>Wk w w') 12 aa wide A<|bp 0 aa (aU b) A<|bp 1 aa (.int .u8 c.toNat) A<|bF 2 aa (fun _=>shr aa aa aw<|HH c) (fun _=>A)<|bF 3 aa (fun _=>nc aa) (fun _=>A)<|bF 4 aa (fun _=>lW qs aa aa ab) (fun _=>A)<|eC 5 aa (fun w' J=>ld rD aa<|Wk.aJ J<|Ee C c) A<|bp 6 aa (.int .u8 c.toNat) A<|bF 7 aa (fun _=>eL aa aa<|C5 c) (fun _=>A)<|bF 8 aa (fun _=>shl aa aa ab<|Vj ab) (fun _=>A)<|bF 9 aa (fun _=>Db aa aa<|TS (sD _ _)<|Nat.pow_lt_pow_right aw ab) (fun _=>A)<|bF 10 aa (fun _=>nc aa) (fun _=>A)<|bF 11 aa (fun _=>lW qs aa aa ab) (fun _=>A)<|dw 12 aa ag ag<|st OT aa aa (aa) (A.B C) (by rw [vM]; omega) fun V I G=> ?_
 have E:=N0 G
 refine eF ag<|f0 aa ?_
 exact ⟨aa,E,Md.trans (Md.refl _ _).drew I⟩
theorem FM (f:UInt8→Bool) (c:UInt8) (w:World):
 bf ao 259 (a7 [.agg (dV<|f).toArray,.int .u8 c.toNat]) w (fun v w'=>v= .bool (f c)∧Wk w w'):=by
 have O:=jN c
 exact enter func259 aa ntmps259 aa<|ak fun A=>e<|jm aa fun I V J G E=>ay<|A<|ak fun C=>au (.int .u8 c.toNat)<|p (shr aa aa aw<|HH c)<|p (lW qs aa aa ab)<|p (ld rD aa<|Ee E c)<|au (.int .u8 c.toNat)<|p (eL aa aa<|C5 c)<|p (shr aa aa ab<|Vo _ ab)<|p (eL aa aa<|KQ<|Nat.lt_of_le_of_lt (Nat.div_le_self _ _)<|sD _ _)<|p (cx aa aa)<|ay<|C<|rt<|a8 aa<|⟨congrArg bU (Xb f c),G.md⟩
theorem A5 (f:UInt8→Bool) (w:World):
 bf ao 219 (a7 [.agg (dV<|f).toArray]) w (fun v w'=>v= .agg (dV fun x=> !f x).toArray∧Wk w w'):=by
 exact enter func219 aa ntmps219 aa<|ak fun E=>e<|jm aa fun V ae Z C A=>e<|al qS fun Y ag ac c I=>nl<|E<|ak fun G=>p (lW qs aa aa ab)<|p (ld rD aa<|(c.md.B A).aJ 0)<|p (vO aa)<|p (lW qs aa aa ab)<|p (ld rD aa<|(c.md.B A).aJ 1)<|p (vO aa)<|p (lW qs aa aa ab)<|p (ld rD aa<|(c.md.B A).aJ 2)<|p (vO aa)<|p (lW qs aa aa ab)<|p (ld rD aa<|(c.md.B A).aJ 3)<|p (vO aa)<|p (Da (ps:= [(0,.int .u64 (ee (fun x=> !f x) 0:Nat)),(1,.int .u64 (ee (fun x=> !f x) 1:Nat)),(2,.int .u64 (ee (fun x=> !f x) 2:Nat)),(3,.int .u64 (ee (fun x=> !f x) 3:Nat))]) (L:= [.int .u64 (ee (fun x=> !f x) 0:Nat),.int .u64 (ee (fun x=> !f x) 1:Nat),.int .u64 (ee (fun x=> !f x) 2:Nat),.int .u64 (ee (fun x=> !f x) 3:Nat)]) C9 aa<|aa)<|e<|dd oO aa (vs:=dV fun x=> !f x) aa aa aa I aw fun ah O J=>nl<|G<|rt<|tL aa (dZ aa kg aa fun j ad=>by rw [fN]; exact J.aJ j)<|⟨aa,Md.trans' (Md.trans C.md c.md) O fun k hk h=>by have :=C.md.size; omega⟩
theorem FN (f:UInt8→Bool) (c:UInt8) (ci:Int) (w:World) (A:(c.toNat:Int)=ci):bf ao 259 (a7 [.agg (dV<|f).toArray,.int .u8 ci]) w (fun v w'=>v= .bool (f c)∧Wk w w'):=by
 subst A; exact FM f c w
theorem Dh (f:UInt8→Bool) (w:World):
 bf ao 281 (a7 [.agg (dV<|f).toArray]) w (fun v w'=>bq w' w.heap.size 5 1 (v) (bytesOf f).length (U8<|bytesOf f)∧Wk w w'):=by
 refine enter func281 aa ntmps281 aa<|ak fun ag=>e<|jm aa fun aw Z aT V ax=>ay<|ag<|ak fun ah=>ay<|ah<|aB fun ai=>ak fun al=>p mv<|nl<|al<|az<|lp (fun ac O J=> ∃ (i:Nat) (c:Value),(i≤256)∧(bq J Z.heap.size 5 1 (c) (oM f i).length<|U8<|oM f i)∧(Wk Z J)∧(O 1=aU aw)∧(O 3=c)∧(O 5=aj i)∧(256 - i=ac)) _ ⟨0,.slice none 0 0,ab,(eh _ _ _ _),(Md.refl _ _),aa,aa,aa,aa⟩ ?_
 rintro ac O J ⟨i,c,hi,I,C,aL,aM,aN,rfl⟩
 refine fx 1 aL<|fx 3 aM<|fx 5 aN ?_
 have aS:Wk w J:=Md.trans V.md C
 have aW:=tt f i
 have aZ:=C.size
 refine ak fun am=>p (lt aa aa)<|nl<|am<|aB fun an=>cd aa (fun aH=> ?_) fun aH=> ?_
 refine aR<|an<|aB fun E=>az<|ak fun aq=>au (aj i)<|p (cg (aj i) aa)<|nl<|aq<|ak fun av=>p (cE kg aa (aa) fun j aY=>by rw [fN]; exact (C.B ax).aJ j)<|au (aj i)<|p (n2 u5 sA aa<|BX ab)<|e<|cl y1 (FN f (UInt8.ofNat i) _ _<|Ie i ab) aa fun v11 a1 aF=> ?_
 obtain ⟨rfl,A⟩:=aF
 refine nl<|av<|cb aa (fun Y=> ?_) fun Y=> ?_
 refine rg aa<|au (c)<|au (aj i)<|p (n2 u5 sA aa<|BX ab)<|e<|lk qO aa aa fun aQ a2 aV G aA=>e<|ap qO (ba (ba I A) G.md) aa (by have :=A.size; have :=G.md.size; omega) aa (aG.gl aA) (aa) (aa) ab ab fun aO aP ae aD a0 aX=> ?_
 rw [← Ie i ab] at ae
 have aK:=T1 ae
 have aC:Wk Z aP:=Wk.own (Md.trans (Md.trans C A) G.md) (ba (ba I A) G.md) aD<|cj _
 exact p aE<|nl<|bn<|E<|rg aa<|p (ad aa aa<|cz ab)<|p mv<|nl<|tn<|⟨_,ab,i+1,aO,ab,(by rw [Dg,if_pos Y]; exact aK),aC,aa,aa,aa,aa⟩
 exact aR<|bn<|E<|rg aa<|p (ad aa aa<|cz ab)<|p mv<|nl<|tn<|⟨_,ab,i+1,c,ab,(by rw [Dg,if_neg (by rw [Y]; exact c7),eu]; exact ba I A),(Md.trans C A),aa,aa,aa,aa⟩
 refine ext<|bj<|bj<|be<|ai<|ak fun E=>au (c)<|p (cg (c) aa)<|nl<|E<|rt<|a8 aa ?_
 have aI:i=256:=ab
 subst aI
 exact ⟨fj I V.md.size,Md.trans V.md C⟩
theorem Oc (s:List UInt8) (w:World) (hs:s.length≤1048576):
 bf ao 258 (a7 [str s]) w (fun v w'=>v= .agg (dV fun x=>decide (x∈s)).toArray∧Wk w w'):=by
 refine enter func258 aa ntmps258 aa<|ak fun ag=>e<|al qS fun G aW aQ ac J=>nl<|ag<|ak fun ah=>e<|al qS fun A aP aT ae ax=> ?_
 have ay:bE aP.heap A (dV fun x=>decide (x∈s.take 0)):=by rw [show (fun x=>decide (x∈s.take 0))=(fun _:UInt8=>false) from funext fun x=>by simp,zm]; exact ax
 refine nl<|ah<|aB fun ai=>ak fun am=>au (str s)<|p (dC u9 aa aa)<|p mv<|nl<|am<|az ?_
 have aS:=J.lt
 refine lp (fun I c C=> ∃ (i:Nat),(i≤s.length)∧(bE C.heap A<|dV fun x=>decide (x∈s.take i))∧(bE C.heap G [.int .u64 0,.int .u64 0,.int .u64 0,.int .u64 0])∧(Wk w C)∧(c 0=str s)∧(c 2=aU G)∧(c 3=aU A)∧(c 6=aj (s.length))∧(c 7=aj i)∧(s.length - i=I)) _ ⟨0,ab,ay,(ae.md.B J),(Md.trans ac.md ae.md),aa,aa,aa,aa,aa,aa⟩ ?_
 rintro I c C ⟨i,hi,O,V,Y,aH,aI,aK,aL,aM,rfl⟩
 refine fx 0 aH<|fx 2 aI<|fx 3 aK<|fx 6 aL<|fx 7 aM<|ak fun an=>p (lt aa aa)<|nl<|an<|aB fun ap=>cd aa (fun aF=> ?_) fun aF=> ?_
 refine aR<|ap<|aB fun E=>az<|ak fun aq=>au (aj i)<|p (cg (aj i) aa)<|nl<|aq<|rg aa<|au (str s)<|au (aj i)<|p (kj u9 aa aa ab)<|e<|cl DE (Hf A (s.getD i 0) _ _ O) aa fun aV aO aE=> ?_
 obtain ⟨rfl,av,Z⟩:=aE
 have aC:Wk w aO:=Md.trans' Y Z fun k hk h=>by have :=ac.md.size; omega
 exact nl<|bn<|E<|rg aa<|p (ad aa aa<|cz ab)<|p mv<|nl<|tn<|⟨_,ab,i+1,ab,(by rw [NX (fun x=>(RL (show i < s.length by omega) x).symm)]; exact av),(Z.B V fun h=>by omega),aC,aa,aa,aa,aa,aa,aa⟩
 refine ext<|bj<|bj<|be<|ai<|ak fun E=>p (cE kg aa (aa) fun j aG=>by rw [fN]; exact (O).aJ j)<|e<|dd oO aa (vs:=dV fun x=>decide (x∈s.take i)) aa aa aa V aw fun aX aD aA=>nl<|E<|rt<|tL aa (dZ aa kg aa fun j aG=>by rw [fN]; exact aA.aJ j) ?_
 have aN:s.take i=s:=fu ab
 rw [aN]
 exact ⟨aa,Md.trans' Y aD fun k hk h=>by omega⟩
theorem RN (s:List UInt8) (c:UInt8) (w:World):
 bf ao 257 (a7 [str s,.int .u8 c.toNat]) w (fun v w'=>v= .int .i64 (eB c s)∧Wk w w'):=by
 exact enter func257 aa ntmps257 aa<|ak fun A=>ay<|A<|ak fun C=>au (str s)<|au (.int .u8 c.toNat)<|e<|cl DK (FX s c _) aa fun G I E=>ay<|C<|rt<|a8 aa<|E
theorem OK (s pr:List UInt8) (w:World) (hs:s.length≤1099511627776) (V:pr.length≤1099511627776):
 bf ao 163 (a7 [str s,str pr]) w (fun v w'=>v= .tuple #[str (eO s pr),.bool (decide (s.take pr.length=pr))]∧Wk w w'):=by
 refine enter func163 aa ntmps163 aa<|ak fun G=>p aE<|ay<|G<|aB fun I=>aB fun J=>rg aa<|au (str s)<|au (str pr)<|e<|cl yZ (Aj s pr _ hs V) aa fun Z ac O=> ?_
 obtain ⟨rfl,E⟩:=O
 refine p (no aa)<|nl<|J<|cb aa (fun C=> ?_) fun C=> ?_
 have c:¬s.take pr.length=pr:=by simpa using C
 exact ak fun A=>au (str s)<|p (cg (str s) aa)<|ay<|A<|rt<|tr<|f2 aa aa aa<|⟨by unfold eO; rw [if_neg c,decide_eq_false c]; rfl,E⟩
 have c:s.take pr.length=pr:=by simpa using C
 have Y:=Bc c
 exact aR<|I<|ak fun A=>au (str s)<|au (str pr)<|p (dC u9 aa aa)<|p (o0 u9 aa aa ab)<|p aE<|ay<|A<|rt<|f2 aa aa aa<|⟨by unfold eO; rw [if_pos c,decide_eq_true c]; rfl,E⟩
theorem Ek (s pr:List UInt8) (w:World) (hs:s.length≤1099511627776) (G:pr.length≤1099511627776):
 bf ao 103 (a7 [str s,str pr]) w (fun v w'=>v= .tuple #[str (eO s pr),.bool (decide (s.take pr.length=pr))]∧Wk w w'):=by
 refine enter func103 aa ntmps103 aa<|ak fun c=>p aE<|ay<|c<|ak fun A=>au (str s)<|au (str pr)<|e<|cl LV (OK s pr _ hs G) aa fun I J E=> ?_
 obtain ⟨rfl,C⟩:=E
 exact p (xt aa aa)<|p (xt aa aa)<|p aE<|ay<|A<|rt<|f2 aa aa aa<|⟨aa,C⟩
theorem Wo (s pr:List UInt8):(eO s pr).length≤s.length:=by unfold eO; split <;> simp
def il (s:List UInt8) (k:Nat):List UInt8:=(s.drop k).take<|(s.drop k).idxOf 93
theorem Ln (s:List UInt8) (k:Nat):(il s k).length≤s.length:=by unfold il; rw [eE,gI]; omega
theorem Lm (s:List UInt8) (k:Nat):(s.take<|k+(s.drop k).idxOf 93).drop k=il s k:=by
 rw [yd,Nat.add_sub_cancel_left]; rfl
def pI (s:List UInt8) (k:Nat):UInt8→Bool:=fun x=>if (il s k).take 1= [94] then !decide (x∈eO (il s k) [94]) else decide (x∈eO (il s k) [94])
theorem Lq {s:List UInt8} {k:Nat} (h:(il s k).take [(94:UInt8)].length= [94]):pI s k=fun x=> !decide (x∈eO (il s k) [94]):=by
 funext x; exact if_pos h
theorem Lr {s:List UInt8} {k:Nat} (h:¬(il s k).take [(94:UInt8)].length= [94]):pI s k=fun x=>decide (x∈eO (il s k) [94]):=by
 funext x; exact if_neg h
theorem Lo (s:List UInt8) (k:Nat) (w:World) (hs:s.length≤1048576) (hk:k≤s.length):
 bf ao 218 (a7 [str s,aj k]) w (fun v w'=>(∃ f,v= .tuple #[.agg (dV f).toArray,.int .i64 (if eB 93 (s.drop k) < 0 then 0 else ((k+(s.drop k).idxOf 93 +1:Nat):Int)),.bool (!decide (eB 93 (s.drop k) < 0) && decide (eO (il s k) [94]≠[]))]∧(¬eB 93 (s.drop k) < 0→f=pI s k))∧Wk w w'):=by
 refine enter func218 aa ntmps218 aa<|ak fun aC=>e<|al qS fun ai bt bd O J=>p aE<|ay<|aC<|aB fun aD=>rg aa<|au (str s)<|au (aj k)<|p (o0 u9 aa aa ab)<|e<|cl Mn (RN (s.drop k) 93 _) aa fun bm bo aY=> ?_
 obtain ⟨rfl,A⟩:=aY
 have bi:(s.drop k).length=s.length - k:=gI
 refine ay<|aD<|aB fun aF=>ak fun aG=>p mv<|p (lt aa aa)<|nl<|aG<|cd aa (fun C=> ?_) fun C=> ?_
 refine ak fun Y=>p (Da (ps:= []) (L:= [.int .u64 0,.int .u64 0,.int .u64 0,.int .u64 0]) C9 aa<|aa)<|e<|dd oO aa (vs:=dV fun _=>false) (by rw [zm]; rfl) aa aa (A.B J) aw fun br aW aK=>p aE<|ay<|Y<|rt<|tr<|EO aa (dZ aa kg aa fun j ag=>by rw [fN]; exact aK.aJ j) eI eI ?_
 refine ⟨⟨fun _=>false,by rw [if_pos C,decide_eq_true C]; rfl,fun h=>absurd C h⟩,Md.trans' (Md.trans O.md A) aW fun k hk h=>by omega⟩
 have bj:=r8 (c:=93) (l:=s.drop k) C
 have bh:(il s k).length≤s.length:=Ln s k
 refine aR<|aF<|aB fun Y=> ?_
 have aA:=Lm s k
 refine rg aa<|au (str s)<|au (aj k)<|au (aj k)<|p mv<|p (bK ((k+(s.drop k).idxOf 93:Nat):Int) aa aa<|bl ab ab)<|p (uz u9 aa aa aa ab)<|e<|cl Di (Ek ((s.take<|k+(s.drop k).idxOf 93).drop k) [94] _ (by rw [aA]; omega) aw) aa fun v25 bp az=> ?_
 rw [aA] at az
 obtain ⟨rfl,G⟩:=az
 have bk:=Wo (il s k) [94]
 refine p mv<|p (xt aa aa)<|p (xt aa aa)<|p aE<|ay<|Y<|aB fun aH=>rg aa<|p mv<|e<|cl Mo (Oc (eO (il s k) [94]) _ ab) aa fun bn bq aZ=> ?_
 obtain ⟨rfl,I⟩:=aZ
 refine e<|al qS fun ah a8 bc ax aI=> ?_
 have aQ:Wk w a8:=Md.trans O.md<|Md.trans A<|Md.trans G<|Md.trans I ax.md
 have am:=ax.md.B<|I.B<|G.B<|A.B J
 have bg:=am.lt
 refine e<|dd oO aa (vs:=dV fun x=>decide (x∈eO (il s k) [94])) aa aa aa aI aw fun a9 aq ac=> ?_
 have ap:Wk w a9:=Md.trans' aQ aq fun k hk h=>by have :=O.md.size; have :=A.size; have :=G.size; have :=I.size; omega
 have an:=aq.B am fun h=>by have :=J.lt; have :=A.size; have :=G.size; have :=I.size; omega
 refine nl<|aH ?_
 refine e8 (fun E V=>(bE V.heap ah<|dV<|pI s k)∧(bE V.heap ai [.int .u64 0,.int .u64 0,.int .u64 0,.int .u64 0])∧(Wk w V)∧(E 0=str s)∧(E 1=aj k)∧(E 4=aU ai)∧(E 7= .int .i64 (eB 93<|s.drop k))∧(E 8=str (eO (il s k) [94]))∧(E 10=aU ah)) ?_ ?_
 refine ak fun Z=>p mv<|nl<|Z<|cb aa (fun ae=> ?_) fun ae=> ?_
 refine rg aa<|p (cE kg aa (aa) fun j ag=>by rw [fN]; exact (ac).aJ j)<|e<|cl y0 (A5 (fun x=>decide (x∈eO (il s k) [94])) _) aa fun v32 bs a0=> ?_
 obtain ⟨rfl,ad⟩:=a0
 refine e<|dd oO aa (vs:=dV fun x=> !decide (x∈eO (il s k) [94])) aa aa aa (ad.B ac) (cj 4) fun ba av aM=> ?_
 have aS:Wk w ba:=Md.trans' (Md.trans ap ad) av fun k hk h=>by have :=O.md.size; have :=A.size; have :=G.size; have :=I.size; omega
 have aL:=av.B (ad.B an) fun h=>by have :=J.lt; have :=A.size; have :=G.size; have :=I.size; omega
 exact nl<|tn<|⟨(by rw [Lq (by simpa using ae)]; exact aM),aL,aS,aa,aa,aa,aa,aa,aa⟩
 exact aR<|tn<|⟨(by rw [Lr (by simpa using ae)]; exact ac),an,ap,aa,aa,aa,aa,aa,aa⟩
 rintro E V ⟨aO,aP,aV,a1,a2,a4,a5,a6,a3⟩
 refine fx 0 a1<|fx 1 a2<|fx 4 a4<|fx 7 a5<|fx 8 a6<|fx 10 a3<|ak fun Z=>p (cE kg aa (aa) fun j ag=>by rw [fN]; exact (aO).aJ j)<|au (aj k)<|au (.int .i64<|eB 93<|s.drop k)<|p (bK ((k+(s.drop k).idxOf 93:Nat):Int) aa aa<|bl ab ab)<|p (bK ((k+(s.drop k).idxOf 93 +1:Nat):Int) aa aa<|bl ab ab)<|au (str<|eO (il s k) [94])<|p (um aa aa)<|e<|dd oO aa (vs:=dV<|pI s k) aa aa aa aP aw fun bb aX aN=> ?_
 have aT:Wk w bb:=Md.trans' aV aX fun k hk h=>by omega
 refine p aE<|ay<|Z<|rt<|EO aa (dZ aa kg aa fun j ag=>by rw [fN]; exact aN.aJ j) eI eI ?_
 refine ⟨⟨pI s k,by rw [if_neg C,decide_eq_false C]; rfl,fun _=>rfl⟩,aT⟩
theorem RM (l:List UInt8) (a:Option Addr) (n c:Nat) (x:UInt8) (w:World) (I:aG w.heap a (U8 l)) (hn:l.length=n) (aA:n≤1048576):
 bf ao 282 (a7 [.slice a n c,.int .u8 x.toNat]) w (fun v w'=>v= .int .i64 (eB x l)∧Wk w w'):=by
 refine enter func282 aa ntmps282 aa<|ak fun Y=>ay<|Y<|aB fun Z=>ak fun ac=>au (.slice a n c)<|p (bP p5 aa aa)<|p mv<|nl<|ac<|az<|lp (fun G A V=> ∃ (i:Nat),(i≤n)∧(∀ j,j < i→l.getD j 0≠x)∧(V=w)∧(A 0= .slice a n c)∧(A 1= .int .u8 x.toNat)∧(A 7=aj n)∧(A 8=aj i)∧(n - i=G)) _ ⟨0,ab,(fun j O=>by omega),aa,aa,aa,aa,aa,aa⟩ ?_
 rintro G A V ⟨i,hi,E,am,ap,aq,av,aw,rfl⟩
 refine fx 0 ap<|fx 1 aq<|fx 7 av<|fx 8 aw ?_
 subst am
 refine ak fun ae=>p (lt aa aa)<|nl<|ae<|aB fun ag=>cd aa (fun an=> ?_) fun an=> ?_
 refine aR<|ag<|aB fun C=>az<|ak fun ah=>au (aj i)<|p (cg (aj i) aa)<|nl<|ah<|ak fun ai=>au (.int .u8 x.toNat)<|au (.slice a n c)<|au (aj i)<|p (bc qC aa aa ab<|aG.ok (I)<|BM ab)<|p (ld yF aa<|BK (i:=i) I ab)<|p (cx aa aa)<|nl<|ai<|cd aa (fun J=> ?_) fun J=> ?_
 have ax:l.getD i 0=x:=rp.1 ab
 exact ak fun al=>au (aj i)<|p (cg (aj i) aa)<|nl<|al<|rt<|br<|tr<|tr<|br<|tr<|a8 aa<|⟨by rw [Sa (show i < l.length by omega) E ax]; rfl,Md.refl _ _⟩
 exact aR<|bn<|C<|rg aa<|p (ad aa aa<|cz ab)<|p mv<|nl<|tn<|⟨_,ab,i+1,ab,(fun j O=>by rcases jk j i with h | h <;> first | exact E j h | (rw [show j=i by omega]; exact fun h2=>J<|by rw [h2])),aa,aa,aa,aa,aa,aa⟩
 exact ext<|bj<|bj<|be<|Z<|ak fun C=>p aE<|nl<|C<|rt<|a8 aa<|⟨by rw [Sb (fun j O=>E j ab)]; rfl,Md.refl _ _⟩
theorem O4 (l:List UInt8) (i j:Nat) (B n cp c:Nat) (w:World) (hO:bq w B 5 1 (.slice (some ⟨c,0,none⟩) n cp) n (U8 l)) (al:i < j∧j≤n) (an:n≤1048576):
 bf ao 283 (a7 [.slice (some ⟨c,0,none⟩) n cp,aj i,aj j]) w (fun v w'=>v= .slice (some ⟨c,0,none⟩) (i+(n - j)) cp∧bq w' B 5 1 (.slice (some ⟨c,0,none⟩) (i+(n - j)) cp) (i+(n - j)) (U8<|l.take i++l.drop j)∧Md (fun q=>q=c) w w'):=by
 have am:=BL hO
 have ai:=(aY hO).1
 refine enter func283 aa ntmps283 aa<|ak fun C=>ay<|C<|ak fun E=>au (.slice (some ⟨c,0,none⟩) n cp)<|au (aj i)<|au (aj j)<|au (.slice (some ⟨c,0,none⟩) n cp)<|p (bP p5 aa aa)<|p (Vs qC aa aa aa aa ab)<|nl<|E<|aB fun G=>ak fun I=>au (aj i)<|au (aj j)<|p (cx aa aa)<|nl<|I<|cd aa (fun h=>absurd h ab) fun ah=>aR<|G<|ak fun J=>au (.slice (some ⟨c,0,none⟩) n cp)<|p (bP p5 aa aa)<|p aE<|nl<|J<|aB fun O=> ?_
 have A:(fun w'=>Wk w w') w.drew:=(Md.refl _ _).drew
 refine eG (fun w'=>Wk w w') 6 aa wide A<|bp 0 aa (.slice (some ⟨c,0,none⟩) n cp) A<|bp 1 aa (aj i) A<|bF 2 aa (fun _=>ux qC aa aa ab) (fun _=>A)<|bp 3 aa (.slice (some ⟨c,0,none⟩) n cp) A<|bp 4 aa (aj j) A<|bF 5 aa (fun _=>uy qC aa aa ab) (fun _=>A)<|dw 6 aa ag ag<|KU (B:=B) (xs:=U8<|l.take i) (news:=U8<|l.drop j) (n:=i) (m:=n - j) qO (A6 (ba hO A) ab ab) aa aa (show aG _ (fD (some ⟨c,0,none⟩) cp j 1) (U8<|l.drop j) from WA<|ba hO A) (by unfold fD; split <;> simp) (by rw [vq,gI]; omega) (Ko _) ab fun ap Z ad=>bF 7 aa (fun _=>aE) (fun h=>c7<|(show true =_ from by kernel_rfl).trans h)<|eF ag<|O<|ak fun V=>au (.slice (some ⟨c,0,none⟩) (i+(n - j)) cp)<|au (.slice (some ⟨c,0,none⟩) (i+(n - j)) cp)<|p (bP p5 aa aa)<|p mv<|p (Vt qC aa aa aa ab) ?_
 exact e<|NS p5 Xx aa ad (by simp) aa ab fun aq ac ae=>nl<|V<|ak fun Y=>au (.slice (some ⟨c,0,none⟩) (i+(n - j)) cp)<|p (cg (.slice (some ⟨c,0,none⟩) (i+(n - j)) cp) aa)<|nl<|Y<|rt<|a8 aa<|⟨aa,by rw [vp]; exact ae,Md.trans (A.mono fun _ _ h=>h.elim)<|Md.trans Z<|ac.mono fun q _ h=>by simpa [Value.ownBlock] using h.symm⟩
end Go.Hb.pF
section
namespace Go.Hb
open Go.Hb.pF
theorem Dc {s:List UInt8} {k:Nat} (h:(s.drop k).idxOf 93 < (s.drop k).length):eO (il s k) [94]≠[]↔(s.drop k).idxOf 93≠0∧¬((s.drop k).idxOf 93=1∧(s.drop k).getD 0 0=94):=by
 unfold il eO
 generalize A:s.drop k=l at*
 cases l with
 | nil=>simp at h
 | cons b r=>
   generalize hm:(b::r).idxOf 93=m at*
   cases m with
   | zero=>simp
   | succ m=>
     simp only [bS] at h
     simp only [sZ,iG,pB,mJ,uZ,u6]
     by_cases c:b=94
     · subst c
       rw [if_pos rfl]
       cases m with
       | zero=>simp
       | succ m=>
         cases r with
         | nil=>simp at h
         | cons x r=>simp
     · rw [if_neg (by simpa using c)]
       simp [c]
theorem Ls {s:List UInt8} {k:Nat} (h:(s.drop k).idxOf 93 < (s.drop k).length) (E:(s.drop k).idxOf 93≠0):pI s k=fy (91::(s.drop k).take ((s.drop k).idxOf 93 +1)):=by
 funext x
 unfold pI il eO fy
 generalize I:s.drop k=l at*
 cases l with
 | nil=>simp at h
 | cons b r=>
   generalize hm:(b::r).idxOf 93=m at*
   cases m with
   | zero=>exact absurd rfl E
   | succ m=>
     simp only [bS] at h
     have G:(91::rj (m+1 +1) (b::r)).length=m+3:=by simp only [bS,eE]; omega
     rw [G,if_neg (show ¬m+3=1 by omega)]
     have A:(91::rj (m+1 +1) (b::r)).getD 1 0=b:=rfl
     have C:rj (m+3 - 1) (91::rj (m+1 +1) (b::r))=91::rj (m+1) (b::r):=by
      show rj (m+2) (91::rj (m+2) (b::r))=_
      rw [sZ,List.take_take,Nat.min_eq_left ab]
     rw [A,C]
     simp only [sZ,pB,uZ,u6,iG]
     by_cases c:b=94
     · subst c; simp
     · simp [c]
theorem Pt:(fun x:UInt8=> !(fun _:UInt8=>false) x)=fy [46]:=by funext x; simp [fy]
theorem TP {c:UInt8} (h:c≠46):(fun x:UInt8=>(fun _:UInt8=>false) x || decide (x=c))=fy [c]:=by
 funext x
 simp only [fy,iG,if_true,Bool.false_or,mJ]
 exact decide_eq_decide.2 ⟨fun h1=> .inr h1.symm,fun h1=>(h1.resolve_left h).symm⟩
theorem Ec {ps:List (List UInt8)} (h:0 < ps.length):kF ps≠[]:=zT (f:=fun t=>dV<|fy t) (m:=4) (fun _=>rfl) aw h
theorem Eb {h:Array Obj} {a:Option Addr} {ps:List (List UInt8)} {i:Nat} (c:aG h a (kF ps)) (hi:i < ps.length):∀ j,j < 4→Hb.aJ h (bk a) (fo a+i*4 +j)=(dV<|fy<|ps.getD i [])[j]? :=by
 have :=ic (f:=fun t=>dV<|fy t) (m:=4) (fun _=>rfl) c<|bX hi
 rw [cU,bX hi]; exact this
theorem F3 {b:UInt8} (h:(b.toNat:Int)=91):b=91:=rp.1 (by have :(91:UInt8).toNat=91:=rfl; omega)
theorem AX {b:UInt8} (h:¬(b.toNat:Int)=91):b≠91:=by rintro rfl; exact h rfl
theorem F2 {b:UInt8} (h:(b.toNat:Int)=46):b=46:=rp.1 (by have :(46:UInt8).toNat=46:=rfl; omega)
theorem GY {b:UInt8} (h:¬(b.toNat:Int)=46):b≠46:=by rintro rfl; exact h rfl
theorem G3 {w:World} {B:Nat} {v:Value} {l:List (List UInt8)} {x:List UInt8} (h:w.ownsRow B 321 4 v (l.length+1) (kF l++dV (fy x))):w.ownsRow B 321 4 v (l++ [x]).length (kF<|l++ [x]):=by
 rw [bJ,NU]; simpa [kF] using h
theorem O5 (l:List UInt8) (i j:Nat) (A C:Int) (B n cp c:Nat) (w:World) (hO:bq w B 5 1 (.slice (some ⟨c,0,none⟩) n cp) n (U8 l)) (E:i < j∧j≤n) (I:n≤1048576) (hi:A=(i:Nat)) (G:C=(j:Nat)):
 bf ao 283 (a7 [.slice (some ⟨c,0,none⟩) n cp,.int .i64 A,.int .i64 C]) w (fun v w'=>v= .slice (some ⟨c,0,none⟩) (i+(n - j)) cp∧bq w' B 5 1 (.slice (some ⟨c,0,none⟩) (i+(n - j)) cp) (i+(n - j)) (U8<|l.take i++l.drop j)∧Md (fun q=>q=c) w w'):=by
 subst hi G; exact O4 l i j B n cp c w hO E I
theorem Vn (f:UInt8→Bool) (w:World):
 bf ao 266 (a7 [.agg (dV<|f).toArray]) w (fun v w'=>v=str (lF f)∧Wk w w'):=by
 have bW:(bytesOf f).length≤256:=tt f 256
 have bX:(bytesOf fun x=> !f x).length≤256:=tt _ 256
 refine enter func266 aa ntmps266 aa<|ak fun a4=>e<|jm aa fun bg aK av ag aM=>ay<|a4<|ak fun a5=>p (cE kg aa (aa) fun j aV=>by rw [fN]; exact (aM).aJ j)<|e<|cl DL (Dh f _) aa fun v6 a0 bx=> ?_
 obtain ⟨aj,aq⟩:=bx
 obtain ⟨C,A,rfl⟩:=c5 aj
 have I:=(aY aj).2
 have ae:Wk w a0:=Md.trans ag.md aq
 have aN:=aq.B aM
 refine ay<|a5<|aB fun a9=>az<|ak fun bb=>au (.slice C (bytesOf f).length A)<|p (bP p5 aa aa)<|p (cx aa aa)<|ay<|bb<|cd aa (fun bA=> ?_) fun bA=> ?_
 exact ak fun J=>ay<|J<|rt<|br<|tr<|a8 aa<|⟨by unfold lF; rw [if_pos (show (bytesOf f).length=256 by omega)]; rfl,ae⟩
 refine e8 (fun am a1=> ∃ (an:Bool),(an=decide ((bytesOf f).length=1∧(bytesOf f).getD 0 0≠46∧(bytesOf f).getD 0 0≠91))∧(a1=a0)∧(am 1=aU bg)∧(am 3= .slice C (bytesOf f).length A)∧(am 11= .bool an)) ?_ ?_
 refine rg aa<|au (.slice C (bytesOf f).length A)<|p (bP p5 aa aa)<|p (cx aa aa)<|p mv<|gs (t:=15) aa (fun bB=> ?_) fun bB=> ?_
 refine a6 aa (aH (.slice C (bytesOf f).length A) aa)<|a6 aa (bc qC aa aa ab<|aG.ok (I)<|BM ab)<|a6 aa (ld yF aa<|BK (i:=0) I ab)<|a6 aa (gF aa aa)<|p (bO aa)<|p mv<|gs (t:=21) aa (fun aS=> ?_) fun aS=> ?_
 exact a6 aa (aH (.slice C (bytesOf f).length A) aa)<|a6 aa (bc qC aa aa ab<|aG.ok (I)<|BM ab)<|a6 aa (ld yF aa<|BK (i:=0) I ab)<|a6 aa (gF aa aa)<|p (bO aa)<|p aE<|nl<|tn<|⟨_,(by first | exact decide_eq_decide.2 ⟨fun h=>⟨ab,by first | exact GY ab | exact fun h=>by omega,by first | exact AX ab | exact fun h=>by omega⟩,fun h=>by have h1:=h.2.2; exact fun h2=>h1<|F3 h2⟩ | rfl),aa,aa,aa,aa⟩
 exact aT aa<|aT aa<|aT aa<|aT aa<|p (bG aa)<|p aE<|nl<|tn<|⟨false,((decide_eq_false fun h=>h.2.1<|F2<|Decidable.of_not_not aS).symm),aa,aa,aa,aa⟩
 exact aT aa<|aT aa<|aT aa<|aT aa<|p (bG aa)<|p mv<|aT aa<|aT aa<|aT aa<|aT aa<|p (bG aa)<|p aE<|nl<|tn<|⟨false,((decide_eq_false fun h=>by omega).symm),aa,aa,aa,aa⟩
 rintro am a1 ⟨an,av,bo,bH,bK,bI⟩
 refine fx 1 bH<|fx 3 bK<|fx 11 bI ?_
 subst bo
 refine cb aa (fun ax=> ?_) fun ax=> ?_
 have al:(bytesOf f).length=1∧(bytesOf f).getD 0 0≠46∧(bytesOf f).getD 0 0≠91:=of_decide_eq_true<|av ▸ ax
 exact ak fun J=>au (.slice C (bytesOf f).length A)<|p (zn yO aa (I)<|by simp)<|ay<|J<|rt<|br<|tr<|a8 aa<|⟨by unfold lF; rw [if_neg (show ¬(bytesOf f).length=256 by omega),if_pos al]; rfl,ae⟩
 have al:¬((bytesOf f).length=1∧(bytesOf f).getD 0 0≠46∧(bytesOf f).getD 0 0≠91):=of_decide_eq_false<|av ▸ ax
 refine ak fun J=>p (cE kg aa (aa) fun j aV=>by rw [fN]; exact (aN).aJ j)<|e<|cl y1 (FN f 93 _ _ rfl) aa fun v31 b2 bs=> ?_
 obtain ⟨rfl,E⟩:=bs
 refine ay<|J<|cb aa (fun aA=> ?_) fun aA=> ?_
 refine ak fun O=>p (cE kg aa (aa) fun j aV=>by rw [fN]; exact (E.B aN).aJ j)<|e<|cl y0 (A5 f _) aa fun v33 b3 bt=> ?_
 obtain ⟨rfl,bi⟩:=bt
 refine e<|cl DL (Dh (fun x=> !f x) _) aa fun b0 b4 bu=> ?_
 obtain ⟨aX,bj⟩:=bu
 obtain ⟨bR,bU,rfl⟩:=c5 aX
 exact p (zn yO aa ((aY aX).2)<|aa)<|p (cc aa aa<|by simp only [bS,gJ]; omega)<|p (cc aa aa<|by simp only [bS,gJ,bJ]; omega)<|ay<|O<|rt<|br<|tr<|a8 aa<|⟨by unfold lF; rw [if_neg (show ¬(bytesOf f).length=256 by omega),if_neg al,if_pos aA]; rfl,Md.trans ae<|Md.trans E<|Md.trans bi bj⟩
 refine aR<|bn<|a9 ?_
 refine e8 (fun a3 aL=> ∃ (V:Option Addr) (G Y:Nat),(((bytesOf f).filter (fun b=>decide (b≠94))++(if 94∈(bytesOf f) then [94] else [])).length=G)∧(bq aL aK.heap.size 5 1 (.slice V G Y) G<|U8<|(bytesOf f).filter (fun b=>decide (b≠94))++(if 94∈(bytesOf f) then [94] else []))∧(Wk w aL)∧(G≤300)∧(a3 3= .slice V G Y)) ?_ ?_
 refine ak fun O=>au (.slice C (bytesOf f).length A)<|e<|cl Ms (RM (bytesOf f) C _ A 94 _ (I.wk E) aa ab) aa fun v39 bM bv=> ?_
 obtain ⟨rfl,ac⟩:=bv
 have aO:Wk w bM:=Md.trans ae<|Md.trans E ac
 refine ay<|O<|ak fun bd=>p mv<|p (ge aa aa)<|nl<|bd<|cd aa (fun bz=> ?_) fun bz=> ?_
 have aC:=r8 (c:=94) (l:=bytesOf f) ab
 have aD:=ba (ba aj E) ac
 obtain ⟨Z,rfl⟩:=T2 aD ab
 refine rg aa<|au (.slice (some ⟨Z,0,none⟩) (bytesOf f).length A)<|p mv<|p mv<|p (ad aa aa<|cz ab)<|e<|cl Mt (O5 (bytesOf f) ((bytesOf f).idxOf 94) ((bytesOf f).idxOf 94 +1) _ _ aK.heap.size _ A Z _ aD ab ab ab ab) aa fun v46 bN bw=> ?_
 obtain ⟨rfl,aF,aQ⟩:=bw
 have bk:Wk w bN:=Md.trans' aO aQ fun k hk h=>by have :=da aD (show (bC (some ⟨Z,0,none⟩) _ A).ownBlock=some Z from rfl); have :=ag.md.size; omega
 have bD:=BL aF
 refine e<|lk qO aa aa fun bT b5 bV ah bh=>e<|ap qO (ba aF ah.md) aa (by have :=ag.md.size; have :=aq.size; have :=E.size; have :=ac.size; have :=aQ.size; have :=ah.md.size; omega) aa (aG.gl bh) (aa) (aa) ab ab fun b1 bQ aI bp bZ bY=> ?_
 have bl:=Wk.own (Md.trans bk ah.md) (ba aF ah.md) bp ag.md.size
 rw [RI (Lz f) aC.2] at bD aI
 obtain ⟨a2,c2,rfl⟩:=c5 aI
 have aZ:bq bQ aK.heap.size 5 1 (.slice a2 (((bytesOf f).idxOf 94 +((bytesOf f).length - ((bytesOf f).idxOf 94 +1)))+1) c2) (((bytesOf f).idxOf 94 +((bytesOf f).length - ((bytesOf f).idxOf 94 +1)))+1) (U8<|(bytesOf f).filter (fun b=>decide (b≠94))++ [94]):=by rw [vp]; exact aI
 exact p aE<|nl<|tn<|⟨a2,_,c2,(by have :=BL aZ; rw [if_pos (vb.1 aC.2)]; exact this),(by rw [if_pos (vb.1 aC.2)]; exact aZ),bl,(ab),aa⟩
 have ai:¬(94:UInt8)∈bytesOf f:=fun h=>by have h1:eB 94 (bytesOf f)=(bytesOf f).idxOf 94:=if_pos (vb.2 h); omega
 exact aR<|tn<|⟨C,(bytesOf f).length,A,(by rw [if_neg ai,GO ai,eu]),(by rw [if_neg ai,GO ai,eu]; exact ba (ba aj E) ac),aO,(ab),aa⟩
 rintro a3 aL ⟨V,G,Y,aW,bF,bm,bE,bL⟩
 refine fx 3 bL ?_
 have aP:((bytesOf f).filter (fun b=>decide (b≠94))++(if 94∈(bytesOf f) then [94] else [])).length≤300:=by rw [aW]; exact bE
 exact ak fun O=>au (.slice V G Y)<|p (zn yO aa ((aY bF).2)<|aW)<|p (cc aa aa<|dS (JV aP _) aw)<|p (cc aa aa<|by rw [bJ]; exact dS (Nat.add_le_add_right (JV aP _) _) aw)<|p aE<|nl<|O<|rt<|a8 aa<|⟨by unfold lF; rw [if_neg (show ¬(bytesOf f).length=256 by omega),if_neg al,if_neg (show ¬f 93=true from by rw [aA]; exact c7)]; rfl,bm⟩
theorem Ej (s:List UInt8) (w:World) (hs:s.length≤1048576):
 bf ao 164 (a7 [str s]) w (fun v w'=>(∃ a,v= .tuple #[.agg [a].toArray,aj ((eb s).2)]∧bq w' w.heap.size 321 4 (a) ((eb s).1).length (kF<|(eb s).1))∧Wk w w'):=by
 refine enter func164 aa ntmps164 aa<|ak fun b6=>e<|dY xQ fun aK dT dB ag ax=>ay<|b6<|aB fun cc=>aB fun bw=>rg aa<|au (str s)<|p (jD aa aa)<|p mv<|gs (t:=10) aa (fun Y=> ?_) fun Y=> ?_
 refine aT aa<|aT aa<|aT aa<|p (bO aa)<|nl<|bw<|ct aa<|aB fun an=>rg aa<|p (du (ps:= []) (L:= [.slice none 0 0]) uB aa<|aa)<|e<|fk pM aa (vs:= [.slice none 0 0]) aa aa aa ax aw fun G A C=> ?_
 have E:Wk w G:=Md.trans' ag.md A fun k hk h=>by omega
 exact ay<|an<|rt<|tr<|fg aa (dZ (cs:= [.slice none 0 0]) aa mi aa fun j I=>by cases j with | zero=>exact (aV C).trans aa | succ j=>omega) eI<|⟨⟨.slice none 0 0,by unfold eb; rw [if_pos (.inl Y)]; rfl,by unfold eb; rw [if_pos (.inl Y)]; exact eh _ _ _ _⟩,E⟩
 refine a6 aa (aH (str s) aa)<|a6 aa (dC u9 aa aa)<|a6 aa (gt aa aa)<|p (bG aa)<|nl<|bw<|cd aa (fun cY=> ?_) fun cY=> ?_
 refine ak fun an=>p (du (ps:= []) (L:= [.slice none 0 0]) uB aa<|aa)<|e<|fk pM aa (vs:= [.slice none 0 0]) aa aa aa ax aw fun G A C=> ?_
 have E:Wk w G:=Md.trans' ag.md A fun k hk h=>by omega
 exact ay<|an<|rt<|tr<|fg aa (dZ (cs:= [.slice none 0 0]) aa mi aa fun j I=>by cases j with | zero=>exact (aV C).trans aa | succ j=>omega) eI<|⟨⟨.slice none 0 0,by unfold eb; rw [if_pos (.inr ab)]; rfl,by unfold eb; rw [if_pos (.inr ab)]; exact eh _ _ _ _⟩,E⟩
 refine aR<|cc<|aB fun an=>ak fun ce=>au (str s)<|p (jD aa aa)<|nl<|ce<|cd aa (fun ah=> ?_) fun ah=> ?_
 refine ak fun a9=>p (du (ps:= []) (L:= [.slice none 0 0]) uB aa<|aa)<|e<|fk pM aa (vs:= [.slice none 0 0]) aa aa aa ax aw fun G A C=> ?_
 have E:Wk w G:=Md.trans' ag.md A fun k hk h=>by omega
 refine ay<|a9<|rt<|tr<|fg aa (dZ (cs:= [.slice none 0 0]) aa mi aa fun j I=>by cases j with | zero=>exact (aV C).trans aa | succ j=>omega) eI ?_
 have bY:¬(s= []∨512 < s.length):=fun h=>h.elim Y fun h=>by omega
 exact ⟨⟨.slice none 0 0,by unfold eb; rw [if_neg bY,if_pos ah]; rfl,by unfold eb; rw [if_neg bY,if_pos ah]; exact eh _ _ _ _⟩,E⟩
 refine aR<|an<|ak fun a9=>e<|dY xQ fun aq dy dE bU cv=> ?_
 have cR:Wk w dy:=Md.trans ag.md bU.md
 have dD:=(bT.1 ax).1
 have cu:=bU.md.az ax
 have hs:=hs
 refine nl<|a9<|aB fun cf=>ak fun cg=>ay<|cg<|az<|lp (fun bx aI ac=> ∃ (i:Nat) (c:List (List UInt8)) (aF:Value),(i≤s.length∧c.length≤i)∧(kQ s i c)∧(ac.heap[aq]? =some (.cells [aF].toArray 275 (0,0)))∧(ac.heap[aK]? =some (.cells [.slice none 0 0].toArray 275 (0,0)))∧(bq ac w.heap.size 321 4 (aF) (c).length<|kF<|c)∧(Wk w ac)∧(aI 0=str s)∧(aI 2=aU aK)∧(aI 4=aU aq)∧(aI 5=aj i)∧(s.length - i=bx)) _ ⟨0,[],.slice none 0 0,(by simp),(kQ.start s),cv,cu,(eh _ _ _ _),cR,aa,aa,aa,(by first | rfl | exact iv<|if_neg aD),aa⟩ ?_
 rintro bx aI ac ⟨i,c,aF,hi,aZ,aM,aA,Z,ad,c9,db,dc,de,rfl⟩
 refine fx 0 c9<|fx 2 db<|fx 4 dc<|fx 5 de<|aB fun ch=>ak fun b7=>au (aj i)<|au (str s)<|p (dC u9 aa aa)<|p (lt aa aa)<|nl<|b7<|cd aa (fun cZ=> ?_) fun cZ=> ?_
 refine aR<|ch<|az<|ak fun a3=>e<|al qS fun av b5 bV aW cB=> ?_
 have aL:bE b5.heap av (dV fun _=>false):=by rw [zm]; exact cB
 have bh:Wk w b5:=Md.trans ad aW.md
 have bd:=aW.md.az aM
 have bg:=aW.md.az aA
 have bu:=ba Z aW.md
 have bV:av=ac.heap.size:=bV
 have dA:=(bT.1 aM).1
 have dz:=(bT.1 aA).1
 have bs:=drop_cons (l:=s) (i:=i) 0 ab
 refine nl<|a3<|ak fun a4=>ay<|a4 ?_
 refine e8 (fun am ai=>(s.getD i 0≠91)∧(bE ai.heap av<|dV<|fy [s.getD i 0])∧(ai.heap[aq]? =some (.cells [aF].toArray 275 (0,0)))∧(ai.heap[aK]? =some (.cells [.slice none 0 0].toArray 275 (0,0)))∧(bq ai w.heap.size 321 4 (aF) (c).length<|kF<|c)∧(Wk w ai)∧(am 0=str s)∧(am 2=aU aK)∧(am 4=aU aq)∧(am 5=aj i)∧(am 6=aU av)) ?_ ?_
 refine ak fun O=>au (str s)<|au (aj i)<|p (kj u9 aa aa ab)<|nl<|O<|az<|ak fun b8=>p (cx aa aa)<|ay<|b8<|cd aa (fun aX=> ?_) fun aX=> ?_
 refine aB fun a5=>ak fun b9=>au (str s)<|au (aj i)<|p (bK ((i+1:Nat):Int) aa aa<|bl ab ab)<|e<|cl Mb (Lo s (i+1) _ hs ab) aa fun dR dx cW=> ?_
 obtain ⟨⟨cm,rfl,c1⟩,hE36⟩:=cW
 have cQ:Wk w dx:=Md.trans bh hE36
 have bX:=F3 aX
 refine p mv<|p (xt aa aa)<|p (xt aa aa)<|p (xt aa aa)<|e<|dd oO aa (vs:=dV cm) aa aa aa (hE36.B aL) aw fun dr aN bz=> ?_
 have bQ:Wk w dr:=Md.trans' cQ aN fun k hk h=>by have :=ad.size; omega
 have dL:=hE36.size
 have bA:=aN.az (hE36.az bd) fun h=>by omega
 have bL:=aN.az (hE36.az bg) fun h=>by omega
 have c3:=cD (ba bu hE36) aN fun k hk h=>by have :=da Z hk; omega
 have dH:(s.drop<|i+1).length=s.length - (i+1):=gI
 refine p aE<|ay<|b9<|ak fun ca=>p mv<|p (no aa)<|nl<|ca<|cb aa (fun V=> ?_) fun V=> ?_
 have aC:ki (s.drop i)=none:=by
  rw [bs,bX]
  refine Nr aa fun h=> ?_
  have dk:¬eB 93 (s.drop<|i+1) < 0:=by rw [show eB 93 (s.drop<|i+1)=(s.drop<|i+1).idxOf 93 from if_pos h.1]; omega
  have dl:=(Dc (s:=s) (k:=i+1) h.1).2 h.2
  rw [decide_eq_false dk,decide_eq_true dl] at V; cases V
 have aY:=aZ.bad ab aC
 refine ak fun a8=>p (du (ps:= []) (L:= [.slice none 0 0]) uB aa<|aa)<|e<|fk pM aa (vs:= [.slice none 0 0]) aa aa aa bL aw fun G A C=> ?_
 have E:Wk w G:=Md.trans' bQ A fun k hk h=>by omega
 refine ay<|a8<|rt<|tr<|br<|tr<|br<|tr<|br<|tr<|fg aa (dZ (cs:= [.slice none 0 0]) aa mi aa fun j I=>by cases j with | zero=>exact (aV C).trans aa | succ j=>omega) eI ?_
 have J:eb s=([],41):=by unfold eb; rw [if_neg (fun h=>h.elim Y fun h=>by omega),if_neg ah,aY]
 exact ⟨⟨.slice none 0 0,by rw [J]; rfl,by rw [J]; exact eh _ _ _ _⟩,E⟩
 have aD:¬eB 93 (s.drop<|i+1) < 0:=fun h=>by rw [decide_eq_true h] at V; cases V
 have dn:eO (il s<|i+1) [94]≠[]:=fun h=>by rw [h] at V; simp at V
 have a0:=r8 aD
 have bv:=(Dc (s:=s) (k:=i+1) a0.2).1 dn
 obtain rfl :=c1 aD
 rw [Ls a0.2 bv.1] at bz
 have aC:ki (s.drop i)=some (91::(s.drop<|i+1).take ((s.drop<|i+1).idxOf 93 +1),(s.drop<|i+1).drop ((s.drop<|i+1).idxOf 93 +1)):=by rw [bs,bX]; exact Nt rfl a0.2 bv.1 bv.2
 have bt:=aZ.step (j:=i+1 +(s.drop<|i+1).idxOf 93 +1) aC<|by rw [yc]; rfl
 have dK:(s.drop<|i+1).idxOf 93 < s.length - (i+1):=by have :=a0.2; omega
 refine aR<|a5<|ak fun a8=>p (fa lS aa)<|p (ld mR aa<|(aV bA).trans aa)<|p (cE kg aa (aa) fun j I=>by rw [fN]; exact (bz).aJ j)<|e<|pK xr aa aa aa fun ci b3 dF aQ cw=> ?_
 have cy:bE b3.heap ci (dV<|fy (91::(s.drop<|i+1).take ((s.drop<|i+1).idxOf 93 +1))):=cw
 have bR:Wk w b3:=Md.trans bQ aQ.md
 have a1:=ba c3 aQ.md
 have bB:=aQ.md.az bA
 have bM:=aQ.md.az bL
 refine e<|ap xr (a1) aa (by have :=bR.size; omega) aa (aG.gl cy) (aa) (Ed _) ab ab fun dp dU bZ bm dN dI=> ?_
 have b0:=G3 bZ
 have bD:=bm.az bB fun h=>dQ a1 bB aw h
 have cJ:=bm.az bM fun h=>dQ a1 bM aw h
 have cS:=Wk.own bR a1 bm<|cj _
 refine p (fa lS aa)<|e<|bW Ep aa aa (e7 bZ) bD (by simp) fun ds bi cn=> ?_
 have cM:Wk w ds:=Md.trans' cS bi fun k hk h=>by have :=ag.md.size; omega
 exact nl<|a8<|ext<|nX aw<|bj<|be<|tn<|⟨_,ab,i+1 +(s.drop<|i+1).idxOf 93 +1,c++ [91::(s.drop<|i+1).take ((s.drop<|i+1).idxOf 93 +1)],dp,(by rw [bJ,iG]; omega),bt,cn,(bi.az cJ fun h=>by omega),(cD b0 bi fun k hk h=>dQ b0 bD aw<|h ▸ hk),cM,aa,aa,aa,(by first | rfl | exact iv<|if_neg aD),aa⟩
 refine ak fun a5=>p (cx aa aa)<|ay<|a5<|cd aa (fun bp=> ?_) fun bp=> ?_
 refine rg aa<|p (cE kg aa (aa) fun j I=>by rw [fN]; exact (aL).aJ j)<|e<|cl y0 (A5 (fun _=>false) _) aa fun dS dW cX=> ?_
 obtain ⟨rfl,ae⟩:=cX
 refine e<|dd oO aa (vs:=dV fun x=> !(fun _:UInt8=>false) x) aa aa aa (ae.B aL) aw fun dt aO co=> ?_
 have dM:=ae.size
 have cN:Wk w dt:=Md.trans' (Md.trans bh ae) aO fun k hk h=>by have :=ad.size; omega
 have cF:=aO.az (ae.az bd) fun h=>by omega
 have cH:=aO.az (ae.az bg) fun h=>by omega
 have c4:=cD (ba bu ae) aO fun k hk h=>by have :=da Z hk; omega
 exact nl<|bn<|tn<|⟨(AX aX),(by rw [F2 bp,← Pt]; exact co),cF,cH,c4,cN,aa,aa,aa,aa,aa⟩
 refine rg aa<|au (str s)<|au (aj i)<|p (kj u9 aa aa ab)<|e<|cl DE (Hf av (s.getD i 0) _ _ aL) aa fun dP dw cV=> ?_
 obtain ⟨rfl,cq,aP⟩:=cV
 have cP:Wk w dw:=Md.trans' bh aP fun k hk h=>by have :=ad.size; omega
 have cG:=aP.az bd fun h=>by omega
 have cI:=aP.az bg fun h=>by omega
 have c6:=cD bu aP fun k hk h=>by have :=da Z hk; omega
 exact nl<|bn<|tn<|⟨(AX aX),(by rw [← TP (GY bp)]; exact cq),cG,cI,c6,cP,aa,aa,aa,aa,aa⟩
 rintro am ai ⟨c2,cC,bI,cL,c8,cU,df,dg,dh,di,dj⟩
 refine fx 0 df<|fx 2 dg<|fx 4 dh<|fx 5 di<|fx 6 dj<|ak fun O=>p (fa lS aa)<|p (ld mR aa<|(aV bI).trans aa)<|p (cE kg aa (aa) fun j I=>by rw [fN]; exact (cC).aJ j)<|e<|pK xr aa aa aa fun ck b4 dG aS cz=> ?_
 have cA:bE b4.heap ck (dV<|fy [s.getD i 0]):=cz
 have bS:Wk w b4:=Md.trans cU aS.md
 have a2:=ba c8 aS.md
 have bF:=aS.md.az bI
 have bN:=aS.md.az cL
 refine e<|ap xr (a2) aa (by have :=bS.size; omega) aa (aG.gl cA) (aa) (Ed _) ab ab fun dq dX b1 bo dO dJ=> ?_
 have b2:=G3 b1
 have bH:=bo.az bF fun h=>dQ a2 bF aw h
 have cK:=bo.az bN fun h=>dQ a2 bN aw h
 have cT:=Wk.own bS a2 bo<|cj _
 have aC:ki (s.drop i)=some ([s.getD i 0],s.drop (i+1)):=by rw [bs]; exact Ns c2
 have bt:=aZ.step (j:=i+1) aC rfl
 refine p (fa lS aa)<|e<|bW Ep aa aa (e7 b1) bH (by simp) fun dv bk cp=> ?_
 have cO:Wk w dv:=Md.trans' cT bk fun k hk h=>by have :=ag.md.size; omega
 exact nl<|O<|rg aa<|au (aj i)<|p (bK ((i+1:Nat):Int) aa aa<|bl ab ab)<|p aE<|nl<|bn<|tn<|⟨_,ab,i+1,c++ [[s.getD i 0]],dq,(by rw [bJ,iG]; omega),bt,cp,(bk.az cK fun h=>by omega),(cD b2 bk fun k hk h=>dQ b2 bH aw<|h ▸ hk),cO,aa,aa,aa,(by first | rfl | exact iv<|if_neg aD),aa⟩
 refine ext<|bj<|bj<|be<|cf<|aB fun a3=>aB fun a4=> ?_
 obtain ⟨bb,bc,rfl⟩:=c5 Z
 have aY:=aZ.done ab
 refine rg aa<|p (fa lS aa)<|p (ld mR aa<|(aV aM).trans aa)<|p (bP p6 aa aa)<|p (gt aa aa)<|nl<|a4<|cd aa (fun c0=> ?_) fun c0=> ?_
 refine ak fun O=>p (du (ps:= []) (L:= [.slice none 0 0]) uB aa<|aa)<|e<|fk pM aa (vs:= [.slice none 0 0]) aa aa aa aA aw fun G A C=> ?_
 have E:Wk w G:=Md.trans' ad A fun k hk h=>by omega
 refine ay<|O<|rt<|tr<|fg aa (dZ (cs:= [.slice none 0 0]) aa mi aa fun j I=>by cases j with | zero=>exact (aV C).trans aa | succ j=>omega) eI ?_
 have J:eb s=([],42):=by unfold eb; rw [if_neg (fun h=>h.elim Y fun h=>by omega),if_neg ah,aY]; exact if_pos ab
 exact ⟨⟨.slice none 0 0,by rw [J]; rfl,by rw [J]; exact eh _ _ _ _⟩,E⟩
 refine aR<|a3<|ak fun O=>p (cE mi aa (aa) (show ∀ j,j < 1→Hb.aJ ac.heap aq (0 +j)= [bC bb c.length bc][j]? from fun j I=>by cases j with | zero=>exact (aV aM).trans aa | succ j=>omega))<|e<|fk pM aa (vs:= [.slice bb c.length bc]) aa aa aa aA aw fun G A C=> ?_
 have E:Wk w G:=Md.trans' ad A fun k hk h=>by omega
 have c7:=cD Z A fun k hk h=>dQ Z aA aw<|h ▸ hk
 refine ay<|O<|rt<|fg aa (dZ (cs:= [.slice bb c.length bc]) aa mi aa fun j I=>by cases j with | zero=>exact (aV C).trans aa | succ j=>omega) eI ?_
 have J:eb s=(c,0):=by unfold eb; rw [if_neg (fun h=>h.elim Y fun h=>by omega),if_neg ah,aY]; exact if_neg ab
 exact ⟨⟨_,by rw [J]; rfl,by rw [J]; exact c7⟩,E⟩
theorem Ur (ps:List (List UInt8)) (a:Option Addr) (c:Nat) (w:World) (Z:aG w.heap a (kF ps)) (hn:ps.length≤4096):
 bf ao 239 (a7 [.agg [.slice a ps.length c].toArray]) w (fun v w'=>v=str (pW ps)∧Wk w w'):=by
 refine enter func239 aa ntmps239 aa<|ak fun ae=>e<|jm aa fun aP ac aS E Y=>ay<|ae<|aB fun ah=>aB fun ai=>rg aa<|p (fa lS aa)<|p (ld mR aa<|Y.aJ 0)<|p (bP p6 aa aa)<|p (cx aa aa)<|nl<|ai<|cd aa (fun J=> ?_) fun J=> ?_
 exact ak fun G=>ay<|G<|rt<|tr<|a8 aa<|⟨by unfold pW; rw [if_pos (gq ab)]; rfl,E.md⟩
 refine aR<|ah<|ak fun G=>ay<|G<|aB fun am=>ak fun an=>p (fa lS aa)<|p (ld mR aa<|Y.aJ 0)<|p (bP p6 aa aa)<|p mv<|nl<|an<|az<|lp (fun V C O=> ∃ (i:Nat),(i≤ps.length)∧(Wk ac O)∧(((ps.take i).flatMap fun t=>lF<|fy t).length≤i*300)∧(C 3=str ((ps.take i).flatMap fun t=>lF<|fy t))∧(C 11= .slice a ps.length c)∧(C 12=aj (ps.length))∧(C 13=aj i)∧(ps.length - i=V)) _ ⟨0,ab,(Md.refl _ _),(by simp),(by first | rfl | (rw [k8 ps i [] ab,q8,sS]; rfl)),aa,aa,aa,aa⟩ ?_
 rintro V C O ⟨i,hi,A,hlen,aN,aK,aL,aM,rfl⟩
 refine fx 3 aN<|fx 11 aK<|fx 12 aL<|fx 13 aM<|ak fun ap=>p (lt aa aa)<|nl<|ap<|aB fun aq=>cd aa (fun aI=> ?_) fun aI=> ?_
 refine aR<|aq<|aB fun I=>az<|ak fun ag=>p (bc EL aa aa ab<|aG.ok (Z.wk<|Md.trans E.md A)<|Ec ab)<|p (cE kg aa (aa) (show ∀ j,j < 4→Hb.aJ O.heap (bk a) (fo a+i*4 +j)=(dV<|fy<|ps.getD i [])[j]? from Eb (Z.wk<|Md.trans E.md A) ab))<|e<|al qS fun aQ aY aT aF av=>e<|dd oO aa (vs:=dV<|fy<|ps.getD i []) aa aa aa av aw fun aO aD ax=> ?_
 have aC:Wk ac aO:=Md.trans' (Md.trans A aF.md) aD fun k hk h=>by have :=A.size; omega
 refine nl<|ag<|rg aa<|au (str<|(ps.take i).flatMap fun t=>lF<|fy t)<|p (cE kg aa (aa) fun j aU=>by rw [fN]; exact (ax).aJ j)<|e<|cl Mq (Vn (fy<|ps.getD i []) _) aa fun aW aX aH=> ?_
 obtain ⟨rfl,aA⟩:=aH
 have aV:=HG<|fy<|ps.getD i []
 exact p (cc aa aa ab)<|p aE<|nl<|bn<|I<|rg aa<|p (ad aa aa<|cz ab)<|p mv<|nl<|tn<|⟨_,ab,i+1,ab,(Md.trans aC aA),(by rw [k8 ps i [] ab,q8,sS,bJ]; omega),(by first | rfl | (rw [k8 ps i [] ab,q8,sS]; rfl)),aa,aa,aa,aa⟩
 exact ext<|bj<|bj<|be<|am<|ak fun I=>au (str<|(ps.take i).flatMap fun t=>lF<|fy t)<|p (cg (str<|(ps.take i).flatMap fun t=>lF<|fy t) aa)<|nl<|I<|rt<|a8 aa<|⟨by unfold pW; rw [if_neg (fun h=>by rw [h] at J; exact J aa),show ps.take i=ps from fu ab]; rfl,Md.trans E.md A⟩
end Go.Hb
end
section
namespace Go.Hb.ff
open Go.Hb.pF
theorem Fa {kind:Nat} {al:List (List Nat)} {s:Tx} (h:al= []):gj kind al s=kW kind s:=if_pos h
theorem QC {kind:Nat} {al:List (List Nat)} {s:Tx} {e:Nat} (h:al≠[]) (h1:eH s al.length= .error e):gj kind al s= .error 13:=by unfold gj; rw [if_neg h,h1]
theorem QF {kind:Nat} {al:List (List Nat)} {s:Tx} (h:al≠[]) (h1:eH s al.length= .ok 0):gj kind al s= .error 13:=by unfold gj; rw [if_neg h,h1]; rfl
theorem QD {kind n:Nat} {al:List (List Nat)} {s:Tx} (h:al≠[]) (h1:eH s al.length= .ok n) (c:n≠0):gj kind al s= .ok (al.getD (n - 1) []):=by unfold gj; rw [if_neg h,h1]; exact if_neg c
theorem FA {kind:Nat} {s:Tx} (h:(e5 kind s).2=0):kW kind s= .ok (e5 kind s).1:=if_neg fun h2=>h2 h
theorem Fw {kind:Nat} {s:Tx} (h:(e5 kind s).2≠0):kW kind s= .error (e5 kind s).2:=if_pos h
theorem Hs {kind ln:Nat} {al:List (List Nat)} {c:dT} {r:List Tx} (h:r.length≠4) (h1:r.length≠5):jr kind al c ln r= .error 111:=by unfold jr; rw [if_pos ⟨h,h1⟩]
theorem pV {kind ln:Nat} {al:List (List Nat)} {c:dT} {r:List Tx} (h:r.length=4∨r.length=5):jr kind al c ln r=(match ga true (r.getD 2 []) with
 | .error e=> .error e
 | .ok st=>match lh (bD<|r.getD 3 []) with
   | .error e=> .error e
   | .ok ad=>match nn kind al c.kind (bD<|r.getD 3 []) with
     | .error e=> .error e
     | .ok nx=>match mq r with
       | .error e=> .error e
       | .ok cd=> .ok ⟨c.kind,c.flag,c.gv,st,ad,cd,nx,ln⟩):=by unfold jr; rw [if_neg ab]; rfl
theorem Kp {r:lM} (h:r.2.2.2≠0):lh r= .error r.2.2.2:=if_pos h
theorem Kt {r:lM} (h:r.2.2.2=0) (h1:r.1= [48]):lh r= .ok []:=by unfold lh; rw [if_neg (fun h2=>h2 h),if_pos h1]
theorem Kq {r:lM} (h:r.2.2.2=0) (h1:r.1≠[48]) (h2:ib r.1≠0):lh r= .error (ib r.1):=by unfold lh; rw [if_neg (fun h2=>h2 h),if_neg h1,if_pos h2]
theorem Kr {r:lM} (h:r.2.2.2=0) (h1:r.1≠[48]) (h2:ib r.1=0):lh r= .ok r.1:=by unfold lh; rw [if_neg (fun h2=>h2 h),if_neg h1,if_neg (fun h3=>h3 h2)]
theorem Tu {kind c:Nat} {al:List (List Nat)} {r:lM} (h:r.2.2.1=false):nn kind al c r= .ok []:=by unfold nn; rw [if_neg (by rw [h]; exact c7)]
theorem Tt {kind c:Nat} {al:List (List Nat)} {r:lM} (h:r.2.2.1=true) (h1:c=1):nn kind al c r= .error 118:=by unfold nn; rw [if_pos h,if_pos h1]
theorem GM {kind c:Nat} {al:List (List Nat)} {r:lM} (h:r.2.2.1=true) (h1:c≠1):nn kind al c r=gj kind al r.2.1:=by unfold nn; rw [if_pos h,if_neg h1]
theorem Oj {r:List Tx} (h:r.length≠5):mq r= .ok [46]:=if_neg h
theorem Of {r:List Tx} (h:r.length=5) (h1:hU (r.getD 4 [])=false):mq r= .error 21:=by unfold mq; rw [if_pos h,if_pos h1]
theorem Og {r:List Tx} (h:r.length=5) (h1:hU (r.getD 4 [])=true) (h2:(eb<|r.getD 4 []).2≠0):mq r= .error (eb<|r.getD 4 []).2:=by unfold mq; rw [if_pos h,if_neg (by rw [h1]; exact c7),if_pos h2]
theorem Oh {r:List Tx} (h:r.length=5) (h1:hU (r.getD 4 [])=true) (h2:(eb<|r.getD 4 []).2=0):mq r= .ok (pW (eb<|r.getD 4 []).1):=by unfold mq; rw [if_pos h,if_neg (by rw [h1]; exact c7),if_neg (fun h3=>h3 h2)]
theorem Oz (s:Tx):(eb s).1.length≤16:=by
 unfold eb
 split
 · simp
 · split
   · simp
   · split
     · simp
     · split
       · simp
       · rename_i h; exact Nat.le_of_not_lt h
theorem EU (B fb mc:Nat) (F:aC) (V:ei) (s:Tx) (w:World) (E:dp w B fb mc F V) (hk:F.kind=1∨F.kind=2∨F.kind=3) (aH:∀ l∈F.aliases,l.length≤64∧l.Pairwise (· < ·)) (aN:F.aliases.length≤70000) (hs:s.length≤1048576):
 bf ao 140 (a7 [aU fb,str s]) w (fun v w'=>((∃ a l,v= .tuple #[a,.int .i64 0]∧gj F.kind F.aliases s= .ok l∧bq w' w.heap.size 95 1 a l.length (l.map aX))∨(∃ a e,v= .tuple #[a,aj e]∧e≠0∧gj F.kind F.aliases s= .error e))∧Wk w w'):=by
 obtain ⟨ax,kU,ah⟩:=c5 E.gP
 have Z:=E.gP
 rw [ah] at Z
 have O:Hb.aJ w.heap fb 10=some (.slice ax F.aliases.length kU):=by rw [← ah]; exact (aV E.cells).trans rfl
 refine enter func140 aa ntmps140 aa<|ak fun ai=>p aE<|ay<|ai<|aB fun am=>aB fun an=>rg aa<|au (aU fb)<|p (iZ uG aa aa)<|nl<|an<|cf (aa)<|aR<|am<|aB fun ap=>ak fun aq=>au (aU fb)<|p (nc aa)<|p (fa fZ aa)<|p (fa oT aa)<|p (ld qq aa<|O)<|p (bP xJ aa aa)<|p (cx aa aa)<|nl<|aq<|cd aa (fun Y=> ?_) fun Y=> ?_
 have A:F.aliases= []:=gq ab
 refine ak fun I=>au (aU fb)<|p (nc aa)<|p (fa fZ aa)<|p (fa rW aa)<|p (ld bH aa<|(aV E.cells).trans aa)<|au (str s)<|e<|cl Dz (FC F.kind s _ hk hs) aa fun v23 aS aA=> ?_
 obtain ⟨⟨a23,rfl,aM⟩,hE23⟩:=aA
 refine p (xt aa aa)<|p (xt aa aa)<|p aE<|ay<|I<|rt<|tr<|f2 aa aa aa ?_
 refine ⟨?_,hE23⟩
 by_cases h:(e5 F.kind s).2=0
 exact .inl ⟨a23,_,by rw [h]; rfl,by rw [Fa A]; exact FA h,aM⟩
 exact .inr ⟨a23,_,aa,h,by rw [Fa A]; exact Fw h⟩
 have A:F.aliases≠[]:=fun h=>by rw [h] at Y; exact Y rfl
 refine aR<|ap<|ak fun I=>au (str s)<|au (aU fb)<|p (nc aa)<|p (fa fZ aa)<|p (fa oT aa)<|p (ld qq aa<|O)<|p (bP xJ aa aa)<|e<|cl vH (wX s (F.aliases.length:Nat) _ hs ab) aa fun aP aW aD=> ?_
 obtain ⟨rfl,c⟩:=aD
 refine p mv<|p (xt aa aa)<|p (xt aa aa)<|p aE<|ay<|I<|aB fun av=>ak fun ad=>p mv<|p (gF aa aa)<|p mv<|gs (t:=39) aa (fun aL=> ?_) fun aL=> ?_
 exact aT aa<|aT aa<|p (bO aa)<|nl<|ad<|ct aa<|ak fun C=>p aE<|ay<|C<|rt<|tr<|f2 aa aa aa<|⟨.inr ⟨.slice none 0 0,13,aa,aw,QC A (wV ab).1⟩,c⟩
 refine a6 aa mv<|a6 aa (cx aa aa)<|p (bG aa)<|nl<|ad<|cd aa (fun aK=> ?_) fun aK=> ?_
 refine ak fun C=>p aE<|ay<|C<|rt<|tr<|f2 aa aa aa ?_
 have G:=wW (by omega :(fH s (F.aliases.length:Nat)).2=0)
 rw [show (fH s (F.aliases.length:Nat)).1=0 from by omega] at G
 exact ⟨.inr ⟨.slice none 0 0,13,aa,aw,QF A G⟩,c⟩
 refine aR<|av<|aB fun C=> ?_
 have G:=wW (by omega :(fH s (F.aliases.length:Nat)).2=0)
 have aO:=wU s (F.aliases.length:Nat) ab
 have ae:(fH s (F.aliases.length:Nat)).1 - 1 < F.aliases.length:=ab
 obtain ⟨v51,ac,J⟩:=dH.get (E.al.wk c) ae
 obtain ⟨a51,vK,rfl⟩:=J.slice
 have aI:=aH _<|e6 (d:= []) ae
 refine rg aa<|au (aU fb)<|p (nc aa)<|p (fa fZ aa)<|p (fa oT aa)<|p (ld qq aa<|Wk.aJ c O)<|p mv<|p (dz (((fH s (F.aliases.length:Nat)).1 - 1:Nat):Int) aa aa<|bl ab ab)<|p (bc zE aa aa ab<|aG.ok ((aY<|ba Z c).2) fun h=>by rw [h] at ac; cases ac)<|p (ld mj aa<|aG.iY (aY<|ba Z c).2 ac)<|e<|cl DC (wY (F.aliases.getD ((fH s (F.aliases.length:Nat)).1 - 1) []) _ _ _ J.dJ.2 (fun h=>Tg.sg J (by simp) h) ab) aa fun aQ aZ aF=> ?_
 obtain ⟨ag,az⟩:=aF
 rw [TM aI.2] at ag
 exact p aE<|ay<|C<|rt<|f2 aa aa aa<|⟨.inl ⟨_,_,aa,QD A G ab,fj ag c.size⟩,c.trans az⟩
theorem xi (B:Nat) (H:cw) (F:aC) (V:ei) (R:gu) (rows:List Rw) (ln:Nat) (seen:List Tx) (c:dT) (r:List Tx) (b3:Nat) (ar:Option Addr) (cr:Nat) (w:World) (E:dp w B H.fb H.mc F V) (C:cB w B H F R rows ln seen) (a1:ka F rows seen) (d1:c.kind=1∨c.kind=2) (av:Tg w b3 9 r.length (.slice ar r.length cr) (r.map str)) (bj:r.length≤70000∧∀ x∈r,x.length≤70000):
 eK ao 201 (a7 [.pointer (some ⟨H.rb,0,none⟩),.agg (mX c).toArray,.slice ar r.length cr]) w (fun v w'=> ∃ q,jr F.kind F.aliases c ln r= .ok q∧q.line=ln∧(∃ vn,v= .agg (dG (q,vn)).toArray∧Tg w' B 95 q.next.length vn (q.next.map aX))∧Wk w w') (fun ak w'=> ∃ e,jr F.kind F.aliases c ln r= .error e∧ak=ir 45 ln (e:Nat)∧Wk w w'):=by
 have dV:=av.dJ
 have d6:=(bT.1 C.cells).1
 have d2:=C.lo.1
 refine jz func201 aa ntmps201 aa<|sq fun dL cA=>rg aa<|e<|jm aa fun a0 ez dX bw ci=>e<|al pc fun ad aW dY aO ck=> ?_
 have aI:Wk w aW:=bw.md.trans aO.md
 have bQ:=Wk.aJ aI C.ej
 have ed:=bw.size
 have ef:=aO.size
 refine nl<|tn<|cA _ _ ?_
 refine e8 (fun aB b0=>(r.length=4∨r.length=5)∧(b0=aW)∧(aB 0= .pointer (some ⟨H.rb,0,none⟩))∧(aB 2= .slice ar r.length cr)∧(aB 4= .pointer (some ⟨a0,0,none⟩))∧(aB 6= .pointer (some ⟨ad,0,none⟩))) ?_ ?_
 refine rg aa<|p (aH (.pointer<|some ⟨H.rb,0,none⟩) aa)<|p (aH (.slice ar r.length cr) aa)<|p (bP gU aa aa)<|p (cx aa aa)<|p mv<|gs (t:=20) aa (fun c3=> ?_) fun c3=> ?_
 refine sk aa aa aa aa<|sk aa aa aa aa<|sk aa aa aa aa<|p (bO aa)<|eP aa (dj gz (gE H.rb ln _ 111 aW bQ aw) aa fun v25 dB bf=> ?_) fun c w' A Y E=>by first | exact absurd A.2.1 aw | exact ⟨111,Hs ab (by have :=of_decide_eq_false A.2.1; omega),A.1,by rw [A.2.2]; exact aI⟩
 obtain ⟨rfl,bS,rfl⟩:=bf
 exact nl<|tn<|⟨(.inl ab),aa,aa,aa,aa,aa⟩
 refine pg aa aa aa (aH (.slice ar r.length cr) aa)<|pg aa aa aa (bP gU aa aa)<|pg aa aa aa (cx aa aa)<|p (bG aa)<|eP aa (dj gz (gE H.rb ln _ 111 aW bQ aw) aa fun v25 dB bf=> ?_) fun c w' A Y E=>by first | exact absurd A.2.1 aw | exact ⟨111,Hs ab (by have :=of_decide_eq_false A.2.1; omega),A.1,by rw [A.2.2]; exact aI⟩
 obtain ⟨rfl,bS,rfl⟩:=bf
 exact nl<|tn<|⟨(.inr<|by have :=of_decide_eq_true bS; omega),aa,aa,aa,aa,aa⟩
 rintro aB b0 ⟨hlen,cu,c6,c7,c9,db⟩
 refine fx 0 c6<|fx 2 c7<|fx 4 c9<|fx 6 db ?_
 subst cu
 have aT:=aO.md.B ci
 refine sq fun dM cC=>rg aa<|p (fa tW aa)<|p (ld bH aa<|(aT.aJ 1).trans aa)<|p (fa Aa aa)<|p (ld bZ aa<|(aT.aJ 0).trans aa)<|p (fa Fq aa)<|p (ld jS aa<|(aT.aJ 2).trans aa)<|p (du (ps:= [(0,.int .i64 (c.kind:Nat)),(1,aX c.flag),(2,.bool c.gv),(5,str [46])]) (L:= [.int .i64 (c.kind:Nat),aX c.flag,.bool c.gv,.string ⟨⟨[]⟩⟩,.string ⟨⟨[]⟩⟩,str [46],.slice none 0 0]) BA aa<|aa)<|e<|al pc fun G eB d0 aP cm=> ?_
 have eh:=aP.size
 refine e<|dd na aa aa aa aa (cm) (by simp) fun b1 aL cg=> ?_
 have aK:Wk w b1:=(aI.trans aP.md).trans' aL fun k hk h=>by omega
 have cV:=aL.B (aP.md.B aT) fun h=>by omega
 have cX:=aL.B (aP.md.B ck) fun h=>by omega
 have ek:=aL.size
 have bz:=(av.wk aK).dJ
 have d3:(r.getD 2 []).length≤70000:=bj.2 _<|e6 ab
 have d4:(r.getD 3 []).length≤70000:=bj.2 _<|e6 ab
 refine nl<|tn<|cC _ _<|sq fun dN cF=>rg aa<|p (aH (.pointer<|some ⟨H.rb,0,none⟩) aa)<|p (aH (.slice ar r.length cr) aa)<|p (bc ec aa aa ab<|aG.ok (bz.2)<|c8 ab)<|p (ld cR aa<|dE.get (i:=2) bz.2 ab)<|eP aa (dj Dy (G7 H.rb ln (r.getD 2 []) b1 (Wk.aJ aK C.ej) ab) aa fun v37 ey cJ=> ?_) fun c w' A Y E=>by obtain ⟨e,he,h,h2⟩:=A; exact ⟨e,by rw [pV hlen,he],h,aK.trans h2⟩
 obtain ⟨stx,bR,rfl,an⟩:=cJ
 refine p (fa pO aa)<|e<|st oP aa aa (aa) (an.B cg) (by simp) fun b2 aM ch=> ?_
 have bp:bE b2.heap G [.int .i64 (c.kind:Nat),aX c.flag,.bool c.gv,str stx,str [],str [46],.slice none 0 0]:=ch
 have br:Wk w b2:=(aK.trans an).trans' aM fun k hk h=>by omega
 have ea:=an.size
 have bI:=aM.B (an.B cV) fun h=>by omega
 have bJ:=aM.B (an.B cX) fun h=>by omega
 have bx:=(av.wk br).dJ
 have d9:=aM.size
 refine nl<|tn<|cF _ _<|sq fun dO cG=>rg aa<|p (aH (.slice ar r.length cr) aa)<|p (bc ec aa aa ab<|aG.ok (bx.2)<|c8 ab)<|p (ld cR aa<|dE.get (i:=3) bx.2 ab)<|e<|cl yS (BW (r.getD 3 []) _ ab) aa fun eq dC cK=> ?_
 obtain ⟨rfl,I⟩:=cK
 have ag:=br.trans I
 have d7:=xP<|r.getD 3 []
 refine p mv<|p (xt aa aa)<|p (xt aa aa)<|p (xt aa aa)<|p (xt aa aa)<|p aE<|p aE<|p aE<|p aE<|nl<|tn<|cG _ _<|sq fun dP cH=>rg aa<|p (aH (.pointer<|some ⟨H.rb,0,none⟩) aa)<|p mv<|eP aa (dj nY (oc H.rb ln ((bD<|r.getD 3 []).2.2.2:Nat) dC<|Wk.aJ ag C.ej) aa fun v50 dD cL=> ?_) fun c w' A Y E=>⟨_,by rw [pV hlen,bR,Kp (show (bD<|r.getD 3 []).2.2.2≠0 by have :=A.2.1; omega)],A.1,by rw [A.2.2]; exact ag⟩
 obtain ⟨rfl,aU,rfl⟩:=cL
 have aU:(bD<|r.getD 3 []).2.2.2=0:=ab
 refine nl<|tn<|cH _ _ ?_
 refine e8 (fun Z aj=> ∃ (ac:Tx),(lh (bD<|r.getD 3 [])= .ok ac)∧(bE aj.heap G [.int .i64 (c.kind:Nat),aX c.flag,.bool c.gv,str stx,str ac,str [46],.slice none 0 0])∧(bE aj.heap a0<|mX c)∧(∃ L,L.length=7∧bE aj.heap ad L)∧(Wk w aj)∧(Z 0= .pointer (some ⟨H.rb,0,none⟩))∧(Z 2= .slice ar r.length cr)∧(Z 4= .pointer (some ⟨a0,0,none⟩))∧(Z 6= .pointer (some ⟨ad,0,none⟩))∧(Z 7= .pointer (some ⟨G,0,none⟩))∧(Z 9=str (bD<|r.getD 3 []).2.1)∧(Z 10= .bool (bD<|r.getD 3 []).2.2.1)) ?_ ?_
 refine sq fun aZ ae=>rg aa<|p mv<|p (um aa aa)<|nl<|tn<|ae _ _<|cd aa (fun aS=> ?_) fun aS=> ?_
 refine rg aa<|p (aH (.pointer<|some ⟨H.rb,0,none⟩) aa)<|p mv<|eP aa (dj DG (Hh H.rb ln (bD<|r.getD 3 []).1 dD (Wk.aJ ag C.ej) ab) aa fun v55 eA cM=> ?_) fun c w' A Y E=>⟨_,by rw [pV hlen,bR,Kq aU aS A.2.1],A.1,ag.trans A.2.2⟩
 obtain ⟨rfl,dw,ap⟩:=cM
 refine p (fa tR aa)<|e<|st oP aa aa (aa) (Wk.B (I.trans ap) bp) (by simp) fun dK bd cn=> ?_
 have cv:Wk w dK:=(ag.trans ap).trans' bd fun k hk h=>by omega
 have ee:=(I.trans ap).size
 exact nl<|tn<|⟨(bD<|r.getD 3 []).1,(Kr aU aS dw),cn,(bd.B (Wk.B (I.trans ap) bI) fun h=>by omega),(⟨_,aa,bd.B (Wk.B (I.trans ap) bJ) fun h=>by omega⟩),cv,aa,aa,aa,aa,aa,aa,aa⟩
 exact aR<|tn<|⟨[],(Kt aU<|mI.1 aS),(I.B bp),(I.B bI),(⟨_,aa,I.B bJ⟩),ag,aa,aa,aa,aa,aa,aa,aa⟩
 rintro Z aj ⟨ac,ax,aF,cW,bK,J,dc,df,dg,dh,di,dk,de⟩
 refine fx 0 dc<|fx 2 df<|fx 4 dg<|fx 6 dh<|fx 7 di<|fx 9 dk<|fx 10 de ?_
 skip
 refine e8 (fun aD O=> ∃ (nx:List Nat) (vn:Value),(nn F.kind F.aliases c.kind (bD<|r.getD 3 [])= .ok nx)∧(bE O.heap G [.int .i64 (c.kind:Nat),aX c.flag,.bool c.gv,str stx,str ac,str [46],vn])∧(Tg O (G+1) 95 nx.length vn<|nx.map aX)∧(∃ L,L.length=7∧bE O.heap ad L)∧(Wk w O)∧(aD 0= .pointer (some ⟨H.rb,0,none⟩))∧(aD 2= .slice ar r.length cr)∧(aD 6= .pointer (some ⟨ad,0,none⟩))∧(aD 7= .pointer (some ⟨G,0,none⟩))) ?_ ?_
 refine sq fun aZ ae=>rg aa<|p (aH (.bool (bD<|r.getD 3 []).2.2.1) aa)<|nl<|tn<|ae _ _<|cb aa (fun ay=> ?_) fun ay=> ?_
 skip
 refine sq fun b4 a5=>rg aa<|p (aH (.pointer<|some ⟨H.rb,0,none⟩) aa)<|p (fa tW aa)<|p (ld bH aa<|(cW.aJ 1).trans aa)<|p (cx aa aa)<|eP aa (dj gz (gE H.rb ln _ 118 aj (Wk.aJ J C.ej) aw) aa fun er bX cN=> ?_) fun ak w' A Y E=>by have dU:=of_decide_eq_false A.2.1; exact ⟨118,by rw [pV hlen,bR]; simp only; rw [ax]; simp only; rw [Tt ay ab],A.1,by rw [A.2.2]; exact J⟩
 obtain ⟨rfl,bU,rfl⟩:=cN
 have bU:=of_decide_eq_true bU
 refine nl<|tn<|a5 _ _<|sq fun b5 a6=>rg aa<|p (aH (.pointer<|some ⟨H.rb,0,none⟩) aa)<|p (nc aa)<|p (fa gx aa)<|p (ld eY aa<|Wk.aJ J<|(aV C.cells).trans aa)<|p (aH (str (bD<|r.getD 3 []).2.1) aa)<|e<|cl Dn (EU B H.fb H.mc F V (bD<|r.getD 3 []).2.1 _ (E.wk J) a1.kd a1.al (by have :=a1.len; omega)<|by have :=xP (r.getD 3 []); omega) aa fun dz bY cO=> ?_
 obtain ⟨c1,ah⟩:=cO
 obtain ⟨bn,bo,rfl,bM⟩:∃ a,∃ e:Nat,dz= .tuple #[a,.int .i64 (e:Nat)]∧((e=0∧∃ l,gj F.kind F.aliases (bD<|r.getD 3 []).2.1= .ok l∧bq bY bX.heap.size 95 1 a l.length (l.map aX))∨(e≠0∧gj F.kind F.aliases (bD<|r.getD 3 []).2.1= .error e)):=by
  rcases c1 with ⟨a,l,h1,h2,h3⟩ | ⟨a,e,h1,h2,h3⟩
  exact ⟨a,0,h1,.inl ⟨aa,l,h2,h3⟩⟩
  exact ⟨a,e,h1,.inr ⟨h2,h3⟩⟩
 refine p mv<|p (xt aa aa)<|p (xt aa aa)<|p aE<|p aE<|nl<|tn<|a6 _ _<|sq fun b6 a8=>rg aa<|p (aH (.pointer<|some ⟨H.rb,0,none⟩) aa)<|p mv ?_
 refine eP aa (dj nY (oc H.rb ln (bo:Nat) bY<|Wk.aJ (J.trans ah) C.ej) aa fun es dF cP=> ?_) (fun ak w' A Y E=>by
  rcases bM with ⟨h,_⟩ | ⟨h,h1⟩
  exact absurd ab A.2.1
  exact ⟨bo,by rw [pV hlen,bR]; simp only; rw [ax]; simp only; rw [GM ay ab,h1],A.1,by rw [A.2.2]; exact J.trans ah⟩)
 obtain ⟨rfl,d8,rfl⟩:=cP
 obtain ⟨nx,az,bg⟩:∃ l,gj F.kind F.aliases (bD<|r.getD 3 []).2.1= .ok l∧bq dF bX.heap.size 95 1 bn l.length (l.map aX):=by
  rcases bM with ⟨_,h⟩ | ⟨h,_⟩
  exact h
  exact absurd ab h
 refine nl<|tn<|a8 _ _<|rg aa<|p mv<|p (fa pP aa)<|e<|st rQ aa aa (e7 bg) (ah.B aF) (by simp) fun dH ba b9=> ?_
 have cp:Wk w dH:=(J.trans ah).trans' ba fun k hk h=>by omega
 have eg:=ah.size
 exact nl<|tn<|⟨nx,bn,(by rw [GM ay ab]; exact az),b9,((Tg.kL<|cD bg ba fun k hk h=>by have :=da bg hk; have :=aF.lt; omega).mono aF.lt),(by obtain ⟨L,a9,aQ⟩:=bK; exact ⟨L,a9,ba.B (ah.B aQ) fun h=>by omega⟩),cp,aa,aa,aa,aa⟩
 exact aR<|tn<|⟨[],.slice none 0 0,(Tu<|by simpa using ay),aF,(⟨none,0,aa,cj _,.inl aa⟩),bK,J,aa,aa,aa,aa⟩
 rintro aD O ⟨nx,vn,az,a2,bF,bL,au,dl,dn,dq,dr⟩
 refine fx 0 dl<|fx 2 dn<|fx 6 dq<|fx 7 dr ?_
 refine e8 (fun bm aA=> ∃ (am:Tx),(mq r= .ok am)∧(bE aA.heap G [.int .i64 (c.kind:Nat),aX c.flag,.bool c.gv,str stx,str ac,str am,vn])∧(Tg aA (G+1) 95 nx.length vn<|nx.map aX)∧(∃ L,L.length=7∧bE aA.heap ad L)∧(Wk w aA)∧(bm 6= .pointer (some ⟨ad,0,none⟩))∧(bm 7= .pointer (some ⟨G,0,none⟩))) ?_ ?_
 refine sq fun aZ ae=>rg aa<|p (aH (.slice ar r.length cr) aa)<|p (bP gU aa aa)<|p (cx aa aa)<|nl<|tn<|ae _ _<|cd aa (fun c0=> ?_) fun c0=> ?_
 have bi:r.length=5:=ab
 have d5:(r.getD 4 []).length≤70000:=bj.2 _<|e6 ab
 have bA:=(av.wk au).dJ
 refine sq fun b4 a5=>rg aa<|p (aH (.pointer<|some ⟨H.rb,0,none⟩) aa)<|p (aH (.slice ar r.length cr) aa)<|p (bc ec aa aa ab<|aG.ok (bA.2)<|c8 ab)<|p (ld cR aa<|dE.get (i:=4) bA.2 ab)<|eP aa (dj yV (A9 H.rb ln (r.getD 4 []) O (Wk.aJ au C.ej) ab) aa fun et eC cQ=> ?_) fun ak w' A Y E=>⟨21,by rw [pV hlen,bR]; simp only; rw [ax]; simp only; rw [az]; simp only; rw [Of bi A.2.1],A.1,au.trans A.2.2⟩
 obtain ⟨rfl,bV,a4⟩:=cQ
 have bs:=au.trans a4
 have bB:=(av.wk bs).dJ
 refine nl<|tn<|a5 _ _<|sq fun b5 a6=>rg aa<|p (aH (.slice ar r.length cr) aa)<|p (bc ec aa aa ab<|aG.ok (bB.2)<|c8 ab)<|p (ld cR aa<|dE.get (i:=4) bB.2 ab)<|e<|cl Ds (Ej (r.getD 4 []) _ ab) aa fun ev eD cS=> ?_
 obtain ⟨⟨dR,rfl,bh⟩,hE89⟩:=cS
 obtain ⟨dx,dy,rfl⟩:=c5 bh
 have bt:=bs.trans hE89
 refine p mv<|p (xt aa aa)<|p (xt aa aa)<|e<|al xQ fun dS dA dW aN ca=> ?_
 have cq:=bt.trans aN.md
 refine e<|dd pM aa aa aa aa (ca) (by simp) fun bl ai cc=> ?_
 have a3:Wk w bl:=cq.trans' ai fun k hk h=>by have :=bt.size; omega
 have bk:Wk O dA:=(a4.trans hE89).trans aN.md
 have em:=a4.size
 have en:=hE89.size
 have eo:=aN.size
 have ep:=ai.size
 have dv:Wk O bl:=bk.trans' ai fun k hk h=>by omega
 refine p aE<|nl<|tn<|a6 _ _<|sq fun b6 a8=>rg aa<|p (aH (.pointer<|some ⟨H.rb,0,none⟩) aa)<|p mv<|eP aa (dj nY (oc H.rb ln ((eb<|r.getD 4 []).2:Nat) bl<|Wk.aJ a3 C.ej) aa fun ew eE cT=> ?_) fun ak w' A Y E=>⟨_,by rw [pV hlen,bR]; simp only; rw [ax]; simp only; rw [az]; simp only; rw [Og bi bV (by have :=A.2.1; omega)],A.1,by rw [A.2.2]; exact a3⟩
 obtain ⟨rfl,bW,rfl⟩:=cT
 have bW:(eb<|r.getD 4 []).2=0:=ab
 refine nl<|tn<|a8 _ _<|rg aa<|p (cE mi aa (aa) fun j bN=>cc.bu j)<|e<|cl Mi (Ur (eb<|r.getD 4 []).1 dx dy _ (aG.md (aG.wk (aY bh).2 aN.md) ai fun c4 h=>by have :=T0 bh c4; omega)<|by have :=Oz (r.getD 4 []); omega) aa fun ex eF cU=> ?_
 obtain ⟨rfl,aq⟩:=cU
 have cy:=a3.trans aq
 have el:=aq.size
 refine p (fa Fk aa)<|e<|st oP aa aa (aa) (aq.B<|ai.B (bk.B a2) fun h=>by have :=a2.lt; omega) (by simp) fun dI bb ce=> ?_
 have ct:Wk w dI:=cy.trans' bb fun k hk h=>by omega
 exact nl<|tn<|⟨pW (eb<|r.getD 4 []).1,(Oh bi bV bW),ce,(Tg.Gz (Tg.wk bF<|dv.trans aq) bb fun k hk=>by omega),(by obtain ⟨L,a9,aQ⟩:=bL; exact ⟨L,a9,bb.B (aq.B<|ai.B (bk.B aQ) fun h=>by have :=aQ.lt; omega) fun h=>by omega⟩),ct,aa,aa⟩
 exact aR<|tn<|⟨[46],(Oj ab),a2,bF,bL,au,aa,aa⟩
 rintro bm aA ⟨am,c2,co,bC,cY,cz,ds,dt⟩
 refine fx 6 ds<|fx 7 dt ?_
 obtain ⟨dQ,cI,cZ⟩:=cY
 obtain ⟨b7,b8,rfl⟩:=bC.slice
 exact sq fun aZ ae=>rg aa<|p (cE jx aa (aa) fun j bN=>co.bu j)<|e<|dd na aa aa aa aa (cZ) (by rw [cI]; decide) fun eG bv cf=>nl<|tn<|ae _ _<|rt<|ja<|tL aa (dZ (cs:=dG (⟨c.kind,c.flag,c.gv,stx,ac,am,nx,ln⟩,.slice b7 nx.length b8)) aa jx aa fun j bN=>by rw [cf.bu j,lK ab,eu]; rfl)<|⟨⟨c.kind,c.flag,c.gv,stx,ac,am,nx,ln⟩,by rw [pV hlen,bR]; simp only; rw [ax]; simp only; rw [az]; simp only; rw [c2],aa,⟨_,aa,(Tg.Gz bC bv fun k hk=>by have :=aO.size; omega).mono ab⟩,cz.trans' bv fun k hk h=>by omega⟩
end Go.Hb.ff
end
section
namespace Go.Hb.nU
open Go.Hb.ff Go.Hb.pF
theorem dp.KY {w E J:World} {B fb mc:Nat} {F:aC} {V:ei} {v:Value} {x:Tx×Tx} (h:dp w B fb mc F V) (hm:Md (fun k=>V.v9.ownBlock=some k) w E) (Z:bq E B 189 2 v (F.dB++ [x]).length (nq<|F.dB++ [x])) (c:Md (fun k=>k=fb) E J) (aa:J.heap[fb]? =some (.cells (n3 {F with dB:=F.dB++ [x]} {V with v9:=v} mc).toArray 164 (0,0))):dp J B fb mc {F with dB:=F.dB++ [x]} {V with v9:=v} :=by
 have A:TF w [191] (fun k=>V.v9.ownBlock=some k):=TF.own h.o9 aw
 have I:=hm.gZ A h.cells aw
 have G:TF E [166] (fun k=>k=fb):=TF.eq (dD I) aw
 have O:∀ k,V.v9.ownBlock=some k→∀ cur z,w.heap[k]?≠some (.cells cur 95 z):=jJ h.o9 aw
 have Y:∀ k,k=fb→∀ cur z,E.heap[k]?≠some (.cells cur 95 z):=im I aw
 obtain ⟨f,C,ab⟩:=h.cm
 have ac:=dN<|C.md hm<|A.no (dN C) aw
 exact ⟨aa,cD Z c (fun k hk C=>dQ Z I aw<|C ▸ hk),cX (cX h.gP hm A aw) c G aw,(h.al.md hm O).md c Y,cX (cX h.gk hm A aw) c G aw,cX (cX h.et hm A aw) c G aw,(h.nx.md hm O).md c Y,⟨f,(C.md hm<|A.no (dN C) aw).md c (G.no ac aw),ab⟩,h.lo,h.jZ⟩
theorem dp.KV {w E Y:World} {B fb mc:Nat} {F:aC} {V:ei} {v:Value} {x:List Nat} {vx:Value} (h:dp w B fb mc F V) (ad:Tg w B 95 x.length vx (x.map aX)) (hm:Md (fun k=>V.v10.ownBlock=some k) w E) (Z:bq E B 51 1 v (F.aliases++ [x]).length (V.sa++ [vx])) (c:Md (fun k=>k=fb) E Y) (aa:Y.heap[fb]? =some (.cells (n3 {F with aliases:=F.aliases++ [x]} {V with v10:=v,sa:=V.sa++ [vx]} mc).toArray 164 (0,0))):dp Y B fb mc {F with aliases:=F.aliases++ [x]} {V with v10:=v,sa:=V.sa++ [vx]} :=by
 have A:TF w [53] (fun k=>V.v10.ownBlock=some k):=TF.own h.gP aw
 have I:=hm.gZ A h.cells aw
 have G:TF E [166] (fun k=>k=fb):=TF.eq (dD I) aw
 have J:∀ k,V.v10.ownBlock=some k→∀ cur z,w.heap[k]?≠some (.cells cur 95 z):=jJ h.gP aw
 have O:∀ k,k=fb→∀ cur z,E.heap[k]?≠some (.cells cur 95 z):=im I aw
 obtain ⟨f,C,ab⟩:=h.cm
 have ac:=dN<|C.md hm<|A.no (dN C) aw
 exact ⟨aa,cX (cX h.o9 hm A aw) c G aw,cD Z c (fun k hk C=>dQ Z I aw<|C ▸ hk),((h.al.md hm J).md c O).snoc ((ad.md hm J).md c O),cX (cX h.gk hm A aw) c G aw,cX (cX h.et hm A aw) c G aw,(h.nx.md hm J).md c O,⟨f,(C.md hm<|A.no (dN C) aw).md c (G.no ac aw),ab⟩,h.lo,h.jZ⟩
theorem dp.KX {w E Y:World} {B fb mc:Nat} {F:aC} {V:ei} {v:Value} {x:cJ} {vx:Value} (h:dp w B fb mc F V) (ad:Tg w B 95 x.next.length vx (x.next.map aX)) (hm:Md (fun k=>V.v12.ownBlock=some k) w E) (Z:bq E B 134 7 v (F.rules++ [x]).length (gd<|(F.rules++ [x]).zip<|V.rn++ [vx])) (c:Md (fun k=>k=fb) E Y) (aa:Y.heap[fb]? =some (.cells (n3 {F with rules:=F.rules++ [x]} {V with v12:=v,rn:=V.rn++ [vx]} mc).toArray 164 (0,0))):dp Y B fb mc {F with rules:=F.rules++ [x]} {V with v12:=v,rn:=V.rn++ [vx]} :=by
 have A:TF w [136] (fun k=>V.v12.ownBlock=some k):=TF.own h.et aw
 have I:=hm.gZ A h.cells aw
 have G:TF E [166] (fun k=>k=fb):=TF.eq (dD I) aw
 have J:∀ k,V.v12.ownBlock=some k→∀ cur z,w.heap[k]?≠some (.cells cur 95 z):=jJ h.et aw
 have O:∀ k,k=fb→∀ cur z,E.heap[k]?≠some (.cells cur 95 z):=im I aw
 obtain ⟨f,C,ab⟩:=h.cm
 have ac:=dN<|C.md hm<|A.no (dN C) aw
 exact ⟨aa,cX (cX h.o9 hm A aw) c G aw,cX (cX h.gP hm A aw) c G aw,(h.al.md hm J).md c O,cX (cX h.gk hm A aw) c G aw,cD Z c (fun k hk C=>dQ Z I aw<|C ▸ hk),(by rw [gV]; exact ((h.nx.md hm J).md c O).snoc<|(ad.md hm J).md c O),⟨f,(C.md hm<|A.no (dN C) aw).md c (G.no ac aw),ab⟩,h.lo,h.jZ⟩
theorem cB.own {w w':World} {B:Nat} {H:cw} {F:aC} {R:gu} {rows:List Rw} {ln:Nat} {seen:List Tx} {B' e s n:Nat} {v:Value} {xs:List Value} (h:cB w B H F R rows ln seen) (G:bq w B' e s v n xs) (hm:Md (fun k=>v.ownBlock=some k) w w') (A:([e+2].contains 169 || [e+2].contains 183 || [e+2].contains 11 || [e+2].contains 5)=false):cB w' B H F R rows ln seen:=by
 have c:TF w [e+2] (fun k=>v.ownBlock=some k):=TF.own G<|by simp
 obtain ⟨f,C,_⟩:=h.sm
 obtain ⟨g,E,_⟩:=h.tm
 exact h.md hm c A (c.no (dN C)<|by simp)<|c.no (dN E)<|by simp
theorem cB.vW {w w':World} {B:Nat} {H:cw} {F:aC} {R:gu} {rows:List Rw} {ln:Nat} {seen:List Tx} {cs:Array Value} {z:Nat×Nat} (h:cB w B H F R rows ln seen) (A:w.heap[H.fb]? =some (.cells cs 164 z)) (hm:Md (fun k=>k=H.fb) w w'):cB w' B H F R rows ln seen:=by
 have c:TF w [166] (fun k=>k=H.fb):=TF.eq (dD A) aw
 obtain ⟨f,C,G⟩:=h.sm
 obtain ⟨g,E,I⟩:=h.tm
 exact h.md hm c aw (c.no (dN C) aw)<|c.no (dN E) aw
theorem Tg.A0 {w:World} {b e n:Nat} {L:List Value} {z:Nat×Nat} (h:w.heap[b]? =some (.cells L.toArray e z)) (hn:n=L.length):Tg w b e n (.slice (some ⟨b,0,none⟩) n n) L:=⟨_,_,rfl,cj _,.inr ⟨b,_,_,rfl,cj _,h,fun j u hu=>by simpa using hu⟩⟩
theorem ka.rT {F:aC} {q:Rw} {rest:List Rw} {seen:List Tx} (h:ka F (q::rest) seen):ka F rest seen:=⟨by have :=h.len; simp only [bS] at this; omega,by have :=h.sl; simp only [bS] at this; omega,fun c h2=>h.row c (List.mem_cons_of_mem _ h2),h.kd,h.al⟩
theorem UM {eof ln e:Nat} {F:aC} {rows:List Rw} {r:List Tx} (h:eH (r.getD 1 []) 256= .error e):kN eof F rows ln r= .error (ln,e):=by unfold kN; rw [h]
theorem uv {eof ln n:Nat} {F:aC} {rows:List Rw} {r:List Tx} {e:Nat×Nat} (h:eH (r.getD 1 []) 256= .ok n) (h1:group [jG] mC eof n rows= .error e):kN eof F rows ln r= .error e:=by unfold kN; rw [h]; simp only; rw [h1]
theorem UN {eof ln n:Nat} {F:aC} {rows:List Rw} {r:List Tx} {q:List (Tx×Tx)×List Rw} (h:eH (r.getD 1 []) 256= .ok n) (h1:group [jG] mC eof n rows= .ok q):kN eof F rows ln r= .ok ({F with dB:=F.dB++q.1},q.2):=by unfold kN; rw [h]; simp only; rw [h1]
theorem AV {s:Tx} {most:Int} {n:Nat} (h:eH s most= .ok n):(n:Int)≤most:=by
 unfold eH at h
 split at h
 · cases h
 · rename_i c; cases h; exact wU s most<|mI.1 c
theorem KE {eof ln:Nat} {F:aC} {hs:List Tx} {rows:List Rw} {r:List Tx} (h:jd∈hs∨dF∈hs):kh eof F hs rows ln r= .error (ln,113):=if_pos h
theorem KF {eof ln e:Nat} {F:aC} {hs:List Tx} {rows:List Rw} {r:List Tx} (c:¬(jd∈hs∨dF∈hs)) (h:eH (r.getD 1 []) 1024= .error e):kh eof F hs rows ln r= .error (ln,e):=by unfold kh; rw [if_neg c,h]
theorem vy {eof ln n:Nat} {F:aC} {hs:List Tx} {rows:List Rw} {r:List Tx} {e:Nat×Nat} (c:¬(jd∈hs∨dF∈hs)) (h:eH (r.getD 1 []) 1024= .ok n) (h1:group [jb] (ml F.kind) eof n rows= .error e):kh eof F hs rows ln r= .error e:=by unfold kh; rw [if_neg c,h]; simp only; rw [h1]
theorem KG {eof ln n:Nat} {F:aC} {hs:List Tx} {rows:List Rw} {r:List Tx} {q:List (List Nat)×List Rw} (c:¬(jd∈hs∨dF∈hs)) (h:eH (r.getD 1 []) 1024= .ok n) (h1:group [jb] (ml F.kind) eof n rows= .ok q):kh eof F hs rows ln r= .ok ({F with aliases:=F.aliases++q.1},q.2):=by unfold kh; rw [if_neg c,h]; simp only; rw [h1]
theorem KA {kind ln:Nat} {r:List Tx} (h:r.length≠2):ml kind ln r= .error 111:=if_pos h
theorem CW {kind ln:Nat} {r:List Tx} (h:r.length=2):ml kind ln r=kW kind (r.getD 1 []):=if_neg ab
theorem Fv {kind:Nat} {s:Tx} (h:(e5 kind s).2=0):(e5 kind s).1.length≤64∧(e5 kind s).1.Pairwise (· < ·):=by
 unfold e5 at h ⊢
 split
 · simp
 · split
   · simp
   · split
     · simp
     · rename_i h3
       exact ⟨by have :=TL ((eD kind s).map<|eN kind); rw [e9] at this; exact dS this ab,AZ _⟩
theorem UH {ln:Nat} {r:List Tx} (h:r.length≠3):mC ln r= .error 111:=if_pos h
theorem UI {ln e:Nat} {r:List Tx} (h:r.length=3) (h1:ga false (r.getD 1 [])= .error e):mC ln r= .error e:=by unfold mC; rw [if_neg ab,h1]
theorem UJ {ln e:Nat} {r:List Tx} {a:Tx} (h:r.length=3) (h1:ga false (r.getD 1 [])= .ok a) (h2:ga true (r.getD 2 [])= .error e):mC ln r= .error e:=by unfold mC; rw [if_neg ab,h1]; simp only; rw [h2]
theorem UK {ln:Nat} {r:List Tx} {a b:Tx} (h:r.length=3) (h1:ga false (r.getD 1 [])= .ok a) (h2:ga true (r.getD 2 [])= .ok b):mC ln r= .ok (a,b):=by unfold mC; rw [if_neg ab,h1]; simp only; rw [h2]
theorem UO (B:Nat) (H:cw) (F:aC) (rows:List Rw) (ln:Nat) (seen:List Tx) (r:List Tx) (bh:Nat) (ar:Option Addr) (cr:Nat) (w:World) (I:St w B H F rows ln seen) (bG:Tg w bh 9 r.length (.slice ar r.length cr) (r.map str)) (ck:r.length=2) (bO:∀ x∈r,x.length≤70000):
 eK ao 132 (a7 [.pointer (some ⟨H.rb,0,none⟩),.slice ar r.length cr]) w (iL B H seen (kN H.eof F rows ln r) w) (iK B H (kN H.eof F rows ln r) w):=by
 obtain ⟨V,R,ai,aP,aY⟩:=I
 have a9:=bG.dJ
 have cl:(r.getD 1 []).length≤70000:=bO _<|e6 ab
 have ci:=aP.lo
 have ce:=aY.len
 refine jz func132 aa ntmps132 aa<|sq fun b2 bp=>rg aa<|p (aH (.pointer<|some ⟨H.rb,0,none⟩) aa)<|p (aH (.slice ar r.length cr) aa)<|p (bc ec aa aa ab<|aG.ok (a9.2)<|c8 ab)<|p (ld cR aa<|dE.get (i:=1) a9.2 ab)<|eP aa (dj vI (xe H.rb ln (r.getD 1 []) 256 w aP.ej ab ab) aa fun v10 cp bA=> ?_) fun c w' E aI ai=>by obtain ⟨e,he,h,h2⟩:=E; exact ⟨ln,e,UM he,h,Wk.mw h2⟩
 obtain ⟨n,ac,rfl,aL⟩:=bA
 have cj:=AV ac
 refine p mv<|nl<|tn<|bp _ _<|az<|lp (fun aX aK av=> ∃ (i:Nat) (xs:List (Tx×Tx)) (rows':List Rw) (aF:Nat) (C:ei) (R':gu),(i≤n)∧(gY [jG] mC H.eof (group [jG] mC H.eof n rows) xs (n - i) rows')∧(xs.length=i)∧(dp av B H.fb H.mc {F with dB:=F.dB++xs} C)∧(cB av B H F R' rows' aF seen)∧(ka {F with dB:=F.dB++xs} rows' seen)∧(eJ B H w av)∧(aK 0= .pointer (some ⟨H.rb,0,none⟩))∧(aK 10= .int .i64 (n:Nat))∧(aK 11= .int .i64 (i:Nat))∧(n - i=aX)) _ ⟨0,[],rows,ln,V,R,ab,gY.start,aa,(by rw [eu]; exact ai.wk aL),(aP.wk aL),(by rw [eu]; exact aY),(Wk.mw aL),aa,aa,aa,aa⟩ ?_
 rintro aX aK av ⟨i,xs,rows',aF,C,R',hi,J,bX,aZ,aq,am,a0,bQ,bR,bU,rfl⟩
 refine fx 0 bQ<|fx 10 bR<|fx 11 bU<|sq fun b3 br=>rg aa<|p (lt aa aa)<|nl<|tn<|br _ _<|sq fun b4 bs=>cd aa (fun bI=> ?_) fun bI=> ?_
 refine aR<|tn<|bs _ _<|sq fun b5 bt=>az<|sq fun b6 bu=>rg aa<|p (aH (.pointer<|some ⟨H.rb,0,none⟩) aa)<|e<|qu (L:= [str jG]) kp aa aa aa aa fun bj bf cb bz bk=> ?_
 have ah:Wk av bf:=bz.md
 have a1:=a0.trans<|Wk.mw ah
 refine eP aa (dj yX (Ap B H F R' rows' aF seen [jG] bj 1 _ _ bf (aq.wk ah) (Tg.A0 bk aa) aa aw fun q bN=>(am.row q bN).2.1) aa fun cn bY bB=> ?_) (fun c w' E aI ai=>by
  obtain ⟨h1,h2⟩:=E
  have hm:=a1.trans<|eJ.rb (aq.wk ah) h2
  rcases h1 with ⟨rfl,h3⟩ | ⟨ak,Z,rest,rfl,h4,h3⟩
  exact ⟨_,_,uv ac (J.ends ab),h3,hm⟩
  exact ⟨_,_,uv ac (J.other ab h4),h3,hm⟩)
 obtain ⟨ak,Z,rest,rfl,aD,⟨bi,aQ⟩,hT15,hM15⟩:=bB
 obtain ⟨b9,tv,rfl⟩:=hT15.slice
 have bo:=(aZ.wk ah).rb (aq.wk ah) hM15
 have aO:=a1.trans<|eJ.rb (aq.wk ah) hM15
 have bd:Z≠[]∧Z.length≤70000∧∀ x∈Z,x.length≤70000:=am.row (ak,Z)<|by simp
 have ax:=ka.rT am
 have a6:=hT15.dJ
 have bH:=am.len
 simp only [bS,bJ] at bH
 refine p aE<|nl<|tn<|bu _ _<|sq fun b7 bv=>rg aa<|p (aH (.pointer<|some ⟨H.rb,0,none⟩) aa)<|p mv<|p (bP gU aa aa)<|p (cx aa aa)<|eP aa (dj gz (gE H.rb ak _ 111 bY aQ.ej aw) aa fun v20 bZ bC=> ?_) fun c w' E aI ai=>⟨_,_,uv ac (J.bad ab aD<|UH<|by have :=of_decide_eq_false E.2.1; omega),E.1,by rw [E.2.2]; exact aO⟩
 obtain ⟨rfl,bV,rfl⟩:=bC
 have aW:Z.length=3:=by have :=of_decide_eq_true bV; omega
 have cg:=bd.2.2 _<|e6 (d:= []) (i:=1) ab
 have ch:=bd.2.2 _<|e6 (d:= []) (i:=2) ab
 refine nl<|tn<|bv _ _<|sq fun b8 bw=>rg aa<|p (aH (.pointer<|some ⟨H.rb,0,none⟩) aa)<|p mv<|p (bc ec aa aa ab<|aG.ok (a6.2)<|c8 ab)<|p (ld cR aa<|dE.get (i:=1) a6.2 ab)<|eP aa (dj Dx (G9 H.rb ak (Z.getD 1 []) bZ aQ.ej ab) aa fun v25 ae bD=> ?_) fun c w' E aI ai=>by obtain ⟨e,he,h,h2⟩:=E; exact ⟨_,_,uv ac (J.bad ab aD<|UI aW he),h,aO.trans<|Wk.mw h2⟩
 obtain ⟨O,bb,rfl,ay⟩:=bD
 have aj:=bo.wk ay
 have au:=aQ.wk ay
 have a8:=hT15.wk ay
 have a2:=aO.trans<|Wk.mw ay
 have aU:¬(C.v9.ownBlock=some H.rb):=dQ aj.o9 au.cells aw
 have bK:¬(C.v9.ownBlock=some H.fb):=dQ aj.o9 aj.cells aw
 refine p aE<|nl<|tn<|bw _ _ ?_
 have A:(fun w'=>Md (fun k=>C.v9.ownBlock=some k) ae w') ae.drew:=(Md.refl _ _).drew
 refine eG (fun w'=>Md (fun k=>C.v9.ownBlock=some k) ae w') 24 aa wide A<|cC 0 aa ag (fun _=>aH (.pointer<|some ⟨H.rb,0,none⟩) aa) (fun _=>A)<|cC 1 aa ag (fun _=>nc aa) (fun _=>A)<|cC 2 aa ag (fun _=>fa gx aa) (fun _=>A)<|jW 3 aa ag (fun w' I=>ld eY aa<|Md.aJ I ((aV au.cells).trans aa) aU) A<|cC 4 aa ag (fun _=>aH (.pointer<|some ⟨H.rb,0,none⟩) aa) (fun _=>A)<|cC 5 aa ag (fun _=>nc aa) (fun _=>A)<|cC 6 aa ag (fun _=>fa gx aa) (fun _=>A)<|jW 7 aa ag (fun w' I=>ld eY aa<|Md.aJ I ((aV au.cells).trans aa) aU) A<|cC 8 aa ag (fun _=>nc aa) (fun _=>A)<|cC 9 aa ag (fun _=>fa fZ aa) (fun _=>A)<|cC 10 aa ag (fun _=>fa wh aa) (fun _=>A)<|jW 11 aa ag (fun w' I=>ld CV aa<|Md.aJ I ((aV aj.cells).trans aa) bK) A<|cC 12 aa ag (fun _=>mv) (fun _=>A)<|cC 13 aa ag (fun _=>aH (.pointer<|some ⟨H.rb,0,none⟩) aa) (fun _=>A)<|cC 14 aa ag (fun _=>mv) (fun _=>A) ?_
 refine cC 15 aa ag (fun _=>bc ec aa aa ab<|aG.ok (a8.dJ.2)<|c8 ab) (fun _=>A)<|jW 16 aa ag (fun w' I=>ld cR aa<|dE.get (i:=2) (a8.md I<|jJ aj.o9 aw).dJ.2 ab) A<|Gh 17 aa ag aa (dj Dy (G7 H.rb ak (Z.getD 2 []) ae.drew (Md.aJ A au.ej aU) ab) aa fun co b0 bE=> ?_) fun c w' E aI ai=>by obtain ⟨e,he,h,h2⟩:=E; exact ⟨_,_,uv ac (J.bad ab aD<|UJ aW bb he),h,a2.trans<|Wk.mw<|je h2⟩
 obtain ⟨Y,bM,rfl,aA⟩:=bE
 have aA:=je aA
 have aS:(fun w'=>Md (fun k=>C.v9.ownBlock=some k) ae w') b0:=Md.mono aA fun _ _ h=>h.elim
 refine ⟨aS,?_⟩
 refine cC 18 aa ag (fun _=>du (ps:= [(0,str O),(1,str Y)]) (L:= [str O,str Y]) VO aa<|aa) (fun _=>aS)<|iV 19 aa ag<|pK xw aa aa aa fun ca b1 cc a3 bl=> ?_
 have aM:=aA.trans a3.md
 have G:=aj.wk aM
 have a4:=au.wk aM
 have a5:(fun w'=>Md (fun k=>C.v9.ownBlock=some k) ae w') b1:=aS.trans' a3.md fun _ _ h=>h.elim
 refine ⟨a5,?_⟩
 refine iV 20 aa ag<|ap xw (G.o9) aa (by have :=(bT.1 a4.cells).1; omega) aa (aG.gl bl) (aa) (aa) (by simp only [bJ]; omega) (by simp only [bJ]; omega) fun v46 bg ba an cm cf=> ?_
 have bx:=(a2.trans<|Wk.mw aM).trans<|Mw.of an (TF.own G.o9 aw) fun k hk=>(da G.o9 hk).1
 have bF:=cB.own a4 G.o9 an aw
 have aT:=an.az G.cells<|dQ G.o9 G.cells aw
 have bL:bq bg B 189 2 v46 ((F.dB++xs)++ [(O,Y)]).length (nq<|(F.dB++xs)++ [(O,Y)]):=by rw [show nq ((F.dB++xs)++ [(O,Y)])=nq (F.dB++xs)++ [str O,str Y] from by simp [nq],bJ]; exact ba
 have aB:(fun w'=>Md (fun k=>C.v9.ownBlock=some k) ae w') bg:=a5.trans' an fun _ _ h=>h
 refine ⟨aB,?_⟩
 exact cC 21 aa ag (fun _=>nc aa) (fun _=>aB)<|cC 22 aa ag (fun _=>fa fZ aa) (fun _=>aB)<|cC 23 aa ag (fun _=>fa wh aa) (fun _=>aB)<|dw 24 aa ag ag<|bW Et aa aa (v:=v46) (e7 ba) aT (by show _ < 14; omega) fun cq aN bm=>eF ag<|bn<|tn<|bt _ _<|rg aa<|p (ad aa aa<|cz ab)<|p mv<|nl<|tn<|⟨_,ab,i+1,xs++ [(O,Y)],rest,ak,{C with v9:=v46},bi,ab,(by rw [show n - (i+1)=n - i - 1 by omega]; exact J.step ab aD<|UK aW bb bM),(by rw [bJ,bX]; rfl),(by rw [← ea]; exact dp.KY (x:=(O,Y)) G an bL aN bm),(cB.vW bF aT aN),(⟨by simp only [bJ,iG]; omega,ax.sl,ax.row,ax.kd,ax.al⟩),(bx.trans<|Mw.of aN (TF.eq (dD aT) aw) fun k hk=>hk ▸ G.lo.1),aa,aa,aa,aa⟩
 refine ext<|te _<|te _<|be<|ja<|f0 aa ?_
 rw [show n - i=0 by omega] at J
 exact ⟨aa,_,rows',aF,UN ac J.done,⟨C,R',aZ,aq.congr aa (fun _=>rfl),am⟩,a0⟩
theorem KD (B:Nat) (H:cw) (F:aC) (rows:List Rw) (ln:Nat) (seen:List Tx) (r:List Tx) (bv:Nat) (ar:Option Addr) (cr:Nat) (w:World) (A:St w B H F rows ln seen) (bg:Tg w bv 9 r.length (.slice ar r.length cr) (r.map str)) (cT:r.length=2) (cf:∀ x∈r,x.length≤70000):
 eK ao 133 (a7 [.pointer (some ⟨H.rb,0,none⟩),.slice ar r.length cr]) w (iL B H seen (kh H.eof F seen rows ln r) w) (iK B H (kh H.eof F seen rows ln r) w):=by
 obtain ⟨V,R,aj,Z,aM⟩:=A
 have cI:=bg.dJ
 have cU:(r.getD 1 []).length≤70000:=cf _<|e6 ab
 have cQ:=Z.lo
 have cL:=aM.len
 obtain ⟨cX,bo,bp⟩:=Z.sm
 have cM:=sR (a:=jd) (l:=seen)
 have cN:=sR (a:=dF) (l:=seen)
 have cV:=aM.sl
 refine jz func133 aa ntmps133 aa<|sq fun cq bD=> ?_
 have C:(fun w'=>Wk w w') w.drew:=(Md.refl _ _).drew
 refine bR (fun w'=>Wk w w') aa wide C<|hp 0 aa ag (fun _ _=>aH (.pointer<|some ⟨H.rb,0,none⟩) aa) C<|hp 1 aa ag (fun _ _=>aH (.pointer<|some ⟨H.rb,0,none⟩) aa) C<|hp 2 aa ag (fun _ _=>nc aa) C<|hp 3 aa ag (fun _ _=>fa rY aa) C<|hp 4 aa ag (fun w' A=>ld rC aa<|Wk.aJ A<|(aV Z.cells).trans aa) C<|hp 5 aa ag (fun w' A=>lB pZ mH gO (bQ.md (bo) A id) aa aa (⟨_,aa⟩)<|bp jd) C<|hp 6 aa ag (fun _ _=>aH (.pointer<|some ⟨H.rb,0,none⟩) aa) C<|hp 7 aa ag (fun _ _=>nc aa) C<|hp 8 aa ag (fun _ _=>fa rY aa) C<|hp 9 aa ag (fun w' A=>ld rC aa<|Wk.aJ A<|(aV Z.cells).trans aa) C<|hp 10 aa ag (fun w' A=>lB pZ mH gO (bQ.md (bo) A id) aa aa (⟨_,aa⟩)<|bp dF) C<|hp 11 aa ag (fun _ _=>bK ((seen.count jd+seen.count dF:Nat):Int) aa aa<|bl ab ab) C<|hp 12 aa ag (fun _ _=>cx aa aa) C ?_
 refine r7 13 aa ag aa (dj gz (gE H.rb ln _ 113 w.drew (Wk.aJ C Z.ej) aw) aa fun v20 a2 b0=> ?_) (fun c w' E aS aj=>⟨ln,113,KE (Classical.byContradiction fun h2=>by
  have h1:=qg.2 fun h=>h2<|Or.inl h
  have h3:=qg.2 fun h=>h2<|Or.inr h
  exact of_decide_eq_false E.2.1 ab),E.1,by rw [E.2.2]; exact Wk.mw C⟩)
 obtain ⟨rfl,ck,br⟩:=b0
 have aN:Wk w a2:=by rw [br]; exact (Md.refl _ _).drew
 have an:¬(jd∈seen∨dF∈seen):=by
  have cH:=of_decide_eq_true ck
  rintro (h | h)
  have :=yb.2 h; omega
  have :=yb.2 h; omega
 have bY:=Z.wk aN
 have bh:=(bg.wk aN).dJ
 have b6:(fun w'=>Wk w w') a2:=by rw [br]; exact C
 refine ⟨b6,?_⟩
 refine hn ag<|tn<|bD _ _<|sq fun cs bE=>rg aa<|p (aH (.pointer<|some ⟨H.rb,0,none⟩) aa)<|p (aH (.slice ar r.length cr) aa)<|p (bc ec aa aa ab<|aG.ok (bh.2)<|c8 ab)<|p (ld cR aa<|dE.get (i:=1) bh.2 ab)<|eP aa (dj vI (xe H.rb ln (r.getD 1 []) 1024 a2 bY.ej ab ab) aa fun v25 c0 b1=> ?_) fun c w' E aS aj=>by obtain ⟨e,he,h,h2⟩:=E; exact ⟨ln,e,KF an he,h,Wk.mw<|aN.trans h2⟩
 obtain ⟨n,aq,rfl,au⟩:=b1
 have cS:=AV aq
 have au:=aN.trans au
 refine p mv<|nl<|tn<|bE _ _<|az<|lp (fun a3 aT aK=> ∃ (i:Nat) (xs:List (List Nat)) (rows':List Rw) (aQ:Nat) (I:ei) (R':gu),(i≤n)∧(gY [jb] (ml F.kind) H.eof (group [jb] (ml F.kind) H.eof n rows) xs (n - i) rows')∧(xs.length=i)∧(dp aK B H.fb H.mc {F with aliases:=F.aliases++xs} I)∧(cB aK B H F R' rows' aQ seen)∧(ka {F with aliases:=F.aliases++xs} rows' seen)∧(eJ B H w aK)∧(aT 0= .pointer (some ⟨H.rb,0,none⟩))∧(aT 25= .int .i64 (n:Nat))∧(aT 26= .int .i64 (i:Nat))∧(n - i=a3)) _ ⟨0,[],rows,ln,V,R,ab,gY.start,aa,(by rw [eu]; exact aj.wk au),(Z.wk au),(by rw [eu]; exact aM),(Wk.mw au),aa,aa,aa,aa⟩ ?_
 rintro a3 aT aK ⟨i,xs,rows',aQ,I,R',hi,ac,cn,a4,aA,ae,a6,ch,ci,cj,rfl⟩
 refine fx 0 ch<|fx 25 ci<|fx 26 cj<|sq fun ct bF=>rg aa<|p (lt aa aa)<|nl<|tn<|bF _ _<|sq fun cu bG=>cd aa (fun b9=> ?_) fun b9=> ?_
 refine aR<|tn<|bG _ _<|sq fun cv bI=>az<|sq fun cy bL=>rg aa<|p (aH (.pointer<|some ⟨H.rb,0,none⟩) aa)<|e<|qu (L:= [str jb]) kp aa aa aa aa fun bx bs cJ bV bz=> ?_
 have ah:Wk aK bs:=bV.md
 have a8:=a6.trans<|Wk.mw ah
 refine eP aa (dj yX (Ap B H F R' rows' aQ seen [jb] bx 1 _ _ bs (aA.wk ah) (Tg.A0 bz aa) aa aw fun q ce=>(ae.row q ce).2.1) aa fun cY co bZ=> ?_) (fun c w' E aS aj=>by
  obtain ⟨h1,h2⟩:=E
  have hm:=a8.trans<|eJ.rb (aA.wk ah) h2
  rcases h1 with ⟨rfl,h3⟩ | ⟨aD,O,rest,rfl,h4,h3⟩
  exact ⟨_,_,vy an aq (ac.ends ab),h3,hm⟩
  exact ⟨_,_,vy an aq (ac.other ab h4),h3,hm⟩)
 obtain ⟨aD,O,rest,rfl,aZ,⟨bw,aO⟩,hT15,hM15⟩:=bZ
 obtain ⟨cF,tv,rfl⟩:=hT15.slice
 have a5:=(a4.wk ah).rb (aA.wk ah) hM15
 have a9:=a8.trans<|eJ.rb (aA.wk ah) hM15
 have cg:O≠[]∧O.length≤70000∧∀ x∈O,x.length≤70000:=ae.row (aD,O)<|by simp
 have aU:=ka.rT ae
 have bi:=hT15.dJ
 have b8:=ae.len
 simp only [bS,bJ] at b8
 refine p aE<|nl<|tn<|bL _ _<|sq fun cA bM=>rg aa<|p (aH (.pointer<|some ⟨H.rb,0,none⟩) aa)<|p mv<|p (bP gU aa aa)<|p (cx aa aa)<|eP aa (dj gz (gE H.rb aD _ 111 co aO.ej aw) aa fun v35 aF b2=> ?_) fun c w' E aS aj=>⟨_,_,vy an aq (ac.bad ab aZ<|KA<|by have :=of_decide_eq_false E.2.1; omega),E.1,by rw [E.2.2]; exact a9⟩
 obtain ⟨rfl,cm,rfl⟩:=b2
 have bm:O.length=2:=by have :=of_decide_eq_true cm; omega
 have cP:=cg.2.2 _<|e6 (d:= []) (i:=1) ab
 refine nl<|tn<|bM _ _<|sq fun cD bN=> ?_
 have J:(fun w'=>Wk aF w') aF.drew:=(Md.refl _ _).drew
 refine bR (fun w'=>Wk aF w') aa wide J<|hp 0 aa ag (fun _ _=>aH (.pointer<|some ⟨H.rb,0,none⟩) aa) J<|hp 1 aa ag (fun _ _=>nc aa) J<|hp 2 aa ag (fun _ _=>fa gx aa) J<|hp 3 aa ag (fun w' A=>ld eY aa<|Wk.aJ A<|(aV aO.cells).trans aa) J<|hp 4 aa ag (fun _ _=>nc aa) J<|hp 5 aa ag (fun _ _=>fa fZ aa) J<|hp 6 aa ag (fun _ _=>fa rW aa) J<|hp 7 aa ag (fun w' A=>ld bH aa<|Wk.aJ A<|(aV a5.cells).trans aa) J<|hp 8 aa ag (fun _ _=>mv) J<|hp 9 aa ag (fun _ _=>bc ec aa aa ab<|aG.ok (bi.2)<|c8 ab) J<|hp 10 aa ag (fun w' A=>ld cR aa<|Wk.aJ A<|dE.get (i:=1) bi.2 ab) J<|he 11 aa ag<|cl Dz (FC F.kind (O.getD 1 []) _ aM.kd ab) aa fun cZ bt b3=> ?_
 obtain ⟨⟨aL,rfl,aY⟩,ai⟩:=b3
 have ai:=je ai
 have ax:=a5.wk ai
 have aB:=aO.wk ai
 have bb:=a9.trans<|Wk.mw ai
 have bj:¬(I.v10.ownBlock=some H.rb):=dQ ax.gP aB.cells aw
 have cb:¬(I.v10.ownBlock=some H.fb):=dQ ax.gP ax.cells aw
 have bC:B≤aF.heap.size:=by have :=(bT.1 aO.cells).1; omega
 have ak:(fun w'=>Wk aF w') bt:=ai
 refine ⟨ak,?_⟩
 refine hp 12 aa ag (fun _ _=>mv) ak<|hp 13 aa ag (fun _ _=>xt aa aa) ak<|hp 14 aa ag (fun _ _=>xt aa aa) ak<|hp 15 aa ag (fun _ _=>aE) ak<|hp 16 aa ag (fun _ _=>aE) ak<|hn ag<|tn<|bN _ _<|sq fun cE bO=>rg aa<|p (aH (.pointer<|some ⟨H.rb,0,none⟩) aa)<|p mv<|eP aa (dj nY (oc H.rb aD ((e5 F.kind<|O.getD 1 []).2:Nat) bt aB.ej) aa fun v53 aI b5=> ?_) fun c w' E aS aj=>⟨_,_,vy an aq (ac.bad ab aZ<|by rw [CW bm]; exact Fw<|by have :=E.2.1; omega),E.1,by rw [E.2.2]; exact bb⟩
 obtain ⟨rfl,a0,rfl⟩:=b5
 have a0:(e5 F.kind<|O.getD 1 []).2=0:=ab
 have ca:=Fv a0
 refine nl<|tn<|bO _ _ ?_
 have G:(fun w'=>Md (fun k=>I.v10.ownBlock=some k) aI w') aI.drew:=(Md.refl _ _).drew
 refine eG (fun w'=>Md (fun k=>I.v10.ownBlock=some k) aI w') 18 aa wide G<|cC 0 aa ag (fun _=>aH (.pointer<|some ⟨H.rb,0,none⟩) aa) (fun _=>G)<|cC 1 aa ag (fun _=>nc aa) (fun _=>G)<|cC 2 aa ag (fun _=>fa gx aa) (fun _=>G)<|jW 3 aa ag (fun w' A=>ld eY aa<|Md.aJ A ((aV aB.cells).trans aa) bj) G<|cC 4 aa ag (fun _=>aH (.pointer<|some ⟨H.rb,0,none⟩) aa) (fun _=>G)<|cC 5 aa ag (fun _=>nc aa) (fun _=>G)<|cC 6 aa ag (fun _=>fa gx aa) (fun _=>G)<|jW 7 aa ag (fun w' A=>ld eY aa<|Md.aJ A ((aV aB.cells).trans aa) bj) G<|cC 8 aa ag (fun _=>nc aa) (fun _=>G)<|cC 9 aa ag (fun _=>fa fZ aa) (fun _=>G)<|cC 10 aa ag (fun _=>fa oT aa) (fun _=>G)<|jW 11 aa ag (fun w' A=>ld qq aa<|Md.aJ A ((aV ax.cells).trans aa) cb) G<|cC 12 aa ag (fun _=>mv) (fun _=>G)<|iV 13 aa ag<|lk xx aa (e7 aY) fun cG cp cK bX bA=> ?_
 have av:=je bX.md
 have Y:=ax.wk av
 have bd:=aB.wk av
 have b7:=(Tg.kL<|ba aY av).mono bC
 have bf:(fun w'=>Md (fun k=>I.v10.ownBlock=some k) aI w') cp:=Md.mono av fun _ _ h=>h.elim
 refine ⟨bf,?_⟩
 refine iV 14 aa ag<|ap xx (Y.gP) aa (by have :=(bT.1 bd.cells).1; omega) aa (aG.gl bA) (aa) (by show List.all [aL] Value.oneCell'=true; simp only [List.all_cons,List.all_nil,e7 aY,Bool.and_self]) (by simp only [bJ]; omega) (by simp only [bJ]; omega) fun a1 bu bk ay cW cO=> ?_
 have bU:=(bb.trans<|Wk.mw av).trans<|Mw.of ay (TF.own Y.gP aw) fun k hk=>(da Y.gP hk).1
 have b4:=cB.own bd Y.gP ay aw
 have aX:=ay.az Y.cells<|dQ Y.gP Y.cells aw
 have cc:bq bu B 51 1 a1 ((F.aliases++xs)++ [(e5 F.kind<|O.getD 1 []).1]).length (I.sa++ [aL]):=by rw [bJ]; exact bk
 have aP:(fun w'=>Md (fun k=>I.v10.ownBlock=some k) aI w') bu:=bf.trans' ay fun _ _ h=>h
 refine ⟨aP,?_⟩
 exact cC 15 aa ag (fun _=>nc aa) (fun _=>aP)<|cC 16 aa ag (fun _=>fa fZ aa) (fun _=>aP)<|cC 17 aa ag (fun _=>fa oT aa) (fun _=>aP)<|dw 18 aa ag ag<|bW Eu aa aa (v:=a1) (e7 bk) aX (by show _ < 14; omega) fun c1 aW bB=>eF ag<|bn<|tn<|bI _ _<|rg aa<|p (ad aa aa<|cz ab)<|p mv<|nl<|tn<|⟨_,ab,i+1,xs++ [(e5 F.kind<|O.getD 1 []).1],rest,aD,{I with v10:=a1,sa:=I.sa++ [aL]},bw,ab,(by rw [show n - (i+1)=n - i - 1 by omega]; exact ac.step ab aZ<|by rw [CW bm]; exact FA a0),(by rw [bJ,cn]; rfl),(by rw [← ea]; exact dp.KV (x:=(e5 F.kind<|O.getD 1 []).1) (vx:=aL) Y b7 ay cc aW bB),(cB.vW b4 aX aW),(⟨by simp only [bJ,iG]; omega,aU.sl,aU.row,aU.kd,by intro l am; rw [← ea] at am; rcases iW.1 am with am | am; exact ae.al l am; rw [gK.1 am]; exact ca⟩),(bU.trans<|Mw.of aW (TF.eq (dD aX) aw) fun k hk=>hk ▸ Y.lo.1),aa,aa,aa,aa⟩
 refine ext<|te _<|te _<|be<|ja<|f0 aa ?_
 rw [show n - i=0 by omega] at ac
 exact ⟨aa,_,rows',aQ,KG an aq ac.done,⟨I,R',a4,aA.congr aa (fun _=>rfl),ae⟩,a6⟩
end Go.Hb.nU
end
