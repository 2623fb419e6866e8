/-
  Walks and plain laws that the law rests on, laid together. No conditions but those that each theorem names.
-/
import Derived.Test.YtkiemnnhcilhpaaGreatDoorMnDicOrder2
set_option linter.unusedVariables false
section
set_option maxRecDepth 20000
set_option maxHeartbeats 1000000
namespace Go.Hb.kV
open Go.Hb.c6
open Go.Proofs
theorem D4 (x:Nat) (w:World):
 a3 Tryz.prog 180 (List.toArray [aI x]) w (fun v w'=>v= .bool false∧Wk w w'):=by
 exact enter Tryz.func180 U Tryz.ntmps180 U (ag (fun _ a=>(au (((a _ _ (ag (fun _ c=>(aj (aI x) (aj (aI x) (p (dF U U) (au (((c _ _ (rt (f1 U U (⟨congrArg Value.bool (decide_eq_false (fun h=>h U)),Md.refl _ _⟩))))))))))))))))))
theorem gZ (x y:Nat) (w:World):
 a3 Tryz.prog 162 (List.toArray [aI x,aI y]) w (fun v w'=>v= .bool (bd x y)∧Wk w w'):=by
 refine enter Tryz.func162 U Tryz.ntmps162 U (ag (fun _ a=>(au (((a _ _ (ag (fun _ c=>(aj (aI x) (e (cl zS (D4 x _) U fun v6 q j=> ?_)))))))))))
 obtain ⟨rfl,i⟩:=j
 exact p mv (sk U U U U (sk U U U U (sk U U U U (p (bj U) (p mv (pg U U U (aB (aI x) U) (pg U U U (aB (aI y) U) (pg U U U (lt U U) (p (bj U) (au (((c _ _ (rt (f1 U U (⟨by show Value.bool (decide ((x:Int) < (y:Int)))=_; unfold bd; exact congrArg Value.bool (decide_eq_decide.2 aa),i⟩))))))))))))))))
theorem D1 (d:Array Nat) (a b:Nat) (B n A:Nat) (s:Option Addr) (w:World) (aq:w.ownsRow B 71 1 (.slice s n A) n (LE aI d)) (bb:a≤b∧b≤n) (bk:n≤1099511627776):
 a3 Tryz.prog 156 (List.toArray [.slice s n A,ae a,ae b]) w (fun v w'=>v= .tuple #[]∧w'.ownsRow B 71 1 (.slice s n A) n (LE aI (Go.Sort.insertionSort bd d a b))∧Md (fun q=>(Value.slice s n A).ownBlock=some q) w w'):=by
 have bg:=di aq
 refine enter Tryz.func156 U Tryz.ntmps156 U (ag (fun _ ax=>(aj (ae a) (p (bm ((a+1:Nat):Int) U U (aU aa aa)) (au (((ax _ _ (aC (lp (fun Z ad am=> ∃ (i:Nat) (Y:Array Nat),(a+1≤i∧i≤n+1)∧(Go.Sort.insOuter bd a b i Y=Go.Sort.insertionSort bd d a b)∧(am.ownsRow B 71 1 (.slice s n A) n (LE aI Y))∧(Md (fun q=>(Value.slice s n A).ownBlock=some q) w am)∧(ad 0= .slice s n A)∧(ad 1=ae a)∧(ad 2=ae b)∧(ad 6=ae i)∧(b - i=Z)) _ ⟨a+1,d,aa,U,aq,(Md.refl _ _),U,U,U,U,U⟩ ?_))))))))))
 rintro Z ad am ⟨i,Y,hi,ak,ar,ap,a0,a1,a2,a4,rfl⟩
 refine fx 0 a0 (fx 1 a1 (fx 2 a2 (fx 6 a4 (sq (fun _ ay=>ag (fun _ aD=>(aj (ae i) (aj (ae b) (p (lt U U) (nl (tn (aD _ _ (cd U (fun aS=> ?_) (fun aS=> ?_))))))))))))))
 refine aH (tn (ay _ _ (sq (fun _ an=>aC (ag (fun _ aF=>(aj (ae i) (p (bG (ae i) U) (az ((aF _ _ (aC (lp (fun Z V M=> ∃ (j:Nat) (E:Array Nat),(a≤j∧j≤i)∧(Go.Sort.insInner bd a j E=Go.Sort.insInner bd a i Y)∧(M.ownsRow B 71 1 (.slice s n A) n (LE aI E))∧(Md (fun q=>(Value.slice s n A).ownBlock=some q) w M)∧(V 0= .slice s n A)∧(V 1=ae a)∧(V 2=ae b)∧(V 6=ae i)∧(V 7=ae j)∧(j=Z)) _ ⟨i,Y,aa,U,ar,ap,U,U,U,U,U,U⟩ ?_)))))))))))))
 rintro Z V M ⟨j,E,bi,al,I,ah,a5,a6,a7,a8,a9,rfl⟩
 refine fx 0 a5 (fx 1 a6 (fx 2 a7 (fx 6 a8 (fx 7 a9 (sq (fun _ aG=>sq (fun _ ao=> ?_)))))))
 have bf:=di I
 have c:(fun w'=>Wk M w') M.drew:=(Md.refl _ _).drew
 refine bS (fun w'=>Wk M w') U wide c (bH 0 U (ae j) c (bH 1 U (ae a) c (aT 2 U (fun _ _=>gt U U) c (aT 3 U (fun _ _=>mv) c (gI (t:=19) U (fun aR=> ?_) (fun aR=> ?_))))))
 refine aW 4 U ab U U U (fun _ _=>aB (.slice s n A) U) c (aW 5 U ab U U U (fun _ _=>aB (ae j) U) c (aW 6 U ab U U U (fun _ _=>aQ ba U U aa (aw.ok ((aJ I).2) (bh aa))) c (aW 7 U ab U U U (fun w' G=>ld bq U (bJ (i:=j) ((aJ I).2.wk G) aa)) c (aW 8 U ab U U U (fun _ _=>aB (.slice s n A) U) c (aW 9 U ab U U U (fun _ _=>aB (ae j) U) c (aW 10 U ab U U U (fun _ _=>bZ ((j - 1:Nat):Int) U U (aU aa aa)) c (aW 11 U ab U U U (fun _ _=>aQ ba U U aa (aw.ok ((aJ I).2) (bh aa))) c (aW 12 U ab U U U (fun w' G=>ld bq U (bJ (i:=j - 1) ((aJ I).2.wk G) aa)) c (gW 13 U ab U U U (cl gR (gZ E[j]! E[j - 1]! _) U fun bl ac aP=> ?_))))))))))
 obtain ⟨rfl,aL⟩:=aP
 have O:(fun w'=>Wk M w') ac:=Md.trans c aL
 refine ⟨O,?_⟩
 refine aT 14 U (fun _ _=>bE U) O (hn ab (tn (ao _ _ (cb U (fun ai=> ?_) (fun ai=> ?_)))))
 refine aH (tn (aG _ _ (sq (fun _ aK=>aC ?_))))
 have J:=aE I O
 have C:(fun w'=>Wk ac w') ac.drew:=(Md.refl _ _).drew
 refine dy (fun w'=>Wk ac w') 15 U wide C (aV 0 U (.slice s n A) C (aV 1 U (ae j) C (aV 2 U (.slice s n A) C (aV 3 U (ae j) C (bc 4 U (fun _=>bZ ((j - 1:Nat):Int) U U (aU aa aa)) (fun _=>C) (aV 5 U (.slice s n A) C (aV 6 U (ae j) C (bc 7 U (fun _=>bZ ((j - 1:Nat):Int) U U (aU aa aa)) (fun _=>C) (bc 8 U (fun _=>aQ ba U U aa (aw.ok ((aJ J).2) (bh aa))) (fun _=>C) (cY 9 U (fun w' G=>ld bq U (bJ (i:=j - 1) ((aJ J).2.wk G) aa)) C (aV 10 U (.slice s n A) C (aV 11 U (ae j) C (bc 12 U (fun _=>aQ ba U U aa (aw.ok ((aJ J).2) (bh aa))) (fun _=>C) (cY 13 U (fun w' G=>ld bq U (bJ (i:=j) ((aJ J).2.wk G) aa)) C (bc 14 U (fun _=>aQ ba U U aa (aw.ok ((aJ J).2) (bh aa))) (fun _=>C) ?_)))))))))))))))
 refine bV 15 U ab ab (dJ (u:=E[j - 1]!) (j) (aE J C) dE U U U aa fun bo aN aY=>bc 16 U (fun _=>aQ ba U U aa (aw.ok ((aJ J).2) (bh aa))) (fun h=>Bool.noConfusion ((show true =_ from by kernel_rfl).trans h)) (bV 17 U ab ab (dJ (u:=E[j]!) (j - 1) aY dE U U U aa fun av aO aZ=> ?_)))
 have G:av.ownsRow B 71 1 (.slice s n A) n (LE aI (Go.Sort.swp E (j) (j - 1))):=aZ
 have aM:Md (fun q=>(Value.slice s n A).ownBlock=some q) ac av:=Md.trans (C.mono (fun _ _ h=>h.elim)) (Md.trans aN aO)
 exact dx ab (bn (tn (aK _ _ (rg U (aj (ae j) (p (bZ ((j - 1:Nat):Int) U U (aU aa aa)) (p aA (nl (tn (⟨_,aa,j - 1,Go.Sort.swp E j (j - 1),aa,((by rw [← al,DY (show a < j by omega) ai])),G,(Md.trans ah (Md.trans (O.mono (fun _ _ h=>h.elim)) aM)),U,U,U,U,U,U⟩))))))))))
 exact ext (te _ (te _ (be (bn (tn (an _ _ (rg U (aj (ae i) (p (bm ((i+1:Nat):Int) U U (aU aa aa)) (au (((⟨_,aa,i+1,E,aa,((by rw [← ak,vA (show i < b by omega),← al,DZ (by simpa using ai)])),(aE I O),(Md.trans ah (O.mono (fun _ _ h=>h.elim))),U,U,U,U,U⟩)))))))))))))
 exact aX 4 U ab U U U U c (aX 5 U ab U U U U c (aX 6 U ab U U U U c (aX 7 U ab U U U U c (aX 8 U ab U U U U c (aX 9 U ab U U U U c (aX 10 U ab U U U U c (aX 11 U ab U U U U c (aX 12 U ab U U U U c (aX 13 U ab U U U U c (aT 14 U (fun _ _=>bj U) c (hn ab (tn (ao _ _ (cf U (ext (te _ (te _ (be (bn (tn (an _ _ (rg U (aj (ae i) (p (bm ((i+1:Nat):Int) U U (aU aa aa)) (p aA (nl (tn (⟨_,aa,i+1,E,aa,((by rw [← ak,vA (show i < b by omega),← al,D0 aa])),(aE I (Md.refl _ _).drew),ah.drew,U,U,U,U,U⟩))))))))))))))))))))))))))))
 exact ext (te _ (te _ (be (f0 U (⟨U,by rw [← ak,DX aa]; exact ar,ap⟩)))))
theorem G0 (d:Array Nat) (lo hi first :Nat) (B n A:Nat) (s:Option Addr) (w:World) (aR:w.ownsRow B 71 1 (.slice s n A) n (LE aI d)) (bl:lo≤hi∧first+hi≤n) (bp:n≤1099511627776):
 a3 Tryz.prog 175 (List.toArray [.slice s n A,ae lo,ae hi,ae first]) w (fun v w'=>v= .tuple #[]∧w'.ownsRow B 71 1 (.slice s n A) n (LE aI (Go.Sort.siftDown bd hi first lo d))∧Md (fun q=>(Value.slice s n A).ownBlock=some q) w w'):=by
 refine enter Tryz.func175 U Tryz.ntmps175 U (ag (fun _ ax=>(aj (ae lo) (p (bG (ae lo) U) (az ((ax _ _ (aC (lp (fun ap ah V=> ∃ (r:Nat) (C:Array Nat),(r≤hi)∧(Go.Sort.siftDown bd hi first r C=Go.Sort.siftDown bd hi first lo d)∧(V.ownsRow B 71 1 (.slice s n A) n (LE aI C))∧(Md (fun q=>(Value.slice s n A).ownBlock=some q) w V)∧(ah 0= .slice s n A)∧(ah 2=ae hi)∧(ah 3=ae first)∧(ah 8=ae r)∧(hi - r=ap)) _ ⟨lo,d,aa,U,aR,(Md.refl _ _),U,U,U,U,U⟩ ?_)))))))))
 rintro ap ah V ⟨r,C,bs,an,I,ak,a5,a6,a7,a8,rfl⟩
 refine fx 0 a5 (fx 2 a6 (fx 3 a7 (fx 8 a8 (aC (ag (fun _ ay=>(aj (ae r) (p (ll ((2 *r:Nat):Int) U U (aU aa aa)) (p (bm ((2 *r+1:Nat):Int) U U (aU aa aa)) (p aA (az ((ay _ _ (sq (fun _ aD=>ag (fun _ aF=>(p mv (aj (ae hi) (p (ge U U) (az ((aF _ _ (cd U (fun aZ=> ?_) (fun aZ=> ?_))))))))))))))))))))))))
 exact ext (te _ (jo ao (te _ (be (f0 U (⟨U,by rw [← an,GY aa]; exact I,ak⟩))))))
 refine aH (tn (aD _ _ ?_))
 refine dA (fun ac O=> ∃ (c:Nat),(r < c∧c < hi)∧(Go.Sort.siftDown bd hi first r C=if (!bd C[first+r]! C[first+c]!)=true then C else Go.Sort.siftDown bd hi first c (Go.Sort.swp C (first+r) (first+c)))∧(O.ownsRow B 71 1 (.slice s n A) n (LE aI C))∧(Md (fun q=>(Value.slice s n A).ownBlock=some q) w O)∧(ac 0= .slice s n A)∧(ac 2=ae hi)∧(ac 3=ae first)∧(ac 8=ae r)∧(ac 9=ae c)) ?_ ?_
 refine sq (fun _ ai=> ?_)
 have a0:=di I
 have a:(fun w'=>Wk V w') V.drew:=(Md.refl _ _).drew
 refine bS (fun w'=>Wk V w') U wide a (aT 0 U (fun _ _=>mv) a (aT 1 U (fun _ _=>bm ((2 *r+1 +1:Nat):Int) U U (aU aa aa)) a (bH 2 U (ae hi) a (aT 3 U (fun _ _=>lt U U) a (aT 4 U (fun _ _=>mv) a (gI (t:=21) U (fun a1=> ?_) (fun a1=> ?_)))))))
 refine aW 5 U ab U U U (fun _ _=>aB (.slice s n A) U) a (aW 6 U ab U U U (fun _ _=>aB (ae first) U) a (aW 7 U ab U U U (fun _ _=>mv) a (aW 8 U ab U U U (fun _ _=>bm ((first+(2 *r+1):Nat):Int) U U (aU aa aa)) a (aW 9 U ab U U U (fun _ _=>aQ ba U U aa (aw.ok ((aJ I).2) (bh aa))) a (aW 10 U ab U U U (fun w' G=>ld bq U (bJ (i:=first+(2 *r+1)) ((aJ I).2.wk G) aa)) a (aW 11 U ab U U U (fun _ _=>aB (.slice s n A) U) a (aW 12 U ab U U U (fun _ _=>aB (ae first) U) a (aW 13 U ab U U U (fun _ _=>mv) a (aW 14 U ab U U U (fun _ _=>bm ((first+(2 *r+1):Nat):Int) U U (aU aa aa)) a (aW 15 U ab U U U (fun _ _=>bm ((first+(2 *r+1)+1:Nat):Int) U U (aU aa aa)) a (aW 16 U ab U U U (fun _ _=>aQ ba U U aa (aw.ok ((aJ I).2) (bh aa))) a (aW 17 U ab U U U (fun w' G=>ld bq U (bJ (i:=first+(2 *r+1)+1) ((aJ I).2.wk G) aa)) a (gW 18 U ab U U U (cl gR (gZ C[first+(2 *r+1)]! C[first+(2 *r+1)+1]! _) U fun bt bk aS=> ?_))))))))))))))
 obtain ⟨rfl,aL⟩:=aS
 have Y:(fun w'=>Wk V w') bk:=Md.trans a aL
 refine ⟨Y,?_⟩
 refine aT 19 U (fun _ _=>bE U) Y (hn ab (tn (ai _ _ (cb U (fun al=> ?_) (fun al=> ?_)))))
 exact rg U (p mv (p (bm ((2 *r+2:Nat):Int) U U (aU aa aa)) (au (((⟨2 *r+2,aa,(GZ aa al),(aE I Y),(Md.trans ak (Y.mono (fun _ _ h=>h.elim))),U,U,U,U,U⟩))))))
 exact aH (tn (⟨2 *r+1,aa,(xu aa (.inr al)),(aE I Y),(Md.trans ak (Y.mono (fun _ _ h=>h.elim))),U,U,U,U,U⟩))
 exact aX 5 U ab U U U U a (aX 6 U ab U U U U a (aX 7 U ab U U U U a (aX 8 U ab U U U U a (aX 9 U ab U U U U a (aX 10 U ab U U U U a (aX 11 U ab U U U U a (aX 12 U ab U U U U a (aX 13 U ab U U U U a (aX 14 U ab U U U U a (aX 15 U ab U U U U a (aX 16 U ab U U U U a (aX 17 U ab U U U U a (aX 18 U ab U U U U a (aT 19 U (fun _ _=>bj U) a (hn ab (tn (ai _ _ (cf U (aH (tn (⟨2 *r+1,aa,(xu aa (.inl aa)),(aE I (Md.refl _ _).drew),ak.drew,U,U,U,U,U⟩)))))))))))))))))))))
 rintro ac O ⟨c,bo,ar,M,aq,a9,bb,bf,bg,bi⟩
 refine fx 0 a9 (fx 2 bb (fx 3 bf (fx 8 bg (fx 9 bi (sq (fun _ ai=>sq (fun _ aG=> ?_)))))))
 have a0:=di M
 have E:(fun w'=>Wk O w') O.drew:=(Md.refl _ _).drew
 refine bS (fun w'=>Wk O w') U wide E (bH 0 U (.slice s n A) E (bH 1 U (ae first) E (bH 2 U (ae r) E (aT 3 U (fun _ _=>bm ((first+r:Nat):Int) U U (aU aa aa)) E (aT 4 U (fun _ _=>aQ ba U U aa (aw.ok ((aJ M).2) (bh aa))) E (aT 5 U (fun w' G=>ld bq U (bJ (i:=first+r) ((aJ M).2.wk G) aa)) E (bH 6 U (.slice s n A) E (bH 7 U (ae first) E (bH 8 U (ae c) E (aT 9 U (fun _ _=>bm ((first+c:Nat):Int) U U (aU aa aa)) E (aT 10 U (fun _ _=>aQ ba U U aa (aw.ok ((aJ M).2) (bh aa))) E (aT 11 U (fun w' G=>ld bq U (bJ (i:=first+c) ((aJ M).2.wk G) aa)) E (he 12 U ab (cl gR (gZ C[first+r]! C[first+c]! _) U fun bu ad aY=> ?_))))))))))))))
 obtain ⟨rfl,aM⟩:=aY
 have Z:(fun w'=>Wk O w') ad:=Md.trans E aM
 refine ⟨Z,?_⟩
 refine aT 13 U (fun _ _=>no U) Z (hn ab (tn (aG _ _ (cb U (fun am=> ?_) (fun am=> ?_)))))
 exact rt (tr (br (tr (br (oA U (⟨U,by rw [← an,ar,if_pos am]; exact aE M Z,Md.trans aq (Z.mono (fun _ _ h=>h.elim))⟩))))))
 refine aH (tn (ai _ _ (sq (fun _ aK=> ?_))))
 have J:=aE M Z
 have j:(fun w'=>Wk ad w') ad.drew:=(Md.refl _ _).drew
 refine dy (fun w'=>Wk ad w') 21 U wide j (aV 0 U (.slice s n A) j (aV 1 U (ae first) j (aV 2 U (ae r) j (bc 3 U (fun _=>bm ((first+r:Nat):Int) U U (aU aa aa)) (fun _=>j) (aV 4 U (.slice s n A) j (aV 5 U (ae first) j (aV 6 U (ae c) j (bc 7 U (fun _=>bm ((first+c:Nat):Int) U U (aU aa aa)) (fun _=>j) (aV 8 U (.slice s n A) j (aV 9 U (ae first) j (aV 10 U (ae c) j (bc 11 U (fun _=>bm ((first+c:Nat):Int) U U (aU aa aa)) (fun _=>j) (bc 12 U (fun _=>aQ ba U U aa (aw.ok ((aJ J).2) (bh aa))) (fun _=>j) (cY 13 U (fun w' G=>ld bq U (bJ (i:=first+c) ((aJ J).2.wk G) aa)) j (aV 14 U (.slice s n A) j (aV 15 U (ae first) j (aV 16 U (ae r) j (bc 17 U (fun _=>bm ((first+r:Nat):Int) U U (aU aa aa)) (fun _=>j) (bc 18 U (fun _=>aQ ba U U aa (aw.ok ((aJ J).2) (bh aa))) (fun _=>j) (cY 19 U (fun w' G=>ld bq U (bJ (i:=first+r) ((aJ J).2.wk G) aa)) j (bc 20 U (fun _=>aQ ba U U aa (aw.ok ((aJ J).2) (bh aa))) (fun _=>j) (bV 21 U ab ab (dJ (u:=C[first+c]!) (first+r) (aE J j) dE U U U aa fun bv aO a2=> ?_)))))))))))))))))))))))
 refine bc 22 U (fun _=>aQ ba U U aa (aw.ok ((aJ J).2) (bh aa))) (fun h=>Bool.noConfusion ((show true =_ from by kernel_rfl).trans h)) (bV 23 U ab ab (dJ (u:=C[first+r]!) (first+c) a2 dE U U U aa fun av aP a4=> ?_))
 have G:av.ownsRow B 71 1 (.slice s n A) n (LE aI (Go.Sort.swp C (first+r) (first+c))):=a4
 have aN:Md (fun q=>(Value.slice s n A).ownBlock=some q) ad av:=Md.trans (j.mono (fun _ _ h=>h.elim)) (Md.trans aO aP)
 exact dx ab (tn (aK _ _ (rg U (aj (ae c) (p (bG (ae c) U) (nl (bn (tn (⟨_,aa,c,Go.Sort.swp C (first+r) (first+c),aa,((by rw [← an,ar,if_neg (by rw [am]; exact Bool.noConfusion)])),G,(Md.trans aq (Md.trans (Z.mono (fun _ _ h=>h.elim)) aN)),U,U,U,U,U⟩)))))))))
theorem xv (d:Array Nat) (lo hi first :Nat) (j i:Int) (B n c:Nat) (a:Option Addr) (w:World) (p:w.ownsRow B 71 1 (.slice a n c) n (LE aI d)) (s:lo≤hi∧first+hi≤n) (C:j=(lo:Nat)) (A:i=(hi:Nat)) (E:n≤1099511627776):
 a3 Tryz.prog 175 (List.toArray [.slice a n c,.int .i64 j,.int .i64 i,.int .i64 (first :Nat)]) w (fun v w'=>v= .tuple #[]∧w'.ownsRow B 71 1 (.slice a n c) n (LE aI (Go.Sort.siftDown bd hi first lo d))∧Md (fun q=>(Value.slice a n c).ownBlock=some q) w w'):=by
 subst C A; exact G0 d lo hi first B n c a w p s E
theorem DK (d:Array Nat) (a b:Nat) (B n j:Nat) (c:Option Addr) (w:World) (aK:w.ownsRow B 71 1 (.slice c n j) n (LE aI d)) (a7:a < b∧b≤n) (ac:n≤1099511627776):
 a3 Tryz.prog 157 (List.toArray [.slice c n j,ae a,ae b]) w (fun v w'=>v= .tuple #[]∧w'.ownsRow B 71 1 (.slice c n j) n (LE aI (Go.Sort.heapSort bd d a b))∧Md (fun q=>(Value.slice c n j).ownBlock=some q) w w'):=by
 refine enter Tryz.func157 U Tryz.ntmps157 U (ag (fun _ ai=>(aj (ae a) (p (bG (ae a) U) (az ((ai _ _ (ag (fun _ an=>au (((an _ _ (ag (fun _ ao=>(aj (ae b) (aj (ae a) (p (bZ ((b - a:Nat):Int) U U (aU aa aa)) (au (((ao _ _ (sq (fun _ ap=>ag (fun _ aq=>(p mv (p (bZ ((b - a - 1:Nat):Int) U U (aU aa aa)) (p (kj (((b - a - 1) / 2:Nat):Int) U U aa (aU aa aa)) (au (((aq _ _ (aC (lp (fun J G Z=> ∃ (k:Nat) (A:Array Nat),(k≤b - a)∧(Go.Sort.heapBuild bd (b - a) a k A=Go.Sort.heapBuild bd (b - a) a ((b - a - 1) / 2 +1) d)∧(Z.ownsRow B 71 1 (.slice c n j) n (LE aI A))∧(Md (fun q=>(Value.slice c n j).ownBlock=some q) w Z)∧(G 0= .slice c n j)∧(G 6=ae a)∧(G 7= .int .i64 0)∧(G 8=ae (b - a))∧(G 9= .int .i64 ((k:Nat) - 1:Int))∧(k=J)) _ ⟨(b - a - 1) / 2 +1,d,aa,U,aK,(Md.refl _ _),U,U,U,U,(iv aa),U⟩ ?_)))))))))))))))))))))))))))))))))
 rintro J G Z ⟨k,A,hk,Y,C,M,aW,aX,aY,aZ,a0,rfl⟩
 refine fx 0 aW (fx 6 aX (fx 7 aY (fx 8 aZ (fx 9 a0 (sq (fun _ ar=>ag (fun _ av=>(aj (.int .i64 ((k:Nat) - 1:Int)) (p (ge U U) (az ((av _ _ (cd U (fun aP=> ?_) (fun aP=> ?_))))))))))))))
 refine aH (tn (ar _ _ (sq (fun _ V=>aC (rg U (aj (.slice c n j) (aj (.int .i64 ((k:Nat) - 1:Int)) (aj (ae (b - a)) (aj (ae a) (e (cl ti (xv A (k - 1) (b - a) a _ _ B n j c _ C aa aa U ac) U fun bb bg aN=> ?_)))))))))))
 obtain ⟨rfl,aL,ay⟩:=aN
 exact nl (bn (tn (V _ _ (rg U (aj (.int .i64 ((k:Nat) - 1:Int)) (p (sb U U (bu aa)) (p aA (nl (tn (⟨_,aa,k - 1,Go.Sort.siftDown bd (b - a) a (k - 1) A,aa,((by rw [← Y,Dq (show 0 < k by omega)])),aL,(Md.trans M ay),U,U,U,U,(iv aa),U⟩))))))))))
 refine ext (te _ (te _ (be (tn (ap _ _ (ag (fun _ V=>(aj (ae (b - a)) (p (bZ ((b - a - 1:Nat):Int) U U (aU aa aa)) (au (((V _ _ (aC (lp (fun J I E=> ∃ (k:Nat) (A:Array Nat),(k≤b - a)∧(Go.Sort.heapPop bd a k A=Go.Sort.heapSort bd d a b)∧(E.ownsRow B 71 1 (.slice c n j) n (LE aI A))∧(Md (fun q=>(Value.slice c n j).ownBlock=some q) w E)∧(I 0= .slice c n j)∧(I 6=ae a)∧(I 7= .int .i64 0)∧(I 8=ae (b - a))∧(I 10= .int .i64 ((k:Nat) - 1:Int))∧(k=J)) _ ⟨b - a,A,aa,((by rw [show k=0 by omega,Dr] at Y; rw [Y]; rfl)),C,M,U,U,U,U,(iv aa),U⟩ ?_)))))))))))))))
 rintro J I E ⟨k,A,a9,ad,C,M,a1,a4,a5,a6,a2,rfl⟩
 refine fx 0 a1 (fx 6 a4 (fx 7 a5 (fx 8 a6 (fx 10 a2 (sq (fun _ ax=>ag (fun _ ak=>(aj (.int .i64 ((k:Nat) - 1:Int)) (p (ge U U) (az ((ak _ _ (cd U (fun aR=> ?_) (fun aR=> ?_))))))))))))))
 refine aH (tn (ax _ _ (sq (fun _ al=>aC (sq (fun _ am=> ?_))))))
 have a8:=di C
 have s:(fun w'=>Wk E w') E.drew:=(Md.refl _ _).drew
 refine dy (fun w'=>Wk E w') 17 U wide s (aV 0 U (.slice c n j) s (aV 1 U (ae a) s (aV 2 U (.slice c n j) s (aV 3 U (ae a) s (aV 4 U (.int .i64 ((k:Nat) - 1:Int)) s (bc 5 U (fun _=>bm ((a+(k - 1):Nat):Int) U U (aU aa aa)) (fun _=>s) (aV 6 U (.slice c n j) s (aV 7 U (ae a) s (aV 8 U (.int .i64 ((k:Nat) - 1:Int)) s (bc 9 U (fun _=>bm ((a+(k - 1):Nat):Int) U U (aU aa aa)) (fun _=>s) (bc 10 U (fun _=>aQ ba U U aa (aw.ok ((aJ C).2) (bh aa))) (fun _=>s) (cY 11 U (fun w' O=>ld bq U (bJ (i:=a+(k - 1)) ((aJ C).2.wk O) aa)) s (aV 12 U (.slice c n j) s (aV 13 U (ae a) s (bc 14 U (fun _=>aQ ba U U aa (aw.ok ((aJ C).2) (bh aa))) (fun _=>s) ?_)))))))))))))))
 refine cY 15 U (fun w' O=>ld bq U (bJ (i:=a) ((aJ C).2.wk O) aa)) s (bc 16 U (fun _=>aQ ba U U aa (aw.ok ((aJ C).2) (bh aa))) (fun _=>s) (bV 17 U ab ab (dJ (u:=A[a+(k - 1)]!) (a) (aE C s) dE U U U aa fun bj aF aS=>bc 18 U (fun _=>aQ ba U U aa (aw.ok ((aJ C).2) (bh aa))) (fun h=>Bool.noConfusion ((show true =_ from by kernel_rfl).trans h)) (bV 19 U ab ab (dJ (u:=A[a]!) (a+(k - 1)) aS dE U U U aa fun ah aG aT=> ?_)))))
 have O:ah.ownsRow B 71 1 (.slice c n j) n (LE aI (Go.Sort.swp A (a) (a+(k - 1)))):=aT
 have aD:Md (fun q=>(Value.slice c n j).ownBlock=some q) E ah:=Md.trans (s.mono (fun _ _ h=>h.elim)) (Md.trans aF aG)
 refine dx ab (tn (am _ _ (rg U (aj (.slice c n j) (aj (.int .i64 0) (aj (.int .i64 ((k:Nat) - 1:Int)) (aj (ae a) (e (cl ti (xv (Go.Sort.swp A a (a+(k - 1))) 0 (k - 1) a _ _ B n j c _ O aa U aa ac) U fun bf bi aO=> ?_)))))))))
 obtain ⟨rfl,aM,aB⟩:=aO
 exact nl (bn (tn (al _ _ (rg U (aj (.int .i64 ((k:Nat) - 1:Int)) (p (sb U U (bu aa)) (p aA (nl (tn (⟨_,aa,k - 1,Go.Sort.siftDown bd (k - 1) a 0 (Go.Sort.swp A a (a+(k - 1))),aa,((by rw [← ad,DM (show 0 < k by omega)])),aM,(Md.trans M (Md.trans aD aB)),U,U,U,U,(iv aa),U⟩))))))))))
 exact ext (te _ (te _ (be (f0 U (⟨U,by rw [← ad,show k=0 by omega]; exact C,M⟩)))))
theorem Gw (d:Array Nat) (a b:Nat) (B n A:Nat) (s:Option Addr) (w:World) (ao:w.ownsRow B 71 1 (.slice s n A) n (LE aI d)) (aB:a < b∧b≤n) (aF:n≤1099511627776):
 a3 Tryz.prog 160 (List.toArray [.slice s n A,ae a,ae b]) w (fun v w'=>v= .tuple #[]∧w'.ownsRow B 71 1 (.slice s n A) n (LE aI (Go.Sort.reverseRange d a b))∧Md (fun q=>(Value.slice s n A).ownBlock=some q) w w'):=by
 refine enter Tryz.func160 U Tryz.ntmps160 U (ag (fun _ Z=>(aj (ae a) (p (bG (ae a) U) (az ((Z _ _ (ag (fun _ ac=>aj (ae b) (p (bZ ((b - 1:Nat):Int) U U (aU aa aa)) (au (((ac _ _ (aC (lp (fun M J G=> ∃ (i j:Nat) (E:Array Nat),(i≤n∧j < n)∧(Go.Sort.reverseLoop i j E=Go.Sort.reverseRange d a b)∧(G.ownsRow B 71 1 (.slice s n A) n (LE aI E))∧(Md (fun q=>(Value.slice s n A).ownBlock=some q) w G)∧(J 0= .slice s n A)∧(J 6=ae i)∧(J 7=ae j)∧(j - i=M)) _ ⟨a,b - 1,d,aa,U,ao,(Md.refl _ _),U,U,U,U⟩ ?_))))))))))))))))
 rintro M J G ⟨i,j,E,hi,V,C,O,av,ax,ay,rfl⟩
 refine fx 0 av (fx 6 ax (fx 7 ay (sq (fun _ ad=>ag (fun _ ah=>(aj (ae i) (aj (ae j) (p (lt U U) (nl (tn (ah _ _ (cd U (fun ap=> ?_) (fun ap=> ?_)))))))))))))
 refine aH (tn (ad _ _ (aC (sq (fun _ ai=> ?_)))))
 have aD:=di C
 have c:(fun w'=>Wk G w') G.drew:=(Md.refl _ _).drew
 refine dy (fun w'=>Wk G w') 13 U wide c (aV 0 U (.slice s n A) c (aV 1 U (ae i) c (aV 2 U (.slice s n A) c (aV 3 U (ae j) c (aV 4 U (.slice s n A) c (aV 5 U (ae j) c (bc 6 U (fun _=>aQ ba U U aa (aw.ok ((aJ C).2) (bh aa))) (fun _=>c) (cY 7 U (fun w' I=>ld bq U (bJ (i:=j) ((aJ C).2.wk I) aa)) c (aV 8 U (.slice s n A) c (aV 9 U (ae i) c (bc 10 U (fun _=>aQ ba U U aa (aw.ok ((aJ C).2) (bh aa))) (fun _=>c) (cY 11 U (fun w' I=>ld bq U (bJ (i:=i) ((aJ C).2.wk I) aa)) c (bc 12 U (fun _=>aQ ba U U aa (aw.ok ((aJ C).2) (bh aa))) (fun _=>c) (bV 13 U ab ab (dJ (u:=E[j]!) (i) (aE C c) dE U U U aa fun aG am aq=> ?_)))))))))))))))
 refine bc 14 U (fun _=>aQ ba U U aa (aw.ok ((aJ C).2) (bh aa))) (fun h=>Bool.noConfusion ((show true =_ from by kernel_rfl).trans h)) (bV 15 U ab ab (dJ (u:=E[i]!) (j) aq dE U U U aa fun Y an ar=> ?_))
 have I:Y.ownsRow B 71 1 (.slice s n A) n (LE aI (Go.Sort.swp E (i) (j))):=ar
 have al:Md (fun q=>(Value.slice s n A).ownBlock=some q) G Y:=Md.trans (c.mono (fun _ _ h=>h.elim)) (Md.trans am an)
 exact dx ab (tn (ai _ _ (ag (fun _ ak=>(aj (ae i) (p (bm ((i+1:Nat):Int) U U (aU aa aa)) (au (((ak _ _ (rg U (aj (ae j) (p (bZ ((j - 1:Nat):Int) U U (aU aa aa)) (p aA (nl (bn (tn (⟨_,aa,i+1,j - 1,Go.Sort.swp E i j,aa,((by rw [← V,Gu (show i < j by omega)])),I,(Md.trans O al),U,U,U,U⟩))))))))))))))))))
 exact ext (te _ (te _ (be (f0 U (⟨U,by rw [← V,Gv aa]; exact C,O⟩)))))
end Go.Hb.kV
end
section
set_option maxRecDepth 20000
set_option maxHeartbeats 1000000
namespace Go.Hb.nP
open Go.Hb.c6
open Go.Proofs
open Go.Hb.kV
theorem HO {n:Nat} {l:List UInt8} (h:n < 256) (a:∀ k:Fin 256,(l.getD k.val 0).toNat=gk k.val):IntKind.i64.wrap ((l.getD n 0).toNat:Int)=(gk n:Int):=by
 rw [a ⟨n,h⟩]; have :=oO h; exact bu (by simp only; omega)
theorem GU {k:Nat} (h:k≤8):IntKind.u64.wrap ((1:Int)*2 ^ min ((k:Nat):Int).toNat IntKind.u64.bits)=((2 ^ k:Nat):Int):=by
 have h2:(IntKind.u64.bits:Nat)=64:=rfl
 rw [Int.toNat_natCast,h2,Nat.min_eq_left aa,Int.one_mul]
 have h3:(2:Nat) ^ k≤2 ^ 8:=Nat.pow_le_pow_right ao h
 have h4:((2:Int) ^ k)=((2 ^ k:Nat):Int):=by simp
 rw [h4]
 obtain ⟨m,hm⟩:∃ m:Nat,2 ^ k=m:=⟨_,rfl⟩
 rw [hm] at h3 ⊢; exact jT aa
theorem FT {d d1 d2:Array Nat} {a b i j:Nat} (h:Go.Sort.PermIn a b d d1) (hi:a≤i∧i < b) (c:a≤j∧j < b) (p:b≤d1.size) (h2:d2=Go.Sort.swp d1 i j):Go.Sort.PermIn a b d d2:=by
 subst h2; exact Go.Sort.permIn_trans _ _ _ a b h (Go.Sort.swp_permIn d1 a b i j hi.1 hi.2 c.1 c.2 p)
theorem rD (d:Array Nat) (i j s lo hi E:Nat) (B n G:Nat) (C:Option Addr) (w:World) (c:w.ownsRow B 71 1 (.slice C n G) n (LE aI d)) (V:bl w.heap E [ae s]) (ao:(Value.slice C n G).ownBlock≠some E) (ax:lo≤i∧i < hi∧lo≤j∧j < hi∧hi≤n) (hs:s≤1000) (av:n≤1099511627776):
 a3 Tryz.prog 186 (List.toArray [.slice C n G,ae i,ae j,a6 E]) w (fun v w'=> ∃ M O s1:Nat,v= .tuple #[ae M,ae O]∧(lo≤M∧M < hi)∧(lo≤O∧O < hi)∧s1≤s+1∧bl w'.heap E [ae s1]∧w'.ownsRow B 71 1 (.slice C n G) n (LE aI d)∧Md (fun q=>q=E) w w'):=by
 refine enter Tryz.func186 U Tryz.ntmps186 U (ag (fun _ ac=>(p aA (au (((ac _ _ (sq (fun _ ad=>sq (fun _ ah=> ?_))))))))))
 have ar:=di c
 have a:(fun w'=>Wk w w') w.drew:=(Md.refl _ _).drew
 refine bS (fun w'=>Wk w w') U wide a (bH 0 U (.slice C n G) a (bH 1 U (ae j) a (aT 2 U (fun _ _=>aQ ba U U aa (aw.ok ((aJ c).2) (bh aa))) a (aT 3 U (fun w' J=>ld bq U (bJ (i:=j) ((aJ c).2.wk J) aa)) a (bH 4 U (.slice C n G) a (bH 5 U (ae i) a (aT 6 U (fun _ _=>aQ ba U U aa (aw.ok ((aJ c).2) (bh aa))) a (aT 7 U (fun w' J=>ld bq U (bJ (i:=i) ((aJ c).2.wk J) aa)) a (he 8 U ab (cl gR (gZ d[j]! d[i]! _) U fun ay aq an=> ?_))))))))))
 obtain ⟨rfl,al⟩:=an
 have A:(fun w'=>Wk w w') aq:=Md.trans a al
 refine ⟨A,?_⟩
 refine hn ab (tn (ah _ _ (cb U (fun ap=> ?_) (fun ap=> ?_))))
 have Y:=A.B V
 have am:=aE c A
 exact ag (fun _ I=>(aj (a6 E) (p (nc U) (p (ld eu U (Y.aG 0)) (p (bm ((s+1:Nat):Int) U U (aU aa aa)) (p (nc U) (e (st ju U U (U) (Y) (by simp) fun aB Z ak=>az ((I _ _ (ag (fun _ ai=>(aj (ae j) (aj (ae i) (p (bG (ae j) U) (p (bG (ae i) U) (az ((ai _ _ (rt (tr (f2 U U U (⟨j,i,s+1,U,aa,aa,aa,ak,bK am Z (fun k hk h=>ao (h ▸ hk)),Md.trans (A.mono (fun _ _ h=>h.elim)) Z⟩)))))))))))))))))))))))
 exact aH (tn (ad _ _ (ag (fun _ I=>(aj (ae i) (aj (ae j) (p (bG (ae i) U) (p (bG (ae j) U) (az ((I _ _ (rt (f2 U U U (⟨i,j,s,U,aa,aa,aa,A.B V,aE c A,A.mono (fun _ _ h=>h.elim)⟩))))))))))))))
theorem vV (d:Array Nat) (i j k s lo hi a:Nat) (B n A:Nat) (c:Option Addr) (w:World) (ak:w.ownsRow B 71 1 (.slice c n A) n (LE aI d)) (Y:bl w.heap a [ae s]) (C:(Value.slice c n A).ownBlock≠some a) (aF:(lo≤i∧i < hi)∧(lo≤j∧j < hi)∧(lo≤k∧k < hi)∧hi≤n) (hs:s≤900) (E:n≤1099511627776):
 a3 Tryz.prog 179 (List.toArray [.slice c n A,ae i,ae j,ae k,a6 a]) w (fun v w'=> ∃ G s1:Nat,v=ae G∧(lo≤G∧G < hi)∧s1≤s+3∧bl w'.heap a [ae s1]∧w'.ownsRow B 71 1 (.slice c n A) n (LE aI d)∧Md (fun q=>q=a) w w'):=by
 refine enter Tryz.func179 U Tryz.ntmps179 U (ag (fun _ I=>(au (((I _ _ (ag (fun _ J=>(aj (.slice c n A) (aj (ae i) (aj (ae j) (aj (a6 a) (e (cl p8 (rD d i j s lo hi a B n A c _ ak Y C aa aa E) U fun aL aO ao=> ?_))))))))))))))
 obtain ⟨i1,av,s1,rfl,az,aC,aG,Z,al,ad⟩:=ao
 refine p mv (p (xt U U) (p (xt U U) (p aA (au (((J _ _ (sq (fun _ M=>rg U (aj (.slice c n A) (p mv (aj (ae k) (aj (a6 a) (e (cl p8 (rD d av k s1 lo hi a B n A c _ al Z C aa aa E) U fun aM aP ap=> ?_)))))))))))))))
 obtain ⟨aw,aK,s2,rfl,aD,aE,aH,ab,am,ah⟩:=ap
 refine p mv (p (xt U U) (p (xt U U) (p aA (au (((M _ _ (sq (fun _ O=>rg U (aj (.slice c n A) (p mv (p mv (aj (a6 a) (e (cl p8 (rD d i1 aw s2 lo hi a B n A c _ am ab C aa aa E) U fun aN aQ aq=> ?_)))))))))))))))
 obtain ⟨i3,ax,ay,rfl,aB,ar,aJ,ac,an,ai⟩:=aq
 exact p mv (p (xt U U) (p (xt U U) (p aA (au (((O _ _ (sq (fun _ V=>rg U (p mv (au (((V _ _ (rt (f1 U U (⟨ax,ay,U,ar,aa,ac,an,Md.trans ad (Md.trans ah ai)⟩)))))))))))))))))
theorem rj (d:Array Nat) (i s lo hi a:Nat) (B n j:Nat) (c:Option Addr) (w:World) (I:w.ownsRow B 71 1 (.slice c n j) n (LE aI d)) (G:bl w.heap a [ae s]) (M:(Value.slice c n j).ownBlock≠some a) (V:lo+1≤i∧i+1 < hi∧hi≤n) (hs:s≤900) (O:n≤1099511627776):
 a3 Tryz.prog 178 (List.toArray [.slice c n j,ae i,a6 a]) w (fun v w'=> ∃ A s1:Nat,v=ae A∧(lo≤A∧A < hi)∧s1≤s+3∧bl w'.heap a [ae s1]∧w'.ownsRow B 71 1 (.slice c n j) n (LE aI d)∧Md (fun q=>q=a) w w'):=by
 exact enter Tryz.func178 U Tryz.ntmps178 U (ag (fun _ C=>(au (((C _ _ (ag (fun _ E=>(aj (.slice c n j) (aj (ae i) (p (bZ ((i - 1:Nat):Int) U U (aU aa aa)) (aj (ae i) (aj (ae i) (p (bm ((i+1:Nat):Int) U U (aU aa aa)) (aj (a6 a) (e (cl tj (vV d (i - 1) i (i+1) s lo hi a B n j c _ I G M aa aa O) U fun Y Z J=>p aA (az ((E _ _ (rt (f1 U U (J)))))))))))))))))))))))
theorem Aw (d:Array Nat) (a b:Nat) (B n i:Nat) (c:Option Addr) (w:World) (am:w.ownsRow B 71 1 (.slice c n i) n (LE aI d)) (bn:a+12 < b∧b≤n) (I:n≤1099511627776):
 a3 Tryz.prog 159 (List.toArray [.slice c n i,ae a,ae b]) w (fun v w'=> ∃ (ai:Nat) (bg:Int),v= .tuple #[ae ai,.int .i64 bg]∧(a≤ai∧ai < b)∧w'.ownsRow B 71 1 (.slice c n i) n (LE aI d)∧Wk w w'):=by
 refine enter Tryz.func159 U Tryz.ntmps159 U (ag (fun _ ao=>(p aA (au (((ao _ _ (ag (fun _ ap=>aj (ae b) (aj (ae a) (p (bZ ((b - a:Nat):Int) U U (aU aa aa)) (au (((ap _ _ (ag (fun _ aq=>e (al Ii fun q bJ bo ab ak=> ?_))))))))))))))))))
 have an:=aE am ab.md
 have G:(Value.slice c n i).ownBlock≠some q:=fun h=>by have :=c4 am h; omega
 refine az ((aq _ _ (ag (fun _ ar=>(aj (ae a) (p mv (p (kj (((b - a) / 4:Nat):Int) U U aa (aU aa aa)) (p (ll (((b - a) / 4:Nat):Int) U U (aU aa aa)) (p (bm ((a+(b - a) / 4:Nat):Int) U U (aU aa aa)) (au (((ar _ _ (ag (fun _ av=>(aj (ae a) (p mv (p (kj (((b - a) / 4:Nat):Int) U U aa (aU aa aa)) (p (ll (((b - a) / 4 *2:Nat):Int) U U (aU aa aa)) (p (bm ((a+(b - a) / 4 *2:Nat):Int) U U (aU aa aa)) (au (((av _ _ (ag (fun _ aw=>aj (ae a) (p mv (p (kj (((b - a) / 4:Nat):Int) U U aa (aU aa aa)) (p (ll (((b - a) / 4 *3:Nat):Int) U U (aU aa aa)) (p (bm ((a+(b - a) / 4 *3:Nat):Int) U U (aU aa aa)) (au (((aw _ _ ?_))))))))))))))))))))))))))))))))))
 refine sq (fun _ ax=>ag (fun _ ay=>(p mv (p (ge U U) (az ((ay _ _ (cd U (fun bq=> ?_) (fun h=>absurd aa h)))))))))
 refine dA (fun j M=> ∃ (s A C J:Nat),(a≤s∧s < b)∧(a≤A∧A < b)∧(a≤C∧C < b)∧(J≤9)∧(bl M.heap q [ae J])∧(M.ownsRow B 71 1 (.slice c n i) n (LE aI d))∧(Wk w M)∧(j 0= .slice c n i)∧(j 1=ae a)∧(j 2=ae b)∧(j 8=ae (b - a))∧(j 9=a6 q)∧(j 10=ae s)∧(j 11=ae A)∧(j 12=ae C)) ?_ ?_
 refine ag (fun _ Y=>(p mv (p (ge U U) (az ((Y _ _ (cd U (fun aZ=> ?_) (fun aZ=> ?_))))))))
 refine ag (fun _ O=>(aj (.slice c n i) (p mv (e (cl p6 (rj d (a+(b - a) / 4) 0 a b q B n i c _ an ak G aa aa I) U fun bC bG aV=> ?_)))))
 obtain ⟨i1,s1,rfl,a2,bv,aB,aQ,aM⟩:=aV
 refine au (((O _ _ (ag (fun _ E=>(aj (.slice c n i) (p mv (e (cl p6 (rj d (a+(b - a) / 4 *2) s1 a b q B n i c _ aQ aB G aa aa I) U fun bD bH aW=> ?_)))))))))
 obtain ⟨bh,s2,rfl,a4,bw,aD,aR,aN⟩:=aW
 refine au (((E _ _ (rg U (aj (.slice c n i) (p mv (e (cl p6 (rj d (a+(b - a) / 4 *3) s2 a b q B n i c _ aR aD G aa aa I) U fun bE bI aX=> ?_))))))))
 obtain ⟨bi,bj,rfl,a5,bx,aF,aS,aO⟩:=aX
 exact au (((⟨i1,bh,bi,bj,a2,a4,a5,aa,aF,aS,(Md.trans' ab.md (Md.trans aM (Md.trans aN aO)) (fun k hk h=>by omega)),U,U,U,U,U,U,U,U⟩)))
 exact aH (tn (⟨a+(b - a) / 4,a+(b - a) / 4 *2,a+(b - a) / 4 *3,0,aa,aa,aa,aa,ak,an,ab.md,U,U,U,U,U,U,U,U⟩))
 rintro j M ⟨s,A,C,J,bs,bt,bu,bA,aK,aT,aL,a7,a8,bc,bd,bf,a9,ba,bb⟩
 refine fx 0 a7 (fx 1 a8 (fx 2 bc (fx 8 bd (fx 9 bf (fx 10 a9 (fx 11 ba (fx 12 bb (rg U (aj (.slice c n i) (aj (ae s) (aj (ae A) (aj (ae C) (e (cl tj (vV d s A C J a b q B n i c _ aT aK G aa aa I) U fun bF bk aY=> ?_))))))))))))))
 obtain ⟨ah,bB,rfl,ad,bz,aJ,ac,aP⟩:=aY
 have Z:Wk w bk:=Md.trans' aL aP (fun k hk h=>by omega)
 refine au (((ax _ _ (ag (fun _ Y=>(p (ld eu U (aJ.aG 0)) (az ((Y _ _ (aC (ag (fun _ O=>(p (bp U U) (au (((O _ _ (cd U (fun a0=> ?_) (fun a0=> ?_)))))))))))))))))))
 exact ag (fun _ E=>(p mv (p aA (au (((E _ _ (rt (br (f2 U U U (⟨ah,_,U,ad,ac,Z⟩)))))))))))
 refine ag (fun _ E=>(p (bp U U) (au (((E _ _ (cd U (fun a1=> ?_) (fun a1=> ?_))))))))
 exact ag (fun _ V=>(p mv (p aA (au (((V _ _ (rt (br (f2 U U U (⟨ah,_,U,ad,ac,Z⟩)))))))))))
 exact ag (fun _ V=>(p mv (p aA (au (((V _ _ (rt (br (f2 U U U (⟨ah,_,U,ad,ac,Z⟩)))))))))))
theorem Fa (a:Nat) (r:Int) (w:World) (C:bl w.heap a [.int .u64 r]):
 a3 Tryz.prog 177 (List.toArray [a6 a]) w (fun v w'=> ∃ A:Int,v= .int .u64 A∧0≤A∧A < 18446744073709551616∧bl w'.heap a [.int .u64 A]∧Md (fun q=>q=a) w w'):=by
 refine enter Tryz.func177 U Tryz.ntmps177 U (ag (fun _ O=>(au (((O _ _ (sq (fun _ V=> ?_))))))))
 have i:(fun w'=>Wk w w') w.drew:=(Md.refl _ _).drew
 refine dy (fun w'=>Wk w w') 9 U wide i (lq 0 U ab (fun _ _=>aB (a6 a) U) i (lq 1 U ab (fun _ _=>nc U) i (lq 2 U ab (fun w' c=>ld kW U (Wk.aG c (C.aG 0))) i (lq 3 U ab (fun _ _=>aB (a6 a) U) i (lq 4 U ab (fun _ _=>nc U) i (lq 5 U ab (fun w' c=>ld kW U (Wk.aG c (C.aG 0))) i (lq 6 U ab (fun _ _=>shl U U ao U) i (lq 7 U ab (fun _ _=>pV U U U) i (lq 8 U ab (fun _ _=>nc U) i (bV 9 U ab ab (st oh U U (U) (i.B C) (by simp) fun I ac E=>dx ab (tn (V _ _ (sq (fun _ Y=> ?_)))))))))))))))
 have j:(fun w'=>Wk I w') I.drew:=(Md.refl _ _).drew
 refine dy (fun w'=>Wk I w') 9 U wide j (lq 0 U ab (fun _ _=>aB (a6 a) U) j (lq 1 U ab (fun _ _=>nc U) j (lq 2 U ab (fun w' c=>ld kW U (Wk.aG c (E.aG 0))) j (lq 3 U ab (fun _ _=>aB (a6 a) U) j (lq 4 U ab (fun _ _=>nc U) j (lq 5 U ab (fun w' c=>ld kW U (Wk.aG c (E.aG 0))) j (lq 6 U ab (fun _ _=>shr U U ao U) j (lq 7 U ab (fun _ _=>pV U U U) j (lq 8 U ab (fun _ _=>nc U) j (bV 9 U ab ab (st oh U U (U) (j.B E) (by simp) fun J ad G=>dx ab (tn (Y _ _ (sq (fun _ Z=> ?_)))))))))))))))
 have s:(fun w'=>Wk J w') J.drew:=(Md.refl _ _).drew
 refine dy (fun w'=>Wk J w') 9 U wide s (lq 0 U ab (fun _ _=>aB (a6 a) U) s (lq 1 U ab (fun _ _=>nc U) s (lq 2 U ab (fun w' c=>ld kW U (Wk.aG c (G.aG 0))) s (lq 3 U ab (fun _ _=>aB (a6 a) U) s (lq 4 U ab (fun _ _=>nc U) s (lq 5 U ab (fun w' c=>ld kW U (Wk.aG c (G.aG 0))) s (lq 6 U ab (fun _ _=>shl U U ao U) s (lq 7 U ab (fun _ _=>pV U U U) s (lq 8 U ab (fun _ _=>nc U) s (bV 9 U ab ab (st oh U U (U) (s.B G) (by simp) fun ah ae M=>dx ab (tn (Z _ _ (ag (fun _ aa=>(aj (a6 a) (p (nc U) (p (ld kW U (M.aG 0)) (p aA (nl (tn (aa _ _ (rt (f1 U U ?_))))))))))))))))))))))))
 refine ⟨_,U,(xQ _).1,(xQ _).2,M,?_⟩
 exact Md.trans (Md.refl _ _).drew (Md.trans ac (Md.trans (Md.refl _ _).drew (Md.trans ad (Md.trans (Md.refl _ _).drew ae))))
theorem Eu (n:Nat) (w:World) (hn:n < 256):
 a3 Tryz.prog 166 (List.toArray [.int .u64 (n:Nat)]) w (fun v w'=>v=ae (gk n)∧Wk w w'):=by
 have J:=oO hn
 exact enter Tryz.func166 U Tryz.ntmps166 U (ag (fun _ a=>(au (((a _ _ (sq (fun _ c=>ag (fun _ i=>aj (.int .u64 (n:Nat)) (p (ge U U) (az ((i _ _ (cd U (fun h=>absurd h aa) (fun G=>aH (tn (c _ _ (sq (fun _ j=>ag (fun _ q=>(aj (.int .u64 (n:Nat)) (p (ge U U) (nl (tn (q _ _ (cd U (fun h=>absurd h aa) (fun I=>aH (tn (j _ _ (sq (fun _ s=>ag (fun _ A=>(aj (.int .u64 (n:Nat)) (p (ge U U) (nl (tn (A _ _ (cd U (fun h=>absurd h aa) (fun E=>aH (tn (s _ _ (ag (fun _ C=>(aj (.int .i64 0) (aj (.int .u64 (n:Nat)) (p (ql u5 HU U (sc aa)) (p (e7 u9 U U (by have :n < 256:=hn; simpa using this)) (p (jb u3 nE U (HO hn (by decide+kernel))) (p (bm ((gk n:Nat):Int) U U (aU aa aa)) (au (((C _ _ (rt (f1 U U (⟨U,Md.refl _ _⟩))))))))))))))))))))))))))))))))))))))))))))))))))))))))
theorem vO (n:Nat) (w:World) (hn:n < 256):
 a3 Tryz.prog 139 (List.toArray [.int .u64 (n:Nat)]) w (fun v w'=>v=ae (gk n)∧Wk w w'):=by
 exact enter Tryz.func139 U Tryz.ntmps139 U (ag (fun _ a=>(au (((a _ _ (sq (fun _ c=>cf U (aH (tn (c _ _ (ag (fun _ i=>(aj (.int .u64 (n:Nat)) (e (cl zL (Eu n _ hn) U fun p q j=>au (((i _ _ (rt (f1 U U (j))))))))))))))))))))))
theorem Fb (n:Nat) (w:World) (hn:n < 256):
 a3 Tryz.prog 176 (List.toArray [ae n]) w (fun v w'=>v= .int .u64 (2 ^ gk n:Nat)∧Wk w w'):=by
 refine enter Tryz.func176 U Tryz.ntmps176 U (ag (fun _ a=>(au (((a _ _ (ag (fun _ c=>(aj (ae n) (p (jb xP lz U (jT aa)) (e (cl tc (vO n _ hn) U fun s A j=> ?_))))))))))))
 obtain ⟨rfl,i⟩:=j
 have q:=oO hn
 exact p (shl U U aa (GU q)) (au (((c _ _ (rt (f1 U U (⟨U,i⟩)))))))
theorem y4 (d:Array Nat) (a b:Nat) (B n s:Nat) (j:Option Addr) (w:World) (aq:w.ownsRow B 71 1 (.slice j n s) n (LE aI d)) (bw:a+12 < b∧b≤n) (bD:n≤255):
 a3 Tryz.prog 158 (List.toArray [.slice j n s,ae a,ae b]) w (fun v w'=> ∃ d1,v= .tuple #[]∧Go.Sort.PermIn a b d d1∧w'.ownsRow B 71 1 (.slice j n s) n (LE aI d1)∧Md (fun q=>(Value.slice j n s).ownBlock=some q) w w'):=by
 refine enter Tryz.func158 U Tryz.ntmps158 U (ag (fun _ av=>(aj (ae b) (aj (ae a) (p (bZ ((b - a:Nat):Int) U U (aU aa aa)) (au (((av _ _ (ag (fun _ ay=>(p mv (p (ge U U) (az ((ay _ _ (cd U (fun bz=> ?_) (fun h=>absurd aa h))))))))))))))))))
 refine ag (fun _ aB=>(p mv (p (jb HJ lz U (jT aa)) (e (al Ih fun O bP bx aZ aO=>e (st oh U U (U) (aO) (by simp) fun bv aS aN=> ?_))))))
 have ao:Wk w bv:=Md.trans' aZ.md aS (fun k hk h=>by omega)
 refine az ((aB _ _ (ag (fun _ aD=>(p mv (e (cl zQ (Fb (b - a) _ aa) U fun bL bN a0=> ?_)))))))
 obtain ⟨rfl,ad⟩:=a0
 have bC:=Ev (n:=b - a) aa aa
 refine au (((aD _ _ (ag (fun _ aF=>(aj (ae a) (p mv (p (kj (((b - a) / 4:Nat):Int) U U aa (aU aa aa)) (p (ll (((b - a) / 4 *2:Nat):Int) U U (aU aa aa)) (p (bm ((a+(b - a) / 4 *2:Nat):Int) U U (aU aa aa)) (p (bZ ((a+(b - a) / 4 *2 - 1:Nat):Int) U U (aU aa aa)) (au (((aF _ _ (aC ?_))))))))))))))))
 have Y:(Value.slice j n s).ownBlock≠some O:=fun h=>by have :=c4 aq h; omega
 refine lp (fun am M ac=> ∃ (A:Nat) (r:Int) (E:Array Nat),(a+(b - a) / 4 *2 - 1≤A∧A≤a+(b - a) / 4 *2 +2)∧(Go.Sort.PermIn a b d E)∧(bl ac.heap O [.int .u64 r])∧(ac.ownsRow B 71 1 (.slice j n s) n (LE aI E))∧(Md (fun q=>(Value.slice j n s).ownBlock=some q) w ac)∧(M 0= .slice j n s)∧(M 1=ae a)∧(M 6=ae (b - a))∧(M 7=a6 O)∧(M 8= .int .u64 (2 ^ gk (b - a):Nat))∧(M 9=ae A)∧(a+(b - a) / 4 *2 +3 - A=am)) _ ⟨a+(b - a) / 4 *2 - 1,(b - a:Nat),d,aa,(Go.Sort.permIn_refl d a b),(ad.B aN),(aE (aE aq ao) ad),((Md.trans ao ad).mono (fun _ _ h=>h.elim)),U,U,U,U,U,U,U⟩ ?_
 rintro am M ac ⟨A,r,E,bB,aT,aR,ai,ah,a9,bb,bd,bf,bg,bi,rfl⟩
 refine fx 0 a9 (fx 1 bb (fx 6 bd (fx 7 bf (fx 8 bg (fx 9 bi (sq (fun _ aG=>ag (fun _ aK=>(aj (ae A) (aj (ae a) (aj (ae (b - a)) (p (kj (((b - a) / 4:Nat):Int) U U aa (aU aa aa)) (p (ll (((b - a) / 4 *2:Nat):Int) U U (aU aa aa)) (p (bm ((a+(b - a) / 4 *2:Nat):Int) U U (aU aa aa)) (p (bm ((a+(b - a) / 4 *2 +1:Nat):Int) U U (aU aa aa)) (p (le U U) (az ((aK _ _ (cd U (fun a2=> ?_) (fun a2=> ?_)))))))))))))))))))))
 refine aH (tn (aG _ _ (sq (fun _ aL=>aC (ag (fun _ aM=>(e (cl zR (Fa O r _ aR) U fun bM bO a1=> ?_))))))))
 obtain ⟨ak,rfl,bH,bI,an,Z⟩:=a1
 obtain ⟨o,bF,a8⟩:=yM ak (2 ^ gk (b - a)) aa
 have bE:=Y
 refine aj (.int .u64 (2 ^ gk (b - a):Nat)) (p (sb U U (jT aa)) (p (n0 U U a8) (p (ql u3 HT U (bu aa)) (au (((aM _ _ ?_)))))))
 refine dA (fun J I=> ∃ (C:Nat),(C < b - a)∧(bl I.heap O [.int .u64 ak])∧(I.ownsRow B 71 1 (.slice j n s) n (LE aI E))∧(Md (fun q=>(Value.slice j n s).ownBlock=some q) w I)∧(J 0= .slice j n s)∧(J 1=ae a)∧(J 6=ae (b - a))∧(J 7=a6 O)∧(J 8= .int .u64 (2 ^ gk (b - a):Nat))∧(J 9=ae A)∧(J 10=ae C)) ?_ ?_
 refine ag (fun _ ax=>(p mv (aj (ae (b - a)) (p (ge U U) (az ((ax _ _ (cd U (fun a4=> ?_) (fun a4=> ?_)))))))))
 exact rg U (p mv (aj (ae (b - a)) (p (bZ ((o - (b - a):Nat):Int) U U (aU aa aa)) (au (((⟨o - (b - a),aa,an,(bK ai Z (fun k hk h=>Y (h ▸ hk))),(Md.trans' ah Z (fun k hk h=>by omega)),U,U,U,U,U,U,U⟩)))))))
 exact aH (tn (⟨o,aa,an,(bK ai Z (fun k hk h=>Y (h ▸ hk))),(Md.trans' ah Z (fun k hk h=>by omega)),U,U,U,U,U,U,U⟩))
 rintro J I ⟨C,bG,aP,G,aY,bj,bk,bp,br,bs,bt,bo⟩
 refine fx 0 bj (fx 1 bk (fx 6 bp (fx 7 br (fx 8 bs (fx 9 bt (fx 10 bo ?_))))))
 have bA:=di G
 have c:(fun w'=>Wk I w') I.drew:=(Md.refl _ _).drew
 refine dy (fun w'=>Wk I w') 17 U wide c (aV 0 U (.slice j n s) c (aV 1 U (ae A) c (aV 2 U (.slice j n s) c (aV 3 U (ae a) c (aV 4 U (ae C) c (bc 5 U (fun _=>bm ((a+C:Nat):Int) U U (aU aa aa)) (fun _=>c) (aV 6 U (.slice j n s) c (aV 7 U (ae a) c (aV 8 U (ae C) c (bc 9 U (fun _=>bm ((a+C:Nat):Int) U U (aU aa aa)) (fun _=>c) (bc 10 U (fun _=>aQ ba U U aa (aw.ok ((aJ G).2) (bh aa))) (fun _=>c) (cY 11 U (fun w' V=>ld bq U (bJ (i:=a+C) ((aJ G).2.wk V) aa)) c (aV 12 U (.slice j n s) c (aV 13 U (ae A) c (bc 14 U (fun _=>aQ ba U U aa (aw.ok ((aJ G).2) (bh aa))) (fun _=>c) (cY 15 U (fun w' V=>ld bq U (bJ (i:=A) ((aJ G).2.wk V) aa)) c (bc 16 U (fun _=>aQ ba U U aa (aw.ok ((aJ G).2) (bh aa))) (fun _=>c) (bV 17 U ab ab (dJ (u:=E[a+C]!) (A) (aE G c) dE U U U aa fun bQ aW a5=> ?_)))))))))))))))))))
 refine bc 18 U (fun _=>aQ ba U U aa (aw.ok ((aJ G).2) (bh aa))) (fun h=>Bool.noConfusion ((show true =_ from by kernel_rfl).trans h)) (bV 19 U ab ab (dJ (u:=E[A]!) (a+C) a5 dE U U U aa fun ar aX a7=> ?_))
 have V:ar.ownsRow B 71 1 (.slice j n s) n (LE aI (Go.Sort.swp E (A) (a+C))):=a7
 have ap:Md (fun q=>(Value.slice j n s).ownBlock=some q) I ar:=Md.trans (c.mono (fun _ _ h=>h.elim)) (Md.trans aW aX)
 exact dx ab (bn (tn (aL _ _ (rg U (aj (ae A) (p (bm ((A+1:Nat):Int) U U (aU aa aa)) (p aA (nl (tn (⟨_,aa,A+1,ak,Go.Sort.swp E A (a+C),aa,(FT aT aa aa aa U),(ap.B aP (fun h=>Y h)),V,(Md.trans aY ap),U,U,U,U,U,U,U⟩))))))))))
 exact ext (te _ (te _ (be (f0 U (⟨E,U,aT,ai,ah⟩)))))
end Go.Hb.nP
end
section
set_option maxRecDepth 20000
set_option maxHeartbeats 1000000
namespace Go.Hb.su
open Go.Hb.c6
open Go.Proofs
open Go.Hb.kV
theorem FL {d:Array Nat} {a b c i j:Nat} (h1:Go.Sort.scanUp (fun x=>bd x (Go.Sort.swp d a c)[a]!) (Go.Sort.swp d a c) (b - 1) (a+1)=i) (h2:Go.Sort.scanDown (fun x=> !bd x (Go.Sort.swp d a c)[a]!) (Go.Sort.swp d a c) i (b - 1)=j) (h:i > j):
 Go.Sort.partition bd d a b c=(j,true,Go.Sort.swp (Go.Sort.swp d a c) j a):=by
 unfold Go.Sort.partition; simp only [h1,h2,if_pos h]
theorem FM {d:Array Nat} {a b c i j p:Nat} {q:Array Nat} (h1:Go.Sort.scanUp (fun x=>bd x (Go.Sort.swp d a c)[a]!) (Go.Sort.swp d a c) (b - 1) (a+1)=i) (h2:Go.Sort.scanDown (fun x=> !bd x (Go.Sort.swp d a c)[a]!) (Go.Sort.swp d a c) i (b - 1)=j) (h:¬i > j)
 (h3:Go.Sort.partLoop bd a (i+1) (j - 1) (Go.Sort.swp (Go.Sort.swp d a c) i j)=(p,q)):
 Go.Sort.partition bd d a b c=(p,false,Go.Sort.swp q p a):=by
 unfold Go.Sort.partition; simp only [h1,h2,if_neg h,h3]
theorem FN (d:Array Nat) (a b A:Nat) (B n s:Nat) (c:Option Addr) (w:World) (ay:w.ownsRow B 71 1 (.slice c n s) n (LE aI d)) (dr:a≤A∧A < b∧b≤n) (dv:n≤1099511627776):
 a3 Tryz.prog 164 (List.toArray [.slice c n s,ae a,ae b,ae A]) w (fun v w'=>v= .tuple #[ae ((Go.Sort.partition bd d a b A).1),.bool (Go.Sort.partition bd d a b A).2.1]∧w'.ownsRow B 71 1 (.slice c n s) n (LE aI (Go.Sort.partition bd d a b A).2.2)∧Md (fun q=>(Value.slice c n s).ownBlock=some q) w w'):=by
 refine enter Tryz.func164 U Tryz.ntmps164 U (ag (fun _ bO=>(p aA (au (((bO _ _ (sq (fun _ bP=> ?_)))))))))
 have ds:=di ay
 have ah:(fun w'=>Wk w w') w.drew:=(Md.refl _ _).drew
 refine dy (fun w'=>Wk w w') 13 U wide ah (aV 0 U (.slice c n s) ah (aV 1 U (ae a) ah (aV 2 U (.slice c n s) ah (aV 3 U (ae A) ah (aV 4 U (.slice c n s) ah (aV 5 U (ae A) ah (bc 6 U (fun _=>aQ ba U U aa (aw.ok ((aJ ay).2) (bh aa))) (fun _=>ah) (cY 7 U (fun w' E=>ld bq U (bJ (i:=A) ((aJ ay).2.wk E) aa)) ah (aV 8 U (.slice c n s) ah (aV 9 U (ae a) ah (bc 10 U (fun _=>aQ ba U U aa (aw.ok ((aJ ay).2) (bh aa))) (fun _=>ah) (cY 11 U (fun w' E=>ld bq U (bJ (i:=a) ((aJ ay).2.wk E) aa)) ah (bc 12 U (fun _=>aQ ba U U aa (aw.ok ((aJ ay).2) (bh aa))) (fun _=>ah) (bV 13 U ab ab (dJ (u:=d[A]!) (a) (aE ay ah) dE U U U aa fun dD b2 cA=> ?_)))))))))))))))
 refine bc 14 U (fun _=>aQ ba U U aa (aw.ok ((aJ ay).2) (bh aa))) (fun h=>Bool.noConfusion ((show true =_ from by kernel_rfl).trans h)) (bV 15 U ab ab (dJ (u:=d[a]!) (A) cA dE U U U aa fun bI b3 cB=> ?_))
 have ck:bI.ownsRow B 71 1 (.slice c n s) n (LE aI (Go.Sort.swp d (a) (A))):=cB
 have b1:Md (fun q=>(Value.slice c n s).ownBlock=some q) w bI:=Md.trans (ah.mono (fun _ _ h=>h.elim)) (Md.trans b2 b3)
 refine dx ab (tn (bP _ _ (ag (fun _ bQ=>(aj (ae a) (p (bm ((a+1:Nat):Int) U U (aU aa aa)) (aj (ae b) (p (bZ ((b - 1:Nat):Int) U U (aU aa aa)) (p aA (au (((bQ _ _ ?_)))))))))))))
 refine dA (fun a1 bv=> ∃ (J:Nat),(a+1≤J∧(J=a+1∨J≤b - 1 +1))∧(Go.Sort.scanUp (fun x=>bd x (Go.Sort.swp d a A)[a]!) (Go.Sort.swp d a A) (b - 1) (a+1)=J)∧(bv.ownsRow B 71 1 (.slice c n s) n (LE aI (Go.Sort.swp d a A)))∧(Md (fun q=>(Value.slice c n s).ownBlock=some q) w bv)∧(a1 0= .slice c n s)∧(a1 1=ae a)∧(a1 10=ae J)∧(a1 11=ae (b - 1))) ?_ ?_
 refine aC (lp (fun aq a2 aL=> ∃ (q:Nat),(a+1≤q∧(q=a+1∨q≤b - 1 +1))∧(Go.Sort.scanUp (fun x=>bd x (Go.Sort.swp d a A)[a]!) (Go.Sort.swp d a A) (b - 1) (q)=Go.Sort.scanUp (fun x=>bd x (Go.Sort.swp d a A)[a]!) (Go.Sort.swp d a A) (b - 1) (a+1))∧(aL.ownsRow B 71 1 (.slice c n s) n (LE aI (Go.Sort.swp d a A)))∧(Md (fun q=>(Value.slice c n s).ownBlock=some q) w aL)∧(a2 0= .slice c n s)∧(a2 1=ae a)∧(a2 10=ae q)∧(a2 11=ae (b - 1))∧(b - 1 +1 - q=aq)) _ ⟨a+1,aa,U,ck,b1,U,U,U,U,U⟩ ?_)
 rintro aq a2 aL ⟨q,ar,ap,C,an,cO,cP,cQ,cR,rfl⟩
 refine fx 0 cO (fx 1 cP (fx 10 cQ (fx 11 cR (sq (fun _ aY=>sq (fun _ aD=> ?_))))))
 have aK:=di C
 have Z:(fun w'=>Wk aL w') aL.drew:=(Md.refl _ _).drew
 refine bS (fun w'=>Wk aL w') U wide Z (bH 0 U (ae q) Z (bH 1 U (ae (b - 1)) Z (aT 2 U (fun _ _=>le U U) Z (aT 3 U (fun _ _=>mv) Z (gI (t:=33) U (fun cy=> ?_) (fun cy=> ?_))))))
 refine aW 4 U ab U U U (fun _ _=>aB (.slice c n s) U) Z (aW 5 U ab U U U (fun _ _=>aB (ae q) U) Z (aW 6 U ab U U U (fun _ _=>aQ ba U U aa (aw.ok ((aJ C).2) (bh aa))) Z (aW 7 U ab U U U (fun w' E=>ld bq U (bJ (i:=q) ((aJ C).2.wk E) aa)) Z (aW 8 U ab U U U (fun _ _=>aB (.slice c n s) U) Z (aW 9 U ab U U U (fun _ _=>aB (ae a) U) Z (aW 10 U ab U U U (fun _ _=>aQ ba U U aa (aw.ok ((aJ C).2) (bh aa))) Z (aW 11 U ab U U U (fun w' E=>ld bq U (bJ (i:=a) ((aJ C).2.wk E) aa)) Z (gW 12 U ab U U U (cl gR (gZ (Go.Sort.swp d a A)[q]! (Go.Sort.swp d a A)[a]! _) U fun dB dp cs=> ?_)))))))))
 obtain ⟨rfl,bX⟩:=cs
 have aR:(fun w'=>Wk aL w') dp:=Md.trans Z bX
 refine ⟨aR,?_⟩
 refine aT 13 U (fun _ _=>bE U) aR (hn ab (tn (aD _ _ (cb U (fun bs=> ?_) (fun bs=> ?_)))))
 exact aH (tn (aY _ _ (aC (rg U (aj (ae q) (p (bm ((q+1:Nat):Int) U U (aU aa aa)) (p aA (nl (bn (tn (⟨_,aa,q+1,aa,((by rw [← ap,r5 (show q≤b - 1 by omega) (by simpa using bs)])),(aE C aR),(Md.trans an (aR.mono (fun _ _ h=>h.elim))),U,U,U,U,U⟩)))))))))))
 exact ext (te _ (te _ (be (tn (⟨q,ar,((by rw [← ap,mj (.inr (by simpa using bs))])),(aE C aR),(Md.trans an (aR.mono (fun _ _ h=>h.elim))),U,U,U,U⟩)))))
 exact aX 4 U ab U U U U Z (aX 5 U ab U U U U Z (aX 6 U ab U U U U Z (aX 7 U ab U U U U Z (aX 8 U ab U U U U Z (aX 9 U ab U U U U Z (aX 10 U ab U U U U Z (aX 11 U ab U U U U Z (aX 12 U ab U U U U Z (aT 13 U (fun _ _=>bj U) Z (hn ab (tn (aD _ _ (cf U (ext (te _ (te _ (be (tn (⟨q,ar,((by rw [← ap,mj (.inl aa)])),(aE C (Md.refl _ _).drew),an.drew,U,U,U,U⟩)))))))))))))))))))
 rintro a1 bv ⟨J,dt,bD,bo,bl,cK,cL,cM,cN⟩
 refine fx 0 cK (fx 1 cL (fx 10 cM (fx 11 cN ?_)))
 refine dA (fun a4 av=> ∃ (M:Nat),(a≤M∧M≤b - 1)∧(Go.Sort.scanDown (fun x=> !bd x (Go.Sort.swp d a A)[a]!) (Go.Sort.swp d a A) (J) (b - 1)=M)∧(av.ownsRow B 71 1 (.slice c n s) n (LE aI (Go.Sort.swp d a A)))∧(Md (fun q=>(Value.slice c n s).ownBlock=some q) w av)∧(a4 0= .slice c n s)∧(a4 1=ae a)∧(a4 10=ae J)∧(a4 11=ae M)) ?_ ?_
 refine aC (lp (fun aq a5 aN=> ∃ (q:Nat),(a≤q∧q≤b - 1)∧(Go.Sort.scanDown (fun x=> !bd x (Go.Sort.swp d a A)[a]!) (Go.Sort.swp d a A) (J) (q)=Go.Sort.scanDown (fun x=> !bd x (Go.Sort.swp d a A)[a]!) (Go.Sort.swp d a A) (J) (b - 1))∧(aN.ownsRow B 71 1 (.slice c n s) n (LE aI (Go.Sort.swp d a A)))∧(Md (fun q=>(Value.slice c n s).ownBlock=some q) w aN)∧(a5 0= .slice c n s)∧(a5 1=ae a)∧(a5 10=ae J)∧(a5 11=ae q)∧(q=aq)) _ ⟨b - 1,aa,U,bo,bl,U,U,U,U,U⟩ ?_)
 rintro aq a5 aN ⟨q,ar,ap,C,an,cW,cX,cZ,c0,rfl⟩
 refine fx 0 cW (fx 1 cX (fx 10 cZ (fx 11 c0 (sq (fun _ aY=>sq (fun _ aD=> ?_))))))
 have aK:=di C
 have V:(fun w'=>Wk aN w') aN.drew:=(Md.refl _ _).drew
 refine bS (fun w'=>Wk aN w') U wide V (bH 0 U (ae J) V (bH 1 U (ae q) V (aT 2 U (fun _ _=>le U U) V (aT 3 U (fun _ _=>mv) V (gI (t:=49) U (fun cz=> ?_) (fun cz=> ?_))))))
 refine aW 4 U ab U U U (fun _ _=>aB (.slice c n s) U) V (aW 5 U ab U U U (fun _ _=>aB (ae q) U) V (aW 6 U ab U U U (fun _ _=>aQ ba U U aa (aw.ok ((aJ C).2) (bh aa))) V (aW 7 U ab U U U (fun w' E=>ld bq U (bJ (i:=q) ((aJ C).2.wk E) aa)) V (aW 8 U ab U U U (fun _ _=>aB (.slice c n s) U) V (aW 9 U ab U U U (fun _ _=>aB (ae a) U) V (aW 10 U ab U U U (fun _ _=>aQ ba U U aa (aw.ok ((aJ C).2) (bh aa))) V (aW 11 U ab U U U (fun w' E=>ld bq U (bJ (i:=a) ((aJ C).2.wk E) aa)) V (gW 12 U ab U U U (cl gR (gZ (Go.Sort.swp d a A)[q]! (Go.Sort.swp d a A)[a]! _) U fun dC dq ct=> ?_)))))))))
 obtain ⟨rfl,bY⟩:=ct
 have aG:(fun w'=>Wk aN w') dq:=Md.trans V bY
 refine ⟨aG,?_⟩
 refine aW 13 U ab U U U (fun _ _=>no U) aG (aT 14 U (fun _ _=>bE U) aG (hn ab (tn (aD _ _ (cb U (fun bt=> ?_) (fun bt=> ?_))))))
 exact aH (tn (aY _ _ (aC (rg U (aj (ae q) (p (bZ ((q - 1:Nat):Int) U U (aU aa aa)) (p aA (nl (bn (tn (⟨_,aa,q - 1,aa,((by rw [← ap,qs (show 0 < q by omega) (show J≤q by omega) (by simpa using bt)])),(aE C aG),(Md.trans an (aG.mono (fun _ _ h=>h.elim))),U,U,U,U,U⟩)))))))))))
 exact ext (te _ (te _ (be (tn (⟨q,ar,((by rw [← ap,lO (.inr (by simpa using bt))])),(aE C aG),(Md.trans an (aG.mono (fun _ _ h=>h.elim))),U,U,U,U⟩)))))
 exact aX 4 U ab U U U U V (aX 5 U ab U U U U V (aX 6 U ab U U U U V (aX 7 U ab U U U U V (aX 8 U ab U U U U V (aX 9 U ab U U U U V (aX 10 U ab U U U U V (aX 11 U ab U U U U V (aX 12 U ab U U U U V (aX 13 U ab U U U U V (aT 14 U (fun _ _=>bj U) V (hn ab (tn (aD _ _ (cf U (ext (te _ (te _ (be (tn (⟨q,ar,((by rw [← ap,lO (.inl aa)])),(aE C (Md.refl _ _).drew),an.drew,U,U,U,U⟩))))))))))))))))))))
 rintro a4 av ⟨M,du,bx,G,aZ,cS,cT,cU,cV⟩
 refine fx 0 cS (fx 1 cT (fx 10 cU (fx 11 cV (sq (fun _ aY=>ag (fun _ aD=>(aj (ae J) (aj (ae M) (p (gt U U) (nl (tn (aD _ _ (cd U (fun cv=> ?_) (fun cv=> ?_))))))))))))))
 refine sq (fun _ bi=> ?_)
 have aK:=di G
 have am:(fun w'=>Wk av w') av.drew:=(Md.refl _ _).drew
 refine dy (fun w'=>Wk av w') 13 U wide am (aV 0 U (.slice c n s) am (aV 1 U (ae M) am (aV 2 U (.slice c n s) am (aV 3 U (ae a) am (aV 4 U (.slice c n s) am (aV 5 U (ae a) am (bc 6 U (fun _=>aQ ba U U aa (aw.ok ((aJ G).2) (bh aa))) (fun _=>am) (cY 7 U (fun w' E=>ld bq U (bJ (i:=a) ((aJ G).2.wk E) aa)) am (aV 8 U (.slice c n s) am (aV 9 U (ae M) am (bc 10 U (fun _=>aQ ba U U aa (aw.ok ((aJ G).2) (bh aa))) (fun _=>am) (cY 11 U (fun w' E=>ld bq U (bJ (i:=M) ((aJ G).2.wk E) aa)) am (bc 12 U (fun _=>aQ ba U U aa (aw.ok ((aJ G).2) (bh aa))) (fun _=>am) (bV 13 U ab ab (dJ (u:=(Go.Sort.swp d a A)[a]!) (M) (aE G am) dE U U U aa fun dF b5 cC=> ?_)))))))))))))))
 refine bc 14 U (fun _=>aQ ba U U aa (aw.ok ((aJ G).2) (bh aa))) (fun h=>Bool.noConfusion ((show true =_ from by kernel_rfl).trans h)) (bV 15 U ab ab (dJ (u:=(Go.Sort.swp d a A)[M]!) (a) cC dE U U U aa fun bK b6 cD=> ?_))
 have cm:bK.ownsRow B 71 1 (.slice c n s) n (LE aI (Go.Sort.swp (Go.Sort.swp d a A) (M) (a))):=cD
 have b4:Md (fun q=>(Value.slice c n s).ownBlock=some q) av bK:=Md.trans (am.mono (fun _ _ h=>h.elim)) (Md.trans b5 b6)
 refine dx ab (tn (bi _ _ (ag (fun _ bk=>(aj (ae M) (p (bG (ae M) U) (au (((bk _ _ (rt (tr (f2 U U U ?_)))))))))))))
 have a0:=FL bD bx aa
 exact ⟨by rw [a0]; rfl,by rw [a0]; exact cm,Md.trans aZ b4⟩
 refine aH (tn (aY _ _ (sq (fun _ bi=> ?_))))
 have aK:=di G
 have ai:(fun w'=>Wk av w') av.drew:=(Md.refl _ _).drew
 refine dy (fun w'=>Wk av w') 13 U wide ai (aV 0 U (.slice c n s) ai (aV 1 U (ae J) ai (aV 2 U (.slice c n s) ai (aV 3 U (ae M) ai (aV 4 U (.slice c n s) ai (aV 5 U (ae M) ai (bc 6 U (fun _=>aQ ba U U aa (aw.ok ((aJ G).2) (bh aa))) (fun _=>ai) (cY 7 U (fun w' E=>ld bq U (bJ (i:=M) ((aJ G).2.wk E) aa)) ai (aV 8 U (.slice c n s) ai (aV 9 U (ae J) ai (bc 10 U (fun _=>aQ ba U U aa (aw.ok ((aJ G).2) (bh aa))) (fun _=>ai) (cY 11 U (fun w' E=>ld bq U (bJ (i:=J) ((aJ G).2.wk E) aa)) ai (bc 12 U (fun _=>aQ ba U U aa (aw.ok ((aJ G).2) (bh aa))) (fun _=>ai) (bV 13 U ab ab (dJ (u:=(Go.Sort.swp d a A)[M]!) (J) (aE G ai) dE U U U aa fun dG b8 cE=> ?_)))))))))))))))
 refine bc 14 U (fun _=>aQ ba U U aa (aw.ok ((aJ G).2) (bh aa))) (fun h=>Bool.noConfusion ((show true =_ from by kernel_rfl).trans h)) (bV 15 U ab ab (dJ (u:=(Go.Sort.swp d a A)[J]!) (M) cE dE U U U aa fun bL b9 cF=> ?_))
 have cn:bL.ownsRow B 71 1 (.slice c n s) n (LE aI (Go.Sort.swp (Go.Sort.swp d a A) (J) (M))):=cF
 have b7:Md (fun q=>(Value.slice c n s).ownBlock=some q) av bL:=Md.trans (ai.mono (fun _ _ h=>h.elim)) (Md.trans b8 b9)
 refine dx ab (tn (bi _ _ (ag (fun _ bk=>(aj (ae J) (p (bm ((J+1:Nat):Int) U U (aU aa aa)) (au (((bk _ _ (ag (fun _ bR=>(aj (ae M) (p (bZ ((M - 1:Nat):Int) U U (aU aa aa)) (au (((bR _ _ (sq (fun _ bT=>aC (lp (fun aq a6 bu=> ∃ (i j:Nat) (I:Array Nat),(a+2≤i∧i≤b∧a≤j∧j < b∧i≤j+2)∧(Go.Sort.partLoop bd a i j I=Go.Sort.partLoop bd a (J+1) (M - 1) (Go.Sort.swp (Go.Sort.swp d a A) J M))∧(bu.ownsRow B 71 1 (.slice c n s) n (LE aI I))∧(Md (fun q=>(Value.slice c n s).ownBlock=some q) w bu)∧(a6 0= .slice c n s)∧(a6 1=ae a)∧(a6 10=ae i)∧(a6 11=ae j)∧(j+1 - i=aq)) _ ⟨J+1,M - 1,Go.Sort.swp (Go.Sort.swp d a A) J M,aa,U,cn,(Md.trans aZ b7),U,U,U,U,U⟩ ?_)))))))))))))))))))))
 rintro aq a6 bu ⟨i,j,I,hi,bC,cj,b0,c1,c2,c3,c4,rfl⟩
 refine fx 0 c1 (fx 1 c2 (fx 10 c3 (fx 11 c4 (aC ?_))))
 refine dA (fun a7 bw=> ∃ (ac:Nat),(i≤ac∧(ac=i∨ac≤j+1))∧(Go.Sort.scanUp (fun x=>bd x I[a]!) I (j) (i)=ac)∧(bw.ownsRow B 71 1 (.slice c n s) n (LE aI I))∧(Md (fun q=>(Value.slice c n s).ownBlock=some q) w bw)∧(a7 0= .slice c n s)∧(a7 1=ae a)∧(a7 10=ae ac)∧(a7 11=ae j)) ?_ ?_
 refine aC (lp (fun aq a8 aM=> ∃ (q:Nat),(i≤q∧(q=i∨q≤j+1))∧(Go.Sort.scanUp (fun x=>bd x I[a]!) I (j) (q)=Go.Sort.scanUp (fun x=>bd x I[a]!) I (j) (i))∧(aM.ownsRow B 71 1 (.slice c n s) n (LE aI I))∧(Md (fun q=>(Value.slice c n s).ownBlock=some q) w aM)∧(a8 0= .slice c n s)∧(a8 1=ae a)∧(a8 10=ae q)∧(a8 11=ae j)∧(j+1 - q=aq)) _ ⟨i,aa,U,cj,b0,U,U,U,U,U⟩ ?_)
 rintro aq a8 aM ⟨q,ar,ap,C,an,c9,da,db,dc,rfl⟩
 refine fx 0 c9 (fx 1 da (fx 10 db (fx 11 dc (sq (fun _ aS=>sq (fun _ az=> ?_))))))
 have aK:=di C
 have Y:(fun w'=>Wk aM w') aM.drew:=(Md.refl _ _).drew
 refine bS (fun w'=>Wk aM w') U wide Y (bH 0 U (ae q) Y (bH 1 U (ae j) Y (aT 2 U (fun _ _=>le U U) Y (aT 3 U (fun _ _=>mv) Y (gI (t:=102) U (fun cw=> ?_) (fun cw=> ?_))))))
 refine aW 4 U ab U U U (fun _ _=>aB (.slice c n s) U) Y (aW 5 U ab U U U (fun _ _=>aB (ae q) U) Y (aW 6 U ab U U U (fun _ _=>aQ ba U U aa (aw.ok ((aJ C).2) (bh aa))) Y (aW 7 U ab U U U (fun w' E=>ld bq U (bJ (i:=q) ((aJ C).2.wk E) aa)) Y (aW 8 U ab U U U (fun _ _=>aB (.slice c n s) U) Y (aW 9 U ab U U U (fun _ _=>aB (ae a) U) Y (aW 10 U ab U U U (fun _ _=>aQ ba U U aa (aw.ok ((aJ C).2) (bh aa))) Y (aW 11 U ab U U U (fun w' E=>ld bq U (bJ (i:=a) ((aJ C).2.wk E) aa)) Y (gW 12 U ab U U U (cl gR (gZ I[q]! I[a]! _) U fun dw dm cq=> ?_)))))))))
 obtain ⟨rfl,bU⟩:=cq
 have aP:(fun w'=>Wk aM w') dm:=Md.trans Y bU
 refine ⟨aP,?_⟩
 refine aT 13 U (fun _ _=>bE U) aP (hn ab (tn (az _ _ (cb U (fun bp=> ?_) (fun bp=> ?_)))))
 exact aH (tn (aS _ _ (aC (rg U (aj (ae q) (p (bm ((q+1:Nat):Int) U U (aU aa aa)) (p aA (nl (bn (tn (⟨_,aa,q+1,aa,((by rw [← ap,r5 (show q≤j by omega) (by simpa using bp)])),(aE C aP),(Md.trans an (aP.mono (fun _ _ h=>h.elim))),U,U,U,U,U⟩)))))))))))
 exact ext (te _ (te _ (be (tn (⟨q,ar,((by rw [← ap,mj (.inr (by simpa using bp))])),(aE C aP),(Md.trans an (aP.mono (fun _ _ h=>h.elim))),U,U,U,U⟩)))))
 exact aX 4 U ab U U U U Y (aX 5 U ab U U U U Y (aX 6 U ab U U U U Y (aX 7 U ab U U U U Y (aX 8 U ab U U U U Y (aX 9 U ab U U U U Y (aX 10 U ab U U U U Y (aX 11 U ab U U U U Y (aX 12 U ab U U U U Y (aT 13 U (fun _ _=>bj U) Y (hn ab (tn (az _ _ (cf U (ext (te _ (te _ (be (tn (⟨q,ar,((by rw [← ap,mj (.inl aa)])),(aE C (Md.refl _ _).drew),an.drew,U,U,U,U⟩)))))))))))))))))))
 rintro a7 bw ⟨ac,bA,bF,bo,bl,c5,c6,c7,c8⟩
 refine fx 0 c5 (fx 1 c6 (fx 10 c7 (fx 11 c8 ?_)))
 refine dA (fun a9 ax=> ∃ (ad:Nat),(a≤ad∧ad≤j)∧(Go.Sort.scanDown (fun x=> !bd x I[a]!) I (ac) (j)=ad)∧(ax.ownsRow B 71 1 (.slice c n s) n (LE aI I))∧(Md (fun q=>(Value.slice c n s).ownBlock=some q) w ax)∧(a9 0= .slice c n s)∧(a9 1=ae a)∧(a9 10=ae ac)∧(a9 11=ae ad)) ?_ ?_
 refine aC (lp (fun aq bb aO=> ∃ (q:Nat),(a≤q∧q≤j)∧(Go.Sort.scanDown (fun x=> !bd x I[a]!) I (ac) (q)=Go.Sort.scanDown (fun x=> !bd x I[a]!) I (ac) (j))∧(aO.ownsRow B 71 1 (.slice c n s) n (LE aI I))∧(Md (fun q=>(Value.slice c n s).ownBlock=some q) w aO)∧(bb 0= .slice c n s)∧(bb 1=ae a)∧(bb 10=ae ac)∧(bb 11=ae q)∧(q=aq)) _ ⟨j,aa,U,bo,bl,U,U,U,U,U⟩ ?_)
 rintro aq bb aO ⟨q,ar,ap,C,an,dh,dj,dk,dl,rfl⟩
 refine fx 0 dh (fx 1 dj (fx 10 dk (fx 11 dl (sq (fun _ aS=>sq (fun _ az=> ?_))))))
 have aK:=di C
 have O:(fun w'=>Wk aO w') aO.drew:=(Md.refl _ _).drew
 refine bS (fun w'=>Wk aO w') U wide O (bH 0 U (ae ac) O (bH 1 U (ae q) O (aT 2 U (fun _ _=>le U U) O (aT 3 U (fun _ _=>mv) O (gI (t:=118) U (fun cx=> ?_) (fun cx=> ?_))))))
 refine aW 4 U ab U U U (fun _ _=>aB (.slice c n s) U) O (aW 5 U ab U U U (fun _ _=>aB (ae q) U) O (aW 6 U ab U U U (fun _ _=>aQ ba U U aa (aw.ok ((aJ C).2) (bh aa))) O (aW 7 U ab U U U (fun w' E=>ld bq U (bJ (i:=q) ((aJ C).2.wk E) aa)) O (aW 8 U ab U U U (fun _ _=>aB (.slice c n s) U) O (aW 9 U ab U U U (fun _ _=>aB (ae a) U) O (aW 10 U ab U U U (fun _ _=>aQ ba U U aa (aw.ok ((aJ C).2) (bh aa))) O (aW 11 U ab U U U (fun w' E=>ld bq U (bJ (i:=a) ((aJ C).2.wk E) aa)) O (gW 12 U ab U U U (cl gR (gZ I[q]! I[a]! _) U fun dz dn cr=> ?_)))))))))
 obtain ⟨rfl,bW⟩:=cr
 have aF:(fun w'=>Wk aO w') dn:=Md.trans O bW
 refine ⟨aF,?_⟩
 refine aW 13 U ab U U U (fun _ _=>no U) aF (aT 14 U (fun _ _=>bE U) aF (hn ab (tn (az _ _ (cb U (fun br=> ?_) (fun br=> ?_))))))
 exact aH (tn (aS _ _ (aC (rg U (aj (ae q) (p (bZ ((q - 1:Nat):Int) U U (aU aa aa)) (p aA (nl (bn (tn (⟨_,aa,q - 1,aa,((by rw [← ap,qs (show 0 < q by omega) (show ac≤q by omega) (by simpa using br)])),(aE C aF),(Md.trans an (aF.mono (fun _ _ h=>h.elim))),U,U,U,U,U⟩)))))))))))
 exact ext (te _ (te _ (be (tn (⟨q,ar,((by rw [← ap,lO (.inr (by simpa using br))])),(aE C aF),(Md.trans an (aF.mono (fun _ _ h=>h.elim))),U,U,U,U⟩)))))
 exact aX 4 U ab U U U U O (aX 5 U ab U U U U O (aX 6 U ab U U U U O (aX 7 U ab U U U U O (aX 8 U ab U U U U O (aX 9 U ab U U U U O (aX 10 U ab U U U U O (aX 11 U ab U U U U O (aX 12 U ab U U U U O (aX 13 U ab U U U U O (aT 14 U (fun _ _=>bj U) O (hn ab (tn (az _ _ (cf U (ext (te _ (te _ (be (tn (⟨q,ar,((by rw [← ap,lO (.inl aa)])),(aE C (Md.refl _ _).drew),an.drew,U,U,U,U⟩))))))))))))))))))))
 rintro a9 ax ⟨ad,bB,bz,G,aZ,dd,de,df,dg⟩
 refine fx 0 dd (fx 1 de (fx 10 df (fx 11 dg (sq (fun _ aS=>ag (fun _ az=>(aj (ae ac) (aj (ae ad) (p (gt U U) (nl (tn (az _ _ (cd U (fun cu=> ?_) (fun cu=> ?_))))))))))))))
 refine ext (te _ (jo ao (te _ (be (tn (bT _ _ (sq (fun _ bf=> ?_))))))))
 have aK:=di G
 have al:(fun w'=>Wk ax w') ax.drew:=(Md.refl _ _).drew
 refine dy (fun w'=>Wk ax w') 13 U wide al (aV 0 U (.slice c n s) al (aV 1 U (ae ad) al (aV 2 U (.slice c n s) al (aV 3 U (ae a) al (aV 4 U (.slice c n s) al (aV 5 U (ae a) al (bc 6 U (fun _=>aQ ba U U aa (aw.ok ((aJ G).2) (bh aa))) (fun _=>al) (cY 7 U (fun w' E=>ld bq U (bJ (i:=a) ((aJ G).2.wk E) aa)) al (aV 8 U (.slice c n s) al (aV 9 U (ae ad) al (bc 10 U (fun _=>aQ ba U U aa (aw.ok ((aJ G).2) (bh aa))) (fun _=>al) (cY 11 U (fun w' E=>ld bq U (bJ (i:=ad) ((aJ G).2.wk E) aa)) al (bc 12 U (fun _=>aQ ba U U aa (aw.ok ((aJ G).2) (bh aa))) (fun _=>al) (bV 13 U ab ab (dJ (u:=I[a]!) (ad) (aE G al) dE U U U aa fun dI ch cI=> ?_)))))))))))))))
 refine bc 14 U (fun _=>aQ ba U U aa (aw.ok ((aJ G).2) (bh aa))) (fun h=>Bool.noConfusion ((show true =_ from by kernel_rfl).trans h)) (bV 15 U ab ab (dJ (u:=I[ad]!) (a) cI dE U U U aa fun bN ci cJ=> ?_))
 have cp:bN.ownsRow B 71 1 (.slice c n s) n (LE aI (Go.Sort.swp I (ad) (a))):=cJ
 have cg:Md (fun q=>(Value.slice c n s).ownBlock=some q) ax bN:=Md.trans (al.mono (fun _ _ h=>h.elim)) (Md.trans ch ci)
 refine dx ab (tn (bf _ _ (ag (fun _ bg=>(aj (ae ad) (p (bG (ae ad) U) (au (((bg _ _ (rt (f2 U U U ?_))))))))))))
 have a0:=FM bD bx aa (bC.symm.trans (by rw [wW bF bz bA.1 bB.2,if_pos aa]))
 exact ⟨by rw [a0]; rfl,by rw [a0]; exact cp,Md.trans aZ cg⟩
 refine aH (tn (aS _ _ (sq (fun _ bf=> ?_))))
 have aK:=di G
 have ak:(fun w'=>Wk ax w') ax.drew:=(Md.refl _ _).drew
 refine dy (fun w'=>Wk ax w') 13 U wide ak (aV 0 U (.slice c n s) ak (aV 1 U (ae ac) ak (aV 2 U (.slice c n s) ak (aV 3 U (ae ad) ak (aV 4 U (.slice c n s) ak (aV 5 U (ae ad) ak (bc 6 U (fun _=>aQ ba U U aa (aw.ok ((aJ G).2) (bh aa))) (fun _=>ak) (cY 7 U (fun w' E=>ld bq U (bJ (i:=ad) ((aJ G).2.wk E) aa)) ak (aV 8 U (.slice c n s) ak (aV 9 U (ae ac) ak (bc 10 U (fun _=>aQ ba U U aa (aw.ok ((aJ G).2) (bh aa))) (fun _=>ak) (cY 11 U (fun w' E=>ld bq U (bJ (i:=ac) ((aJ G).2.wk E) aa)) ak (bc 12 U (fun _=>aQ ba U U aa (aw.ok ((aJ G).2) (bh aa))) (fun _=>ak) (bV 13 U ab ab (dJ (u:=I[ad]!) (ac) (aE G ak) dE U U U aa fun dH cc cG=> ?_)))))))))))))))
 refine bc 14 U (fun _=>aQ ba U U aa (aw.ok ((aJ G).2) (bh aa))) (fun h=>Bool.noConfusion ((show true =_ from by kernel_rfl).trans h)) (bV 15 U ab ab (dJ (u:=I[ac]!) (ad) cG dE U U U aa fun bM ce cH=> ?_))
 have co:bM.ownsRow B 71 1 (.slice c n s) n (LE aI (Go.Sort.swp I (ac) (ad))):=cH
 have ca:Md (fun q=>(Value.slice c n s).ownBlock=some q) ax bM:=Md.trans (ak.mono (fun _ _ h=>h.elim)) (Md.trans cc ce)
 exact dx ab (tn (bf _ _ (ag (fun _ bg=>(aj (ae ac) (p (bm ((ac+1:Nat):Int) U U (aU aa aa)) (au (((bg _ _ (rg U (aj (ae ad) (p (bZ ((ad - 1:Nat):Int) U U (aU aa aa)) (p aA (nl (bn (tn (⟨_,aa,ac+1,ad - 1,Go.Sort.swp I ac ad,aa,((by rw [← bC,wW bF bz bA.1 bB.2,if_neg aa,if_pos aa])),co,(Md.trans aZ ca),U,U,U,U,U⟩))))))))))))))))))
theorem FP (d:Array Nat) (a b Y:Nat) (B n s:Nat) (c:Option Addr) (w:World) (ad:w.ownsRow B 71 1 (.slice c n s) n (LE aI d)) (b9:a≤Y∧Y < b∧b≤n) (cg:n≤1099511627776):
 a3 Tryz.prog 163 (List.toArray [.slice c n s,ae a,ae b,ae Y]) w (fun v w'=>v=ae ((Go.Sort.partitionEqual bd d a b Y).1)∧w'.ownsRow B 71 1 (.slice c n s) n (LE aI (Go.Sort.partitionEqual bd d a b Y).2)∧Md (fun q=>(Value.slice c n s).ownBlock=some q) w w'):=by
 refine enter Tryz.func163 U Tryz.ntmps163 U (ag (fun _ a4=>(au (((a4 _ _ (sq (fun _ a5=> ?_))))))))
 have ca:=di ad
 have J:(fun w'=>Wk w w') w.drew:=(Md.refl _ _).drew
 refine dy (fun w'=>Wk w w') 13 U wide J (aV 0 U (.slice c n s) J (aV 1 U (ae a) J (aV 2 U (.slice c n s) J (aV 3 U (ae Y) J (aV 4 U (.slice c n s) J (aV 5 U (ae Y) J (bc 6 U (fun _=>aQ ba U U aa (aw.ok ((aJ ad).2) (bh aa))) (fun _=>J) (cY 7 U (fun w' V=>ld bq U (bJ (i:=Y) ((aJ ad).2.wk V) aa)) J (aV 8 U (.slice c n s) J (aV 9 U (ae a) J (bc 10 U (fun _=>aQ ba U U aa (aw.ok ((aJ ad).2) (bh aa))) (fun _=>J) (cY 11 U (fun w' V=>ld bq U (bJ (i:=a) ((aJ ad).2.wk V) aa)) J (bc 12 U (fun _=>aQ ba U U aa (aw.ok ((aJ ad).2) (bh aa))) (fun _=>J) (bV 13 U ab ab (dJ (u:=d[Y]!) (a) (aE ad J) dE U U U aa fun cj bi bC=> ?_)))))))))))))))
 refine bc 14 U (fun _=>aQ ba U U aa (aw.ok ((aJ ad).2) (bh aa))) (fun h=>Bool.noConfusion ((show true =_ from by kernel_rfl).trans h)) (bV 15 U ab ab (dJ (u:=d[a]!) (Y) bC dE U U U aa fun a1 bk bD=> ?_))
 have bu:a1.ownsRow B 71 1 (.slice c n s) n (LE aI (Go.Sort.swp d (a) (Y))):=bD
 have bg:Md (fun q=>(Value.slice c n s).ownBlock=some q) w a1:=Md.trans (J.mono (fun _ _ h=>h.elim)) (Md.trans bi bk)
 refine dx ab (tn (a5 _ _ (ag (fun _ a6=>(aj (ae a) (p (bm ((a+1:Nat):Int) U U (aU aa aa)) (aj (ae b) (p (bZ ((b - 1:Nat):Int) U U (aU aa aa)) (p aA (au (((a6 _ _ (sq (fun _ a7=>aC (lp (fun ac ax aN=> ∃ (i j:Nat) (A:Array Nat),(a+1≤i∧i≤b∧a≤j∧j < b∧i≤j+2)∧(Go.Sort.partEqLoop bd a i j A=Go.Sort.partitionEqual bd d a b Y)∧(aN.ownsRow B 71 1 (.slice c n s) n (LE aI A))∧(Md (fun q=>(Value.slice c n s).ownBlock=some q) w aN)∧(ax 0= .slice c n s)∧(ax 1=ae a)∧(ax 9=ae i)∧(ax 10=ae j)∧(j+1 - i=ac)) _ ⟨a+1,b - 1,(Go.Sort.swp d a Y),aa,U,bu,bg,U,U,U,U,U⟩ ?_))))))))))))))))
 rintro ac ax aN ⟨i,j,A,hi,aY,bs,bf,bK,bL,bN,bM,rfl⟩
 refine fx 0 bK (fx 1 bL (fx 9 bN (fx 10 bM (aC ?_))))
 refine dA (fun ay aO=> ∃ (C:Nat),(i≤C∧(C=i∨C≤j+1))∧(Go.Sort.scanUp (fun x=> !bd A[a]! x) A (j) (i)=C)∧(aO.ownsRow B 71 1 (.slice c n s) n (LE aI A))∧(Md (fun q=>(Value.slice c n s).ownBlock=some q) w aO)∧(ay 0= .slice c n s)∧(ay 1=ae a)∧(ay 9=ae C)∧(ay 10=ae j)) ?_ ?_
 refine aC (lp (fun ac aD am=> ∃ (q:Nat),(i≤q∧(q=i∨q≤j+1))∧(Go.Sort.scanUp (fun x=> !bd A[a]! x) A (j) (q)=Go.Sort.scanUp (fun x=> !bd A[a]! x) A (j) (i))∧(am.ownsRow B 71 1 (.slice c n s) n (LE aI A))∧(Md (fun q=>(Value.slice c n s).ownBlock=some q) w am)∧(aD 0= .slice c n s)∧(aD 1=ae a)∧(aD 9=ae q)∧(aD 10=ae j)∧(j+1 - q=ac)) _ ⟨i,aa,U,bs,bf,U,U,U,U,U⟩ ?_)
 rintro ac aD am ⟨q,av,al,I,ai,bT,bU,bX,bW,rfl⟩
 refine fx 0 bT (fx 1 bU (fx 9 bX (fx 10 bW (sq (fun _ ar=>sq (fun _ ah=> ?_))))))
 have aR:=di I
 have E:(fun w'=>Wk am w') am.drew:=(Md.refl _ _).drew
 refine bS (fun w'=>Wk am w') U wide E (bH 0 U (ae q) E (bH 1 U (ae j) E (aT 2 U (fun _ _=>le U U) E (aT 3 U (fun _ _=>mv) E (gI (t:=32) U (fun bA=> ?_) (fun bA=> ?_))))))
 refine aW 4 U ab U U U (fun _ _=>aB (.slice c n s) U) E (aW 5 U ab U U U (fun _ _=>aB (ae a) U) E (aW 6 U ab U U U (fun _ _=>aQ ba U U aa (aw.ok ((aJ I).2) (bh aa))) E (aW 7 U ab U U U (fun w' V=>ld bq U (bJ (i:=a) ((aJ I).2.wk V) aa)) E (aW 8 U ab U U U (fun _ _=>aB (.slice c n s) U) E (aW 9 U ab U U U (fun _ _=>aB (ae q) U) E (aW 10 U ab U U U (fun _ _=>aQ ba U U aa (aw.ok ((aJ I).2) (bh aa))) E (aW 11 U ab U U U (fun w' V=>ld bq U (bJ (i:=q) ((aJ I).2.wk V) aa)) E (gW 12 U ab U U U (cl gR (gZ A[a]! A[q]! _) U fun ch b7 bw=> ?_)))))))))
 obtain ⟨rfl,a9⟩:=bw
 have ak:(fun w'=>Wk am w') b7:=Md.trans E a9
 refine ⟨ak,?_⟩
 refine aW 13 U ab U U U (fun _ _=>no U) ak (aT 14 U (fun _ _=>bE U) ak (hn ab (tn (ah _ _ (cb U (fun aL=> ?_) (fun aL=> ?_))))))
 exact aH (tn (ar _ _ (aC (rg U (aj (ae q) (p (bm ((q+1:Nat):Int) U U (aU aa aa)) (p aA (nl (bn (tn (⟨_,aa,q+1,aa,((by rw [← al,r5 (show q≤j by omega) (by simpa using aL)])),(aE I ak),(Md.trans ai (ak.mono (fun _ _ h=>h.elim))),U,U,U,U,U⟩)))))))))))
 exact ext (te _ (te _ (be (tn (⟨q,av,((by rw [← al,mj (.inr (by simpa using aL))])),(aE I ak),(Md.trans ai (ak.mono (fun _ _ h=>h.elim))),U,U,U,U⟩)))))
 exact aX 4 U ab U U U U E (aX 5 U ab U U U U E (aX 6 U ab U U U U E (aX 7 U ab U U U U E (aX 8 U ab U U U U E (aX 9 U ab U U U U E (aX 10 U ab U U U U E (aX 11 U ab U U U U E (aX 12 U ab U U U U E (aX 13 U ab U U U U E (aT 14 U (fun _ _=>bj U) E (hn ab (tn (ah _ _ (cf U (ext (te _ (te _ (be (tn (⟨q,av,((by rw [← al,mj (.inl aa)])),(aE I (Md.refl _ _).drew),ai.drew,U,U,U,U⟩))))))))))))))))))))
 rintro ay aO ⟨C,cc,aZ,bt,br,bO,bP,bR,bQ⟩
 refine fx 0 bO (fx 1 bP (fx 9 bR (fx 10 bQ ?_)))
 refine dA (fun aF ap=> ∃ (O:Nat),(a≤O∧O≤j)∧(Go.Sort.scanDown (fun x=>bd A[a]! x) A (C) (j)=O)∧(ap.ownsRow B 71 1 (.slice c n s) n (LE aI A))∧(Md (fun q=>(Value.slice c n s).ownBlock=some q) w ap)∧(aF 0= .slice c n s)∧(aF 1=ae a)∧(aF 9=ae C)∧(aF 10=ae O)) ?_ ?_
 refine aC (lp (fun ac aG an=> ∃ (q:Nat),(a≤q∧q≤j)∧(Go.Sort.scanDown (fun x=>bd A[a]! x) A (C) (q)=Go.Sort.scanDown (fun x=>bd A[a]! x) A (C) (j))∧(an.ownsRow B 71 1 (.slice c n s) n (LE aI A))∧(Md (fun q=>(Value.slice c n s).ownBlock=some q) w an)∧(aG 0= .slice c n s)∧(aG 1=ae a)∧(aG 9=ae C)∧(aG 10=ae q)∧(q=ac)) _ ⟨j,aa,U,bt,br,U,U,U,U,U⟩ ?_)
 rintro ac aG an ⟨q,av,al,I,ai,b3,b4,b6,b5,rfl⟩
 refine fx 0 b3 (fx 1 b4 (fx 9 b6 (fx 10 b5 (sq (fun _ ar=>sq (fun _ ah=> ?_))))))
 have aR:=di I
 have G:(fun w'=>Wk an w') an.drew:=(Md.refl _ _).drew
 refine bS (fun w'=>Wk an w') U wide G (bH 0 U (ae C) G (bH 1 U (ae q) G (aT 2 U (fun _ _=>le U U) G (aT 3 U (fun _ _=>mv) G (gI (t:=49) U (fun bB=> ?_) (fun bB=> ?_))))))
 refine aW 4 U ab U U U (fun _ _=>aB (.slice c n s) U) G (aW 5 U ab U U U (fun _ _=>aB (ae a) U) G (aW 6 U ab U U U (fun _ _=>aQ ba U U aa (aw.ok ((aJ I).2) (bh aa))) G (aW 7 U ab U U U (fun w' V=>ld bq U (bJ (i:=a) ((aJ I).2.wk V) aa)) G (aW 8 U ab U U U (fun _ _=>aB (.slice c n s) U) G (aW 9 U ab U U U (fun _ _=>aB (ae q) U) G (aW 10 U ab U U U (fun _ _=>aQ ba U U aa (aw.ok ((aJ I).2) (bh aa))) G (aW 11 U ab U U U (fun w' V=>ld bq U (bJ (i:=q) ((aJ I).2.wk V) aa)) G (gW 12 U ab U U U (cl gR (gZ A[a]! A[q]! _) U fun ci b8 bx=> ?_)))))))))
 obtain ⟨rfl,bb⟩:=bx
 have aq:(fun w'=>Wk an w') b8:=Md.trans G bb
 refine ⟨aq,?_⟩
 refine aT 13 U (fun _ _=>bE U) aq (hn ab (tn (ah _ _ (cb U (fun aM=> ?_) (fun aM=> ?_)))))
 exact aH (tn (ar _ _ (aC (rg U (aj (ae q) (p (bZ ((q - 1:Nat):Int) U U (aU aa aa)) (p aA (nl (bn (tn (⟨_,aa,q - 1,aa,((by rw [← al,qs (show 0 < q by omega) (show C≤q by omega) (by simpa using aM)])),(aE I aq),(Md.trans ai (aq.mono (fun _ _ h=>h.elim))),U,U,U,U,U⟩)))))))))))
 exact ext (te _ (te _ (be (tn (⟨q,av,((by rw [← al,lO (.inr (by simpa using aM))])),(aE I aq),(Md.trans ai (aq.mono (fun _ _ h=>h.elim))),U,U,U,U⟩)))))
 exact aX 4 U ab U U U U G (aX 5 U ab U U U U G (aX 6 U ab U U U U G (aX 7 U ab U U U U G (aX 8 U ab U U U U G (aX 9 U ab U U U U G (aX 10 U ab U U U U G (aX 11 U ab U U U U G (aX 12 U ab U U U U G (aT 13 U (fun _ _=>bj U) G (hn ab (tn (ah _ _ (cf U (ext (te _ (te _ (be (tn (⟨q,av,((by rw [← al,lO (.inl aa)])),(aE I (Md.refl _ _).drew),ai.drew,U,U,U,U⟩)))))))))))))))))))
 rintro aF ap ⟨O,ce,aS,Z,aP,bY,b0,b2,b1⟩
 refine fx 0 bY (fx 1 b0 (fx 9 b2 (fx 10 b1 (sq (fun _ ar=>ag (fun _ ah=>(aj (ae C) (aj (ae O) (p (gt U U) (nl (tn (ah _ _ (cd U (fun bz=> ?_) (fun bz=> ?_))))))))))))))
 refine ext (te _ (jo ao (te _ (be (tn (a7 _ _ (ag (fun _ aK=>aj (ae C) (p (bG (ae C) U) (az ((aK _ _ (rt (f1 U U ?_))))))))))))))
 have a0:Go.Sort.partitionEqual bd d a b Y=(C,A):=by rw [← aY,wS aZ aS,if_pos aa]
 exact ⟨by rw [a0]; rfl,by rw [a0]; exact Z,aP⟩
 refine aH (tn (ar _ _ (sq (fun _ aK=> ?_))))
 have aR:=di Z
 have M:(fun w'=>Wk ap w') ap.drew:=(Md.refl _ _).drew
 refine dy (fun w'=>Wk ap w') 13 U wide M (aV 0 U (.slice c n s) M (aV 1 U (ae C) M (aV 2 U (.slice c n s) M (aV 3 U (ae O) M (aV 4 U (.slice c n s) M (aV 5 U (ae O) M (bc 6 U (fun _=>aQ ba U U aa (aw.ok ((aJ Z).2) (bh aa))) (fun _=>M) (cY 7 U (fun w' V=>ld bq U (bJ (i:=O) ((aJ Z).2.wk V) aa)) M (aV 8 U (.slice c n s) M (aV 9 U (ae C) M (bc 10 U (fun _=>aQ ba U U aa (aw.ok ((aJ Z).2) (bh aa))) (fun _=>M) (cY 11 U (fun w' V=>ld bq U (bJ (i:=C) ((aJ Z).2.wk V) aa)) M (bc 12 U (fun _=>aQ ba U U aa (aw.ok ((aJ Z).2) (bh aa))) (fun _=>M) (bV 13 U ab ab (dJ (u:=A[O]!) (C) (aE Z M) dE U U U aa fun ck bo bF=> ?_)))))))))))))))
 refine bc 14 U (fun _=>aQ ba U U aa (aw.ok ((aJ Z).2) (bh aa))) (fun h=>Bool.noConfusion ((show true =_ from by kernel_rfl).trans h)) (bV 15 U ab ab (dJ (u:=A[C]!) (O) bF dE U U U aa fun a2 bp bI=> ?_))
 have bv:a2.ownsRow B 71 1 (.slice c n s) n (LE aI (Go.Sort.swp A (C) (O))):=bI
 have bl:Md (fun q=>(Value.slice c n s).ownBlock=some q) ap a2:=Md.trans (M.mono (fun _ _ h=>h.elim)) (Md.trans bo bp)
 exact dx ab (tn (aK _ _ (ag (fun _ a8=>(aj (ae C) (p (bm ((C+1:Nat):Int) U U (aU aa aa)) (au (((a8 _ _ (rg U (aj (ae O) (p (bZ ((O - 1:Nat):Int) U U (aU aa aa)) (p aA (nl (bn (tn (⟨_,aa,C+1,O - 1,Go.Sort.swp A C O,aa,((by rw [← aY,wS aZ aS,if_neg aa,if_pos aa])),bv,(Md.trans aP bl),U,U,U,U,U⟩))))))))))))))))))
end Go.Hb.su
end
section
set_option maxRecDepth 20000
set_option maxHeartbeats 1000000
namespace Go.Hb.sv
open Go.Hb.c6
open Go.Proofs
open Go.Hb.kV
theorem FU {d:Array Nat} {a b s i i2:Nat} (c:0 < s) (h:Go.Sort.scanSorted bd d b i=i2) (h1:i2=b):Go.Sort.partialIns bd a b s i d=(d,true):=by
 cases s with
 | zero=>omega
 | succ s=>rw [Go.Sort.partialIns]; simp only [h,if_pos h1]
theorem FV {d:Array Nat} {a b s i i2:Nat} (c:0 < s) (h:Go.Sort.scanSorted bd d b i=i2) (h1:¬i2=b) (h2:b - a < 50):Go.Sort.partialIns bd a b s i d=(d,false):=by
 cases s with
 | zero=>omega
 | succ s=>rw [Go.Sort.partialIns]; simp only [h,if_neg h1,if_pos h2]
theorem rG {d c j:Array Nat} {a b s i i2:Nat} (A:0 < s) (h:Go.Sort.scanSorted bd d b i=i2) (h1:¬i2=b) (h2:¬b - a < 50)
 (p:c=if i2 - a≥2 then Go.Sort.shiftDown bd (i2 - 1) (Go.Sort.swp d i2 (i2 - 1)) else Go.Sort.swp d i2 (i2 - 1)) (q:j=if b - i2≥2 then Go.Sort.shiftUp bd b (i2+1) c else c):
 Go.Sort.partialIns bd a b s i d=Go.Sort.partialIns bd a b (s - 1) i2 j:=by
 cases s with
 | zero=>omega
 | succ s=>rw [Go.Sort.partialIns]; simp only [h,if_neg h1,if_neg h2]; rw [← p,← q]; rfl
theorem F5 (d:Array Nat) (a b:Nat) (B n j:Nat) (c:Option Addr) (w:World) (b9:w.ownsRow B 71 1 (.slice c n j) n (LE aI d)) (c6:a < b∧b≤n) (da:n≤1099511627776):
 a3 Tryz.prog 161 (List.toArray [.slice c n j,ae a,ae b]) w (fun v w'=>v= .bool (Go.Sort.partialInsertionSort bd d a b).2∧w'.ownsRow B 71 1 (.slice c n j) n (LE aI (Go.Sort.partialInsertionSort bd d a b).1)∧Md (fun q=>(Value.slice c n j).ownBlock=some q) w w'):=by
 refine enter Tryz.func161 U Tryz.ntmps161 U (ag (fun _ bO=>(au (((bO _ _ (ag (fun _ bQ=>(aj (ae a) (p (bm ((a+1:Nat):Int) U U (aU aa aa)) (au (((bQ _ _ (sq (fun _ bR=>ag (fun _ bT=>(p aA (az ((bT _ _ (aC (lp (fun V aL bA=> ∃ (s i:Nat) (E:Array Nat),(a+1≤i∧i≤b∧s≤5)∧(Go.Sort.partialIns bd a b (5 - s) i E=(Go.Sort.partialInsertionSort bd d a b))∧(bA.ownsRow B 71 1 (.slice c n j) n (LE aI E))∧(Md (fun q=>(Value.slice c n j).ownBlock=some q) w bA)∧(aL 0= .slice c n j)∧(aL 1=ae a)∧(aL 2=ae b)∧(aL 7=ae i)∧(aL 8=ae s)∧(5 - s=V)) _ ⟨0,a+1,d,aa,U,b9,(Md.refl _ _),U,U,U,U,U,U⟩ ?_)))))))))))))))))))))))
 rintro V aL bA ⟨s,i,E,hi,aK,bF,bB,cy,cz,cA,cB,cC,rfl⟩
 refine fx 0 cy (fx 1 cz (fx 2 cA (fx 7 cB (fx 8 cC (sq (fun _ bU=>ag (fun _ bW=>(aj (ae s) (p (lt U U) (az ((bW _ _ (cd U (fun cj=> ?_) (fun cj=> ?_))))))))))))))
 refine aH (tn (bU _ _ (sq (fun _ aP=>aC ?_))))
 refine dA (fun aM aq=> ∃ (i2:Nat),(i≤i2∧i2≤b)∧(Go.Sort.scanSorted bd E b i=i2)∧(aq.ownsRow B 71 1 (.slice c n j) n (LE aI E))∧(Md (fun q=>(Value.slice c n j).ownBlock=some q) w aq)∧(aM 0= .slice c n j)∧(aM 1=ae a)∧(aM 2=ae b)∧(aM 7=ae i2)∧(aM 8=ae s)) ?_ ?_
 refine aC (lp (fun V aN ax=> ∃ (q:Nat),(i≤q∧q≤b)∧(Go.Sort.scanSorted bd E b q=Go.Sort.scanSorted bd E b i)∧(ax.ownsRow B 71 1 (.slice c n j) n (LE aI E))∧(Md (fun q=>(Value.slice c n j).ownBlock=some q) w ax)∧(aN 0= .slice c n j)∧(aN 1=ae a)∧(aN 2=ae b)∧(aN 7=ae q)∧(aN 8=ae s)∧(b - q=V)) _ ⟨i,aa,U,bF,bB,U,U,U,U,U,U⟩ ?_)
 rintro V aN ax ⟨q,bK,bv,ad,bi,cI,cJ,cK,cL,cM,rfl⟩
 refine fx 0 cI (fx 1 cJ (fx 2 cK (fx 7 cL (fx 8 cM (sq (fun _ bf=>sq (fun _ aZ=> ?_)))))))
 have cq:=di ad
 have A:(fun w'=>Wk ax w') ax.drew:=(Md.refl _ _).drew
 refine bS (fun w'=>Wk ax w') U wide A (bH 0 U (ae q) A (bH 1 U (ae b) A (aT 2 U (fun _ _=>lt U U) A (aT 3 U (fun _ _=>mv) A (gI (t:=20) U (fun cr=> ?_) (fun cr=> ?_))))))
 refine aW 4 U ab U U U (fun _ _=>aB (.slice c n j) U) A (aW 5 U ab U U U (fun _ _=>aB (ae q) U) A (aW 6 U ab U U U (fun _ _=>aQ ba U U aa (aw.ok ((aJ ad).2) (bh aa))) A (aW 7 U ab U U U (fun w' C=>ld bq U (bJ (i:=q) ((aJ ad).2.wk C) aa)) A (aW 8 U ab U U U (fun _ _=>aB (.slice c n j) U) A (aW 9 U ab U U U (fun _ _=>aB (ae q) U) A (aW 10 U ab U U U (fun _ _=>bZ ((q - 1:Nat):Int) U U (aU aa aa)) A (aW 11 U ab U U U (fun _ _=>aQ ba U U aa (aw.ok ((aJ ad).2) (bh aa))) A (aW 12 U ab U U U (fun w' C=>ld bq U (bJ (i:=q - 1) ((aJ ad).2.wk C) aa)) A (gW 13 U ab U U U (cl gR (gZ E[q]! E[q - 1]! _) U fun v30 c5 cg=> ?_))))))))))
 obtain ⟨rfl,bY⟩:=cg
 have ap:(fun w'=>Wk ax w') c5:=Md.trans A bY
 refine ⟨ap,?_⟩
 refine aW 14 U ab U U U (fun _ _=>no U) ap (aT 15 U (fun _ _=>bE U) ap (hn ab (tn (aZ _ _ (cb U (fun bs=> ?_) (fun bs=> ?_))))))
 exact aH (tn (bf _ _ (aC (rg U (aj (ae q) (p (bm ((q+1:Nat):Int) U U (aU aa aa)) (p aA (nl (bn (tn (⟨_,aa,q+1,aa,((by rw [← bv,Hd (show q < b by omega) (by simpa using bs)])),(aE ad ap),(Md.trans bi (ap.mono (fun _ _ h=>h.elim))),U,U,U,U,U,U⟩)))))))))))
 exact ext (te _ (te _ (be (tn (⟨q,aa,((by rw [← bv,xA (.inr (by simpa using bs))])),(aE ad ap),(Md.trans bi (ap.mono (fun _ _ h=>h.elim))),U,U,U,U,U⟩)))))
 exact aX 4 U ab U U U U A (aX 5 U ab U U U U A (aX 6 U ab U U U U A (aX 7 U ab U U U U A (aX 8 U ab U U U U A (aX 9 U ab U U U U A (aX 10 U ab U U U U A (aX 11 U ab U U U U A (aX 12 U ab U U U U A (aX 13 U ab U U U U A (aX 14 U ab U U U U A (aT 15 U (fun _ _=>bj U) A (hn ab (tn (aZ _ _ (cf U (ext (te _ (te _ (be (tn (⟨q,aa,((by rw [← bv,xA (.inl aa)])),(aE ad (Md.refl _ _).drew),bi.drew,U,U,U,U,U⟩)))))))))))))))))))))
 rintro aM aq ⟨i2,c9,aR,ac,a0,cD,cE,cF,cG,cH⟩
 refine fx 0 cD (fx 1 cE (fx 2 cF (fx 7 cG (fx 8 cH (sq (fun _ bf=>ag (fun _ aZ=>(aj (ae i2) (aj (ae b) (p (bp U U) (nl (tn (aZ _ _ (cd U (fun ck=> ?_) (fun ck=> ?_)))))))))))))))
 refine ag (fun _ a1=>(au (((a1 _ _ (rt (tr (br (tr (tr (br (tr (f1 U U ?_)))))))))))))
 have ak:(Go.Sort.partialInsertionSort bd d a b)=(E,true):=by rw [← aK,FU (show 0 < 5 - s by omega) aR aa]
 exact ⟨by rw [ak]; rfl,by rw [ak]; exact ac,a0⟩
 have bg:¬i2=b:=aa
 refine aH (tn (bf _ _ (sq (fun _ a1=>ag (fun _ bP=>(aj (ae b) (aj (ae a) (p (bZ ((b - a:Nat):Int) U U (aU aa aa)) (p (lt U U) (az ((bP _ _ (cd U (fun cm=> ?_) (fun cm=> ?_))))))))))))))
 refine ag (fun _ a2=>(au (((a2 _ _ (rt (tr (br (tr (tr (br (tr (f1 U U ?_)))))))))))))
 have ak:(Go.Sort.partialInsertionSort bd d a b)=(E,false):=by rw [← aK,FV (show 0 < 5 - s by omega) aR aa aa]
 exact ⟨by rw [ak]; rfl,by rw [ak]; exact ac,a0⟩
 refine aH (tn (a1 _ _ (sq (fun _ a2=> ?_))))
 have cq:=di ac
 have G:(fun w'=>Wk aq w') aq.drew:=(Md.refl _ _).drew
 refine dy (fun w'=>Wk aq w') 15 U wide G (aV 0 U (.slice c n j) G (aV 1 U (ae i2) G (aV 2 U (.slice c n j) G (aV 3 U (ae i2) G (bc 4 U (fun _=>bZ ((i2 - 1:Nat):Int) U U (aU aa aa)) (fun _=>G) (aV 5 U (.slice c n j) G (aV 6 U (ae i2) G (bc 7 U (fun _=>bZ ((i2 - 1:Nat):Int) U U (aU aa aa)) (fun _=>G) (bc 8 U (fun _=>aQ ba U U aa (aw.ok ((aJ ac).2) (bh aa))) (fun _=>G) (cY 9 U (fun w' C=>ld bq U (bJ (i:=i2 - 1) ((aJ ac).2.wk C) aa)) G (aV 10 U (.slice c n j) G (aV 11 U (ae i2) G (bc 12 U (fun _=>aQ ba U U aa (aw.ok ((aJ ac).2) (bh aa))) (fun _=>G) (cY 13 U (fun w' C=>ld bq U (bJ (i:=i2) ((aJ ac).2.wk C) aa)) G (bc 14 U (fun _=>aQ ba U U aa (aw.ok ((aJ ac).2) (bh aa))) (fun _=>G) ?_)))))))))))))))
 refine bV 15 U ab ab (dJ (u:=E[i2 - 1]!) (i2) (aE ac G) dE U U U aa fun dd b1 cs=>bc 16 U (fun _=>aQ ba U U aa (aw.ok ((aJ ac).2) (bh aa))) (fun h=>Bool.noConfusion ((show true =_ from by kernel_rfl).trans h)) (bV 17 U ab ab (dJ (u:=E[i2]!) (i2 - 1) cs dE U U U aa fun bL b2 ct=> ?_)))
 have bI:bL.ownsRow B 71 1 (.slice c n j) n (LE aI (Go.Sort.swp E (i2) (i2 - 1))):=ct
 have bC:Md (fun q=>(Value.slice c n j).ownBlock=some q) aq bL:=Md.trans (G.mono (fun _ _ h=>h.elim)) (Md.trans b1 b2)
 refine dx ab (tn (a2 _ _ ?_))
 refine dA (fun aO bz=> ∃ (al:Array Nat),(al=if i2 - a≥2 then Go.Sort.shiftDown bd (i2 - 1) (Go.Sort.swp E i2 (i2 - 1)) else (Go.Sort.swp E i2 (i2 - 1)))∧(bz.ownsRow B 71 1 (.slice c n j) n (LE aI al))∧(Md (fun q=>(Value.slice c n j).ownBlock=some q) w bz)∧(aO 0= .slice c n j)∧(aO 1=ae a)∧(aO 2=ae b)∧(aO 7=ae i2)∧(aO 8=ae s)) ?_ ?_
 refine ag (fun _ a4=>(aj (ae i2) (aj (ae a) (p (bZ ((i2 - a:Nat):Int) U U (aU aa aa)) (p (ge U U) (az ((a4 _ _ (cd U (fun cn=> ?_) (fun cn=> ?_))))))))))
 refine ag (fun _ a5=>(aj (ae i2) (p (bZ ((i2 - 1:Nat):Int) U U (aU aa aa)) (au (((a5 _ _ (aC (lp (fun V ay ar=> ∃ (q:Nat) (O:Array Nat),(q≤i2 - 1)∧(Go.Sort.shiftDown bd q O=Go.Sort.shiftDown bd (i2 - 1) (Go.Sort.swp E i2 (i2 - 1)))∧(ar.ownsRow B 71 1 (.slice c n j) n (LE aI O))∧(Md (fun q=>(Value.slice c n j).ownBlock=some q) w ar)∧(ay 0= .slice c n j)∧(ay 1=ae a)∧(ay 2=ae b)∧(ay 7=ae i2)∧(ay 8=ae s)∧(ay 9=ae q)∧(q=V)) _ ⟨i2 - 1,(Go.Sort.swp E i2 (i2 - 1)),aa,U,bI,(Md.trans a0 bC),U,U,U,U,U,U,U⟩ ?_)))))))))
 rintro V ay ar ⟨q,O,bK,bw,ah,bk,cS,cT,cU,cV,cW,cX,rfl⟩
 refine fx 0 cS (fx 1 cT (fx 2 cU (fx 7 cV (fx 8 cW (fx 9 cX (sq (fun _ a6=>ag (fun _ a7=>(aj (ae q) (p (ge U U) (az ((a7 _ _ (cd U (fun co=> ?_) (fun co=> ?_)))))))))))))))
 refine aH (tn (a6 _ _ (sq (fun _ a8=>aC (sq (fun _ a9=>sq (fun _ bb=> ?_)))))))
 have c7:=di ah
 have Y:(fun w'=>Wk ar w') ar.drew:=(Md.refl _ _).drew
 refine bS (fun w'=>Wk ar w') U wide Y (bH 0 U (.slice c n j) Y (bH 1 U (ae q) Y (aT 2 U (fun _ _=>aQ ba U U aa (aw.ok ((aJ ah).2) (bh aa))) Y (aT 3 U (fun w' C=>ld bq U (bJ (i:=q) ((aJ ah).2.wk C) aa)) Y (bH 4 U (.slice c n j) Y (bH 5 U (ae q) Y (aT 6 U (fun _ _=>bZ ((q - 1:Nat):Int) U U (aU aa aa)) Y (aT 7 U (fun _ _=>aQ ba U U aa (aw.ok ((aJ ah).2) (bh aa))) Y (aT 8 U (fun w' C=>ld bq U (bJ (i:=q - 1) ((aJ ah).2.wk C) aa)) Y (he 9 U ab (cl gR (gZ O[q]! O[q - 1]! _) U fun dc aY ch=> ?_)))))))))))
 obtain ⟨rfl,b0⟩:=ch
 have aF:(fun w'=>Wk ar w') aY:=Md.trans Y b0
 refine ⟨aF,?_⟩
 refine aT 10 U (fun _ _=>no U) aF (hn ab (tn (bb _ _ (cb U (fun bt=> ?_) (fun bt=> ?_)))))
 exact ext (te _ (jo ao (te _ (te _ (be (tn (⟨O,((by rw [if_pos aa,← bw,xm (.inr (by simpa using bt))])),(aE ah aF),(Md.trans bk (aF.mono (fun _ _ h=>h.elim))),U,U,U,U,U⟩)))))))
 refine aH (tn (a9 _ _ ?_))
 have am:=aE ah aF
 have I:(fun w'=>Wk aY w') aY.drew:=(Md.refl _ _).drew
 refine dy (fun w'=>Wk aY w') 15 U wide I (aV 0 U (.slice c n j) I (aV 1 U (ae q) I (aV 2 U (.slice c n j) I (aV 3 U (ae q) I (bc 4 U (fun _=>bZ ((q - 1:Nat):Int) U U (aU aa aa)) (fun _=>I) (aV 5 U (.slice c n j) I (aV 6 U (ae q) I (bc 7 U (fun _=>bZ ((q - 1:Nat):Int) U U (aU aa aa)) (fun _=>I) (bc 8 U (fun _=>aQ ba U U aa (aw.ok ((aJ am).2) (bh aa))) (fun _=>I) (cY 9 U (fun w' C=>ld bq U (bJ (i:=q - 1) ((aJ am).2.wk C) aa)) I (aV 10 U (.slice c n j) I (aV 11 U (ae q) I (bc 12 U (fun _=>aQ ba U U aa (aw.ok ((aJ am).2) (bh aa))) (fun _=>I) (cY 13 U (fun w' C=>ld bq U (bJ (i:=q) ((aJ am).2.wk C) aa)) I (bc 14 U (fun _=>aQ ba U U aa (aw.ok ((aJ am).2) (bh aa))) (fun _=>I) ?_)))))))))))))))
 refine bV 15 U ab ab (dJ (u:=O[q - 1]!) (q) (aE am I) dE U U U aa fun de b4 cu=>bc 16 U (fun _=>aQ ba U U aa (aw.ok ((aJ am).2) (bh aa))) (fun h=>Bool.noConfusion ((show true =_ from by kernel_rfl).trans h)) (bV 17 U ab ab (dJ (u:=O[q]!) (q - 1) cu dE U U U aa fun bM b5 cv=> ?_)))
 have ca:bM.ownsRow B 71 1 (.slice c n j) n (LE aI (Go.Sort.swp O (q) (q - 1))):=cv
 have b3:Md (fun q=>(Value.slice c n j).ownBlock=some q) aY bM:=Md.trans (I.mono (fun _ _ h=>h.elim)) (Md.trans b4 b5)
 exact dx ab (bn (tn (a8 _ _ (rg U (aj (ae q) (p (bZ ((q - 1:Nat):Int) U U (aU aa aa)) (p aA (nl (tn (⟨_,aa,q - 1,Go.Sort.swp O q (q - 1),aa,((by rw [← bw,GM (show 0 < q by omega) (by simpa using bt)])),ca,(Md.trans bk (Md.trans (aF.mono (fun _ _ h=>h.elim)) b3)),U,U,U,U,U,U,U⟩))))))))))
 exact ext (te _ (te _ (be (tn (⟨O,((by rw [if_pos aa,← bw,xm (.inl aa)])),ah,bk,U,U,U,U,U⟩)))))
 exact aH (tn (⟨(Go.Sort.swp E i2 (i2 - 1)),((by rw [if_neg aa])),bI,(Md.trans a0 bC),U,U,U,U,U⟩))
 rintro aO bz ⟨al,bu,bG,bD,cN,cO,cP,cQ,cR⟩
 refine fx 0 cN (fx 1 cO (fx 2 cP (fx 7 cQ (fx 8 cR (ag (fun _ a4=>(aj (ae b) (aj (ae i2) (p (bZ ((b - i2:Nat):Int) U U (aU aa aa)) (p (ge U U) (nl (tn (a4 _ _ (cd U (fun cp=> ?_) (fun cp=> ?_)))))))))))))))
 refine ag (fun _ a5=>(aj (ae i2) (p (bm ((i2+1:Nat):Int) U U (aU aa aa)) (au (((a5 _ _ (aC (lp (fun V aD av=> ∃ (q:Nat) (M:Array Nat),(i2+1≤q∧q≤b)∧(Go.Sort.shiftUp bd b q M=Go.Sort.shiftUp bd b (i2+1) al)∧(av.ownsRow B 71 1 (.slice c n j) n (LE aI M))∧(Md (fun q=>(Value.slice c n j).ownBlock=some q) w av)∧(aD 0= .slice c n j)∧(aD 1=ae a)∧(aD 2=ae b)∧(aD 7=ae i2)∧(aD 8=ae s)∧(aD 10=ae q)∧(b - q=V)) _ ⟨i2+1,al,aa,U,bG,bD,U,U,U,U,U,U,U⟩ ?_)))))))))
 rintro V aD av ⟨q,M,bK,bx,ai,bl,cZ,c0,c2,c3,c4,c1,rfl⟩
 refine fx 0 cZ (fx 1 c0 (fx 2 c2 (fx 7 c3 (fx 8 c4 (fx 10 c1 (sq (fun _ a6=>ag (fun _ a7=>(aj (ae q) (aj (ae b) (p (lt U U) (nl (tn (a7 _ _ (cd U (fun ci=> ?_) (fun ci=> ?_))))))))))))))))
 refine aH (tn (a6 _ _ (sq (fun _ a8=>aC (sq (fun _ a9=>sq (fun _ bb=> ?_)))))))
 have c8:=di ai
 have Z:(fun w'=>Wk av w') av.drew:=(Md.refl _ _).drew
 refine bS (fun w'=>Wk av w') U wide Z (bH 0 U (.slice c n j) Z (bH 1 U (ae q) Z (aT 2 U (fun _ _=>aQ ba U U aa (aw.ok ((aJ ai).2) (bh aa))) Z (aT 3 U (fun w' C=>ld bq U (bJ (i:=q) ((aJ ai).2.wk C) aa)) Z (bH 4 U (.slice c n j) Z (bH 5 U (ae q) Z (aT 6 U (fun _ _=>bZ ((q - 1:Nat):Int) U U (aU aa aa)) Z (aT 7 U (fun _ _=>aQ ba U U aa (aw.ok ((aJ ai).2) (bh aa))) Z (aT 8 U (fun w' C=>ld bq U (bJ (i:=q - 1) ((aJ ai).2.wk C) aa)) Z (he 9 U ab (cl gR (gZ M[q]! M[q - 1]! _) U fun db aS ce=> ?_)))))))))))
 obtain ⟨rfl,bX⟩:=ce
 have aG:(fun w'=>Wk av w') aS:=Md.trans Z bX
 refine ⟨aG,?_⟩
 refine aT 10 U (fun _ _=>no U) aG (hn ab (tn (bb _ _ (cb U (fun bo=> ?_) (fun bo=> ?_)))))
 exact ext (te _ (jo ao (te _ (te _ (be (bn (tn (aP _ _ (rg U (aj (ae s) (p (bm ((s+1:Nat):Int) U U (aU aa aa)) (au (((⟨_,aa,s+1,i2,M,aa,((by rw [← aK,rG (show 0 < 5 - s by omega) aR bg aa bu (show M=_ by rw [if_pos aa,← bx,xE (.inr (by simpa using bo))])]; rfl)),(aE ai aG),(Md.trans bl (aG.mono (fun _ _ h=>h.elim))),U,U,U,U,U,U⟩)))))))))))))))
 refine aH (tn (a9 _ _ ?_))
 have an:=aE ai aG
 have J:(fun w'=>Wk aS w') aS.drew:=(Md.refl _ _).drew
 refine dy (fun w'=>Wk aS w') 15 U wide J (aV 0 U (.slice c n j) J (aV 1 U (ae q) J (aV 2 U (.slice c n j) J (aV 3 U (ae q) J (bc 4 U (fun _=>bZ ((q - 1:Nat):Int) U U (aU aa aa)) (fun _=>J) (aV 5 U (.slice c n j) J (aV 6 U (ae q) J (bc 7 U (fun _=>bZ ((q - 1:Nat):Int) U U (aU aa aa)) (fun _=>J) (bc 8 U (fun _=>aQ ba U U aa (aw.ok ((aJ an).2) (bh aa))) (fun _=>J) (cY 9 U (fun w' C=>ld bq U (bJ (i:=q - 1) ((aJ an).2.wk C) aa)) J (aV 10 U (.slice c n j) J (aV 11 U (ae q) J (bc 12 U (fun _=>aQ ba U U aa (aw.ok ((aJ an).2) (bh aa))) (fun _=>J) (cY 13 U (fun w' C=>ld bq U (bJ (i:=q) ((aJ an).2.wk C) aa)) J (bc 14 U (fun _=>aQ ba U U aa (aw.ok ((aJ an).2) (bh aa))) (fun _=>J) ?_)))))))))))))))
 refine bV 15 U ab ab (dJ (u:=M[q - 1]!) (q) (aE an J) dE U U U aa fun df b7 cw=>bc 16 U (fun _=>aQ ba U U aa (aw.ok ((aJ an).2) (bh aa))) (fun h=>Bool.noConfusion ((show true =_ from by kernel_rfl).trans h)) (bV 17 U ab ab (dJ (u:=M[q]!) (q - 1) cw dE U U U aa fun bN b8 cx=> ?_)))
 have cc:bN.ownsRow B 71 1 (.slice c n j) n (LE aI (Go.Sort.swp M (q) (q - 1))):=cx
 have b6:Md (fun q=>(Value.slice c n j).ownBlock=some q) aS bN:=Md.trans (J.mono (fun _ _ h=>h.elim)) (Md.trans b7 b8)
 exact dx ab (bn (tn (a8 _ _ (rg U (aj (ae q) (p (bm ((q+1:Nat):Int) U U (aU aa aa)) (p aA (nl (tn (⟨_,aa,q+1,Go.Sort.swp M q (q - 1),aa,((by rw [← bx,Hl (show q < b by omega) (by simpa using bo)])),cc,(Md.trans bl (Md.trans (aG.mono (fun _ _ h=>h.elim)) b6)),U,U,U,U,U,U,U⟩))))))))))
 exact ext (te _ (te _ (be (bn (tn (aP _ _ (rg U (aj (ae s) (p (bm ((s+1:Nat):Int) U U (aU aa aa)) (au (((⟨_,aa,s+1,i2,M,aa,((by rw [← aK,rG (show 0 < 5 - s by omega) aR bg aa bu (show M=_ by rw [if_pos aa,← bx,xE (.inl aa)])]; rfl)),ai,bl,U,U,U,U,U,U⟩)))))))))))))
 exact aH (bn (tn (aP _ _ (rg U (aj (ae s) (p (bm ((s+1:Nat):Int) U U (aU aa aa)) (p aA (nl (tn (⟨_,aa,s+1,i2,al,aa,((by rw [← aK,rG (show 0 < 5 - s by omega) aR bg aa bu (show al=_ by rw [if_neg aa])]; rfl)),bG,bD,U,U,U,U,U,U⟩))))))))))
 refine ext (te _ (te _ (be (tn (bR _ _ (ag (fun _ aP=>(p aA (az ((aP _ _ (rt (f1 U U ?_)))))))))))))
 have ak:(Go.Sort.partialInsertionSort bd d a b)=(E,false):=by rw [← aK,show 5 - s=0 by omega]; rfl
 exact ⟨by rw [ak]; rfl,by rw [ak]; exact bF,bB⟩
end Go.Hb.sv
end
section
set_option maxRecDepth 20000
set_option maxHeartbeats 1000000
namespace Go.Hb.pM
open Go.Hb.c6
open Go.Proofs
open Go.Hb.kV Go.Hb.su Go.Hb.sv Go.Hb.nP
theorem FO (d:Array Nat) (a b j:Nat) (B n i:Nat) (c:Option Addr) (w:World) (s:w.ownsRow B 71 1 (.slice c n i) n (LE aI d)) (A:a≤j∧j < b∧b≤n) (C:n≤1099511627776):a3 Tryz.prog 164 (List.toArray [.slice c n i,.int .i64 (a:Nat),.int .i64 (b:Nat),.int .i64 (j:Nat)]) w
 (fun v w'=> ∃ p ap d4,Go.Sort.partition bd d a b j=(p,ap,d4)∧v= .tuple #[.int .i64 (p:Nat),.bool ap]∧w'.ownsRow B 71 1 (.slice c n i) n (LE aI d4)∧Md (fun q=>(Value.slice c n i).ownBlock=some q) w w'):=
 (FN d a b j B n i c w s A C).mono fun _ _ h=>⟨_,_,_,rfl,h⟩
theorem FQ (d:Array Nat) (a b j:Nat) (B n i:Nat) (c:Option Addr) (w:World) (s:w.ownsRow B 71 1 (.slice c n i) n (LE aI d)) (A:a≤j∧j < b∧b≤n) (C:n≤1099511627776):a3 Tryz.prog 163 (List.toArray [.slice c n i,.int .i64 (a:Nat),.int .i64 (b:Nat),.int .i64 (j:Nat)]) w
 (fun v w'=> ∃ p d4,Go.Sort.partitionEqual bd d a b j=(p,d4)∧v= .int .i64 (p:Nat)∧w'.ownsRow B 71 1 (.slice c n i) n (LE aI d4)∧Md (fun q=>(Value.slice c n i).ownBlock=some q) w w'):=
 (FP d a b j B n i c w s A C).mono fun _ _ h=>⟨_,_,rfl,h⟩
theorem FR (m:Nat) (d:Array Nat) (a b ad:Nat) (B n A:Nat) (s:Option Addr) (w:World) (bw:w.ownsRow B 71 1 (.slice s n A) n (LE aI d)) (hm:b - a < m) (dl:a≤b∧b≤n) (cD:n≤255) (ds:ad≤64) (bT:Go.Sort.Below bd a b d):
 a3 Tryz.prog 138 (List.toArray [.slice s n A,ae a,ae b,ae ad]) w (fun v w'=> ∃ d1,v= .tuple #[]∧Go.Sort.PermIn a b d d1∧Go.Sort.SortedIn bd a b d1∧w'.ownsRow B 71 1 (.slice s n A) n (LE aI d1)∧Md (fun q=>(Value.slice s n A).ownBlock=some q) w w'):=by
 have bG:True:=trivial
 induction m generalizing d a b ad w with
 | zero=>omega
 | succ m bG=>
   have bF:∀ (d:Array Nat) (a b ad:Nat) (w:World),w.ownsRow B 71 1 (.slice s n A) n (LE aI d)→b - a < m→(a≤b∧b≤n)→ad≤64→Go.Sort.Below bd a b d→_:=fun d a b ad w h1 h2 h3 h4 h5=>bG d a b ad w h1 h2 h3 h4 h5
   have dr:=di bw
   refine enter Tryz.func138 U Tryz.ntmps138 U (ag (fun _ bK=>(au (((bK _ _ (ag (fun _ bN=>(p aA (az ((bN _ _ (aC (lp (fun bo an bl=> ∃ (c j ah:Nat) (O wp:Bool) (E:Array Nat),(a≤c∧c≤j∧j≤b∧ah≤64)∧(Go.Sort.Below bd c j E)∧(∀ R,Go.Sort.PermIn c j E R→Go.Sort.SortedIn bd c j R→Go.Sort.PermIn a b d R∧Go.Sort.SortedIn bd a b R)∧(bl.ownsRow B 71 1 (.slice s n A) n (LE aI E))∧(Md (fun q=>(Value.slice s n A).ownBlock=some q) w bl)∧(an 0= .slice s n A)∧(an 1=ae c)∧(an 2=ae j)∧(an 3=ae ah)∧(an 8= .bool O)∧(an 9= .bool wp)∧(j - c=bo)) _ ⟨a,b,ad,true,true,d,aa,bT,(fun R h1 h2=>⟨h1,h2⟩),bw,(Md.refl _ _),U,U,U,U,U,U,U⟩ ?_))))))))))))))
   rintro bo an bl ⟨c,j,ah,O,wp,E,dv,aV,ao,aD,aM,cF,cG,cH,cI,cJ,cK,rfl⟩
   refine fx 0 cF (fx 1 cG (fx 2 cH (fx 3 cI (fx 8 cJ (fx 9 cK ?_)))))
   have dq:=di aD
   refine aC (ag (fun _ bO=>(aj (ae j) (aj (ae c) (p (bZ ((j - c:Nat):Int) U U (aU aa aa)) (p aA (nl (tn (bO _ _ (sq (fun _ bP=>ag (fun _ bQ=>(p mv (p (le U U) (az ((bQ _ _ (cd U (fun cp=> ?_) (fun cp=> ?_)))))))))))))))))))
   refine ag (fun _ aS=>(aj (.slice s n A) (aj (ae c) (aj (ae j) (e (cl zB (D1 E c j B n A s _ aD aa aa) U fun dy dK cc=> ?_))))))
   obtain ⟨rfl,b3,bW⟩:=cc
   refine az ((aS _ _ (rt (tr (br (tr (br (oA U ?_))))))))
   obtain ⟨h1,h2⟩:=Go.Sort.insertionSort_holds m7 E c j aa aa
   obtain ⟨aK,aL⟩:=ao _ (h1) (h2)
   exact ⟨_,U,aK,aL,b3,Md.trans aM bW⟩
   refine aH (tn (bP _ _ (sq (fun _ aS=>ag (fun _ bR=>(aj (ae ah) (p (bp U U) (nl (tn (bR _ _ (cd U (fun cq=> ?_) (fun cq=> ?_))))))))))))
   refine ag (fun _ av=>(aj (.slice s n A) (aj (ae c) (aj (ae j) (e (cl zC (DK E c j B n A s _ aD aa aa) U fun dz dL ce=> ?_))))))
   obtain ⟨rfl,b4,bX⟩:=ce
   refine az ((av _ _ (rt (tr (br (tr (br (oA U ?_))))))))
   obtain ⟨h1,h2⟩:=Go.Sort.heapSort_holds m7 E c j aa aa
   obtain ⟨aK,aL⟩:=ao _ (h1) (h2)
   exact ⟨_,U,aK,aL,b4,Md.trans aM bX⟩
   refine aH (tn (aS _ _ ?_))
   refine dA (fun ai bg=> ∃ (G:Nat) (d1:Array Nat),(G≤64)∧(Go.Sort.PermIn c j E d1)∧(bg.ownsRow B 71 1 (.slice s n A) n (LE aI d1))∧(Md (fun q=>(Value.slice s n A).ownBlock=some q) w bg)∧(ai 0= .slice s n A)∧(ai 1=ae c)∧(ai 2=ae j)∧(ai 3=ae G)∧(ai 8= .bool O)∧(ai 9= .bool wp)∧(ai 10=ae (j - c))) ?_ ?_
   refine ag (fun _ av=>(aj (.bool O) (p (no U) (az ((av _ _ (cb U (fun cr=> ?_) (fun cr=> ?_))))))))
   refine ag (fun _ J=>(aj (.slice s n A) (aj (ae c) (aj (ae j) (e (cl zD (y4 E c j B n A s _ aD aa cD) U fun dB dM cg=> ?_))))))
   obtain ⟨d1,rfl,cE,b5,bY⟩:=cg
   exact az ((J _ _ (rg U (aj (ae ah) (p (bZ ((ah - 1:Nat):Int) U U (aU aa aa)) (p aA (nl (tn (⟨ah - 1,d1,aa,cE,b5,(Md.trans aM bY),U,U,U,U,U,U,U⟩)))))))))
   exact aH (tn (⟨ah,E,aa,(Go.Sort.permIn_refl E c j),aD,aM,U,U,U,U,U,U,U⟩))
   rintro ai bg ⟨G,d1,dt,bD,b8,b2,cL,cM,cO,cP,cQ,cR,cN⟩
   refine fx 0 cL (fx 1 cM (fx 2 cO (fx 3 cP (fx 8 cQ (fx 9 cR (fx 10 cN (ag (fun _ av=>(aj (.slice s n A) (aj (ae c) (aj (ae j) (e (cl zE (Aw d1 c j B n A s _ b8 aa aa) U fun dC dN ch=> ?_)))))))))))))
   obtain ⟨aO,dj,rfl,du,a0,bU⟩:=ch
   have bs:=Md.trans b2 (bU.mono (fun _ _ h=>h.elim))
   refine p mv (p (xt U U) (p (xt U U) (p aA (au (((av _ _ ?_)))))))
   refine dA (fun V bi=> ∃ (I:Nat) (bc:Int) (d2:Array Nat),(c≤I∧I < j)∧(Go.Sort.PermIn c j E d2)∧(bi.ownsRow B 71 1 (.slice s n A) n (LE aI d2))∧(Md (fun q=>(Value.slice s n A).ownBlock=some q) w bi)∧(V 0= .slice s n A)∧(V 1=ae c)∧(V 2=ae j)∧(V 3=ae G)∧(V 8= .bool O)∧(V 9= .bool wp)∧(V 10=ae (j - c))∧(V 11=ae I)∧(V 12= .int .i64 bc)) ?_ ?_
   refine ag (fun _ J=>(p mv (p (bp U U) (az ((J _ _ (cd U (fun cs=> ?_) (fun cs=> ?_))))))))
   refine ag (fun _ ak=>(aj (.slice s n A) (aj (ae c) (aj (ae j) (e (cl zH (Gw d1 c j B n A s _ a0 aa aa) U fun dD dO ci=> ?_))))))
   obtain ⟨rfl,b6,b0⟩:=ci
   have dm:=di a0
   exact az ((ak _ _ (ag (fun _ ar=>(aj (ae j) (p (bZ ((j - 1:Nat):Int) U U (aU aa aa)) (p mv (aj (ae c) (p (bZ ((aO - c:Nat):Int) U U (aU aa aa)) (p (bZ ((j - 1 - (aO - c):Nat):Int) U U (aU aa aa)) (au (((ar _ _ (rg U (p aA (nl (tn (⟨j - 1 - (aO - c),1,Go.Sort.reverseRange d1 c j,aa,(Go.Sort.permIn_trans _ _ _ c j bD (Go.Sort.reverseRange_holds d1 c j aa aa)),b6,(Md.trans bs b0),U,U,U,U,U,U,U,U,U⟩)))))))))))))))))))
   exact aH (tn (⟨aO,dj,d1,aa,bD,a0,bs,U,U,U,U,U,U,U,U,U⟩))
   rintro V bi ⟨I,bc,d2,aN,aq,aF,ay,cS,cT,cX,cY,cZ,c0,cU,cV,cW⟩
   refine fx 0 cS (fx 1 cT (fx 2 cX (fx 3 cY (fx 8 cZ (fx 9 c0 (fx 10 cU (fx 11 cV (fx 12 cW ?_))))))))
   refine dA (fun Y am=> ∃ (d3:Array Nat),(Go.Sort.PermIn c j E d3)∧(am.ownsRow B 71 1 (.slice s n A) n (LE aI d3))∧(Md (fun q=>(Value.slice s n A).ownBlock=some q) w am)∧(Y 0= .slice s n A)∧(Y 1=ae c)∧(Y 2=ae j)∧(Y 3=ae G)∧(Y 8= .bool O)∧(Y 9= .bool wp)∧(Y 10=ae (j - c))∧(Y 11=ae I)) ?_ ?_
   refine ag (fun _ J=>(aj (.bool O) (aj (.bool O) (gb (t:=62) U (fun cv=> ?_) (fun cv=> ?_)))))
   refine pg U U U (aB (.bool wp) U) (p (bE U) (p mv (gb (t:=65) U (fun cw=> ?_) (fun cw=> ?_))))
   refine pg U U U (aB (.int .i64 bc) U) (pg U U U (bp U U) (p (bE U) (az ((J _ _ (cd U (fun ct=> ?_) (fun ct=> ?_)))))))
   refine ag (fun _ ak=>(aj (.slice s n A) (aj (ae c) (aj (ae j) (e (cl zI (F5 d2 c j B n A s _ aF aa aa) U fun dE dP cj=> ?_))))))
   obtain ⟨rfl,bx,bt⟩:=cj
   have dn:=di aF
   obtain ⟨bC,cy⟩:=Go.Sort.partialInsertionSort_holds m7 d2 c j aa aa (Go.Sort.Below.perm aV aa aq)
   refine az ((ak _ _ (cb U (fun bA=> ?_) (fun bA=> ?_))))
   have dh:=cy bA
   refine rt (tr (br (tr (br (oA U ?_)))))
   obtain ⟨aK,aL⟩:=ao _ (Go.Sort.permIn_trans _ _ _ c j aq bC) (dh)
   exact ⟨_,U,aK,aL,bx,Md.trans ay bt⟩
   exact aH (tn (⟨_,(Go.Sort.permIn_trans _ _ _ c j aq bC),bx,(Md.trans ay bt),U,U,U,U,U,U,U,U⟩))
   exact aH (tn (⟨d2,aq,aF,ay,U,U,U,U,U,U,U,U⟩))
   exact sk U U U U (sk U U U U (p (bj U) (az ((J _ _ (cf U (aH (tn (⟨d2,aq,aF,ay,U,U,U,U,U,U,U,U⟩)))))))))
   exact sk U U U U (p (bj U) (p mv (sk U U U U (sk U U U U (p (bj U) (az ((J _ _ (cf U (aH (tn (⟨d2,aq,aF,ay,U,U,U,U,U,U,U,U⟩))))))))))))
   rintro Y am ⟨d3,aG,ac,aY,c1,c2,c5,c6,c7,c8,c3,c4⟩
   refine fx 0 c1 (fx 1 c2 (fx 2 c5 (fx 3 c6 (fx 8 c7 (fx 9 c8 (fx 10 c3 (fx 11 c4 ?_)))))))
   refine dA (fun Z bk=>(bk.ownsRow B 71 1 (.slice s n A) n (LE aI d3))∧(Md (fun q=>(Value.slice s n A).ownBlock=some q) w bk)∧(Z 0= .slice s n A)∧(Z 1=ae c)∧(Z 2=ae j)∧(Z 3=ae G)∧(Z 8= .bool O)∧(Z 9= .bool wp)∧(Z 10=ae (j - c))∧(Z 11=ae I)) ?_ ?_
   refine sq (fun _ J=> ?_)
   have cu:=di ac
   have C:(fun w'=>Wk am w') am.drew:=(Md.refl _ _).drew
   refine bS (fun w'=>Wk am w') U wide C (bH 0 U (ae c) C (aT 1 U (fun _ _=>gt U U) C (aT 2 U (fun _ _=>mv) C (gI (t:=75) U (fun cx=> ?_) (fun cx=> ?_)))))
   refine aW 3 U ab U U U (fun _ _=>aB (.slice s n A) U) C (aW 4 U ab U U U (fun _ _=>aB (ae c) U) C (aW 5 U ab U U U (fun _ _=>bZ ((c - 1:Nat):Int) U U (aU aa aa)) C (aW 6 U ab U U U (fun _ _=>aQ ba U U aa (aw.ok ((aJ ac).2) (bh aa))) C (aW 7 U ab U U U (fun w' a4=>ld bq U (bJ (i:=c - 1) ((aJ ac).2.wk a4) aa)) C (aW 8 U ab U U U (fun _ _=>aB (.slice s n A) U) C (aW 9 U ab U U U (fun _ _=>aB (ae I) U) C (aW 10 U ab U U U (fun _ _=>aQ ba U U aa (aw.ok ((aJ ac).2) (bh aa))) C (aW 11 U ab U U U (fun w' a4=>ld bq U (bJ (i:=I) ((aJ ac).2.wk a4) aa)) C (gW 12 U ab U U U (cl gR (gZ d3[c - 1]! d3[I]! _) U fun dF dk ck=> ?_))))))))))
   obtain ⟨rfl,bV⟩:=ck
   have al:(fun w'=>Wk am w') dk:=Md.trans C bV
   refine ⟨al,?_⟩
   refine aW 13 U ab U U U (fun _ _=>no U) al (aT 14 U (fun _ _=>bE U) al (hn ab (tn (J _ _ (cb U (fun bB=> ?_) (fun bB=> ?_))))))
   refine ag (fun _ ak=>(aj (.slice s n A) (aj (ae c) (aj (ae j) (aj (ae I) (e (cl zJ (FQ d3 c j I B n A s _ (aE ac al) aa aa) U fun dG dQ cm=> ?_)))))))
   obtain ⟨M,d4,bf,rfl,b7,b1⟩:=cm
   obtain ⟨bH,cz,cA,a7,a8⟩:=Go.Sort.round_eq m7 (Go.Sort.partitionEqual_holds bd) (show 0 < c by omega) aN.1 aN.2 aa (Go.Sort.Below.perm aV aa aG) (by simpa using bB) bf
   exact au (((ak _ _ (ag (fun _ ar=>(p mv (p aA (nl (tn (ar _ _ (ext (te _ (be (tn (⟨_,aa,M,j,G,O,wp,d4,aa,a7,((fun R h1 h2=>by obtain ⟨h3,h4⟩:=a8 R h1 h2; exact ao R (Go.Sort.permIn_trans _ _ _ c j aG h3) h4)),b7,(Md.trans aY (Md.trans (al.mono (fun _ _ h=>h.elim)) b1)),U,U,U,U,U,U,U⟩)))))))))))))))
   exact aH (tn (⟨(aE ac al),(Md.trans aY (al.mono (fun _ _ h=>h.elim))),U,U,U,U,U,U,U,U⟩))
   exact aX 3 U ab U U U U C (aX 4 U ab U U U U C (aX 5 U ab U U U U C (aX 6 U ab U U U U C (aX 7 U ab U U U U C (aX 8 U ab U U U U C (aX 9 U ab U U U U C (aX 10 U ab U U U U C (aX 11 U ab U U U U C (aX 12 U ab U U U U C (aX 13 U ab U U U U C (aT 14 U (fun _ _=>bj U) C (hn ab (tn (J _ _ (cf U (aH (tn (⟨(aE ac (Md.refl _ _).drew),aY.drew,U,U,U,U,U,U,U,U⟩))))))))))))))))))
   rintro Z bk ⟨bz,bv,c9,da,dd,de,df,dg,db,dc⟩
   refine fx 0 c9 (fx 1 da (fx 2 dd (fx 3 de (fx 8 df (fx 9 dg (fx 10 db (fx 11 dc (ag (fun _ J=>(aj (.slice s n A) (aj (ae c) (aj (ae j) (aj (ae I) (e (cl zK (FO d3 c j I B n A s _ bz aa aa) U fun dH bI cn=> ?_)))))))))))))))
   obtain ⟨M,ap,d4,bf,rfl,a1,bu⟩:=cn
   have cu:=di bz
   have dp:=di a1
   obtain ⟨bH,cz,cA,a7,a8,cB,cC⟩:=Go.Sort.round_part m7 (Go.Sort.partition_holds bd) aN.1 aN.2 aa (Go.Sort.Below.perm aV aa aG) bf
   refine p mv (p (xt U U) (p (xt U U) (p aA (au (((J _ _ (sq (fun _ ak=>rg U (p mv (au (((ak _ _ (ag (fun _ ar=>(p mv (aj (ae c) (p (bZ ((M - c:Nat):Int) U U (aU aa aa)) (aj (ae j) (p mv (p (bZ ((j - M:Nat):Int) U U (aU aa aa)) (p aA (p aA (nl (tn (ar _ _ (ag (fun _ bL=>(aj (ae (j - c)) (p (kj (((j - c) / 8:Nat):Int) U U aa (aU aa aa)) (au (((bL _ _ (ag (fun _ bM=>(p mv (p mv (p (lt U U) (az ((bM _ _ (cd U (fun co=> ?_) (fun co=> ?_)))))))))))))))))))))))))))))))))))))))))))))
   refine ag (fun _ aP=>(p mv (p mv (p (ge U U) (au (((aP _ _ (ag (fun _ aR=>(aj (.slice s n A) (aj (ae c) (p mv (aj (ae G) (e (cl p5 (bF d4 c M G bI a1 aa aa aa a7) U fun dw dI b9=> ?_))))))))))))))))
   obtain ⟨ax,rfl,a9,bb,a2,aZ⟩:=b9
   obtain ⟨a5,a6⟩:=cB ax a9 bb
   exact az ((aR _ _ (rg U (p mv (p (bm ((M+1:Nat):Int) U U (aU aa aa)) (p aA (nl (bn (tn (⟨_,aa,M+1,j,G,decide (((M - c:Nat):Int)≥(((j - c) / 8:Nat):Int)),ap,ax,aa,a5,((fun R h1 h2=>by obtain ⟨h3,h4⟩:=a6 R h1 h2; exact ao R (Go.Sort.permIn_trans _ _ _ c j aG h3) h4)),a2,(Md.trans bv (Md.trans bu aZ)),U,U,U,U,U,U,U⟩))))))))))
   refine ag (fun _ aP=>(p mv (p mv (p (ge U U) (au (((aP _ _ (ag (fun _ aR=>(aj (.slice s n A) (p mv (p (bm ((M+1:Nat):Int) U U (aU aa aa)) (aj (ae j) (aj (ae G) (e (cl p5 (bF d4 (M+1) j G bI a1 aa aa aa a8) U fun dx dJ ca=> ?_)))))))))))))))))
   obtain ⟨ax,rfl,a9,bb,a2,aZ⟩:=ca
   obtain ⟨a5,a6⟩:=cC ax a9 bb
   exact az ((aR _ _ (rg U (p mv (p aA (nl (bn (tn (⟨_,aa,c,M,G,decide (((j - M:Nat):Int)≥(((j - c) / 8:Nat):Int)),ap,ax,aa,a5,((fun R h1 h2=>by obtain ⟨h3,h4⟩:=a6 R h1 h2; exact ao R (Go.Sort.permIn_trans _ _ _ c j aG h3) h4)),a2,(Md.trans bv (Md.trans bu aZ)),U,U,U,U,U,U,U⟩)))))))))
theorem G4 (d:Array Nat) (B n c:Nat) (a:Option Addr) (w:World) (s:w.ownsRow B 71 1 (.slice a n c) n (LE aI d)) (E:n≤255):
 a3 Tryz.prog 122 (List.toArray [.slice a n c]) w (fun v w'=> ∃ d1,v= .tuple #[]∧Go.Sort.PermIn 0 n d d1∧Go.Sort.SortedIn bd 0 n d1∧w'.ownsRow B 71 1 (.slice a n c) n (LE aI d1)∧Md (fun q=>(Value.slice a n c).ownBlock=some q) w w'):=by
 refine enter Tryz.func122 U Tryz.ntmps122 U (ag (fun _ j=>(aj (.slice a n c) (p (bo iF U U) (au (((j _ _ (rg U (aj (.slice a n c) (p mv (p mv (p (jb xP lz U (jT aa)) (e (cl tc (vO n _ aa) U fun v9 J C=> ?_)))))))))))))))
 obtain ⟨rfl,i⟩:=C
 have G:=oO (n:=n) aa
 refine e (cl p5 (FR (n+1) d 0 n (gk n) B n c a _ (aE s i) aa aa E aa (.inl U)) U fun v10 I A=> ?_)
 obtain ⟨d1,rfl,h1,h2,h3,h4⟩:=A
 exact nl (f0 U (⟨d1,U,h1,h2,h3,Md.trans (i.mono (fun _ _ h=>h.elim)) h4⟩))
end Go.Hb.pM
end
section
set_option maxRecDepth 20000
set_option maxHeartbeats 1000000
namespace Go.Hb.gu
open Go.Hb.c6
open Go.Proofs
open Go.Hb.iG Go.Hb.gG Go.Hb.kV Go.Hb.nP Go.Hb.pM
theorem mg {w:World} {B e n c i:Nat} {a:Option Addr} {d:Array Nat} (h:w.ownsRow B e 1 (.slice a n c) n (LE aI d)):aw w.heap (dz a c i 1) ((LE aI d).drop i):=by
 have :=(aJ h).2.drop (cap:=c) (k:=i) (size:=1) (by rw [m6]; have h1:=di h; have h2:=(aJ h).1; omega)
 rwa [Nat.mul_one] at this
theorem ER (l:List Nat):l.map aI=LE aI l.toArray:=by simp [LE]
theorem nZ (l:List Nat):(l.map aI).all Value.oneCell'=true :=by
 rw [List.all_eq_true]; intro v a; obtain ⟨x,_,rfl⟩:=List.mem_map.1 a; rfl
theorem Hw (d:Array Nat) (k:Nat):(LE aI d).take k=(d.toList.take k).map aI:=by simp [LE,List.map_take]
theorem nq (b:UInt8):eS b=decide ((b.toNat:Int) > 32∧(b.toNat:Int) < 127∧(b.toNat:Int)≠47∧(b.toNat:Int)≠44∧(b.toNat:Int)≠35):=by
 unfold eS; exact decide_eq_decide.2 aa
theorem FJ {w:World} {B e size n c:Nat} {a:Option Addr} {xs:List Value} (h:w.ownsRow B e size (.slice a n c) n xs) (hn:0 < n):a≠none:=by
 rintro rfl
 rcases h.2 with ⟨_,h5⟩ | ⟨g,cap,cur,h4,_⟩
 · omega
 · simp at h4
theorem oc (a:Option Addr) (n c:Nat) (xs:List Value) (w:World) (I:aw w.heap a xs) (ab:xs.length=n*1) (O:a=none→n=0) (h1:xs.all Value.oneCell'=true) (hn:n≤1048576):
 a3 Tryz.prog 49 (List.toArray [.slice a n c]) w (fun v w'=>World.ownsRow w' w.heap.size 71 1 v n xs∧Wk w w'):=by
 refine enter Tryz.func49 U Tryz.ntmps49 U (ag (fun _ A=>(au (((A _ _ (sq (fun _ C=>ag (fun _ E=>aj (.slice a n c) (p (lR iF U U) (az ((E _ _ (cb U (fun q=> ?_) (fun q=> ?_)))))))))))))))
 have V:a=none:=by simpa using q
 refine ag (fun _ i=>(au (((i _ _ (rt (tr (f1 U U ?_))))))))
 have Y:=O V
 subst Y
 obtain rfl :=List.eq_nil_of_length_eq_zero (show xs.length=0 by omega)
 exact ⟨World.ownsRow_nil _ _ _ _,Md.refl _ _⟩
 refine aH (tn (C _ _ (ag (fun _ i=>(e (jq pj fun ah am ai j G=> ?_))))))
 have s:=G w.heap.size aa
 refine aj (.slice a n c) (e (ap pj (s) U (by have :=j.size; omega) U (I.wk j.md) (ab) (h1) aa aa fun ad ae Z M al ak=> ?_))
 have J:=Wk.own j.md s M (Nat.le_refl _)
 refine au (((i _ _ (rt (f1 U U ?_)))))
 have ac:World.ownsRow ae w.heap.size 71 1 ad n xs:=by simpa using Z
 exact ⟨ac,J⟩
theorem A5 (d:Array Nat) (B n a:Nat) (c:Option Addr) (w:World) (E:w.ownsRow B 71 1 (.slice c n a) n (LE aI d)) (bt:n≤1048576):
 a3 Tryz.prog 123 (List.toArray [.slice c n a]) w (fun v w'=> ∃ k,v= .slice c k a∧k=(ee d.toList).length∧World.ownsRow w' B 71 1 (.slice c k a) k ((ee d.toList).map aI)∧Md (fun q=>(Value.slice c n a).ownBlock=some q) w w'):=by
 have bs:=di E
 have bk:=(aJ E).1
 refine enter Tryz.func123 U Tryz.ntmps123 U (ag (fun _ aB=>(au (((aB _ _ (sq (fun _ aO=>ag (fun _ aP=>aj (.slice c n a) (p (bo iF U U) (p (lt U U) (az ((aP _ _ (cd U (fun a4=> ?_) (fun a4=> ?_))))))))))))))))
 refine ag (fun _ ao=>(aj (.slice c n a) (p (bG (.slice c n a) U) (az ((ao _ _ (rt (tr (f1 U U ?_)))))))))
 have am:ee d.toList=d.toList:=by
  have av:d.toList.length < 2:=by rw [mi]; omega
  revert av
  generalize d.toList=l
  intro av
  match l,av with
  | [],_=>rfl
  | [x],_=>rfl
 exact ⟨n,U,by rw [am,mi]; omega,by rw [am]; exact E,Md.refl _ _⟩
 refine aH (tn (aO _ _ (sq (fun _ ao=>ag (fun _ aR=>(au (((aR _ _ (aC (lp (fun V ax ac=> ∃ (i:Nat),(1≤i∧i≤n∧2≤n)∧(ee (d.toList.take i)=d.toList.take i)∧(Wk w ac)∧(ax 0= .slice c n a)∧(ax 3=ae i)∧(n - i=V)) _ ⟨1,aa,((by have h1:=pB (d:=d) (i:=0) aa; rw [h1]; rfl)),(Md.refl _ _),U,U,U⟩ ?_)))))))))))
 rintro V ax ac ⟨i,hi,Y,I,bc,bd,rfl⟩
 refine fx 0 bc (fx 3 bd (sq (fun _ aS=>ag (fun _ aV=>(aj (ae i) (aj (.slice c n a) (p (bo iF U U) (p (lt U U) (az ((aV _ _ (cd U (fun aZ=> ?_) (fun aZ=> ?_)))))))))))))
 refine aH (tn (aS _ _ (sq (fun _ ap=>aC (sq (fun _ aW=> ?_))))))
 have A:(fun w'=>Wk ac w') ac.drew:=(Md.refl _ _).drew
 refine bS (fun w'=>Wk ac w') U wide A (bH 0 U (.slice c n a) A (bH 1 U (ae i) A (aT 2 U (fun _ _=>aQ ba U U aa (aw.ok ((aJ E).2) (bh aa))) A (aT 3 U (fun w' J=>ld bq U (Wk.aG J (bJ (i:=i) (aJ (aE E I)).2 aa))) A (bH 4 U (.slice c n a) A (bH 5 U (ae i) A (aT 6 U (fun _ _=>bZ ((i - 1:Nat):Int) U U (aU aa aa)) A (aT 7 U (fun _ _=>aQ ba U U aa (aw.ok ((aJ E).2) (bh aa))) A (aT 8 U (fun w' J=>ld bq U (Wk.aG J (bJ (i:=i - 1) (aJ (aE E I)).2 aa))) A (aT 9 U (fun _ _=>bp U U) A (hn ab (tn (aW _ _ (cd U (fun a0=> ?_) (fun a0=> ?_)))))))))))))))
 have heq:d[i - 1]! =d[i]! :=aa
 refine ag (fun _ aD=>(aj (.slice c n a) (aj (ae i) (p (me ba U U aa) (au (((aD _ _ (sq (fun _ aF=>ag (fun _ aK=>(au (((aK _ _ (aC (lp (fun V ah O=> ∃ (k i2:Nat) (C:Array Nat),(1≤k∧k < i+i2∧1≤i2∧i2≤n - i)∧(C.toList.drop k=d.toList.drop k)∧(C.toList.take k=ee (d.toList.take (i+i2)))∧(O.ownsRow B 71 1 (.slice c n a) n (LE aI C))∧(Md (fun q=>(Value.slice c n a).ownBlock=some q) w O)∧(ah 0= .slice c n a)∧(ah 3=ae k)∧(ah 4= .slice (dz c a i 1) (n - i) (a - i))∧(ah 5=ae i2)∧(n - i2=V)) _ ⟨i,1,d,aa,U,((by rw [oo aa aa,if_pos heq,Y])),(aE E (Md.trans I (Md.refl _ _).drew)),((Md.trans I (Md.refl _ _).drew).mono (fun _ _ h=>h.elim)),U,U,U,U,U⟩ ?_)))))))))))))))))
 rintro V ah O ⟨k,i2,C,hk,M,Z,G,ar,bf,bg,bi,bj,rfl⟩
 refine fx 0 bf (fx 3 bg (fx 4 bi (fx 5 bj ?_)))
 have bl:=di G
 refine sq (fun _ aL=>ag (fun _ aM=>(aj (ae i2) (aj (.slice (dz c a i 1) (n - i) (a - i)) (p (bo iF U U) (p (lt U U) (nl (tn (aM _ _ (cd U (fun a1=> ?_) (fun a1=> ?_)))))))))))
 refine aH (tn (aL _ _ (sq (fun _ ai=>aC (sq (fun _ an=> ?_))))))
 have s:(fun w'=>Wk O w') O.drew:=(Md.refl _ _).drew
 refine bS (fun w'=>Wk O w') U wide s (bH 0 U (.slice (dz c a i 1) (n - i) (a - i)) s (bH 1 U (ae i2) s (aT 2 U (fun _ _=>aQ ba U U aa (aw.ok (mg G) (q9 aa))) s (aT 3 U (fun w' J=>ld bq U (Wk.aG J (q8 (j:=i2) (mg G) aa))) s (bH 4 U (.slice (dz c a i 1) (n - i) (a - i)) s (bH 5 U (ae i2) s (aT 6 U (fun _ _=>bZ ((i2 - 1:Nat):Int) U U (aU aa aa)) s (aT 7 U (fun _ _=>aQ ba U U aa (aw.ok (mg G) (q9 aa))) s (aT 8 U (fun w' J=>ld bq U (Wk.aG J (q8 (j:=i2 - 1) (mg G) aa))) s (aT 9 U (fun _ _=>dF U U) s (hn ab (tn (an _ _ (cd U (fun a2=> ?_) (fun a2=> ?_)))))))))))))))
 have al:=aE G s
 have ak:=ow M (show k≤i+i2 by omega)
 have aq:=ow M (show k≤i+(i2 - 1) by omega)
 have a7:¬d[i+i2 - 1]! =d[i+i2]! :=by rw [show i+i2 - 1=i+(i2 - 1) by omega,← ak,← aq]; omega
 exact ag (fun _ aN=>(aj (.slice c n a) (aj (ae k) (aj (.slice (dz c a i 1) (n - i) (a - i)) (aj (ae i2) (p (aQ ba U U aa (aw.ok (mg al) (q9 aa))) (p (ld bq U (q8 (j:=i2) (mg al) aa)) (p (aQ ba U U aa (aw.ok ((aJ al).2) (bh aa))) (e (dJ (u:=C[i+i2]!) (k) al dE U U U aa fun bv aX a9=>az ((aN _ _ (rg U (aj (ae k) (p (bm ((k+1:Nat):Int) U U (aU aa aa)) (p aA (nl (bn (tn (ai _ _ (rg U (aj (ae i2) (p (bm ((i2+1:Nat):Int) U U (aU aa aa)) (p aA (nl (tn (⟨_,aa,k+1,i2+1,C.setIfInBounds k C[i+i2]!,aa,((by rw [set_drop aa]; have h3:=congrArg (List.drop 1) M; rwa [List.drop_drop,List.drop_drop] at h3)),((by rw [rR aa,Z,show i+(i2+1)=i+i2+1 from U,oo aa aa,if_neg a7,ak])),a9,(Md.trans ar (Md.trans (s.mono (fun _ _ h=>h.elim)) aX)),U,U,U,U,U⟩)))))))))))))))))))))))))))
 have ak:=ow M (show k≤i+i2 by omega)
 have aq:=ow M (show k≤i+(i2 - 1) by omega)
 have a5:d[i+i2 - 1]! =d[i+i2]! :=by rw [show i+i2 - 1=i+(i2 - 1) by omega,← ak,← aq]; omega
 exact aH (bn (tn (ai _ _ (rg U (aj (ae i2) (p (bm ((i2+1:Nat):Int) U U (aU aa aa)) (p aA (nl (tn (⟨_,aa,k,i2+1,C,aa,M,((by rw [Z,show i+(i2+1)=i+i2+1 from U,oo aa aa,if_pos a5])),(aE G (Md.refl _ _).drew),ar.drew,U,U,U,U,U⟩))))))))))
 refine ext (te _ (te _ (be (tn (aF _ _ (ag (fun _ ai=>(aj (.slice c n a) (aj (ae k) (p (me ba U U aa) (e (AT (k:=k) iF Iu U G U U aa fun bw aY bb=>az ((ai _ _ (ag (fun _ an=>(aj (.slice c n a) (aj (ae k) (p (nr ba U U aa) (au (((an _ _ (rt (br (tr (tr (br (tr (f1 U U ?_))))))))))))))))))))))))))))))
 have am:d.toList.take (i+i2)=d.toList:=List.take_of_length_le (by rw [mi]; omega)
 rw [am] at Z
 have a6:k=(ee d.toList).length:=by rw [← Z,List.length_take,mi]; omega
 refine ⟨k,U,a6,?_,Md.trans ar aY⟩
 have ay:=wP bb (show k≤n by omega) (FJ E aa)
 rw [Nat.mul_one,List.take_append,List.take_of_length_le (l:=(LE aI C).take k) (by rw [List.length_take]; omega),List.length_take,m6,show k - min k C.size=0 by omega,List.take_zero,List.append_nil,Hw,Z] at ay
 exact ay
 have a8:¬d[i - 1]! =d[i]! :=aa
 exact aH (bn (tn (ap _ _ (rg U (aj (ae i) (p (ad U U (bu aa)) (p aA (nl (tn (⟨_,aa,i+1,aa,((by rw [oo aa aa,if_neg a8,Y,pB aa])),(Md.trans I (Md.refl _ _).drew),U,U,U⟩))))))))))
 refine ext (te _ (te _ (be (tn (ao _ _ (ag (fun _ ap=>(aj (.slice c n a) (p (bG (.slice c n a) U) (az ((ap _ _ (rt (f1 U U ?_))))))))))))))
 rw [show d.toList.take i=d.toList from List.take_of_length_le (by rw [mi]; omega)] at Y
 exact ⟨n,U,by rw [Y,mi]; omega,by rw [Y]; exact aE E I,I.mono (fun _ _ h=>h.elim)⟩
theorem wv (l:List Nat) (a:Option Addr) (c:Nat) (w:World) (I:aw w.heap a (l.map aI)) (ac:a=none→l.length=0) (ad:l.length≤255):
 a3 Tryz.prog 104 (List.toArray [.slice a l.length c]) w (fun v w'=>World.ownsRow w' w.heap.size 71 1 v (gN l).length ((gN l).map aI)∧Wk w w'):=by
 refine enter Tryz.func104 U Tryz.ntmps104 U (ag (fun _ A=>(au (((A _ _ (ag (fun _ C=>(aj (.slice a l.length c) (e (cl n8 (oc a l.length c (l.map aI) _ I (by simp) ac (nZ l) aa) U fun ak am Y=> ?_)))))))))))
 obtain ⟨p,J⟩:=Y
 obtain ⟨i,j,rfl⟩:=cE p
 rw [ER] at p
 refine au (((C _ _ (ag (fun _ E=>(aj (.slice i l.length j) (e (cl zn (G4 l.toArray w.heap.size l.length j i _ p ad) U fun al an Z=> ?_))))))))
 obtain ⟨d1,rfl,ae,ah,q,O⟩:=Z
 refine az ((E _ _ (ag (fun _ G=>(aj (.slice i l.length j) (e (cl zo (A5 d1 w.heap.size l.length j i _ q aa) U fun v9 ai ab=> ?_)))))))
 obtain ⟨k,rfl,hk,s,V⟩:=ab
 have M:Wk w ai:=Wk.own (Wk.own J p O (Nat.le_refl _)) q V (Nat.le_refl _)
 refine au (((G _ _ (rt (f1 U U ?_)))))
 rw [G3 ae ah] at hk s
 exact ⟨by rw [← hk]; exact s,M⟩
theorem rS (b:UInt8) (w:World):
 a3 Tryz.prog 133 (List.toArray [.int .u8 b.toNat]) w (fun v w'=>v= .bool (eS b)∧Wk w w'):=by
 refine enter Tryz.func133 U Tryz.ntmps133 U (ag (fun _ c=>(au (((c _ _ (ag (fun _ a=>(aj (.int .u8 b.toNat) (p (gt U U) (p mv (gs (t:=5) U (fun q=> ?_) (fun q=> ?_)))))))))))))
 refine pg U U U (aB (.int .u8 b.toNat) U) (pg U U U (lt U U) (p (bE U) (p mv (gs (t:=9) U (fun s=> ?_) (fun s=> ?_)))))
 refine pg U U U (aB (.int .u8 b.toNat) U) (pg U U U (dF U U) (p (bE U) (p mv (gs (t:=13) U (fun i=> ?_) (fun i=> ?_)))))
 refine pg U U U (aB (.int .u8 b.toNat) U) (pg U U U (dF U U) (p (bE U) (p mv (gs (t:=17) U (fun j=> ?_) (fun j=> ?_)))))
 exact pg U U U (aB (.int .u8 b.toNat) U) (pg U U U (dF U U) (p (bE U) (au (((a _ _ (rt (f1 U U (⟨by show Value.bool (decide _)=_; rw [nq]; exact bv (by constructor <;> intro h <;> first | exact ⟨aa,aa,aa,aa,h⟩ | exact h.2.2.2.2),Md.refl _ _⟩)))))))))
 exact sk U U U U (sk U U U U (p (bj U) (au (((a _ _ (rt (f1 U U (⟨by show Value.bool false =_; rw [nq,decide_eq_false aa],Md.refl _ _⟩)))))))))
 exact sk U U U U (sk U U U U (p (bj U) (p mv (sk U U U U (sk U U U U (p (bj U) (p aA (az ((a _ _ (rt (f1 U U (⟨by show Value.bool false =_; rw [nq,decide_eq_false aa],Md.refl _ _⟩)))))))))))))
 exact sk U U U U (sk U U U U (p (bj U) (p mv (sk U U U U (sk U U U U (p (bj U) (p mv (sk U U U U (sk U U U U (p (bj U) (au (((a _ _ (rt (f1 U U (⟨by show Value.bool false =_; rw [nq,decide_eq_false aa],Md.refl _ _⟩)))))))))))))))))
 exact sk U U U U (sk U U U U (p (bj U) (p mv (sk U U U U (sk U U U U (p (bj U) (p mv (sk U U U U (sk U U U U (p (bj U) (p mv (sk U U U U (sk U U U U (p (bj U) (p aA (az ((a _ _ (rt (f1 U U (⟨by show Value.bool false =_; rw [nq,decide_eq_false aa],Md.refl _ _⟩)))))))))))))))))))))
theorem vI (k:Nat) (w:World):
 a3 Tryz.prog 117 (List.toArray [ae k]) w (fun v w'=>v= .bool (decide (1≤k∧k≤3))∧Wk w w'):=by
 refine enter Tryz.func117 U Tryz.ntmps117 U (ag (fun _ c=>(au (((c _ _ (ag (fun _ a=>(aj (ae k) (p (ge U U) (p mv (gs (t:=5) U (fun i=> ?_) (fun i=> ?_)))))))))))))
 exact pg U U U (aB (ae k) U) (pg U U U (le U U) (p (bE U) (au (((a _ _ (rt (f1 U U (⟨by show Value.bool (decide _)=_; exact bv aa,Md.refl _ _⟩)))))))))
 exact sk U U U U (sk U U U U (p (bj U) (au (((a _ _ (rt (f1 U U (⟨by show Value.bool false =_; rw [decide_eq_false aa],Md.refl _ _⟩)))))))))
end Go.Hb.gu
end
section
set_option maxRecDepth 20000
set_option maxHeartbeats 1000000
namespace Go.Hb.kS
open Go.Hb.c6
open Go.Proofs
open Go.Hb.iG Go.Hb.gG Go.Hb.kV Go.Hb.nP Go.Hb.pM Go.Hb.gu
theorem CR {kind:Nat} {s:List UInt8} (h:kind=1∧s.length=1∧eS (s.getD 0 0)=true):dd kind s=(s.getD 0 0).toNat:=by unfold dd; rw [if_pos h.1,if_pos h.2]
theorem CS {kind:Nat} {s:List UInt8} (h:kind=2∧s.length=2∧eS (s.getD 0 0)=true∧eS (s.getD 1 0)=true):dd kind s=256 *(s.getD 0 0).toNat+(s.getD 1 0).toNat:=by unfold dd; rw [if_neg aa,if_pos h.1,if_pos h.2]
theorem CT {kind:Nat} {s:List UInt8} (h:kind=3):dd kind s=(dI s 65535).1:=by unfold dd; rw [if_neg aa,if_neg aa]
theorem CQ {kind:Nat} {s:List UInt8} (h:kind=1∨kind=2) (h1:¬(kind=1∧s.length=1∧eS (s.getD 0 0)=true)) (h2:¬(kind=2∧s.length=2∧eS (s.getD 0 0)=true∧eS (s.getD 1 0)=true)):dd kind s=0:=by
 unfold dd
 rcases h with h | h
 · rw [if_pos h,if_neg (fun h3=>h1 ⟨h,h3⟩)]
 · rw [if_neg aa,if_pos h,if_neg (fun h3=>h2 ⟨h,h3⟩)]
theorem D5 {c:UInt8} {l:List UInt8} (h:0 < l.count c):¬cX c l < 0:=by
 intro h1
 exact vD h1 (List.idxOf_lt_length_iff.2 (List.count_pos_iff.1 h))
theorem Gp (n:Nat) (x:List UInt8):List.replicate n (str x)=(List.replicate n x).map str:=by rw [List.map_replicate]
theorem xq {a:List (List UInt8)} {m:Nat} {x:List UInt8} (h:0 < m):((a++List.replicate m []).map str).set a.length (str x)=((a++ [x])++List.replicate (m - 1) []).map str:=by
 obtain ⟨m,rfl⟩:∃ k,m=k+1:=⟨m - 1,aa⟩
 rw [← List.map_set,List.set_append_right _ _ (Nat.le_refl _),Nat.sub_self,List.replicate_succ,List.set_cons_zero,Nat.add_sub_cancel,List.append_assoc]; rfl
theorem CB {kind:Nat} {ps:List (List UInt8)} {i:Nat} (h:i < ps.length) (h1:¬∃ x∈ps.take i,dd kind x=0) (h2:dd kind (ps.getD i [])≠0):¬∃ x∈ps.take (i+1),dd kind x=0:=by
 rw [eT ps i [] h]
 rintro ⟨x,a,h3⟩
 rcases List.mem_append.1 a with a | a
 · exact h1 ⟨x,a,h3⟩
 · rw [List.mem_singleton] at a; subst a; exact h2 h3
theorem ve {α:Type} {l:List α} {i:Nat} {d:α} (h:i < l.length):l.getD i d∈l:=by
 rw [List.getD_eq_getElem?_getD,List.getElem?_eq_getElem h]; exact List.getElem_mem h
theorem uL (kind:Nat) (s:List UInt8) (w:World) (hk:kind=1∨kind=2∨kind=3) (hs:s.length≤1048576):
 a3 Tryz.prog 119 (List.toArray [ae kind,str s]) w (fun v w'=>v=aI (dd kind s)∧Wk w w'):=by
 refine enter Tryz.func119 U Tryz.ntmps119 U (ag (fun _ ai=>(au (((ai _ _ (sq (fun _ ak=>aC ?_))))))))
 refine dA (fun A ah=> ∃ (G:Bool),(G=decide (kind=1∧s.length=1∧eS (s.getD 0 0)=true))∧(Wk w ah)∧(A 0=ae kind)∧(A 1=str s)∧(A 7= .bool G)) ?_ ?_
 refine rg U (aj (ae kind) (p (bp U U) (p mv (gs (t:=10) U (fun az=> ?_) (fun az=> ?_)))))
 refine pg U U U (aB (str s) U) (pg U U U (cA u9 U U) (pg U U U (bp U U) (p (bE U) (p mv (gs (t:=15) U (fun aD=> ?_) (fun aD=> ?_))))))
 refine pg U U U (aB (str s) U) (pg U U U (gJ 0 u9 U U aa) (eg U U U (cl pZ (rS (s.getD 0 0) _) U fun aP aU ar=> ?_)))
 obtain ⟨rfl,an⟩:=ar
 exact p (bE U) (au (((⟨eS (s.getD 0 0),((by rw [Bool.eq_iff_iff,decide_eq_true_iff]; exact ⟨fun h=>⟨aa,aa,h⟩,fun h=>h.2.2⟩)),an,U,U,U⟩))))
 exact sk U U U U (sk U U U U (sk U U U U (p (bj U) (au (((⟨false,((decide_eq_false (fun h=>by omega)).symm),(Md.refl _ _),U,U,U⟩)))))))
 exact sk U U U U (sk U U U U (sk U U U U (p (bj U) (p mv (sk U U U U (sk U U U U (sk U U U U (p (bj U) (au (((⟨false,((decide_eq_false (fun h=>by omega)).symm),(Md.refl _ _),U,U,U⟩))))))))))))
 rintro A ah ⟨G,ac,c,aG,aJ,aK⟩
 refine fx 0 aG (fx 1 aJ (fx 7 aK (cb U (fun M=> ?_) (fun M=> ?_))))
 have O:kind=1∧s.length=1∧eS (s.getD 0 0)=true :=of_decide_eq_true (ac ▸ M)
 exact ag (fun _ i=>(aj (str s) (p (gJ 0 u9 U U aa) (p (jb pC nE U (mu (by have :=UInt8.toNat_lt (s.getD 0 0); omega))) (au (((i _ _ (rt (br (tr (f1 U U (⟨by rw [CR O]; rfl,c⟩)))))))))))))
 have O:¬(kind=1∧s.length=1∧eS (s.getD 0 0)=true):=of_decide_eq_false (ac ▸ M)
 refine dA (fun C j=> ∃ (I:Bool),(I=decide (kind=2∧s.length=2∧eS (s.getD 0 0)=true∧eS (s.getD 1 0)=true))∧(Wk w j)∧(C 0=ae kind)∧(C 1=str s)∧(C 23= .bool I)) ?_ ?_
 refine rg U (aj (ae kind) (p (bp U U) (p mv (gs (t:=26) U (fun aE=> ?_) (fun aE=> ?_)))))
 refine pg U U U (aB (str s) U) (pg U U U (cA u9 U U) (pg U U U (bp U U) (p (bE U) (p mv (gs (t:=31) U (fun aF=> ?_) (fun aF=> ?_))))))
 refine pg U U U (aB (str s) U) (pg U U U (gJ 0 u9 U U aa) (eg U U U (cl pZ (rS (s.getD 0 0) _) U fun aQ aV av=> ?_)))
 obtain ⟨rfl,Z⟩:=av
 refine p (bE U) (p mv (gb (t:=36) U (fun q=> ?_) (fun q=> ?_)))
 refine pg U U U (aB (str s) U) (pg U U U (gJ 1 u9 U U aa) (eg U U U (cl pZ (rS (s.getD 1 0) _) U fun aR aW aw=> ?_)))
 obtain ⟨rfl,ap⟩:=aw
 exact p (bE U) (au (((⟨eS (s.getD 1 0),((by rw [Bool.eq_iff_iff,decide_eq_true_iff]; exact ⟨fun h=>⟨aa,aa,q,h⟩,fun h=>h.2.2.2⟩)),(Md.trans c (Md.trans Z ap)),U,U,U⟩))))
 exact sk U U U U (sk U U U U (sk U U U U (p (bj U) (au (((⟨false,((decide_eq_false (fun h=>by rw [h.2.2.1] at q; cases q)).symm),(Md.trans c Z),U,U,U⟩)))))))
 exact sk U U U U (sk U U U U (sk U U U U (p (bj U) (p mv (sk U U U U (sk U U U U (sk U U U U (p (bj U) (au (((⟨false,((decide_eq_false (fun h=>by omega)).symm),c,U,U,U⟩))))))))))))
 exact sk U U U U (sk U U U U (sk U U U U (p (bj U) (p mv (sk U U U U (sk U U U U (sk U U U U (p (bj U) (p mv (sk U U U U (sk U U U U (sk U U U U (p (bj U) (p aA (nl (tn (⟨false,((decide_eq_false (fun h=>by omega)).symm),c,U,U,U⟩)))))))))))))))))
 rintro C j ⟨I,ad,c,aL,aM,aN⟩
 refine fx 0 aL (fx 1 aM (fx 23 aN (cb U (fun J=> ?_) (fun J=> ?_))))
 have V:kind=2∧s.length=2∧eS (s.getD 0 0)=true∧eS (s.getD 1 0)=true :=of_decide_eq_true (ad ▸ J)
 have Y:=UInt8.toNat_lt (s.getD 0 0)
 have am:=UInt8.toNat_lt (s.getD 1 0)
 refine sq (fun _ i=> ?_)
 have a:(fun w'=>Wk j w') j.drew:=(Md.refl _ _).drew
 exact bS (fun w'=>Wk j w') U wide a (bH 0 U (str s) a (aT 1 U (fun _ _=>gJ 0 u9 U U aa) a (aT 2 U (fun _ _=>jb pC nE U (mu aa)) a (aT 3 U (fun _ _=>shl U U ao (GS Y)) a (bH 4 U (str s) a (aT 5 U (fun _ _=>gJ 1 u9 U U aa) a (aT 6 U (fun _ _=>jb pC nE U (mu aa)) a (aT 7 U (fun _ _=>sS U U (FB Y am)) a (aT 8 U (fun _ _=>aA) a (hn ab (tn (i _ _ (rt (br (tr (f1 U U (⟨by rw [CS V]; rfl,c.drew⟩)))))))))))))))))
 have V:¬(kind=2∧s.length=2∧eS (s.getD 0 0)=true∧eS (s.getD 1 0)=true):=of_decide_eq_false (ad ▸ J)
 refine ag (fun _ i=>(aj (ae kind) (p (bp U U) (au (((i _ _ (cd U (fun ay=> ?_) (fun ay=> ?_)))))))))
 refine ag (fun _ E=>(aj (str s) (e (cl n9 (oW s 65535 _ hs ao) U fun aS aX ax=> ?_))))
 obtain ⟨rfl,aq⟩:=ax
 have aO:=Fi s
 exact p mv (p (xt U U) (p (xt U U) (p aA (au (((E _ _ (sq (fun _ al=>rg U (p mv (p (jb pC lz U (mu aa)) (au (((al _ _ (rt (br (tr (f1 U U (⟨by rw [CT aa]; rfl,Md.trans c aq⟩))))))))))))))))))))
 exact aH (bn (tn (ak _ _ (ag (fun _ E=>(au (((E _ _ (rt (f1 U U (⟨by rw [CQ aa O V]; rfl,c⟩))))))))))))
theorem Fw (kind:Nat) (s:List UInt8) (w:World) (hk:kind=1∨kind=2∨kind=3) (hs:s.length≤1048576):
 a3 Tryz.prog 114 (List.toArray [ae kind,str s]) w (fun v w'=>v= .tuple #[aI (e6 kind s).1,ae ((e6 kind s).2)]∧Wk w w'):=by
 refine enter Tryz.func114 U Tryz.ntmps114 U (ag (fun _ j=>(p aA (au (((j _ _ (sq (fun _ q=>sq (fun _ A=>rg U (aj (ae kind) (e (cl s7 (vI kind _) U fun O Y J=> ?_)))))))))))))
 obtain ⟨rfl,i⟩:=J
 refine p (no U) (az ((A _ _ (cf ((by rw [decide_eq_true aa]; rfl)) (aH (tn (q _ _ (ag (fun _ C=>aj (ae kind) (aj (str s) (e (cl pX (uL kind s _ hk hs) U fun dG V I=> ?_))))))))))))
 obtain ⟨rfl,c⟩:=I
 refine au (((C _ _ (sq (fun _ E=>ag (fun _ G=>(p mv (p (bp U U) (az ((G _ _ (cd U (fun M=> ?_) (fun M=> ?_)))))))))))))
 exact ag (fun _ a=>(p aA (au (((a _ _ (rt (tr (f2 U U U (⟨by unfold e6; rw [if_pos (show dd kind s=0 by omega)]; rfl,Md.trans i c⟩))))))))))
 exact aH (tn (E _ _ (ag (fun _ a=>(p mv (p aA (p aA (nl (tn (a _ _ (rt (f2 U U U (⟨by unfold e6; rw [if_neg (show ¬dd kind s=0 by omega)]; rfl,Md.trans i c⟩)))))))))))))
theorem Be (s:List UInt8) (c:UInt8) (w:World):
 a3 Tryz.prog 172 (List.toArray [str s,str [c]]) w (fun v w'=>v=ae (s.count c)∧Wk w w'):=by
 refine enter Tryz.func172 U Tryz.ntmps172 U (ag (fun _ a=>(au (((a _ _ (sq (fun _ i=>ag (fun _ j=>aj (str [c]) (p (cA u9 U U) (p (bp U U) (az ((j _ _ (cd U (fun h=>absurd h (by simp)) (fun G=>aH (tn (i _ _ (sq (fun _ C=>ag (fun _ q=>(aj (str [c]) (p (cA u9 U U) (p (bp U U) (az ((q _ _ (cd U (fun E=> ?_) (fun h=>absurd U h)))))))))))))))))))))))))))))
 exact ag (fun _ A=>(aj (str s) (aj (str [c]) (p (gJ 0 u9 U U (by simp)) (p (tL (A3 s c _) U) (p aA (nl (tn (A _ _ (rt (tr (f1 U U (⟨U,Md.refl _ _⟩)))))))))))))
theorem Dj (s:List UInt8) (w:World) (hs:s.length≤1048576):
 a3 Tryz.prog 148 (List.toArray [str s,str [44],.int .i64 0,.int .i64 (-1)]) w (fun v w'=>World.ownsRow w' w.heap.size 9 1 (v) ((eC 44 [] s)).length (((eC 44 [] s)).map str)∧Wk w w'):=by
 have bc:=List.count_le_length (a:=(44:UInt8)) (l:=s)
 have a5:=rV 44 s []
 refine enter Tryz.func148 U Tryz.ntmps148 U (ag (fun _ ah=>(au (((ah _ _ (sq (fun _ av=>ag (fun _ ax=>aj (.int .i64 (-1)) (p (bp U U) (az ((ax _ _ (cd U (fun h=>absurd h ao) (fun a9=>aH (tn (av _ _ (sq (fun _ ay=>ag (fun _ aB=>(aj (str [44]) (p (fJ U U) (nl (tn (aB _ _ (cd U (fun h=>absurd h (by simp)) (fun ba=>aH (tn (ay _ _ (sq (fun _ aD=>ag (fun _ aF=>(aj (.int .i64 (-1)) (p (lt U U) (nl (tn (aF _ _ (cd U (fun bb=> ?_) (fun h=>absurd ao h)))))))))))))))))))))))))))))))))))))))
 refine rg U (aj (str s) (aj (str [44]) (e (cl zN (Be s 44 _) U fun bh bj aP=> ?_))))
 obtain ⟨rfl,Z⟩:=aP
 refine p (bm ((s.count 44 +1:Nat):Int) U U (aU aa aa)) (au (((aD _ _ (ag (fun _ aG=>(p mv (aj (str s) (p (cA u9 U U) (p (bm ((s.length+1:Nat):Int) U U (aU aa aa)) (p (mn U U) (au (((aG _ _ (ag (fun _ aI=>p mv (e (E6 (n:=s.count 44 +1) (zv:=str []) dC Io U (show Value.int .i64 (min ((s.count 44 +1:Nat):Int) ((s.length+1:Nat):Int))=_ from iv aa) (show Value.int .i64 (min ((s.count 44 +1:Nat):Int) ((s.length+1:Nat):Int))=_ from iv aa) aa (by unfold maxLen; omega) fun E bk a8 aO aW=> ?_)))))))))))))))))))
 have ab:=aW w.heap.size (by have :=Z.size; omega)
 rw [Gp] at ab
 refine au (((aI _ _ (ag (fun _ ai=>(p mv (p (bZ ((s.count 44:Nat):Int) U U (aU aa aa)) (p aA (az ((ai _ _ (ag (fun _ ak=>(au (((ak _ _ (sq (fun _ al=>aC (lp (fun V q O=> ∃ (i:Nat) (A:List (List UInt8)) (r:List UInt8),(A.length=i)∧(r.count 44 +i=s.count 44∧r.length≤s.length)∧(A++eC 44 [] r=eC 44 [] s)∧(World.ownsRow O w.heap.size 9 1 (.slice (some ⟨E,0,none⟩) (s.count 44 +1) (s.count 44 +1)) (s.count 44 +1) ((A++List.replicate (s.count 44 +1 - i) []).map str))∧(Wk w O)∧(q 0=str r)∧(q 1=str [44])∧(q 2= .int .i64 0)∧(q 3=ae (s.count 44))∧(q 9= .slice (some ⟨E,0,none⟩) (s.count 44 +1) (s.count 44 +1))∧(q 10=ae i)∧(r.length=V)) _ ⟨0,[],s,U,(aa),U,ab,(Md.trans Z aO.md),U,U,U,U,U,U,U⟩ ?_))))))))))))))))))))
 rintro V q O ⟨i,A,r,hi,bf,hd,C,Y,aY,aZ,a1,a2,a4,a0,rfl⟩
 refine fx 0 aY (fx 1 aZ (fx 2 a1 (fx 3 a2 (fx 9 a4 (fx 10 a0 ?_)))))
 have bg:=List.count_le_length (a:=(44:UInt8)) (l:=r)
 refine sq (fun _ am=>ag (fun _ an=>(aj (ae i) (aj (ae (s.count 44)) (p (lt U U) (az ((an _ _ (cd U (fun aS=> ?_) (fun aS=> ?_))))))))))
 refine aH (tn (am _ _ (aC (ag (fun _ I=>(aj (str r) (aj (str [44]) (e (cl zO (DT r 44 _) U fun bi bl aR=> ?_)))))))))
 obtain ⟨rfl,G⟩:=aR
 refine au (((I _ _ (sq (fun _ J=>ag (fun _ ap=>(p mv (p (lt U U) (az ((ap _ _ (cd U (fun h=>absurd h (D5 aa)) (fun aT=>aH (tn (J _ _ (sq (fun _ aq=> ?_)))))))))))))))))
 have ac:=lZ (c:=(44:UInt8)) (l:=r) aT
 have bd:[(44:UInt8)].length=1:=rfl
 refine rg U (aj (.slice (some ⟨E,0,none⟩) (s.count 44 +1) (s.count 44 +1)) (aj (ae i) (aj (str r) (p mv (aj (.int .i64 0) (p (bm ((r.idxOf 44:Nat):Int) U U (aU aa aa)) (p (pc u9 U U aa) (p (aQ bT U U aa (aw.ok ((aJ (aE C G)).2) (bL (by rw [List.length_append,List.length_replicate]; omega)))) (e (kM (j:=i) (u:=str (r.take (r.idxOf 44))) (aE C G) j9 U U U aa aa fun a6 aM ad=> ?_))))))))))
 have aK:Wk w a6:=Wk.own (Md.trans Y G) (aE C G) aM (Nat.le_refl _)
 rw [← hi,xq aa,hi] at ad
 exact az ((aq _ _ (ag (fun _ ar=>(aj (str r) (p mv (aj (str [44]) (p (cA u9 U U) (p (bm ((r.idxOf 44 +1:Nat):Int) U U (aU aa aa)) (p (km u9 U U aa) (au (((ar _ _ (rg U (aj (ae i) (p (bm ((i+1:Nat):Int) U U (aU aa aa)) (p aA (nl (bn (tn (⟨_,by rw [List.length_drop]; omega,i+1,A++ [r.take (r.idxOf 44)],r.drop (r.idxOf 44 +1),((by rw [List.length_append,hi]; rfl)),((by have :=Bu ac.2; rw [List.length_drop]; omega)),((by rw [List.append_assoc,← hd,xy 44 r [] ac.2]; rfl)),((by rw [show s.count 44 +1 - (i+1)=s.count 44 +1 - i - 1 by omega]; exact ad)),aK,U,U,U,U,U,U,U⟩))))))))))))))))))))))
 refine ext (te _ (te _ (be (tn (al _ _ (ag (fun _ I=>(aj (.slice (some ⟨E,0,none⟩) (s.count 44 +1) (s.count 44 +1)) (aj (ae i) (aj (str r) (p (aQ bT U U aa (aw.ok ((aJ C).2) (bL (by rw [List.length_append,List.length_replicate]; omega)))) (e (kM (j:=i) (u:=str r) C j9 U U U aa aa fun a7 aN M=> ?_)))))))))))))
 have aL:Wk w a7:=Wk.own Y C aN (Nat.le_refl _)
 rw [← hi,xq aa,hi] at M
 refine az ((I _ _ (ag (fun _ J=>(aj (.slice (some ⟨E,0,none⟩) (s.count 44 +1) (s.count 44 +1)) (aj (ae i) (p (bm ((i+1:Nat):Int) U U (aU aa aa)) (p (nr bT U U aa) (au (((J _ _ (rt (f1 U U ?_))))))))))))))
 have aX:¬(44:UInt8)∈r:=fun h=>by have :=List.count_pos_iff.2 h; omega
 have aV:A++ [r]=eC 44 [] s:=by rw [← hd,Hc 44 r [] aX]; rfl
 rw [show s.count 44 +1 - i - 1=0 by omega,List.replicate_zero,List.append_nil,aV] at M
 exact ⟨by rw [a5,show s.count 44 +1=i+1 by omega] at*; exact M,aL⟩
theorem Hk (s:List UInt8) (w:World) (hs:s.length≤1048576):
 a3 Tryz.prog 132 (List.toArray [str s,str [44]]) w (fun v w'=>World.ownsRow w' w.heap.size 9 1 (v) ((eC 44 [] s)).length (((eC 44 [] s)).map str)∧Wk w w'):=by
 exact enter Tryz.func132 U Tryz.ntmps132 U (ag (fun _ a=>(au (((a _ _ (ag (fun _ c=>(aj (str s) (aj (str [44]) (e (cl zu (Dj s _ hs) U fun j p i=>au (((c _ _ (rt (f1 U U (i))))))))))))))))))
theorem F4 (kind:Nat) (s:List UInt8) (w:World) (hk:kind=1∨kind=2∨kind=3) (hs:s.length≤1048576):
 a3 Tryz.prog 118 (List.toArray [ae kind,str s]) w (fun v w'=>World.ownsRow w' w.heap.size 9 1 (v) ((da kind s)).length (((da kind s)).map str)∧Wk w w'):=by
 refine enter Tryz.func118 U Tryz.ntmps118 U (ag (fun _ V=>(au (((V _ _ (sq (fun _ Y=>ag (fun _ Z=>aj (ae kind) (p (bp U U) (az ((Z _ _ (cd U (fun ao=> ?_) (fun ao=> ?_)))))))))))))))
 refine ag (fun _ q=>(aj (str s) (e (cl zq (Hk s _ hs) U fun v10 aM am=>au (((q _ _ (rt (tr (f1 U U ?_))))))))))
 unfold da; rw [if_pos aa]; exact am
 refine aH (tn (Y _ _ (ag (fun _ q=>(au (((q _ _ (sq (fun _ ab=>ag (fun _ ac=>(au (((ac _ _ (aC (lp (fun I j G=> ∃ (i:Nat) (a:List (List UInt8)) (c:Value),(i≤s.length+kind∧a.length≤i)∧(a++chunks kind (s.drop i)=chunks kind s)∧(World.ownsRow G w.heap.size 9 1 (c) (a).length ((a).map str))∧(Wk w G)∧(j 0=ae kind)∧(j 1=str s)∧(j 5=c)∧(j 6=ae i)∧(s.length - i=I)) _ ⟨0,[],.slice none 0 0,((by simp)),U,(World.ownsRow_nil _ _ _ _),(Md.refl _ _),U,U,U,U,U⟩ ?_)))))))))))))))))
 rintro I j G ⟨i,a,c,hi,hd,E,J,ax,ay,aB,aD,rfl⟩
 refine fx 0 ax (fx 1 ay (fx 5 aB (fx 6 aD (sq (fun _ ad=>ag (fun _ ah=>(aj (ae i) (aj (str s) (p (cA u9 U U) (p (lt U U) (az ((ah _ _ (cd U (fun an=> ?_) (fun an=> ?_)))))))))))))))
 have ar:s.drop i≠[]:=fun h=>by have :=congrArg List.length h; rw [List.length_drop,List.length_nil] at this; omega
 refine aH (tn (ad _ _ (sq (fun _ A=>aC (rg U (aj (c) (aj (str s) (aj (ae i) (aj (ae i) (aj (ae kind) (p (bm ((i+kind:Nat):Int) U U (aU aa aa)) (aj (str s) (p (cA u9 U U) (p (mn U U) (p (kL u9 U U U aa) (e (eY dC U U fun aI aG aJ C ai=> ?_)))))))))))))))))
 have M:Wk w aG:=Md.trans J C.md
 refine e (ap dC (aE E C.md) U (by have :=M.size; omega) U (aw.dj ai) (U) (U) aa aa fun aF aN O al aL aK=> ?_)
 have ak:=Wk.own M (aE E C.md) al (Nat.le_refl _)
 rw [Ax] at O
 have av:=jJ O
 exact p aA (nl (bn (tn (A _ _ (rg U (aj (ae i) (aj (ae kind) (p (bm ((i+kind:Nat):Int) U U (aU aa aa)) (au (((⟨_,aa,i+kind,a++ [(s.drop i).take kind],aF,((by rw [List.length_append,List.length_singleton]; omega)),((by rw [← hd,qf (k:=kind) aa ar,List.append_assoc,List.drop_drop]; rfl)),av,ak,U,U,U,U,U⟩))))))))))))
 refine ext (te _ (te _ (be (tn (ab _ _ (ag (fun _ A=>(aj (c) (p (bG (c) U) (az ((A _ _ (rt (f1 U U ?_))))))))))))))
 have aq:a=da kind s:=by unfold da; rw [if_neg aa,← hd,List.drop_eq_nil_of_le aa,qg,List.append_nil]
 exact ⟨by rw [← aq]; exact E,J⟩
theorem u7 (kind:Nat) (s:List UInt8) (w:World) (hk:kind=1∨kind=2∨kind=3) (hs:s.length≤1048576):
 a3 Tryz.prog 101 (List.toArray [ae kind,str s]) w (fun v w'=>(∃ a,v= .tuple #[a,ae ((dH kind s).2)]∧World.ownsRow w' w.heap.size 71 1 a (dH kind s).1.length ((dH kind s).1.map aI))∧Wk w w'):=by
 refine enter Tryz.func101 U Tryz.ntmps101 U (ag (fun _ aB=>(p aA (au (((aB _ _ (sq (fun _ aL=>sq (fun _ aM=>rg U (aj (ae kind) (e (cl s7 (vI kind _) U fun v11 bB a0=> ?_)))))))))))))
 obtain ⟨rfl,an⟩:=a0
 refine p (no U) (az ((aM _ _ (cf ((by rw [decide_eq_true aa]; rfl)) (aH (tn (aL _ _ (sq (fun _ aN=>sq (fun _ aO=>rg U (aj (str s) (p (fJ U U) (az ((aO _ _ (cd U (fun A=> ?_) (fun A=> ?_)))))))))))))))))
 exact ag (fun _ ac=>(p aA (au (((ac _ _ (rt (tr (f2 U U U (⟨⟨.slice none 0 0,by unfold dH; rw [if_pos A]; rfl,by unfold dH; rw [if_pos A]; exact World.ownsRow_nil _ _ _ _⟩,an⟩))))))))))
 refine aH (tn (aN _ _ (ag (fun _ ac=>(au (((ac _ _ (sq (fun _ aP=>ag (fun _ aR=>(aj (ae kind) (aj (str s) (e (cl zl (F4 kind s _ hk hs) U fun bz I a1=> ?_)))))))))))))))
 obtain ⟨ar,aW⟩:=a1
 obtain ⟨aT,aU,rfl⟩:=cE ar
 have aq:=(aJ ar).2
 have bw:=F2 (kind:=kind) (s:=s) aa
 have O:Wk w I:=Md.trans an aW
 refine p (bo ea U U) (p mv (az ((aR _ _ (aC (lp (fun am q al=> ∃ (i:Nat) (M:Value),(i≤(da kind s).length)∧(¬∃ x∈(da kind s).take i,dd kind x=0)∧(World.ownsRow al I.heap.size 71 1 M (((da kind s).take i).map (dd kind)).length ((((da kind s).take i).map (dd kind)).map aI))∧(Wk I al)∧(q 0=ae kind)∧(q 1=str s)∧(q 6=M)∧(q 17= .slice aT (da kind s).length aU)∧(q 18=ae ((da kind s).length))∧(q 19=ae i)∧((da kind s).length - i=am)) _ ⟨0,.slice none 0 0,aa,((by rintro ⟨x,bi,_⟩; simp at bi)),(World.ownsRow_nil _ _ _ _),(Md.refl _ _),U,U,U,U,U,U,U⟩ ?_))))))
 rintro am q al ⟨i,M,hi,E,G,j,ba,bb,bg,bc,bd,bf,rfl⟩
 refine fx 0 ba (fx 1 bb (fx 6 bg (fx 17 bc (fx 18 bd (fx 19 bf ?_)))))
 have bv:(((da kind s).take i).map (dd kind)).length≤i:=by rw [List.length_map,List.length_take]; omega
 refine ag (fun _ aS=>(p (lt U U) (az ((aS _ _ (sq (fun _ aD=>cd U (fun a5=> ?_) (fun a5=> ?_))))))))
 refine aH (tn (aD _ _ (sq (fun _ Z=>aC (ag (fun _ ab=>(p (aQ bT U U aa (aw.ok (aq.wk j) (bL aa))) (p (ld bF U (bM.get (i:=i) (aq.wk j) aa)) (au (((ab _ _ (ag (fun _ C=>(aj (ae kind) (p mv (e (cl pX (uL kind ((da kind s).getD i []) _ hk (by have :=F3 (kind:=kind) aa (ve (d:= []) (show i < (da kind s).length by omega)); omega)) U fun bA bC a2=> ?_))))))))))))))))))
 obtain ⟨rfl,V⟩:=a2
 refine au (((C _ _ (sq (fun _ aF=>ag (fun _ aG=>(p mv (p (bp U U) (az ((aG _ _ (cd U (fun a6=> ?_) (fun a6=> ?_)))))))))))))
 refine ag (fun _ aK=>(p aA (au (((aK _ _ (rt (tr (br (tr (tr (br (tr (f2 U U U ?_))))))))))))))
 have c:dH kind s=([],31):=by unfold dH; rw [if_neg A,if_pos ⟨_,ve (d:= []) (show i < (da kind s).length by omega),aa⟩]
 exact ⟨⟨.slice none 0 0,by rw [c]; rfl,by rw [c]; exact World.ownsRow_nil _ _ _ _⟩,Md.trans O (Md.trans j V)⟩
 refine aH (tn (aF _ _ (rg U (aj (M) (p mv (e (eY pj U U fun bq bk bs ai aV=> ?_)))))))
 have ao:Wk I bk:=Md.trans (Md.trans j V) ai.md
 refine e (ap pj (aE (aE G V) ai.md) U (by have :=ao.size; omega) U (aw.dj aV) (U) (U) aa aa fun ay bl a8 aZ bx bt=> ?_)
 have aX:=Wk.own ao (aE (aE G V) ai.md) aZ (Nat.le_refl _)
 have a9:World.ownsRow bl I.heap.size 71 1 ay (((da kind s).take (i+1)).map (dd kind)).length ((((da kind s).take (i+1)).map (dd kind)).map aI):=by
  rw [eT _ i [] aa,List.map_append,List.length_append,List.map_append]; exact a8
 exact p aA (nl (bn (tn (Z _ _ (rg U (p (ad U U (bu aa)) (p mv (nl (tn (⟨_,aa,i+1,ay,aa,(CB aa E aa),a9,aX,U,U,U,U,U,U,U⟩))))))))))
 refine ext (te _ (te _ (be (tn (aP _ _ (sq (fun _ Z=>sq (fun _ ab=> ?_))))))))
 obtain ⟨J,ah,rfl⟩:=cE G
 have bh:(((da kind s).take i).map (dd kind)).length=(da kind s).length:=by rw [List.length_map,List.length_take]; omega
 have Y:(da kind s).take i=(da kind s):=List.take_of_length_le aa
 have a7:J=none→(((da kind s).take i).map (dd kind)).length=0:=fun h=>by obtain ⟨bm,c2,ax,_,_,h3⟩:=Rd.gl G; simp only [Value.slice.injEq] at ax; exact h3 (ax.1 ▸ h)
 refine rg U (aj (.slice J (((da kind s).take i).map (dd kind)).length ah) (p (bo iF U U) (p (gt U U) (az ((ab _ _ (cd U (fun ak=> ?_) (fun ak=> ?_))))))))
 refine ag (fun _ C=>(p aA (au (((C _ _ (rt (tr (f2 U U U ?_)))))))))
 rw [Y] at E bh
 have c:dH kind s=([],32):=by unfold dH; rw [if_neg A,if_neg E,if_pos (by rw [Y,List.length_map] at ak; omega)]
 exact ⟨⟨.slice none 0 0,by rw [c]; rfl,by rw [c]; exact World.ownsRow_nil _ _ _ _⟩,Md.trans O j⟩
 refine aH (tn (Z _ _ (ag (fun _ C=>(aj (.slice J (((da kind s).take i).map (dd kind)).length ah) (e (cl s5 (wv (((da kind s).take i).map (dd kind)) J ah _ (aJ G).2 a7 (by rw [List.length_map,List.length_take] at*; omega)) U fun bj bD a4=> ?_)))))))
 obtain ⟨av,aY⟩:=a4
 refine p aA (au (((C _ _ (rt (f2 U U U ?_))))))
 rw [Y] at E av
 have c:dH kind s=(gN ((da kind s).map (dd kind)),0):=by unfold dH; rw [if_neg A,if_neg E,if_neg (by rw [Y,List.length_map] at ak; omega)]
 exact ⟨⟨bj,by rw [c]; rfl,by rw [c]; exact ga av (by have :=O.size; have :=j.size; omega)⟩,Md.trans O (Md.trans j aY)⟩
end Go.Hb.kS
end
section
set_option maxRecDepth 20000
set_option maxHeartbeats 1000000
namespace Go.Hb.gP
open Go.Hb.c6
open Go.Proofs
theorem Fo {b:UInt8} (h:¬(b.toNat:Int)=10):b≠10:=by rintro rfl; exact h rfl
theorem D2 {b:UInt8} (h:(b.toNat:Int)=10):b=10:=UInt8.toNat_inj.1 (by have :(10:UInt8).toNat=10:=rfl; omega)
theorem D3 {b:UInt8} (h:(b.toNat:Int)=13):b=13:=UInt8.toNat_inj.1 (by have :(13:UInt8).toNat=13:=rfl; omega)
theorem Fp {b:UInt8} (h:¬(b.toNat:Int)=13):b≠13:=by rintro rfl; exact h rfl
theorem qQ (b:UInt8) (w:World):
 a3 Tryz.prog 92 (List.toArray [.int .u8 b.toNat]) w (fun v w'=>v= .bool (gy b)∧Wk w w'):=by
 refine enter Tryz.func92 U Tryz.ntmps92 U (ag (fun _ c=>(au (((c _ _ (ag (fun _ a=>(aj (.int .u8 b.toNat) (p (bp U U) (p mv (gs (t:=5) U (fun i=> ?_) (fun i=> ?_)))))))))))))
 exact sk U U U U (sk U U U U (p (bE U) (au (((a _ _ (rt (f1 U U (⟨by show Value.bool true =_; rw [kf,decide_eq_true (.inl aa)],Md.refl _ _⟩)))))))))
 exact pg U U U (aB (.int .u8 b.toNat) U) (pg U U U (bp U U) (p (bj U) (au (((a _ _ (rt (f1 U U (⟨by show Value.bool (decide ((b.toNat:Int)=9))=_; rw [kf]; exact congrArg Value.bool (decide_eq_decide.2 aa),Md.refl _ _⟩)))))))))
theorem CG (l:List UInt8) (w:World) (bh:l.length≤1048576):
 a3 Tryz.prog 57 (List.toArray [str l]) w (fun v w'=>World.ownsRow w' w.heap.size 9 1 v ((bg [] l)).length (((bg [] l)).map str)∧Wk w w'):=by
 refine enter Tryz.func57 U Tryz.ntmps57 U (ag (fun _ ax=>(au (((ax _ _ (ag (fun _ ay=>(p aA (az ((ay _ _ (ag (fun _ aD=>(au (((aD _ _ (sq (fun _ aF=>ag (fun _ aG=>(aj (str l) (p (cA u9 U U) (p mv (az ((aG _ _ (aC (lp (fun ar G ao=> ∃ (i:Nat) (a:Int) (I:List UInt8) (c:List (List UInt8)) (v:Value),(i≤l.length)∧(gr l i a I)∧(c++bg I (l.drop i)=(bg [] l))∧(Wk w ao)∧(World.ownsRow ao w.heap.size 9 1 v (c).length ((c).map str))∧(G 0=str l)∧(G 3=v)∧(G 4= .int .i64 a)∧(G 7= .int .i64 l.length)∧(G 8= .int .i64 i)∧(l.length - i=ar)) _ ⟨0,-1,[],[],.slice none 0 0,aa,gr.no,U,(Md.refl _ _),(World.ownsRow_nil _ _ _ _),U,U,U,U,U,U⟩ ?_)))))))))))))))))))))))))))))
 rintro ar G ao ⟨i,a,I,c,v,hi,C,hd,O,ac,aZ,a0,a1,a2,a4,rfl⟩
 refine fx 0 aZ (fx 3 a0 (fx 4 a1 (fx 7 a2 (fx 8 a4 ?_))))
 have bc:c.length≤l.length+1:=by have h1:=congrArg List.length hd; have h2:=mW l []; rw [List.length_append] at h1; omega
 refine ag (fun _ aI=>(p (lt U U) (az ((aI _ _ (sq (fun _ aJ=>cd U (fun aU=> ?_) (fun aU=> ?_))))))))
 refine aH (tn (aJ _ _ (sq (fun _ j=>aC (ag (fun _ ai=>(aj (.int .i64 i) (p (bG (.int .i64 i) U) (az ((ai _ _ (aC (ag (fun _ E=>(aj (str l) (aj (.int .i64 i) (p (e7 u9 U U aa) (e (cl mK (qQ (l.getD i 0) _) U fun bm a7 aQ=> ?_)))))))))))))))))))
 obtain ⟨rfl,av⟩:=aQ
 have V:Wk w a7:=Md.trans O av
 have bi:=V.size
 have ae:=aE ac av
 refine p mv (gb (t:=16) U (fun s=> ?_) (fun s=> ?_))
 refine pg U U U (aB (.int .i64 a) U) (pg U U U (ge U U) (p (bE U) (au (((E _ _ (cd U (fun aR=> ?_) (fun aR=> ?_))))))))
 obtain ⟨aT,M,an⟩:=C.pos aa
 refine ag (fun _ A=>(aj (v) (aj (str l) (aj (.int .i64 a) (aj (.int .i64 i) (p (kL u9 U U U aa) (e (eY dC U U fun a8 bp ba Z aK=>e (ap dC (aE ae Z.md) U (by have :=Z.size; omega) U (aw.dj aK) (U) (U) aa aa fun a5 bq aV aO bk bd=> ?_)))))))))
 have aM:=Wk.own (Md.trans V Z.md) (aE ae Z.md) aO (Nat.le_refl _)
 have aW:=jJ aV
 exact au (((A _ _ (rg U (p aA (nl (bn (bn (tn (j _ _ (rg U (p (ad U U (bu aa)) (p mv (az ((⟨_,aa,i+1,-1,[],c++ [(l.take i).drop a.toNat],a5,aa,gr.no,((by rw [drop_cons 0 aa,uQ s an,M] at hd; rw [List.append_assoc]; exact hd)),aM,aW,U,U,U,U,U,U⟩))))))))))))))))
 refine ag (fun _ A=>(aj (str l) (aj (.int .i64 i) (p (e7 u9 U U aa) (e (cl mK (qQ (l.getD i 0) _) U fun a6 aq ak=> ?_))))))
 obtain ⟨rfl,J⟩:=ak
 have Y:Wk w aq:=Md.trans V J
 have ah:=aE ae J
 refine p (no U) (p mv (gb (t:=33) U (fun q=> ?_) (fun q=> ?_)))
 refine pg U U U (aB (.int .i64 a) U) (pg U U U (lt U U) (p (bE U) (au (((A _ _ (cd U (fun al=> ?_) (fun al=> ?_))))))))
 refine rg U (aj (.int .i64 i) (p (bG (.int .i64 i) U) (nl (bn (bn (tn (j _ _ (rg U (p (ad U U (bu aa)) (p mv (nl (tn ?_))))))))))))
 rw [s] at q; cases q
 refine aH (bn (bn (tn (j _ _ (rg U (p (ad U U (bu aa)) (p mv (nl (tn ?_)))))))))
 rw [s] at q; cases q
 exact sk U U U U (sk U U U U (p (bj U) (au (((A _ _ (cf U (aH (bn (bn (tn (j _ _ (rg U (p (ad U U (bu aa)) (p mv (nl (tn (⟨_,aa,i+1,a,I,c,v,aa,((by obtain ⟨h1,h2⟩:=C.neg aa; subst h1 h2; exact gr.no)),((by obtain ⟨h1,h2⟩:=C.neg aa; subst h2; rw [drop_cons 0 aa,oD s] at hd; exact hd)),Y,ah,U,U,U,U,U,U⟩))))))))))))))))))
 refine sk U U U U (sk U U U U (p (bj U) (au (((E _ _ (cf U (sq (fun _ A=>rg U (aj (str l) (aj (.int .i64 i) (p (e7 u9 U U aa) (e (cl mK (qQ (l.getD i 0) _) U fun a6 aq ak=> ?_))))))))))))))
 obtain ⟨rfl,J⟩:=ak
 have Y:Wk w aq:=Md.trans V J
 have ah:=aE ae J
 refine p (no U) (p mv (gb (t:=33) U (fun q=> ?_) (fun q=> ?_)))
 refine pg U U U (aB (.int .i64 a) U) (pg U U U (lt U U) (p (bE U) (au (((A _ _ (cd U (fun al=> ?_) (fun al=> ?_))))))))
 exact rg U (aj (.int .i64 i) (p (bG (.int .i64 i) U) (nl (bn (bn (tn (j _ _ (rg U (p (ad U U (bu aa)) (p mv (az ((⟨_,aa,i+1,i,[l.getD i 0],c,v,aa,(gr.begin aa),((by obtain ⟨h1,h2⟩:=C.neg aa; subst h2; rw [drop_cons 0 aa,oF s] at hd; exact hd)),Y,ah,U,U,U,U,U,U⟩)))))))))))))
 exact aH (bn (bn (tn (j _ _ (rg U (p (ad U U (bu aa)) (p mv (nl (tn (⟨_,aa,i+1,a,I++ [l.getD i 0],c,v,aa,(C.more aa aa),((by rw [drop_cons 0 aa,oF s] at hd; exact hd)),Y,ah,U,U,U,U,U,U⟩))))))))))
 refine sk U U U U (sk U U U U (p (bj U) (au (((A _ _ (cf U (aH (bn (bn (tn (j _ _ (rg U (p (ad U U (bu aa)) (p mv (nl (tn ?_)))))))))))))))))
 rw [s] at q; cases q
 refine ext (te _ (te _ (be (tn (aF _ _ (sq (fun _ j=>ag (fun _ ai=>aj (.int .i64 a) (p (ge U U) (az ((ai _ _ (cd U (fun aS=> ?_) (fun aS=> ?_))))))))))))))
 obtain ⟨aT,M,an⟩:=C.pos aa
 refine rg U (aj (v) (aj (str l) (aj (.int .i64 a) (p (km u9 U U aa) (e (eY dC U U fun a9 br bb ab aL=>e (ap dC (aE ac ab.md) U (by have :=ab.size; have :=O.size; omega) U (aw.dj aL) (U) (U) aa aa fun bo bs aX aP bl bf=> ?_)))))))
 have aN:=Wk.own (Md.trans O ab.md) (aE ac ab.md) aP (Nat.le_refl _)
 have aY:=jJ aX
 refine au (((j _ _ (ag (fun _ E=>(p mv (p aA (nl (tn (E _ _ (rt (f1 U U ?_))))))))))))
 have am:c++ [l.drop a.toNat]=(bg [] l):=by rw [← hd,show l.drop i= [] from List.drop_eq_nil_of_le aa,qG an,M,List.take_of_length_le aa]
 exact ⟨by rw [← am]; exact aY,aN⟩
 obtain ⟨aT,M⟩:=C.neg aa
 refine aH (tn (j _ _ (ag (fun _ E=>(aj (v) (p (bG (v) U) (az ((E _ _ (rt (f1 U U ?_)))))))))))
 have am:c=(bg [] l):=by rw [← hd,List.drop_eq_nil_of_le aa,M,qH,List.append_nil]
 exact ⟨by rw [← am]; exact ac,O⟩
theorem Gx (l:List UInt8) (w:World) (a6:l.length≤1048576):
 a3 Tryz.prog 50 (List.toArray [str l]) w (fun v w'=>World.ownsRow w' w.heap.size 9 1 v ((bg [] l)).length (((bg [] l)).map str)∧Wk w w'):=by
 refine enter Tryz.func50 U Tryz.ntmps50 U (ag (fun _ aI=>(au (((aI _ _ (ag (fun _ aK=>(p aA (az ((aK _ _ (ag (fun _ aL=>(au (((aL _ _ (sq (fun _ aM=>aC (lp (fun I ak ai=> ∃ (i:Nat) (c:List (List UInt8)) (v:Value),(i≤l.length)∧(c++bg [] (l.drop i)=(bg [] l))∧(Wk w ai)∧(World.ownsRow ai w.heap.size 9 1 v (c).length ((c).map str))∧(ak 0=str l)∧(ak 3=v)∧(ak 4= .int .i64 i)∧(l.length - i=I)) _ ⟨0,[],.slice none 0 0,aa,U,(Md.refl _ _),(World.ownsRow_nil _ _ _ _),U,U,U,U⟩ ?_)))))))))))))))))))))
 rintro I ak ai ⟨i,c,v,hi,hd,s,A,aW,aX,aY,rfl⟩
 refine fx 0 aW (fx 3 aX (fx 4 aY ?_))
 have a4:c.length≤l.length+1:=by have h1:=congrArg List.length hd; have h2:=mW l []; rw [List.length_append] at h1; omega
 refine sq (fun _ aN=>ag (fun _ aO=>(aj (.int .i64 i) (aj (str l) (p (cA u9 U U) (p (lt U U) (nl (tn (aO _ _ (cd U (fun aS=> ?_) (fun aS=> ?_)))))))))))
 refine aH (tn (aN _ _ (aC (sq (fun _ an=>ag (fun _ aq=>(aj (str l) (aj (.int .i64 i) (p (e7 u9 U U aa) (p (bp U U) (p mv (gs (t:=14) U (fun aT=> ?_) (fun aT=> ?_)))))))))))))
 exact sk U U U U (sk U U U U (sk U U U U (sk U U U U (p (bE U) (az ((aq _ _ (ct U (ag (fun _ G=>(aj (.int .i64 i) (p (ad U U (bu aa)) (au (((G _ _ (ext (te _ (be (tn (⟨_,aa,i+1,c,v,aa,((by rw [drop_cons 0 aa,oD (by rw [kf]; exact decide_eq_true (.inl aa))] at hd; exact hd)),s,A,U,U,U,U⟩)))))))))))))))))))))
 refine pg U U U (aB (str l) U) (pg U U U (aB (.int .i64 i) U) (pg U U U (e7 u9 U U aa) (pg U U U (bp U U) (p (bj U) (az ((aq _ _ (cd U (fun aQ=> ?_) (fun aQ=> ?_)))))))))
 exact ag (fun _ G=>(aj (.int .i64 i) (p (ad U U (bu aa)) (au (((G _ _ (ext (te _ (be (tn (⟨_,aa,i+1,c,v,aa,((by rw [drop_cons 0 aa,oD (by rw [kf]; exact decide_eq_true (.inr aa))] at hd; exact hd)),s,A,U,U,U,U⟩))))))))))))
 have ao:gy (l.getD i 0)=false :=by rw [kf]; exact decide_eq_false aa
 refine aH (tn (an _ _ (ag (fun _ G=>(aj (.int .i64 i) (p (bG (.int .i64 i) U) (az ((G _ _ (sq (fun _ al=>aC (lp (fun I ah aG=> ∃ (j:Nat),(i≤j∧j≤l.length)∧(aG=ai)∧(c++bg ((l.take j).drop i) (l.drop j)=(bg [] l))∧(ah 0=str l)∧(ah 3=v)∧(ah 4= .int .i64 i)∧(ah 5= .int .i64 j)∧(l.length - j=I)) _ ⟨i,aa,U,((by rw [List.drop_eq_nil_of_le (by rw [List.length_take]; omega)]; exact hd)),U,U,U,U,U⟩ ?_))))))))))))
 rintro I ah aG ⟨j,a5,aP,q,aZ,a0,a1,a2,rfl⟩
 refine fx 0 aZ (fx 3 a0 (fx 4 a1 (fx 5 a2 ?_)))
 subst aP
 refine sq (fun _ aJ=>ag (fun _ am=>(aj (.int .i64 j) (aj (str l) (p (cA u9 U U) (p (lt U U) (p mv (gs (t:=27) U (fun aU=> ?_) (fun aU=> ?_)))))))))
 refine pg U U U (aB (str l) U) (pg U U U (aB (.int .i64 j) U) (pg U U U (e7 u9 U U aa) (pg U U U (dF U U) (p (bE U) (p mv (gs (t:=33) U (fun aV=> ?_) (fun aV=> ?_)))))))
 refine pg U U U (aB (str l) U) (pg U U U (aB (.int .i64 j) U) (pg U U U (e7 u9 U U aa) (pg U U U (dF U U) (p (bE U) (az ((am _ _ (cd U (fun aR=> ?_) (fun aR=> ?_)))))))))
 exact aH (tn (aJ _ _ (aC (rg U (aj (.int .i64 j) (p (ad U U (bu aa)) (p aA (nl (bn (tn (⟨_,aa,j+1,aa,U,((by rw [drop_cons (l:=l) (i:=j) 0 aa,oF (by rw [kf]; exact decide_eq_false aa),← o8 0 aa aa] at q; exact q)),U,U,U,U,U⟩)))))))))))
 have C:l.length≤j∨gy (l.getD j 0)=true := .inr (by rw [kf]; exact decide_eq_true (.inr aa))
 have Y:¬j=i:=by
  rintro rfl
  rcases C with h | h
  omega
  rw [ao] at h; cases h
 have Z:(l.take j).drop i≠[]:=fun J=>Y (by have h1:=congrArg List.length J; simp only [List.length_drop,List.length_take,List.length_nil] at h1; omega)
 rw [qF (i:=j) Z C] at q
 refine ext (te _ (te _ (be (tn (al _ _ (ag (fun _ E=>(aj (v) (aj (str l) (aj (.int .i64 i) (aj (.int .i64 j) (p (kL u9 U U U aa) (e (eY dC U U fun ar aD av a M=>e (ap dC (aE A a.md) U (by have :=a.size; have :=s.size; omega) U (aw.dj M) (U) (U) aa aa fun ae aF ab V ay ax=> ?_)))))))))))))))
 have O:=Wk.own (Md.trans s a.md) (aE A a.md) V (Nat.le_refl _)
 have ac:=jJ ab
 exact au (((E _ _ (rg U (aj (.int .i64 j) (p (bG (.int .i64 j) U) (nl (bn (tn (⟨_,aa,j,c++ [(l.take j).drop i],ae,aa,((by rw [List.append_assoc]; exact q)),O,ac,U,U,U,U⟩))))))))))
 have C:l.length≤j∨gy (l.getD j 0)=true := .inr (by rw [kf]; exact decide_eq_true (.inl aa))
 have Y:¬j=i:=by
  rintro rfl
  rcases C with h | h
  omega
  rw [ao] at h; cases h
 have Z:(l.take j).drop i≠[]:=fun J=>Y (by have h1:=congrArg List.length J; simp only [List.length_drop,List.length_take,List.length_nil] at h1; omega)
 rw [qF (i:=j) Z C] at q
 refine sk U U U U (sk U U U U (sk U U U U (sk U U U U (p (bj U) (az ((am _ _ (cf U (ext (te _ (te _ (be (tn (al _ _ (ag (fun _ E=>(aj (v) (aj (str l) (aj (.int .i64 i) (aj (.int .i64 j) (p (kL u9 U U U aa) (e (eY dC U U fun ar aD av a M=>e (ap dC (aE A a.md) U (by have :=a.size; have :=s.size; omega) U (aw.dj M) (U) (U) aa aa fun ae aF ab V ay ax=> ?_))))))))))))))))))))))))
 have O:=Wk.own (Md.trans s a.md) (aE A a.md) V (Nat.le_refl _)
 have ac:=jJ ab
 exact au (((E _ _ (rg U (aj (.int .i64 j) (p (bG (.int .i64 j) U) (nl (bn (tn (⟨_,aa,j,c++ [(l.take j).drop i],ae,aa,((by rw [List.append_assoc]; exact q)),O,ac,U,U,U,U⟩))))))))))
 have C:l.length≤j∨gy (l.getD j 0)=true := .inl aa
 have Y:¬j=i:=by
  rintro rfl
  rcases C with h | h
  omega
  rw [ao] at h; cases h
 have Z:(l.take j).drop i≠[]:=fun J=>Y (by have h1:=congrArg List.length J; simp only [List.length_drop,List.length_take,List.length_nil] at h1; omega)
 rw [qF (i:=j) Z C] at q
 refine sk U U U U (sk U U U U (sk U U U U (sk U U U U (p (bj U) (p mv (sk U U U U (sk U U U U (sk U U U U (sk U U U U (p (bj U) (az ((am _ _ (cf U (ext (te _ (te _ (be (tn (al _ _ (ag (fun _ E=>(aj (v) (aj (str l) (aj (.int .i64 i) (aj (.int .i64 j) (p (kL u9 U U U aa) (e (eY dC U U fun ar aD av a M=>e (ap dC (aE A a.md) U (by have :=a.size; have :=s.size; omega) U (aw.dj M) (U) (U) aa aa fun ae aF ab V ay ax=> ?_))))))))))))))))))))))))))))))
 have O:=Wk.own (Md.trans s a.md) (aE A a.md) V (Nat.le_refl _)
 have ac:=jJ ab
 exact au (((E _ _ (rg U (aj (.int .i64 j) (p (bG (.int .i64 j) U) (nl (bn (tn (⟨_,aa,j,c++ [(l.take j).drop i],ae,aa,((by rw [List.append_assoc]; exact q)),O,ac,U,U,U,U⟩))))))))))
 refine ext (te _ (te _ (be (tn (aM _ _ (ag (fun _ an=>(aj (v) (p (bG (v) U) (az ((an _ _ (rt (f1 U U ?_))))))))))))))
 have q:c=(bg [] l):=by rw [← hd,List.drop_eq_nil_of_le aa,qH,List.append_nil]
 exact ⟨by rw [← q]; exact A,s⟩
theorem ET (s:List UInt8) (w:World):
 a3 Tryz.prog 23 (List.toArray [str s]) w (fun v w'=>v= .bool (jz s)∧Wk w w'):=by
 refine enter Tryz.func23 U Tryz.ntmps23 U (ag (fun _ c=>(au (((c _ _ (ag (fun _ a=>(aj (str s) (p (cA u9 U U) (p (ge U U) (p mv (gs (t:=6) U (fun q=> ?_) (fun q=> ?_))))))))))))))
 refine pg U U U (aB (str s) U) (pg U U U (gJ 0 u9 U U aa) (pg U U U (bp U U) (p (bE U) (p mv (gs (t:=11) U (fun i=> ?_) (fun i=> ?_))))))
 refine pg U U U (aB (str s) U) (pg U U U (gJ 1 u9 U U aa) (pg U U U (bp U U) (p (bE U) (p mv (gs (t:=16) U (fun j=> ?_) (fun j=> ?_))))))
 exact pg U U U (aB (str s) U) (pg U U U (gJ 2 u9 U U aa) (pg U U U (bp U U) (p (bE U) (au (((a _ _ (rt (f1 U U (⟨by show Value.bool (decide (((s.getD 2 0).toNat:Int)=191))=_; rw [m8]; exact congrArg Value.bool (decide_eq_decide.2 aa),Md.refl _ _⟩))))))))))
 exact sk U U U U (sk U U U U (sk U U U U (p (bj U) (au (((a _ _ (rt (f1 U U (⟨by show Value.bool false =_; rw [m8,decide_eq_false aa],Md.refl _ _⟩))))))))))
 exact sk U U U U (sk U U U U (sk U U U U (p (bj U) (p mv (sk U U U U (sk U U U U (sk U U U U (p (bj U) (au (((a _ _ (rt (f1 U U (⟨by show Value.bool false =_; rw [m8,decide_eq_false aa],Md.refl _ _⟩)))))))))))))))
 exact sk U U U U (sk U U U U (sk U U U U (p (bj U) (p mv (sk U U U U (sk U U U U (sk U U U U (p (bj U) (p mv (sk U U U U (sk U U U U (sk U U U U (p (bj U) (p aA (nl (tn (a _ _ (rt (f1 U U (⟨by show Value.bool false =_; rw [m8,decide_eq_false aa],Md.refl _ _⟩))))))))))))))))))))
theorem um (l:List UInt8) (a:Option Addr) (c:Nat) (w:World) (j:aw w.heap a (U8 l)) (J:l.length≤1048576) (I:l.length≤c):
 a3 Tryz.prog 77 (List.toArray [.slice a l.length c]) w (fun v w'=>v=str (ew l)∧Wk w w'):=by
 refine enter Tryz.func77 U Tryz.ntmps77 U (ag (fun _ A=>(au (((A _ _ (ag (fun _ C=>(aj (.slice a l.length c) (p (bo jN U U) (au (((C _ _ (sq (fun _ q=>ag (fun _ s=>(p mv (p (gt U U) (p mv (gs (t:=8) U (fun G=> ?_) (fun G=> ?_))))))))))))))))))))))
 refine pg U U U (aB (.slice a l.length c) U) (pg U U U mv (pg U U U (sb U U (bu aa)) (pg U U U (aQ jw U U aa (aw.ok (j) (nC aa))) (pg U U U (ld mC U ((show _=some (Value.int .u8 (l.getD (l.length - 1) 0).toNat) from by rw [show ((l.length:Int) - 1).toNat=l.length - 1 from by omega]; exact nB j aa))) (pg U U U (bp U U) (p (bE U) (nl (tn (s _ _ (cd U (fun E=> ?_) (fun E=> ?_)))))))))))
 exact ag (fun _ i=>(aj (.slice a l.length c) (p mv (p (sb U U (bu aa)) (p (nr jw U U aa) (p (k8 k5 U (HM j ((l.length:Int) - 1).toNat) (by rw [List.length_take]; omega)) (p aA (az ((i _ _ (rt (tr (f1 U U (⟨by show str (l.take ((l.length:Int) - 1).toNat)=_; rw [qv aa (D3 aa),show ((l.length:Int) - 1).toNat=l.length - 1 from by omega],Md.refl _ _⟩))))))))))))))
 exact aH (tn (q _ _ (ag (fun _ i=>(aj (.slice a l.length c) (p (k8 k5 U (j) (U)) (p aA (nl (tn (i _ _ (rt (f1 U U (⟨by show str l=_; rw [qu (fun h=>Fp aa h.2)],Md.refl _ _⟩)))))))))))))
 exact sk U U U U (sk U U U U (sk U U U U (sk U U U U (sk U U U U (sk U U U U (p (bj U) (nl (tn (s _ _ (cf U (aH (tn (q _ _ (ag (fun _ i=>(aj (.slice a l.length c) (p (k8 k5 U (j) (U)) (au (((i _ _ (rt (f1 U U (⟨by show str l=_; rw [qu aa],Md.refl _ _⟩))))))))))))))))))))))))
end Go.Hb.gP
end
section
set_option maxRecDepth 20000
set_option maxHeartbeats 1000000
namespace Go.Hb.fP
open Go.Hb.c6
open Go.Proofs
open Go.Hb.ff Go.Hb.jZ Go.Hb.iG Go.Hb.kS Go.Hb.gu Go.Hb.gP Go.Hb.gG
theorem DN {l:List Tx} {x:Tx} :∀ {i:Nat},i < l.length→(∀ j,j < i→l.getD j []≠x)→l.getD i []=x→l.idxOf x=i:=by
 induction l with
 | nil=>intro i h; simp at h
 | cons a l s=>
   intro i hi q c
   cases i with
   | zero=>simp only [List.getD_cons_zero] at c; rw [c,List.idxOf_cons_self]
   | succ i=>
     have p:=q 0 aa
     simp only [List.getD_cons_zero] at p
     rw [List.idxOf_cons,show (a==x)=false from by simpa using p,cond_false,s (i:=i) (by simpa using hi) (fun j A=>by have :=q (j+1) aa; simpa using this) (by simpa using c)]
theorem Cv {a b:List Tx} (h:a.length≠b.length):a≠b:=fun h2=>h (by rw [h2])
theorem Dl {a b:List Tx} {i:Nat} (h:a.getD i []≠b.getD i []):a≠b:=fun h2=>h (by rw [h2])
theorem Dk {a b:List Tx} (c:a.length=b.length) (h:∀ i,i < a.length→a.getD i []=b.getD i []):a=b:=by
 apply List.ext_getElem c
 intro i h1 h2
 have :=h i h1
 rw [List.getD_eq_getElem?_getD,List.getD_eq_getElem?_getD,List.getElem?_eq_getElem h1,List.getElem?_eq_getElem h2] at this
 exact this
theorem Hv {s:Tx} {i:Nat} (h:i < s.length):(s.drop i).take 1= [s.getD i 0]:=by
 rw [drop_cons 0 h]; rfl
theorem xY (b:UInt8):kp [b]=e5 b:=by
 unfold kp eF
 cases h:e5 b <;> simp [h]
theorem xw {s:Tx} {i:Nat} (h:i < s.length):(s.take (i+1)).drop i= [s.getD i 0]:=by
 rw [List.drop_take,show i+1 - i=1 from by omega,Hv h]
theorem uI {s:Tx} (h:s= []∨eF s=false):fg s=21:=if_pos h
theorem CL {s:Tx} (h:s≠[]) (h1:eF s=true) (h2:32 < s.length):fg s=22:=by unfold fg; rw [if_neg (by rw [h1]; simp [h]),if_pos h2]
theorem CM {s:Tx} (h:s≠[]) (h1:eF s=true) (h2:¬32 < s.length):fg s=0:=by unfold fg; rw [if_neg (by rw [h1]; simp [h]),if_neg h2]
theorem F1 {s:Tx} (h:s= [48]):ek true s= .ok []:=by unfold ek; rw [if_pos ⟨rfl,h⟩]
theorem wU {s:Tx} (h:s≠[48]):ek true s=ek false s:=by unfold ek; simp [h]
theorem FW {s:Tx} (h:(a8 s).2.2.2≠0):ek false s= .error (a8 s).2.2.2:=by unfold ek; rw [if_neg (fun h2=>by cases h2.1),if_pos h]
theorem FX {s:Tx} (h:(a8 s).2.2.2=0) (h1:(a8 s).2.2.1=true):ek false s= .error 114:=by unfold ek; rw [if_neg (fun h2=>by cases h2.1),if_neg (fun h2=>h2 h),if_pos h1]
theorem FY {s:Tx} (h:(a8 s).2.2.2=0) (h1:(a8 s).2.2.1=false) (h2:fg (a8 s).1≠0):ek false s= .error (fg (a8 s).1):=by unfold ek; rw [if_neg (fun h2=>by cases h2.1),if_neg (fun h2=>h2 h),if_neg (by rw [h1]; simp),if_pos h2]
theorem FZ {s:Tx} (h:(a8 s).2.2.2=0) (h1:(a8 s).2.2.1=false) (h2:fg (a8 s).1=0):ek false s= .ok (a8 s).1:=by unfold ek; rw [if_neg (fun h2=>by cases h2.1),if_neg (fun h2=>h2 h),if_neg (by rw [h1]; simp),if_neg (fun h3=>h3 h2)]
theorem oV {s:Tx} {most:Int} (h:(dI s most).2=0):cR s most= .ok (dI s most).1:=by unfold cR; rw [if_neg (fun h2=>h2 h)]
theorem oU {s:Tx} {most:Int} (h:(dI s most).2≠0):cR s most= .error 13∧(dI s most).2=13:=by
 refine ⟨by unfold cR; rw [if_pos h],?_⟩
 rcases wa s most with h1 | ⟨h1,_⟩
 · rw [h1]
 · rw [h1] at h; exact absurd rfl h
theorem vw (l:List Tx) (a:Option Addr) (c:Nat) (x:Tx) (w:World) (G:bM w.heap a l) (aq:l.length≤1048576):
 a3 Tryz.prog 93 (List.toArray [.slice a l.length c,str x]) w (fun v w'=>v= .int .i64 (if x∈l then (l.idxOf x:Nat) else -1:Int)∧w'=w):=by
 refine enter Tryz.func93 U Tryz.ntmps93 U (ag (fun _ M=>(au (((M _ _ (sq (fun _ O=>ag (fun _ V=>aj (.slice a l.length c) (p (bo ea U U) (p mv (az ((V _ _ (aC (lp (fun E q J=> ∃ (i:Nat),(i≤l.length)∧(∀ j,j < i→l.getD j []≠x)∧(J=w)∧(q 0= .slice a l.length c)∧(q 1=str x)∧(q 7=ae (l.length))∧(q 8=ae i)∧(l.length - i=E)) _ ⟨0,aa,((fun j I=>by omega)),U,U,U,U,U,U⟩ ?_))))))))))))))))
 rintro E q J ⟨i,hi,C,ai,al,am,an,ao,rfl⟩
 refine fx 0 al (fx 1 am (fx 7 an (fx 8 ao ?_)))
 subst ai
 refine ag (fun _ Y=>(p (lt U U) (az ((Y _ _ (sq (fun _ Z=>cd U (fun ak=> ?_) (fun ak=> ?_))))))))
 refine aH (tn (Z _ _ (sq (fun _ A=>aC (ag (fun _ ab=>(aj (ae i) (p (bG (ae i) U) (az ((ab _ _ (ag (fun _ ac=>(aj (str x) (aj (.slice a l.length c) (aj (ae i) (p (aQ bT U U aa (aw.ok (G) (bL aa))) (p (ld bF U (bM.get (i:=i) G aa)) (p (fJ U U) (az ((ac _ _ (cd U (fun s=> ?_) (fun s=> ?_))))))))))))))))))))))))
 exact ag (fun _ ah=>(aj (ae i) (p (bG (ae i) U) (az ((ah _ _ (rt (br (tr (tr (br (tr (f1 U U (⟨by rw [if_pos (by rw [s]; exact dK aa),DN aa C s.symm]; rfl,U⟩))))))))))))))
 exact aH (bn (tn (A _ _ (rg U (p (ad U U (bu aa)) (p mv (nl (tn (⟨_,aa,i+1,aa,((fun j I=>by rcases Nat.lt_or_ge j i with h | h <;> first | exact C j h | (rw [show j=i by omega]; exact fun h2=>s h2.symm))),U,U,U,U,U,U⟩)))))))))
 exact ext (te _ (te _ (be (tn (O _ _ (ag (fun _ A=>(p aA (az ((A _ _ (rt (f1 U U (⟨by rw [if_neg (fun h=>by obtain ⟨j,I,ap⟩:=m9 [] h; exact C j aa ap)]; rfl,U⟩))))))))))))))
theorem Cw (l m:List Tx) (s C:Nat) (a b:Option Addr) (c d:Nat) (w:World) (Y:bM w.heap a l) (Z:bM w.heap b m) (aJ:l.length=s) (aK:m.length=C) (aI:s≤1048576):
 a3 Tryz.prog 115 (List.toArray [.slice a s c,.slice b C d]) w (fun v w'=>v= .bool (decide (l=m))∧Wk w w'):=by
 refine enter Tryz.func115 U Tryz.ntmps115 U (ag (fun _ ai=>(au (((ai _ _ (sq (fun _ am=>ag (fun _ an=>aj (.slice a s c) (p (bo ea U U) (aj (.slice b C d) (p (bo ea U U) (p (dF U U) (az ((an _ _ (cd U (fun av=> ?_) (fun av=> ?_))))))))))))))))))
 exact ag (fun _ I=>(au (((I _ _ (rt (tr (f1 U U (⟨by show Value.bool false =_; rw [decide_eq_false (Cv aa)],Md.refl _ _⟩)))))))))
 have ay:l.length=m.length:=aa
 refine aH (tn (am _ _ (sq (fun _ I=>ag (fun _ ao=>(aj (.slice a s c) (p (bo ea U U) (p mv (az ((ao _ _ (aC (lp (fun V G E=> ∃ (i:Nat),(i≤s)∧(∀ j,j < i→l.getD j []=m.getD j [])∧(Wk w E)∧(G 0= .slice a s c)∧(G 1= .slice b C d)∧(G 12=ae s)∧(G 13=ae i)∧(s - i=V)) _ ⟨0,aa,((fun j ac=>by omega)),(Md.refl _ _),U,U,U,U,U⟩ ?_)))))))))))))
 rintro V G E ⟨i,hi,ah,A,aB,aD,aE,aF,rfl⟩
 refine fx 0 aB (fx 1 aD (fx 12 aE (fx 13 aF (ag (fun _ ap=>(p (lt U U) (az ((ap _ _ (sq (fun _ aq=>cd U (fun ax=> ?_) (fun ax=> ?_))))))))))))
 refine aH (tn (aq _ _ (sq (fun _ J=>aC (ag (fun _ ar=>(aj (ae i) (p (bG (ae i) U) (az ((ar _ _ (sq (fun _ ak=> ?_)))))))))))))
 have q:(fun w'=>Wk E w') E.drew:=(Md.refl _ _).drew
 refine bS (fun w'=>Wk E w') U wide q (bH 0 U (.slice a s c) q (bH 1 U (ae i) q (aT 2 U (fun _ _=>aQ bT U U aa (aw.ok (Y.wk A) (bL aa))) q (aT 3 U (fun w' M=>ld bF U (Wk.aG M (bM.get (i:=i) (Y.wk A) aa))) q (bH 4 U (.slice b C d) q (bH 5 U (ae i) q (aT 6 U (fun _ _=>aQ bT U U aa (aw.ok (Z.wk A) (bL aa))) q (aT 7 U (fun w' M=>ld bF U (Wk.aG M (bM.get (i:=i) (Z.wk A) aa))) q (aT 8 U (fun _ _=>l5 U U) q (hn ab (tn (ak _ _ (cd U (fun O=> ?_) (fun O=> ?_))))))))))))))
 exact ag (fun _ al=>(au (((al _ _ (rt (br (tr (tr (br (tr (f1 U U (⟨by show Value.bool false =_; rw [decide_eq_false (Dl O)],A.drew⟩)))))))))))))
 exact aH (bn (tn (J _ _ (rg U (p (ad U U (bu aa)) (p mv (nl (tn (⟨_,aa,i+1,aa,((fun j ac=>by rcases Nat.lt_or_ge j i with h | h <;> first | exact ah j h | (rw [show j=i by omega]; exact Classical.not_not.1 O))),A.drew,U,U,U,U,U⟩)))))))))
 exact ext (te _ (te _ (be (tn (I _ _ (ag (fun _ J=>(p aA (az ((J _ _ (rt (f1 U U (⟨by show Value.bool true =_; rw [decide_eq_true (Dk ay (fun j ac=>ah j aa))],A⟩))))))))))))))
theorem jD (rb ln:Nat) (e:Int) (w:World) (j:Hb.aG w.heap rb 2=some (.int .i64 (ln:Nat))):
 c8 Tryz.prog 66 (List.toArray [.pointer (some ⟨rb,0,none⟩),.int .i64 e]) w (fun v w'=>v=Value.tuple #[]∧e=0∧w'=w) (fun c w'=>c=eO 25 ln e∧e≠0∧w'=w):=by
 refine fI Tryz.func66 U Tryz.ntmps66 U (sq (fun q a=>rg U (p (aB (.int .i64 e) U) (p (dF U U) (nl (tn (a _ _ (cd U (fun i=> ?_) (fun i=> ?_)))))))))
 exact rg U (p (aB (.pointer (some ⟨rb,0,none⟩)) U) (p (nc U) (p (fa m4 U) (p (ld eu U (j)) (p (aB (.int .i64 e) U) (p (bU (ps:= [(0,.int .i64 1),(1,.int .i64 (ln:Nat)),(2,.int .i64 e)]) (L:= [.int .i64 1,.int .i64 (ln:Nat),.int .i64 e]) iU U (U)) (p (E5 rk U) (F6 U (fun A s=>⟨U,aa,U⟩)))))))))
 refine aH (fk (f0 U ?_))
 exact ⟨U,aa,U⟩
theorem ej (rb ln:Nat) (b:Bool) (e:Int) (w:World) (s:Hb.aG w.heap rb 2=some (.int .i64 (ln:Nat))) (he:e≠0):
 c8 Tryz.prog 34 (List.toArray [.pointer (some ⟨rb,0,none⟩),.bool b,.int .i64 e]) w (fun v w'=>v=Value.tuple #[]∧b=true∧w'=w) (fun c w'=>c=eO 25 ln e∧b=false∧w'=w):=by
 refine fI Tryz.func34 U Tryz.ntmps34 U (sq (fun A j=>rg U (p (aB (.bool b) U) (p (no U) (nl (tn (j _ _ (cb U (fun a=> ?_) (fun a=> ?_)))))))))
 refine rg U (p (aB (.pointer (some ⟨rb,0,none⟩)) U) (p (aB (.int .i64 e) U) (eP U (bO jr (jD rb ln e w s) U fun v10 E q=> ?_) (fun c w' i G C=>⟨i.1,by simpa using a,i.2.2⟩))))
 exact absurd q.2.1 he
 refine aH (fk (f0 U ?_))
 exact ⟨U,by simpa using a,U⟩
theorem xH (B:Nat) (H:bw) (F:aM) (R:dV) (n:Nat) (r:List Tx) (rest:List Rw) (ln:Nat) (seen:List Tx) (w:World) (c:bC w B H F R ((n,r)::rest) ln seen):
 a3 Tryz.prog 33 (List.toArray [a6 H.rb]) w (fun v w'=>(∃ R',bC w' B H F R' rest n seen)∧Tg w' B 9 r.length v (r.map str)∧Md (fun k=>k=H.rb) w w'):=by
 obtain ⟨vr,vs,vn⟩:=R
 obtain ⟨a,j,aB⟩:=c.rws.slice
 obtain rfl :vr= .slice a (rest.length+1) j:=aB
 obtain ⟨q,vs,rfl⟩:∃ q E,vs=q::E:=by
  cases vs with
  | nil=>exact absurd c.rt.1 (by simp)
  | cons q E=>exact ⟨q,E,rfl⟩
 obtain ⟨A,aD⟩:=q
 obtain ⟨ay,Y⟩:=c.rt.2 0 (A,aD) (n,r) rfl rfl
 obtain rfl :A=n:=ay
 obtain ⟨ak,am,rfl⟩:=Y.slice
 have Z:rest.length+1≤j∧aw w.heap a (gB ((A,.slice ak r.length am)::vs)):=c.rws.cells
 have s:=c.cells
 have aI:H.rb < w.heap.size:=(Array.getElem?_eq_some_iff.1 s).1
 refine enter Tryz.func33 U Tryz.ntmps33 U (ag (fun _ ab=>(au (((ab _ _ (ag (fun _ ac=>(aj (a6 H.rb) (p (nc U) (p (fa m3 U) (p (ld lJ U ((a4 s).trans U)) (p (aQ lS U U aa (aw.ok (Z.2) (nn (by simp)))) (p (cC nV U (U) (np (i:=0) Z.2 U)) (e (al ye fun aF aJ aH M ap=> ?_))))))))))))))))
 have ax:=M.md.aC s
 refine e (b8 tM U U U U (ap) (by simp) fun aL G an=> ?_)
 have V:=G.aC ax (fun h=>by omega)
 refine az ((ac _ _ (ag (fun _ ad=>(aj (a6 H.rb) (aj (a6 H.rb) (p (nc U) (p (fa m3 U) (p (ld lJ U ((a4 V).trans U)) (p (me lS U U aa) (p (nc U) (p (fa m3 U) (e (dp tP U U (v:= .slice (dz a j 1 2) rest.length (j - 1)) U V (by show _ < 7; decide) fun aK I aq=> ?_))))))))))))))
 have O:=I.B an (fun h=>by omega)
 refine az ((ad _ _ (ag (fun _ ah=>(aj (a6 H.rb) (p (fa oG U) (p (ld eu U ((O.aG 0).trans U)) (p (nc U) (p (fa m4 U) (e (dp ju U U (v:=ae A) U aq (by show _ < 7; decide) fun aE J ar=> ?_)))))))))))
 have av:=J.B O (fun h=>by omega)
 refine az ((ah _ _ (ag (fun _ ai=>(p (fa mX U) (p (ld kz U ((av.aG 1).trans U)) (p aA (nl (tn (ai _ _ (rt (f1 U U ?_))))))))))))
 have C:Md (fun k=>k=H.rb) w aE:=(((M.md.mono fun _ _ h=>h.elim).trans' G (fun k hk h=>by omega)).trans' I (fun _ _ h=>h)).trans' J (fun _ _ h=>h)
 exact ⟨⟨⟨.slice (dz a j 1 2) rest.length (j - 1),vs,vn⟩,c.cw (R':=⟨.slice (dz a j 1 2) rest.length (j - 1),vs,vn⟩) C ar U (c.rws.lQ (m:=2) ((rQ _).trans (by have :=c.rt.1; simp at this; simp [this]))) (ec.tl c.rt)⟩,Y.md C (eG s ao),C⟩
theorem qY (B:Nat) (H:bw) (F:aM) (R:dV) (rows:List Rw) (ln:Nat) (seen:List Tx) (hd:List Tx) (ah j:Nat) (A:Option Addr) (C:Nat) (w:World) (I:bC w B H F R rows ln seen) (ap:Tg w ah 9 j (.slice A j C) (hd.map str)) (J:hd.length=j) (aW:j≤1000) (aI:∀ q∈rows,q.2.length≤70000):
 c8 Tryz.prog 98 (List.toArray [.pointer (some ⟨H.rb,0,none⟩),.slice A j C]) w (fun v w'=> ∃ n r rest,rows=(n,r)::rest∧r.take hd.length=hd∧(∃ R',bC w' B H F R' rest n seen)∧Tg w' B 9 r.length v (r.map str)∧Md (fun k=>k=H.rb) w w') (fun c w'=>((rows= []∧c=eO 25 H.eof 116)∨(∃ n r rest,rows=(n,r)::rest∧r.take hd.length≠hd∧c=eO 25 n 116))∧Md (fun k=>k=H.rb) w w'):=by
 obtain ⟨a,aU,aJ⟩:=I.rws.slice
 have Y:=I.cells
 have Z:=I.cells
 unfold nk at Y
 rw [aJ] at Y
 refine fI Tryz.func98 U Tryz.ntmps98 U (sq (fun aQ au=>rg U (p aA (nl (tn (au _ _ (sq (fun aR av=>sq (fun aS ax=>rg U (p (aB (.pointer (some ⟨H.rb,0,none⟩)) U) (p (nc U) (p (fa m3 U) (p (ld lJ U ((a4 Y).trans U)) (p (bo pD U U) (p (bp U U) (nl (tn (ax _ _ (cd U (fun ae=> ?_) (fun ae=> ?_))))))))))))))))))))
 obtain rfl :rows= []:=List.eq_nil_of_length_eq_zero aa
 refine sq (fun ai M=>rg U (p (aB (.pointer (some ⟨H.rb,0,none⟩)) U) (p (aB (.pointer (some ⟨H.rb,0,none⟩)) U) (p (nc U) (p (fa Db U) (p (ld eu U ((a4 Z).trans U)) (p (nc U) (p (fa m4 U) (e (dp ju U U (v:= .int .i64 (H.eof:Nat)) U Z (by show _ < 7; decide) fun aP ay an=>nl (tn (M _ _ (rg U (p (aB (.pointer (some ⟨H.rb,0,none⟩)) U) (eP U (bO jr (jD H.rb H.eof 116 aP ((a4 an).trans U)) U fun v20 a0 az=> ?_) (fun c w' i ag ac=>⟨.inl ⟨U,i.1⟩,i.2.2 ▸ ay⟩))))))))))))))))
 exact absurd az.2.1 ao
 obtain ⟨q,rest,rfl⟩:∃ q rest,rows=q::rest:=by
  cases rows with
  | nil=>exact absurd rfl ae
  | cons q rest=>exact ⟨q,rest,rfl⟩
 obtain ⟨n,r⟩:=q
 refine aH (tn (av _ _ (sq (fun ai M=>rg U (p (aB (.pointer (some ⟨H.rb,0,none⟩)) U) (e (cl tq (xH B H F R n r rest ln seen _ I) U fun aY aL aC=> ?_)))))))
 obtain ⟨⟨ak,G⟩,hT,E⟩:=aC
 obtain ⟨al,am,rfl⟩:=hT.slice
 have aE:=hT.bN
 have aX:r.length≤70000:=aI (n,r) (by simp)
 have aq:=ap.md E (eG Z ao)
 have ar:=aq.bN
 have aV:=G.cQ
 refine p aA (nl (tn (M _ _ (sq (fun aT ad=>rg U (p (aB (.pointer (some ⟨H.rb,0,none⟩)) U) (p mv (p (bo ea U U) (p (aB (.slice A j C) U) (p (bo ea U U) (p (ge U U) (p mv (gs (t:=29) U (fun aF=> ?_) (fun aF=> ?_))))))))))))))
 refine pg U U U mv (pg U U U (aB (.slice A j C) U) (pg U U U (bo ea U U) (pg U U U (nr bT U U aa) (pg U U U (aB (.slice A j C) U) (eg U U U (cl zk (Cw (r.take j) hd _ _ al A am C _ (by have :=aw.take aE.2 j; unfold bM; rw [List.map_take]; exact this) ar.2 (by rw [List.length_take]; omega) J aa) U fun aZ aN aD=> ?_))))))
 obtain ⟨rfl,s⟩:=aD
 refine p (bE U) (eP U (bO ed (ej H.rb n _ 116 aN (by first | exact G.cQ | exact Wk.aG s G.cQ) ao) U fun aK aO V=> ?_) (fun c w' i ag ac=>⟨.inr ⟨n,r,rest,U,(by rw [J]; first | exact of_decide_eq_false i.2.1 | exact fun h=>by have :=congrArg List.length h; rw [List.length_take] at this; omega),i.1⟩,(by rw [i.2.2]; first | exact E.trans' s (fun _ _ h=>h.elim) | exact E)⟩))
 obtain ⟨rfl,ab,rfl⟩:=V
 exact nl (tn (ad _ _ (sq (fun aj O=>rg U (p mv (p aA (nl (tn (O _ _ (rt (fk (f1 U U (⟨n,r,rest,U,(by rw [J]; exact of_decide_eq_true ab),⟨ak,G.wk s⟩,hT.wk s,E.trans' s (fun _ _ h=>h.elim)⟩)))))))))))))
 refine sk U U U U (sk U U U U (sk U U U U (sk U U U U (sk U U U U (sk U U U U (p (bj U) (eP U (bO ed (ej H.rb n _ 116 aL (by first | exact G.cQ | exact Wk.aG s G.cQ) ao) U fun aK aO V=> ?_) (fun c w' i ag ac=>⟨.inr ⟨n,r,rest,U,(by rw [J]; first | exact of_decide_eq_false i.2.1 | exact fun h=>by have :=congrArg List.length h; rw [List.length_take] at this; omega),i.1⟩,(by rw [i.2.2]; first | exact E.trans' s (fun _ _ h=>h.elim) | exact E)⟩))))))))
 obtain ⟨rfl,ab,rfl⟩:=V
 exact nl (tn (ad _ _ (sq (fun aj O=>rg U (p mv (p aA (nl (tn (O _ _ (rt (fk (f1 U U (absurd ab ao)))))))))))))
theorem oZ (rb ln:Nat) (s:Tx) (most:Int) (w:World) (J:Hb.aG w.heap rb 2=some (.int .i64 (ln:Nat))) (hs:s.length≤1048576) (hm: -9223372036854775808≤most∧most≤9223372036854775807):
 c8 Tryz.prog 97 (List.toArray [.pointer (some ⟨rb,0,none⟩),str s,.int .i64 most]) w (fun v w'=> ∃ a,cR s most= .ok a∧v= .int .i64 (a:Nat)∧Wk w w') (fun c w'=> ∃ e,cR s most= .error e∧c=eO 25 ln e∧Wk w w'):=by
 refine fI Tryz.func97 U Tryz.ntmps97 U (sq (fun V q=>rg U (p aA (nl (tn (q _ _ (sq (fun Y A=>rg U (p (aB (str s) U) (p (aB (.int .i64 most) U) (e (cl n9 (oW s most _ hs hm) U fun dG O G=> ?_))))))))))))
 obtain ⟨rfl,j⟩:=G
 refine p mv (p (xt U U) (p (xt U U) (p aA (p aA (nl (tn (A _ _ (sq (fun Z C=>rg U (p (aB (.pointer (some ⟨rb,0,none⟩)) U) (p mv (eP U (bO jr (jD rb ln (dI s most).2 O (Wk.aG j J)) U fun ac ad I=> ?_) (fun c w' i ae ab=>⟨13,(oU i.2.1).1,(by rw [i.1,(oU i.2.1).2]; rfl),(by rw [i.2.2]; exact j)⟩)))))))))))))
 obtain ⟨rfl,M,rfl⟩:=I
 exact nl (tn (C _ _ (sq (fun aa E=>rg U (p mv (p aA (nl (tn (E _ _ (rt (fk (f1 U U (⟨_,oV M,U,j⟩)))))))))))))
theorem rH (rb ln:Nat) (s:Tx) (w:World) (ah:Hb.aG w.heap rb 2=some (.int .i64 (ln:Nat))) (hs:s.length≤1048576):
 c8 Tryz.prog 94 (List.toArray [.pointer (some ⟨rb,0,none⟩),str s]) w (fun v w'=>v= .tuple #[]∧eF s=true∧Wk w w') (fun c w'=>c=eO 25 ln 21∧eF s=false∧Wk w w'):=by
 refine fI Tryz.func94 U Tryz.ntmps94 U (sq (fun an O=>rg U (p (aB (str s) U) (p (cA u9 U U) (p mv (nl (tn (O _ _ (aC (lp (fun E a M=> ∃ (i:Nat),(i≤s.length)∧(∀ j,j < i→e5 (s.getD j 0)=true)∧(Wk w M)∧(a 0= .pointer (some ⟨rb,0,none⟩))∧(a 1=str s)∧(a 6= .int .i64 (s.length:Nat))∧(a 7= .int .i64 (i:Nat))∧(s.length - i=E)) _ ⟨0,aa,((fun j G=>by omega)),(Md.refl _ _),U,U,U,U,U⟩ ?_))))))))))
 rintro E a M ⟨i,hi,I,q,ai,aj,ak,al,rfl⟩
 refine fx 0 ai (fx 1 aj (fx 6 ak (fx 7 al (sq (fun ap V=>rg U (p (lt U U) (nl (tn (V _ _ (sq (fun aq Y=>cd U (fun ag=> ?_) (fun ag=> ?_))))))))))))
 refine aH (tn (Y _ _ (sq (fun ar Z=>aC (sq (fun au ab=>rg U (p (aB (.int .i64 (i:Nat)) U) (p (bG (.int .i64 (i:Nat)) U) (nl (tn (ab _ _ (rg U (p (aB (.pointer (some ⟨rb,0,none⟩)) U) (p (aB (str s) U) (p (aB (.int .i64 (i:Nat)) U) (p (aB (.int .i64 (i:Nat)) U) (p (bm ((i+1:Nat):Int) U U (aU aa aa)) (p (kL u9 U U U aa) (e (cl tx (x4 ((s.take (i+1)).drop i) _ (by rw [List.length_drop,List.length_take]; omega)) U fun aw am ac=> ?_))))))))))))))))))))
 obtain ⟨rfl,A⟩:=ac
 refine eP U (bO ed (ej rb ln _ 21 am (Wk.aG (q.trans A) ah) ao) U fun ax ay ae=> ?_) (fun c w' C az av=>⟨C.1,n4 (i:=i) aa (by have h:=C.2.1; rw [xw (by omega :i < s.length),xY] at h; exact h),(by rw [C.2.2]; exact q.trans A)⟩)
 obtain ⟨rfl,J,rfl⟩:=ae
 rw [xw (by omega :i < s.length),xY] at J
 exact nl (bn (tn (Z _ _ (rg U (p (ad U U (bu aa)) (p mv (nl (tn (⟨_,aa,i+1,aa,((fun j G=>by rcases Nat.lt_or_ge j i with h | h <;> first | exact I j h | (rw [show j=i by omega]; exact J))),(q.trans A),U,U,U,U,U⟩)))))))))
 refine ext (te _ (te _ (be (fk (f0 U ?_)))))
 exact ⟨U,n5 (fun j G=>I j aa),q⟩
theorem xa (rb ln:Nat) (s:Tx) (w:World) (q:Hb.aG w.heap rb 2=some (.int .i64 (ln:Nat))) (hs:s.length≤1048576):
 c8 Tryz.prog 116 (List.toArray [.pointer (some ⟨rb,0,none⟩),str s]) w (fun v w'=>v=str s∧fg s=0∧Wk w w') (fun c w'=>c=eO 25 ln (fg s:Nat)∧fg s≠0∧Wk w w'):=by
 refine fI Tryz.func116 U Tryz.ntmps116 U (sq (fun ae I=>rg U (p aA (nl (tn (I _ _ (sq (fun ag J=>rg U (p (aB (.pointer (some ⟨rb,0,none⟩)) U) (p (aB (str s) U) (eP U (bO qc (rH rb ln s w q hs) U fun am ad ab=> ?_) (fun c w' a G A=>by have h:fg s=21:=uI (.inr a.2.1); exact ⟨by rw [h]; exact a.1,by rw [h]; decide,a.2.2⟩))))))))))))
 obtain ⟨rfl,E,i⟩:=ab
 refine nl (tn (J _ _ (sq (fun ah M=>rg U (p (aB (.pointer (some ⟨rb,0,none⟩)) U) (p (aB (str s) U) (p (l5 U U) (eP U (bO ed (ej rb ln _ 21 ad (Wk.aG i q) ao) U fun v11 ac Y=> ?_) (fun c w' a G A=>by have h:fg s=21:=uI (.inl (Classical.not_not.1 (of_decide_eq_false a.2.1))); exact ⟨by rw [h]; exact a.1,by rw [h]; decide,by rw [a.2.2]; exact i⟩)))))))))
 obtain ⟨rfl,j,rfl⟩:=Y
 have j:s≠[]:=of_decide_eq_true j
 refine nl (tn (M _ _ (sq (fun ai O=>rg U (p (aB (.pointer (some ⟨rb,0,none⟩)) U) (p (aB (str s) U) (p (cA u9 U U) (p (le U U) (eP U (bO ed (ej rb ln _ 22 ac (Wk.aG i q) ao) U fun al an Z=> ?_) (fun c w' a G A=>by have ak:=of_decide_eq_false a.2.1; have h:fg s=22:=CL j E aa; exact ⟨by rw [h]; exact a.1,by rw [h]; decide,by rw [a.2.2]; exact i⟩))))))))))
 obtain ⟨rfl,C,rfl⟩:=Z
 have C:=of_decide_eq_true C
 exact nl (tn (O _ _ (sq (fun aj V=>rg U (p (aB (str s) U) (p (bG (str s) U) (nl (tn (V _ _ (rt (fk (f1 U U (⟨U,CM j E aa,i⟩)))))))))))))
theorem wV (rb ln:Nat) (s:Tx) (w:World) (C:Hb.aG w.heap rb 2=some (.int .i64 (ln:Nat))) (hs:s.length≤1048576):
 c8 Tryz.prog 99 (List.toArray [.pointer (some ⟨rb,0,none⟩),str s]) w (fun v w'=> ∃ a,ek false s= .ok a∧v=str a∧Wk w w') (fun c w'=> ∃ e,ek false s= .error e∧c=eO 25 ln e∧Wk w w'):=by
 refine fI Tryz.func99 U Tryz.ntmps99 U (sq (fun aj J=>rg U (p aA (nl (tn (J _ _ (sq (fun ak M=>rg U (p (aB (str s) U) (e (cl qa (r9 s _ hs) U fun v11 ag Z=> ?_)))))))))))
 obtain ⟨rfl,j⟩:=Z
 have ap:=pK s
 refine p mv (p (xt U U) (p (xt U U) (p (xt U U) (p (xt U U) (p aA (p aA (p aA (p aA (nl (tn (M _ _ (sq (fun al O=>rg U (p (aB (.pointer (some ⟨rb,0,none⟩)) U) (p mv (eP U (bO jr (jD rb ln ((a8 s).2.2.2:Nat) ag (Wk.aG j C)) U fun aq ah ab=> ?_) (fun c w' i G E=>⟨_,FW (by have :=i.2.1; omega),i.1,by rw [i.2.2]; exact j⟩)))))))))))))))))
 obtain ⟨rfl,q,rfl⟩:=ab
 have q:(a8 s).2.2.2=0:=aa
 refine nl (tn (O _ _ (sq (fun am V=>rg U (p (aB (.pointer (some ⟨rb,0,none⟩)) U) (p mv (p (no U) (eP U (bO ed (ej rb ln _ 114 ah (Wk.aG j C) ao) U fun ar ai ac=> ?_) (fun c w' i G E=>⟨_,FX q (by simpa using i.2.1),i.1,by rw [i.2.2]; exact j⟩)))))))))
 obtain ⟨rfl,A,rfl⟩:=ac
 have A:(a8 s).2.2.1=false :=by simpa using A
 refine nl (tn (V _ _ (sq (fun an Y=>rg U (p (aB (.pointer (some ⟨rb,0,none⟩)) U) (p mv (eP U (bO s6 (xa rb ln (a8 s).1 ai (Wk.aG j C) aa) U fun au av ad=> ?_) (fun c w' i G E=>⟨_,FY q A i.2.1,i.1,j.trans i.2.2⟩))))))))
 obtain ⟨rfl,ae,I⟩:=ad
 exact p aA (nl (tn (Y _ _ (rt (fk (f1 U U (⟨_,FZ q A ae,U,j.trans I⟩)))))))
theorem wT (rb ln:Nat) (s:Tx) (w:World) (O:Hb.aG w.heap rb 2=some (.int .i64 (ln:Nat))) (hs:s.length≤1048576):
 c8 Tryz.prog 100 (List.toArray [.pointer (some ⟨rb,0,none⟩),str s]) w (fun v w'=> ∃ a,ek true s= .ok a∧v=str a∧Wk w w') (fun c w'=> ∃ e,ek true s= .error e∧c=eO 25 ln e∧Wk w w'):=by
 refine fI Tryz.func100 U Tryz.ntmps100 U (sq (fun V C=>rg U (p aA (nl (tn (C _ _ (sq (fun Y E=>sq (fun Z G=>rg U (p (aB (str s) U) (p (fJ U U) (nl (tn (G _ _ (cd U (fun i=> ?_) (fun i=> ?_))))))))))))))))
 exact sq (fun q j=>rg U (p aA (nl (tn (j _ _ (rt (tr (fk (f1 U U (⟨[],F1 i,U,Md.refl _ _⟩))))))))))
 refine aH (tn (E _ _ (sq (fun q j=>rg U (p (aB (.pointer (some ⟨rb,0,none⟩)) U) (p (aB (str s) U) (eP U (bO tD (wV rb ln s w O hs) U fun v9 ab J=> ?_) (fun c w' I ac aa=>by obtain ⟨e,he,h⟩:=I; exact ⟨e,by rw [wU i]; exact he,h⟩))))))))
 obtain ⟨a,M,rfl,A⟩:=J
 exact p aA (nl (tn (j _ _ (rt (fk (f1 U U (⟨a,by rw [wU i]; exact M,U,A⟩)))))))
end Go.Hb.fP
end
