/-
  Walks and plain laws that the law rests on, laid together. No conditions but those that each theorem names.
-/
import Derived.Test.YtkiemnnhcilhpaaGreatDoorMnDicFinds2
set_option linter.unusedVariables false
section
set_option maxRecDepth 20000
set_option maxHeartbeats 1000000
namespace Go.Hb.mh
open Go.Hb.di
open Go.Proofs
theorem Im (x:Nat) (w:World):
 aU Tryz.prog 180 (List.toArray [aM x]) w (fun v w'=>v= .bool false∧Wk w w'):=by
 refine enter Tryz.func180 rfl Tryz.ntmps180 rfl ?_
 refine U (fun _ a=>(ae (((a _ _ (U (fun _ i=>(ab (aM x) ?_))))))))
 exact ab (aM x) (p (bP rfl rfl) (ae (((i _ _ (rt (f1 rfl rfl (⟨congrArg Value.bool (decide_eq_false (fun h=>h rfl)),Md.refl _ _⟩))))))))
theorem iM (x y:Nat) (w:World):
 aU Tryz.prog 162 (List.toArray [aM x,aM y]) w (fun v w'=>v= .bool (bm x y)∧Wk w w'):=by
 refine enter Tryz.func162 rfl Tryz.ntmps162 rfl ?_
 refine U (fun _ a=>(ae (((a _ _ (U (fun _ i=>(ab (aM x) ?_))))))))
 refine e (cl DT (Im x _) rfl fun v6 w6 hR6=> ?_)
 obtain ⟨rfl,j⟩:=hR6
 refine p mv (sk rfl rfl rfl rfl (sk rfl rfl rfl rfl (sk rfl rfl rfl rfl (p (a4 rfl) (p mv (pg rfl rfl rfl (aB (aM x) rfl) (pg rfl rfl rfl (aB (aM y) rfl) ?_)))))))
 exact pg rfl rfl rfl (lt rfl rfl) (p (a4 rfl) (ae (((i _ _ (rt (f1 rfl rfl (⟨by show Value.bool (decide ((x:Int) < (y:Int)))=_; unfold bm; exact congrArg Value.bool (decide_eq_decide.2 (by omega)),j⟩))))))))
theorem Ij (d:Array Nat) (a b:Nat) (B n cp:Nat) (A:Option Addr) (w:World) (ap:w.ownsRow B 71 1 (.slice A n cp) n (LE aM d)) (a0:a≤b∧b≤n) (a1:n≤1099511627776):
 aU Tryz.prog 156 (List.toArray [.slice A n cp,aa a,aa b]) w (fun v w'=>v= .tuple #[]∧w'.ownsRow B 71 1 (.slice A n cp) n (LE aM (Go.Sort.insertionSort bm d a b))∧Md (fun q=>(Value.slice A n cp).ownBlock=some q) w w'):=by
 have hdn:=dS ap
 refine enter Tryz.func156 rfl Tryz.ntmps156 rfl ?_
 refine U (fun _ ar=>(ab (aa a) (p (a9 ((a+1:Nat):Int) rfl rfl (aQ (by omega) (by omega))) (ae (((ar _ _ (az ?_))))))))
 refine lp (fun Y Z al=> ∃ (i:Nat) (V:Array Nat),(a+1≤i∧i≤n+1)∧(Go.Sort.insOuter bm a b i V=Go.Sort.insertionSort bm d a b)∧(al.ownsRow B 71 1 (.slice A n cp) n (LE aM V))∧(Md (fun q=>(Value.slice A n cp).ownBlock=some q) w al)∧(Z 0= .slice A n cp)∧(Z 1=aa a)∧(Z 2=aa b)∧(Z 6=aa i)∧(b - i=Y)) _ ⟨a+1,d,(by omega),rfl,ap,(Md.refl _ _),rfl,rfl,rfl,rfl,rfl⟩ ?_
 rintro Y Z al ⟨i,V,hi,ai,aq,ao,aP,aR,aS,aT,rfl⟩
 refine fx 0 aP (fx 1 aR (fx 2 aS (fx 6 aT (sq (fun _ av=>U (fun _ aw=>(ab (aa i) (ab (aa b) (p (lt rfl rfl) (nl ?_))))))))))
 refine tn (aw _ _ (cd rfl (fun aL=> ?_) (fun aL=> ?_)))
 refine au (tn (av _ _ (sq (fun _ am=>az (U (fun _ ax=>(ab (aa i) (p (bG (aa i) rfl) ?_))))))))
 refine ag ((ax _ _ (az (lp (fun Y O J=> ∃ (j:Nat) (E:Array Nat),(a≤j∧j≤i)∧(Go.Sort.insInner bm a j E=Go.Sort.insInner bm a i V)∧(J.ownsRow B 71 1 (.slice A n cp) n (LE aM E))∧(Md (fun q=>(Value.slice A n cp).ownBlock=some q) w J)∧(O 0= .slice A n cp)∧(O 1=aa a)∧(O 2=aa b)∧(O 6=aa i)∧(O 7=aa j)∧(j=Y)) _ ⟨i,V,(by omega),rfl,aq,ao,rfl,rfl,rfl,rfl,rfl,rfl⟩ ?_))))
 rintro Y O J ⟨j,E,hj,hq2,I,ac,aV,aW,aX,aY,aZ,rfl⟩
 refine fx 0 aV (fx 1 aW (fx 2 aX (fx 6 aY (fx 7 aZ (sq (fun _ ay=>sq (fun _ an=> ?_)))))))
 have hden:=dS I
 have s:(fun w'=>Wk J w') J.drew:=(Md.refl _ _).drew
 refine bC (fun w'=>Wk J w') rfl wide s (bo 0 rfl (aa j) s (bo 1 rfl (aa a) s (aA 2 rfl (fun _ _=>gt rfl rfl) s (aA 3 rfl (fun _ _=>mv) s (jd (t:=19) rfl (fun aK=> ?_) (fun aK=> ?_))))))
 refine bc 4 rfl (by kernel_rfl) rfl rfl rfl (fun _ _=>aB (.slice A n cp) rfl) s (bc 5 rfl (by kernel_rfl) rfl rfl rfl (fun _ _=>aB (aa j) rfl) s (bc 6 rfl (by kernel_rfl) rfl rfl rfl (fun _ _=>aJ bj rfl rfl (by omega) (ak.ok ((aI I).2) (bu (by omega)))) s (bc 7 rfl (by kernel_rfl) rfl rfl rfl (fun w' G=>ld bJ rfl (bZ (i:=j) ((aI I).2.wk G) (by omega))) s (bc 8 rfl (by kernel_rfl) rfl rfl rfl (fun _ _=>aB (.slice A n cp) rfl) s (bc 9 rfl (by kernel_rfl) rfl rfl rfl (fun _ _=>aB (aa j) rfl) s (bc 10 rfl (by kernel_rfl) rfl rfl rfl (fun _ _=>cI ((j - 1:Nat):Int) rfl rfl (aQ (by omega) (by omega))) s (bc 11 rfl (by kernel_rfl) rfl rfl rfl (fun _ _=>aJ bj rfl rfl (by omega) (ak.ok ((aI I).2) (bu (by omega)))) s ?_)))))))
 refine bc 12 rfl (by kernel_rfl) rfl rfl rfl (fun w' G=>ld bJ rfl (bZ (i:=j - 1) ((aI I).2.wk G) (by omega))) s (ks 13 rfl (by kernel_rfl) rfl rfl rfl (cl iH (iM E[j]! E[j - 1]! _) rfl fun a2 w29 aH=> ?_))
 obtain ⟨rfl,hE29⟩:=aH
 have M:(fun w'=>Wk J w') w29:=Md.trans s hE29
 refine ⟨M,?_⟩
 refine aA 14 rfl (fun _ _=>bf rfl) M (hn (by kernel_rfl) (tn (an _ _ (cb rfl (fun ah=> ?_) (fun ah=> ?_)))))
 refine au (tn (ay _ _ (sq (fun _ aC=>az ?_))))
 have hO6:=aE I M
 have C:(fun w'=>Wk w29 w') w29.drew:=(Md.refl _ _).drew
 refine dG (fun w'=>Wk w29 w') 15 rfl wide C (a3 0 rfl (.slice A n cp) C (a3 1 rfl (aa j) C (a3 2 rfl (.slice A n cp) C (a3 3 rfl (aa j) C (a5 4 rfl (fun _=>cI ((j - 1:Nat):Int) rfl rfl (aQ (by omega) (by omega))) (fun _=>C) (a3 5 rfl (.slice A n cp) C (a3 6 rfl (aa j) C ?_)))))))
 refine a5 7 rfl (fun _=>cI ((j - 1:Nat):Int) rfl rfl (aQ (by omega) (by omega))) (fun _=>C) (a5 8 rfl (fun _=>aJ bj rfl rfl (by omega) (ak.ok ((aI hO6).2) (bu (by omega)))) (fun _=>C) (cO 9 rfl (fun w' G=>ld bJ rfl (bZ (i:=j - 1) ((aI hO6).2.wk G) (by omega))) C (a3 10 rfl (.slice A n cp) C (a3 11 rfl (aa j) C (a5 12 rfl (fun _=>aJ bj rfl rfl (by omega) (ak.ok ((aI hO6).2) (bu (by omega)))) (fun _=>C) (cO 13 rfl (fun w' G=>ld bJ rfl (bZ (i:=j) ((aI hO6).2.wk G) (by omega))) C (a5 14 rfl (fun _=>aJ bj rfl rfl (by omega) (ak.ok ((aI hO6).2) (bu (by omega)))) (fun _=>C) ?_)))))))
 refine cD 15 rfl (by kernel_rfl) (by kernel_rfl) (ej (u:=E[j - 1]!) (j) (aE hO6 C) eb rfl rfl rfl (by omega) fun a6 aF aN=> ?_)
 refine a5 16 rfl (fun _=>aJ bj rfl rfl (by omega) (ak.ok ((aI hO6).2) (bu (by omega)))) (fun h=>Bool.noConfusion ((show true =_ from by kernel_rfl).trans h)) (cD 17 rfl (by kernel_rfl) (by kernel_rfl) (ej (u:=E[j]!) (j - 1) aN eb rfl rfl rfl (by omega) fun wS2 aG aO=> ?_))
 have G:wS2.ownsRow B 71 1 (.slice A n cp) n (LE aM (Go.Sort.swp E (j) (j - 1))):=aO
 have aD:Md (fun q=>(Value.slice A n cp).ownBlock=some q) w29 wS2:=Md.trans (C.mono (fun _ _ h=>h.elim)) (Md.trans aF aG)
 refine dF (by kernel_rfl) ?_
 refine bn (tn (aC _ _ (rg rfl (ab (aa j) (p (cI ((j - 1:Nat):Int) rfl rfl (aQ (by omega) (by omega))) (p aj (nl (tn ?_))))))))
 exact ⟨_,by omega,j - 1,Go.Sort.swp E j (j - 1),(by omega),((by rw [← hq2,Ig (show a < j by omega) ah])),G,(Md.trans ac (Md.trans (M.mono (fun _ _ h=>h.elim)) aD)),rfl,rfl,rfl,rfl,rfl,rfl⟩
 refine ext (te _ (te _ (be (bn (tn (am _ _ (rg rfl (ab (aa i) ?_))))))))
 exact p (a9 ((i+1:Nat):Int) rfl rfl (aQ (by omega) (by omega))) (ae (((⟨_,by omega,i+1,E,(by omega),((by rw [← ai,zU (show i < b by omega),← hq2,Ih (by simpa using ah)])),(aE I M),(Md.trans ac (M.mono (fun _ _ h=>h.elim))),rfl,rfl,rfl,rfl,rfl⟩))))
 refine a7 4 rfl (by kernel_rfl) rfl rfl rfl rfl s ?_
 refine a7 5 rfl (by kernel_rfl) rfl rfl rfl rfl s ?_
 refine a7 6 rfl (by kernel_rfl) rfl rfl rfl rfl s ?_
 refine a7 7 rfl (by kernel_rfl) rfl rfl rfl rfl s ?_
 refine a7 8 rfl (by kernel_rfl) rfl rfl rfl rfl s ?_
 refine a7 9 rfl (by kernel_rfl) rfl rfl rfl rfl s ?_
 refine a7 10 rfl (by kernel_rfl) rfl rfl rfl rfl s ?_
 refine a7 11 rfl (by kernel_rfl) rfl rfl rfl rfl s ?_
 refine a7 12 rfl (by kernel_rfl) rfl rfl rfl rfl s ?_
 refine a7 13 rfl (by kernel_rfl) rfl rfl rfl rfl s ?_
 refine aA 14 rfl (fun _ _=>a4 rfl) s (hn (by kernel_rfl) (tn (an _ _ (cf rfl (ext (te _ (te _ (be ?_))))))))
 refine bn (tn (am _ _ (rg rfl (ab (aa i) (p (a9 ((i+1:Nat):Int) rfl rfl (aQ (by omega) (by omega))) (p aj (nl (tn ?_))))))))
 exact ⟨_,by omega,i+1,E,(by omega),((by rw [← ai,zU (show i < b by omega),← hq2,Ii (by omega)])),(aE I (Md.refl _ _).drew),ac.drew,rfl,rfl,rfl,rfl,rfl⟩
 refine ext (te _ (te _ (be (f0 rfl ?_))))
 exact ⟨rfl,by rw [← ai,If (by omega)]; exact aq,ao⟩
theorem KV (d:Array Nat) (lo hi first :Nat) (B n cp:Nat) (s:Option Addr) (w:World) (aG:w.ownsRow B 71 1 (.slice s n cp) n (LE aM d)) (a1:lo≤hi∧first+hi≤n) (a2:n≤1099511627776):
 aU Tryz.prog 175 (List.toArray [.slice s n cp,aa lo,aa hi,aa first]) w (fun v w'=>v= .tuple #[]∧w'.ownsRow B 71 1 (.slice s n cp) n (LE aM (Go.Sort.siftDown bm hi first lo d))∧Md (fun q=>(Value.slice s n cp).ownBlock=some q) w w'):=by
 refine enter Tryz.func175 rfl Tryz.ntmps175 rfl ?_
 refine U (fun _ ap=>(ab (aa lo) (p (bG (aa lo) rfl) (ag ((ap _ _ (az (lp (fun am Y J=> ∃ (r:Nat) (A:Array Nat),(r≤hi)∧(Go.Sort.siftDown bm hi first r A=Go.Sort.siftDown bm hi first lo d)∧(J.ownsRow B 71 1 (.slice s n cp) n (LE aM A))∧(Md (fun q=>(Value.slice s n cp).ownBlock=some q) w J)∧(Y 0= .slice s n cp)∧(Y 2=aa hi)∧(Y 3=aa first)∧(Y 8=aa r)∧(hi - r=am)) _ ⟨lo,d,(by omega),rfl,aG,(Md.refl _ _),rfl,rfl,rfl,rfl,rfl⟩ ?_))))))))
 rintro am Y J ⟨r,A,hr,al,G,ac,aR,aS,aT,aV,rfl⟩
 refine fx 0 aR (fx 2 aS (fx 3 aT (fx 8 aV (az (U (fun _ aq=>(ab (aa r) (p (kt ((2 *r:Nat):Int) rfl rfl (aQ (by omega) (by omega))) (p (a9 ((2 *r+1:Nat):Int) rfl rfl (aQ (by omega) (by omega))) (p aj ?_))))))))))
 refine ag ((aq _ _ (sq (fun _ ar=>U (fun _ av=>(p mv (ab (aa hi) (p (ge rfl rfl) ?_))))))))
 refine ag ((av _ _ (cd rfl (fun aL=> ?_) (fun aL=> ?_))))
 refine ext (te _ (kj (by decide) (te _ (be (f0 rfl ?_)))))
 exact ⟨rfl,by rw [← al,KS (by omega)]; exact G,ac⟩
 refine au (tn (ar _ _ ?_))
 refine cX (fun V wC=> ∃ (c:Nat),(r < c∧c < hi)∧(Go.Sort.siftDown bm hi first r A=if (!bm A[first+r]! A[first+c]!)=true then A else Go.Sort.siftDown bm hi first c (Go.Sort.swp A (first+r) (first+c)))∧(wC.ownsRow B 71 1 (.slice s n cp) n (LE aM A))∧(Md (fun q=>(Value.slice s n cp).ownBlock=some q) w wC)∧(V 0= .slice s n cp)∧(V 2=aa hi)∧(V 3=aa first)∧(V 8=aa r)∧(V 9=aa c)) ?_ ?_
 refine sq (fun _ Z=> ?_)
 have hdcn:=dS G
 have a:(fun w'=>Wk J w') J.drew:=(Md.refl _ _).drew
 refine bC (fun w'=>Wk J w') rfl wide a (aA 0 rfl (fun _ _=>mv) a (aA 1 rfl (fun _ _=>a9 ((2 *r+1 +1:Nat):Int) rfl rfl (aQ (by omega) (by omega))) a (bo 2 rfl (aa hi) a (aA 3 rfl (fun _ _=>lt rfl rfl) a (aA 4 rfl (fun _ _=>mv) a (jd (t:=21) rfl (fun aN=> ?_) (fun aN=> ?_)))))))
 refine bc 5 rfl (by kernel_rfl) rfl rfl rfl (fun _ _=>aB (.slice s n cp) rfl) a (bc 6 rfl (by kernel_rfl) rfl rfl rfl (fun _ _=>aB (aa first) rfl) a (bc 7 rfl (by kernel_rfl) rfl rfl rfl (fun _ _=>mv) a (bc 8 rfl (by kernel_rfl) rfl rfl rfl (fun _ _=>a9 ((first+(2 *r+1):Nat):Int) rfl rfl (aQ (by omega) (by omega))) a (bc 9 rfl (by kernel_rfl) rfl rfl rfl (fun _ _=>aJ bj rfl rfl (by omega) (ak.ok ((aI G).2) (bu (by omega)))) a (bc 10 rfl (by kernel_rfl) rfl rfl rfl (fun w' E=>ld bJ rfl (bZ (i:=first+(2 *r+1)) ((aI G).2.wk E) (by omega))) a (bc 11 rfl (by kernel_rfl) rfl rfl rfl (fun _ _=>aB (.slice s n cp) rfl) a (bc 12 rfl (by kernel_rfl) rfl rfl rfl (fun _ _=>aB (aa first) rfl) a ?_)))))))
 refine bc 13 rfl (by kernel_rfl) rfl rfl rfl (fun _ _=>mv) a (bc 14 rfl (by kernel_rfl) rfl rfl rfl (fun _ _=>a9 ((first+(2 *r+1):Nat):Int) rfl rfl (aQ (by omega) (by omega))) a (bc 15 rfl (by kernel_rfl) rfl rfl rfl (fun _ _=>a9 ((first+(2 *r+1)+1:Nat):Int) rfl rfl (aQ (by omega) (by omega))) a (bc 16 rfl (by kernel_rfl) rfl rfl rfl (fun _ _=>aJ bj rfl rfl (by omega) (ak.ok ((aI G).2) (bu (by omega)))) a (bc 17 rfl (by kernel_rfl) rfl rfl rfl (fun w' E=>ld bJ rfl (bZ (i:=first+(2 *r+1)+1) ((aI G).2.wk E) (by omega))) a (ks 18 rfl (by kernel_rfl) rfl rfl rfl (cl iH (iM A[first+(2 *r+1)]! A[first+(2 *r+1)+1]! _) rfl fun a6 w35 aH=> ?_))))))
 obtain ⟨rfl,ay⟩:=aH
 have M:(fun w'=>Wk J w') w35:=Md.trans a ay
 refine ⟨M,?_⟩
 refine aA 19 rfl (fun _ _=>bf rfl) M (hn (by kernel_rfl) (tn (Z _ _ (cb rfl (fun ah=> ?_) (fun ah=> ?_)))))
 exact rg rfl (p mv (p (a9 ((2 *r+2:Nat):Int) rfl rfl (aQ (by omega) (by omega))) (ae (((⟨2 *r+2,(by omega),(KU (by omega) ah),(aE G M),(Md.trans ac (M.mono (fun _ _ h=>h.elim))),rfl,rfl,rfl,rfl,rfl⟩))))))
 exact au (tn (⟨2 *r+1,(by omega),(Bj (by omega) (.inr ah)),(aE G M),(Md.trans ac (M.mono (fun _ _ h=>h.elim))),rfl,rfl,rfl,rfl,rfl⟩))
 refine a7 5 rfl (by kernel_rfl) rfl rfl rfl rfl a ?_
 refine a7 6 rfl (by kernel_rfl) rfl rfl rfl rfl a ?_
 refine a7 7 rfl (by kernel_rfl) rfl rfl rfl rfl a ?_
 refine a7 8 rfl (by kernel_rfl) rfl rfl rfl rfl a ?_
 refine a7 9 rfl (by kernel_rfl) rfl rfl rfl rfl a ?_
 refine a7 10 rfl (by kernel_rfl) rfl rfl rfl rfl a ?_
 refine a7 11 rfl (by kernel_rfl) rfl rfl rfl rfl a ?_
 refine a7 12 rfl (by kernel_rfl) rfl rfl rfl rfl a ?_
 refine a7 13 rfl (by kernel_rfl) rfl rfl rfl rfl a ?_
 refine a7 14 rfl (by kernel_rfl) rfl rfl rfl rfl a ?_
 refine a7 15 rfl (by kernel_rfl) rfl rfl rfl rfl a ?_
 refine a7 16 rfl (by kernel_rfl) rfl rfl rfl rfl a ?_
 refine a7 17 rfl (by kernel_rfl) rfl rfl rfl rfl a ?_
 refine a7 18 rfl (by kernel_rfl) rfl rfl rfl rfl a ?_
 exact aA 19 rfl (fun _ _=>a4 rfl) a (hn (by kernel_rfl) (tn (Z _ _ (cf rfl (au (tn (⟨2 *r+1,(by omega),(Bj (by omega) (.inl (by omega))),(aE G (Md.refl _ _).drew),ac.drew,rfl,rfl,rfl,rfl,rfl⟩)))))))
 rintro V wC ⟨c,hc,ao,I,an,aW,aX,aY,aZ,a0⟩
 refine fx 0 aW (fx 2 aX (fx 3 aY (fx 8 aZ (fx 9 a0 (sq (fun _ Z=>sq (fun _ aw=> ?_)))))))
 have hdcn:=dS I
 have C:(fun w'=>Wk wC w') wC.drew:=(Md.refl _ _).drew
 refine bC (fun w'=>Wk wC w') rfl wide C (bo 0 rfl (.slice s n cp) C (bo 1 rfl (aa first) C (bo 2 rfl (aa r) C (aA 3 rfl (fun _ _=>a9 ((first+r:Nat):Int) rfl rfl (aQ (by omega) (by omega))) C (aA 4 rfl (fun _ _=>aJ bj rfl rfl (by omega) (ak.ok ((aI I).2) (bu (by omega)))) C (aA 5 rfl (fun w' E=>ld bJ rfl (bZ (i:=first+r) ((aI I).2.wk E) (by omega))) C (bo 6 rfl (.slice s n cp) C ?_)))))))
 refine bo 7 rfl (aa first) C (bo 8 rfl (aa c) C (aA 9 rfl (fun _ _=>a9 ((first+c:Nat):Int) rfl rfl (aQ (by omega) (by omega))) C (aA 10 rfl (fun _ _=>aJ bj rfl rfl (by omega) (ak.ok ((aI I).2) (bu (by omega)))) C (aA 11 rfl (fun w' E=>ld bJ rfl (bZ (i:=first+c) ((aI I).2.wk E) (by omega))) C (he 12 rfl (by kernel_rfl) (cl iH (iM A[first+r]! A[first+c]! _) rfl fun a8 w51 aK=> ?_))))))
 obtain ⟨rfl,hE51⟩:=aK
 have O:(fun w'=>Wk wC w') w51:=Md.trans C hE51
 refine ⟨O,?_⟩
 refine aA 13 rfl (fun _ _=>no rfl) O (hn (by kernel_rfl) (tn (aw _ _ (cb rfl (fun ai=> ?_) (fun ai=> ?_)))))
 refine rt (tr (br (tr (br (qg rfl ?_)))))
 exact ⟨rfl,by rw [← al,ao,if_pos ai]; exact aE I O,Md.trans an (O.mono (fun _ _ h=>h.elim))⟩
 refine au (tn (Z _ _ (sq (fun _ ax=> ?_))))
 have hO6:=aE I O
 have j:(fun w'=>Wk w51 w') w51.drew:=(Md.refl _ _).drew
 refine dG (fun w'=>Wk w51 w') 21 rfl wide j (a3 0 rfl (.slice s n cp) j (a3 1 rfl (aa first) j (a3 2 rfl (aa r) j (a5 3 rfl (fun _=>a9 ((first+r:Nat):Int) rfl rfl (aQ (by omega) (by omega))) (fun _=>j) (a3 4 rfl (.slice s n cp) j (a3 5 rfl (aa first) j (a3 6 rfl (aa c) j ?_)))))))
 refine a5 7 rfl (fun _=>a9 ((first+c:Nat):Int) rfl rfl (aQ (by omega) (by omega))) (fun _=>j) (a3 8 rfl (.slice s n cp) j (a3 9 rfl (aa first) j (a3 10 rfl (aa c) j (a5 11 rfl (fun _=>a9 ((first+c:Nat):Int) rfl rfl (aQ (by omega) (by omega))) (fun _=>j) (a5 12 rfl (fun _=>aJ bj rfl rfl (by omega) (ak.ok ((aI hO6).2) (bu (by omega)))) (fun _=>j) (cO 13 rfl (fun w' E=>ld bJ rfl (bZ (i:=first+c) ((aI hO6).2.wk E) (by omega))) j (a3 14 rfl (.slice s n cp) j ?_)))))))
 refine a3 15 rfl (aa first) j (a3 16 rfl (aa r) j (a5 17 rfl (fun _=>a9 ((first+r:Nat):Int) rfl rfl (aQ (by omega) (by omega))) (fun _=>j) (a5 18 rfl (fun _=>aJ bj rfl rfl (by omega) (ak.ok ((aI hO6).2) (bu (by omega)))) (fun _=>j) (cO 19 rfl (fun w' E=>ld bJ rfl (bZ (i:=first+r) ((aI hO6).2.wk E) (by omega))) j (a5 20 rfl (fun _=>aJ bj rfl rfl (by omega) (ak.ok ((aI hO6).2) (bu (by omega)))) (fun _=>j) (cD 21 rfl (by kernel_rfl) (by kernel_rfl) (ej (u:=A[first+c]!) (first+r) (aE hO6 j) eb rfl rfl rfl (by omega) fun ba aD aO=> ?_)))))))
 refine a5 22 rfl (fun _=>aJ bj rfl rfl (by omega) (ak.ok ((aI hO6).2) (bu (by omega)))) (fun h=>Bool.noConfusion ((show true =_ from by kernel_rfl).trans h)) (cD 23 rfl (by kernel_rfl) (by kernel_rfl) (ej (u:=A[first+r]!) (first+c) aO eb rfl rfl rfl (by omega) fun wS2 aF aP=> ?_))
 have E:wS2.ownsRow B 71 1 (.slice s n cp) n (LE aM (Go.Sort.swp A (first+r) (first+c))):=aP
 have aC:Md (fun q=>(Value.slice s n cp).ownBlock=some q) w51 wS2:=Md.trans (j.mono (fun _ _ h=>h.elim)) (Md.trans aD aF)
 refine dF (by kernel_rfl) ?_
 exact tn (ax _ _ (rg rfl (ab (aa c) (p (bG (aa c) rfl) (nl (bn (tn (⟨_,by omega,c,Go.Sort.swp A (first+r) (first+c),(by omega),((by rw [← al,ao,if_neg (by rw [ai]; exact Bool.noConfusion)])),E,(Md.trans an (Md.trans (O.mono (fun _ _ h=>h.elim)) aC)),rfl,rfl,rfl,rfl,rfl⟩))))))))
theorem Bk (d:Array Nat) (lo hi first :Nat) (j i:Int) (B n cp:Nat) (a:Option Addr) (w:World) (p:w.ownsRow B 71 1 (.slice a n cp) n (LE aM d)) (s:lo≤hi∧first+hi≤n) (hlo:j=(lo:Nat)) (A:i=(hi:Nat)) (C:n≤1099511627776):
 aU Tryz.prog 175 (List.toArray [.slice a n cp,.int .i64 j,.int .i64 i,.int .i64 (first :Nat)]) w (fun v w'=>v= .tuple #[]∧w'.ownsRow B 71 1 (.slice a n cp) n (LE aM (Go.Sort.siftDown bm hi first lo d))∧Md (fun q=>(Value.slice a n cp).ownBlock=some q) w w'):=by
 subst hlo A; exact KV d lo hi first B n cp a w p s C
theorem HW (d:Array Nat) (a b:Nat) (B n cp:Nat) (j:Option Addr) (w:World) (aD:w.ownsRow B 71 1 (.slice j n cp) n (LE aM d)) (a2:a < b∧b≤n) (ac:n≤1099511627776):
 aU Tryz.prog 157 (List.toArray [.slice j n cp,aa a,aa b]) w (fun v w'=>v= .tuple #[]∧w'.ownsRow B 71 1 (.slice j n cp) n (LE aM (Go.Sort.heapSort bm d a b))∧Md (fun q=>(Value.slice j n cp).ownBlock=some q) w w'):=by
 refine enter Tryz.func157 rfl Tryz.ntmps157 rfl ?_
 refine U (fun _ ah=>(ab (aa a) (p (bG (aa a) rfl) (ag ((ah _ _ (U (fun _ an=> ?_))))))))
 refine ae (((an _ _ (U (fun _ ao=>(ab (aa b) (ab (aa a) (p (cI ((b - a:Nat):Int) rfl rfl (aQ (by omega) (by omega))) ?_))))))))
 refine ae (((ao _ _ (sq (fun _ ap=>U (fun _ aq=>(p mv (p (cI ((b - a - 1:Nat):Int) rfl rfl (aQ (by omega) (by omega))) ?_))))))))
 refine p (l2 (((b - a - 1) / 2:Nat):Int) rfl rfl (by omega) (aQ (by omega) (by omega))) (ae (((aq _ _ (az (lp (fun J G Z=> ∃ (k:Nat) (A:Array Nat),(k≤b - a)∧(Go.Sort.heapBuild bm (b - a) a k A=Go.Sort.heapBuild bm (b - a) a ((b - a - 1) / 2 +1) d)∧(Z.ownsRow B 71 1 (.slice j n cp) n (LE aM A))∧(Md (fun q=>(Value.slice j n cp).ownBlock=some q) w Z)∧(G 0= .slice j n cp)∧(G 6=aa a)∧(G 7= .int .i64 0)∧(G 8=aa (b - a))∧(G 9= .int .i64 ((k:Nat) - 1:Int))∧(k=J)) _ ⟨(b - a - 1) / 2 +1,d,(by omega),rfl,aD,(Md.refl _ _),rfl,rfl,rfl,rfl,(iv (by omega)),rfl⟩ ?_))))))
 rintro J G Z ⟨k,A,hk,Y,C,M,aR,aS,aT,aV,aW,rfl⟩
 refine fx 0 aR (fx 6 aS (fx 7 aT (fx 8 aV (fx 9 aW (sq (fun _ ar=>U (fun _ av=>(ab (.int .i64 ((k:Nat) - 1:Int)) (p (ge rfl rfl) (ag ((av _ _ ?_))))))))))))
 refine cd rfl (fun aL=> ?_) (fun aL=> ?_)
 refine au (tn (ar _ _ (sq (fun _ V=>az (rg rfl (ab (.slice j n cp) (ab (.int .i64 ((k:Nat) - 1:Int)) (ab (aa (b - a)) ?_))))))))
 refine ab (aa a) (e (cl xo (Bk A (k - 1) (b - a) a _ _ B n cp j _ C (by omega) (by omega) rfl ac) rfl fun a6 w26 aH=> ?_))
 obtain ⟨rfl,aF,ax⟩:=aH
 refine nl (bn (tn (V _ _ (rg rfl (ab (.int .i64 ((k:Nat) - 1:Int)) (p (sb rfl rfl (bp (by omega))) (p aj (nl ?_))))))))
 exact tn (⟨_,by omega,k - 1,Go.Sort.siftDown bm (b - a) a (k - 1) A,(by omega),((by rw [← Y,Hz (show 0 < k by omega)])),aF,(Md.trans M ax),rfl,rfl,rfl,rfl,(iv (by omega)),rfl⟩)
 refine ext (te _ (te _ (be (tn (ap _ _ (U (fun _ V=>(ab (aa (b - a)) ?_))))))))
 refine p (cI ((b - a - 1:Nat):Int) rfl rfl (aQ (by omega) (by omega))) (ae (((V _ _ (az (lp (fun J I E=> ∃ (k:Nat) (A:Array Nat),(k≤b - a)∧(Go.Sort.heapPop bm a k A=Go.Sort.heapSort bm d a b)∧(E.ownsRow B 71 1 (.slice j n cp) n (LE aM A))∧(Md (fun q=>(Value.slice j n cp).ownBlock=some q) w E)∧(I 0= .slice j n cp)∧(I 6=aa a)∧(I 7= .int .i64 0)∧(I 8=aa (b - a))∧(I 10= .int .i64 ((k:Nat) - 1:Int))∧(k=J)) _ ⟨b - a,A,(by omega),((by rw [show k=0 by omega,HA] at Y; rw [Y]; rfl)),C,M,rfl,rfl,rfl,rfl,(iv (by omega)),rfl⟩ ?_))))))
 rintro J I E ⟨k,A,a4,hq2,C,M,aX,aZ,a0,a1,aY,rfl⟩
 refine fx 0 aX (fx 6 aZ (fx 7 a0 (fx 8 a1 (fx 10 aY (sq (fun _ aw=>U (fun _ ai=>(ab (.int .i64 ((k:Nat) - 1:Int)) (p (ge rfl rfl) (ag ((ai _ _ ?_))))))))))))
 refine cd rfl (fun aN=> ?_) (fun aN=> ?_)
 refine au (tn (aw _ _ (sq (fun _ al=>az (sq (fun _ am=> ?_))))))
 have hdcn:=dS C
 have s:(fun w'=>Wk E w') E.drew:=(Md.refl _ _).drew
 refine dG (fun w'=>Wk E w') 17 rfl wide s (a3 0 rfl (.slice j n cp) s (a3 1 rfl (aa a) s (a3 2 rfl (.slice j n cp) s (a3 3 rfl (aa a) s (a3 4 rfl (.int .i64 ((k:Nat) - 1:Int)) s (a5 5 rfl (fun _=>a9 ((a+(k - 1):Nat):Int) rfl rfl (aQ (by omega) (by omega))) (fun _=>s) (a3 6 rfl (.slice j n cp) s ?_)))))))
 refine a3 7 rfl (aa a) s (a3 8 rfl (.int .i64 ((k:Nat) - 1:Int)) s (a5 9 rfl (fun _=>a9 ((a+(k - 1):Nat):Int) rfl rfl (aQ (by omega) (by omega))) (fun _=>s) (a5 10 rfl (fun _=>aJ bj rfl rfl (by omega) (ak.ok ((aI C).2) (bu (by omega)))) (fun _=>s) (cO 11 rfl (fun w' O=>ld bJ rfl (bZ (i:=a+(k - 1)) ((aI C).2.wk O) (by omega))) s (a3 12 rfl (.slice j n cp) s (a3 13 rfl (aa a) s (a5 14 rfl (fun _=>aJ bj rfl rfl (by omega) (ak.ok ((aI C).2) (bu (by omega)))) (fun _=>s) ?_)))))))
 refine cO 15 rfl (fun w' O=>ld bJ rfl (bZ (i:=a) ((aI C).2.wk O) (by omega))) s (a5 16 rfl (fun _=>aJ bj rfl rfl (by omega) (ak.ok ((aI C).2) (bu (by omega)))) (fun _=>s) (cD 17 rfl (by kernel_rfl) (by kernel_rfl) (ej (u:=A[a+(k - 1)]!) (a) (aE C s) eb rfl rfl rfl (by omega) fun a8 aB aO=> ?_)))
 refine a5 18 rfl (fun _=>aJ bj rfl rfl (by omega) (ak.ok ((aI C).2) (bu (by omega)))) (fun h=>Bool.noConfusion ((show true =_ from by kernel_rfl).trans h)) (cD 19 rfl (by kernel_rfl) (by kernel_rfl) (ej (u:=A[a]!) (a+(k - 1)) aO eb rfl rfl rfl (by omega) fun wS2 aC aP=> ?_))
 have O:wS2.ownsRow B 71 1 (.slice j n cp) n (LE aM (Go.Sort.swp A (a) (a+(k - 1)))):=aP
 have aA:Md (fun q=>(Value.slice j n cp).ownBlock=some q) E wS2:=Md.trans (s.mono (fun _ _ h=>h.elim)) (Md.trans aB aC)
 refine dF (by kernel_rfl) ?_
 refine tn (am _ _ (rg rfl (ab (.slice j n cp) (ab (.int .i64 0) (ab (.int .i64 ((k:Nat) - 1:Int)) (ab (aa a) (e (cl xo (Bk (Go.Sort.swp A a (a+(k - 1))) 0 (k - 1) a _ _ B n cp j _ O (by omega) rfl (by omega) ac) rfl fun a7 w55 aK=> ?_))))))))
 obtain ⟨rfl,aG,ay⟩:=aK
 refine nl (bn (tn (al _ _ (rg rfl (ab (.int .i64 ((k:Nat) - 1:Int)) (p (sb rfl rfl (bp (by omega))) (p aj (nl ?_))))))))
 exact tn (⟨_,by omega,k - 1,Go.Sort.siftDown bm (k - 1) a 0 (Go.Sort.swp A a (a+(k - 1))),(by omega),((by rw [← hq2,HY (show 0 < k by omega)])),aG,(Md.trans M (Md.trans aA ay)),rfl,rfl,rfl,rfl,(iv (by omega)),rfl⟩)
 refine ext (te _ (te _ (be (f0 rfl ?_))))
 exact ⟨rfl,by rw [← hq2,show k=0 by omega]; exact C,M⟩
theorem Kn (d:Array Nat) (a b:Nat) (B n cp:Nat) (A:Option Addr) (w:World) (ap:w.ownsRow B 71 1 (.slice A n cp) n (LE aM d)) (aA:a < b∧b≤n) (aB:n≤1099511627776):
 aU Tryz.prog 160 (List.toArray [.slice A n cp,aa a,aa b]) w (fun v w'=>v= .tuple #[]∧w'.ownsRow B 71 1 (.slice A n cp) n (LE aM (Go.Sort.reverseRange d a b))∧Md (fun q=>(Value.slice A n cp).ownBlock=some q) w w'):=by
 refine enter Tryz.func160 rfl Tryz.ntmps160 rfl ?_
 refine U (fun _ Y=>(ab (aa a) (p (bG (aa a) rfl) (ag ((Y _ _ (U (fun _ Z=> ?_))))))))
 refine ab (aa b) (p (cI ((b - 1:Nat):Int) rfl rfl (aQ (by omega) (by omega))) (ae (((Z _ _ (az (lp (fun M J G=> ∃ (i j:Nat) (E:Array Nat),(i≤n∧j < n)∧(Go.Sort.reverseLoop i j E=Go.Sort.reverseRange d a b)∧(G.ownsRow B 71 1 (.slice A n cp) n (LE aM E))∧(Md (fun q=>(Value.slice A n cp).ownBlock=some q) w G)∧(J 0= .slice A n cp)∧(J 6=aa i)∧(J 7=aa j)∧(j - i=M)) _ ⟨a,b - 1,d,(by omega),rfl,ap,(Md.refl _ _),rfl,rfl,rfl,rfl⟩ ?_)))))))
 rintro M J G ⟨i,j,E,hi,V,C,O,aw,ax,ay,rfl⟩
 refine fx 0 aw (fx 6 ax (fx 7 ay (sq (fun _ ac=>U (fun _ ah=>(ab (aa i) (ab (aa j) (p (lt rfl rfl) (nl ?_)))))))))
 refine tn (ah _ _ (cd rfl (fun aq=> ?_) (fun aq=> ?_)))
 refine au (tn (ac _ _ (az (sq (fun _ ai=> ?_)))))
 have hdcn:=dS C
 have s:(fun w'=>Wk G w') G.drew:=(Md.refl _ _).drew
 refine dG (fun w'=>Wk G w') 13 rfl wide s (a3 0 rfl (.slice A n cp) s (a3 1 rfl (aa i) s (a3 2 rfl (.slice A n cp) s (a3 3 rfl (aa j) s (a3 4 rfl (.slice A n cp) s (a3 5 rfl (aa j) s (a5 6 rfl (fun _=>aJ bj rfl rfl (by omega) (ak.ok ((aI C).2) (bu (by omega)))) (fun _=>s) ?_)))))))
 refine cO 7 rfl (fun w' I=>ld bJ rfl (bZ (i:=j) ((aI C).2.wk I) (by omega))) s (a3 8 rfl (.slice A n cp) s (a3 9 rfl (aa i) s (a5 10 rfl (fun _=>aJ bj rfl rfl (by omega) (ak.ok ((aI C).2) (bu (by omega)))) (fun _=>s) (cO 11 rfl (fun w' I=>ld bJ rfl (bZ (i:=i) ((aI C).2.wk I) (by omega))) s (a5 12 rfl (fun _=>aJ bj rfl rfl (by omega) (ak.ok ((aI C).2) (bu (by omega)))) (fun _=>s) (cD 13 rfl (by kernel_rfl) (by kernel_rfl) (ej (u:=E[j]!) (i) (aE C s) eb rfl rfl rfl (by omega) fun aC an ar=> ?_)))))))
 refine a5 14 rfl (fun _=>aJ bj rfl rfl (by omega) (ak.ok ((aI C).2) (bu (by omega)))) (fun h=>Bool.noConfusion ((show true =_ from by kernel_rfl).trans h)) (cD 15 rfl (by kernel_rfl) (by kernel_rfl) (ej (u:=E[i]!) (j) ar eb rfl rfl rfl (by omega) fun wS2 ao av=> ?_))
 have I:wS2.ownsRow B 71 1 (.slice A n cp) n (LE aM (Go.Sort.swp E (i) (j))):=av
 have am:Md (fun q=>(Value.slice A n cp).ownBlock=some q) G wS2:=Md.trans (s.mono (fun _ _ h=>h.elim)) (Md.trans an ao)
 refine dF (by kernel_rfl) ?_
 refine tn (ai _ _ (U (fun _ al=>(ab (aa i) (p (a9 ((i+1:Nat):Int) rfl rfl (aQ (by omega) (by omega))) (ae (((al _ _ ?_)))))))))
 exact rg rfl (ab (aa j) (p (cI ((j - 1:Nat):Int) rfl rfl (aQ (by omega) (by omega))) (p aj (nl (bn (tn (⟨_,by omega,i+1,j - 1,Go.Sort.swp E i j,(by omega),((by rw [← V,Kl (show i < j by omega)])),I,(Md.trans O am),rfl,rfl,rfl,rfl⟩)))))))
 refine ext (te _ (te _ (be (f0 rfl ?_))))
 exact ⟨rfl,by rw [← V,Km (by omega)]; exact C,O⟩
end Go.Hb.mh
end
section
set_option maxRecDepth 20000
set_option maxHeartbeats 1000000
namespace Go.Hb.o5
open Go.Hb.di
open Go.Proofs
open Go.Hb.mh
theorem LP {n:Nat} {l:List UInt8} (h:n < 256) (hl:∀ k:Fin 256,(l.getD k.val 0).toNat=gR k.val):IntKind.i64.wrap ((l.getD n 0).toNat:Int)=(gR n:Int):=by
 rw [hl ⟨n,h⟩]; have :=qL h; exact bp (by simp only; omega)
theorem KM {k:Nat} (h:k≤8):IntKind.u64.wrap ((1:Int)*2 ^ min ((k:Nat):Int).toNat IntKind.u64.bits)=((2 ^ k:Nat):Int):=by
 have h2:(IntKind.u64.bits:Nat)=64:=rfl
 rw [Int.toNat_natCast,h2,Nat.min_eq_left (by omega),Int.one_mul]
 have h3:(2:Nat) ^ k≤2 ^ 8:=Nat.pow_le_pow_right (by decide) h
 have h4:((2:Int) ^ k)=((2 ^ k:Nat):Int):=by simp
 rw [h4]
 obtain ⟨m,hm⟩:∃ m:Nat,2 ^ k=m:=⟨_,rfl⟩
 rw [hm] at h3 ⊢; exact kI (by omega)
theorem JP {d d1 d2:Array Nat} {a b i j:Nat} (h:Go.Sort.PermIn a b d d1) (hi:a≤i∧i < b) (hj:a≤j∧j < b) (hb:b≤d1.size) (h2:d2=Go.Sort.swp d1 i j):Go.Sort.PermIn a b d d2:=by
 subst h2; exact Go.Sort.permIn_trans _ _ _ a b h (Go.Sort.swp_permIn d1 a b i j hi.1 hi.2 hj.1 hj.2 hb)
theorem uu (d:Array Nat) (i j s lo hi G:Nat) (B n cp:Nat) (E:Option Addr) (w:World) (A:w.ownsRow B 71 1 (.slice E n cp) n (LE aM d)) (hB:bD w.heap G [aa s]) (hbs:(Value.slice E n cp).ownBlock≠some G) (hr:lo≤i∧i < hi∧lo≤j∧j < hi∧hi≤n) (hs:s≤1000) (an:n≤1099511627776):
 aU Tryz.prog 186 (List.toArray [.slice E n cp,aa i,aa j,aG G]) w (fun v w'=> ∃ M O s1:Nat,v= .tuple #[aa M,aa O]∧(lo≤M∧M < hi)∧(lo≤O∧O < hi)∧s1≤s+1∧bD w'.heap G [aa s1]∧w'.ownsRow B 71 1 (.slice E n cp) n (LE aM d)∧Md (fun q=>q=G) w w'):=by
 refine enter Tryz.func186 rfl Tryz.ntmps186 rfl ?_
 refine U (fun _ Y=>(p aj (ae (((Y _ _ (sq (fun _ Z=>sq (fun _ ac=> ?_)))))))))
 have hdn:=dS A
 have a:(fun w'=>Wk w w') w.drew:=(Md.refl _ _).drew
 refine bC (fun w'=>Wk w w') rfl wide a (bo 0 rfl (.slice E n cp) a (bo 1 rfl (aa j) a (aA 2 rfl (fun _ _=>aJ bj rfl rfl (by omega) (ak.ok ((aI A).2) (bu (by omega)))) a (aA 3 rfl (fun w' J=>ld bJ rfl (bZ (i:=j) ((aI A).2.wk J) (by omega))) a (bo 4 rfl (.slice E n cp) a (bo 5 rfl (aa i) a (aA 6 rfl (fun _ _=>aJ bj rfl rfl (by omega) (ak.ok ((aI A).2) (bu (by omega)))) a ?_)))))))
 refine aA 7 rfl (fun w' J=>ld bJ rfl (bZ (i:=i) ((aI A).2.wk J) (by omega))) a (he 8 rfl (by kernel_rfl) (cl iH (iM d[j]! d[i]! _) rfl fun ao w18 am=> ?_))
 obtain ⟨rfl,al⟩:=am
 have C:(fun w'=>Wk w w') w18:=Md.trans a al
 refine ⟨C,?_⟩
 refine hn (by kernel_rfl) (tn (ac _ _ (cb rfl (fun hc18=> ?_) (fun hc18=> ?_))))
 have hB18:=C.B hB
 have hO18:=aE A C
 refine U (fun _ I=>(ab (aG G) (p (nc rfl) (p (ld bQ rfl (hB18.aC 0)) (p (a9 ((s+1:Nat):Int) rfl rfl (aQ (by omega) (by omega))) (p (nc rfl) (e (st fW rfl rfl (rfl) (hB18) (by simp) fun wt2_5 V ai=> ?_))))))))
 refine ag ((I _ _ (U (fun _ ah=>(ab (aa j) (ab (aa i) (p (bG (aa j) rfl) (p (bG (aa i) rfl) ?_))))))))
 exact ag ((ah _ _ (rt (tr (f2 rfl rfl rfl (⟨j,i,s+1,rfl,by omega,by omega,by omega,ai,bW hO18 V (fun k hk h=>hbs (h ▸ hk)),Md.trans (C.mono (fun _ _ h=>h.elim)) V⟩))))))
 refine au (tn (Z _ _ (U (fun _ I=>(ab (aa i) (ab (aa j) (p (bG (aa i) rfl) (p (bG (aa j) rfl) ?_))))))))
 exact ag ((I _ _ (rt (f2 rfl rfl rfl (⟨i,j,s,rfl,by omega,by omega,by omega,C.B hB,aE A C,C.mono (fun _ _ h=>h.elim)⟩)))))
theorem Ag (d:Array Nat) (i j k s lo hi a:Nat) (B n cp:Nat) (A:Option Addr) (w:World) (ag:w.ownsRow B 71 1 (.slice A n cp) n (LE aM d)) (hB:bD w.heap a [aa s]) (hbs:(Value.slice A n cp).ownBlock≠some a) (hr:(lo≤i∧i < hi)∧(lo≤j∧j < hi)∧(lo≤k∧k < hi)∧hi≤n) (hs:s≤900) (C:n≤1099511627776):
 aU Tryz.prog 179 (List.toArray [.slice A n cp,aa i,aa j,aa k,aG a]) w (fun v w'=> ∃ E s1:Nat,v=aa E∧(lo≤E∧E < hi)∧s1≤s+3∧bD w'.heap a [aa s1]∧w'.ownsRow B 71 1 (.slice A n cp) n (LE aM d)∧Md (fun q=>q=a) w w'):=by
 refine enter Tryz.func179 rfl Tryz.ntmps179 rfl ?_
 refine U (fun _ G=>(ae (((G _ _ (U (fun _ I=>(ab (.slice A n cp) ?_))))))))
 refine ab (aa i) (ab (aa j) (ab (aG a) (e (cl sj (uu d i j s lo hi a B n cp A _ ag hB hbs (by omega) (by omega) C) rfl fun aC w16 hR16=> ?_))))
 obtain ⟨i1,ao,s1,rfl,au,aw,hs1,hB1,ah,Y⟩:=hR16
 refine p mv (p (xt rfl rfl) (p (xt rfl rfl) (p aj (ae (((I _ _ (sq (fun _ J=> ?_)))))))))
 refine rg rfl (ab (.slice A n cp) (p mv (ab (aa k) (ab (aG a) (e (cl sj (uu d ao k s1 lo hi a B n cp A _ ah hB1 hbs (by omega) (by omega) C) rfl fun aD aF al=> ?_))))))
 obtain ⟨ap,aB,s2,rfl,ax,ay,az,hB2,ai,Z⟩:=al
 refine p mv (p (xt rfl rfl) (p (xt rfl rfl) (p aj (ae (((J _ _ (sq (fun _ M=> ?_)))))))))
 refine rg rfl (ab (.slice A n cp) (p mv (p mv (ab (aG a) (e (cl sj (uu d i1 ap s2 lo hi a B n cp A _ ai hB2 hbs (by omega) (by omega) C) rfl fun aE aH am=> ?_))))))
 obtain ⟨i3,aq,ar,rfl,av,an,aA,V,ak,ac⟩:=am
 refine p mv (p (xt rfl rfl) (p (xt rfl rfl) (p aj (ae (((M _ _ (sq (fun _ O=> ?_)))))))))
 exact rg rfl (p mv (ae (((O _ _ (rt (f1 rfl rfl (⟨aq,ar,rfl,an,by omega,V,ak,Md.trans Y (Md.trans Z ac)⟩))))))))
theorem ud (d:Array Nat) (i s lo hi a:Nat) (B n cp:Nat) (j:Option Addr) (w:World) (G:w.ownsRow B 71 1 (.slice j n cp) n (LE aM d)) (hB:bD w.heap a [aa s]) (hbs:(Value.slice j n cp).ownBlock≠some a) (hr:lo+1≤i∧i+1 < hi∧hi≤n) (hs:s≤900) (J:n≤1099511627776):
 aU Tryz.prog 178 (List.toArray [.slice j n cp,aa i,aG a]) w (fun v w'=> ∃ A s1:Nat,v=aa A∧(lo≤A∧A < hi)∧s1≤s+3∧bD w'.heap a [aa s1]∧w'.ownsRow B 71 1 (.slice j n cp) n (LE aM d)∧Md (fun q=>q=a) w w'):=by
 refine enter Tryz.func178 rfl Tryz.ntmps178 rfl ?_
 refine U (fun _ C=>(ae (((C _ _ (U (fun _ E=>(ab (.slice j n cp) ?_))))))))
 refine ab (aa i) (p (cI ((i - 1:Nat):Int) rfl rfl (aQ (by omega) (by omega))) (ab (aa i) (ab (aa i) (p (a9 ((i+1:Nat):Int) rfl rfl (aQ (by omega) (by omega))) (ab (aG a) (e (cl xp (Ag d (i - 1) i (i+1) s lo hi a B n cp j _ G hB hbs (by omega) (by omega) J) rfl fun M w14 I=>p aj ?_)))))))
 exact ag ((E _ _ (rt (f1 rfl rfl (I)))))
theorem Ez (d:Array Nat) (a b:Nat) (B n cp:Nat) (i:Option Addr) (w:World) (ac:w.ownsRow B 71 1 (.slice i n cp) n (LE aM d)) (ba:a+12 < b∧b≤n) (E:n≤1099511627776):
 aU Tryz.prog 159 (List.toArray [.slice i n cp,aa a,aa b]) w (fun v w'=> ∃ (Y:Nat) (hv:Int),v= .tuple #[aa Y,.int .i64 hv]∧(a≤Y∧Y < b)∧w'.ownsRow B 71 1 (.slice i n cp) n (LE aM d)∧Wk w w'):=by
 refine enter Tryz.func159 rfl Tryz.ntmps159 rfl ?_
 refine U (fun _ ah=>(p aj (ae (((ah _ _ (U (fun _ ai=> ?_))))))))
 refine ab (aa b) (ab (aa a) (p (cI ((b - a:Nat):Int) rfl rfl (aQ (by omega) (by omega))) (ae (((ai _ _ (U (fun _ ak=> ?_))))))))
 refine e (al Mn fun b9 w9 hb9 O Z=> ?_)
 have hO9:=aE ac O.md
 have hbs:(Value.slice i n cp).ownBlock≠some b9:=fun h=>by have :=c7 ac h; omega
 refine ag ((ak _ _ (U (fun _ am=>(ab (aa a) (p mv (p (l2 (((b - a) / 4:Nat):Int) rfl rfl (by omega) (aQ (by omega) (by omega))) (p (kt (((b - a) / 4:Nat):Int) rfl rfl (aQ (by omega) (by omega))) ?_))))))))
 refine p (a9 ((a+(b - a) / 4:Nat):Int) rfl rfl (aQ (by omega) (by omega))) (ae (((am _ _ (U (fun _ an=>(ab (aa a) (p mv ?_))))))))
 refine p (l2 (((b - a) / 4:Nat):Int) rfl rfl (by omega) (aQ (by omega) (by omega))) (p (kt (((b - a) / 4 *2:Nat):Int) rfl rfl (aQ (by omega) (by omega))) (p (a9 ((a+(b - a) / 4 *2:Nat):Int) rfl rfl (aQ (by omega) (by omega))) (ae (((an _ _ (U (fun _ ao=> ?_))))))))
 refine ab (aa a) (p mv (p (l2 (((b - a) / 4:Nat):Int) rfl rfl (by omega) (aQ (by omega) (by omega))) (p (kt (((b - a) / 4 *3:Nat):Int) rfl rfl (aQ (by omega) (by omega))) (p (a9 ((a+(b - a) / 4 *3:Nat):Int) rfl rfl (aQ (by omega) (by omega))) (ae (((ao _ _ ?_))))))))
 refine sq (fun _ ap=>U (fun _ aq=>(p mv (p (ge rfl rfl) (ag ((aq _ _ (cd rfl (fun bb=> ?_) (fun h=>absurd (by omega) h)))))))))
 refine cX (fun j wC=> ∃ (q s A G:Nat),(a≤q∧q < b)∧(a≤s∧s < b)∧(a≤A∧A < b)∧(G≤9)∧(bD wC.heap b9 [aa G])∧(wC.ownsRow B 71 1 (.slice i n cp) n (LE aM d))∧(Wk w wC)∧(j 0= .slice i n cp)∧(j 1=aa a)∧(j 2=aa b)∧(j 8=aa (b - a))∧(j 9=aG b9)∧(j 10=aa q)∧(j 11=aa s)∧(j 12=aa A)) ?_ ?_
 refine U (fun _ M=>(p mv (p (ge rfl rfl) (ag ((M _ _ (cd rfl (fun aP=> ?_) (fun aP=> ?_))))))))
 refine U (fun _ I=>(ab (.slice i n cp) (p mv (e (cl si (ud d (a+(b - a) / 4) 0 a b b9 B n cp i _ hO9 Z hbs (by omega) (by omega) E) rfl fun bl w37 aK=> ?_)))))
 obtain ⟨i1,s1,rfl,aT,hs1,hB1,aF,ay⟩:=aK
 refine ae (((I _ _ (U (fun _ C=>(ab (.slice i n cp) (p mv (e (cl si (ud d (a+(b - a) / 4 *2) s1 a b b9 B n cp i _ aF hB1 hbs (by omega) (by omega) E) rfl fun bm w40 aL=> ?_)))))))))
 obtain ⟨a5,s2,rfl,aV,bg,hB2,aH,aA⟩:=aL
 refine ae (((C _ _ (rg rfl (ab (.slice i n cp) (p mv (e (cl si (ud d (a+(b - a) / 4 *3) s2 a b b9 B n cp i _ aH hB2 hbs (by omega) (by omega) E) rfl fun bn w43 aN=> ?_))))))))
 obtain ⟨a6,a7,rfl,aW,bh,ar,aI,aB⟩:=aN
 exact ae (((⟨i1,a5,a6,a7,aT,aV,aW,(by omega),ar,aI,(Md.trans' O.md (Md.trans ay (Md.trans aA aB)) (fun k hk h=>by omega)),rfl,rfl,rfl,rfl,rfl,rfl,rfl,rfl⟩)))
 exact au (tn (⟨a+(b - a) / 4,a+(b - a) / 4 *2,a+(b - a) / 4 *3,0,(by omega),(by omega),(by omega),(by omega),Z,hO9,O.md,rfl,rfl,rfl,rfl,rfl,rfl,rfl,rfl⟩))
 rintro j wC ⟨q,s,A,G,bc,bd,bf,bj,aw,aJ,ax,aX,aY,a2,a3,a4,aZ,a0,a1⟩
 refine fx 0 aX (fx 1 aY (fx 2 a2 (fx 8 a3 (fx 9 a4 (fx 10 aZ (fx 11 a0 (fx 12 a1 (rg rfl (ab (.slice i n cp) (ab (aa q) (ab (aa s) (ab (aa A) (e (cl xp (Ag d q s A G a b b9 B n cp i _ aJ aw hbs (by omega) (by omega) E) rfl fun bo w48 aO=> ?_))))))))))))))
 obtain ⟨q1,bk,rfl,hq1,bi,av,V,aD⟩:=aO
 have hE4:Wk w w48:=Md.trans' ax aD (fun k hk h=>by omega)
 refine ae (((ap _ _ (U (fun _ M=>(p (ld bQ rfl (av.aC 0)) (ag ((M _ _ ?_)))))))))
 refine az (U (fun _ I=>(p (a8 rfl rfl) (ae (((I _ _ (cd rfl (fun aR=> ?_) (fun aR=> ?_)))))))))
 refine U (fun _ C=>(p mv (p aj (ae (((C _ _ (rt ?_))))))))
 exact br (f2 rfl rfl rfl (⟨q1,_,rfl,hq1,V,hE4⟩))
 refine U (fun _ C=>(p (a8 rfl rfl) (ae (((C _ _ (cd rfl (fun aS=> ?_) (fun aS=> ?_))))))))
 refine U (fun _ J=>(p mv (p aj (ae (((J _ _ (rt ?_))))))))
 exact br (f2 rfl rfl rfl (⟨q1,_,rfl,hq1,V,hE4⟩))
 refine U (fun _ J=>(p mv (p aj (ae (((J _ _ (rt ?_))))))))
 exact br (f2 rfl rfl rfl (⟨q1,_,rfl,hq1,V,hE4⟩))
theorem Jg (a:Nat) (r:Int) (w:World) (hB:bD w.heap a [.int .u64 r]):
 aU Tryz.prog 177 (List.toArray [aG a]) w (fun v w'=> ∃ C:Int,v= .int .u64 C∧0≤C∧C < 18446744073709551616∧bD w'.heap a [.int .u64 C]∧Md (fun q=>q=a) w w'):=by
 refine enter Tryz.func177 rfl Tryz.ntmps177 rfl ?_
 refine U (fun _ O=>(ae (((O _ _ (sq (fun _ V=> ?_)))))))
 have j:(fun w'=>Wk w w') w.drew:=(Md.refl _ _).drew
 refine dG (fun w'=>Wk w w') 9 rfl wide j (lq 0 rfl (by kernel_rfl) (fun _ _=>aB (aG a) rfl) j (lq 1 rfl (by kernel_rfl) (fun _ _=>nc rfl) j (lq 2 rfl (by kernel_rfl) (fun w' i=>ld mj rfl (Wk.aC i (hB.aC 0))) j (lq 3 rfl (by kernel_rfl) (fun _ _=>aB (aG a) rfl) j (lq 4 rfl (by kernel_rfl) (fun _ _=>nc rfl) j (lq 5 rfl (by kernel_rfl) (fun w' i=>ld mj rfl (Wk.aC i (hB.aC 0))) j (lq 6 rfl (by kernel_rfl) (fun _ _=>shl rfl rfl (by decide) rfl) j ?_)))))))
 refine lq 7 rfl (by kernel_rfl) (fun _ _=>r6 rfl rfl rfl) j (lq 8 rfl (by kernel_rfl) (fun _ _=>nc rfl) j (cD 9 rfl (by kernel_rfl) (by kernel_rfl) (st pZ rfl rfl (rfl) (j.B hB) (by simp) fun I ac E=> ?_)))
 refine dF (by kernel_rfl) ?_
 refine tn (V _ _ (sq (fun _ Y=> ?_)))
 have s:(fun w'=>Wk I w') I.drew:=(Md.refl _ _).drew
 refine dG (fun w'=>Wk I w') 9 rfl wide s (lq 0 rfl (by kernel_rfl) (fun _ _=>aB (aG a) rfl) s (lq 1 rfl (by kernel_rfl) (fun _ _=>nc rfl) s (lq 2 rfl (by kernel_rfl) (fun w' i=>ld mj rfl (Wk.aC i (E.aC 0))) s (lq 3 rfl (by kernel_rfl) (fun _ _=>aB (aG a) rfl) s (lq 4 rfl (by kernel_rfl) (fun _ _=>nc rfl) s (lq 5 rfl (by kernel_rfl) (fun w' i=>ld mj rfl (Wk.aC i (E.aC 0))) s (lq 6 rfl (by kernel_rfl) (fun _ _=>shr rfl rfl (by decide) rfl) s ?_)))))))
 refine lq 7 rfl (by kernel_rfl) (fun _ _=>r6 rfl rfl rfl) s (lq 8 rfl (by kernel_rfl) (fun _ _=>nc rfl) s (cD 9 rfl (by kernel_rfl) (by kernel_rfl) (st pZ rfl rfl (rfl) (s.B E) (by simp) fun J ag G=> ?_)))
 refine dF (by kernel_rfl) ?_
 refine tn (Y _ _ (sq (fun _ Z=> ?_)))
 have A:(fun w'=>Wk J w') J.drew:=(Md.refl _ _).drew
 refine dG (fun w'=>Wk J w') 9 rfl wide A (lq 0 rfl (by kernel_rfl) (fun _ _=>aB (aG a) rfl) A (lq 1 rfl (by kernel_rfl) (fun _ _=>nc rfl) A (lq 2 rfl (by kernel_rfl) (fun w' i=>ld mj rfl (Wk.aC i (G.aC 0))) A (lq 3 rfl (by kernel_rfl) (fun _ _=>aB (aG a) rfl) A (lq 4 rfl (by kernel_rfl) (fun _ _=>nc rfl) A (lq 5 rfl (by kernel_rfl) (fun w' i=>ld mj rfl (Wk.aC i (G.aC 0))) A (lq 6 rfl (by kernel_rfl) (fun _ _=>shl rfl rfl (by decide) rfl) A ?_)))))))
 refine lq 7 rfl (by kernel_rfl) (fun _ _=>r6 rfl rfl rfl) A (lq 8 rfl (by kernel_rfl) (fun _ _=>nc rfl) A (cD 9 rfl (by kernel_rfl) (by kernel_rfl) (st pZ rfl rfl (rfl) (A.B G) (by simp) fun ai ah M=> ?_)))
 refine dF (by kernel_rfl) ?_
 refine tn (Z _ _ (U (fun _ aa=>(ab (aG a) (p (nc rfl) (p (ld mj rfl (M.aC 0)) (p aj (nl ?_))))))))
 refine tn (aa _ _ (rt (f1 rfl rfl ?_)))
 refine ⟨_,rfl,(BR _).1,(BR _).2,M,?_⟩
 exact Md.trans (Md.refl _ _).drew (Md.trans ac (Md.trans (Md.refl _ _).drew (Md.trans ag (Md.trans (Md.refl _ _).drew ah))))
theorem IG (n:Nat) (w:World) (hn:n < 256):
 aU Tryz.prog 166 (List.toArray [.int .u64 (n:Nat)]) w (fun v w'=>v=aa (gR n)∧Wk w w'):=by
 have hll:=qL hn
 refine enter Tryz.func166 rfl Tryz.ntmps166 rfl ?_
 refine U (fun _ a=>(ae (((a _ _ (sq (fun _ i=>U (fun _ j=> ?_))))))))
 refine ab (.int .u64 (n:Nat)) (p (ge rfl rfl) (ag ((j _ _ (cd rfl (fun h=>absurd h (by omega)) (fun I=> ?_))))))
 refine au (tn (i _ _ (sq (fun _ q=>U (fun _ s=>(ab (.int .u64 (n:Nat)) (p (ge rfl rfl) (nl ?_))))))))
 refine tn (s _ _ (cd rfl (fun h=>absurd h (by omega)) (fun hc8=> ?_)))
 refine au (tn (q _ _ (sq (fun _ A=>U (fun _ C=>(ab (.int .u64 (n:Nat)) (p (ge rfl rfl) (nl ?_))))))))
 refine tn (C _ _ (cd rfl (fun h=>absurd h (by omega)) (fun G=> ?_)))
 refine au (tn (A _ _ (U (fun _ E=>(ab (.int .i64 0) (ab (.int .u64 (n:Nat)) (p (pY u5 LX rfl (nN (by omega))) (p (dA u9 rfl rfl (by have :n < 256:=hn; simpa using this)) ?_))))))))
 exact p (ig u3 lj rfl (LP hn (by decide+kernel))) (p (a9 ((gR n:Nat):Int) rfl rfl (aQ (by omega) (by omega))) (ae (((E _ _ (rt (f1 rfl rfl (⟨rfl,Md.refl _ _⟩))))))))
theorem z8 (n:Nat) (w:World) (hn:n < 256):
 aU Tryz.prog 139 (List.toArray [.int .u64 (n:Nat)]) w (fun v w'=>v=aa (gR n)∧Wk w w'):=by
 refine enter Tryz.func139 rfl Tryz.ntmps139 rfl ?_
 refine U (fun _ a=>(ae (((a _ _ (sq (fun _ i=>cf rfl (au ?_))))))))
 refine tn (i _ _ (U (fun _ j=>(ab (.int .u64 (n:Nat)) (e (cl DL (IG n _ hn) rfl fun p w7 hR7=>ae (((j _ _ ?_)))))))))
 exact rt (f1 rfl rfl (hR7))
theorem Jh (n:Nat) (w:World) (hn:n < 256):
 aU Tryz.prog 176 (List.toArray [aa n]) w (fun v w'=>v= .int .u64 (2 ^ gR n:Nat)∧Wk w w'):=by
 refine enter Tryz.func176 rfl Tryz.ntmps176 rfl ?_
 refine U (fun _ a=>(ae (((a _ _ (U (fun _ i=>(ab (aa n) ?_))))))))
 refine p (ig BQ l9 rfl (kI (by omega))) (e (cl xj (z8 n _ hn) rfl fun j w5 hR5=> ?_))
 obtain ⟨rfl,hE5⟩:=hR5
 have hll:=qL hn
 exact p (shl rfl rfl (by omega) (KM hll)) (ae (((i _ _ (rt (f1 rfl rfl (⟨rfl,hE5⟩)))))))
theorem CV (d:Array Nat) (a b:Nat) (B n cp:Nat) (s:Option Addr) (w:World) (aq:w.ownsRow B 71 1 (.slice s n cp) n (LE aM d)) (bl:a+12 < b∧b≤n) (bo:n≤255):
 aU Tryz.prog 158 (List.toArray [.slice s n cp,aa a,aa b]) w (fun v w'=> ∃ d1,v= .tuple #[]∧Go.Sort.PermIn a b d d1∧w'.ownsRow B 71 1 (.slice s n cp) n (LE aM d1)∧Md (fun q=>(Value.slice s n cp).ownBlock=some q) w w'):=by
 refine enter Tryz.func158 rfl Tryz.ntmps158 rfl ?_
 refine U (fun _ ar=>(ab (aa b) (ab (aa a) (p (cI ((b - a:Nat):Int) rfl rfl (aQ (by omega) (by omega))) (ae (((ar _ _ ?_))))))))
 refine U (fun _ aw=>(p mv (p (ge rfl rfl) (ag ((aw _ _ (cd rfl (fun hc15=> ?_) (fun h=>absurd (by omega) h))))))))
 refine U (fun _ ax=>(p mv (p (ig LL l9 rfl (kI (by omega))) (e (al Mm fun b7 w7 bm aV aL=>e (st pZ rfl rfl (rfl) (aL) (by simp) fun wt2_3 aP aK=> ?_))))))
 have ao:Wk w wt2_3:=Md.trans' aV.md aP (fun k hk h=>by omega)
 refine ag ((ax _ _ (U (fun _ ay=>(p mv (e (cl DR (Jh (b - a) _ (by omega)) rfl fun bt w19 aW=> ?_)))))))
 obtain ⟨rfl,Z⟩:=aW
 have hmr:=IH (n:=b - a) (by omega) (by omega)
 refine ae (((ay _ _ (U (fun _ aB=>(ab (aa a) (p mv (p (l2 (((b - a) / 4:Nat):Int) rfl rfl (by omega) (aQ (by omega) (by omega))) ?_))))))))
 refine p (kt (((b - a) / 4 *2:Nat):Int) rfl rfl (aQ (by omega) (by omega))) (p (a9 ((a+(b - a) / 4 *2:Nat):Int) rfl rfl (aQ (by omega) (by omega))) (p (cI ((a+(b - a) / 4 *2 - 1:Nat):Int) rfl rfl (aQ (by omega) (by omega))) (ae (((aB _ _ (az ?_)))))))
 have O:(Value.slice s n cp).ownBlock≠some b7:=fun h=>by have :=c7 aq h; omega
 refine lp (fun am J Y=> ∃ (A:Nat) (r:Int) (E:Array Nat),(a+(b - a) / 4 *2 - 1≤A∧A≤a+(b - a) / 4 *2 +2)∧(Go.Sort.PermIn a b d E)∧(bD Y.heap b7 [.int .u64 r])∧(Y.ownsRow B 71 1 (.slice s n cp) n (LE aM E))∧(Md (fun q=>(Value.slice s n cp).ownBlock=some q) w Y)∧(J 0= .slice s n cp)∧(J 1=aa a)∧(J 6=aa (b - a))∧(J 7=aG b7)∧(J 8= .int .u64 (2 ^ gR (b - a):Nat))∧(J 9=aa A)∧(a+(b - a) / 4 *2 +3 - A=am)) _ ⟨a+(b - a) / 4 *2 - 1,(b - a:Nat),d,(by omega),(Go.Sort.permIn_refl d a b),(Z.B aK),(aE (aE aq ao) Z),((Md.trans ao Z).mono (fun _ _ h=>h.elim)),rfl,rfl,rfl,rfl,rfl,rfl,rfl⟩ ?_
 rintro am J Y ⟨A,r,E,hix,aA,aO,ah,ac,a4,a6,a7,a8,ba,bb,rfl⟩
 refine fx 0 a4 (fx 1 a6 (fx 6 a7 (fx 7 a8 (fx 8 ba (fx 9 bb (sq (fun _ aC=>U (fun _ aD=>(ab (aa A) (ab (aa a) (ab (aa (b - a)) (p (l2 (((b - a) / 4:Nat):Int) rfl rfl (by omega) (aQ (by omega) (by omega))) ?_))))))))))))
 refine p (kt (((b - a) / 4 *2:Nat):Int) rfl rfl (aQ (by omega) (by omega))) (p (a9 ((a+(b - a) / 4 *2:Nat):Int) rfl rfl (aQ (by omega) (by omega))) (p (a9 ((a+(b - a) / 4 *2 +1:Nat):Int) rfl rfl (aQ (by omega) (by omega))) (p (le rfl rfl) (ag ((aD _ _ (cd rfl (fun aY=> ?_) (fun aY=> ?_))))))))
 refine au (tn (aC _ _ (sq (fun _ aF=>az (U (fun _ aH=>(e (cl DS (Jg b7 r _ aO) rfl fun bv w36 aX=> ?_))))))))
 obtain ⟨ai,rfl,hr1,bs,an,V⟩:=aX
 obtain ⟨o,bq,a2⟩:=CM ai (2 ^ gR (b - a)) (by omega)
 have hne:=O
 refine ab (.int .u64 (2 ^ gR (b - a):Nat)) (p (sb rfl rfl (kI (by omega))) (p (pD rfl rfl a2) (p (pY u3 LW rfl (bp (by omega))) (ae (((aH _ _ ?_)))))))
 refine cX (fun I wC=> ∃ (C:Nat),(C < b - a)∧(bD wC.heap b7 [.int .u64 ai])∧(wC.ownsRow B 71 1 (.slice s n cp) n (LE aM E))∧(Md (fun q=>(Value.slice s n cp).ownBlock=some q) w wC)∧(I 0= .slice s n cp)∧(I 1=aa a)∧(I 6=aa (b - a))∧(I 7=aG b7)∧(I 8= .int .u64 (2 ^ gR (b - a):Nat))∧(I 9=aa A)∧(I 10=aa C)) ?_ ?_
 refine U (fun _ av=>(p mv (ab (aa (b - a)) (p (ge rfl rfl) (ag ((av _ _ (cd rfl (fun aZ=> ?_) (fun aZ=> ?_)))))))))
 exact rg rfl (p mv (ab (aa (b - a)) (p (cI ((o - (b - a):Nat):Int) rfl rfl (aQ (by omega) (by omega))) (ae (((⟨o - (b - a),(by omega),an,(bW ah V (fun k hk h=>O (h ▸ hk))),(Md.trans' ac V (fun k hk h=>by omega)),rfl,rfl,rfl,rfl,rfl,rfl,rfl⟩)))))))
 exact au (tn (⟨o,(by omega),an,(bW ah V (fun k hk h=>O (h ▸ hk))),(Md.trans' ac V (fun k hk h=>by omega)),rfl,rfl,rfl,rfl,rfl,rfl,rfl⟩))
 rintro I wC ⟨C,br,aN,G,aT,bc,bd,bg,bh,bi,bk,bf⟩
 refine fx 0 bc (fx 1 bd (fx 6 bg (fx 7 bh (fx 8 bi (fx 9 bk (fx 10 bf ?_))))))
 have hdcn:=dS G
 have j:(fun w'=>Wk wC w') wC.drew:=(Md.refl _ _).drew
 refine dG (fun w'=>Wk wC w') 17 rfl wide j (a3 0 rfl (.slice s n cp) j (a3 1 rfl (aa A) j (a3 2 rfl (.slice s n cp) j (a3 3 rfl (aa a) j (a3 4 rfl (aa C) j (a5 5 rfl (fun _=>a9 ((a+C:Nat):Int) rfl rfl (aQ (by omega) (by omega))) (fun _=>j) (a3 6 rfl (.slice s n cp) j ?_)))))))
 refine a3 7 rfl (aa a) j (a3 8 rfl (aa C) j (a5 9 rfl (fun _=>a9 ((a+C:Nat):Int) rfl rfl (aQ (by omega) (by omega))) (fun _=>j) (a5 10 rfl (fun _=>aJ bj rfl rfl (by omega) (ak.ok ((aI G).2) (bu (by omega)))) (fun _=>j) (cO 11 rfl (fun w' M=>ld bJ rfl (bZ (i:=a+C) ((aI G).2.wk M) (by omega))) j (a3 12 rfl (.slice s n cp) j (a3 13 rfl (aa A) j (a5 14 rfl (fun _=>aJ bj rfl rfl (by omega) (ak.ok ((aI G).2) (bu (by omega)))) (fun _=>j) ?_)))))))
 refine cO 15 rfl (fun w' M=>ld bJ rfl (bZ (i:=A) ((aI G).2.wk M) (by omega))) j (a5 16 rfl (fun _=>aJ bj rfl rfl (by omega) (ak.ok ((aI G).2) (bu (by omega)))) (fun _=>j) (cD 17 rfl (by kernel_rfl) (by kernel_rfl) (ej (u:=E[a+C]!) (A) (aE G j) eb rfl rfl rfl (by omega) fun bw aR a0=> ?_)))
 refine a5 18 rfl (fun _=>aJ bj rfl rfl (by omega) (ak.ok ((aI G).2) (bu (by omega)))) (fun h=>Bool.noConfusion ((show true =_ from by kernel_rfl).trans h)) (cD 19 rfl (by kernel_rfl) (by kernel_rfl) (ej (u:=E[A]!) (a+C) a0 eb rfl rfl rfl (by omega) fun wS2 aS a1=> ?_))
 have M:wS2.ownsRow B 71 1 (.slice s n cp) n (LE aM (Go.Sort.swp E (A) (a+C))):=a1
 have ap:Md (fun q=>(Value.slice s n cp).ownBlock=some q) wC wS2:=Md.trans (j.mono (fun _ _ h=>h.elim)) (Md.trans aR aS)
 refine dF (by kernel_rfl) ?_
 refine bn (tn (aF _ _ (rg rfl (ab (aa A) (p (a9 ((A+1:Nat):Int) rfl rfl (aQ (by omega) (by omega))) (p aj (nl (tn ?_))))))))
 exact ⟨_,by omega,A+1,ai,Go.Sort.swp E A (a+C),(by omega),(JP aA (by omega) (by omega) (by omega) rfl),(ap.B aN (fun h=>O h)),M,(Md.trans aT ap),rfl,rfl,rfl,rfl,rfl,rfl,rfl⟩
 refine ext (te _ (te _ (be (f0 rfl ?_))))
 exact ⟨E,rfl,aA,ah,ac⟩
end Go.Hb.o5
end
section
set_option maxRecDepth 20000
set_option maxHeartbeats 1000000
namespace Go.Hb.vH
open Go.Hb.di
open Go.Proofs
open Go.Hb.mh
theorem JH {d:Array Nat} {a b p i j:Nat} (h1:Go.Sort.scanUp (fun x=>bm x (Go.Sort.swp d a p)[a]!) (Go.Sort.swp d a p) (b - 1) (a+1)=i) (h2:Go.Sort.scanDown (fun x=> !bm x (Go.Sort.swp d a p)[a]!) (Go.Sort.swp d a p) i (b - 1)=j) (h:i > j):
 Go.Sort.partition bm d a b p=(j,true,Go.Sort.swp (Go.Sort.swp d a p) j a):=by
 unfold Go.Sort.partition; simp only [h1,h2,if_pos h]
theorem JI {d:Array Nat} {a b p i j q:Nat} {s:Array Nat} (h1:Go.Sort.scanUp (fun x=>bm x (Go.Sort.swp d a p)[a]!) (Go.Sort.swp d a p) (b - 1) (a+1)=i) (h2:Go.Sort.scanDown (fun x=> !bm x (Go.Sort.swp d a p)[a]!) (Go.Sort.swp d a p) i (b - 1)=j) (h:¬i > j)
 (h3:Go.Sort.partLoop bm a (i+1) (j - 1) (Go.Sort.swp (Go.Sort.swp d a p) i j)=(q,s)):
 Go.Sort.partition bm d a b p=(q,false,Go.Sort.swp s q a):=by
 unfold Go.Sort.partition; simp only [h1,h2,if_neg h,h3]
theorem JJ (d:Array Nat) (a b A:Nat) (B n cp:Nat) (s:Option Addr) (w:World) (aq:w.ownsRow B 71 1 (.slice s n cp) n (LE aM d)) (c7:a≤A∧A < b∧b≤n) (da:n≤1099511627776):
 aU Tryz.prog 164 (List.toArray [.slice s n cp,aa a,aa b,aa A]) w (fun v w'=>v= .tuple #[aa ((Go.Sort.partition bm d a b A).1),.bool (Go.Sort.partition bm d a b A).2.1]∧w'.ownsRow B 71 1 (.slice s n cp) n (LE aM (Go.Sort.partition bm d a b A).2.2)∧Md (fun q=>(Value.slice s n cp).ownBlock=some q) w w'):=by
 refine enter Tryz.func164 rfl Tryz.ntmps164 rfl ?_
 refine U (fun _ bw=>(p aj (ae (((bw _ _ (sq (fun _ bx=> ?_))))))))
 have hdn:=dS aq
 have ah:(fun w'=>Wk w w') w.drew:=(Md.refl _ _).drew
 refine dG (fun w'=>Wk w w') 13 rfl wide ah (a3 0 rfl (.slice s n cp) ah (a3 1 rfl (aa a) ah (a3 2 rfl (.slice s n cp) ah (a3 3 rfl (aa A) ah (a3 4 rfl (.slice s n cp) ah (a3 5 rfl (aa A) ah (a5 6 rfl (fun _=>aJ bj rfl rfl (by omega) (ak.ok ((aI aq).2) (bu (by omega)))) (fun _=>ah) ?_)))))))
 refine cO 7 rfl (fun w' E=>ld bJ rfl (bZ (i:=A) ((aI aq).2.wk E) (by omega))) ah (a3 8 rfl (.slice s n cp) ah (a3 9 rfl (aa a) ah (a5 10 rfl (fun _=>aJ bj rfl rfl (by omega) (ak.ok ((aI aq).2) (bu (by omega)))) (fun _=>ah) (cO 11 rfl (fun w' E=>ld bJ rfl (bZ (i:=a) ((aI aq).2.wk E) (by omega))) ah (a5 12 rfl (fun _=>aJ bj rfl rfl (by omega) (ak.ok ((aI aq).2) (bu (by omega)))) (fun _=>ah) (cD 13 rfl (by kernel_rfl) (by kernel_rfl) (ej (u:=d[A]!) (a) (aE aq ah) eb rfl rfl rfl (by omega) fun df bI ch=> ?_)))))))
 refine a5 14 rfl (fun _=>aJ bj rfl rfl (by omega) (ak.ok ((aI aq).2) (bu (by omega)))) (fun h=>Bool.noConfusion ((show true =_ from by kernel_rfl).trans h)) (cD 15 rfl (by kernel_rfl) (by kernel_rfl) (ej (u:=d[a]!) (A) ch eb rfl rfl rfl (by omega) fun wP12 bK ci=> ?_))
 have bY:wP12.ownsRow B 71 1 (.slice s n cp) n (LE aM (Go.Sort.swp d (a) (A))):=ci
 have bH:Md (fun q=>(Value.slice s n cp).ownBlock=some q) w wP12:=Md.trans (ah.mono (fun _ _ h=>h.elim)) (Md.trans bI bK)
 refine dF (by kernel_rfl) ?_
 refine tn (bx _ _ (U (fun _ bz=>(ab (aa a) (p (a9 ((a+1:Nat):Int) rfl rfl (aQ (by omega) (by omega))) (ab (aa b) (p (cI ((b - 1:Nat):Int) rfl rfl (aQ (by omega) (by omega))) (p aj ?_))))))))
 refine ae (((bz _ _ ?_)))
 refine cX (fun aO bi=> ∃ (J:Nat),(a+1≤J∧(J=a+1∨J≤b - 1 +1))∧(Go.Sort.scanUp (fun x=>bm x (Go.Sort.swp d a A)[a]!) (Go.Sort.swp d a A) (b - 1) (a+1)=J)∧(bi.ownsRow B 71 1 (.slice s n cp) n (LE aM (Go.Sort.swp d a A)))∧(Md (fun q=>(Value.slice s n cp).ownBlock=some q) w bi)∧(aO 0= .slice s n cp)∧(aO 1=aa a)∧(aO 10=aa J)∧(aO 11=aa (b - 1))) ?_ ?_
 refine az (lp (fun an aP ay=> ∃ (q:Nat),(a+1≤q∧(q=a+1∨q≤b - 1 +1))∧(Go.Sort.scanUp (fun x=>bm x (Go.Sort.swp d a A)[a]!) (Go.Sort.swp d a A) (b - 1) (q)=Go.Sort.scanUp (fun x=>bm x (Go.Sort.swp d a A)[a]!) (Go.Sort.swp d a A) (b - 1) (a+1))∧(ay.ownsRow B 71 1 (.slice s n cp) n (LE aM (Go.Sort.swp d a A)))∧(Md (fun q=>(Value.slice s n cp).ownBlock=some q) w ay)∧(aP 0= .slice s n cp)∧(aP 1=aa a)∧(aP 10=aa q)∧(aP 11=aa (b - 1))∧(b - 1 +1 - q=an)) _ ⟨a+1,(by omega),rfl,bY,bH,rfl,rfl,rfl,rfl,rfl⟩ ?_)
 rintro an aP ay ⟨q,hq1,hq2,C,am,cx,cy,cz,cA,rfl⟩
 refine fx 0 cx (fx 1 cy (fx 10 cz (fx 11 cA (sq (fun _ aL=>sq (fun _ av=> ?_))))))
 have hdcn:=dS C
 have Z:(fun w'=>Wk ay w') ay.drew:=(Md.refl _ _).drew
 refine bC (fun w'=>Wk ay w') rfl wide Z (bo 0 rfl (aa q) Z (bo 1 rfl (aa (b - 1)) Z (aA 2 rfl (fun _ _=>le rfl rfl) Z (aA 3 rfl (fun _ _=>mv) Z (jd (t:=33) rfl (fun ce=> ?_) (fun ce=> ?_))))))
 refine bc 4 rfl (by kernel_rfl) rfl rfl rfl (fun _ _=>aB (.slice s n cp) rfl) Z (bc 5 rfl (by kernel_rfl) rfl rfl rfl (fun _ _=>aB (aa q) rfl) Z (bc 6 rfl (by kernel_rfl) rfl rfl rfl (fun _ _=>aJ bj rfl rfl (by omega) (ak.ok ((aI C).2) (bu (by omega)))) Z (bc 7 rfl (by kernel_rfl) rfl rfl rfl (fun w' E=>ld bJ rfl (bZ (i:=q) ((aI C).2.wk E) (by omega))) Z (bc 8 rfl (by kernel_rfl) rfl rfl rfl (fun _ _=>aB (.slice s n cp) rfl) Z (bc 9 rfl (by kernel_rfl) rfl rfl rfl (fun _ _=>aB (aa a) rfl) Z (bc 10 rfl (by kernel_rfl) rfl rfl rfl (fun _ _=>aJ bj rfl rfl (by omega) (ak.ok ((aI C).2) (bu (by omega)))) Z (bc 11 rfl (by kernel_rfl) rfl rfl rfl (fun w' E=>ld bJ rfl (bZ (i:=a) ((aI C).2.wk E) (by omega))) Z ?_)))))))
 refine ks 12 rfl (by kernel_rfl) rfl rfl rfl (cl iH (iM (Go.Sort.swp d a A)[q]! (Go.Sort.swp d a A)[a]! _) rfl fun dd w42 b6=> ?_)
 obtain ⟨rfl,hE42⟩:=b6
 have aH:(fun w'=>Wk ay w') w42:=Md.trans Z hE42
 refine ⟨aH,?_⟩
 refine aA 13 rfl (fun _ _=>bf rfl) aH (hn (by kernel_rfl) (tn (av _ _ (cb rfl (fun bd=> ?_) (fun bd=> ?_)))))
 refine au (tn (aL _ _ (az (rg rfl (ab (aa q) (p (a9 ((q+1:Nat):Int) rfl rfl (aQ (by omega) (by omega))) (p aj (nl ?_))))))))
 exact bn (tn (⟨_,by omega,q+1,(by omega),((by rw [← hq2,vk (show q≤b - 1 by omega) (by simpa using bd)])),(aE C aH),(Md.trans am (aH.mono (fun _ _ h=>h.elim))),rfl,rfl,rfl,rfl,rfl⟩))
 exact ext (te _ (te _ (be (tn (⟨q,hq1,((by rw [← hq2,nG (.inr (by simpa using bd))])),(aE C aH),(Md.trans am (aH.mono (fun _ _ h=>h.elim))),rfl,rfl,rfl,rfl⟩)))))
 refine a7 4 rfl (by kernel_rfl) rfl rfl rfl rfl Z ?_
 refine a7 5 rfl (by kernel_rfl) rfl rfl rfl rfl Z ?_
 refine a7 6 rfl (by kernel_rfl) rfl rfl rfl rfl Z ?_
 refine a7 7 rfl (by kernel_rfl) rfl rfl rfl rfl Z ?_
 refine a7 8 rfl (by kernel_rfl) rfl rfl rfl rfl Z ?_
 refine a7 9 rfl (by kernel_rfl) rfl rfl rfl rfl Z ?_
 refine a7 10 rfl (by kernel_rfl) rfl rfl rfl rfl Z ?_
 refine a7 11 rfl (by kernel_rfl) rfl rfl rfl rfl Z ?_
 refine a7 12 rfl (by kernel_rfl) rfl rfl rfl rfl Z ?_
 refine aA 13 rfl (fun _ _=>a4 rfl) Z (hn (by kernel_rfl) (tn (av _ _ (cf rfl (ext (te _ (te _ (be ?_))))))))
 exact tn (⟨q,hq1,((by rw [← hq2,nG (.inl (by omega))])),(aE C (Md.refl _ _).drew),am.drew,rfl,rfl,rfl,rfl⟩)
 rintro aO bi ⟨J,c8,bt,a8,a6,ct,cu,cv,cw⟩
 refine fx 0 ct (fx 1 cu (fx 10 cv (fx 11 cw ?_)))
 refine cX (fun aR ao=> ∃ (M:Nat),(a≤M∧M≤b - 1)∧(Go.Sort.scanDown (fun x=> !bm x (Go.Sort.swp d a A)[a]!) (Go.Sort.swp d a A) (J) (b - 1)=M)∧(ao.ownsRow B 71 1 (.slice s n cp) n (LE aM (Go.Sort.swp d a A)))∧(Md (fun q=>(Value.slice s n cp).ownBlock=some q) w ao)∧(aR 0= .slice s n cp)∧(aR 1=aa a)∧(aR 10=aa J)∧(aR 11=aa M)) ?_ ?_
 refine az (lp (fun an aS aD=> ∃ (q:Nat),(a≤q∧q≤b - 1)∧(Go.Sort.scanDown (fun x=> !bm x (Go.Sort.swp d a A)[a]!) (Go.Sort.swp d a A) (J) (q)=Go.Sort.scanDown (fun x=> !bm x (Go.Sort.swp d a A)[a]!) (Go.Sort.swp d a A) (J) (b - 1))∧(aD.ownsRow B 71 1 (.slice s n cp) n (LE aM (Go.Sort.swp d a A)))∧(Md (fun q=>(Value.slice s n cp).ownBlock=some q) w aD)∧(aS 0= .slice s n cp)∧(aS 1=aa a)∧(aS 10=aa J)∧(aS 11=aa q)∧(q=an)) _ ⟨b - 1,(by omega),rfl,a8,a6,rfl,rfl,rfl,rfl,rfl⟩ ?_)
 rintro an aS aD ⟨q,hq1,hq2,C,am,cG,cH,cJ,cK,rfl⟩
 refine fx 0 cG (fx 1 cH (fx 10 cJ (fx 11 cK (sq (fun _ aL=>sq (fun _ av=> ?_))))))
 have hdcn:=dS C
 have V:(fun w'=>Wk aD w') aD.drew:=(Md.refl _ _).drew
 refine bC (fun w'=>Wk aD w') rfl wide V (bo 0 rfl (aa J) V (bo 1 rfl (aa q) V (aA 2 rfl (fun _ _=>le rfl rfl) V (aA 3 rfl (fun _ _=>mv) V (jd (t:=49) rfl (fun cg=> ?_) (fun cg=> ?_))))))
 refine bc 4 rfl (by kernel_rfl) rfl rfl rfl (fun _ _=>aB (.slice s n cp) rfl) V (bc 5 rfl (by kernel_rfl) rfl rfl rfl (fun _ _=>aB (aa q) rfl) V (bc 6 rfl (by kernel_rfl) rfl rfl rfl (fun _ _=>aJ bj rfl rfl (by omega) (ak.ok ((aI C).2) (bu (by omega)))) V (bc 7 rfl (by kernel_rfl) rfl rfl rfl (fun w' E=>ld bJ rfl (bZ (i:=q) ((aI C).2.wk E) (by omega))) V (bc 8 rfl (by kernel_rfl) rfl rfl rfl (fun _ _=>aB (.slice s n cp) rfl) V (bc 9 rfl (by kernel_rfl) rfl rfl rfl (fun _ _=>aB (aa a) rfl) V (bc 10 rfl (by kernel_rfl) rfl rfl rfl (fun _ _=>aJ bj rfl rfl (by omega) (ak.ok ((aI C).2) (bu (by omega)))) V (bc 11 rfl (by kernel_rfl) rfl rfl rfl (fun w' E=>ld bJ rfl (bZ (i:=a) ((aI C).2.wk E) (by omega))) V ?_)))))))
 refine ks 12 rfl (by kernel_rfl) rfl rfl rfl (cl iH (iM (Go.Sort.swp d a A)[q]! (Go.Sort.swp d a A)[a]! _) rfl fun de w58 b7=> ?_)
 obtain ⟨rfl,hE58⟩:=b7
 have ax:(fun w'=>Wk aD w') w58:=Md.trans V hE58
 refine ⟨ax,?_⟩
 refine bc 13 rfl (by kernel_rfl) rfl rfl rfl (fun _ _=>no rfl) ax (aA 14 rfl (fun _ _=>bf rfl) ax (hn (by kernel_rfl) (tn (av _ _ (cb rfl (fun bg=> ?_) (fun bg=> ?_))))))
 refine au (tn (aL _ _ (az (rg rfl (ab (aa q) (p (cI ((q - 1:Nat):Int) rfl rfl (aQ (by omega) (by omega))) (p aj (nl ?_))))))))
 exact bn (tn (⟨_,by omega,q - 1,(by omega),((by rw [← hq2,sU (show 0 < q by omega) (show J≤q by omega) (by simpa using bg)])),(aE C ax),(Md.trans am (ax.mono (fun _ _ h=>h.elim))),rfl,rfl,rfl,rfl,rfl⟩))
 exact ext (te _ (te _ (be (tn (⟨q,hq1,((by rw [← hq2,m8 (.inr (by simpa using bg))])),(aE C ax),(Md.trans am (ax.mono (fun _ _ h=>h.elim))),rfl,rfl,rfl,rfl⟩)))))
 refine a7 4 rfl (by kernel_rfl) rfl rfl rfl rfl V ?_
 refine a7 5 rfl (by kernel_rfl) rfl rfl rfl rfl V ?_
 refine a7 6 rfl (by kernel_rfl) rfl rfl rfl rfl V ?_
 refine a7 7 rfl (by kernel_rfl) rfl rfl rfl rfl V ?_
 refine a7 8 rfl (by kernel_rfl) rfl rfl rfl rfl V ?_
 refine a7 9 rfl (by kernel_rfl) rfl rfl rfl rfl V ?_
 refine a7 10 rfl (by kernel_rfl) rfl rfl rfl rfl V ?_
 refine a7 11 rfl (by kernel_rfl) rfl rfl rfl rfl V ?_
 refine a7 12 rfl (by kernel_rfl) rfl rfl rfl rfl V ?_
 refine a7 13 rfl (by kernel_rfl) rfl rfl rfl rfl V ?_
 refine aA 14 rfl (fun _ _=>a4 rfl) V (hn (by kernel_rfl) (tn (av _ _ (cf rfl (ext (te _ (te _ (be ?_))))))))
 exact tn (⟨q,hq1,((by rw [← hq2,m8 (.inl (by omega))])),(aE C (Md.refl _ _).drew),am.drew,rfl,rfl,rfl,rfl⟩)
 rintro aR ao ⟨M,c9,bl,G,aN,cB,cC,cE,cF⟩
 refine fx 0 cB (fx 1 cC (fx 10 cE (fx 11 cF (sq (fun _ aL=>U (fun _ av=>(ab (aa J) (ab (aa M) (p (gt rfl rfl) (nl ?_))))))))))
 refine tn (av _ _ (cd rfl (fun b9=> ?_) (fun b9=> ?_)))
 refine sq (fun _ a1=> ?_)
 have hdcn:=dS G
 have al:(fun w'=>Wk ao w') ao.drew:=(Md.refl _ _).drew
 refine dG (fun w'=>Wk ao w') 13 rfl wide al (a3 0 rfl (.slice s n cp) al (a3 1 rfl (aa M) al (a3 2 rfl (.slice s n cp) al (a3 3 rfl (aa a) al (a3 4 rfl (.slice s n cp) al (a3 5 rfl (aa a) al (a5 6 rfl (fun _=>aJ bj rfl rfl (by omega) (ak.ok ((aI G).2) (bu (by omega)))) (fun _=>al) ?_)))))))
 refine cO 7 rfl (fun w' E=>ld bJ rfl (bZ (i:=a) ((aI G).2.wk E) (by omega))) al (a3 8 rfl (.slice s n cp) al (a3 9 rfl (aa M) al (a5 10 rfl (fun _=>aJ bj rfl rfl (by omega) (ak.ok ((aI G).2) (bu (by omega)))) (fun _=>al) (cO 11 rfl (fun w' E=>ld bJ rfl (bZ (i:=M) ((aI G).2.wk E) (by omega))) al (a5 12 rfl (fun _=>aJ bj rfl rfl (by omega) (ak.ok ((aI G).2) (bu (by omega)))) (fun _=>al) (cD 13 rfl (by kernel_rfl) (by kernel_rfl) (ej (u:=(Go.Sort.swp d a A)[a]!) (M) (aE G al) eb rfl rfl rfl (by omega) fun dg bM cj=> ?_)))))))
 refine a5 14 rfl (fun _=>aJ bj rfl rfl (by omega) (ak.ok ((aI G).2) (bu (by omega)))) (fun h=>Bool.noConfusion ((show true =_ from by kernel_rfl).trans h)) (cD 15 rfl (by kernel_rfl) (by kernel_rfl) (ej (u:=(Go.Sort.swp d a A)[M]!) (a) cj eb rfl rfl rfl (by omega) fun wP82 bN ck=> ?_))
 have b0:wP82.ownsRow B 71 1 (.slice s n cp) n (LE aM (Go.Sort.swp (Go.Sort.swp d a A) (M) (a))):=ck
 have bL:Md (fun q=>(Value.slice s n cp).ownBlock=some q) ao wP82:=Md.trans (al.mono (fun _ _ h=>h.elim)) (Md.trans bM bN)
 refine dF (by kernel_rfl) ?_
 refine tn (a1 _ _ (U (fun _ a2=>(ab (aa M) (p (bG (aa M) rfl) (ae (((a2 _ _ ?_)))))))))
 refine rt (tr (f2 rfl rfl rfl ?_))
 have hz:=JH bt bl (by omega)
 exact ⟨by rw [hz]; rfl,by rw [hz]; exact b0,Md.trans aN bL⟩
 refine au (tn (aL _ _ (sq (fun _ a1=> ?_))))
 have hdcn:=dS G
 have ai:(fun w'=>Wk ao w') ao.drew:=(Md.refl _ _).drew
 refine dG (fun w'=>Wk ao w') 13 rfl wide ai (a3 0 rfl (.slice s n cp) ai (a3 1 rfl (aa J) ai (a3 2 rfl (.slice s n cp) ai (a3 3 rfl (aa M) ai (a3 4 rfl (.slice s n cp) ai (a3 5 rfl (aa M) ai (a5 6 rfl (fun _=>aJ bj rfl rfl (by omega) (ak.ok ((aI G).2) (bu (by omega)))) (fun _=>ai) ?_)))))))
 refine cO 7 rfl (fun w' E=>ld bJ rfl (bZ (i:=M) ((aI G).2.wk E) (by omega))) ai (a3 8 rfl (.slice s n cp) ai (a3 9 rfl (aa J) ai (a5 10 rfl (fun _=>aJ bj rfl rfl (by omega) (ak.ok ((aI G).2) (bu (by omega)))) (fun _=>ai) (cO 11 rfl (fun w' E=>ld bJ rfl (bZ (i:=J) ((aI G).2.wk E) (by omega))) ai (a5 12 rfl (fun _=>aJ bj rfl rfl (by omega) (ak.ok ((aI G).2) (bu (by omega)))) (fun _=>ai) (cD 13 rfl (by kernel_rfl) (by kernel_rfl) (ej (u:=(Go.Sort.swp d a A)[M]!) (J) (aE G ai) eb rfl rfl rfl (by omega) fun dh bP cm=> ?_)))))))
 refine a5 14 rfl (fun _=>aJ bj rfl rfl (by omega) (ak.ok ((aI G).2) (bu (by omega)))) (fun h=>Bool.noConfusion ((show true =_ from by kernel_rfl).trans h)) (cD 15 rfl (by kernel_rfl) (by kernel_rfl) (ej (u:=(Go.Sort.swp d a A)[J]!) (M) cm eb rfl rfl rfl (by omega) fun wPX2 bQ cn=> ?_))
 have b1:wPX2.ownsRow B 71 1 (.slice s n cp) n (LE aM (Go.Sort.swp (Go.Sort.swp d a A) (J) (M))):=cn
 have bO:Md (fun q=>(Value.slice s n cp).ownBlock=some q) ao wPX2:=Md.trans (ai.mono (fun _ _ h=>h.elim)) (Md.trans bP bQ)
 refine dF (by kernel_rfl) ?_
 refine tn (a1 _ _ (U (fun _ a2=>(ab (aa J) (p (a9 ((J+1:Nat):Int) rfl rfl (aQ (by omega) (by omega))) (ae (((a2 _ _ ?_)))))))))
 refine U (fun _ bA=>(ab (aa M) (p (cI ((M - 1:Nat):Int) rfl rfl (aQ (by omega) (by omega))) (ae (((bA _ _ (sq (fun _ bB=> ?_)))))))))
 refine az (lp (fun an aT bh=> ∃ (i j:Nat) (I:Array Nat),(a+2≤i∧i≤b∧a≤j∧j < b∧i≤j+2)∧(Go.Sort.partLoop bm a i j I=Go.Sort.partLoop bm a (J+1) (M - 1) (Go.Sort.swp (Go.Sort.swp d a A) J M))∧(bh.ownsRow B 71 1 (.slice s n cp) n (LE aM I))∧(Md (fun q=>(Value.slice s n cp).ownBlock=some q) w bh)∧(aT 0= .slice s n cp)∧(aT 1=aa a)∧(aT 10=aa i)∧(aT 11=aa j)∧(j+1 - i=an)) _ ⟨J+1,M - 1,Go.Sort.swp (Go.Sort.swp d a A) J M,(by omega),rfl,b1,(Md.trans aN bO),rfl,rfl,rfl,rfl,rfl⟩ ?_)
 rintro an aT bh ⟨i,j,I,hi,bs,bX,bF,cL,cM,cN,cP,rfl⟩
 refine fx 0 cL (fx 1 cM (fx 10 cN (fx 11 cP (az ?_))))
 refine cX (fun aV bk=> ∃ (ac:Nat),(i≤ac∧(ac=i∨ac≤j+1))∧(Go.Sort.scanUp (fun x=>bm x I[a]!) I (j) (i)=ac)∧(bk.ownsRow B 71 1 (.slice s n cp) n (LE aM I))∧(Md (fun q=>(Value.slice s n cp).ownBlock=some q) w bk)∧(aV 0= .slice s n cp)∧(aV 1=aa a)∧(aV 10=aa ac)∧(aV 11=aa j)) ?_ ?_
 refine az (lp (fun an aW aC=> ∃ (q:Nat),(i≤q∧(q=i∨q≤j+1))∧(Go.Sort.scanUp (fun x=>bm x I[a]!) I (j) (q)=Go.Sort.scanUp (fun x=>bm x I[a]!) I (j) (i))∧(aC.ownsRow B 71 1 (.slice s n cp) n (LE aM I))∧(Md (fun q=>(Value.slice s n cp).ownBlock=some q) w aC)∧(aW 0= .slice s n cp)∧(aW 1=aa a)∧(aW 10=aa q)∧(aW 11=aa j)∧(j+1 - q=an)) _ ⟨i,(by omega),rfl,bX,bF,rfl,rfl,rfl,rfl,rfl⟩ ?_)
 rintro an aW aC ⟨q,hq1,hq2,C,am,cU,cV,cW,cY,rfl⟩
 refine fx 0 cU (fx 1 cV (fx 10 cW (fx 11 cY (sq (fun _ aK=>sq (fun _ ar=> ?_))))))
 have hdcn:=dS C
 have Y:(fun w'=>Wk aC w') aC.drew:=(Md.refl _ _).drew
 refine bC (fun w'=>Wk aC w') rfl wide Y (bo 0 rfl (aa q) Y (bo 1 rfl (aa j) Y (aA 2 rfl (fun _ _=>le rfl rfl) Y (aA 3 rfl (fun _ _=>mv) Y (jd (t:=102) rfl (fun ca=> ?_) (fun ca=> ?_))))))
 refine bc 4 rfl (by kernel_rfl) rfl rfl rfl (fun _ _=>aB (.slice s n cp) rfl) Y (bc 5 rfl (by kernel_rfl) rfl rfl rfl (fun _ _=>aB (aa q) rfl) Y (bc 6 rfl (by kernel_rfl) rfl rfl rfl (fun _ _=>aJ bj rfl rfl (by omega) (ak.ok ((aI C).2) (bu (by omega)))) Y (bc 7 rfl (by kernel_rfl) rfl rfl rfl (fun w' E=>ld bJ rfl (bZ (i:=q) ((aI C).2.wk E) (by omega))) Y (bc 8 rfl (by kernel_rfl) rfl rfl rfl (fun _ _=>aB (.slice s n cp) rfl) Y (bc 9 rfl (by kernel_rfl) rfl rfl rfl (fun _ _=>aB (aa a) rfl) Y (bc 10 rfl (by kernel_rfl) rfl rfl rfl (fun _ _=>aJ bj rfl rfl (by omega) (ak.ok ((aI C).2) (bu (by omega)))) Y (bc 11 rfl (by kernel_rfl) rfl rfl rfl (fun w' E=>ld bJ rfl (bZ (i:=a) ((aI C).2.wk E) (by omega))) Y ?_)))))))
 refine ks 12 rfl (by kernel_rfl) rfl rfl rfl (cl iH (iM I[q]! I[a]! _) rfl fun db w111 b4=> ?_)
 obtain ⟨rfl,bD⟩:=b4
 have aG:(fun w'=>Wk aC w') w111:=Md.trans Y bD
 refine ⟨aG,?_⟩
 refine aA 13 rfl (fun _ _=>bf rfl) aG (hn (by kernel_rfl) (tn (ar _ _ (cb rfl (fun ba=> ?_) (fun ba=> ?_)))))
 refine au (tn (aK _ _ (az (rg rfl (ab (aa q) (p (a9 ((q+1:Nat):Int) rfl rfl (aQ (by omega) (by omega))) (p aj (nl ?_))))))))
 exact bn (tn (⟨_,by omega,q+1,(by omega),((by rw [← hq2,vk (show q≤j by omega) (by simpa using ba)])),(aE C aG),(Md.trans am (aG.mono (fun _ _ h=>h.elim))),rfl,rfl,rfl,rfl,rfl⟩))
 exact ext (te _ (te _ (be (tn (⟨q,hq1,((by rw [← hq2,nG (.inr (by simpa using ba))])),(aE C aG),(Md.trans am (aG.mono (fun _ _ h=>h.elim))),rfl,rfl,rfl,rfl⟩)))))
 refine a7 4 rfl (by kernel_rfl) rfl rfl rfl rfl Y ?_
 refine a7 5 rfl (by kernel_rfl) rfl rfl rfl rfl Y ?_
 refine a7 6 rfl (by kernel_rfl) rfl rfl rfl rfl Y ?_
 refine a7 7 rfl (by kernel_rfl) rfl rfl rfl rfl Y ?_
 refine a7 8 rfl (by kernel_rfl) rfl rfl rfl rfl Y ?_
 refine a7 9 rfl (by kernel_rfl) rfl rfl rfl rfl Y ?_
 refine a7 10 rfl (by kernel_rfl) rfl rfl rfl rfl Y ?_
 refine a7 11 rfl (by kernel_rfl) rfl rfl rfl rfl Y ?_
 refine a7 12 rfl (by kernel_rfl) rfl rfl rfl rfl Y ?_
 refine aA 13 rfl (fun _ _=>a4 rfl) Y (hn (by kernel_rfl) (tn (ar _ _ (cf rfl (ext (te _ (te _ (be ?_))))))))
 exact tn (⟨q,hq1,((by rw [← hq2,nG (.inl (by omega))])),(aE C (Md.refl _ _).drew),am.drew,rfl,rfl,rfl,rfl⟩)
 rintro aV bk ⟨ac,bq,bv,a8,a6,cQ,cR,cS,cT⟩
 refine fx 0 cQ (fx 1 cR (fx 10 cS (fx 11 cT ?_)))
 refine cX (fun aX ap=> ∃ (ag:Nat),(a≤ag∧ag≤j)∧(Go.Sort.scanDown (fun x=> !bm x I[a]!) I (ac) (j)=ag)∧(ap.ownsRow B 71 1 (.slice s n cp) n (LE aM I))∧(Md (fun q=>(Value.slice s n cp).ownBlock=some q) w ap)∧(aX 0= .slice s n cp)∧(aX 1=aa a)∧(aX 10=aa ac)∧(aX 11=aa ag)) ?_ ?_
 refine az (lp (fun an aY aF=> ∃ (q:Nat),(a≤q∧q≤j)∧(Go.Sort.scanDown (fun x=> !bm x I[a]!) I (ac) (q)=Go.Sort.scanDown (fun x=> !bm x I[a]!) I (ac) (j))∧(aF.ownsRow B 71 1 (.slice s n cp) n (LE aM I))∧(Md (fun q=>(Value.slice s n cp).ownBlock=some q) w aF)∧(aY 0= .slice s n cp)∧(aY 1=aa a)∧(aY 10=aa ac)∧(aY 11=aa q)∧(q=an)) _ ⟨j,(by omega),rfl,a8,a6,rfl,rfl,rfl,rfl,rfl⟩ ?_)
 rintro an aY aF ⟨q,hq1,hq2,C,am,c3,c4,c5,c6,rfl⟩
 refine fx 0 c3 (fx 1 c4 (fx 10 c5 (fx 11 c6 (sq (fun _ aK=>sq (fun _ ar=> ?_))))))
 have hdcn:=dS C
 have O:(fun w'=>Wk aF w') aF.drew:=(Md.refl _ _).drew
 refine bC (fun w'=>Wk aF w') rfl wide O (bo 0 rfl (aa ac) O (bo 1 rfl (aa q) O (aA 2 rfl (fun _ _=>le rfl rfl) O (aA 3 rfl (fun _ _=>mv) O (jd (t:=118) rfl (fun cc=> ?_) (fun cc=> ?_))))))
 refine bc 4 rfl (by kernel_rfl) rfl rfl rfl (fun _ _=>aB (.slice s n cp) rfl) O (bc 5 rfl (by kernel_rfl) rfl rfl rfl (fun _ _=>aB (aa q) rfl) O (bc 6 rfl (by kernel_rfl) rfl rfl rfl (fun _ _=>aJ bj rfl rfl (by omega) (ak.ok ((aI C).2) (bu (by omega)))) O (bc 7 rfl (by kernel_rfl) rfl rfl rfl (fun w' E=>ld bJ rfl (bZ (i:=q) ((aI C).2.wk E) (by omega))) O (bc 8 rfl (by kernel_rfl) rfl rfl rfl (fun _ _=>aB (.slice s n cp) rfl) O (bc 9 rfl (by kernel_rfl) rfl rfl rfl (fun _ _=>aB (aa a) rfl) O (bc 10 rfl (by kernel_rfl) rfl rfl rfl (fun _ _=>aJ bj rfl rfl (by omega) (ak.ok ((aI C).2) (bu (by omega)))) O (bc 11 rfl (by kernel_rfl) rfl rfl rfl (fun w' E=>ld bJ rfl (bZ (i:=a) ((aI C).2.wk E) (by omega))) O ?_)))))))
 refine ks 12 rfl (by kernel_rfl) rfl rfl rfl (cl iH (iM I[q]! I[a]! _) rfl fun dc w127 b5=> ?_)
 obtain ⟨rfl,bE⟩:=b5
 have aw:(fun w'=>Wk aF w') w127:=Md.trans O bE
 refine ⟨aw,?_⟩
 refine bc 13 rfl (by kernel_rfl) rfl rfl rfl (fun _ _=>no rfl) aw (aA 14 rfl (fun _ _=>bf rfl) aw (hn (by kernel_rfl) (tn (ar _ _ (cb rfl (fun bb=> ?_) (fun bb=> ?_))))))
 refine au (tn (aK _ _ (az (rg rfl (ab (aa q) (p (cI ((q - 1:Nat):Int) rfl rfl (aQ (by omega) (by omega))) (p aj (nl ?_))))))))
 exact bn (tn (⟨_,by omega,q - 1,(by omega),((by rw [← hq2,sU (show 0 < q by omega) (show ac≤q by omega) (by simpa using bb)])),(aE C aw),(Md.trans am (aw.mono (fun _ _ h=>h.elim))),rfl,rfl,rfl,rfl,rfl⟩))
 exact ext (te _ (te _ (be (tn (⟨q,hq1,((by rw [← hq2,m8 (.inr (by simpa using bb))])),(aE C aw),(Md.trans am (aw.mono (fun _ _ h=>h.elim))),rfl,rfl,rfl,rfl⟩)))))
 refine a7 4 rfl (by kernel_rfl) rfl rfl rfl rfl O ?_
 refine a7 5 rfl (by kernel_rfl) rfl rfl rfl rfl O ?_
 refine a7 6 rfl (by kernel_rfl) rfl rfl rfl rfl O ?_
 refine a7 7 rfl (by kernel_rfl) rfl rfl rfl rfl O ?_
 refine a7 8 rfl (by kernel_rfl) rfl rfl rfl rfl O ?_
 refine a7 9 rfl (by kernel_rfl) rfl rfl rfl rfl O ?_
 refine a7 10 rfl (by kernel_rfl) rfl rfl rfl rfl O ?_
 refine a7 11 rfl (by kernel_rfl) rfl rfl rfl rfl O ?_
 refine a7 12 rfl (by kernel_rfl) rfl rfl rfl rfl O ?_
 refine a7 13 rfl (by kernel_rfl) rfl rfl rfl rfl O ?_
 refine aA 14 rfl (fun _ _=>a4 rfl) O (hn (by kernel_rfl) (tn (ar _ _ (cf rfl (ext (te _ (te _ (be ?_))))))))
 exact tn (⟨q,hq1,((by rw [← hq2,m8 (.inl (by omega))])),(aE C (Md.refl _ _).drew),am.drew,rfl,rfl,rfl,rfl⟩)
 rintro aX ap ⟨ag,br,bp,G,aN,cZ,c0,c1,c2⟩
 refine fx 0 cZ (fx 1 c0 (fx 10 c1 (fx 11 c2 (sq (fun _ aK=>U (fun _ ar=>(ab (aa ac) (ab (aa ag) (p (gt rfl rfl) (nl ?_))))))))))
 refine tn (ar _ _ (cd rfl (fun b8=> ?_) (fun b8=> ?_)))
 refine ext (te _ (kj (by decide) (te _ (be (tn (bB _ _ (sq (fun _ aZ=> ?_))))))))
 have hdcn:=dS G
 have hS21:(fun w'=>Wk ap w') ap.drew:=(Md.refl _ _).drew
 refine dG (fun w'=>Wk ap w') 13 rfl wide hS21 (a3 0 rfl (.slice s n cp) hS21 (a3 1 rfl (aa ag) hS21 (a3 2 rfl (.slice s n cp) hS21 (a3 3 rfl (aa a) hS21 (a3 4 rfl (.slice s n cp) hS21 (a3 5 rfl (aa a) hS21 (a5 6 rfl (fun _=>aJ bj rfl rfl (by omega) (ak.ok ((aI G).2) (bu (by omega)))) (fun _=>hS21) ?_)))))))
 refine cO 7 rfl (fun w' E=>ld bJ rfl (bZ (i:=a) ((aI G).2.wk E) (by omega))) hS21 (a3 8 rfl (.slice s n cp) hS21 (a3 9 rfl (aa ag) hS21 (a5 10 rfl (fun _=>aJ bj rfl rfl (by omega) (ak.ok ((aI G).2) (bu (by omega)))) (fun _=>hS21) (cO 11 rfl (fun w' E=>ld bJ rfl (bZ (i:=ag) ((aI G).2.wk E) (by omega))) hS21 (a5 12 rfl (fun _=>aJ bj rfl rfl (by omega) (ak.ok ((aI G).2) (bu (by omega)))) (fun _=>hS21) (cD 13 rfl (by kernel_rfl) (by kernel_rfl) (ej (u:=I[a]!) (ag) (aE G hS21) eb rfl rfl rfl (by omega) fun dj bV cr=> ?_)))))))
 refine a5 14 rfl (fun _=>aJ bj rfl rfl (by omega) (ak.ok ((aI G).2) (bu (by omega)))) (fun h=>Bool.noConfusion ((show true =_ from by kernel_rfl).trans h)) (cD 15 rfl (by kernel_rfl) (by kernel_rfl) (ej (u:=I[ag]!) (a) cr eb rfl rfl rfl (by omega) fun wPZ2 bW cs=> ?_))
 have b3:wPZ2.ownsRow B 71 1 (.slice s n cp) n (LE aM (Go.Sort.swp I (ag) (a))):=cs
 have bU:Md (fun q=>(Value.slice s n cp).ownBlock=some q) ap wPZ2:=Md.trans (hS21.mono (fun _ _ h=>h.elim)) (Md.trans bV bW)
 refine dF (by kernel_rfl) ?_
 refine tn (aZ _ _ (U (fun _ a0=>(ab (aa ag) (p (bG (aa ag) rfl) (ae (((a0 _ _ ?_)))))))))
 refine rt (f2 rfl rfl rfl ?_)
 have hz:=JI bt bl (by omega) (bs.symm.trans (by rw [AM bv bp bq.1 br.2,if_pos (by omega)]))
 exact ⟨by rw [hz]; rfl,by rw [hz]; exact b3,Md.trans aN bU⟩
 refine au (tn (aK _ _ (sq (fun _ aZ=> ?_))))
 have hdcn:=dS G
 have hS18:(fun w'=>Wk ap w') ap.drew:=(Md.refl _ _).drew
 refine dG (fun w'=>Wk ap w') 13 rfl wide hS18 (a3 0 rfl (.slice s n cp) hS18 (a3 1 rfl (aa ac) hS18 (a3 2 rfl (.slice s n cp) hS18 (a3 3 rfl (aa ag) hS18 (a3 4 rfl (.slice s n cp) hS18 (a3 5 rfl (aa ag) hS18 (a5 6 rfl (fun _=>aJ bj rfl rfl (by omega) (ak.ok ((aI G).2) (bu (by omega)))) (fun _=>hS18) ?_)))))))
 refine cO 7 rfl (fun w' E=>ld bJ rfl (bZ (i:=ag) ((aI G).2.wk E) (by omega))) hS18 (a3 8 rfl (.slice s n cp) hS18 (a3 9 rfl (aa ac) hS18 (a5 10 rfl (fun _=>aJ bj rfl rfl (by omega) (ak.ok ((aI G).2) (bu (by omega)))) (fun _=>hS18) (cO 11 rfl (fun w' E=>ld bJ rfl (bZ (i:=ac) ((aI G).2.wk E) (by omega))) hS18 (a5 12 rfl (fun _=>aJ bj rfl rfl (by omega) (ak.ok ((aI G).2) (bu (by omega)))) (fun _=>hS18) (cD 13 rfl (by kernel_rfl) (by kernel_rfl) (ej (u:=I[ag]!) (ac) (aE G hS18) eb rfl rfl rfl (by omega) fun di bS co=> ?_)))))))
 refine a5 14 rfl (fun _=>aJ bj rfl rfl (by omega) (ak.ok ((aI G).2) (bu (by omega)))) (fun h=>Bool.noConfusion ((show true =_ from by kernel_rfl).trans h)) (cD 15 rfl (by kernel_rfl) (by kernel_rfl) (ej (u:=I[ac]!) (ag) co eb rfl rfl rfl (by omega) fun wPY2 bT cq=> ?_))
 have b2:wPY2.ownsRow B 71 1 (.slice s n cp) n (LE aM (Go.Sort.swp I (ac) (ag))):=cq
 have bR:Md (fun q=>(Value.slice s n cp).ownBlock=some q) ap wPY2:=Md.trans (hS18.mono (fun _ _ h=>h.elim)) (Md.trans bS bT)
 refine dF (by kernel_rfl) ?_
 refine tn (aZ _ _ (U (fun _ a0=>(ab (aa ac) (p (a9 ((ac+1:Nat):Int) rfl rfl (aQ (by omega) (by omega))) (ae (((a0 _ _ ?_)))))))))
 exact rg rfl (ab (aa ag) (p (cI ((ag - 1:Nat):Int) rfl rfl (aQ (by omega) (by omega))) (p aj (nl (bn (tn (⟨_,by omega,ac+1,ag - 1,Go.Sort.swp I ac ag,(by omega),((by rw [← bs,AM bv bp bq.1 br.2,if_neg (by omega),if_pos (by omega)])),b2,(Md.trans aN bR),rfl,rfl,rfl,rfl,rfl⟩)))))))
theorem JL (d:Array Nat) (a b Y:Nat) (B n cp:Nat) (s:Option Addr) (w:World) (ah:w.ownsRow B 71 1 (.slice s n cp) n (LE aM d)) (bT:a≤Y∧Y < b∧b≤n) (bW:n≤1099511627776):
 aU Tryz.prog 163 (List.toArray [.slice s n cp,aa a,aa b,aa Y]) w (fun v w'=>v=aa ((Go.Sort.partitionEqual bm d a b Y).1)∧w'.ownsRow B 71 1 (.slice s n cp) n (LE aM (Go.Sort.partitionEqual bm d a b Y).2)∧Md (fun q=>(Value.slice s n cp).ownBlock=some q) w w'):=by
 refine enter Tryz.func163 rfl Tryz.ntmps163 rfl ?_
 refine U (fun _ aR=>(ae (((aR _ _ (sq (fun _ aS=> ?_)))))))
 have hdn:=dS ah
 have J:(fun w'=>Wk w w') w.drew:=(Md.refl _ _).drew
 refine dG (fun w'=>Wk w w') 13 rfl wide J (a3 0 rfl (.slice s n cp) J (a3 1 rfl (aa a) J (a3 2 rfl (.slice s n cp) J (a3 3 rfl (aa Y) J (a3 4 rfl (.slice s n cp) J (a3 5 rfl (aa Y) J (a5 6 rfl (fun _=>aJ bj rfl rfl (by omega) (ak.ok ((aI ah).2) (bu (by omega)))) (fun _=>J) ?_)))))))
 refine cO 7 rfl (fun w' V=>ld bJ rfl (bZ (i:=Y) ((aI ah).2.wk V) (by omega))) J (a3 8 rfl (.slice s n cp) J (a3 9 rfl (aa a) J (a5 10 rfl (fun _=>aJ bj rfl rfl (by omega) (ak.ok ((aI ah).2) (bu (by omega)))) (fun _=>J) (cO 11 rfl (fun w' V=>ld bJ rfl (bZ (i:=a) ((aI ah).2.wk V) (by omega))) J (a5 12 rfl (fun _=>aJ bj rfl rfl (by omega) (ak.ok ((aI ah).2) (bu (by omega)))) (fun _=>J) (cD 13 rfl (by kernel_rfl) (by kernel_rfl) (ej (u:=d[Y]!) (a) (aE ah J) eb rfl rfl rfl (by omega) fun b0 aZ bq=> ?_)))))))
 refine a5 14 rfl (fun _=>aJ bj rfl rfl (by omega) (ak.ok ((aI ah).2) (bu (by omega)))) (fun h=>Bool.noConfusion ((show true =_ from by kernel_rfl).trans h)) (cD 15 rfl (by kernel_rfl) (by kernel_rfl) (ej (u:=d[a]!) (Y) bq eb rfl rfl rfl (by omega) fun wP12 a0 br=> ?_))
 have bd:wP12.ownsRow B 71 1 (.slice s n cp) n (LE aM (Go.Sort.swp d (a) (Y))):=br
 have aY:Md (fun q=>(Value.slice s n cp).ownBlock=some q) w wP12:=Md.trans (J.mono (fun _ _ h=>h.elim)) (Md.trans aZ a0)
 refine dF (by kernel_rfl) ?_
 refine tn (aS _ _ (U (fun _ aT=>(ab (aa a) (p (a9 ((a+1:Nat):Int) rfl rfl (aQ (by omega) (by omega))) (ab (aa b) (p (cI ((b - 1:Nat):Int) rfl rfl (aQ (by omega) (by omega))) (p aj ?_))))))))
 refine ae (((aT _ _ (sq (fun _ aV=>az (lp (fun ac av aH=> ∃ (i j:Nat) (A:Array Nat),(a+1≤i∧i≤b∧a≤j∧j < b∧i≤j+2)∧(Go.Sort.partEqLoop bm a i j A=Go.Sort.partitionEqual bm d a b Y)∧(aH.ownsRow B 71 1 (.slice s n cp) n (LE aM A))∧(Md (fun q=>(Value.slice s n cp).ownBlock=some q) w aH)∧(av 0= .slice s n cp)∧(av 1=aa a)∧(av 9=aa i)∧(av 10=aa j)∧(j+1 - i=ac)) _ ⟨a+1,b - 1,(Go.Sort.swp d a Y),(by omega),rfl,bd,aY,rfl,rfl,rfl,rfl,rfl⟩ ?_))))))
 rintro ac av aH ⟨i,j,A,hi,aO,ba,aX,bv,bw,bz,bx,rfl⟩
 refine fx 0 bv (fx 1 bw (fx 9 bz (fx 10 bx (az ?_))))
 refine cX (fun aw aK=> ∃ (C:Nat),(i≤C∧(C=i∨C≤j+1))∧(Go.Sort.scanUp (fun x=> !bm A[a]! x) A (j) (i)=C)∧(aK.ownsRow B 71 1 (.slice s n cp) n (LE aM A))∧(Md (fun q=>(Value.slice s n cp).ownBlock=some q) w aK)∧(aw 0= .slice s n cp)∧(aw 1=aa a)∧(aw 9=aa C)∧(aw 10=aa j)) ?_ ?_
 refine az (lp (fun ac ax an=> ∃ (q:Nat),(i≤q∧(q=i∨q≤j+1))∧(Go.Sort.scanUp (fun x=> !bm A[a]! x) A (j) (q)=Go.Sort.scanUp (fun x=> !bm A[a]! x) A (j) (i))∧(an.ownsRow B 71 1 (.slice s n cp) n (LE aM A))∧(Md (fun q=>(Value.slice s n cp).ownBlock=some q) w an)∧(ax 0= .slice s n cp)∧(ax 1=aa a)∧(ax 9=aa q)∧(ax 10=aa j)∧(j+1 - q=ac)) _ ⟨i,(by omega),rfl,ba,aX,rfl,rfl,rfl,rfl,rfl⟩ ?_)
 rintro ac ax an ⟨q,hq1,hq2,I,al,bF,bH,bK,bI,rfl⟩
 refine fx 0 bF (fx 1 bH (fx 9 bK (fx 10 bI (sq (fun _ ar=>sq (fun _ ai=> ?_))))))
 have hdcn:=dS I
 have E:(fun w'=>Wk an w') an.drew:=(Md.refl _ _).drew
 refine bC (fun w'=>Wk an w') rfl wide E (bo 0 rfl (aa q) E (bo 1 rfl (aa j) E (aA 2 rfl (fun _ _=>le rfl rfl) E (aA 3 rfl (fun _ _=>mv) E (jd (t:=32) rfl (fun bl=> ?_) (fun bl=> ?_))))))
 refine bc 4 rfl (by kernel_rfl) rfl rfl rfl (fun _ _=>aB (.slice s n cp) rfl) E (bc 5 rfl (by kernel_rfl) rfl rfl rfl (fun _ _=>aB (aa a) rfl) E (bc 6 rfl (by kernel_rfl) rfl rfl rfl (fun _ _=>aJ bj rfl rfl (by omega) (ak.ok ((aI I).2) (bu (by omega)))) E (bc 7 rfl (by kernel_rfl) rfl rfl rfl (fun w' V=>ld bJ rfl (bZ (i:=a) ((aI I).2.wk V) (by omega))) E (bc 8 rfl (by kernel_rfl) rfl rfl rfl (fun _ _=>aB (.slice s n cp) rfl) E (bc 9 rfl (by kernel_rfl) rfl rfl rfl (fun _ _=>aB (aa q) rfl) E (bc 10 rfl (by kernel_rfl) rfl rfl rfl (fun _ _=>aJ bj rfl rfl (by omega) (ak.ok ((aI I).2) (bu (by omega)))) E (bc 11 rfl (by kernel_rfl) rfl rfl rfl (fun w' V=>ld bJ rfl (bZ (i:=q) ((aI I).2.wk V) (by omega))) E ?_)))))))
 refine ks 12 rfl (by kernel_rfl) rfl rfl rfl (cl iH (iM A[a]! A[q]! _) rfl fun bX w41 bh=> ?_)
 obtain ⟨rfl,hE41⟩:=bh
 have am:(fun w'=>Wk an w') w41:=Md.trans E hE41
 refine ⟨am,?_⟩
 refine bc 13 rfl (by kernel_rfl) rfl rfl rfl (fun _ _=>no rfl) am (aA 14 rfl (fun _ _=>bf rfl) am (hn (by kernel_rfl) (tn (ai _ _ (cb rfl (fun aF=> ?_) (fun aF=> ?_))))))
 refine au (tn (ar _ _ (az (rg rfl (ab (aa q) (p (a9 ((q+1:Nat):Int) rfl rfl (aQ (by omega) (by omega))) (p aj (nl ?_))))))))
 exact bn (tn (⟨_,by omega,q+1,(by omega),((by rw [← hq2,vk (show q≤j by omega) (by simpa using aF)])),(aE I am),(Md.trans al (am.mono (fun _ _ h=>h.elim))),rfl,rfl,rfl,rfl,rfl⟩))
 exact ext (te _ (te _ (be (tn (⟨q,hq1,((by rw [← hq2,nG (.inr (by simpa using aF))])),(aE I am),(Md.trans al (am.mono (fun _ _ h=>h.elim))),rfl,rfl,rfl,rfl⟩)))))
 refine a7 4 rfl (by kernel_rfl) rfl rfl rfl rfl E ?_
 refine a7 5 rfl (by kernel_rfl) rfl rfl rfl rfl E ?_
 refine a7 6 rfl (by kernel_rfl) rfl rfl rfl rfl E ?_
 refine a7 7 rfl (by kernel_rfl) rfl rfl rfl rfl E ?_
 refine a7 8 rfl (by kernel_rfl) rfl rfl rfl rfl E ?_
 refine a7 9 rfl (by kernel_rfl) rfl rfl rfl rfl E ?_
 refine a7 10 rfl (by kernel_rfl) rfl rfl rfl rfl E ?_
 refine a7 11 rfl (by kernel_rfl) rfl rfl rfl rfl E ?_
 refine a7 12 rfl (by kernel_rfl) rfl rfl rfl rfl E ?_
 refine a7 13 rfl (by kernel_rfl) rfl rfl rfl rfl E ?_
 refine aA 14 rfl (fun _ _=>a4 rfl) E (hn (by kernel_rfl) (tn (ai _ _ (cf rfl (ext (te _ (te _ (be ?_))))))))
 exact tn (⟨q,hq1,((by rw [← hq2,nG (.inl (by omega))])),(aE I (Md.refl _ _).drew),al.drew,rfl,rfl,rfl,rfl⟩)
 rintro aw aK ⟨C,bU,aP,bb,a8,bA,bB,bE,bD⟩
 refine fx 0 bA (fx 1 bB (fx 9 bE (fx 10 bD ?_)))
 refine cX (fun ay ap=> ∃ (O:Nat),(a≤O∧O≤j)∧(Go.Sort.scanDown (fun x=>bm A[a]! x) A (C) (j)=O)∧(ap.ownsRow B 71 1 (.slice s n cp) n (LE aM A))∧(Md (fun q=>(Value.slice s n cp).ownBlock=some q) w ap)∧(ay 0= .slice s n cp)∧(ay 1=aa a)∧(ay 9=aa C)∧(ay 10=aa O)) ?_ ?_
 refine az (lp (fun ac aC ao=> ∃ (q:Nat),(a≤q∧q≤j)∧(Go.Sort.scanDown (fun x=>bm A[a]! x) A (C) (q)=Go.Sort.scanDown (fun x=>bm A[a]! x) A (C) (j))∧(ao.ownsRow B 71 1 (.slice s n cp) n (LE aM A))∧(Md (fun q=>(Value.slice s n cp).ownBlock=some q) w ao)∧(aC 0= .slice s n cp)∧(aC 1=aa a)∧(aC 9=aa C)∧(aC 10=aa q)∧(q=ac)) _ ⟨j,(by omega),rfl,bb,a8,rfl,rfl,rfl,rfl,rfl⟩ ?_)
 rintro ac aC ao ⟨q,hq1,hq2,I,al,bP,bQ,bS,bR,rfl⟩
 refine fx 0 bP (fx 1 bQ (fx 9 bS (fx 10 bR (sq (fun _ ar=>sq (fun _ ai=> ?_))))))
 have hdcn:=dS I
 have G:(fun w'=>Wk ao w') ao.drew:=(Md.refl _ _).drew
 refine bC (fun w'=>Wk ao w') rfl wide G (bo 0 rfl (aa C) G (bo 1 rfl (aa q) G (aA 2 rfl (fun _ _=>le rfl rfl) G (aA 3 rfl (fun _ _=>mv) G (jd (t:=49) rfl (fun bp=> ?_) (fun bp=> ?_))))))
 refine bc 4 rfl (by kernel_rfl) rfl rfl rfl (fun _ _=>aB (.slice s n cp) rfl) G (bc 5 rfl (by kernel_rfl) rfl rfl rfl (fun _ _=>aB (aa a) rfl) G (bc 6 rfl (by kernel_rfl) rfl rfl rfl (fun _ _=>aJ bj rfl rfl (by omega) (ak.ok ((aI I).2) (bu (by omega)))) G (bc 7 rfl (by kernel_rfl) rfl rfl rfl (fun w' V=>ld bJ rfl (bZ (i:=a) ((aI I).2.wk V) (by omega))) G (bc 8 rfl (by kernel_rfl) rfl rfl rfl (fun _ _=>aB (.slice s n cp) rfl) G (bc 9 rfl (by kernel_rfl) rfl rfl rfl (fun _ _=>aB (aa q) rfl) G (bc 10 rfl (by kernel_rfl) rfl rfl rfl (fun _ _=>aJ bj rfl rfl (by omega) (ak.ok ((aI I).2) (bu (by omega)))) G (bc 11 rfl (by kernel_rfl) rfl rfl rfl (fun w' V=>ld bJ rfl (bZ (i:=q) ((aI I).2.wk V) (by omega))) G ?_)))))))
 refine ks 12 rfl (by kernel_rfl) rfl rfl rfl (cl iH (iM A[a]! A[q]! _) rfl fun bY w58 bi=> ?_)
 obtain ⟨rfl,hE58⟩:=bi
 have aq:(fun w'=>Wk ao w') w58:=Md.trans G hE58
 refine ⟨aq,?_⟩
 refine aA 13 rfl (fun _ _=>bf rfl) aq (hn (by kernel_rfl) (tn (ai _ _ (cb rfl (fun aG=> ?_) (fun aG=> ?_)))))
 refine au (tn (ar _ _ (az (rg rfl (ab (aa q) (p (cI ((q - 1:Nat):Int) rfl rfl (aQ (by omega) (by omega))) (p aj (nl ?_))))))))
 exact bn (tn (⟨_,by omega,q - 1,(by omega),((by rw [← hq2,sU (show 0 < q by omega) (show C≤q by omega) (by simpa using aG)])),(aE I aq),(Md.trans al (aq.mono (fun _ _ h=>h.elim))),rfl,rfl,rfl,rfl,rfl⟩))
 exact ext (te _ (te _ (be (tn (⟨q,hq1,((by rw [← hq2,m8 (.inr (by simpa using aG))])),(aE I aq),(Md.trans al (aq.mono (fun _ _ h=>h.elim))),rfl,rfl,rfl,rfl⟩)))))
 refine a7 4 rfl (by kernel_rfl) rfl rfl rfl rfl G ?_
 refine a7 5 rfl (by kernel_rfl) rfl rfl rfl rfl G ?_
 refine a7 6 rfl (by kernel_rfl) rfl rfl rfl rfl G ?_
 refine a7 7 rfl (by kernel_rfl) rfl rfl rfl rfl G ?_
 refine a7 8 rfl (by kernel_rfl) rfl rfl rfl rfl G ?_
 refine a7 9 rfl (by kernel_rfl) rfl rfl rfl rfl G ?_
 refine a7 10 rfl (by kernel_rfl) rfl rfl rfl rfl G ?_
 refine a7 11 rfl (by kernel_rfl) rfl rfl rfl rfl G ?_
 refine a7 12 rfl (by kernel_rfl) rfl rfl rfl rfl G ?_
 refine aA 13 rfl (fun _ _=>a4 rfl) G (hn (by kernel_rfl) (tn (ai _ _ (cf rfl (ext (te _ (te _ (be ?_))))))))
 exact tn (⟨q,hq1,((by rw [← hq2,m8 (.inl (by omega))])),(aE I (Md.refl _ _).drew),al.drew,rfl,rfl,rfl,rfl⟩)
 rintro ay ap ⟨O,bV,aN,Z,aL,bL,bM,bO,bN⟩
 refine fx 0 bL (fx 1 bM (fx 9 bO (fx 10 bN (sq (fun _ ar=>U (fun _ ai=>(ab (aa C) (ab (aa O) (p (gt rfl rfl) (nl ?_))))))))))
 refine tn (ai _ _ (cd rfl (fun bk=> ?_) (fun bk=> ?_)))
 refine ext (te _ (kj (by decide) (te _ (be (tn (aV _ _ (U (fun _ aD=> ?_))))))))
 refine ab (aa C) (p (bG (aa C) rfl) (ag ((aD _ _ (rt (f1 rfl rfl ?_))))))
 have hz:Go.Sort.partitionEqual bm d a b Y=(C,A):=by rw [← aO,AF aP aN,if_pos (by omega)]
 exact ⟨by rw [hz]; rfl,by rw [hz]; exact Z,aL⟩
 refine au (tn (ar _ _ (sq (fun _ aD=> ?_))))
 have hdcn:=dS Z
 have M:(fun w'=>Wk ap w') ap.drew:=(Md.refl _ _).drew
 refine dG (fun w'=>Wk ap w') 13 rfl wide M (a3 0 rfl (.slice s n cp) M (a3 1 rfl (aa C) M (a3 2 rfl (.slice s n cp) M (a3 3 rfl (aa O) M (a3 4 rfl (.slice s n cp) M (a3 5 rfl (aa O) M (a5 6 rfl (fun _=>aJ bj rfl rfl (by omega) (ak.ok ((aI Z).2) (bu (by omega)))) (fun _=>M) ?_)))))))
 refine cO 7 rfl (fun w' V=>ld bJ rfl (bZ (i:=O) ((aI Z).2.wk V) (by omega))) M (a3 8 rfl (.slice s n cp) M (a3 9 rfl (aa C) M (a5 10 rfl (fun _=>aJ bj rfl rfl (by omega) (ak.ok ((aI Z).2) (bu (by omega)))) (fun _=>M) (cO 11 rfl (fun w' V=>ld bJ rfl (bZ (i:=C) ((aI Z).2.wk V) (by omega))) M (a5 12 rfl (fun _=>aJ bj rfl rfl (by omega) (ak.ok ((aI Z).2) (bu (by omega)))) (fun _=>M) (cD 13 rfl (by kernel_rfl) (by kernel_rfl) (ej (u:=A[O]!) (C) (aE Z M) eb rfl rfl rfl (by omega) fun b1 a2 bs=> ?_)))))))
 refine a5 14 rfl (fun _=>aJ bj rfl rfl (by omega) (ak.ok ((aI Z).2) (bu (by omega)))) (fun h=>Bool.noConfusion ((show true =_ from by kernel_rfl).trans h)) (cD 15 rfl (by kernel_rfl) (by kernel_rfl) (ej (u:=A[C]!) (O) bs eb rfl rfl rfl (by omega) fun wPY2 a6 bt=> ?_))
 have bg:wPY2.ownsRow B 71 1 (.slice s n cp) n (LE aM (Go.Sort.swp A (C) (O))):=bt
 have a1:Md (fun q=>(Value.slice s n cp).ownBlock=some q) ap wPY2:=Md.trans (M.mono (fun _ _ h=>h.elim)) (Md.trans a2 a6)
 refine dF (by kernel_rfl) ?_
 refine tn (aD _ _ (U (fun _ aW=>(ab (aa C) (p (a9 ((C+1:Nat):Int) rfl rfl (aQ (by omega) (by omega))) (ae (((aW _ _ ?_)))))))))
 exact rg rfl (ab (aa O) (p (cI ((O - 1:Nat):Int) rfl rfl (aQ (by omega) (by omega))) (p aj (nl (bn (tn (⟨_,by omega,C+1,O - 1,Go.Sort.swp A C O,(by omega),((by rw [← aO,AF aP aN,if_neg (by omega),if_pos (by omega)])),bg,(Md.trans aL a1),rfl,rfl,rfl,rfl,rfl⟩)))))))
end Go.Hb.vH
end
section
set_option maxRecDepth 20000
set_option maxHeartbeats 1000000
namespace Go.Hb.vI
open Go.Hb.di
open Go.Proofs
open Go.Hb.mh
theorem JR {d:Array Nat} {a b s i i2:Nat} (h0:0 < s) (h:Go.Sort.scanSorted bm d b i=i2) (h1:i2=b):Go.Sort.partialIns bm a b s i d=(d,true):=by
 cases s with
 | zero=>omega
 | succ s=>rw [Go.Sort.partialIns]; simp only [h,if_pos h1]
theorem JS {d:Array Nat} {a b s i i2:Nat} (h0:0 < s) (h:Go.Sort.scanSorted bm d b i=i2) (h1:¬i2=b) (h2:b - a < 50):Go.Sort.partialIns bm a b s i d=(d,false):=by
 cases s with
 | zero=>omega
 | succ s=>rw [Go.Sort.partialIns]; simp only [h,if_neg h1,if_pos h2]
theorem uy {d j dh:Array Nat} {a b s i i2:Nat} (h0:0 < s) (h:Go.Sort.scanSorted bm d b i=i2) (h1:¬i2=b) (h2:¬b - a < 50)
 (hg:j=if i2 - a≥2 then Go.Sort.shiftDown bm (i2 - 1) (Go.Sort.swp d i2 (i2 - 1)) else Go.Sort.swp d i2 (i2 - 1)) (hh:dh=if b - i2≥2 then Go.Sort.shiftUp bm b (i2+1) j else j):
 Go.Sort.partialIns bm a b s i d=Go.Sort.partialIns bm a b (s - 1) i2 dh:=by
 cases s with
 | zero=>omega
 | succ s=>rw [Go.Sort.partialIns]; simp only [h,if_neg h1,if_neg h2]; rw [← hg,← hh]; rfl
theorem JU (d:Array Nat) (a b:Nat) (B n cp:Nat) (j:Option Addr) (w:World) (bQ:w.ownsRow B 71 1 (.slice j n cp) n (LE aM d)) (cP:a < b∧b≤n) (cR:n≤1099511627776):
 aU Tryz.prog 161 (List.toArray [.slice j n cp,aa a,aa b]) w (fun v w'=>v= .bool (Go.Sort.partialInsertionSort bm d a b).2∧w'.ownsRow B 71 1 (.slice j n cp) n (LE aM (Go.Sort.partialInsertionSort bm d a b).1)∧Md (fun q=>(Value.slice j n cp).ownBlock=some q) w w'):=by
 refine enter Tryz.func161 rfl Tryz.ntmps161 rfl ?_
 refine U (fun _ bv=>(ae (((bv _ _ (U (fun _ bx=>(ab (aa a) ?_))))))))
 refine p (a9 ((a+1:Nat):Int) rfl rfl (aQ (by omega) (by omega))) (ae (((bx _ _ (sq (fun _ bz=>U (fun _ bA=>(p aj ?_))))))))
 refine ag ((bA _ _ (az (lp (fun O ay bi=> ∃ (s i:Nat) (E:Array Nat),(a+1≤i∧i≤b∧s≤5)∧(Go.Sort.partialIns bm a b (5 - s) i E=(Go.Sort.partialInsertionSort bm d a b))∧(bi.ownsRow B 71 1 (.slice j n cp) n (LE aM E))∧(Md (fun q=>(Value.slice j n cp).ownBlock=some q) w bi)∧(ay 0= .slice j n cp)∧(ay 1=aa a)∧(ay 2=aa b)∧(ay 7=aa i)∧(ay 8=aa s)∧(5 - s=O)) _ ⟨0,a+1,d,(by omega),rfl,bQ,(Md.refl _ _),rfl,rfl,rfl,rfl,rfl,rfl⟩ ?_))))
 rintro O ay bi ⟨s,i,E,hi,ax,bq,bk,cc,ce,cg,ch,ci,rfl⟩
 refine fx 0 cc (fx 1 ce (fx 2 cg (fx 7 ch (fx 8 ci (sq (fun _ bB=>U (fun _ bD=>(ab (aa s) (p (lt rfl rfl) (ag ((bD _ _ ?_))))))))))))
 refine cd rfl (fun bX=> ?_) (fun bX=> ?_)
 refine au (tn (bB _ _ (sq (fun _ aG=>az ?_))))
 refine cX (fun aC wC=> ∃ (i2:Nat),(i≤i2∧i2≤b)∧(Go.Sort.scanSorted bm E b i=i2)∧(wC.ownsRow B 71 1 (.slice j n cp) n (LE aM E))∧(Md (fun q=>(Value.slice j n cp).ownBlock=some q) w wC)∧(aC 0= .slice j n cp)∧(aC 1=aa a)∧(aC 2=aa b)∧(aC 7=aa i2)∧(aC 8=aa s)) ?_ ?_
 refine az (lp (fun O aD ap=> ∃ (q:Nat),(i≤q∧q≤b)∧(Go.Sort.scanSorted bm E b q=Go.Sort.scanSorted bm E b i)∧(ap.ownsRow B 71 1 (.slice j n cp) n (LE aM E))∧(Md (fun q=>(Value.slice j n cp).ownBlock=some q) w ap)∧(aD 0= .slice j n cp)∧(aD 1=aa a)∧(aD 2=aa b)∧(aD 7=aa q)∧(aD 8=aa s)∧(b - q=O)) _ ⟨i,(by omega),rfl,bq,bk,rfl,rfl,rfl,rfl,rfl,rfl⟩ ?_)
 rintro O aD ap ⟨q,hq1,hq2,ac,aZ,cq,cr,cs,ct,cu,rfl⟩
 refine fx 0 cq (fx 1 cr (fx 2 cs (fx 7 ct (fx 8 cu (sq (fun _ aX=>sq (fun _ aH=> ?_)))))))
 have hdcn:=dS ac
 have A:(fun w'=>Wk ap w') ap.drew:=(Md.refl _ _).drew
 refine bC (fun w'=>Wk ap w') rfl wide A (bo 0 rfl (aa q) A (bo 1 rfl (aa b) A (aA 2 rfl (fun _ _=>lt rfl rfl) A (aA 3 rfl (fun _ _=>mv) A (jd (t:=20) rfl (fun b4=> ?_) (fun b4=> ?_))))))
 refine bc 4 rfl (by kernel_rfl) rfl rfl rfl (fun _ _=>aB (.slice j n cp) rfl) A (bc 5 rfl (by kernel_rfl) rfl rfl rfl (fun _ _=>aB (aa q) rfl) A (bc 6 rfl (by kernel_rfl) rfl rfl rfl (fun _ _=>aJ bj rfl rfl (by omega) (ak.ok ((aI ac).2) (bu (by omega)))) A (bc 7 rfl (by kernel_rfl) rfl rfl rfl (fun w' C=>ld bJ rfl (bZ (i:=q) ((aI ac).2.wk C) (by omega))) A (bc 8 rfl (by kernel_rfl) rfl rfl rfl (fun _ _=>aB (.slice j n cp) rfl) A (bc 9 rfl (by kernel_rfl) rfl rfl rfl (fun _ _=>aB (aa q) rfl) A (bc 10 rfl (by kernel_rfl) rfl rfl rfl (fun _ _=>cI ((q - 1:Nat):Int) rfl rfl (aQ (by omega) (by omega))) A (bc 11 rfl (by kernel_rfl) rfl rfl rfl (fun _ _=>aJ bj rfl rfl (by omega) (ak.ok ((aI ac).2) (bu (by omega)))) A ?_)))))))
 refine bc 12 rfl (by kernel_rfl) rfl rfl rfl (fun w' C=>ld bJ rfl (bZ (i:=q - 1) ((aI ac).2.wk C) (by omega))) A (ks 13 rfl (by kernel_rfl) rfl rfl rfl (cl iH (iM E[q]! E[q - 1]! _) rfl fun v30 w30 bU=> ?_))
 obtain ⟨rfl,bF⟩:=bU
 have am:(fun w'=>Wk ap w') w30:=Md.trans A bF
 refine ⟨am,?_⟩
 refine bc 14 rfl (by kernel_rfl) rfl rfl rfl (fun _ _=>no rfl) am (aA 15 rfl (fun _ _=>bf rfl) am (hn (by kernel_rfl) (tn (aH _ _ (cb rfl (fun a6=> ?_) (fun a6=> ?_))))))
 refine au (tn (aX _ _ (az (rg rfl (ab (aa q) (p (a9 ((q+1:Nat):Int) rfl rfl (aQ (by omega) (by omega))) (p aj (nl ?_))))))))
 exact bn (tn (⟨_,by omega,q+1,(by omega),((by rw [← hq2,Lf (show q < b by omega) (by simpa using a6)])),(aE ac am),(Md.trans aZ (am.mono (fun _ _ h=>h.elim))),rfl,rfl,rfl,rfl,rfl,rfl⟩))
 exact ext (te _ (te _ (be (tn (⟨q,(by omega),((by rw [← hq2,By (.inr (by simpa using a6))])),(aE ac am),(Md.trans aZ (am.mono (fun _ _ h=>h.elim))),rfl,rfl,rfl,rfl,rfl⟩)))))
 refine a7 4 rfl (by kernel_rfl) rfl rfl rfl rfl A ?_
 refine a7 5 rfl (by kernel_rfl) rfl rfl rfl rfl A ?_
 refine a7 6 rfl (by kernel_rfl) rfl rfl rfl rfl A ?_
 refine a7 7 rfl (by kernel_rfl) rfl rfl rfl rfl A ?_
 refine a7 8 rfl (by kernel_rfl) rfl rfl rfl rfl A ?_
 refine a7 9 rfl (by kernel_rfl) rfl rfl rfl rfl A ?_
 refine a7 10 rfl (by kernel_rfl) rfl rfl rfl rfl A ?_
 refine a7 11 rfl (by kernel_rfl) rfl rfl rfl rfl A ?_
 refine a7 12 rfl (by kernel_rfl) rfl rfl rfl rfl A ?_
 refine a7 13 rfl (by kernel_rfl) rfl rfl rfl rfl A ?_
 refine a7 14 rfl (by kernel_rfl) rfl rfl rfl rfl A ?_
 refine aA 15 rfl (fun _ _=>a4 rfl) A (hn (by kernel_rfl) (tn (aH _ _ (cf rfl (ext (te _ (te _ (be ?_))))))))
 exact tn (⟨q,(by omega),((by rw [← hq2,By (.inl (by omega))])),(aE ac (Md.refl _ _).drew),aZ.drew,rfl,rfl,rfl,rfl,rfl⟩)
 rintro aC wC ⟨i2,cQ,hsc,Z,aK,cj,ck,cm,cn,co⟩
 refine fx 0 cj (fx 1 ck (fx 2 cm (fx 7 cn (fx 8 co (sq (fun _ aX=>U (fun _ aH=>(ab (aa i2) (ab (aa b) (p (a8 rfl rfl) (nl ?_)))))))))))
 refine tn (aH _ _ (cd rfl (fun bY=> ?_) (fun bY=> ?_)))
 refine U (fun _ aL=>(ae (((aL _ _ (rt (tr (br ?_))))))))
 refine tr (tr (br (tr (f1 rfl rfl ?_))))
 have hz:(Go.Sort.partialInsertionSort bm d a b)=(E,true):=by rw [← ax,JR (show 0 < 5 - s by omega) hsc (by omega)]
 exact ⟨by rw [hz]; rfl,by rw [hz]; exact Z,aK⟩
 have aY:¬i2=b:=by omega
 refine au (tn (aX _ _ (sq (fun _ aL=>U (fun _ bw=>(ab (aa b) (ab (aa a) (p (cI ((b - a:Nat):Int) rfl rfl (aQ (by omega) (by omega))) ?_))))))))
 refine p (lt rfl rfl) (ag ((bw _ _ (cd rfl (fun b0=> ?_) (fun b0=> ?_)))))
 refine U (fun _ aN=>(ae (((aN _ _ (rt (tr (br ?_))))))))
 refine tr (tr (br (tr (f1 rfl rfl ?_))))
 have hz:(Go.Sort.partialInsertionSort bm d a b)=(E,false):=by rw [← ax,JS (show 0 < 5 - s by omega) hsc (by omega) (by omega)]
 exact ⟨by rw [hz]; rfl,by rw [hz]; exact Z,aK⟩
 refine au (tn (aL _ _ (sq (fun _ aN=> ?_))))
 have hdcn:=dS Z
 have G:(fun w'=>Wk wC w') wC.drew:=(Md.refl _ _).drew
 refine dG (fun w'=>Wk wC w') 15 rfl wide G (a3 0 rfl (.slice j n cp) G (a3 1 rfl (aa i2) G (a3 2 rfl (.slice j n cp) G (a3 3 rfl (aa i2) G (a5 4 rfl (fun _=>cI ((i2 - 1:Nat):Int) rfl rfl (aQ (by omega) (by omega))) (fun _=>G) (a3 5 rfl (.slice j n cp) G (a3 6 rfl (aa i2) G ?_)))))))
 refine a5 7 rfl (fun _=>cI ((i2 - 1:Nat):Int) rfl rfl (aQ (by omega) (by omega))) (fun _=>G) (a5 8 rfl (fun _=>aJ bj rfl rfl (by omega) (ak.ok ((aI Z).2) (bu (by omega)))) (fun _=>G) (cO 9 rfl (fun w' C=>ld bJ rfl (bZ (i:=i2 - 1) ((aI Z).2.wk C) (by omega))) G (a3 10 rfl (.slice j n cp) G (a3 11 rfl (aa i2) G (a5 12 rfl (fun _=>aJ bj rfl rfl (by omega) (ak.ok ((aI Z).2) (bu (by omega)))) (fun _=>G) (cO 13 rfl (fun w' C=>ld bJ rfl (bZ (i:=i2) ((aI Z).2.wk C) (by omega))) G (a5 14 rfl (fun _=>aJ bj rfl rfl (by omega) (ak.ok ((aI Z).2) (bu (by omega)))) (fun _=>G) ?_)))))))
 refine cD 15 rfl (by kernel_rfl) (by kernel_rfl) (ej (u:=E[i2 - 1]!) (i2) (aE Z G) eb rfl rfl rfl (by omega) fun cU bH b5=> ?_)
 refine a5 16 rfl (fun _=>aJ bj rfl rfl (by omega) (ak.ok ((aI Z).2) (bu (by omega)))) (fun h=>Bool.noConfusion ((show true =_ from by kernel_rfl).trans h)) (cD 17 rfl (by kernel_rfl) (by kernel_rfl) (ej (u:=E[i2]!) (i2 - 1) b5 eb rfl rfl rfl (by omega) fun wP12 bI b6=> ?_))
 have bt:wP12.ownsRow B 71 1 (.slice j n cp) n (LE aM (Go.Sort.swp E (i2) (i2 - 1))):=b6
 have bl:Md (fun q=>(Value.slice j n cp).ownBlock=some q) wC wP12:=Md.trans (G.mono (fun _ _ h=>h.elim)) (Md.trans bH bI)
 refine dF (by kernel_rfl) ?_
 refine tn (aN _ _ ?_)
 refine cX (fun aF bh=> ∃ (al:Array Nat),(al=if i2 - a≥2 then Go.Sort.shiftDown bm (i2 - 1) (Go.Sort.swp E i2 (i2 - 1)) else (Go.Sort.swp E i2 (i2 - 1)))∧(bh.ownsRow B 71 1 (.slice j n cp) n (LE aM al))∧(Md (fun q=>(Value.slice j n cp).ownBlock=some q) w bh)∧(aF 0= .slice j n cp)∧(aF 1=aa a)∧(aF 2=aa b)∧(aF 7=aa i2)∧(aF 8=aa s)) ?_ ?_
 refine U (fun _ aO=>(ab (aa i2) (ab (aa a) (p (cI ((i2 - a:Nat):Int) rfl rfl (aQ (by omega) (by omega))) (p (ge rfl rfl) (ag ((aO _ _ ?_))))))))
 refine cd rfl (fun b1=> ?_) (fun b1=> ?_)
 refine U (fun _ aP=>(ab (aa i2) (p (cI ((i2 - 1:Nat):Int) rfl rfl (aQ (by omega) (by omega))) (ae (((aP _ _ (az ?_))))))))
 refine lp (fun O aq an=> ∃ (q:Nat) (M:Array Nat),(q≤i2 - 1)∧(Go.Sort.shiftDown bm q M=Go.Sort.shiftDown bm (i2 - 1) (Go.Sort.swp E i2 (i2 - 1)))∧(an.ownsRow B 71 1 (.slice j n cp) n (LE aM M))∧(Md (fun q=>(Value.slice j n cp).ownBlock=some q) w an)∧(aq 0= .slice j n cp)∧(aq 1=aa a)∧(aq 2=aa b)∧(aq 7=aa i2)∧(aq 8=aa s)∧(aq 9=aa q)∧(q=O)) _ ⟨i2 - 1,(Go.Sort.swp E i2 (i2 - 1)),(by omega),rfl,bt,(Md.trans aK bl),rfl,rfl,rfl,rfl,rfl,rfl,rfl⟩ ?_
 rintro O aq an ⟨q,M,hq1,bd,ah,a0,cA,cB,cC,cE,cF,cG,rfl⟩
 refine fx 0 cA (fx 1 cB (fx 2 cC (fx 7 cE (fx 8 cF (fx 9 cG (sq (fun _ aR=>U (fun _ aS=>(ab (aa q) (p (ge rfl rfl) (ag ((aS _ _ ?_)))))))))))))
 refine cd rfl (fun b2=> ?_) (fun b2=> ?_)
 refine au (tn (aR _ _ (sq (fun _ aT=>az (sq (fun _ aV=>sq (fun _ aW=> ?_)))))))
 have hdfn:=dS ah
 have V:(fun w'=>Wk an w') an.drew:=(Md.refl _ _).drew
 refine bC (fun w'=>Wk an w') rfl wide V (bo 0 rfl (.slice j n cp) V (bo 1 rfl (aa q) V (aA 2 rfl (fun _ _=>aJ bj rfl rfl (by omega) (ak.ok ((aI ah).2) (bu (by omega)))) V (aA 3 rfl (fun w' C=>ld bJ rfl (bZ (i:=q) ((aI ah).2.wk C) (by omega))) V (bo 4 rfl (.slice j n cp) V (bo 5 rfl (aa q) V (aA 6 rfl (fun _ _=>cI ((q - 1:Nat):Int) rfl rfl (aQ (by omega) (by omega))) V ?_)))))))
 refine aA 7 rfl (fun _ _=>aJ bj rfl rfl (by omega) (ak.ok ((aI ah).2) (bu (by omega)))) V (aA 8 rfl (fun w' C=>ld bJ rfl (bZ (i:=q - 1) ((aI ah).2.wk C) (by omega))) V (he 9 rfl (by kernel_rfl) (cl iH (iM M[q]! M[q - 1]! _) rfl fun cT w77 bV=> ?_)))
 obtain ⟨rfl,bG⟩:=bV
 have av:(fun w'=>Wk an w') w77:=Md.trans V bG
 refine ⟨av,?_⟩
 refine aA 10 rfl (fun _ _=>no rfl) av (hn (by kernel_rfl) (tn (aW _ _ (cb rfl (fun ba=> ?_) (fun ba=> ?_)))))
 exact ext (te _ (kj (by decide) (te _ (te _ (be (tn (⟨M,((by rw [if_pos (by omega),← bd,A8 (.inr (by simpa using ba))])),(aE ah av),(Md.trans a0 (av.mono (fun _ _ h=>h.elim))),rfl,rfl,rfl,rfl,rfl⟩)))))))
 refine au (tn (aV _ _ ?_))
 have hO7:=aE ah av
 have hS17:(fun w'=>Wk w77 w') w77.drew:=(Md.refl _ _).drew
 refine dG (fun w'=>Wk w77 w') 15 rfl wide hS17 (a3 0 rfl (.slice j n cp) hS17 (a3 1 rfl (aa q) hS17 (a3 2 rfl (.slice j n cp) hS17 (a3 3 rfl (aa q) hS17 (a5 4 rfl (fun _=>cI ((q - 1:Nat):Int) rfl rfl (aQ (by omega) (by omega))) (fun _=>hS17) (a3 5 rfl (.slice j n cp) hS17 (a3 6 rfl (aa q) hS17 ?_)))))))
 refine a5 7 rfl (fun _=>cI ((q - 1:Nat):Int) rfl rfl (aQ (by omega) (by omega))) (fun _=>hS17) (a5 8 rfl (fun _=>aJ bj rfl rfl (by omega) (ak.ok ((aI hO7).2) (bu (by omega)))) (fun _=>hS17) (cO 9 rfl (fun w' C=>ld bJ rfl (bZ (i:=q - 1) ((aI hO7).2.wk C) (by omega))) hS17 (a3 10 rfl (.slice j n cp) hS17 (a3 11 rfl (aa q) hS17 (a5 12 rfl (fun _=>aJ bj rfl rfl (by omega) (ak.ok ((aI hO7).2) (bu (by omega)))) (fun _=>hS17) (cO 13 rfl (fun w' C=>ld bJ rfl (bZ (i:=q) ((aI hO7).2.wk C) (by omega))) hS17 (a5 14 rfl (fun _=>aJ bj rfl rfl (by omega) (ak.ok ((aI hO7).2) (bu (by omega)))) (fun _=>hS17) ?_)))))))
 refine cD 15 rfl (by kernel_rfl) (by kernel_rfl) (ej (u:=M[q - 1]!) (q) (aE hO7 hS17) eb rfl rfl rfl (by omega) fun cV bL b7=> ?_)
 refine a5 16 rfl (fun _=>aJ bj rfl rfl (by omega) (ak.ok ((aI hO7).2) (bu (by omega)))) (fun h=>Bool.noConfusion ((show true =_ from by kernel_rfl).trans h)) (cD 17 rfl (by kernel_rfl) (by kernel_rfl) (ej (u:=M[q]!) (q - 1) b7 eb rfl rfl rfl (by omega) fun wP22 bM b8=> ?_))
 have bR:wP22.ownsRow B 71 1 (.slice j n cp) n (LE aM (Go.Sort.swp M (q) (q - 1))):=b8
 have bK:Md (fun q=>(Value.slice j n cp).ownBlock=some q) w77 wP22:=Md.trans (hS17.mono (fun _ _ h=>h.elim)) (Md.trans bL bM)
 refine dF (by kernel_rfl) ?_
 refine bn (tn (aT _ _ (rg rfl (ab (aa q) (p (cI ((q - 1:Nat):Int) rfl rfl (aQ (by omega) (by omega))) (p aj (nl (tn ?_))))))))
 exact ⟨_,by omega,q - 1,Go.Sort.swp M q (q - 1),(by omega),((by rw [← bd,KH (show 0 < q by omega) (by simpa using ba)])),bR,(Md.trans a0 (Md.trans (av.mono (fun _ _ h=>h.elim)) bK)),rfl,rfl,rfl,rfl,rfl,rfl,rfl⟩
 exact ext (te _ (te _ (be (tn (⟨M,((by rw [if_pos (by omega),← bd,A8 (.inl (by omega))])),ah,a0,rfl,rfl,rfl,rfl,rfl⟩)))))
 exact au (tn (⟨(Go.Sort.swp E i2 (i2 - 1)),((by rw [if_neg (by omega)])),bt,(Md.trans aK bl),rfl,rfl,rfl,rfl,rfl⟩))
 rintro aF bh ⟨al,bb,bs,bp,cv,cw,cx,cy,cz⟩
 refine fx 0 cv (fx 1 cw (fx 2 cx (fx 7 cy (fx 8 cz (U (fun _ aO=>(ab (aa b) (ab (aa i2) (p (cI ((b - i2:Nat):Int) rfl rfl (aQ (by omega) (by omega))) (p (ge rfl rfl) (nl ?_)))))))))))
 refine tn (aO _ _ (cd rfl (fun b3=> ?_) (fun b3=> ?_)))
 refine U (fun _ aP=>(ab (aa i2) (p (a9 ((i2+1:Nat):Int) rfl rfl (aQ (by omega) (by omega))) (ae (((aP _ _ (az ?_))))))))
 refine lp (fun O ar ao=> ∃ (q:Nat) (J:Array Nat),(i2+1≤q∧q≤b)∧(Go.Sort.shiftUp bm b q J=Go.Sort.shiftUp bm b (i2+1) al)∧(ao.ownsRow B 71 1 (.slice j n cp) n (LE aM J))∧(Md (fun q=>(Value.slice j n cp).ownBlock=some q) w ao)∧(ar 0= .slice j n cp)∧(ar 1=aa a)∧(ar 2=aa b)∧(ar 7=aa i2)∧(ar 8=aa s)∧(ar 10=aa q)∧(b - q=O)) _ ⟨i2+1,al,(by omega),rfl,bs,bp,rfl,rfl,rfl,rfl,rfl,rfl,rfl⟩ ?_
 rintro O ar ao ⟨q,J,hq1,bg,ai,a1,cH,cJ,cL,cM,cN,cK,rfl⟩
 refine fx 0 cH (fx 1 cJ (fx 2 cL (fx 7 cM (fx 8 cN (fx 10 cK (sq (fun _ aR=>U (fun _ aS=>(ab (aa q) (ab (aa b) (p (lt rfl rfl) (nl ?_))))))))))))
 refine tn (aS _ _ (cd rfl (fun bW=> ?_) (fun bW=> ?_)))
 refine au (tn (aR _ _ (sq (fun _ aT=>az (sq (fun _ aV=>sq (fun _ aW=> ?_)))))))
 have hdkn:=dS ai
 have Y:(fun w'=>Wk ao w') ao.drew:=(Md.refl _ _).drew
 refine bC (fun w'=>Wk ao w') rfl wide Y (bo 0 rfl (.slice j n cp) Y (bo 1 rfl (aa q) Y (aA 2 rfl (fun _ _=>aJ bj rfl rfl (by omega) (ak.ok ((aI ai).2) (bu (by omega)))) Y (aA 3 rfl (fun w' C=>ld bJ rfl (bZ (i:=q) ((aI ai).2.wk C) (by omega))) Y (bo 4 rfl (.slice j n cp) Y (bo 5 rfl (aa q) Y (aA 6 rfl (fun _ _=>cI ((q - 1:Nat):Int) rfl rfl (aQ (by omega) (by omega))) Y ?_)))))))
 refine aA 7 rfl (fun _ _=>aJ bj rfl rfl (by omega) (ak.ok ((aI ai).2) (bu (by omega)))) Y (aA 8 rfl (fun w' C=>ld bJ rfl (bZ (i:=q - 1) ((aI ai).2.wk C) (by omega))) Y (he 9 rfl (by kernel_rfl) (cl iH (iM J[q]! J[q - 1]! _) rfl fun cS w115 bT=> ?_)))
 obtain ⟨rfl,bE⟩:=bT
 have aw:(fun w'=>Wk ao w') w115:=Md.trans Y bE
 refine ⟨aw,?_⟩
 refine aA 10 rfl (fun _ _=>no rfl) aw (hn (by kernel_rfl) (tn (aW _ _ (cb rfl (fun a2=> ?_) (fun a2=> ?_)))))
 refine ext (te _ (kj (by decide) (te _ (te _ (be (bn (tn (aG _ _ ?_))))))))
 exact rg rfl (ab (aa s) (p (a9 ((s+1:Nat):Int) rfl rfl (aQ (by omega) (by omega))) (ae (((⟨_,by omega,s+1,i2,J,(by omega),((by rw [← ax,uy (show 0 < 5 - s by omega) hsc aY (by omega) bb (show J=_ by rw [if_pos (by omega),← bg,BE (.inr (by simpa using a2))])]; rfl)),(aE ai aw),(Md.trans a1 (aw.mono (fun _ _ h=>h.elim))),rfl,rfl,rfl,rfl,rfl,rfl⟩))))))
 refine au (tn (aV _ _ ?_))
 have hO8:=aE ai aw
 have I:(fun w'=>Wk w115 w') w115.drew:=(Md.refl _ _).drew
 refine dG (fun w'=>Wk w115 w') 15 rfl wide I (a3 0 rfl (.slice j n cp) I (a3 1 rfl (aa q) I (a3 2 rfl (.slice j n cp) I (a3 3 rfl (aa q) I (a5 4 rfl (fun _=>cI ((q - 1:Nat):Int) rfl rfl (aQ (by omega) (by omega))) (fun _=>I) (a3 5 rfl (.slice j n cp) I (a3 6 rfl (aa q) I ?_)))))))
 refine a5 7 rfl (fun _=>cI ((q - 1:Nat):Int) rfl rfl (aQ (by omega) (by omega))) (fun _=>I) (a5 8 rfl (fun _=>aJ bj rfl rfl (by omega) (ak.ok ((aI hO8).2) (bu (by omega)))) (fun _=>I) (cO 9 rfl (fun w' C=>ld bJ rfl (bZ (i:=q - 1) ((aI hO8).2.wk C) (by omega))) I (a3 10 rfl (.slice j n cp) I (a3 11 rfl (aa q) I (a5 12 rfl (fun _=>aJ bj rfl rfl (by omega) (ak.ok ((aI hO8).2) (bu (by omega)))) (fun _=>I) (cO 13 rfl (fun w' C=>ld bJ rfl (bZ (i:=q) ((aI hO8).2.wk C) (by omega))) I (a5 14 rfl (fun _=>aJ bj rfl rfl (by omega) (ak.ok ((aI hO8).2) (bu (by omega)))) (fun _=>I) ?_)))))))
 refine cD 15 rfl (by kernel_rfl) (by kernel_rfl) (ej (u:=J[q - 1]!) (q) (aE hO8 I) eb rfl rfl rfl (by omega) fun cW bO b9=> ?_)
 refine a5 16 rfl (fun _=>aJ bj rfl rfl (by omega) (ak.ok ((aI hO8).2) (bu (by omega)))) (fun h=>Bool.noConfusion ((show true =_ from by kernel_rfl).trans h)) (cD 17 rfl (by kernel_rfl) (by kernel_rfl) (ej (u:=J[q]!) (q - 1) b9 eb rfl rfl rfl (by omega) fun wP32 bP ca=> ?_))
 have bS:wP32.ownsRow B 71 1 (.slice j n cp) n (LE aM (Go.Sort.swp J (q) (q - 1))):=ca
 have bN:Md (fun q=>(Value.slice j n cp).ownBlock=some q) w115 wP32:=Md.trans (I.mono (fun _ _ h=>h.elim)) (Md.trans bO bP)
 refine dF (by kernel_rfl) ?_
 refine bn (tn (aT _ _ (rg rfl (ab (aa q) (p (a9 ((q+1:Nat):Int) rfl rfl (aQ (by omega) (by omega))) (p aj (nl (tn ?_))))))))
 exact ⟨_,by omega,q+1,Go.Sort.swp J q (q - 1),(by omega),((by rw [← bg,Lr (show q < b by omega) (by simpa using a2)])),bS,(Md.trans a1 (Md.trans (aw.mono (fun _ _ h=>h.elim)) bN)),rfl,rfl,rfl,rfl,rfl,rfl,rfl⟩
 refine ext (te _ (te _ (be (bn (tn (aG _ _ (rg rfl (ab (aa s) ?_))))))))
 exact p (a9 ((s+1:Nat):Int) rfl rfl (aQ (by omega) (by omega))) (ae (((⟨_,by omega,s+1,i2,J,(by omega),((by rw [← ax,uy (show 0 < 5 - s by omega) hsc aY (by omega) bb (show J=_ by rw [if_pos (by omega),← bg,BE (.inl (by omega))])]; rfl)),ai,a1,rfl,rfl,rfl,rfl,rfl,rfl⟩))))
 refine au (bn (tn (aG _ _ (rg rfl (ab (aa s) (p (a9 ((s+1:Nat):Int) rfl rfl (aQ (by omega) (by omega))) (p aj (nl ?_))))))))
 exact tn (⟨_,by omega,s+1,i2,al,(by omega),((by rw [← ax,uy (show 0 < 5 - s by omega) hsc aY (by omega) bb (show al=_ by rw [if_neg (by omega)])]; rfl)),bs,bp,rfl,rfl,rfl,rfl,rfl,rfl⟩)
 refine ext (te _ (te _ (be (tn (bz _ _ (U (fun _ aG=>(p aj ?_))))))))
 refine ag ((aG _ _ (rt (f1 rfl rfl ?_))))
 have hz:(Go.Sort.partialInsertionSort bm d a b)=(E,false):=by rw [← ax,show 5 - s=0 by omega]; rfl
 exact ⟨by rw [hz]; rfl,by rw [hz]; exact bq,bk⟩
end Go.Hb.vI
end
section
set_option maxRecDepth 20000
set_option maxHeartbeats 1000000
namespace Go.Hb.rO
open Go.Hb.di
open Go.Proofs
open Go.Hb.mh Go.Hb.vH Go.Hb.vI Go.Hb.o5
theorem JK (d:Array Nat) (a b j:Nat) (B n cp:Nat) (i:Option Addr) (w:World) (s:w.ownsRow B 71 1 (.slice i n cp) n (LE aM d)) (A:a≤j∧j < b∧b≤n) (C:n≤1099511627776):aU Tryz.prog 164 (List.toArray [.slice i n cp,.int .i64 (a:Nat),.int .i64 (b:Nat),.int .i64 (j:Nat)]) w
 (fun v w'=> ∃ p ap d4,Go.Sort.partition bm d a b j=(p,ap,d4)∧v= .tuple #[.int .i64 (p:Nat),.bool ap]∧w'.ownsRow B 71 1 (.slice i n cp) n (LE aM d4)∧Md (fun q=>(Value.slice i n cp).ownBlock=some q) w w'):=
 (JJ d a b j B n cp i w s A C).mono fun _ _ h=>⟨_,_,_,rfl,h⟩
theorem JM (d:Array Nat) (a b j:Nat) (B n cp:Nat) (i:Option Addr) (w:World) (s:w.ownsRow B 71 1 (.slice i n cp) n (LE aM d)) (A:a≤j∧j < b∧b≤n) (C:n≤1099511627776):aU Tryz.prog 163 (List.toArray [.slice i n cp,.int .i64 (a:Nat),.int .i64 (b:Nat),.int .i64 (j:Nat)]) w
 (fun v w'=> ∃ p d4,Go.Sort.partitionEqual bm d a b j=(p,d4)∧v= .int .i64 (p:Nat)∧w'.ownsRow B 71 1 (.slice i n cp) n (LE aM d4)∧Md (fun q=>(Value.slice i n cp).ownBlock=some q) w w'):=
 (JL d a b j B n cp i w s A C).mono fun _ _ h=>⟨_,_,rfl,h⟩
theorem JO (m:Nat) (d:Array Nat) (a b ac:Nat) (B n cp:Nat) (A:Option Addr) (w:World) (bk:w.ownsRow B 71 1 (.slice A n cp) n (LE aM d)) (hm:b - a < m) (c7:a≤b∧b≤n) (cr:n≤255) (hl:ac≤64) (bI:Go.Sort.Below bm a b d):
 aU Tryz.prog 138 (List.toArray [.slice A n cp,aa a,aa b,aa ac]) w (fun v w'=> ∃ d1,v= .tuple #[]∧Go.Sort.PermIn a b d d1∧Go.Sort.SortedIn bm a b d1∧w'.ownsRow B 71 1 (.slice A n cp) n (LE aM d1)∧Md (fun q=>(Value.slice A n cp).ownBlock=some q) w w'):=by
 have bw:True:=trivial
 induction m generalizing d a b ac w with
 | zero=>omega
 | succ m bw=>
   have ih:∀ (d:Array Nat) (a b ac:Nat) (w:World),w.ownsRow B 71 1 (.slice A n cp) n (LE aM d)→b - a < m→(a≤b∧b≤n)→ac≤64→Go.Sort.Below bm a b d→_:=fun d a b ac w h1 h2 h3 h4 h5=>bw d a b ac w h1 h2 h3 h4 h5
   have hdn:=dS bk
   refine enter Tryz.func138 rfl Tryz.ntmps138 rfl ?_
   refine U (fun _ bz=>(ae (((bz _ _ (U (fun _ bD=>(p aj ?_))))))))
   refine ag ((bD _ _ (az (lp (fun bd ao bb=> ∃ (j s ah:Nat) (M wp:Bool) (C:Array Nat),(a≤j∧j≤s∧s≤b∧ah≤64)∧(Go.Sort.Below bm j s C)∧(∀ R,Go.Sort.PermIn j s C R→Go.Sort.SortedIn bm j s R→Go.Sort.PermIn a b d R∧Go.Sort.SortedIn bm a b R)∧(bb.ownsRow B 71 1 (.slice A n cp) n (LE aM C))∧(Md (fun q=>(Value.slice A n cp).ownBlock=some q) w bb)∧(ao 0= .slice A n cp)∧(ao 1=aa j)∧(ao 2=aa s)∧(ao 3=aa ah)∧(ao 8= .bool M)∧(ao 9= .bool wp)∧(s - j=bd)) _ ⟨a,b,ac,true,true,d,(by omega),bI,(fun R h1 h2=>⟨h1,h2⟩),bk,(Md.refl _ _),rfl,rfl,rfl,rfl,rfl,rfl,rfl⟩ ?_))))
   rintro bd ao bb ⟨j,s,ah,M,wp,C,hr,aO,aq,ay,aF,ct,cu,cv,cw,cx,cy,rfl⟩
   refine fx 0 ct (fx 1 cu (fx 2 cv (fx 3 cw (fx 8 cx (fx 9 cy ?_)))))
   have hdcn:=dS ay
   refine az (U (fun _ bE=>(ab (aa s) (ab (aa j) (p (cI ((s - j:Nat):Int) rfl rfl (aQ (by omega) (by omega))) (p aj (nl ?_)))))))
   refine tn (bE _ _ (sq (fun _ bF=>U (fun _ bG=>(p mv (p (le rfl rfl) (ag ((bG _ _ ?_)))))))))
   refine cd rfl (fun hc23=> ?_) (fun hc23=> ?_)
   refine U (fun _ aN=>(ab (.slice A n cp) (ab (aa j) (ab (aa s) (e (cl DC (Ij C j s B n cp A _ ay (by omega) (by omega)) rfl fun da dk b0=> ?_))))))
   obtain ⟨rfl,bR,bL⟩:=b0
   refine ag ((aN _ _ (rt (tr (br (tr (br (qg rfl ?_))))))))
   obtain ⟨h1,h2⟩:=Go.Sort.insertionSort_holds ox C j s (by omega) (by omega)
   obtain ⟨hz1,hz2⟩:=aq _ (h1) (h2)
   exact ⟨_,rfl,hz1,hz2,bR,Md.trans aF bL⟩
   refine au (tn (bF _ _ (sq (fun _ aN=>U (fun _ bH=>(ab (aa ah) (p (a8 rfl rfl) (nl ?_))))))))
   refine tn (bH _ _ (cd rfl (fun ca=> ?_) (fun ca=> ?_)))
   refine U (fun _ av=>(ab (.slice A n cp) (ab (aa j) (ab (aa s) (e (cl DD (HW C j s B n cp A _ ay (by omega) (by omega)) rfl fun db w33 b1=> ?_))))))
   obtain ⟨rfl,bS,bM⟩:=b1
   refine ag ((av _ _ (rt (tr (br (tr (br (qg rfl ?_))))))))
   obtain ⟨h1,h2⟩:=Go.Sort.heapSort_holds ox C j s (by omega) (by omega)
   obtain ⟨hz1,hz2⟩:=aq _ (h1) (h2)
   exact ⟨_,rfl,hz1,hz2,bS,Md.trans aF bM⟩
   refine au (tn (aN _ _ ?_))
   refine cX (fun ai a5=> ∃ (E:Nat) (d1:Array Nat),(E≤64)∧(Go.Sort.PermIn j s C d1)∧(a5.ownsRow B 71 1 (.slice A n cp) n (LE aM d1))∧(Md (fun q=>(Value.slice A n cp).ownBlock=some q) w a5)∧(ai 0= .slice A n cp)∧(ai 1=aa j)∧(ai 2=aa s)∧(ai 3=aa E)∧(ai 8= .bool M)∧(ai 9= .bool wp)∧(ai 10=aa (s - j))) ?_ ?_
   refine U (fun _ av=>(ab (.bool M) (p (no rfl) (ag ((av _ _ (cb rfl (fun cc=> ?_) (fun cc=> ?_))))))))
   refine U (fun _ I=>(ab (.slice A n cp) (ab (aa j) (ab (aa s) (e (cl DE (CV C j s B n cp A _ ay (by omega) cr) rfl fun dc w39 b2=> ?_))))))
   obtain ⟨d1,rfl,cs,bT,bN⟩:=b2
   refine ag ((I _ _ (rg rfl (ab (aa ah) (p (cI ((ah - 1:Nat):Int) rfl rfl (aQ (by omega) (by omega))) (p aj (nl (tn ?_))))))))
   exact ⟨ah - 1,d1,(by omega),cs,bT,(Md.trans aF bN),rfl,rfl,rfl,rfl,rfl,rfl,rfl⟩
   exact au (tn (⟨ah,C,(by omega),(Go.Sort.permIn_refl C j s),ay,aF,rfl,rfl,rfl,rfl,rfl,rfl,rfl⟩))
   rintro ai a5 ⟨E,d1,hl2,bv,bW,bQ,cz,cA,cC,cD,cE,cF,cB⟩
   refine fx 0 cz (fx 1 cA (fx 2 cC (fx 3 cD (fx 8 cE (fx 9 cF (fx 10 cB (U (fun _ av=>(ab (.slice A n cp) (ab (aa j) (ab (aa s) (e (cl DF (Ez d1 j s B n cp A _ bW (by omega) (by omega)) rfl fun dd w46 b3=> ?_)))))))))))))
   obtain ⟨aH,hv,rfl,c8,aS,hE46⟩:=b3
   have hM46:=Md.trans bQ (hE46.mono (fun _ _ h=>h.elim))
   refine p mv (p (xt rfl rfl) (p (xt rfl rfl) (p aj (ae (((av _ _ ?_)))))))
   refine cX (fun O a6=> ∃ (G:Nat) (a2:Int) (d2:Array Nat),(j≤G∧G < s)∧(Go.Sort.PermIn j s C d2)∧(a6.ownsRow B 71 1 (.slice A n cp) n (LE aM d2))∧(Md (fun q=>(Value.slice A n cp).ownBlock=some q) w a6)∧(O 0= .slice A n cp)∧(O 1=aa j)∧(O 2=aa s)∧(O 3=aa E)∧(O 8= .bool M)∧(O 9= .bool wp)∧(O 10=aa (s - j))∧(O 11=aa G)∧(O 12= .int .i64 a2)) ?_ ?_
   refine U (fun _ I=>(p mv (p (a8 rfl rfl) (ag ((I _ _ (cd rfl (fun ce=> ?_) (fun ce=> ?_))))))))
   refine U (fun _ al=>(ab (.slice A n cp) (ab (aa j) (ab (aa s) (e (cl DH (Kn d1 j s B n cp A _ aS (by omega) (by omega)) rfl fun de dl b4=> ?_))))))
   obtain ⟨rfl,bU,bO⟩:=b4
   have hd1n:=dS aS
   refine ag ((al _ _ (U (fun _ ar=>(ab (aa s) (p (cI ((s - 1:Nat):Int) rfl rfl (aQ (by omega) (by omega))) (p mv (ab (aa j) ?_))))))))
   refine p (cI ((aH - j:Nat):Int) rfl rfl (aQ (by omega) (by omega))) (p (cI ((s - 1 - (aH - j):Nat):Int) rfl rfl (aQ (by omega) (by omega))) (ae (((ar _ _ (rg rfl (p aj (nl ?_))))))))
   exact tn (⟨s - 1 - (aH - j),1,Go.Sort.reverseRange d1 j s,(by omega),(Go.Sort.permIn_trans _ _ _ j s bv (Go.Sort.reverseRange_holds d1 j s (by omega) (by omega))),bU,(Md.trans hM46 bO),rfl,rfl,rfl,rfl,rfl,rfl,rfl,rfl,rfl⟩)
   exact au (tn (⟨aH,hv,d1,(by omega),bv,aS,hM46,rfl,rfl,rfl,rfl,rfl,rfl,rfl,rfl,rfl⟩))
   rintro O a6 ⟨G,a2,d2,aG,hp2,aC,ax,cG,cH,cM,cN,cO,cP,cJ,cK,cL⟩
   refine fx 0 cG (fx 1 cH (fx 2 cM (fx 3 cN (fx 8 cO (fx 9 cP (fx 10 cJ (fx 11 cK (fx 12 cL ?_))))))))
   refine cX (fun V an=> ∃ (d3:Array Nat),(Go.Sort.PermIn j s C d3)∧(an.ownsRow B 71 1 (.slice A n cp) n (LE aM d3))∧(Md (fun q=>(Value.slice A n cp).ownBlock=some q) w an)∧(V 0= .slice A n cp)∧(V 1=aa j)∧(V 2=aa s)∧(V 3=aa E)∧(V 8= .bool M)∧(V 9= .bool wp)∧(V 10=aa (s - j))∧(V 11=aa G)) ?_ ?_
   refine U (fun _ I=>(ab (.bool M) (ab (.bool M) (gb (t:=62) rfl (fun ch=> ?_) (fun ch=> ?_)))))
   refine pg rfl rfl rfl (aB (.bool wp) rfl) (p (bf rfl) (p mv (gb (t:=65) rfl (fun ci=> ?_) (fun ci=> ?_))))
   refine pg rfl rfl rfl (aB (.int .i64 a2) rfl) (pg rfl rfl rfl (a8 rfl rfl) (p (bf rfl) (ag ((I _ _ (cd rfl (fun cg=> ?_) (fun cg=> ?_)))))))
   refine U (fun _ al=>(ab (.slice A n cp) (ab (aa j) (ab (aa s) (e (cl DI (JU d2 j s B n cp A _ aC (by omega) (by omega)) rfl fun df dm b5=> ?_))))))
   obtain ⟨rfl,bl,bg⟩:=b5
   have hd2n:=dS aC
   obtain ⟨bt,ck⟩:=Go.Sort.partialInsertionSort_holds ox d2 j s (by omega) (by omega) (Go.Sort.Below.perm aO (by omega) hp2)
   refine ag ((al _ _ (cb rfl (fun bq=> ?_) (fun bq=> ?_))))
   have hsT:=ck bq
   refine rt (tr (br (tr (br (qg rfl ?_)))))
   obtain ⟨hz1,hz2⟩:=aq _ (Go.Sort.permIn_trans _ _ _ j s hp2 bt) (hsT)
   exact ⟨_,rfl,hz1,hz2,bl,Md.trans ax bg⟩
   exact au (tn (⟨_,(Go.Sort.permIn_trans _ _ _ j s hp2 bt),bl,(Md.trans ax bg),rfl,rfl,rfl,rfl,rfl,rfl,rfl,rfl⟩))
   exact au (tn (⟨d2,hp2,aC,ax,rfl,rfl,rfl,rfl,rfl,rfl,rfl,rfl⟩))
   refine sk rfl rfl rfl rfl (sk rfl rfl rfl rfl (p (a4 rfl) (ag ((I _ _ (cf rfl (au (tn ?_))))))))
   exact ⟨d2,hp2,aC,ax,rfl,rfl,rfl,rfl,rfl,rfl,rfl,rfl⟩
   refine sk rfl rfl rfl rfl (p (a4 rfl) (p mv (sk rfl rfl rfl rfl (sk rfl rfl rfl rfl (p (a4 rfl) (ag ((I _ _ ?_))))))))
   exact cf rfl (au (tn (⟨d2,hp2,aC,ax,rfl,rfl,rfl,rfl,rfl,rfl,rfl,rfl⟩)))
   rintro V an ⟨d3,aD,Z,aP,cQ,cR,cU,cV,cW,cY,cS,cT⟩
   refine fx 0 cQ (fx 1 cR (fx 2 cU (fx 3 cV (fx 8 cW (fx 9 cY (fx 10 cS (fx 11 cT ?_)))))))
   refine cX (fun Y ba=>(ba.ownsRow B 71 1 (.slice A n cp) n (LE aM d3))∧(Md (fun q=>(Value.slice A n cp).ownBlock=some q) w ba)∧(Y 0= .slice A n cp)∧(Y 1=aa j)∧(Y 2=aa s)∧(Y 3=aa E)∧(Y 8= .bool M)∧(Y 9= .bool wp)∧(Y 10=aa (s - j))∧(Y 11=aa G)) ?_ ?_
   refine sq (fun _ I=> ?_)
   have hd3n:=dS Z
   have hS17:(fun w'=>Wk an w') an.drew:=(Md.refl _ _).drew
   refine bC (fun w'=>Wk an w') rfl wide hS17 (bo 0 rfl (aa j) hS17 (aA 1 rfl (fun _ _=>gt rfl rfl) hS17 (aA 2 rfl (fun _ _=>mv) hS17 (jd (t:=75) rfl (fun cj=> ?_) (fun cj=> ?_)))))
   refine bc 3 rfl (by kernel_rfl) rfl rfl rfl (fun _ _=>aB (.slice A n cp) rfl) hS17 (bc 4 rfl (by kernel_rfl) rfl rfl rfl (fun _ _=>aB (aa j) rfl) hS17 (bc 5 rfl (by kernel_rfl) rfl rfl rfl (fun _ _=>cI ((j - 1:Nat):Int) rfl rfl (aQ (by omega) (by omega))) hS17 (bc 6 rfl (by kernel_rfl) rfl rfl rfl (fun _ _=>aJ bj rfl rfl (by omega) (ak.ok ((aI Z).2) (bu (by omega)))) hS17 (bc 7 rfl (by kernel_rfl) rfl rfl rfl (fun w' aW=>ld bJ rfl (bZ (i:=j - 1) ((aI Z).2.wk aW) (by omega))) hS17 (bc 8 rfl (by kernel_rfl) rfl rfl rfl (fun _ _=>aB (.slice A n cp) rfl) hS17 (bc 9 rfl (by kernel_rfl) rfl rfl rfl (fun _ _=>aB (aa G) rfl) hS17 (bc 10 rfl (by kernel_rfl) rfl rfl rfl (fun _ _=>aJ bj rfl rfl (by omega) (ak.ok ((aI Z).2) (bu (by omega)))) hS17 ?_)))))))
   refine bc 11 rfl (by kernel_rfl) rfl rfl rfl (fun w' aW=>ld bJ rfl (bZ (i:=G) ((aI Z).2.wk aW) (by omega))) hS17 (ks 12 rfl (by kernel_rfl) rfl rfl rfl (cl iH (iM d3[j - 1]! d3[G]! _) rfl fun dg w85 b6=> ?_))
   obtain ⟨rfl,bK⟩:=b6
   have am:(fun w'=>Wk an w') w85:=Md.trans hS17 bK
   refine ⟨am,?_⟩
   refine bc 13 rfl (by kernel_rfl) rfl rfl rfl (fun _ _=>no rfl) am (aA 14 rfl (fun _ _=>bf rfl) am (hn (by kernel_rfl) (tn (I _ _ (cb rfl (fun bs=> ?_) (fun bs=> ?_))))))
   refine U (fun _ al=>(ab (.slice A n cp) (ab (aa j) (ab (aa s) (ab (aa G) (e (cl DJ (JM d3 j s G B n cp A _ (aE Z am) (by omega) (by omega)) rfl fun dh dn b7=> ?_)))))))
   obtain ⟨J,d4,a3,rfl,bV,bP⟩:=b7
   obtain ⟨bo,cm,cn,hm4,aZ⟩:=Go.Sort.round_eq ox (Go.Sort.partitionEqual_holds bm) (show 0 < j by omega) aG.1 aG.2 (by omega) (Go.Sort.Below.perm aO (by omega) aD) (by simpa using bs) a3
   refine ae (((al _ _ (U (fun _ ar=>(p mv (p aj (nl ?_))))))))
   exact tn (ar _ _ (ext (te _ (be (tn (⟨_,by omega,J,s,E,M,wp,d4,(by omega),hm4,((fun R h1 h2=>by obtain ⟨h3,h4⟩:=aZ R h1 h2; exact aq R (Go.Sort.permIn_trans _ _ _ j s aD h3) h4)),bV,(Md.trans aP (Md.trans (am.mono (fun _ _ h=>h.elim)) bP)),rfl,rfl,rfl,rfl,rfl,rfl,rfl⟩))))))
   exact au (tn (⟨(aE Z am),(Md.trans aP (am.mono (fun _ _ h=>h.elim))),rfl,rfl,rfl,rfl,rfl,rfl,rfl,rfl⟩))
   refine a7 3 rfl (by kernel_rfl) rfl rfl rfl rfl hS17 ?_
   refine a7 4 rfl (by kernel_rfl) rfl rfl rfl rfl hS17 ?_
   refine a7 5 rfl (by kernel_rfl) rfl rfl rfl rfl hS17 ?_
   refine a7 6 rfl (by kernel_rfl) rfl rfl rfl rfl hS17 ?_
   refine a7 7 rfl (by kernel_rfl) rfl rfl rfl rfl hS17 ?_
   refine a7 8 rfl (by kernel_rfl) rfl rfl rfl rfl hS17 ?_
   refine a7 9 rfl (by kernel_rfl) rfl rfl rfl rfl hS17 ?_
   refine a7 10 rfl (by kernel_rfl) rfl rfl rfl rfl hS17 ?_
   refine a7 11 rfl (by kernel_rfl) rfl rfl rfl rfl hS17 ?_
   refine a7 12 rfl (by kernel_rfl) rfl rfl rfl rfl hS17 ?_
   refine a7 13 rfl (by kernel_rfl) rfl rfl rfl rfl hS17 ?_
   exact aA 14 rfl (fun _ _=>a4 rfl) hS17 (hn (by kernel_rfl) (tn (I _ _ (cf rfl (au (tn (⟨(aE Z (Md.refl _ _).drew),aP.drew,rfl,rfl,rfl,rfl,rfl,rfl,rfl,rfl⟩)))))))
   rintro Y ba ⟨bp,bi,cZ,c0,c3,c4,c5,c6,c1,c2⟩
   refine fx 0 cZ (fx 1 c0 (fx 2 c3 (fx 3 c4 (fx 8 c5 (fx 9 c6 (fx 10 c1 (fx 11 c2 (U (fun _ I=>(ab (.slice A n cp) (ab (aa j) (ab (aa s) (ab (aa G) (e (cl DK (JK d3 j s G B n cp A _ bp (by omega) (by omega)) rfl fun di bx b8=> ?_)))))))))))))))
   obtain ⟨J,ap,d4,a3,rfl,aT,bh⟩:=b8
   have hd3n:=dS bp
   have hd4n:=dS aT
   obtain ⟨bo,cm,cn,hm4,aZ,co,cq⟩:=Go.Sort.round_part ox (Go.Sort.partition_holds bm) aG.1 aG.2 (by omega) (Go.Sort.Below.perm aO (by omega) aD) a3
   refine p mv (p (xt rfl rfl) (p (xt rfl rfl) (p aj (ae (((I _ _ (sq (fun _ al=> ?_)))))))))
   refine rg rfl (p mv (ae (((al _ _ (U (fun _ ar=>(p mv ?_))))))))
   refine ab (aa j) (p (cI ((J - j:Nat):Int) rfl rfl (aQ (by omega) (by omega))) (ab (aa s) (p mv (p (cI ((s - J:Nat):Int) rfl rfl (aQ (by omega) (by omega))) (p aj (p aj (nl ?_)))))))
   refine tn (ar _ _ (U (fun _ bA=>(ab (aa (s - j)) (p (l2 (((s - j) / 8:Nat):Int) rfl rfl (by omega) (aQ (by omega) (by omega))) (ae (((bA _ _ ?_)))))))))
   refine U (fun _ bB=>(p mv (p mv (p (lt rfl rfl) (ag ((bB _ _ (cd rfl (fun b9=> ?_) (fun b9=> ?_)))))))))
   refine U (fun _ aK=>(p mv (p mv (p (ge rfl rfl) (ae (((aK _ _ ?_))))))))
   refine U (fun _ aL=>(ab (.slice A n cp) (ab (aa j) (p mv (ab (aa E) (e (cl se (ih d4 j J E bx aT (by omega) (by omega) (by omega) hm4) rfl fun v121 w121 bX=> ?_)))))))
   obtain ⟨aw,rfl,a0,a1,aV,aR⟩:=bX
   obtain ⟨aX,aY⟩:=co aw a0 a1
   refine ag ((aL _ _ (rg rfl (p mv (p (a9 ((J+1:Nat):Int) rfl rfl (aQ (by omega) (by omega))) (p aj (nl (bn ?_))))))))
   exact tn (⟨_,by omega,J+1,s,E,decide (((J - j:Nat):Int)≥(((s - j) / 8:Nat):Int)),ap,aw,(by omega),aX,((fun R h1 h2=>by obtain ⟨h3,h4⟩:=aY R h1 h2; exact aq R (Go.Sort.permIn_trans _ _ _ j s aD h3) h4)),aV,(Md.trans bi (Md.trans bh aR)),rfl,rfl,rfl,rfl,rfl,rfl,rfl⟩)
   refine U (fun _ aK=>(p mv (p mv (p (ge rfl rfl) (ae (((aK _ _ ?_))))))))
   refine U (fun _ aL=>(ab (.slice A n cp) (p mv (p (a9 ((J+1:Nat):Int) rfl rfl (aQ (by omega) (by omega))) (ab (aa s) (ab (aa E) (e (cl se (ih d4 (J+1) s E bx aT (by omega) (by omega) (by omega) aZ) rfl fun c9 dj bY=> ?_))))))))
   obtain ⟨aw,rfl,a0,a1,aV,aR⟩:=bY
   obtain ⟨aX,aY⟩:=cq aw a0 a1
   refine ag ((aL _ _ (rg rfl (p mv (p aj (nl (bn (tn ?_))))))))
   exact ⟨_,by omega,j,J,E,decide (((s - J:Nat):Int)≥(((s - j) / 8:Nat):Int)),ap,aw,(by omega),aX,((fun R h1 h2=>by obtain ⟨h3,h4⟩:=aY R h1 h2; exact aq R (Go.Sort.permIn_trans _ _ _ j s aD h3) h4)),aV,(Md.trans bi (Md.trans bh aR)),rfl,rfl,rfl,rfl,rfl,rfl,rfl⟩
theorem KZ (d:Array Nat) (B n cp:Nat) (a:Option Addr) (w:World) (s:w.ownsRow B 71 1 (.slice a n cp) n (LE aM d)) (A:n≤255):
 aU Tryz.prog 122 (List.toArray [.slice a n cp]) w (fun v w'=> ∃ d1,v= .tuple #[]∧Go.Sort.PermIn 0 n d d1∧Go.Sort.SortedIn bm 0 n d1∧w'.ownsRow B 71 1 (.slice a n cp) n (LE aM d1)∧Md (fun q=>(Value.slice a n cp).ownBlock=some q) w w'):=by
 refine enter Tryz.func122 rfl Tryz.ntmps122 rfl ?_
 refine U (fun _ j=>(ab (.slice a n cp) (p (ba kD rfl rfl) (ae (((j _ _ (rg rfl ?_))))))))
 refine ab (.slice a n cp) (p mv (p mv (p (ig BQ l9 rfl (kI (by omega))) (e (cl xj (z8 n _ (by omega)) rfl fun v9 w9 hR9=> ?_)))))
 obtain ⟨rfl,i⟩:=hR9
 have hll:=qL (n:=n) (by omega)
 refine e (cl se (JO (n+1) d 0 n (gR n) B n cp a _ (aE s i) (by omega) (by omega) A (by omega) (.inl rfl)) rfl fun v10 w10 hR10=> ?_)
 obtain ⟨d1,rfl,h1,h2,h3,h4⟩:=hR10
 refine nl (f0 rfl ?_)
 exact ⟨d1,rfl,h1,h2,h3,Md.trans (i.mono (fun _ _ h=>h.elim)) h4⟩
end Go.Hb.rO
end
section
set_option maxRecDepth 20000
set_option maxHeartbeats 1000000
namespace Go.Hb.gW
open Go.Hb.di
open Go.Proofs
open Go.Hb.gA Go.Hb.fQ Go.Hb.mh Go.Hb.o5 Go.Hb.rO
theorem nC {w:World} {B e n cp i:Nat} {a:Option Addr} {d:Array Nat} (h:w.ownsRow B e 1 (.slice a n cp) n (LE aM d)):ak w.heap (ed a cp i 1) ((LE aM d).drop i):=by
 have :=(aI h).2.drop (cap:=cp) (k:=i) (size:=1) (by rw [ow]; have h1:=dS h; have h2:=(aI h).1; omega)
 rwa [Nat.mul_one] at this
theorem IY (l:List Nat):l.map aM=LE aM l.toArray:=by simp [LE]
theorem pA (l:List Nat):(l.map aM).all Value.oneCell'=true :=by
 rw [List.all_eq_true]; intro v hv; obtain ⟨x,_,rfl⟩:=List.mem_map.1 hv; rfl
theorem Ly (d:Array Nat) (k:Nat):(LE aM d).take k=(d.toList.take k).map aM:=by simp [LE,List.map_take]
theorem kA (b:UInt8):fD b=decide ((b.toNat:Int) > 32∧(b.toNat:Int) < 127∧(b.toNat:Int)≠47∧(b.toNat:Int)≠44∧(b.toNat:Int)≠35):=by
 unfold fD; exact decide_eq_decide.2 (by omega)
theorem JE {w:World} {B e size n cp:Nat} {a:Option Addr} {xs:List Value} (h:w.ownsRow B e size (.slice a n cp) n xs) (hn:0 < n):a≠none:=by
 rintro rfl
 rcases h.2 with ⟨_,h5⟩ | ⟨g,cap,cur,h4,_⟩
 · omega
 · simp at h4
theorem pU (a:Option Addr) (n c:Nat) (xs:List Value) (w:World) (hC:ak w.heap a xs) (hxl:xs.length=n*1) (ha:a=none→n=0) (h1:xs.all Value.oneCell'=true) (hn:n≤1048576):
 aU Tryz.prog 49 (List.toArray [.slice a n c]) w (fun v w'=>World.ownsRow w' w.heap.size 71 1 v n xs∧Wk w w'):=by
 refine enter Tryz.func49 rfl Tryz.ntmps49 rfl ?_
 refine U (fun _ s=>(ae (((s _ _ (sq (fun _ A=>U (fun _ C=> ?_))))))))
 refine ab (.slice a n c) (p (mA kD rfl rfl) (ag ((C _ _ (cb rfl (fun q=> ?_) (fun q=> ?_))))))
 have I:a=none:=by simpa using q
 refine U (fun _ i=>(ae (((i _ _ (rt (tr (f1 rfl rfl ?_))))))))
 have hn0:=ha I
 subst hn0
 obtain rfl :=List.eq_nil_of_length_eq_zero (show xs.length=0 by omega)
 exact ⟨World.ownsRow_nil _ _ _ _,Md.refl _ _⟩
 refine au (tn (A _ _ (U (fun _ i=>(e (iY rk fun O w5 hb5 j E=> ?_))))))
 have ho5:=E w.heap.size (by omega)
 refine ab (.slice a n c) (e (ap rk (ho5) rfl (by have :=j.size; omega) rfl (hC.wk j.md) (hxl) (h1) (by omega) (by omega) fun M w7 J G hz7 V=> ?_))
 have hE7:=Wk.own j.md ho5 G (Nat.le_refl _)
 refine ae (((i _ _ (rt (f1 rfl rfl ?_)))))
 have hz:World.ownsRow w7 w.heap.size 71 1 M n xs:=by simpa using J
 exact ⟨hz,hE7⟩
theorem Fb (d:Array Nat) (B n cp:Nat) (a:Option Addr) (w:World) (E:w.ownsRow B 71 1 (.slice a n cp) n (LE aM d)) (a5:n≤1048576):
 aU Tryz.prog 123 (List.toArray [.slice a n cp]) w (fun v w'=> ∃ k,v= .slice a k cp∧k=(eV d.toList).length∧World.ownsRow w' B 71 1 (.slice a k cp) k ((eV d.toList).map aM)∧Md (fun q=>(Value.slice a n cp).ownBlock=some q) w w'):=by
 have hdn:=dS E
 have hcp:=(aI E).1
 refine enter Tryz.func123 rfl Tryz.ntmps123 rfl ?_
 refine U (fun _ aq=>(ae (((aq _ _ (sq (fun _ aD=>U (fun _ aF=> ?_))))))))
 refine ab (.slice a n cp) (p (ba kD rfl rfl) (p (lt rfl rfl) (ag ((aF _ _ (cd rfl (fun hc8=> ?_) (fun hc8=> ?_)))))))
 refine U (fun _ am=>(ab (.slice a n cp) (p (bG (.slice a n cp) rfl) (ag ((am _ _ (rt (tr ?_))))))))
 refine f1 rfl rfl ?_
 have hz:eV d.toList=d.toList:=by
  have hlt:d.toList.length < 2:=by rw [nD]; omega
  revert hlt
  generalize d.toList=l
  intro hlt
  match l,hlt with
  | [],_=>rfl
  | [x],_=>rfl
 exact ⟨n,rfl,by rw [hz,nD]; omega,by rw [hz]; exact E,Md.refl _ _⟩
 refine au (tn (aD _ _ (sq (fun _ am=>U (fun _ aG=>(ae (((aG _ _ ?_)))))))))
 refine az (lp (fun V ap ac=> ∃ (i:Nat),(1≤i∧i≤n∧2≤n)∧(eV (d.toList.take i)=d.toList.take i)∧(Wk w ac)∧(ap 0= .slice a n cp)∧(ap 3=aa i)∧(n - i=V)) _ ⟨1,(by omega),((by have h1:=rz (d:=d) (i:=0) (by omega); rw [h1]; rfl)),(Md.refl _ _),rfl,rfl,rfl⟩ ?_)
 rintro V ap ac ⟨i,hi,Y,I,aZ,a0,rfl⟩
 refine fx 0 aZ (fx 3 a0 (sq (fun _ aH=>U (fun _ aK=>(ab (aa i) (ab (.slice a n cp) (p (ba kD rfl rfl) (p (lt rfl rfl) ?_))))))))
 refine ag ((aK _ _ (cd rfl (fun aP=> ?_) (fun aP=> ?_))))
 refine au (tn (aH _ _ (sq (fun _ an=>az (sq (fun _ aL=> ?_))))))
 have A:(fun w'=>Wk ac w') ac.drew:=(Md.refl _ _).drew
 refine bC (fun w'=>Wk ac w') rfl wide A (bo 0 rfl (.slice a n cp) A (bo 1 rfl (aa i) A (aA 2 rfl (fun _ _=>aJ bj rfl rfl (by omega) (ak.ok ((aI E).2) (bu (by omega)))) A (aA 3 rfl (fun w' J=>ld bJ rfl (Wk.aC J (bZ (i:=i) (aI (aE E I)).2 (by omega)))) A (bo 4 rfl (.slice a n cp) A (bo 5 rfl (aa i) A (aA 6 rfl (fun _ _=>cI ((i - 1:Nat):Int) rfl rfl (aQ (by omega) (by omega))) A ?_)))))))
 refine aA 7 rfl (fun _ _=>aJ bj rfl rfl (by omega) (ak.ok ((aI E).2) (bu (by omega)))) A (aA 8 rfl (fun w' J=>ld bJ rfl (Wk.aC J (bZ (i:=i - 1) (aI (aE E I)).2 (by omega)))) A (aA 9 rfl (fun _ _=>a8 rfl rfl) A (hn (by kernel_rfl) (tn (aL _ _ (cd rfl (fun aR=> ?_) (fun aR=> ?_)))))))
 have heq:d[i - 1]! =d[i]! :=by omega
 refine U (fun _ ar=>(ab (.slice a n cp) (ab (aa i) (p (oN bj rfl rfl (by omega)) (ae (((ar _ _ ?_))))))))
 refine sq (fun _ av=>U (fun _ aw=>(ae (((aw _ _ (az (lp (fun V ah O=> ∃ (k i2:Nat) (C:Array Nat),(1≤k∧k < i+i2∧1≤i2∧i2≤n - i)∧(C.toList.drop k=d.toList.drop k)∧(C.toList.take k=eV (d.toList.take (i+i2)))∧(O.ownsRow B 71 1 (.slice a n cp) n (LE aM C))∧(Md (fun q=>(Value.slice a n cp).ownBlock=some q) w O)∧(ah 0= .slice a n cp)∧(ah 3=aa k)∧(ah 4= .slice (ed a cp i 1) (n - i) (cp - i))∧(ah 5=aa i2)∧(n - i2=V)) _ ⟨i,1,d,(by omega),rfl,((by rw [p5 (by omega) (by omega),if_pos heq,Y])),(aE E (Md.trans I (Md.refl _ _).drew)),((Md.trans I (Md.refl _ _).drew).mono (fun _ _ h=>h.elim)),rfl,rfl,rfl,rfl,rfl⟩ ?_))))))))
 rintro V ah O ⟨k,i2,C,hk,M,Z,G,ao,a1,a2,a3,a4,rfl⟩
 refine fx 0 a1 (fx 3 a2 (fx 4 a3 (fx 5 a4 ?_)))
 have hdcn:=dS G
 refine sq (fun _ ax=>U (fun _ ay=>(ab (aa i2) (ab (.slice (ed a cp i 1) (n - i) (cp - i)) (p (ba kD rfl rfl) (p (lt rfl rfl) (nl ?_)))))))
 refine tn (ay _ _ (cd rfl (fun aS=> ?_) (fun aS=> ?_)))
 refine au (tn (ax _ _ (sq (fun _ ai=>az (sq (fun _ al=> ?_))))))
 have s:(fun w'=>Wk O w') O.drew:=(Md.refl _ _).drew
 refine bC (fun w'=>Wk O w') rfl wide s (bo 0 rfl (.slice (ed a cp i 1) (n - i) (cp - i)) s (bo 1 rfl (aa i2) s (aA 2 rfl (fun _ _=>aJ bj rfl rfl (by omega) (ak.ok (nC G) (tW (by omega)))) s (aA 3 rfl (fun w' J=>ld bJ rfl (Wk.aC J (tV (j:=i2) (nC G) (by omega)))) s (bo 4 rfl (.slice (ed a cp i 1) (n - i) (cp - i)) s (bo 5 rfl (aa i2) s (aA 6 rfl (fun _ _=>cI ((i2 - 1:Nat):Int) rfl rfl (aQ (by omega) (by omega))) s ?_)))))))
 refine aA 7 rfl (fun _ _=>aJ bj rfl rfl (by omega) (ak.ok (nC G) (tW (by omega)))) s (aA 8 rfl (fun w' J=>ld bJ rfl (Wk.aC J (tV (j:=i2 - 1) (nC G) (by omega)))) s (aA 9 rfl (fun _ _=>bP rfl rfl) s (hn (by kernel_rfl) (tn (al _ _ (cd rfl (fun aT=> ?_) (fun aT=> ?_)))))))
 have hO2x:=aE G s
 have g1:=p8 M (show k≤i+i2 by omega)
 have g2:=p8 M (show k≤i+(i2 - 1) by omega)
 have aW:¬d[i+i2 - 1]! =d[i+i2]! :=by rw [show i+i2 - 1=i+(i2 - 1) by omega,← g1,← g2]; omega
 refine U (fun _ aB=>(ab (.slice a n cp) (ab (aa k) (ab (.slice (ed a cp i 1) (n - i) (cp - i)) (ab (aa i2) (p (aJ bj rfl rfl (by omega) (ak.ok (nC hO2x) (tW (by omega)))) (p (ld bJ rfl (tV (j:=i2) (nC hO2x) (by omega))) ?_)))))))
 refine p (aJ bj rfl rfl (by omega) (ak.ok ((aI hO2x).2) (bu (by omega)))) (e (ej (u:=C[i+i2]!) (k) hO2x eb rfl rfl rfl (by omega) fun w12 aN ho12=>ag ((aB _ _ (rg rfl (ab (aa k) (p (a9 ((k+1:Nat):Int) rfl rfl (aQ (by omega) (by omega))) (p aj ?_))))))))
 refine nl (bn (tn (ai _ _ (rg rfl (ab (aa i2) (p (a9 ((i2+1:Nat):Int) rfl rfl (aQ (by omega) (by omega))) (p aj (nl ?_))))))))
 exact tn (⟨_,by omega,k+1,i2+1,C.setIfInBounds k C[i+i2]!,(by omega),((by rw [set_drop (by omega)]; have h3:=congrArg (List.drop 1) M; rwa [List.drop_drop,List.drop_drop] at h3)),((by rw [uS (by omega),Z,show i+(i2+1)=i+i2+1 from rfl,p5 (by omega) (by omega),if_neg aW,g1])),ho12,(Md.trans ao (Md.trans (s.mono (fun _ _ h=>h.elim)) aN)),rfl,rfl,rfl,rfl,rfl⟩)
 have g1:=p8 M (show k≤i+i2 by omega)
 have g2:=p8 M (show k≤i+(i2 - 1) by omega)
 have aV:d[i+i2 - 1]! =d[i+i2]! :=by rw [show i+i2 - 1=i+(i2 - 1) by omega,← g1,← g2]; omega
 refine au (bn (tn (ai _ _ (rg rfl (ab (aa i2) (p (a9 ((i2+1:Nat):Int) rfl rfl (aQ (by omega) (by omega))) (p aj (nl ?_))))))))
 exact tn (⟨_,by omega,k,i2+1,C,(by omega),M,((by rw [Z,show i+(i2+1)=i+i2+1 from rfl,p5 (by omega) (by omega),if_pos aV])),(aE G (Md.refl _ _).drew),ao.drew,rfl,rfl,rfl,rfl,rfl⟩)
 refine ext (te _ (te _ (be (tn (av _ _ (U (fun _ ai=>(ab (.slice a n cp) ?_))))))))
 refine ab (aa k) (p (oN bj rfl rfl (by omega)) (e (EW (k:=k) kD Mx rfl G rfl rfl (by omega) fun w14 aO aY=>ag ((ai _ _ (U (fun _ al=>(ab (.slice a n cp) ?_))))))))
 refine ab (aa k) (p (oM bj rfl rfl (by omega)) (ae (((al _ _ (rt (br (tr ?_))))))))
 refine tr (br (tr (f1 rfl rfl ?_)))
 have hz:d.toList.take (i+i2)=d.toList:=List.take_of_length_le (by rw [nD]; omega)
 rw [hz] at Z
 have hkl:k=(eV d.toList).length:=by rw [← Z,List.length_take,nD]; omega
 refine ⟨k,rfl,hkl,?_,Md.trans ao aO⟩
 have hT:=AE aY (show k≤n by omega) (JE E (by omega))
 rw [Nat.mul_one,List.take_append,List.take_of_length_le (l:=(LE aM C).take k) (by rw [List.length_take]; omega),List.length_take,ow,show k - min k C.size=0 by omega,List.take_zero,List.append_nil,Ly,Z] at hT
 exact hT
 have aX:¬d[i - 1]! =d[i]! :=by omega
 refine au (bn (tn (an _ _ (rg rfl (ab (aa i) (p (ad rfl rfl (bp (by omega))) (p aj (nl ?_))))))))
 exact tn (⟨_,by omega,i+1,(by omega),((by rw [p5 (by omega) (by omega),if_neg aX,Y,rz (by omega)])),(Md.trans I (Md.refl _ _).drew),rfl,rfl,rfl⟩)
 refine ext (te _ (te _ (be (tn (am _ _ (U (fun _ an=>(ab (.slice a n cp) ?_))))))))
 refine p (bG (.slice a n cp) rfl) (ag ((an _ _ (rt (f1 rfl rfl ?_)))))
 rw [show d.toList.take i=d.toList from List.take_of_length_le (by rw [nD]; omega)] at Y
 exact ⟨n,rfl,by rw [Y,nD]; omega,by rw [Y]; exact aE E I,I.mono (fun _ _ h=>h.elim)⟩
theorem Aw (l:List Nat) (a:Option Addr) (c:Nat) (w:World) (hC:ak w.heap a (l.map aM)) (ha:a=none→l.length=0) (hl:l.length≤255):
 aU Tryz.prog 104 (List.toArray [.slice a l.length c]) w (fun v w'=>World.ownsRow w' w.heap.size 71 1 v (gw l).length ((gw l).map aM)∧Wk w w'):=by
 refine enter Tryz.func104 rfl Tryz.ntmps104 rfl ?_
 refine U (fun _ s=>(ae (((s _ _ (U (fun _ A=>(ab (.slice a l.length c) ?_))))))))
 refine e (cl pK (pU a l.length c (l.map aM) _ hC (by simp) ha (pA l) (by omega)) rfl fun O w5 hR5=> ?_)
 obtain ⟨ho5,hE5⟩:=hR5
 obtain ⟨i,j,rfl⟩:=bU ho5
 rw [IY] at ho5
 refine ae (((A _ _ (U (fun _ C=>(ab (.slice i l.length j) (e (cl Dl (KZ l.toArray w.heap.size l.length j i _ ho5 hl) rfl fun V w7 hR7=> ?_))))))))
 obtain ⟨d1,rfl,J,M,p,I⟩:=hR7
 refine ag ((C _ _ (U (fun _ E=>(ab (.slice i l.length j) (e (cl Dm (Fb d1 w.heap.size l.length j i _ p (by omega)) rfl fun v9 w9 hR9=> ?_)))))))
 obtain ⟨k,rfl,hk,q,hM9⟩:=hR9
 have G:Wk w w9:=Wk.own (Wk.own hE5 ho5 I (Nat.le_refl _)) p hM9 (Nat.le_refl _)
 refine ae (((E _ _ (rt (f1 rfl rfl ?_)))))
 rw [KY J M] at hk q
 exact ⟨by rw [← hk]; exact q,G⟩
theorem uT (b:UInt8) (w:World):
 aU Tryz.prog 133 (List.toArray [.int .u8 b.toNat]) w (fun v w'=>v= .bool (fD b)∧Wk w w'):=by
 refine enter Tryz.func133 rfl Tryz.ntmps133 rfl ?_
 refine U (fun _ i=>(ae (((i _ _ (U (fun _ a=>(ab (.int .u8 b.toNat) ?_))))))))
 refine p (gt rfl rfl) (p mv (gs (t:=5) rfl (fun hg5=> ?_) (fun hg5=> ?_)))
 refine pg rfl rfl rfl (aB (.int .u8 b.toNat) rfl) (pg rfl rfl rfl (lt rfl rfl) (p (bf rfl) (p mv (gs (t:=9) rfl (fun hg9=> ?_) (fun hg9=> ?_)))))
 refine pg rfl rfl rfl (aB (.int .u8 b.toNat) rfl) (pg rfl rfl rfl (bP rfl rfl) (p (bf rfl) (p mv (gs (t:=13) rfl (fun hg13=> ?_) (fun hg13=> ?_)))))
 refine pg rfl rfl rfl (aB (.int .u8 b.toNat) rfl) (pg rfl rfl rfl (bP rfl rfl) (p (bf rfl) (p mv (gs (t:=17) rfl (fun j=> ?_) (fun j=> ?_)))))
 refine pg rfl rfl rfl (aB (.int .u8 b.toNat) rfl) (pg rfl rfl rfl (bP rfl rfl) (p (bf rfl) (ae (((a _ _ (rt (f1 rfl rfl ?_))))))))
 exact ⟨by show Value.bool (decide _)=_; rw [kA]; exact bv (by constructor <;> intro h <;> first | exact ⟨by omega,by omega,by omega,by omega,h⟩ | exact h.2.2.2.2),Md.refl _ _⟩
 refine sk rfl rfl rfl rfl (sk rfl rfl rfl rfl (p (a4 rfl) (ae (((a _ _ (rt (f1 rfl rfl ?_))))))))
 exact ⟨by show Value.bool false =_; rw [kA,decide_eq_false (by omega)],Md.refl _ _⟩
 refine sk rfl rfl rfl rfl (sk rfl rfl rfl rfl (p (a4 rfl) (p mv (sk rfl rfl rfl rfl (sk rfl rfl rfl rfl (p (a4 rfl) (p aj ?_)))))))
 exact ag ((a _ _ (rt (f1 rfl rfl (⟨by show Value.bool false =_; rw [kA,decide_eq_false (by omega)],Md.refl _ _⟩)))))
 refine sk rfl rfl rfl rfl (sk rfl rfl rfl rfl (p (a4 rfl) (p mv (sk rfl rfl rfl rfl (sk rfl rfl rfl rfl (p (a4 rfl) (p mv ?_)))))))
 refine sk rfl rfl rfl rfl (sk rfl rfl rfl rfl (p (a4 rfl) (ae (((a _ _ (rt (f1 rfl rfl ?_))))))))
 exact ⟨by show Value.bool false =_; rw [kA,decide_eq_false (by omega)],Md.refl _ _⟩
 refine sk rfl rfl rfl rfl (sk rfl rfl rfl rfl (p (a4 rfl) (p mv (sk rfl rfl rfl rfl (sk rfl rfl rfl rfl (p (a4 rfl) (p mv ?_)))))))
 refine sk rfl rfl rfl rfl (sk rfl rfl rfl rfl (p (a4 rfl) (p mv (sk rfl rfl rfl rfl (sk rfl rfl rfl rfl (p (a4 rfl) (p aj ?_)))))))
 exact ag ((a _ _ (rt (f1 rfl rfl (⟨by show Value.bool false =_; rw [kA,decide_eq_false (by omega)],Md.refl _ _⟩)))))
theorem z1 (k:Nat) (w:World):
 aU Tryz.prog 117 (List.toArray [aa k]) w (fun v w'=>v= .bool (decide (1≤k∧k≤3))∧Wk w w'):=by
 refine enter Tryz.func117 rfl Tryz.ntmps117 rfl ?_
 refine U (fun _ i=>(ae (((i _ _ (U (fun _ a=>(ab (aa k) ?_))))))))
 refine p (ge rfl rfl) (p mv (gs (t:=5) rfl (fun hg5=> ?_) (fun hg5=> ?_)))
 refine pg rfl rfl rfl (aB (aa k) rfl) (pg rfl rfl rfl (le rfl rfl) (p (bf rfl) (ae (((a _ _ (rt (f1 rfl rfl ?_))))))))
 exact ⟨by show Value.bool (decide _)=_; exact bv (by omega),Md.refl _ _⟩
 refine sk rfl rfl rfl rfl (sk rfl rfl rfl rfl (p (a4 rfl) (ae (((a _ _ (rt (f1 rfl rfl ?_))))))))
 exact ⟨by show Value.bool false =_; rw [decide_eq_false (by omega)],Md.refl _ _⟩
end Go.Hb.gW
end
section
set_option maxRecDepth 20000
set_option maxHeartbeats 1000000
namespace Go.Hb.lz
open Go.Hb.di
open Go.Proofs
open Go.Hb.gA Go.Hb.fQ Go.Hb.mh Go.Hb.o5 Go.Hb.rO Go.Hb.gW
theorem yU {kind:Nat} {s:List UInt8} (h:kind=1∧s.length=1∧fD (s.getD 0 0)=true):dm kind s=(s.getD 0 0).toNat:=by unfold dm; rw [if_pos h.1,if_pos h.2]
theorem yV {kind:Nat} {s:List UInt8} (h:kind=2∧s.length=2∧fD (s.getD 0 0)=true∧fD (s.getD 1 0)=true):dm kind s=256 *(s.getD 0 0).toNat+(s.getD 1 0).toNat:=by unfold dm; rw [if_neg (by omega),if_pos h.1,if_pos h.2]
theorem td {kind:Nat} {s:List UInt8} (h:kind=3):dm kind s=(cH s 65535).1:=by unfold dm; rw [if_neg (by omega),if_neg (by omega)]
theorem nb {kind:Nat} {s:List UInt8} (h:kind=1∨kind=2) (h1:¬(kind=1∧s.length=1∧fD (s.getD 0 0)=true)) (h2:¬(kind=2∧s.length=2∧fD (s.getD 0 0)=true∧fD (s.getD 1 0)=true)):dm kind s=0:=by
 unfold dm
 rcases h with h | h
 · rw [if_pos h,if_neg (fun h3=>h1 ⟨h,h3⟩)]
 · rw [if_neg (by omega),if_pos h,if_neg (fun h3=>h2 ⟨h,h3⟩)]
theorem Io {c:UInt8} {l:List UInt8} (h:0 < l.count c):¬dC c l < 0:=by
 intro h1
 exact zW h1 (List.idxOf_lt_length_iff.2 (List.count_pos_iff.1 h))
theorem Kg (n:Nat) (x:List UInt8):List.replicate n (str x)=(List.replicate n x).map str:=by rw [List.map_replicate]
theorem Bf {dn:List (List UInt8)} {m:Nat} {x:List UInt8} (h:0 < m):((dn++List.replicate m []).map str).set dn.length (str x)=((dn++ [x])++List.replicate (m - 1) []).map str:=by
 obtain ⟨m,rfl⟩:∃ k,m=k+1:=⟨m - 1,by omega⟩
 rw [← List.map_set,List.set_append_right _ _ (Nat.le_refl _),Nat.sub_self,List.replicate_succ,List.set_cons_zero,Nat.add_sub_cancel,List.append_assoc]; rfl
theorem s7 {kind:Nat} {ps:List (List UInt8)} {i:Nat} (h:i < ps.length) (h1:¬∃ x∈ps.take i,dm kind x=0) (h2:dm kind (ps.getD i [])≠0):¬∃ x∈ps.take (i+1),dm kind x=0:=by
 rw [ef ps i [] h]
 rintro ⟨x,a,h3⟩
 rcases List.mem_append.1 a with a | a
 · exact h1 ⟨x,a,h3⟩
 · rw [List.mem_singleton] at a; subst a; exact h2 h3
theorem qB {α:Type} {l:List α} {i:Nat} {d:α} (h:i < l.length):l.getD i d∈l:=by
 rw [List.getD_eq_getElem?_getD,List.getElem?_eq_getElem h]; exact List.getElem_mem h
theorem yW (kind:Nat) (s:List UInt8) (w:World) (hk:kind=1∨kind=2∨kind=3) (hs:s.length≤1048576):
 aU Tryz.prog 119 (List.toArray [aa kind,str s]) w (fun v w'=>v=aM (dm kind s)∧Wk w w'):=by
 refine enter Tryz.func119 rfl Tryz.ntmps119 rfl ?_
 refine U (fun _ ac=>(ae (((ac _ _ (sq (fun _ ag=>az ?_)))))))
 refine cX (fun C Z=> ∃ (I:Bool),(I=decide (kind=1∧s.length=1∧fD (s.getD 0 0)=true))∧(Wk w Z)∧(C 0=aa kind)∧(C 1=str s)∧(C 7= .bool I)) ?_ ?_
 refine rg rfl (ab (aa kind) (p (a8 rfl rfl) (p mv (gs (t:=10) rfl (fun hg10=> ?_) (fun hg10=> ?_)))))
 refine pg rfl rfl rfl (aB (str s) rfl) (pg rfl rfl rfl (bI u9 rfl rfl) (pg rfl rfl rfl (a8 rfl rfl) (p (bf rfl) (p mv (gs (t:=15) rfl (fun ap=> ?_) (fun ap=> ?_))))))
 refine pg rfl rfl rfl (aB (str s) rfl) (pg rfl rfl rfl (fz 0 u9 rfl rfl (by omega)) (eg rfl rfl rfl (cl sc (uT (s.getD 0 0) _) rfl fun aE w18 ak=> ?_)))
 obtain ⟨rfl,ai⟩:=ak
 exact p (bf rfl) (ae (((⟨fD (s.getD 0 0),((by rw [Bool.eq_iff_iff,decide_eq_true_iff]; exact ⟨fun h=>⟨by omega,by omega,h⟩,fun h=>h.2.2⟩)),ai,rfl,rfl,rfl⟩))))
 exact sk rfl rfl rfl rfl (sk rfl rfl rfl rfl (sk rfl rfl rfl rfl (p (a4 rfl) (ae (((⟨false,((decide_eq_false (fun h=>by omega)).symm),(Md.refl _ _),rfl,rfl,rfl⟩)))))))
 refine sk rfl rfl rfl rfl (sk rfl rfl rfl rfl (sk rfl rfl rfl rfl (p (a4 rfl) (p mv (sk rfl rfl rfl rfl (sk rfl rfl rfl rfl (sk rfl rfl rfl rfl ?_)))))))
 exact p (a4 rfl) (ae (((⟨false,((decide_eq_false (fun h=>by omega)).symm),(Md.refl _ _),rfl,rfl,rfl⟩))))
 rintro C Z ⟨I,Y,i,av,aw,ax⟩
 refine fx 0 av (fx 1 aw (fx 7 ax (cb rfl (fun M=> ?_) (fun M=> ?_))))
 have O:kind=1∧s.length=1∧fD (s.getD 0 0)=true :=of_decide_eq_true (Y ▸ M)
 refine U (fun _ j=>(ab (str s) (p (fz 0 u9 rfl rfl (by omega)) (p (ig rB lj rfl (nM (by have :=UInt8.toNat_lt (s.getD 0 0); omega))) (ae (((j _ _ ?_))))))))
 exact rt (br (tr (f1 rfl rfl (⟨by rw [yU O]; rfl,i⟩))))
 have O:¬(kind=1∧s.length=1∧fD (s.getD 0 0)=true):=of_decide_eq_false (Y ▸ M)
 refine cX (fun E q=> ∃ (J:Bool),(J=decide (kind=2∧s.length=2∧fD (s.getD 0 0)=true∧fD (s.getD 1 0)=true))∧(Wk w q)∧(E 0=aa kind)∧(E 1=str s)∧(E 23= .bool J)) ?_ ?_
 refine rg rfl (ab (aa kind) (p (a8 rfl rfl) (p mv (gs (t:=26) rfl (fun aq=> ?_) (fun aq=> ?_)))))
 refine pg rfl rfl rfl (aB (str s) rfl) (pg rfl rfl rfl (bI u9 rfl rfl) (pg rfl rfl rfl (a8 rfl rfl) (p (bf rfl) (p mv (gs (t:=31) rfl (fun ar=> ?_) (fun ar=> ?_))))))
 refine pg rfl rfl rfl (aB (str s) rfl) (pg rfl rfl rfl (fz 0 u9 rfl rfl (by omega)) (eg rfl rfl rfl (cl sc (uT (s.getD 0 0) _) rfl fun aF aI al=> ?_)))
 obtain ⟨rfl,hE34⟩:=al
 refine p (bf rfl) (p mv (gb (t:=36) rfl (fun A=> ?_) (fun A=> ?_)))
 refine pg rfl rfl rfl (aB (str s) rfl) (pg rfl rfl rfl (fz 1 u9 rfl rfl (by omega)) (eg rfl rfl rfl (cl sc (uT (s.getD 1 0) _) rfl fun aG w39 am=> ?_)))
 obtain ⟨rfl,hE39⟩:=am
 exact p (bf rfl) (ae (((⟨fD (s.getD 1 0),((by rw [Bool.eq_iff_iff,decide_eq_true_iff]; exact ⟨fun h=>⟨by omega,by omega,A,h⟩,fun h=>h.2.2.2⟩)),(Md.trans i (Md.trans hE34 hE39)),rfl,rfl,rfl⟩))))
 exact sk rfl rfl rfl rfl (sk rfl rfl rfl rfl (sk rfl rfl rfl rfl (p (a4 rfl) (ae (((⟨false,((decide_eq_false (fun h=>by rw [h.2.2.1] at A; cases A)).symm),(Md.trans i hE34),rfl,rfl,rfl⟩)))))))
 refine sk rfl rfl rfl rfl (sk rfl rfl rfl rfl (sk rfl rfl rfl rfl (p (a4 rfl) (p mv (sk rfl rfl rfl rfl (sk rfl rfl rfl rfl (sk rfl rfl rfl rfl ?_)))))))
 exact p (a4 rfl) (ae (((⟨false,((decide_eq_false (fun h=>by omega)).symm),i,rfl,rfl,rfl⟩))))
 refine sk rfl rfl rfl rfl (sk rfl rfl rfl rfl (sk rfl rfl rfl rfl (p (a4 rfl) (p mv (sk rfl rfl rfl rfl (sk rfl rfl rfl rfl (sk rfl rfl rfl rfl ?_)))))))
 refine p (a4 rfl) (p mv (sk rfl rfl rfl rfl (sk rfl rfl rfl rfl (sk rfl rfl rfl rfl (p (a4 rfl) (p aj (nl ?_)))))))
 exact tn (⟨false,((decide_eq_false (fun h=>by omega)).symm),i,rfl,rfl,rfl⟩)
 rintro E q ⟨J,hb2,i,ay,aC,aD⟩
 refine fx 0 ay (fx 1 aC (fx 23 aD (cb rfl (fun hc23=> ?_) (fun hc23=> ?_))))
 have V:kind=2∧s.length=2∧fD (s.getD 0 0)=true∧fD (s.getD 1 0)=true :=of_decide_eq_true (hb2 ▸ hc23)
 have g0:=UInt8.toNat_lt (s.getD 0 0)
 have g1:=UInt8.toNat_lt (s.getD 1 0)
 refine sq (fun _ j=> ?_)
 have a:(fun w'=>Wk q w') q.drew:=(Md.refl _ _).drew
 refine bC (fun w'=>Wk q w') rfl wide a (bo 0 rfl (str s) a (aA 1 rfl (fun _ _=>fz 0 u9 rfl rfl (by omega)) a (aA 2 rfl (fun _ _=>ig rB lj rfl (nM (by omega))) a (aA 3 rfl (fun _ _=>shl rfl rfl (by decide) (KL g0)) a (bo 4 rfl (str s) a (aA 5 rfl (fun _ _=>fz 1 u9 rfl rfl (by omega)) a (aA 6 rfl (fun _ _=>ig rB lj rfl (nM (by omega))) a ?_)))))))
 refine aA 7 rfl (fun _ _=>wy rfl rfl (JB g0 g1)) a (aA 8 rfl (fun _ _=>aj) a (hn (by kernel_rfl) (tn (j _ _ (rt (br (tr (f1 rfl rfl ?_))))))))
 exact ⟨by rw [yV V]; rfl,i.drew⟩
 have V:¬(kind=2∧s.length=2∧fD (s.getD 0 0)=true∧fD (s.getD 1 0)=true):=of_decide_eq_false (hb2 ▸ hc23)
 refine U (fun _ j=>(ab (aa kind) (p (a8 rfl rfl) (ae (((j _ _ (cd rfl (fun ao=> ?_) (fun ao=> ?_)))))))))
 refine U (fun _ G=>(ab (str s) (e (cl pL (qS s 65535 _ hs (by decide)) rfl fun aH aJ an=> ?_))))
 obtain ⟨rfl,hE54⟩:=an
 have hn5:=Ap s
 refine p mv (p (xt rfl rfl) (p (xt rfl rfl) (p aj (ae (((G _ _ (sq (fun _ ah=> ?_)))))))))
 refine rg rfl (p mv (p (ig rB l9 rfl (nM (by omega))) (ae (((ah _ _ (rt (br ?_))))))))
 exact tr (f1 rfl rfl (⟨by rw [td (by omega)]; rfl,Md.trans i hE54⟩))
 refine au (bn (tn (ag _ _ (U (fun _ G=>(ae (((G _ _ ?_)))))))))
 exact rt (f1 rfl rfl (⟨by rw [nb (by omega) O V]; rfl,i⟩))
theorem Jx (kind:Nat) (s:List UInt8) (w:World) (hk:kind=1∨kind=2∨kind=3) (hs:s.length≤1048576):
 aU Tryz.prog 114 (List.toArray [aa kind,str s]) w (fun v w'=>v= .tuple #[aM (eB kind s).1,aa ((eB kind s).2)]∧Wk w w'):=by
 refine enter Tryz.func114 rfl Tryz.ntmps114 rfl ?_
 refine U (fun _ j=>(p aj (ae (((j _ _ (sq (fun _ q=>sq (fun _ A=> ?_)))))))))
 refine rg rfl (ab (aa kind) (e (cl xc (z1 kind _) rfl fun M w8 hR8=> ?_)))
 obtain ⟨rfl,i⟩:=hR8
 refine p (no rfl) (ag ((A _ _ (cf ((by rw [decide_eq_true (by omega)]; rfl)) (au (tn (q _ _ (U (fun _ C=> ?_)))))))))
 refine ab (aa kind) (ab (str s) (e (cl xd (yW kind s _ hk hs) rfl fun cB w12 I=> ?_)))
 obtain ⟨rfl,hE12⟩:=I
 refine ae (((C _ _ (sq (fun _ E=>U (fun _ G=>(p mv (p (a8 rfl rfl) ?_))))))))
 refine ag ((G _ _ (cd rfl (fun J=> ?_) (fun J=> ?_))))
 refine U (fun _ a=>(p aj (ae (((a _ _ (rt (tr ?_))))))))
 exact f2 rfl rfl rfl (⟨by unfold eB; rw [if_pos (show dm kind s=0 by omega)]; rfl,Md.trans i hE12⟩)
 refine au (tn (E _ _ (U (fun _ a=>(p mv (p aj (p aj (nl ?_))))))))
 exact tn (a _ _ (rt (f2 rfl rfl rfl (⟨by unfold eB; rw [if_neg (show ¬dm kind s=0 by omega)]; rfl,Md.trans i hE12⟩))))
theorem Fh (s:List UInt8) (c:UInt8) (w:World):
 aU Tryz.prog 172 (List.toArray [str s,str [c]]) w (fun v w'=>v=aa (s.count c)∧Wk w w'):=by
 refine enter Tryz.func172 rfl Tryz.ntmps172 rfl ?_
 refine U (fun _ a=>(ae (((a _ _ (sq (fun _ i=>U (fun _ j=> ?_))))))))
 refine ab (str [c]) (p (bI u9 rfl rfl) (p (a8 rfl rfl) (ag ((j _ _ (cd rfl (fun h=>absurd h (by simp)) (fun E=> ?_)))))))
 refine au (tn (i _ _ (sq (fun _ C=>U (fun _ q=>(ab (str [c]) (p (bI u9 rfl rfl) (p (a8 rfl rfl) ?_))))))))
 refine ag ((q _ _ (cd rfl (fun hc15=> ?_) (fun h=>absurd rfl h))))
 refine U (fun _ A=>(ab (str s) (ab (str [c]) (p (fz 0 u9 rfl rfl (by simp)) (p (xR (E9 s c _) rfl) (p aj (nl ?_)))))))
 exact tn (A _ _ (rt (tr (f1 rfl rfl (⟨rfl,Md.refl _ _⟩)))))
theorem Ha (s:List UInt8) (w:World) (hs:s.length≤1048576):
 aU Tryz.prog 148 (List.toArray [str s,str [44],.int .i64 0,.int .i64 (-1)]) w (fun v w'=>World.ownsRow w' w.heap.size 9 1 (v) ((dQ 44 [] s)).length (((dQ 44 [] s)).map str)∧Wk w w'):=by
 have hcl:=List.count_le_length (a:=(44:UInt8)) (l:=s)
 have hsc:=uY 44 s []
 refine enter Tryz.func148 rfl Tryz.ntmps148 rfl ?_
 refine U (fun _ Y=>(ae (((Y _ _ (sq (fun _ ap=>U (fun _ aq=> ?_))))))))
 refine ab (.int .i64 (-1)) (p (a8 rfl rfl) (ag ((aq _ _ (cd rfl (fun h=>absurd h (by decide)) (fun aV=> ?_))))))
 refine au (tn (ap _ _ (sq (fun _ ar=>U (fun _ av=>(ab (str [44]) (p (cG rfl rfl) (nl ?_))))))))
 refine tn (av _ _ (cd rfl (fun h=>absurd h (by simp)) (fun hc15=> ?_)))
 refine au (tn (ar _ _ (sq (fun _ aw=>U (fun _ ax=>(ab (.int .i64 (-1)) (p (lt rfl rfl) (nl ?_))))))))
 refine tn (ax _ _ (cd rfl (fun aW=> ?_) (fun h=>absurd (by decide) h)))
 refine rg rfl (ab (str s) (ab (str [44]) (e (cl DO (Fh s 44 _) rfl fun aX w23 aF=> ?_))))
 obtain ⟨rfl,hE23⟩:=aF
 refine p (a9 ((s.count 44 +1:Nat):Int) rfl rfl (aQ (by omega) (by omega))) (ae (((aw _ _ (U (fun _ ay=>(p mv (ab (str s) ?_))))))))
 refine p (bI u9 rfl rfl) (p (a9 ((s.length+1:Nat):Int) rfl rfl (aQ (by omega) (by omega))) (p (mn rfl rfl) (ae (((ay _ _ (U (fun _ aA=> ?_))))))))
 refine p mv (e (Jc (n:=s.count 44 +1) (zv:=str []) dU Mr rfl (show Value.int .i64 (min ((s.count 44 +1:Nat):Int) ((s.length+1:Nat):Int))=_ from iv (by omega)) (show Value.int .i64 (min ((s.count 44 +1:Nat):Int) ((s.length+1:Nat):Int))=_ from iv (by omega)) (by omega) (by unfold maxLen; omega) fun C w31 aT aD ho31=> ?_))
 have hO31:=ho31 w.heap.size (by have :=hE23.size; omega)
 rw [Kg] at hO31
 refine ae (((aA _ _ (U (fun _ Z=>(p mv (p (cI ((s.count 44:Nat):Int) rfl rfl (aQ (by omega) (by omega))) (p aj ?_))))))))
 refine ag ((Z _ _ (U (fun _ ac=>(ae (((ac _ _ (sq (fun _ ah=> ?_))))))))))
 refine az (lp (fun M q J=> ∃ (i:Nat) (dn:List (List UInt8)) (r:List UInt8),(dn.length=i)∧(r.count 44 +i=s.count 44∧r.length≤s.length)∧(dn++dQ 44 [] r=dQ 44 [] s)∧(World.ownsRow J w.heap.size 9 1 (.slice (some ⟨C,0,none⟩) (s.count 44 +1) (s.count 44 +1)) (s.count 44 +1) ((dn++List.replicate (s.count 44 +1 - i) []).map str))∧(Wk w J)∧(q 0=str r)∧(q 1=str [44])∧(q 2= .int .i64 0)∧(q 3=aa (s.count 44))∧(q 9= .slice (some ⟨C,0,none⟩) (s.count 44 +1) (s.count 44 +1))∧(q 10=aa i)∧(r.length=M)) _ ⟨0,[],s,rfl,((by omega)),rfl,hO31,(Md.trans hE23 aD.md),rfl,rfl,rfl,rfl,rfl,rfl,rfl⟩ ?_)
 rintro M q J ⟨i,dn,r,hi,hr,hd,A,O,aM,aN,aP,aR,aS,aO,rfl⟩
 refine fx 0 aM (fx 1 aN (fx 2 aP (fx 3 aR (fx 9 aS (fx 10 aO ?_)))))
 have hrl:=List.count_le_length (a:=(44:UInt8)) (l:=r)
 refine sq (fun _ ai=>U (fun _ al=>(ab (aa i) (ab (aa (s.count 44)) (p (lt rfl rfl) (ag ((al _ _ ?_))))))))
 refine cd rfl (fun aH=> ?_) (fun aH=> ?_)
 refine au (tn (ai _ _ (az (U (fun _ E=>(ab (str r) (ab (str [44]) (e (cl DP (Ia r 44 _) rfl fun aY w39 aG=> ?_)))))))))
 obtain ⟨rfl,hE39⟩:=aG
 refine ae (((E _ _ (sq (fun _ G=>U (fun _ am=>(p mv (p (lt rfl rfl) ?_))))))))
 refine ag ((am _ _ (cd rfl (fun h=>absurd h (Io (by omega))) (fun aK=> ?_))))
 refine au (tn (G _ _ (sq (fun _ an=> ?_))))
 have hix:=mF (c:=(44:UInt8)) (l:=r) aK
 have hl1:[(44:UInt8)].length=1:=rfl
 refine rg rfl (ab (.slice (some ⟨C,0,none⟩) (s.count 44 +1) (s.count 44 +1)) (ab (aa i) (ab (str r) (p mv (ab (.int .i64 0) (p (a9 ((r.idxOf 44:Nat):Int) rfl rfl (aQ (by omega) (by omega))) (p (ra u9 rfl rfl (by omega)) ?_)))))))
 refine p (aJ bA rfl rfl (by omega) (ak.ok ((aI (aE A hE39)).2) (bl (by rw [List.length_append,List.length_replicate]; omega)))) (e (nB (j:=i) (u:=str (r.take (r.idxOf 44))) (aE A hE39) jc rfl rfl rfl (by omega) (by omega) fun w14 aB V=> ?_))
 have hE14:Wk w w14:=Wk.own (Md.trans O hE39) (aE A hE39) aB (Nat.le_refl _)
 rw [← hi,Bf (by omega),hi] at V
 refine ag ((an _ _ (U (fun _ ao=>(ab (str r) (p mv (ab (str [44]) (p (bI u9 rfl rfl) ?_))))))))
 refine p (a9 ((r.idxOf 44 +1:Nat):Int) rfl rfl (aQ (by omega) (by omega))) (p (kB u9 rfl rfl (by omega)) (ae (((ao _ _ (rg rfl (ab (aa i) (p (a9 ((i+1:Nat):Int) rfl rfl (aQ (by omega) (by omega))) ?_))))))))
 exact p aj (nl (bn (tn (⟨_,by rw [List.length_drop]; omega,i+1,dn++ [r.take (r.idxOf 44)],r.drop (r.idxOf 44 +1),((by rw [List.length_append,hi]; rfl)),((by have :=FA hix.2; rw [List.length_drop]; omega)),((by rw [List.append_assoc,← hd,Bw 44 r [] hix.2]; rfl)),((by rw [show s.count 44 +1 - (i+1)=s.count 44 +1 - i - 1 by omega]; exact V)),hE14,rfl,rfl,rfl,rfl,rfl,rfl,rfl⟩))))
 refine ext (te _ (te _ (be (tn (ah _ _ (U (fun _ E=>(ab (.slice (some ⟨C,0,none⟩) (s.count 44 +1) (s.count 44 +1)) ?_))))))))
 refine ab (aa i) (ab (str r) (p (aJ bA rfl rfl (by omega) (ak.ok ((aI A).2) (bl (by rw [List.length_append,List.length_replicate]; omega)))) (e (nB (j:=i) (u:=str r) A jc rfl rfl rfl (by omega) (by omega) fun w17 aC I=> ?_))))
 have hE17:Wk w w17:=Wk.own O A aC (Nat.le_refl _)
 rw [← hi,Bf (by omega),hi] at I
 refine ag ((E _ _ (U (fun _ G=>(ab (.slice (some ⟨C,0,none⟩) (s.count 44 +1) (s.count 44 +1)) (ab (aa i) (p (a9 ((i+1:Nat):Int) rfl rfl (aQ (by omega) (by omega))) (p (oM bA rfl rfl (by omega)) ?_))))))))
 refine ae (((G _ _ (rt (f1 rfl rfl ?_)))))
 have aL:¬(44:UInt8)∈r:=fun h=>by have :=List.count_pos_iff.2 h; omega
 have hd2:dn++ [r]=dQ 44 [] s:=by rw [← hd,Le 44 r [] aL]; rfl
 rw [show s.count 44 +1 - i - 1=0 by omega,List.replicate_zero,List.append_nil,hd2] at I
 exact ⟨by rw [hsc,show s.count 44 +1=i+1 by omega] at*; exact I,hE17⟩
theorem Lq (s:List UInt8) (w:World) (hs:s.length≤1048576):
 aU Tryz.prog 132 (List.toArray [str s,str [44]]) w (fun v w'=>World.ownsRow w' w.heap.size 9 1 (v) ((dQ 44 [] s)).length (((dQ 44 [] s)).map str)∧Wk w w'):=by
 refine enter Tryz.func132 rfl Tryz.ntmps132 rfl ?_
 refine U (fun _ a=>(ae (((a _ _ (U (fun _ i=>(ab (str s) ?_))))))))
 exact ab (str [44]) (e (cl Dw (Ha s _ hs) rfl fun j w7 hR7=>ae (((i _ _ (rt (f1 rfl rfl (hR7))))))))
theorem JT (kind:Nat) (s:List UInt8) (w:World) (hk:kind=1∨kind=2∨kind=3) (hs:s.length≤1048576):
 aU Tryz.prog 118 (List.toArray [aa kind,str s]) w (fun v w'=>World.ownsRow w' w.heap.size 9 1 (v) ((b0 kind s)).length (((b0 kind s)).map str)∧Wk w w'):=by
 refine enter Tryz.func118 rfl Tryz.ntmps118 rfl ?_
 refine U (fun _ O=>(ae (((O _ _ (sq (fun _ V=>U (fun _ Y=> ?_))))))))
 refine ab (aa kind) (p (a8 rfl rfl) (ag ((Y _ _ (cd rfl (fun hc8=> ?_) (fun hc8=> ?_))))))
 refine U (fun _ q=>(ab (str s) (e (cl Dr (Lq s _ hs) rfl fun v10 w10 hR10=>ae (((q _ _ (rt ?_))))))))
 refine tr (f1 rfl rfl ?_)
 unfold b0; rw [if_pos (by omega)]; exact hR10
 refine au (tn (V _ _ (U (fun _ q=>(ae (((q _ _ (sq (fun _ Z=> ?_))))))))))
 refine U (fun _ ac=>(ae (((ac _ _ (az (lp (fun G j wI=> ∃ (i:Nat) (dn:List (List UInt8)) (a:Value),(i≤s.length+kind∧dn.length≤i)∧(dn++chunks kind (s.drop i)=chunks kind s)∧(World.ownsRow wI w.heap.size 9 1 (a) (dn).length ((dn).map str))∧(Wk w wI)∧(j 0=aa kind)∧(j 1=str s)∧(j 5=a)∧(j 6=aa i)∧(s.length - i=G)) _ ⟨0,[],.slice none 0 0,((by simp)),rfl,(World.ownsRow_nil _ _ _ _),(Md.refl _ _),rfl,rfl,rfl,rfl,rfl⟩ ?_)))))))
 rintro G j wI ⟨i,dn,a,hi,hd,E,I,ao,aq,ar,av,rfl⟩
 refine fx 0 ao (fx 1 aq (fx 5 ar (fx 6 av (sq (fun _ ah=>U (fun _ ai=>(ab (aa i) (ab (str s) (p (bI u9 rfl rfl) (p (lt rfl rfl) ?_))))))))))
 refine ag ((ai _ _ (cd rfl (fun an=> ?_) (fun an=> ?_))))
 have hne:s.drop i≠[]:=fun h=>by have :=congrArg List.length h; rw [List.length_drop,List.length_nil] at this; omega
 refine au (tn (ah _ _ (sq (fun _ A=>az (rg rfl (ab (a) (ab (str s) (ab (aa i) ?_))))))))
 refine ab (aa i) (ab (aa kind) (p (a9 ((i+kind:Nat):Int) rfl rfl (aQ (by omega) (by omega))) (ab (str s) (p (bI u9 rfl rfl) (p (mn rfl rfl) (p (iN u9 rfl rfl rfl (by omega)) (e (ea dU rfl rfl fun ax w28 hb28 C al=> ?_))))))))
 have J:Wk w w28:=Md.trans I C.md
 refine e (ap dU (aE E C.md) rfl (by have :=J.size; omega) rfl (ak.cQ al) (rfl) (rfl) (by omega) (by omega) fun aw w29 M am hz29 ay=> ?_)
 have hE29:=Wk.own J (aE E C.md) am (Nat.le_refl _)
 rw [EA] at M
 have ho29x:=ji M
 refine p aj (nl (bn (tn (A _ _ (rg rfl (ab (aa i) (ab (aa kind) (p (a9 ((i+kind:Nat):Int) rfl rfl (aQ (by omega) (by omega))) ?_))))))))
 exact ae (((⟨_,by omega,i+kind,dn++ [(s.drop i).take kind],aw,((by rw [List.length_append,List.length_singleton]; omega)),((by rw [← hd,pR (k:=kind) (by omega) hne,List.append_assoc,List.drop_drop]; rfl)),ho29x,hE29,rfl,rfl,rfl,rfl,rfl⟩)))
 refine ext (te _ (te _ (be (tn (Z _ _ (U (fun _ A=>(ab (a) ?_))))))))
 refine p (bG (a) rfl) (ag ((A _ _ (rt (f1 rfl rfl ?_)))))
 have hd2:dn=b0 kind s:=by unfold b0; rw [if_neg (by omega),← hd,List.drop_eq_nil_of_le (by omega),pS,List.append_nil]
 exact ⟨by rw [← hd2]; exact E,I⟩
theorem zj (kind:Nat) (s:List UInt8) (w:World) (hk:kind=1∨kind=2∨kind=3) (hs:s.length≤1048576):
 aU Tryz.prog 101 (List.toArray [aa kind,str s]) w (fun v w'=>(∃ a,v= .tuple #[a,aa ((cU kind s).2)]∧World.ownsRow w' w.heap.size 71 1 a (cU kind s).1.length ((cU kind s).1.map aM))∧Wk w w'):=by
 refine enter Tryz.func101 rfl Tryz.ntmps101 rfl ?_
 refine U (fun _ av=>(p aj (ae (((av _ _ (sq (fun _ aB=>sq (fun _ aC=> ?_)))))))))
 refine rg rfl (ab (aa kind) (e (cl xc (z1 kind _) rfl fun v11 w11 hR11=> ?_)))
 obtain ⟨rfl,al⟩:=hR11
 refine p (no rfl) (ag ((aC _ _ (cf ((by rw [decide_eq_true (by omega)]; rfl)) (au (tn (aB _ _ (sq (fun _ aD=>sq (fun _ aF=> ?_))))))))))
 refine rg rfl (ab (str s) (p (cG rfl rfl) (ag ((aF _ _ (cd rfl (fun A=> ?_) (fun A=> ?_)))))))
 refine U (fun _ Y=>(p aj (ae (((Y _ _ (rt (tr ?_))))))))
 exact f2 rfl rfl rfl (⟨⟨.slice none 0 0,by unfold cU; rw [if_pos A]; rfl,by unfold cU; rw [if_pos A]; exact World.ownsRow_nil _ _ _ _⟩,al⟩)
 refine au (tn (aD _ _ (U (fun _ Y=>(ae (((Y _ _ (sq (fun _ aG=> ?_))))))))))
 refine U (fun _ aH=>(ab (aa kind) (ab (str s) (e (cl Di (JT kind s _ hk hs) rfl fun bc w17 aR=> ?_)))))
 obtain ⟨an,hE17⟩:=aR
 obtain ⟨aL,aN,rfl⟩:=bU an
 have hS17:=(aI an).2
 have hpl:=AK (kind:=kind) (s:=s) (by omega)
 have J:Wk w w17:=Md.trans al hE17
 refine p (ba c9 rfl rfl) (p mv (ag ((aH _ _ (az (lp (fun ai q wI=> ∃ (i:Nat) (I:Value),(i≤(b0 kind s).length)∧(¬∃ x∈(b0 kind s).take i,dm kind x=0)∧(World.ownsRow wI w17.heap.size 71 1 I (((b0 kind s).take i).map (dm kind)).length ((((b0 kind s).take i).map (dm kind)).map aM))∧(Wk w17 wI)∧(q 0=aa kind)∧(q 1=str s)∧(q 6=I)∧(q 17= .slice aL (b0 kind s).length aN)∧(q 18=aa ((b0 kind s).length))∧(q 19=aa i)∧((b0 kind s).length - i=ai)) _ ⟨0,.slice none 0 0,(by omega),((by rintro ⟨x,a4,_⟩; simp at a4)),(World.ownsRow_nil _ _ _ _),(Md.refl _ _),rfl,rfl,rfl,rfl,rfl,rfl,rfl⟩ ?_))))))
 rintro ai q wI ⟨i,I,hi,hne,E,j,aY,aZ,a3,a0,a1,a2,rfl⟩
 refine fx 0 aY (fx 1 aZ (fx 6 a3 (fx 17 a0 (fx 18 a1 (fx 19 a2 ?_)))))
 have hfl:(((b0 kind s).take i).map (dm kind)).length≤i:=by rw [List.length_map,List.length_take]; omega
 refine U (fun _ aK=>(p (lt rfl rfl) (ag ((aK _ _ (sq (fun _ aw=>cd rfl (fun aV=> ?_) (fun aV=> ?_))))))))
 refine au (tn (aw _ _ (sq (fun _ O=>az (U (fun _ V=>(p (aJ bA rfl rfl (by omega) (ak.ok (hS17.wk j) (bl (by omega)))) (p (ld bw rfl (bh.get (i:=i) (hS17.wk j) (by omega))) ?_))))))))
 refine ae (((V _ _ (U (fun _ C=>(ab (aa kind) (p mv (e (cl xd (yW kind ((b0 kind s).getD i []) _ hk (by have :=AL (kind:=kind) (by omega) (qB (d:= []) (show i < (b0 kind s).length by omega)); omega)) rfl fun bd w25 aS=> ?_)))))))))
 obtain ⟨rfl,hE25⟩:=aS
 refine ae (((C _ _ (sq (fun _ ax=>U (fun _ ay=>(p mv (p (a8 rfl rfl) ?_))))))))
 refine ag ((ay _ _ (cd rfl (fun aW=> ?_) (fun aW=> ?_))))
 refine U (fun _ aA=>(p aj (ae (((aA _ _ (rt (tr ?_))))))))
 refine br (tr (tr (br (tr (f2 rfl rfl rfl ?_)))))
 have hz:cU kind s=([],31):=by unfold cU; rw [if_neg A,if_pos ⟨_,qB (d:= []) (show i < (b0 kind s).length by omega),by omega⟩]
 exact ⟨⟨.slice none 0 0,by rw [hz]; rfl,by rw [hz]; exact World.ownsRow_nil _ _ _ _⟩,Md.trans J (Md.trans j hE25)⟩
 refine au (tn (ax _ _ (rg rfl (ab (I) (p mv (e (ea rk rfl rfl fun a7 w30 a9 ac aO=> ?_)))))))
 have am:Wk w17 w30:=Md.trans (Md.trans j hE25) ac.md
 refine e (ap rk (aE (aE E hE25) ac.md) rfl (by have :=am.size; omega) rfl (ak.cQ aO) (rfl) (rfl) (by omega) (by omega) fun ar w31 ho31 aQ hz31 bb=> ?_)
 have hE31:=Wk.own am (aE (aE E hE25) ac.md) aQ (Nat.le_refl _)
 have aX:World.ownsRow w31 w17.heap.size 71 1 ar (((b0 kind s).take (i+1)).map (dm kind)).length ((((b0 kind s).take (i+1)).map (dm kind)).map aM):=by
  rw [ef _ i [] (by omega),List.map_append,List.length_append,List.map_append]; exact ho31
 refine p aj (nl (bn (tn (O _ _ (rg rfl (p (ad rfl rfl (bp (by omega))) (p mv (nl ?_))))))))
 exact tn (⟨_,by omega,i+1,ar,(by omega),(s7 (by omega) hne (by omega)),aX,hE31,rfl,rfl,rfl,rfl,rfl,rfl,rfl⟩)
 refine ext (te _ (te _ (be (tn (aG _ _ (sq (fun _ O=>sq (fun _ V=> ?_))))))))
 obtain ⟨G,Z,rfl⟩:=bU E
 have htl:(((b0 kind s).take i).map (dm kind)).length=(b0 kind s).length:=by rw [List.length_map,List.length_take]; omega
 have M:(b0 kind s).take i=(b0 kind s):=List.take_of_length_le (by omega)
 have hnl:G=none→(((b0 kind s).take i).map (dm kind)).length=0:=fun h=>by obtain ⟨a6,c2,aq,_,_,h3⟩:=Rd.fT E; simp only [Value.slice.injEq] at aq; exact h3 (aq.1 ▸ h)
 refine rg rfl (ab (.slice G (((b0 kind s).take i).map (dm kind)).length Z) (p (ba kD rfl rfl) (p (gt rfl rfl) (ag ((V _ _ (cd rfl (fun ah=> ?_) (fun ah=> ?_))))))))
 refine U (fun _ C=>(p aj (ae (((C _ _ (rt (tr ?_))))))))
 refine f2 rfl rfl rfl ?_
 rw [M] at hne htl
 have hz:cU kind s=([],32):=by unfold cU; rw [if_neg A,if_neg hne,if_pos (by rw [M,List.length_map] at ah; omega)]
 exact ⟨⟨.slice none 0 0,by rw [hz]; rfl,by rw [hz]; exact World.ownsRow_nil _ _ _ _⟩,Md.trans J j⟩
 refine au (tn (O _ _ (U (fun _ C=>(ab (.slice G (((b0 kind s).take i).map (dm kind)).length Z) (e (cl wX (Aw (((b0 kind s).take i).map (dm kind)) G Z _ (aI E).2 hnl (by rw [List.length_map,List.length_take] at*; omega)) rfl fun a5 w37 aT=> ?_)))))))
 obtain ⟨ao,aP⟩:=aT
 refine p aj (ae (((C _ _ (rt (f2 rfl rfl rfl ?_))))))
 rw [M] at hne ao
 have hz:cU kind s=(gw ((b0 kind s).map (dm kind)),0):=by unfold cU; rw [if_neg A,if_neg hne,if_neg (by rw [M,List.length_map] at ah; omega)]
 exact ⟨⟨a5,by rw [hz]; rfl,by rw [hz]; exact fZ ao (by have :=J.size; have :=j.size; omega)⟩,Md.trans J (Md.trans j aP)⟩
end Go.Hb.lz
end
section
set_option maxRecDepth 20000
set_option maxHeartbeats 1000000
namespace Go.Hb.gl
open Go.Hb.di
open Go.Proofs
theorem Jq {b:UInt8} (h:¬(b.toNat:Int)=10):b≠10:=by rintro rfl; exact h rfl
theorem Ik {b:UInt8} (h:(b.toNat:Int)=10):b=10:=UInt8.toNat_inj.1 (by have :(10:UInt8).toNat=10:=rfl; omega)
theorem Il {b:UInt8} (h:(b.toNat:Int)=13):b=13:=UInt8.toNat_inj.1 (by have :(13:UInt8).toNat=13:=rfl; omega)
theorem Jr {b:UInt8} (h:¬(b.toNat:Int)=13):b≠13:=by rintro rfl; exact h rfl
theorem tF (b:UInt8) (w:World):
 aU Tryz.prog 92 (List.toArray [.int .u8 b.toNat]) w (fun v w'=>v= .bool (jw b)∧Wk w w'):=by
 refine enter Tryz.func92 rfl Tryz.ntmps92 rfl ?_
 refine U (fun _ i=>(ae (((i _ _ (U (fun _ a=>(ab (.int .u8 b.toNat) ?_))))))))
 refine p (a8 rfl rfl) (p mv (gs (t:=5) rfl (fun hg5=> ?_) (fun hg5=> ?_)))
 refine sk rfl rfl rfl rfl (sk rfl rfl rfl rfl (p (bf rfl) (ae (((a _ _ (rt (f1 rfl rfl ?_))))))))
 exact ⟨by show Value.bool true =_; rw [lQ,decide_eq_true (.inl (by omega))],Md.refl _ _⟩
 refine pg rfl rfl rfl (aB (.int .u8 b.toNat) rfl) (pg rfl rfl rfl (a8 rfl rfl) (p (a4 rfl) (ae (((a _ _ (rt (f1 rfl rfl ?_))))))))
 exact ⟨by show Value.bool (decide ((b.toNat:Int)=9))=_; rw [lQ]; exact congrArg Value.bool (decide_eq_decide.2 (by omega)),Md.refl _ _⟩
theorem Gy (l:List UInt8) (w:World) (hl:l.length≤1048576):
 aU Tryz.prog 57 (List.toArray [str l]) w (fun v w'=>World.ownsRow w' w.heap.size 9 1 v ((bB [] l)).length (((bB [] l)).map str)∧Wk w w'):=by
 refine enter Tryz.func57 rfl Tryz.ntmps57 rfl ?_
 refine U (fun _ al=>(ae (((al _ _ (U (fun _ am=>(p aj ?_))))))))
 refine ag ((am _ _ (U (fun _ an=>(ae (((an _ _ (sq (fun _ ao=> ?_))))))))))
 refine U (fun _ aq=>(ab (str l) (p (bI u9 rfl rfl) (p mv (ag ((aq _ _ (az ?_))))))))
 refine lp (fun ah G w1=> ∃ (i:Nat) (a:Int) (I:List UInt8) (dn:List (List UInt8)) (v:Value),(i≤l.length)∧(gV l i a I)∧(dn++bB I (l.drop i)=(bB [] l))∧(Wk w w1)∧(World.ownsRow w1 w.heap.size 9 1 v (dn).length ((dn).map str))∧(G 0=str l)∧(G 3=v)∧(G 4= .int .i64 a)∧(G 7= .int .i64 l.length)∧(G 8= .int .i64 i)∧(l.length - i=ah)) _ ⟨0,-1,[],[],.slice none 0 0,(by omega),gV.no,rfl,(Md.refl _ _),(World.ownsRow_nil _ _ _ _),rfl,rfl,rfl,rfl,rfl,rfl⟩ ?_
 rintro ah G w1 ⟨i,a,I,dn,v,hi,C,hd,J,V,aI,aJ,aK,aL,aM,rfl⟩
 refine fx 0 aI (fx 3 aJ (fx 4 aK (fx 7 aL (fx 8 aM ?_))))
 have hdl:dn.length≤l.length+1:=by have h1:=congrArg List.length hd; have h2:=od l []; rw [List.length_append] at h1; omega
 refine U (fun _ ar=>(p (lt rfl rfl) (ag ((ar _ _ (sq (fun _ av=>cd rfl (fun aF=> ?_) (fun aF=> ?_))))))))
 refine au (tn (av _ _ (sq (fun _ j=>az (U (fun _ Y=>(ab (.int .i64 i) (p (bG (.int .i64 i) rfl) ?_))))))))
 refine ag ((Y _ _ (az (U (fun _ E=>(ab (str l) (ab (.int .i64 i) (p (dA u9 rfl rfl (by omega)) ?_))))))))
 refine e (cl sD (tF (l.getD i 0) _) rfl fun aY w15 hR15=> ?_)
 obtain ⟨rfl,ai⟩:=hR15
 have hE15x:Wk w w15:=Md.trans J ai
 have hsz15:=hE15x.size
 have ho15:=aE V ai
 refine p mv (gb (t:=16) rfl (fun s=> ?_) (fun s=> ?_))
 refine pg rfl rfl rfl (aB (.int .i64 a) rfl) (pg rfl rfl rfl (ge rfl rfl) (p (bf rfl) (ae (((E _ _ (cd rfl (fun aC=> ?_) (fun aC=> ?_))))))))
 obtain ⟨aA,hp2,ac⟩:=C.pos (by omega)
 refine U (fun _ A=>(ab (v) (ab (str l) (ab (.int .i64 a) (ab (.int .i64 i) (p (iN u9 rfl rfl rfl (by omega)) (e (ea dU rfl rfl fun aP w25 aR M aw=> ?_))))))))
 refine e (ap dU (aE ho15 M.md) rfl (by have :=M.size; omega) rfl (ak.cQ aw) (rfl) (rfl) (by omega) (by omega) fun aN w26 aG ay aW aT=> ?_)
 have hE26:=Wk.own (Md.trans hE15x M.md) (aE ho15 M.md) ay (Nat.le_refl _)
 have ho26x:=ji aG
 refine ae (((A _ _ (rg rfl (p aj (nl (bn (bn ?_))))))))
 exact tn (j _ _ (rg rfl (p (ad rfl rfl (bp (by omega))) (p mv (ag ((⟨_,by omega,i+1,-1,[],dn++ [(l.take i).drop a.toNat],aN,(by omega),gV.no,((by rw [drop_cons 0 (by omega),y3 s ac,hp2] at hd; rw [List.append_assoc]; exact hd)),hE26,ho26x,rfl,rfl,rfl,rfl,rfl,rfl⟩)))))))
 refine U (fun _ A=>(ab (str l) (ab (.int .i64 i) (p (dA u9 rfl rfl (by omega)) (e (cl sD (tF (l.getD i 0) _) rfl fun aO w31 Z=> ?_))))))
 obtain ⟨rfl,hE31⟩:=Z
 have hE31x:Wk w w31:=Md.trans hE15x hE31
 have ho31:=aE ho15 hE31
 refine p (no rfl) (p mv (gb (t:=33) rfl (fun q=> ?_) (fun q=> ?_)))
 refine pg rfl rfl rfl (aB (.int .i64 a) rfl) (pg rfl rfl rfl (lt rfl rfl) (p (bf rfl) (ae (((A _ _ (cd rfl (fun aa=> ?_) (fun aa=> ?_))))))))
 refine rg rfl (ab (.int .i64 i) (p (bG (.int .i64 i) rfl) (nl (bn (bn (tn (j _ _ (rg rfl ?_))))))))
 refine p (ad rfl rfl (bp (by omega))) (p mv (nl (tn ?_)))
 rw [s] at q; cases q
 refine au (bn (bn (tn (j _ _ (rg rfl (p (ad rfl rfl (bp (by omega))) (p mv (nl ?_))))))))
 refine tn ?_
 rw [s] at q; cases q
 refine sk rfl rfl rfl rfl (sk rfl rfl rfl rfl (p (a4 rfl) (ae (((A _ _ (cf rfl (au ?_))))))))
 refine bn (bn (tn (j _ _ (rg rfl (p (ad rfl rfl (bp (by omega))) (p mv (nl (tn ?_))))))))
 exact ⟨_,by omega,i+1,a,I,dn,v,(by omega),((by obtain ⟨h1,h2⟩:=C.neg (by omega); subst h1 h2; exact gV.no)),((by obtain ⟨h1,h2⟩:=C.neg (by omega); subst h2; rw [drop_cons 0 (by omega),ql s] at hd; exact hd)),hE31x,ho31,rfl,rfl,rfl,rfl,rfl,rfl⟩
 refine sk rfl rfl rfl rfl (sk rfl rfl rfl rfl (p (a4 rfl) (ae (((E _ _ (cf rfl (sq (fun _ A=> ?_)))))))))
 refine rg rfl (ab (str l) (ab (.int .i64 i) (p (dA u9 rfl rfl (by omega)) (e (cl sD (tF (l.getD i 0) _) rfl fun aO w31 Z=> ?_)))))
 obtain ⟨rfl,hE31⟩:=Z
 have hE31x:Wk w w31:=Md.trans hE15x hE31
 have ho31:=aE ho15 hE31
 refine p (no rfl) (p mv (gb (t:=33) rfl (fun q=> ?_) (fun q=> ?_)))
 refine pg rfl rfl rfl (aB (.int .i64 a) rfl) (pg rfl rfl rfl (lt rfl rfl) (p (bf rfl) (ae (((A _ _ (cd rfl (fun aa=> ?_) (fun aa=> ?_))))))))
 refine rg rfl (ab (.int .i64 i) (p (bG (.int .i64 i) rfl) (nl (bn (bn (tn (j _ _ (rg rfl ?_))))))))
 exact p (ad rfl rfl (bp (by omega))) (p mv (ag ((⟨_,by omega,i+1,i,[l.getD i 0],dn,v,(by omega),(gV.begin (by omega)),((by obtain ⟨h1,h2⟩:=C.neg (by omega); subst h2; rw [drop_cons 0 (by omega),tj s] at hd; exact hd)),hE31x,ho31,rfl,rfl,rfl,rfl,rfl,rfl⟩))))
 refine au (bn (bn (tn (j _ _ (rg rfl (p (ad rfl rfl (bp (by omega))) (p mv (nl ?_))))))))
 exact tn (⟨_,by omega,i+1,a,I++ [l.getD i 0],dn,v,(by omega),(C.more (by omega) (by omega)),((by rw [drop_cons 0 (by omega),tj s] at hd; exact hd)),hE31x,ho31,rfl,rfl,rfl,rfl,rfl,rfl⟩)
 refine sk rfl rfl rfl rfl (sk rfl rfl rfl rfl (p (a4 rfl) (ae (((A _ _ (cf rfl (au ?_))))))))
 refine bn (bn (tn (j _ _ (rg rfl (p (ad rfl rfl (bp (by omega))) (p mv (nl (tn ?_))))))))
 rw [s] at q; cases q
 refine ext (te _ (te _ (be (tn (ao _ _ (sq (fun _ j=>U (fun _ Y=> ?_))))))))
 refine ab (.int .i64 a) (p (ge rfl rfl) (ag ((Y _ _ (cd rfl (fun aD=> ?_) (fun aD=> ?_))))))
 obtain ⟨aA,hp2,ac⟩:=C.pos (by omega)
 refine rg rfl (ab (v) (ab (str l) (ab (.int .i64 a) (p (kB u9 rfl rfl (by omega)) (e (ea dU rfl rfl fun aQ w45 aS O ax=>e (ap dU (aE V O.md) rfl (by have :=O.size; have :=J.size; omega) rfl (ak.cQ ax) (rfl) (rfl) (by omega) (by omega) fun aZ w46 aH hM46 aX aV=> ?_)))))))
 have hE46:=Wk.own (Md.trans J O.md) (aE V O.md) hM46 (Nat.le_refl _)
 have ho46x:=ji aH
 refine ae (((j _ _ (U (fun _ E=>(p mv (p aj (nl ?_))))))))
 refine tn (E _ _ (rt (f1 rfl rfl ?_)))
 have hd2:dn++ [l.drop a.toNat]=(bB [] l):=by rw [← hd,show l.drop i= [] from List.drop_eq_nil_of_le (by omega),y4 ac,hp2,List.take_of_length_le (by omega)]
 exact ⟨by rw [← hd2]; exact ho46x,hE46⟩
 obtain ⟨aA,hp2⟩:=C.neg (by omega)
 refine au (tn (j _ _ (U (fun _ E=>(ab (v) (p (bG (v) rfl) (ag ((E _ _ ?_)))))))))
 refine rt (f1 rfl rfl ?_)
 have hd2:dn=(bB [] l):=by rw [← hd,List.drop_eq_nil_of_le (by omega),hp2,tk,List.append_nil]
 exact ⟨by rw [← hd2]; exact V,J⟩
theorem Ko (l:List UInt8) (w:World) (hl:l.length≤1048576):
 aU Tryz.prog 50 (List.toArray [str l]) w (fun v w'=>World.ownsRow w' w.heap.size 9 1 v ((bB [] l)).length (((bB [] l)).map str)∧Wk w w'):=by
 refine enter Tryz.func50 rfl Tryz.ntmps50 rfl ?_
 refine U (fun _ aw=>(ae (((aw _ _ (U (fun _ ay=>(p aj ?_))))))))
 refine ag ((ay _ _ (U (fun _ aA=>(ae (((aA _ _ (sq (fun _ aC=> ?_))))))))))
 refine az (lp (fun G Z wI=> ∃ (i:Nat) (dn:List (List UInt8)) (v:Value),(i≤l.length)∧(dn++bB [] (l.drop i)=(bB [] l))∧(Wk w wI)∧(World.ownsRow wI w.heap.size 9 1 v (dn).length ((dn).map str))∧(Z 0=str l)∧(Z 3=v)∧(Z 4= .int .i64 i)∧(l.length - i=G)) _ ⟨0,[],.slice none 0 0,(by omega),rfl,(Md.refl _ _),(World.ownsRow_nil _ _ _ _),rfl,rfl,rfl,rfl⟩ ?_)
 rintro G Z wI ⟨i,dn,v,hi,hd,q,s,aN,aO,aP,rfl⟩
 refine fx 0 aN (fx 3 aO (fx 4 aP ?_))
 have hdl:dn.length≤l.length+1:=by have h1:=congrArg List.length hd; have h2:=od l []; rw [List.length_append] at h1; omega
 refine sq (fun _ aD=>U (fun _ aF=>(ab (.int .i64 i) (ab (str l) (p (bI u9 rfl rfl) (p (lt rfl rfl) (nl ?_)))))))
 refine tn (aF _ _ (cd rfl (fun aJ=> ?_) (fun aJ=> ?_)))
 refine au (tn (aD _ _ (az (sq (fun _ ah=>U (fun _ al=>(ab (str l) (ab (.int .i64 i) ?_))))))))
 refine p (dA u9 rfl rfl (by omega)) (p (a8 rfl rfl) (p mv (gs (t:=14) rfl (fun aK=> ?_) (fun aK=> ?_))))
 refine sk rfl rfl rfl rfl (sk rfl rfl rfl rfl (sk rfl rfl rfl rfl (sk rfl rfl rfl rfl (p (bf rfl) (ag ((al _ _ (ct rfl ?_))))))))
 refine U (fun _ E=>(ab (.int .i64 i) (p (ad rfl rfl (bp (by omega))) (ae (((E _ _ (ext ?_))))))))
 exact te _ (be (tn (⟨_,by omega,i+1,dn,v,(by omega),((by rw [drop_cons 0 (by omega),ql (by rw [lQ]; exact decide_eq_true (.inl (by omega)))] at hd; exact hd)),q,s,rfl,rfl,rfl,rfl⟩)))
 refine pg rfl rfl rfl (aB (str l) rfl) (pg rfl rfl rfl (aB (.int .i64 i) rfl) (pg rfl rfl rfl (dA u9 rfl rfl (by omega)) (pg rfl rfl rfl (a8 rfl rfl) (p (a4 rfl) (ag ((al _ _ (cd rfl (fun aH=> ?_) (fun aH=> ?_)))))))))
 refine U (fun _ E=>(ab (.int .i64 i) (p (ad rfl rfl (bp (by omega))) (ae (((E _ _ (ext ?_))))))))
 exact te _ (be (tn (⟨_,by omega,i+1,dn,v,(by omega),((by rw [drop_cons 0 (by omega),ql (by rw [lQ]; exact decide_eq_true (.inr (by omega)))] at hd; exact hd)),q,s,rfl,rfl,rfl,rfl⟩)))
 have ai:jw (l.getD i 0)=false :=by rw [lQ]; exact decide_eq_false (by omega)
 refine au (tn (ah _ _ (U (fun _ E=>(ab (.int .i64 i) (p (bG (.int .i64 i) rfl) (ag ((E _ _ ?_)))))))))
 refine sq (fun _ aa=>az (lp (fun G Y av=> ∃ (j:Nat),(i≤j∧j≤l.length)∧(av=wI)∧(dn++bB ((l.take j).drop i) (l.drop j)=(bB [] l))∧(Y 0=str l)∧(Y 3=v)∧(Y 4= .int .i64 i)∧(Y 5= .int .i64 j)∧(l.length - j=G)) _ ⟨i,(by omega),rfl,((by rw [List.drop_eq_nil_of_le (by rw [List.length_take]; omega)]; exact hd)),rfl,rfl,rfl,rfl,rfl⟩ ?_))
 rintro G Y av ⟨j,hj,aG,hd2,aQ,aR,aS,aT,rfl⟩
 refine fx 0 aQ (fx 3 aR (fx 4 aS (fx 5 aT ?_)))
 subst aG
 refine sq (fun _ ax=>U (fun _ ac=>(ab (.int .i64 j) (ab (str l) (p (bI u9 rfl rfl) (p (lt rfl rfl) (p mv ?_)))))))
 refine gs (t:=27) rfl (fun aL=> ?_) (fun aL=> ?_)
 refine pg rfl rfl rfl (aB (str l) rfl) (pg rfl rfl rfl (aB (.int .i64 j) rfl) (pg rfl rfl rfl (dA u9 rfl rfl (by omega)) (pg rfl rfl rfl (bP rfl rfl) (p (bf rfl) (p mv (gs (t:=33) rfl (fun aM=> ?_) (fun aM=> ?_)))))))
 refine pg rfl rfl rfl (aB (str l) rfl) (pg rfl rfl rfl (aB (.int .i64 j) rfl) (pg rfl rfl rfl (dA u9 rfl rfl (by omega)) (pg rfl rfl rfl (bP rfl rfl) (p (bf rfl) (ag ((ac _ _ (cd rfl (fun aI=> ?_) (fun aI=> ?_)))))))))
 refine au (tn (ax _ _ (az (rg rfl (ab (.int .i64 j) (p (ad rfl rfl (bp (by omega))) (p aj (nl ?_))))))))
 exact bn (tn (⟨_,by omega,j+1,(by omega),rfl,((by rw [drop_cons (l:=l) (i:=j) 0 (by omega),tj (by rw [lQ]; exact decide_eq_false (by omega)),← oL 0 (by omega) (by omega)] at hd2; exact hd2)),rfl,rfl,rfl,rfl,rfl⟩))
 have A:l.length≤j∨jw (l.getD j 0)=true := .inr (by rw [lQ]; exact decide_eq_true (.inr (by omega)))
 have M:¬j=i:=by
  rintro rfl
  rcases A with h | h
  omega
  rw [ai] at h; cases h
 have hne:(l.take j).drop i≠[]:=fun h0=>M (by have h1:=congrArg List.length h0; simp only [List.length_drop,List.length_take,List.length_nil] at h1; omega)
 rw [th (i:=j) hne A] at hd2
 refine ext (te _ (te _ (be (tn (aa _ _ (U (fun _ C=>(ab (v) ?_))))))))
 refine ab (str l) (ab (.int .i64 i) (ab (.int .i64 j) (p (iN u9 rfl rfl rfl (by omega)) (e (ea dU rfl rfl fun am w46 an a I=>e (ap dU (aE s a.md) rfl (by have :=a.size; have :=q.size; omega) rfl (ak.cQ I) (rfl) (rfl) (by omega) (by omega) fun V ar O J aq ao=> ?_))))))
 have hE47:=Wk.own (Md.trans q a.md) (aE s a.md) J (Nat.le_refl _)
 have ho47x:=ji O
 refine ae (((C _ _ (rg rfl (ab (.int .i64 j) (p (bG (.int .i64 j) rfl) (nl (bn ?_))))))))
 exact tn (⟨_,by omega,j,dn++ [(l.take j).drop i],V,(by omega),((by rw [List.append_assoc]; exact hd2)),hE47,ho47x,rfl,rfl,rfl,rfl⟩)
 have A:l.length≤j∨jw (l.getD j 0)=true := .inr (by rw [lQ]; exact decide_eq_true (.inl (by omega)))
 have M:¬j=i:=by
  rintro rfl
  rcases A with h | h
  omega
  rw [ai] at h; cases h
 have hne:(l.take j).drop i≠[]:=fun h0=>M (by have h1:=congrArg List.length h0; simp only [List.length_drop,List.length_take,List.length_nil] at h1; omega)
 rw [th (i:=j) hne A] at hd2
 refine sk rfl rfl rfl rfl (sk rfl rfl rfl rfl (sk rfl rfl rfl rfl (sk rfl rfl rfl rfl (p (a4 rfl) (ag ((ac _ _ (cf rfl ?_))))))))
 refine ext (te _ (te _ (be (tn (aa _ _ (U (fun _ C=>(ab (v) ?_))))))))
 refine ab (str l) (ab (.int .i64 i) (ab (.int .i64 j) (p (iN u9 rfl rfl rfl (by omega)) (e (ea dU rfl rfl fun am w46 an a I=>e (ap dU (aE s a.md) rfl (by have :=a.size; have :=q.size; omega) rfl (ak.cQ I) (rfl) (rfl) (by omega) (by omega) fun V ar O J aq ao=> ?_))))))
 have hE47:=Wk.own (Md.trans q a.md) (aE s a.md) J (Nat.le_refl _)
 have ho47x:=ji O
 refine ae (((C _ _ (rg rfl (ab (.int .i64 j) (p (bG (.int .i64 j) rfl) (nl (bn ?_))))))))
 exact tn (⟨_,by omega,j,dn++ [(l.take j).drop i],V,(by omega),((by rw [List.append_assoc]; exact hd2)),hE47,ho47x,rfl,rfl,rfl,rfl⟩)
 have A:l.length≤j∨jw (l.getD j 0)=true := .inl (by omega)
 have M:¬j=i:=by
  rintro rfl
  rcases A with h | h
  omega
  rw [ai] at h; cases h
 have hne:(l.take j).drop i≠[]:=fun h0=>M (by have h1:=congrArg List.length h0; simp only [List.length_drop,List.length_take,List.length_nil] at h1; omega)
 rw [th (i:=j) hne A] at hd2
 refine sk rfl rfl rfl rfl (sk rfl rfl rfl rfl (sk rfl rfl rfl rfl (sk rfl rfl rfl rfl (p (a4 rfl) (p mv (sk rfl rfl rfl rfl (sk rfl rfl rfl rfl ?_)))))))
 refine sk rfl rfl rfl rfl (sk rfl rfl rfl rfl (p (a4 rfl) (ag ((ac _ _ (cf rfl (ext (te _ ?_))))))))
 refine te _ (be (tn (aa _ _ (U (fun _ C=>(ab (v) (ab (str l) (ab (.int .i64 i) ?_))))))))
 refine ab (.int .i64 j) (p (iN u9 rfl rfl rfl (by omega)) (e (ea dU rfl rfl fun am w46 an a I=>e (ap dU (aE s a.md) rfl (by have :=a.size; have :=q.size; omega) rfl (ak.cQ I) (rfl) (rfl) (by omega) (by omega) fun V ar O J aq ao=> ?_))))
 have hE47:=Wk.own (Md.trans q a.md) (aE s a.md) J (Nat.le_refl _)
 have ho47x:=ji O
 refine ae (((C _ _ (rg rfl (ab (.int .i64 j) (p (bG (.int .i64 j) rfl) (nl (bn ?_))))))))
 exact tn (⟨_,by omega,j,dn++ [(l.take j).drop i],V,(by omega),((by rw [List.append_assoc]; exact hd2)),hE47,ho47x,rfl,rfl,rfl,rfl⟩)
 refine ext (te _ (te _ (be (tn (aC _ _ (U (fun _ ah=>(ab (v) ?_))))))))
 refine p (bG (v) rfl) (ag ((ah _ _ (rt (f1 rfl rfl ?_)))))
 have hd2:dn=(bB [] l):=by rw [← hd,List.drop_eq_nil_of_le (by omega),tk,List.append_nil]
 exact ⟨by rw [← hd2]; exact s,q⟩
theorem I1 (s:List UInt8) (w:World):
 aU Tryz.prog 23 (List.toArray [str s]) w (fun v w'=>v= .bool (np s)∧Wk w w'):=by
 refine enter Tryz.func23 rfl Tryz.ntmps23 rfl ?_
 refine U (fun _ i=>(ae (((i _ _ (U (fun _ a=>(ab (str s) ?_))))))))
 refine p (bI u9 rfl rfl) (p (ge rfl rfl) (p mv (gs (t:=6) rfl (fun hg6=> ?_) (fun hg6=> ?_))))
 refine pg rfl rfl rfl (aB (str s) rfl) (pg rfl rfl rfl (fz 0 u9 rfl rfl (by omega)) (pg rfl rfl rfl (a8 rfl rfl) (p (bf rfl) (p mv (gs (t:=11) rfl (fun hg11=> ?_) (fun hg11=> ?_))))))
 refine pg rfl rfl rfl (aB (str s) rfl) (pg rfl rfl rfl (fz 1 u9 rfl rfl (by omega)) (pg rfl rfl rfl (a8 rfl rfl) (p (bf rfl) (p mv (gs (t:=16) rfl (fun j=> ?_) (fun j=> ?_))))))
 refine pg rfl rfl rfl (aB (str s) rfl) (pg rfl rfl rfl (fz 2 u9 rfl rfl (by omega)) (pg rfl rfl rfl (a8 rfl rfl) (p (bf rfl) (ae (((a _ _ (rt ?_))))))))
 exact f1 rfl rfl (⟨by show Value.bool (decide (((s.getD 2 0).toNat:Int)=191))=_; rw [qN]; exact congrArg Value.bool (decide_eq_decide.2 (by omega)),Md.refl _ _⟩)
 refine sk rfl rfl rfl rfl (sk rfl rfl rfl rfl (sk rfl rfl rfl rfl (p (a4 rfl) (ae (((a _ _ (rt ?_))))))))
 exact f1 rfl rfl (⟨by show Value.bool false =_; rw [qN,decide_eq_false (by omega)],Md.refl _ _⟩)
 refine sk rfl rfl rfl rfl (sk rfl rfl rfl rfl (sk rfl rfl rfl rfl (p (a4 rfl) (p mv (sk rfl rfl rfl rfl (sk rfl rfl rfl rfl (sk rfl rfl rfl rfl ?_)))))))
 exact p (a4 rfl) (ae (((a _ _ (rt (f1 rfl rfl (⟨by show Value.bool false =_; rw [qN,decide_eq_false (by omega)],Md.refl _ _⟩)))))))
 refine sk rfl rfl rfl rfl (sk rfl rfl rfl rfl (sk rfl rfl rfl rfl (p (a4 rfl) (p mv (sk rfl rfl rfl rfl (sk rfl rfl rfl rfl (sk rfl rfl rfl rfl ?_)))))))
 refine p (a4 rfl) (p mv (sk rfl rfl rfl rfl (sk rfl rfl rfl rfl (sk rfl rfl rfl rfl (p (a4 rfl) (p aj (nl ?_)))))))
 exact tn (a _ _ (rt (f1 rfl rfl (⟨by show Value.bool false =_; rw [qN,decide_eq_false (by omega)],Md.refl _ _⟩))))
theorem yw (l:List UInt8) (a:Option Addr) (c:Nat) (w:World) (hC:ak w.heap a (U8 l)) (hl:l.length≤1048576) (hc:l.length≤c):
 aU Tryz.prog 77 (List.toArray [.slice a l.length c]) w (fun v w'=>v=str (fX l)∧Wk w w'):=by
 refine enter Tryz.func77 rfl Tryz.ntmps77 rfl ?_
 refine U (fun _ s=>(ae (((s _ _ (U (fun _ A=>(ab (.slice a l.length c) ?_))))))))
 refine p (ba jn rfl rfl) (ae (((A _ _ (sq (fun _ j=>U (fun _ q=>(p mv ?_))))))))
 refine p (gt rfl rfl) (p mv (gs (t:=8) rfl (fun hg8=> ?_) (fun hg8=> ?_)))
 refine pg rfl rfl rfl (aB (.slice a l.length c) rfl) (pg rfl rfl rfl mv (pg rfl rfl rfl (sb rfl rfl (bp (by omega))) (pg rfl rfl rfl (aJ iK rfl rfl (by omega) (ak.ok (hC) (lh (by omega)))) (pg rfl rfl rfl (ld kQ rfl ((show _=some (Value.int .u8 (l.getD (l.length - 1) 0).toNat) from by rw [show ((l.length:Int) - 1).toNat=l.length - 1 from by omega]; exact lg hC (by omega)))) (pg rfl rfl rfl (a8 rfl rfl) (p (bf rfl) (nl ?_)))))))
 refine tn (q _ _ (cd rfl (fun hc15=> ?_) (fun hc15=> ?_)))
 refine U (fun _ i=>(ab (.slice a l.length c) (p mv (p (sb rfl rfl (bp (by omega))) (p (oM iK rfl rfl (by omega)) (p (jt jq rfl (LO hC ((l.length:Int) - 1).toNat) (by rw [List.length_take]; omega)) (p aj ?_)))))))
 exact ag ((i _ _ (rt (tr (f1 rfl rfl (⟨by show str (l.take ((l.length:Int) - 1).toNat)=_; rw [yv (by omega) (Il (by omega)),show ((l.length:Int) - 1).toNat=l.length - 1 from by omega],Md.refl _ _⟩))))))
 refine au (tn (j _ _ (U (fun _ i=>(ab (.slice a l.length c) (p (jt jq rfl (hC) (rfl)) (p aj (nl ?_))))))))
 exact tn (i _ _ (rt (f1 rfl rfl (⟨by show str l=_; rw [sX (fun h=>Jr (by omega) h.2)],Md.refl _ _⟩))))
 refine sk rfl rfl rfl rfl (sk rfl rfl rfl rfl (sk rfl rfl rfl rfl (sk rfl rfl rfl rfl (sk rfl rfl rfl rfl (sk rfl rfl rfl rfl (p (a4 rfl) (nl ?_)))))))
 refine tn (q _ _ (cf rfl (au (tn (j _ _ (U (fun _ i=>(ab (.slice a l.length c) (p (jt jq rfl (hC) (rfl)) ?_)))))))))
 exact ae (((i _ _ (rt (f1 rfl rfl (⟨by show str l=_; rw [sX (by omega)],Md.refl _ _⟩))))))
end Go.Hb.gl
end
section
set_option maxRecDepth 20000
set_option maxHeartbeats 1000000
namespace Go.Hb.fE
open Go.Hb.di
open Go.Proofs
open Go.Hb.eS Go.Hb.kg Go.Hb.gA Go.Hb.lz Go.Hb.gW Go.Hb.gl Go.Hb.fQ
theorem HZ {l:List Tx} {x:Tx} :∀ {i:Nat},i < l.length→(∀ j,j < i→l.getD j []≠x)→l.getD i []=x→l.idxOf x=i:=by
 induction l with
 | nil=>intro i h; simp at h
 | cons a l ih=>
   intro i hi q p
   cases i with
   | zero=>simp only [List.getD_cons_zero] at p; rw [p,List.idxOf_cons_self]
   | succ i=>
     have h0:=q 0 (by omega)
     simp only [List.getD_cons_zero] at h0
     rw [List.idxOf_cons,show (a==x)=false from by simpa using h0,cond_false,ih (i:=i) (by simpa using hi) (fun j hj=>by have :=q (j+1) (by omega); simpa using this) (by simpa using p)]
theorem Gm {a b:List Tx} (h:a.length≠b.length):a≠b:=fun h2=>h (by rw [h2])
theorem Hf {a b:List Tx} {i:Nat} (h:a.getD i []≠b.getD i []):a≠b:=fun h2=>h (by rw [h2])
theorem Hd {a b:List Tx} (hl:a.length=b.length) (h:∀ i,i < a.length→a.getD i []=b.getD i []):a=b:=by
 apply List.ext_getElem hl
 intro i h1 h2
 have :=h i h1
 rw [List.getD_eq_getElem?_getD,List.getD_eq_getElem?_getD,List.getElem?_eq_getElem h1,List.getElem?_eq_getElem h2] at this
 exact this
theorem Lx {s:Tx} {i:Nat} (h:i < s.length):(s.drop i).take 1= [s.getD i 0]:=by
 rw [drop_cons 0 h]; rfl
theorem BX (b:UInt8):lk [b]=fj b:=by
 unfold lk eh
 cases h:fj b <;> simp [h]
theorem Bl {s:Tx} {i:Nat} (h:i < s.length):(s.take (i+1)).drop i= [s.getD i 0]:=by
 rw [List.drop_take,show i+1 - i=1 from by omega,Lx h]
theorem qi {s:Tx} (h:s= []∨eh s=false):eX s=21:=if_pos h
theorem yQ {s:Tx} (h:s≠[]) (h1:eh s=true) (h2:32 < s.length):eX s=22:=by unfold eX; rw [if_neg (by rw [h1]; simp [h]),if_pos h2]
theorem yR {s:Tx} (h:s≠[]) (h1:eh s=true) (h2:¬32 < s.length):eX s=0:=by unfold eX; rw [if_neg (by rw [h1]; simp [h]),if_neg h2]
theorem AI {s:Tx} (h:s= [48]):dq true s= .ok []:=by unfold dq; rw [if_pos ⟨rfl,h⟩]
theorem uD {s:Tx} (h:s≠[48]):dq true s=dq false s:=by unfold dq; simp [h]
theorem uz {s:Tx} (h:(aV s).2.2.2≠0):dq false s= .error (aV s).2.2.2:=by unfold dq; rw [if_neg (fun h2=>by cases h2.1),if_pos h]
theorem uA {s:Tx} (h:(aV s).2.2.2=0) (h1:(aV s).2.2.1=true):dq false s= .error 114:=by unfold dq; rw [if_neg (fun h2=>by cases h2.1),if_neg (fun h2=>h2 h),if_pos h1]
theorem uB {s:Tx} (h:(aV s).2.2.2=0) (h1:(aV s).2.2.1=false) (h2:eX (aV s).1≠0):dq false s= .error (eX (aV s).1):=by unfold dq; rw [if_neg (fun h2=>by cases h2.1),if_neg (fun h2=>h2 h),if_neg (by rw [h1]; simp),if_pos h2]
theorem uC {s:Tx} (h:(aV s).2.2.2=0) (h1:(aV s).2.2.1=false) (h2:eX (aV s).1=0):dq false s= .ok (aV s).1:=by unfold dq; rw [if_neg (fun h2=>by cases h2.1),if_neg (fun h2=>h2 h),if_neg (by rw [h1]; simp),if_neg (fun h3=>h3 h2)]
theorem j4 {s:Tx} {most:Int} (h:(cH s most).2=0):dy s most= .ok (cH s most).1:=by unfold dy; rw [if_neg (fun h2=>h2 h)]
theorem k8 {s:Tx} {most:Int} (h:(cH s most).2≠0):dy s most= .error 13∧(cH s most).2=13:=by
 refine ⟨by unfold dy; rw [if_pos h],?_⟩
 rcases Aq s most with h1 | ⟨h1,_⟩
 · rw [h1]
 · rw [h1] at h; exact absurd rfl h
theorem zS (l:List Tx) (a:Option Addr) (c:Nat) (x:Tx) (w:World) (hC:bh w.heap a l) (ap:l.length≤1048576):
 aU Tryz.prog 93 (List.toArray [.slice a l.length c,str x]) w (fun v w'=>v= .int .i64 (if x∈l then (l.idxOf x:Nat) else -1:Int)∧w'=w):=by
 refine enter Tryz.func93 rfl Tryz.ntmps93 rfl ?_
 refine U (fun _ G=>(ae (((G _ _ (sq (fun _ I=>U (fun _ J=> ?_))))))))
 refine ab (.slice a l.length c) (p (ba c9 rfl rfl) (p mv (ag ((J _ _ (az (lp (fun E q wI=> ∃ (i:Nat),(i≤l.length)∧(∀ j,j < i→l.getD j []≠x)∧(wI=w)∧(q 0= .slice a l.length c)∧(q 1=str x)∧(q 7=aa (l.length))∧(q 8=aa i)∧(l.length - i=E)) _ ⟨0,(by omega),((fun j hj=>by omega)),rfl,rfl,rfl,rfl,rfl,rfl⟩ ?_)))))))
 rintro E q wI ⟨i,hi,C,ac,ai,al,am,an,rfl⟩
 refine fx 0 ai (fx 1 al (fx 7 am (fx 8 an ?_)))
 subst ac
 refine U (fun _ M=>(p (lt rfl rfl) (ag ((M _ _ (sq (fun _ O=>cd rfl (fun ah=> ?_) (fun ah=> ?_))))))))
 refine au (tn (O _ _ (sq (fun _ A=>az (U (fun _ V=>(ab (aa i) (p (bG (aa i) rfl) ?_))))))))
 refine ag ((V _ _ (U (fun _ Y=>(ab (str x) (ab (.slice a l.length c) (ab (aa i) (p (aJ bA rfl rfl (by omega) (ak.ok (hC) (bl (by omega)))) ?_))))))))
 refine p (ld bw rfl (bh.get (i:=i) hC (by omega))) (p (cG rfl rfl) (ag ((Y _ _ (cd rfl (fun s=> ?_) (fun s=> ?_))))))
 refine U (fun _ Z=>(ab (aa i) (p (bG (aa i) rfl) (ag ((Z _ _ (rt (br ?_))))))))
 exact tr (tr (br (tr (f1 rfl rfl (⟨by rw [if_pos (by rw [s]; exact c6 (by omega)),HZ (by omega) C s.symm]; rfl,rfl⟩)))))
 refine au (bn (tn (A _ _ (rg rfl (p (ad rfl rfl (bp (by omega))) (p mv (nl (tn ?_))))))))
 exact ⟨_,by omega,i+1,(by omega),((fun j hj=>by rcases Nat.lt_or_ge j i with h | h <;> first | exact C j h | (rw [show j=i by omega]; exact fun h2=>s h2.symm))),rfl,rfl,rfl,rfl,rfl,rfl⟩
 refine ext (te _ (te _ (be (tn (I _ _ (U (fun _ A=>(p aj ?_))))))))
 exact ag ((A _ _ (rt (f1 rfl rfl (⟨by rw [if_neg (fun h=>by obtain ⟨j,hj,ao⟩:=k5 [] h; exact C j (by omega) ao)]; rfl,rfl⟩)))))
theorem Gn (l m:List Tx) (s C:Nat) (a b:Option Addr) (c d:Nat) (w:World) (hC:bh w.heap a l) (V:bh w.heap b m) (hnl:l.length=s) (aD:m.length=C) (aB:s≤1048576):
 aU Tryz.prog 115 (List.toArray [.slice a s c,.slice b C d]) w (fun v w'=>v= .bool (decide (l=m))∧Wk w w'):=by
 refine enter Tryz.func115 rfl Tryz.ntmps115 rfl ?_
 refine U (fun _ Z=>(ae (((Z _ _ (sq (fun _ ai=>U (fun _ al=> ?_))))))))
 refine ab (.slice a s c) (p (ba c9 rfl rfl) (ab (.slice b C d) (p (ba c9 rfl rfl) (p (bP rfl rfl) (ag ((al _ _ (cd rfl (fun hc10=> ?_) (fun hc10=> ?_)))))))))
 refine U (fun _ G=>(ae (((G _ _ (rt (tr (f1 rfl rfl ?_))))))))
 exact ⟨by show Value.bool false =_; rw [decide_eq_false (Gm (by omega))],Md.refl _ _⟩
 have ar:l.length=m.length:=by omega
 refine au (tn (ai _ _ (sq (fun _ G=>U (fun _ am=>(ab (.slice a s c) (p (ba c9 rfl rfl) (p mv ?_))))))))
 refine ag ((am _ _ (az (lp (fun O E wI=> ∃ (i:Nat),(i≤s)∧(∀ j,j < i→l.getD j []=m.getD j [])∧(Wk w wI)∧(E 0= .slice a s c)∧(E 1= .slice b C d)∧(E 12=aa s)∧(E 13=aa i)∧(s - i=O)) _ ⟨0,(by omega),((fun j hj=>by omega)),(Md.refl _ _),rfl,rfl,rfl,rfl,rfl⟩ ?_))))
 rintro O E wI ⟨i,hi,Y,A,av,aw,ax,ay,rfl⟩
 refine fx 0 av (fx 1 aw (fx 12 ax (fx 13 ay (U (fun _ an=>(p (lt rfl rfl) (ag ((an _ _ (sq (fun _ ao=>cd rfl (fun aq=> ?_) (fun aq=> ?_))))))))))))
 refine au (tn (ao _ _ (sq (fun _ I=>az (U (fun _ ap=>(ab (aa i) (p (bG (aa i) rfl) ?_))))))))
 refine ag ((ap _ _ (sq (fun _ ac=> ?_))))
 have q:(fun w'=>Wk wI w') wI.drew:=(Md.refl _ _).drew
 refine bC (fun w'=>Wk wI w') rfl wide q (bo 0 rfl (.slice a s c) q (bo 1 rfl (aa i) q (aA 2 rfl (fun _ _=>aJ bA rfl rfl (by omega) (ak.ok (hC.wk A) (bl (by omega)))) q (aA 3 rfl (fun w' J=>ld bw rfl (Wk.aC J (bh.get (i:=i) (hC.wk A) (by omega)))) q (bo 4 rfl (.slice b C d) q (bo 5 rfl (aa i) q (aA 6 rfl (fun _ _=>aJ bA rfl rfl (by omega) (ak.ok (V.wk A) (bl (by omega)))) q ?_)))))))
 refine aA 7 rfl (fun w' J=>ld bw rfl (Wk.aC J (bh.get (i:=i) (V.wk A) (by omega)))) q (aA 8 rfl (fun _ _=>ky rfl rfl) q (hn (by kernel_rfl) (tn (ac _ _ (cd rfl (fun M=> ?_) (fun M=> ?_))))))
 refine U (fun _ ah=>(ae (((ah _ _ (rt (br (tr ?_))))))))
 exact tr (br (tr (f1 rfl rfl (⟨by show Value.bool false =_; rw [decide_eq_false (Hf M)],A.drew⟩))))
 refine au (bn (tn (I _ _ (rg rfl (p (ad rfl rfl (bp (by omega))) (p mv (nl (tn ?_))))))))
 exact ⟨_,by omega,i+1,(by omega),((fun j hj=>by rcases Nat.lt_or_ge j i with h | h <;> first | exact Y j h | (rw [show j=i by omega]; exact Classical.not_not.1 M))),A.drew,rfl,rfl,rfl,rfl,rfl⟩
 refine ext (te _ (te _ (be (tn (G _ _ (U (fun _ I=>(p aj ?_))))))))
 exact ag ((I _ _ (rt (f1 rfl rfl (⟨by show Value.bool true =_; rw [decide_eq_true (Hd ar (fun j hj=>Y j (by omega)))],A⟩)))))
theorem ku (rb ln:Nat) (e:Int) (w:World) (hln:Hb.aC w.heap rb 2=some (.int .i64 (ln:Nat))):
 dN Tryz.prog 66 (List.toArray [.pointer (some ⟨rb,0,none⟩),.int .i64 e]) w (fun v w'=>v=Value.tuple #[]∧e=0∧w'=w) (fun c w'=>c=fJ 25 ln e∧e≠0∧w'=w):=by
 refine gr Tryz.func66 rfl Tryz.ntmps66 rfl ?_
 refine sq (fun i a=>rg rfl (p (aB (.int .i64 e) rfl) (p (bP rfl rfl) (nl (tn (a _ _ (cd rfl (fun hc5=> ?_) (fun hc5=> ?_))))))))
 refine rg rfl (p (aB (.pointer (some ⟨rb,0,none⟩)) rfl) (p (nc rfl) (p (fa oq rfl) (p (ld bQ rfl (hln)) (p (aB (.int .i64 e) rfl) (p (bY (ps:= [(0,.int .i64 1),(1,.int .i64 (ln:Nat)),(2,.int .i64 e)]) (L:= [.int .i64 1,.int .i64 (ln:Nat),.int .i64 e]) nA rfl (rfl)) (p (Jb ue rfl) ?_)))))))
 exact JV rfl (fun j hF=>⟨rfl,by omega,rfl⟩)
 refine au (fY ?_)
 refine f0 rfl ?_
 exact ⟨rfl,by omega,rfl⟩
theorem e4 (rb ln:Nat) (b:Bool) (e:Int) (w:World) (hln:Hb.aC w.heap rb 2=some (.int .i64 (ln:Nat))) (he:e≠0):
 dN Tryz.prog 34 (List.toArray [.pointer (some ⟨rb,0,none⟩),.bool b,.int .i64 e]) w (fun v w'=>v=Value.tuple #[]∧b=true∧w'=w) (fun c w'=>c=fJ 25 ln e∧b=false∧w'=w):=by
 refine gr Tryz.func34 rfl Tryz.ntmps34 rfl ?_
 refine sq (fun q j=>rg rfl (p (aB (.bool b) rfl) (p (no rfl) (nl (tn (j _ _ (cb rfl (fun a=> ?_) (fun a=> ?_))))))))
 refine rg rfl (p (aB (.pointer (some ⟨rb,0,none⟩)) rfl) (p (aB (.int .i64 e) rfl) (eP rfl (cj gZ (ku rb ln e w hln) rfl fun v10 w10 hR10=> ?_) (fun c w' i s hF=>⟨i.1,by simpa using a,i.2.2⟩))))
 exact absurd hR10.2.1 he
 refine au (fY ?_)
 refine f0 rfl ?_
 exact ⟨rfl,by simpa using a,rfl⟩
theorem BH (B:Nat) (H:bM) (F:aH) (R:eF) (n:Nat) (r:List Tx) (rest:List Rw) (ln:Nat) (seen:List Tx) (w:World) (j:bS w B H F R ((n,r)::rest) ln seen):
 aU Tryz.prog 33 (List.toArray [aG H.rb]) w (fun v w'=>(∃ R',bS w' B H F R' rest n seen)∧Tg w' B 9 r.length v (r.map str)∧Md (fun k=>k=H.rb) w w'):=by
 obtain ⟨vr,vs,vn⟩:=R
 obtain ⟨a,cp,hv⟩:=j.rws.slice
 obtain rfl :vr= .slice a (rest.length+1) cp:=hv
 obtain ⟨q,vs,rfl⟩:∃ q vs',vs=q::vs':=by
  cases vs with
  | nil=>exact absurd j.rt.1 (by simp)
  | cons q vs'=>exact ⟨q,vs',rfl⟩
 obtain ⟨q1,q2⟩:=q
 obtain ⟨hq1,hq2⟩:=j.rt.2 0 (q1,q2) (n,r) rfl rfl
 obtain rfl :q1=n:=hq1
 obtain ⟨Y,Z,rfl⟩:=hq2.slice
 have hrw:rest.length+1≤cp∧ak w.heap a (gJ ((q1,.slice Y r.length Z)::vs)):=j.rws.cells
 have hcl:=j.cells
 have hrl:H.rb < w.heap.size:=(Array.getElem?_eq_some_iff.1 hcl).1
 refine enter Tryz.func33 rfl Tryz.ntmps33 rfl ?_
 refine U (fun _ I=>(ae (((I _ _ (U (fun _ J=>(ab (aG H.rb) ?_))))))))
 refine p (nc rfl) (p (fa oo rfl) (p (ld mZ rfl ((aO hcl).trans rfl)) (p (aJ na rfl rfl (by omega) (ak.ok (hrw.2) (ir (by simp)))) (p (dx ph rfl (rfl) (iu (i:=0) hrw.2 rfl)) (e (al Cb fun am w3 an G ah=> ?_))))))
 have hcl3:=G.md.az hcl
 refine e (bX xX rfl rfl rfl rfl (ah) (by simp) fun wt1_7 A ac=> ?_)
 have hcl4:=A.az hcl3 (fun h=>by omega)
 refine ag ((J _ _ (U (fun _ M=>(ab (aG H.rb) (ab (aG H.rb) (p (nc rfl) (p (fa oo rfl) ?_))))))))
 refine p (ld mZ rfl ((aO hcl4).trans rfl)) (p (oN na rfl rfl (by omega)) (p (nc rfl) (p (fa oo rfl) (e (ca x6 rfl rfl (v:= .slice (ed a cp 1 2) rest.length (cp - 1)) rfl hcl4 (by show _ < 7; decide) fun w5 C ai=> ?_)))))
 have hb5:=C.B ac (fun h=>by omega)
 refine ag ((M _ _ (U (fun _ O=>(ab (aG H.rb) (p (fa qm rfl) (p (ld bQ rfl ((hb5.aC 0).trans rfl)) (p (nc rfl) ?_))))))))
 refine p (fa oq rfl) (e (ca fW rfl rfl (v:=aa q1) rfl ai (by show _ < 7; decide) fun w6 E hB6=> ?_))
 have hb6:=E.B hb5 (fun h=>by omega)
 refine ag ((O _ _ (U (fun _ V=>(p (fa oe rfl) (p (ld gd rfl ((hb6.aC 1).trans rfl)) (p aj (nl ?_))))))))
 refine tn (V _ _ (rt (f1 rfl rfl ?_)))
 have s:Md (fun k=>k=H.rb) w w6:=(((G.md.mono fun _ _ h=>h.elim).trans' A (fun k hk h=>by omega)).trans' C (fun _ _ h=>h)).trans' E (fun _ _ h=>h)
 exact ⟨⟨⟨.slice (ed a cp 1 2) rest.length (cp - 1),vs,vn⟩,j.cT (R':=⟨.slice (ed a cp 1 2) rest.length (cp - 1),vs,vn⟩) s hB6 rfl (j.rws.kV (m:=2) ((A7 _).trans (by have :=j.rt.1; simp at this; simp [this]))) (eI.tl j.rt)⟩,hq2.md s (dK hcl (by decide)),s⟩
theorem tS (B:Nat) (H:bM) (F:aH) (R:eF) (rows:List Rw) (ln:Nat) (seen:List Tx) (hd:List Tx) (aa j:Nat) (A:Option Addr) (C:Nat) (w:World) (G:bS w B H F R rows ln seen) (ai:Tg w aa 9 j (.slice A j C) (hd.map str)) (I:hd.length=j) (aE:j≤1000) (hrow:∀ q∈rows,q.2.length≤70000):
 dN Tryz.prog 98 (List.toArray [.pointer (some ⟨H.rb,0,none⟩),.slice A j C]) w (fun v w'=> ∃ n r rest,rows=(n,r)::rest∧r.take hd.length=hd∧(∃ R',bS w' B H F R' rest n seen)∧Tg w' B 9 r.length v (r.map str)∧Md (fun k=>k=H.rb) w w') (fun c w'=>((rows= []∧c=fJ 25 H.eof 116)∨(∃ n r rest,rows=(n,r)::rest∧r.take hd.length≠hd∧c=fJ 25 n 116))∧Md (fun k=>k=H.rb) w w'):=by
 obtain ⟨a,cp,hv⟩:=G.rws.slice
 have hcl:=G.cells
 have hcl0:=G.cells
 unfold oI at hcl
 rw [hv] at hcl
 refine gr Tryz.func98 rfl Tryz.ntmps98 rfl ?_
 refine sq (fun ay al=>rg rfl (p aj (nl (tn (al _ _ (sq (fun az am=>sq (fun aA an=>rg rfl ?_))))))))
 refine p (aB (.pointer (some ⟨H.rb,0,none⟩)) rfl) (p (nc rfl) (p (fa oo rfl) (p (ld mZ rfl ((aO hcl).trans rfl)) (p (ba rC rfl rfl) (p (a8 rfl rfl) (nl (tn (an _ _ ?_))))))))
 refine cd rfl (fun Y=> ?_) (fun Y=> ?_)
 obtain rfl :rows= []:=List.eq_nil_of_length_eq_zero (by omega)
 refine sq (fun ab J=>rg rfl (p (aB (.pointer (some ⟨H.rb,0,none⟩)) rfl) (p (aB (.pointer (some ⟨H.rb,0,none⟩)) rfl) (p (nc rfl) (p (fa G3 rfl) (p (ld bQ rfl ((aO hcl0).trans rfl)) (p (nc rfl) ?_)))))))
 refine p (fa oq rfl) (e (ca fW rfl rfl (v:= .int .i64 (H.eof:Nat)) rfl hcl0 (by show _ < 7; decide) fun w6 ao hB6=>nl (tn (J _ _ (rg rfl (p (aB (.pointer (some ⟨H.rb,0,none⟩)) rfl) (eP rfl (cj gZ (ku H.rb H.eof 116 w6 ((aO hB6).trans rfl)) rfl fun v20 w20 ap=> ?_) (fun c w' i Z hF=>⟨.inl ⟨rfl,i.1⟩,i.2.2 ▸ ao⟩))))))))
 exact absurd ap.2.1 (by decide)
 obtain ⟨q,rest,rfl⟩:∃ q rest,rows=q::rest:=by
  cases rows with
  | nil=>exact absurd rfl Y
  | cons q rest=>exact ⟨q,rest,rfl⟩
 obtain ⟨n,r⟩:=q
 refine au (tn (am _ _ (sq (fun ab J=>rg rfl (p (aB (.pointer (some ⟨H.rb,0,none⟩)) rfl) (e (cl xy (BH B H F R n r rest ln seen _ G) rfl fun aF ax aq=> ?_)))))))
 obtain ⟨⟨ae,hR2⟩,hT,E⟩:=aq
 obtain ⟨ag,ah,rfl⟩:=hT.slice
 have hTc:=hT.bH
 have hrl:r.length≤70000:=hrow (n,r) (by simp)
 have hH2:=ai.md E (dK hcl0 (by decide))
 have hHc:=hH2.bH
 have hln2:=hR2.bK
 refine p aj (nl (tn (J _ _ (sq (fun aD V=>rg rfl (p (aB (.pointer (some ⟨H.rb,0,none⟩)) rfl) (p mv (p (ba c9 rfl rfl) ?_))))))))
 refine p (aB (.slice A j C) rfl) (p (ba c9 rfl rfl) (p (ge rfl rfl) (p mv (gs (t:=29) rfl (fun av=> ?_) (fun av=> ?_)))))
 refine pg rfl rfl rfl mv (pg rfl rfl rfl (aB (.slice A j C) rfl) (pg rfl rfl rfl (ba c9 rfl rfl) (pg rfl rfl rfl (oM bA rfl rfl (by omega)) (pg rfl rfl rfl (aB (.slice A j C) rfl) (eg rfl rfl rfl (cl Dh (Gn (r.take j) hd _ _ ag A ah C _ (by have :=ak.take hTc.2 j; unfold bh; rw [List.map_take]; exact this) hHc.2 (by rw [List.length_take]; omega) I (by omega)) rfl fun aG w35 ar=> ?_))))))
 obtain ⟨rfl,s⟩:=ar
 refine p (bf rfl) (eP rfl (cj eT (e4 H.rb n _ 116 w35 (by first | exact hR2.bK | exact Wk.aC s hR2.bK) (by decide)) rfl fun aw w37 O=> ?_) (fun c w' i Z hF=>⟨.inr ⟨n,r,rest,rfl,(by rw [I]; first | exact of_decide_eq_false i.2.1 | exact fun h=>by have :=congrArg List.length h; rw [List.length_take] at this; omega),i.1⟩,(by rw [i.2.2]; first | exact E.trans' s (fun _ _ h=>h.elim) | exact E)⟩))
 obtain ⟨rfl,U,rfl⟩:=O
 refine nl (tn (V _ _ (sq (fun ac M=>rg rfl (p mv (p aj (nl (tn (M _ _ ?_)))))))))
 refine rt (fY ?_)
 exact f1 rfl rfl (⟨n,r,rest,rfl,(by rw [I]; exact of_decide_eq_true U),⟨ae,hR2.wk s⟩,hT.wk s,E.trans' s (fun _ _ h=>h.elim)⟩)
 refine sk rfl rfl rfl rfl (sk rfl rfl rfl rfl (sk rfl rfl rfl rfl (sk rfl rfl rfl rfl (sk rfl rfl rfl rfl (sk rfl rfl rfl rfl (p (a4 rfl) (eP rfl (cj eT (e4 H.rb n _ 116 ax (by first | exact hR2.bK | exact Wk.aC s hR2.bK) (by decide)) rfl fun aw w37 O=> ?_) (fun c w' i Z hF=>⟨.inr ⟨n,r,rest,rfl,(by rw [I]; first | exact of_decide_eq_false i.2.1 | exact fun h=>by have :=congrArg List.length h; rw [List.length_take] at this; omega),i.1⟩,(by rw [i.2.2]; first | exact E.trans' s (fun _ _ h=>h.elim) | exact E)⟩))))))))
 obtain ⟨rfl,U,rfl⟩:=O
 refine nl (tn (V _ _ (sq (fun ac M=>rg rfl (p mv (p aj (nl (tn (M _ _ ?_)))))))))
 refine rt (fY ?_)
 exact f1 rfl rfl (absurd U (by decide))
theorem qZ (rb ln:Nat) (s:Tx) (most:Int) (w:World) (hln:Hb.aC w.heap rb 2=some (.int .i64 (ln:Nat))) (hs:s.length≤1048576) (hm: -9223372036854775808≤most∧most≤9223372036854775807):
 dN Tryz.prog 97 (List.toArray [.pointer (some ⟨rb,0,none⟩),str s,.int .i64 most]) w (fun v w'=> ∃ a,dy s most= .ok a∧v= .int .i64 (a:Nat)∧Wk w w') (fun c w'=> ∃ e,dy s most= .error e∧c=fJ 25 ln e∧Wk w w'):=by
 refine gr Tryz.func97 rfl Tryz.ntmps97 rfl ?_
 refine sq (fun J j=>rg rfl (p aj (nl (tn (j _ _ (sq (fun M q=>rg rfl (p (aB (str s) rfl) ?_))))))))
 refine p (aB (.int .i64 most) rfl) (e (cl pL (qS s most _ hs hm) rfl fun cB w12 E=> ?_))
 obtain ⟨rfl,hE12⟩:=E
 refine p mv (p (xt rfl rfl) (p (xt rfl rfl) (p aj (p aj (nl (tn (q _ _ (sq (fun O A=> ?_)))))))))
 refine rg rfl (p (aB (.pointer (some ⟨rb,0,none⟩)) rfl) (p mv (eP rfl (cj gZ (ku rb ln (cH s most).2 w12 (Wk.aC hE12 hln)) rfl fun V w17 G=> ?_) (fun c w' i Y hF=>⟨13,(k8 i.2.1).1,(by rw [i.1,(k8 i.2.1).2]; rfl),(by rw [i.2.2]; exact hE12)⟩))))
 obtain ⟨rfl,I,rfl⟩:=G
 refine nl (tn (A _ _ (sq (fun U C=>rg rfl (p mv (p aj (nl (tn (C _ _ ?_)))))))))
 refine rt (fY ?_)
 exact f1 rfl rfl (⟨_,j4 I,rfl,hE12⟩)
theorem uE (rb ln:Nat) (s:Tx) (w:World) (hln:Hb.aC w.heap rb 2=some (.int .i64 (ln:Nat))) (hs:s.length≤1048576):
 dN Tryz.prog 94 (List.toArray [.pointer (some ⟨rb,0,none⟩),str s]) w (fun v w'=>v= .tuple #[]∧eh s=true∧Wk w w') (fun c w'=>c=fJ 25 ln 21∧eh s=false∧Wk w w'):=by
 refine gr Tryz.func94 rfl Tryz.ntmps94 rfl ?_
 refine sq (fun ae J=>rg rfl (p (aB (str s) rfl) (p (bI u9 rfl rfl) (p mv (nl (tn (J _ _ (az ?_))))))))
 refine lp (fun E a wI=> ∃ (i:Nat),(i≤s.length)∧(∀ j,j < i→fj (s.getD j 0)=true)∧(Wk w wI)∧(a 0= .pointer (some ⟨rb,0,none⟩))∧(a 1=str s)∧(a 6= .int .i64 (s.length:Nat))∧(a 7= .int .i64 (i:Nat))∧(s.length - i=E)) _ ⟨0,(by omega),((fun j hj=>by omega)),(Md.refl _ _),rfl,rfl,rfl,rfl,rfl⟩ ?_
 rintro E a wI ⟨i,hi,G,q,Z,aa,ab,ac,rfl⟩
 refine fx 0 Z (fx 1 aa (fx 6 ab (fx 7 ac (sq (fun ag M=>rg rfl (p (lt rfl rfl) (nl (tn (M _ _ (sq (fun ah O=>cd rfl (fun hc8=> ?_) (fun hc8=> ?_))))))))))))
 refine au (tn (O _ _ (sq (fun ai U=>az (sq (fun aj V=>rg rfl (p (aB (.int .i64 (i:Nat)) rfl) (p (bG (.int .i64 (i:Nat)) rfl) ?_))))))))
 refine nl (tn (V _ _ (rg rfl (p (aB (.pointer (some ⟨rb,0,none⟩)) rfl) (p (aB (str s) rfl) (p (aB (.int .i64 (i:Nat)) rfl) (p (aB (.int .i64 (i:Nat)) rfl) (p (a9 ((i+1:Nat):Int) rfl rfl (aQ (by omega) (by omega))) ?_))))))))
 refine p (iN u9 rfl rfl rfl (by omega)) (e (cl xE (BZ ((s.take (i+1)).drop i) _ (by rw [List.length_drop,List.length_take]; omega)) rfl fun ak w16 hR16=> ?_))
 obtain ⟨rfl,A⟩:=hR16
 refine eP rfl (cj eT (e4 rb ln _ 21 w16 (Wk.aC (q.trans A) hln) (by decide)) rfl fun al w17 Y=> ?_) (fun c w' C am hF=>⟨C.1,m6 (i:=i) (by omega) (by have h:=C.2.1; rw [Bl (by omega :i < s.length),BX] at h; exact h),(by rw [C.2.2]; exact q.trans A)⟩)
 obtain ⟨rfl,I,rfl⟩:=Y
 rw [Bl (by omega :i < s.length),BX] at I
 refine nl (bn (tn (U _ _ (rg rfl (p (ad rfl rfl (bp (by omega))) (p mv (nl (tn ?_))))))))
 exact ⟨_,by omega,i+1,(by omega),((fun j hj=>by rcases Nat.lt_or_ge j i with h | h <;> first | exact G j h | (rw [show j=i by omega]; exact I))),(q.trans A),rfl,rfl,rfl,rfl,rfl⟩
 refine ext (te _ (te _ (be (fY ?_))))
 refine f0 rfl ?_
 exact ⟨rfl,nY (fun j hj=>G j (by omega)),q⟩
theorem AR (rb ln:Nat) (s:Tx) (w:World) (hln:Hb.aC w.heap rb 2=some (.int .i64 (ln:Nat))) (hs:s.length≤1048576):
 dN Tryz.prog 116 (List.toArray [.pointer (some ⟨rb,0,none⟩),str s]) w (fun v w'=>v=str s∧eX s=0∧Wk w w') (fun c w'=>c=fJ 25 ln (eX s:Nat)∧eX s≠0∧Wk w w'):=by
 refine gr Tryz.func116 rfl Tryz.ntmps116 rfl ?_
 refine sq (fun J A=>rg rfl (p aj (nl (tn (A _ _ (sq (fun M C=>rg rfl (p (aB (.pointer (some ⟨rb,0,none⟩)) rfl) ?_))))))))
 refine p (aB (str s) rfl) (eP rfl (cj sE (uE rb ln s w hln hs) rfl fun Z w7 hR7=> ?_) (fun c w' a q hF=>by have h:eX s=21:=qi (.inr a.2.1); exact ⟨by rw [h]; exact a.1,by rw [h]; decide,a.2.2⟩))
 obtain ⟨rfl,j,hE7⟩:=hR7
 refine nl (tn (C _ _ (sq (fun O E=>rg rfl (p (aB (.pointer (some ⟨rb,0,none⟩)) rfl) (p (aB (str s) rfl) (p (ky rfl rfl) (eP rfl (cj eT (e4 rb ln _ 21 w7 (Wk.aC hE7 hln) (by decide)) rfl fun v11 w11 hR11=> ?_) (fun c w' a q hF=>by have h:eX s=21:=qi (.inl (Classical.not_not.1 (of_decide_eq_false a.2.1))); exact ⟨by rw [h]; exact a.1,by rw [h]; decide,by rw [a.2.2]; exact hE7⟩)))))))))
 obtain ⟨rfl,i,rfl⟩:=hR11
 have i:s≠[]:=of_decide_eq_true i
 refine nl (tn (E _ _ (sq (fun U G=>rg rfl (p (aB (.pointer (some ⟨rb,0,none⟩)) rfl) (p (aB (str s) rfl) (p (bI u9 rfl rfl) (p (le rfl rfl) ?_))))))))
 refine eP rfl (cj eT (e4 rb ln _ 22 w11 (Wk.aC hE7 hln) (by decide)) rfl fun Y w16 hR16=> ?_) (fun c w' a q hF=>by have h0:=of_decide_eq_false a.2.1; have h:eX s=22:=yQ i j (by omega); exact ⟨by rw [h]; exact a.1,by rw [h]; decide,by rw [a.2.2]; exact hE7⟩)
 obtain ⟨rfl,hx16,rfl⟩:=hR16
 have hx16:=of_decide_eq_true hx16
 refine nl (tn (G _ _ (sq (fun V I=>rg rfl (p (aB (str s) rfl) (p (bG (str s) rfl) (nl (tn (I _ _ ?_)))))))))
 refine rt (fY ?_)
 exact f1 rfl rfl (⟨rfl,yR i j (by omega),hE7⟩)
theorem AJ (rb ln:Nat) (s:Tx) (w:World) (hln:Hb.aC w.heap rb 2=some (.int .i64 (ln:Nat))) (hs:s.length≤1048576):
 dN Tryz.prog 99 (List.toArray [.pointer (some ⟨rb,0,none⟩),str s]) w (fun v w'=> ∃ a,dq false s= .ok a∧v=str a∧Wk w w') (fun c w'=> ∃ e,dq false s= .error e∧c=fJ 25 ln e∧Wk w w'):=by
 refine gr Tryz.func99 rfl Tryz.ntmps99 rfl ?_
 refine sq (fun aa E=>rg rfl (p aj (nl (tn (E _ _ (sq (fun ab G=>rg rfl (p (aB (str s) rfl) ?_))))))))
 refine e (cl sx (vv s _ hs) rfl fun v11 w11 hR11=> ?_)
 obtain ⟨rfl,j⟩:=hR11
 have hwl:=mQ s
 refine p mv (p (xt rfl rfl) (p (xt rfl rfl) (p (xt rfl rfl) (p (xt rfl rfl) (p aj (p aj (p aj ?_)))))))
 refine p aj (nl (tn (G _ _ (sq (fun ac I=>rg rfl (p (aB (.pointer (some ⟨rb,0,none⟩)) rfl) (p mv (eP rfl (cj gZ (ku rb ln ((aV s).2.2.2:Nat) w11 (Wk.aC j hln)) rfl fun ah w18 O=> ?_) (fun c w' i C hF=>⟨_,uz (by have :=i.2.1; omega),i.1,by rw [i.2.2]; exact j⟩)))))))))
 obtain ⟨rfl,q,rfl⟩:=O
 have q:(aV s).2.2.2=0:=by omega
 refine nl (tn (I _ _ (sq (fun ae J=>rg rfl (p (aB (.pointer (some ⟨rb,0,none⟩)) rfl) (p mv (p (no rfl) (eP rfl (cj eT (e4 rb ln _ 114 w18 (Wk.aC j hln) (by decide)) rfl fun ai Z U=> ?_) (fun c w' i C hF=>⟨_,uA q (by simpa using i.2.1),i.1,by rw [i.2.2]; exact j⟩)))))))))
 obtain ⟨rfl,A,rfl⟩:=U
 have A:(aV s).2.2.1=false :=by simpa using A
 refine nl (tn (J _ _ (sq (fun ag M=>rg rfl (p (aB (.pointer (some ⟨rb,0,none⟩)) rfl) (p mv (eP rfl (cj xa (AR rb ln (aV s).1 Z (Wk.aC j hln) (by omega)) rfl fun ak w25 V=> ?_) (fun c w' i C hF=>⟨_,uB q A i.2.1,i.1,j.trans i.2.2⟩))))))))
 obtain ⟨rfl,Y,hE25⟩:=V
 refine p aj (nl (tn (M _ _ (rt (fY ?_)))))
 exact f1 rfl rfl (⟨_,uC q A Y,rfl,j.trans hE25⟩)
theorem AG (rb ln:Nat) (s:Tx) (w:World) (hln:Hb.aC w.heap rb 2=some (.int .i64 (ln:Nat))) (hs:s.length≤1048576):
 dN Tryz.prog 100 (List.toArray [.pointer (some ⟨rb,0,none⟩),str s]) w (fun v w'=> ∃ a,dq true s= .ok a∧v=str a∧Wk w w') (fun c w'=> ∃ e,dq true s= .error e∧c=fJ 25 ln e∧Wk w w'):=by
 refine gr Tryz.func100 rfl Tryz.ntmps100 rfl ?_
 refine sq (fun I A=>rg rfl (p aj (nl (tn (A _ _ (sq (fun J C=>sq (fun M E=>rg rfl ?_))))))))
 refine p (aB (str s) rfl) (p (cG rfl rfl) (nl (tn (E _ _ (cd rfl (fun hc6=> ?_) (fun hc6=> ?_))))))
 refine sq (fun j i=>rg rfl (p aj (nl (tn (i _ _ (rt (tr (fY ?_))))))))
 exact f1 rfl rfl (⟨[],AI hc6,rfl,Md.refl _ _⟩)
 refine au (tn (C _ _ (sq (fun j i=>rg rfl (p (aB (.pointer (some ⟨rb,0,none⟩)) rfl) (p (aB (str s) rfl) (eP rfl (cj xJ (AJ rb ln s w hln hs) rfl fun v9 w9 hR9=> ?_) (fun c w' G O hF=>by obtain ⟨e,he,h⟩:=G; exact ⟨e,by rw [uD hc6]; exact he,h⟩))))))))
 obtain ⟨a,ha,rfl,q⟩:=hR9
 refine p aj (nl (tn (i _ _ (rt (fY ?_)))))
 exact f1 rfl rfl (⟨a,by rw [uD hc6]; exact ha,rfl,q⟩)
end Go.Hb.fE
end
