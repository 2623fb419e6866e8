/-
  Walks and plain laws that the law rests on, laid together. No conditions but those that each theorem names.
-/
import Derived.Test.YtkiemnnhcilhpaaGreatDoorMnDicKeeps2
set_option linter.unusedVariables false
section
set_option maxRecDepth 20000
set_option maxHeartbeats 1000000
namespace Go.Hb.mo
open Go.Hb.di
open Go.Proofs
theorem It (x:Nat) (w:World):
 aU Tryz.prog 180 (List.toArray [aO x]) w (fun v w'=>v= .bool false∧Wk w w'):=by
 refine enter Tryz.func180 rfl Tryz.ntmps180 rfl ?_
 refine U (fun _ a=>(aj (((a _ _ (U (fun _ i=>(ag (aO x) ?_))))))))
 exact ag (aO x) (p (bB rfl rfl) (aj (((i _ _ (rt (f1 rfl rfl (⟨congrArg Value.bool (decide_eq_false (fun h=>h rfl)),Md.refl _ _⟩))))))))
theorem iR (x y:Nat) (w:World):
 aU Tryz.prog 162 (List.toArray [aO x,aO y]) w (fun v w'=>v= .bool (bo x y)∧Wk w w'):=by
 refine enter Tryz.func162 rfl Tryz.ntmps162 rfl ?_
 refine U (fun _ a=>(aj (((a _ _ (U (fun _ i=>(ag (aO x) ?_))))))))
 refine e (cl DV (It x _) rfl fun v6 w6 hR6=> ?_)
 obtain ⟨rfl,j⟩:=hR6
 refine p mv (sk rfl rfl rfl rfl (sk rfl rfl rfl rfl (sk rfl rfl rfl rfl (p (a5 rfl) (p mv (pg rfl rfl rfl (aC (aO x) rfl) (pg rfl rfl rfl (aC (aO y) rfl) ?_)))))))
 exact pg rfl rfl rfl (lt rfl rfl) (p (a5 rfl) (aj (((i _ _ (rt (f1 rfl rfl (⟨by show Value.bool (decide ((x:Int) < (y:Int)))=_; unfold bo; exact congrArg Value.bool (decide_eq_decide.2 (by omega)),j⟩))))))))
theorem Iq (d:Array Nat) (a b:Nat) (B n cp:Nat) (A:Option Addr) (w:World) (am:w.ownsRow B 71 1 (.slice A n cp) n (LE aO d)) (aZ:a≤b∧b≤n) (a1:n≤1099511627776):
 aU Tryz.prog 156 (List.toArray [.slice A n cp,ae a,ae b]) w (fun v w'=>v= .tuple #[]∧w'.ownsRow B 71 1 (.slice A n cp) n (LE aO (Go.Sort.insertionSort bo d a b))∧Md (fun q=>(Value.slice A n cp).ownBlock=some q) w w'):=by
 have hdn:=dT am
 refine enter Tryz.func156 rfl Tryz.ntmps156 rfl ?_
 refine U (fun _ ao=>(ag (ae a) (p (bc ((a+1:Nat):Int) rfl rfl (aR (by omega) (by omega))) (aj (((ao _ _ (aA ?_))))))))
 refine lp (fun Y Z ac=> ∃ (i:Nat) (V:Array Nat),(a+1≤i∧i≤n+1)∧(Go.Sort.insOuter bo a b i V=Go.Sort.insertionSort bo d a b)∧(ac.ownsRow B 71 1 (.slice A n cp) n (LE aO V))∧(Md (fun q=>(Value.slice A n cp).ownBlock=some q) w ac)∧(Z 0= .slice A n cp)∧(Z 1=ae a)∧(Z 2=ae b)∧(Z 6=ae i)∧(b - i=Y)) _ ⟨a+1,d,(by omega),rfl,am,(Md.refl _ _),rfl,rfl,rfl,rfl,rfl⟩ ?_
 rintro Y Z ac ⟨i,V,hi,hq,an,al,aN,aP,aQ,aS,rfl⟩
 refine fx 0 aN (fx 1 aP (fx 2 aQ (fx 6 aS (sq (fun _ ap=>U (fun _ aq=>(ag (ae i) (ag (ae b) (p (lt rfl rfl) (nl ?_))))))))))
 refine tn (aq _ _ (cd rfl (fun aI=> ?_) (fun aI=> ?_)))
 refine az (tn (ap _ _ (sq (fun _ ah=>aA (U (fun _ ar=>(ag (ae i) (p (bF (ae i) rfl) ?_))))))))
 refine au ((ar _ _ (aA (lp (fun Y O J=> ∃ (j:Nat) (E:Array Nat),(a≤j∧j≤i)∧(Go.Sort.insInner bo a j E=Go.Sort.insInner bo a i V)∧(J.ownsRow B 71 1 (.slice A n cp) n (LE aO E))∧(Md (fun q=>(Value.slice A n cp).ownBlock=some q) w J)∧(O 0= .slice A n cp)∧(O 1=ae a)∧(O 2=ae b)∧(O 6=ae i)∧(O 7=ae j)∧(j=Y)) _ ⟨i,V,(by omega),rfl,an,al,rfl,rfl,rfl,rfl,rfl,rfl⟩ ?_))))
 rintro Y O J ⟨j,E,a0,hq2,I,aa,aT,aV,aW,aX,aY,rfl⟩
 refine fx 0 aT (fx 1 aV (fx 2 aW (fx 6 aX (fx 7 aY (sq (fun _ av=>sq (fun _ ai=> ?_)))))))
 have hden:=dT I
 have s:(fun w'=>Wk J w') J.drew:=(Md.refl _ _).drew
 refine bD (fun w'=>Wk J w') rfl wide s (bd 0 rfl (ae j) s (bd 1 rfl (ae a) s (aB 2 rfl (fun _ _=>gt rfl rfl) s (aB 3 rfl (fun _ _=>mv) s (iQ (t:=19) rfl (fun aH=> ?_) (fun aH=> ?_))))))
 refine a8 4 rfl (by kernel_rfl) rfl rfl rfl (fun _ _=>aC (.slice A n cp) rfl) s (a8 5 rfl (by kernel_rfl) rfl rfl rfl (fun _ _=>aC (ae j) rfl) s (a8 6 rfl (by kernel_rfl) rfl rfl rfl (fun _ _=>aJ bl rfl rfl (by omega) (aw.ok ((aM I).2) (bw (by omega)))) s (a8 7 rfl (by kernel_rfl) rfl rfl rfl (fun w' G=>ld bL rfl (b0 (i:=j) ((aM I).2.wk G) (by omega))) s (a8 8 rfl (by kernel_rfl) rfl rfl rfl (fun _ _=>aC (.slice A n cp) rfl) s (a8 9 rfl (by kernel_rfl) rfl rfl rfl (fun _ _=>aC (ae j) rfl) s (a8 10 rfl (by kernel_rfl) rfl rfl rfl (fun _ _=>cM ((j - 1:Nat):Int) rfl rfl (aR (by omega) (by omega))) s (a8 11 rfl (by kernel_rfl) rfl rfl rfl (fun _ _=>aJ bl rfl rfl (by omega) (aw.ok ((aM I).2) (bw (by omega)))) s ?_)))))))
 refine a8 12 rfl (by kernel_rfl) rfl rfl rfl (fun w' G=>ld bL rfl (b0 (i:=j - 1) ((aM I).2.wk G) (by omega))) s (j4 13 rfl (by kernel_rfl) rfl rfl rfl (cl iL (iR E[j]! E[j - 1]! _) rfl fun a2 w29 aF=> ?_))
 obtain ⟨rfl,hE29⟩:=aF
 have M:(fun w'=>Wk J w') w29:=Md.trans s hE29
 refine ⟨M,?_⟩
 refine aB 14 rfl (fun _ _=>bg rfl) M (hn (by kernel_rfl) (tn (ai _ _ (cb rfl (fun ab=> ?_) (fun ab=> ?_)))))
 refine az (tn (av _ _ (sq (fun _ ax=>aA ?_))))
 have hO6:=aG I M
 have C:(fun w'=>Wk w29 w') w29.drew:=(Md.refl _ _).drew
 refine dH (fun w'=>Wk w29 w') 15 rfl wide C (a4 0 rfl (.slice A n cp) C (a4 1 rfl (ae j) C (a4 2 rfl (.slice A n cp) C (a4 3 rfl (ae j) C (a6 4 rfl (fun _=>cM ((j - 1:Nat):Int) rfl rfl (aR (by omega) (by omega))) (fun _=>C) (a4 5 rfl (.slice A n cp) C (a4 6 rfl (ae j) C ?_)))))))
 refine a6 7 rfl (fun _=>cM ((j - 1:Nat):Int) rfl rfl (aR (by omega) (by omega))) (fun _=>C) (a6 8 rfl (fun _=>aJ bl rfl rfl (by omega) (aw.ok ((aM hO6).2) (bw (by omega)))) (fun _=>C) (cT 9 rfl (fun w' G=>ld bL rfl (b0 (i:=j - 1) ((aM hO6).2.wk G) (by omega))) C (a4 10 rfl (.slice A n cp) C (a4 11 rfl (ae j) C (a6 12 rfl (fun _=>aJ bl rfl rfl (by omega) (aw.ok ((aM hO6).2) (bw (by omega)))) (fun _=>C) (cT 13 rfl (fun w' G=>ld bL rfl (b0 (i:=j) ((aM hO6).2.wk G) (by omega))) C (a6 14 rfl (fun _=>aJ bl rfl rfl (by omega) (aw.ok ((aM hO6).2) (bw (by omega)))) (fun _=>C) ?_)))))))
 refine cE 15 rfl (by kernel_rfl) (by kernel_rfl) (ep (u:=E[j - 1]!) (j) (aG hO6 C) dY rfl rfl rfl (by omega) fun a3 aD aK=> ?_)
 refine a6 16 rfl (fun _=>aJ bl rfl rfl (by omega) (aw.ok ((aM hO6).2) (bw (by omega)))) (fun h=>Bool.noConfusion ((show true =_ from by kernel_rfl).trans h)) (cE 17 rfl (by kernel_rfl) (by kernel_rfl) (ep (u:=E[j]!) (j - 1) aK dY rfl rfl rfl (by omega) fun wS2 aE aL=> ?_))
 have G:wS2.ownsRow B 71 1 (.slice A n cp) n (LE aO (Go.Sort.swp E (j) (j - 1))):=aL
 have ay:Md (fun q=>(Value.slice A n cp).ownBlock=some q) w29 wS2:=Md.trans (C.mono (fun _ _ h=>h.elim)) (Md.trans aD aE)
 refine dG (by kernel_rfl) ?_
 refine bn (tn (ax _ _ (rg rfl (ag (ae j) (p (cM ((j - 1:Nat):Int) rfl rfl (aR (by omega) (by omega))) (p ak (nl (tn ?_))))))))
 exact ⟨_,by omega,j - 1,Go.Sort.swp E j (j - 1),(by omega),((by rw [← hq2,Im (show a < j by omega) ab])),G,(Md.trans aa (Md.trans (M.mono (fun _ _ h=>h.elim)) ay)),rfl,rfl,rfl,rfl,rfl,rfl⟩
 refine ext (te _ (te _ (be (bn (tn (ah _ _ (rg rfl (ag (ae i) ?_))))))))
 exact p (bc ((i+1:Nat):Int) rfl rfl (aR (by omega) (by omega))) (aj (((⟨_,by omega,i+1,E,(by omega),((by rw [← hq,zW (show i < b by omega),← hq2,Io (by simpa using ab)])),(aG I M),(Md.trans aa (M.mono (fun _ _ h=>h.elim))),rfl,rfl,rfl,rfl,rfl⟩))))
 refine a9 4 rfl (by kernel_rfl) rfl rfl rfl rfl s ?_
 refine a9 5 rfl (by kernel_rfl) rfl rfl rfl rfl s ?_
 refine a9 6 rfl (by kernel_rfl) rfl rfl rfl rfl s ?_
 refine a9 7 rfl (by kernel_rfl) rfl rfl rfl rfl s ?_
 refine a9 8 rfl (by kernel_rfl) rfl rfl rfl rfl s ?_
 refine a9 9 rfl (by kernel_rfl) rfl rfl rfl rfl s ?_
 refine a9 10 rfl (by kernel_rfl) rfl rfl rfl rfl s ?_
 refine a9 11 rfl (by kernel_rfl) rfl rfl rfl rfl s ?_
 refine a9 12 rfl (by kernel_rfl) rfl rfl rfl rfl s ?_
 refine a9 13 rfl (by kernel_rfl) rfl rfl rfl rfl s ?_
 refine aB 14 rfl (fun _ _=>a5 rfl) s (hn (by kernel_rfl) (tn (ai _ _ (cf rfl (ext (te _ (te _ (be ?_))))))))
 refine bn (tn (ah _ _ (rg rfl (ag (ae i) (p (bc ((i+1:Nat):Int) rfl rfl (aR (by omega) (by omega))) (p ak (nl (tn ?_))))))))
 exact ⟨_,by omega,i+1,E,(by omega),((by rw [← hq,zW (show i < b by omega),← hq2,Ip (by omega)])),(aG I (Md.refl _ _).drew),aa.drew,rfl,rfl,rfl,rfl,rfl⟩
 refine ext (te _ (te _ (be (f0 rfl ?_))))
 exact ⟨rfl,by rw [← hq,Il (by omega)]; exact an,al⟩
theorem Le (d:Array Nat) (lo hi first :Nat) (B n cp:Nat) (s:Option Addr) (w:World) (aE:w.ownsRow B 71 1 (.slice s n cp) n (LE aO d)) (a0:lo≤hi∧first+hi≤n) (a1:n≤1099511627776):
 aU Tryz.prog 175 (List.toArray [.slice s n cp,ae lo,ae hi,ae first]) w (fun v w'=>v= .tuple #[]∧w'.ownsRow B 71 1 (.slice s n cp) n (LE aO (Go.Sort.siftDown bo hi first lo d))∧Md (fun q=>(Value.slice s n cp).ownBlock=some q) w w'):=by
 refine enter Tryz.func175 rfl Tryz.ntmps175 rfl ?_
 refine U (fun _ am=>(ag (ae lo) (p (bF (ae lo) rfl) (au ((am _ _ (aA (lp (fun ah Y J=> ∃ (r:Nat) (A:Array Nat),(r≤hi)∧(Go.Sort.siftDown bo hi first r A=Go.Sort.siftDown bo hi first lo d)∧(J.ownsRow B 71 1 (.slice s n cp) n (LE aO A))∧(Md (fun q=>(Value.slice s n cp).ownBlock=some q) w J)∧(Y 0= .slice s n cp)∧(Y 2=ae hi)∧(Y 3=ae first)∧(Y 8=ae r)∧(hi - r=ah)) _ ⟨lo,d,(by omega),rfl,aE,(Md.refl _ _),rfl,rfl,rfl,rfl,rfl⟩ ?_))))))))
 rintro ah Y J ⟨r,A,hr,hq,G,aa,aP,aQ,aS,aT,rfl⟩
 refine fx 0 aP (fx 2 aQ (fx 3 aS (fx 8 aT (aA (U (fun _ an=>(ag (ae r) (p (kF ((2 *r:Nat):Int) rfl rfl (aR (by omega) (by omega))) (p (bc ((2 *r+1:Nat):Int) rfl rfl (aR (by omega) (by omega))) (p ak ?_))))))))))
 refine au ((an _ _ (sq (fun _ ao=>U (fun _ ap=>(p mv (ag (ae hi) (p (ge rfl rfl) ?_))))))))
 refine au ((ap _ _ (cd rfl (fun aI=> ?_) (fun aI=> ?_))))
 refine ext (te _ (ks (by decide) (te _ (be (f0 rfl ?_)))))
 exact ⟨rfl,by rw [← hq,Lc (by omega)]; exact G,aa⟩
 refine az (tn (ao _ _ ?_))
 refine c7 (fun V wC=> ∃ (c:Nat),(r < c∧c < hi)∧(Go.Sort.siftDown bo hi first r A=if (!bo A[first+r]! A[first+c]!)=true then A else Go.Sort.siftDown bo hi first c (Go.Sort.swp A (first+r) (first+c)))∧(wC.ownsRow B 71 1 (.slice s n cp) n (LE aO A))∧(Md (fun q=>(Value.slice s n cp).ownBlock=some q) w wC)∧(V 0= .slice s n cp)∧(V 2=ae hi)∧(V 3=ae first)∧(V 8=ae r)∧(V 9=ae c)) ?_ ?_
 refine sq (fun _ Z=> ?_)
 have hdcn:=dT G
 have a:(fun w'=>Wk J w') J.drew:=(Md.refl _ _).drew
 refine bD (fun w'=>Wk J w') rfl wide a (aB 0 rfl (fun _ _=>mv) a (aB 1 rfl (fun _ _=>bc ((2 *r+1 +1:Nat):Int) rfl rfl (aR (by omega) (by omega))) a (bd 2 rfl (ae hi) a (aB 3 rfl (fun _ _=>lt rfl rfl) a (aB 4 rfl (fun _ _=>mv) a (iQ (t:=21) rfl (fun aK=> ?_) (fun aK=> ?_)))))))
 refine a8 5 rfl (by kernel_rfl) rfl rfl rfl (fun _ _=>aC (.slice s n cp) rfl) a (a8 6 rfl (by kernel_rfl) rfl rfl rfl (fun _ _=>aC (ae first) rfl) a (a8 7 rfl (by kernel_rfl) rfl rfl rfl (fun _ _=>mv) a (a8 8 rfl (by kernel_rfl) rfl rfl rfl (fun _ _=>bc ((first+(2 *r+1):Nat):Int) rfl rfl (aR (by omega) (by omega))) a (a8 9 rfl (by kernel_rfl) rfl rfl rfl (fun _ _=>aJ bl rfl rfl (by omega) (aw.ok ((aM G).2) (bw (by omega)))) a (a8 10 rfl (by kernel_rfl) rfl rfl rfl (fun w' E=>ld bL rfl (b0 (i:=first+(2 *r+1)) ((aM G).2.wk E) (by omega))) a (a8 11 rfl (by kernel_rfl) rfl rfl rfl (fun _ _=>aC (.slice s n cp) rfl) a (a8 12 rfl (by kernel_rfl) rfl rfl rfl (fun _ _=>aC (ae first) rfl) a ?_)))))))
 refine a8 13 rfl (by kernel_rfl) rfl rfl rfl (fun _ _=>mv) a (a8 14 rfl (by kernel_rfl) rfl rfl rfl (fun _ _=>bc ((first+(2 *r+1):Nat):Int) rfl rfl (aR (by omega) (by omega))) a (a8 15 rfl (by kernel_rfl) rfl rfl rfl (fun _ _=>bc ((first+(2 *r+1)+1:Nat):Int) rfl rfl (aR (by omega) (by omega))) a (a8 16 rfl (by kernel_rfl) rfl rfl rfl (fun _ _=>aJ bl rfl rfl (by omega) (aw.ok ((aM G).2) (bw (by omega)))) a (a8 17 rfl (by kernel_rfl) rfl rfl rfl (fun w' E=>ld bL rfl (b0 (i:=first+(2 *r+1)+1) ((aM G).2.wk E) (by omega))) a (j4 18 rfl (by kernel_rfl) rfl rfl rfl (cl iL (iR A[first+(2 *r+1)]! A[first+(2 *r+1)+1]! _) rfl fun a2 w35 aF=> ?_))))))
 obtain ⟨rfl,av⟩:=aF
 have M:(fun w'=>Wk J w') w35:=Md.trans a av
 refine ⟨M,?_⟩
 refine aB 19 rfl (fun _ _=>bg rfl) M (hn (by kernel_rfl) (tn (Z _ _ (cb rfl (fun ab=> ?_) (fun ab=> ?_)))))
 exact rg rfl (p mv (p (bc ((2 *r+2:Nat):Int) rfl rfl (aR (by omega) (by omega))) (aj (((⟨2 *r+2,(by omega),(Ld (by omega) ab),(aG G M),(Md.trans aa (M.mono (fun _ _ h=>h.elim))),rfl,rfl,rfl,rfl,rfl⟩))))))
 exact az (tn (⟨2 *r+1,(by omega),(Bn (by omega) (.inr ab)),(aG G M),(Md.trans aa (M.mono (fun _ _ h=>h.elim))),rfl,rfl,rfl,rfl,rfl⟩))
 refine a9 5 rfl (by kernel_rfl) rfl rfl rfl rfl a ?_
 refine a9 6 rfl (by kernel_rfl) rfl rfl rfl rfl a ?_
 refine a9 7 rfl (by kernel_rfl) rfl rfl rfl rfl a ?_
 refine a9 8 rfl (by kernel_rfl) rfl rfl rfl rfl a ?_
 refine a9 9 rfl (by kernel_rfl) rfl rfl rfl rfl a ?_
 refine a9 10 rfl (by kernel_rfl) rfl rfl rfl rfl a ?_
 refine a9 11 rfl (by kernel_rfl) rfl rfl rfl rfl a ?_
 refine a9 12 rfl (by kernel_rfl) rfl rfl rfl rfl a ?_
 refine a9 13 rfl (by kernel_rfl) rfl rfl rfl rfl a ?_
 refine a9 14 rfl (by kernel_rfl) rfl rfl rfl rfl a ?_
 refine a9 15 rfl (by kernel_rfl) rfl rfl rfl rfl a ?_
 refine a9 16 rfl (by kernel_rfl) rfl rfl rfl rfl a ?_
 refine a9 17 rfl (by kernel_rfl) rfl rfl rfl rfl a ?_
 refine a9 18 rfl (by kernel_rfl) rfl rfl rfl rfl a ?_
 exact aB 19 rfl (fun _ _=>a5 rfl) a (hn (by kernel_rfl) (tn (Z _ _ (cf rfl (az (tn (⟨2 *r+1,(by omega),(Bn (by omega) (.inl (by omega))),(aG G (Md.refl _ _).drew),aa.drew,rfl,rfl,rfl,rfl,rfl⟩)))))))
 rintro V wC ⟨c,hc,al,I,ai,aV,aW,aX,aY,aZ⟩
 refine fx 0 aV (fx 2 aW (fx 3 aX (fx 8 aY (fx 9 aZ (sq (fun _ Z=>sq (fun _ aq=> ?_)))))))
 have hdcn:=dT I
 have C:(fun w'=>Wk wC w') wC.drew:=(Md.refl _ _).drew
 refine bD (fun w'=>Wk wC w') rfl wide C (bd 0 rfl (.slice s n cp) C (bd 1 rfl (ae first) C (bd 2 rfl (ae r) C (aB 3 rfl (fun _ _=>bc ((first+r:Nat):Int) rfl rfl (aR (by omega) (by omega))) C (aB 4 rfl (fun _ _=>aJ bl rfl rfl (by omega) (aw.ok ((aM I).2) (bw (by omega)))) C (aB 5 rfl (fun w' E=>ld bL rfl (b0 (i:=first+r) ((aM I).2.wk E) (by omega))) C (bd 6 rfl (.slice s n cp) C ?_)))))))
 refine bd 7 rfl (ae first) C (bd 8 rfl (ae c) C (aB 9 rfl (fun _ _=>bc ((first+c:Nat):Int) rfl rfl (aR (by omega) (by omega))) C (aB 10 rfl (fun _ _=>aJ bl rfl rfl (by omega) (aw.ok ((aM I).2) (bw (by omega)))) C (aB 11 rfl (fun w' E=>ld bL rfl (b0 (i:=first+c) ((aM I).2.wk E) (by omega))) C (he 12 rfl (by kernel_rfl) (cl iL (iR A[first+r]! A[first+c]! _) rfl fun a3 w51 aH=> ?_))))))
 obtain ⟨rfl,hE51⟩:=aH
 have O:(fun w'=>Wk wC w') w51:=Md.trans C hE51
 refine ⟨O,?_⟩
 refine aB 13 rfl (fun _ _=>no rfl) O (hn (by kernel_rfl) (tn (aq _ _ (cb rfl (fun ac=> ?_) (fun ac=> ?_)))))
 refine rt (tr (br (tr (br (ql rfl ?_)))))
 exact ⟨rfl,by rw [← hq,al,if_pos ac]; exact aG I O,Md.trans ai (O.mono (fun _ _ h=>h.elim))⟩
 refine az (tn (Z _ _ (sq (fun _ ar=> ?_))))
 have hO6:=aG I O
 have j:(fun w'=>Wk w51 w') w51.drew:=(Md.refl _ _).drew
 refine dH (fun w'=>Wk w51 w') 21 rfl wide j (a4 0 rfl (.slice s n cp) j (a4 1 rfl (ae first) j (a4 2 rfl (ae r) j (a6 3 rfl (fun _=>bc ((first+r:Nat):Int) rfl rfl (aR (by omega) (by omega))) (fun _=>j) (a4 4 rfl (.slice s n cp) j (a4 5 rfl (ae first) j (a4 6 rfl (ae c) j ?_)))))))
 refine a6 7 rfl (fun _=>bc ((first+c:Nat):Int) rfl rfl (aR (by omega) (by omega))) (fun _=>j) (a4 8 rfl (.slice s n cp) j (a4 9 rfl (ae first) j (a4 10 rfl (ae c) j (a6 11 rfl (fun _=>bc ((first+c:Nat):Int) rfl rfl (aR (by omega) (by omega))) (fun _=>j) (a6 12 rfl (fun _=>aJ bl rfl rfl (by omega) (aw.ok ((aM hO6).2) (bw (by omega)))) (fun _=>j) (cT 13 rfl (fun w' E=>ld bL rfl (b0 (i:=first+c) ((aM hO6).2.wk E) (by omega))) j (a4 14 rfl (.slice s n cp) j ?_)))))))
 refine a4 15 rfl (ae first) j (a4 16 rfl (ae r) j (a6 17 rfl (fun _=>bc ((first+r:Nat):Int) rfl rfl (aR (by omega) (by omega))) (fun _=>j) (a6 18 rfl (fun _=>aJ bl rfl rfl (by omega) (aw.ok ((aM hO6).2) (bw (by omega)))) (fun _=>j) (cT 19 rfl (fun w' E=>ld bL rfl (b0 (i:=first+r) ((aM hO6).2.wk E) (by omega))) j (a6 20 rfl (fun _=>aJ bl rfl rfl (by omega) (aw.ok ((aM hO6).2) (bw (by omega)))) (fun _=>j) (cE 21 rfl (by kernel_rfl) (by kernel_rfl) (ep (u:=A[first+c]!) (first+r) (aG hO6 j) dY rfl rfl rfl (by omega) fun a7 ay aL=> ?_)))))))
 refine a6 22 rfl (fun _=>aJ bl rfl rfl (by omega) (aw.ok ((aM hO6).2) (bw (by omega)))) (fun h=>Bool.noConfusion ((show true =_ from by kernel_rfl).trans h)) (cE 23 rfl (by kernel_rfl) (by kernel_rfl) (ep (u:=A[first+r]!) (first+c) aL dY rfl rfl rfl (by omega) fun wS2 aD aN=> ?_))
 have E:wS2.ownsRow B 71 1 (.slice s n cp) n (LE aO (Go.Sort.swp A (first+r) (first+c))):=aN
 have ax:Md (fun q=>(Value.slice s n cp).ownBlock=some q) w51 wS2:=Md.trans (j.mono (fun _ _ h=>h.elim)) (Md.trans ay aD)
 refine dG (by kernel_rfl) ?_
 exact tn (ar _ _ (rg rfl (ag (ae c) (p (bF (ae c) rfl) (nl (bn (tn (⟨_,by omega,c,Go.Sort.swp A (first+r) (first+c),(by omega),((by rw [← hq,al,if_neg (by rw [ac]; exact Bool.noConfusion)])),E,(Md.trans ai (Md.trans (O.mono (fun _ _ h=>h.elim)) ax)),rfl,rfl,rfl,rfl,rfl⟩))))))))
theorem Bo (d:Array Nat) (lo hi first :Nat) (j i:Int) (B n cp:Nat) (a:Option Addr) (w:World) (p:w.ownsRow B 71 1 (.slice a n cp) n (LE aO d)) (s:lo≤hi∧first+hi≤n) (hlo:j=(lo:Nat)) (A:i=(hi:Nat)) (C:n≤1099511627776):
 aU Tryz.prog 175 (List.toArray [.slice a n cp,.int .i64 j,.int .i64 i,.int .i64 (first :Nat)]) w (fun v w'=>v= .tuple #[]∧w'.ownsRow B 71 1 (.slice a n cp) n (LE aO (Go.Sort.siftDown bo hi first lo d))∧Md (fun q=>(Value.slice a n cp).ownBlock=some q) w w'):=by
 subst hlo A; exact Le d lo hi first B n cp a w p s C
theorem H5 (d:Array Nat) (a b:Nat) (B n cp:Nat) (j:Option Addr) (w:World) (aC:w.ownsRow B 71 1 (.slice j n cp) n (LE aO d)) (a1:a < b∧b≤n) (Z:n≤1099511627776):
 aU Tryz.prog 157 (List.toArray [.slice j n cp,ae a,ae b]) w (fun v w'=>v= .tuple #[]∧w'.ownsRow B 71 1 (.slice j n cp) n (LE aO (Go.Sort.heapSort bo d a b))∧Md (fun q=>(Value.slice j n cp).ownBlock=some q) w w'):=by
 refine enter Tryz.func157 rfl Tryz.ntmps157 rfl ?_
 refine U (fun _ aa=>(ag (ae a) (p (bF (ae a) rfl) (au ((aa _ _ (U (fun _ ai=> ?_))))))))
 refine aj (((ai _ _ (U (fun _ al=>(ag (ae b) (ag (ae a) (p (cM ((b - a:Nat):Int) rfl rfl (aR (by omega) (by omega))) ?_))))))))
 refine aj (((al _ _ (sq (fun _ am=>U (fun _ an=>(p mv (p (cM ((b - a - 1:Nat):Int) rfl rfl (aR (by omega) (by omega))) ?_))))))))
 refine p (ma (((b - a - 1) / 2:Nat):Int) rfl rfl (by omega) (aR (by omega) (by omega))) (aj (((an _ _ (aA (lp (fun J G Y=> ∃ (k:Nat) (A:Array Nat),(k≤b - a)∧(Go.Sort.heapBuild bo (b - a) a k A=Go.Sort.heapBuild bo (b - a) a ((b - a - 1) / 2 +1) d)∧(Y.ownsRow B 71 1 (.slice j n cp) n (LE aO A))∧(Md (fun q=>(Value.slice j n cp).ownBlock=some q) w Y)∧(G 0= .slice j n cp)∧(G 6=ae a)∧(G 7= .int .i64 0)∧(G 8=ae (b - a))∧(G 9= .int .i64 ((k:Nat) - 1:Int))∧(k=J)) _ ⟨(b - a - 1) / 2 +1,d,(by omega),rfl,aC,(Md.refl _ _),rfl,rfl,rfl,rfl,(iv (by omega)),rfl⟩ ?_))))))
 rintro J G Y ⟨k,A,hk,hq,C,M,aP,aQ,aS,aT,aV,rfl⟩
 refine fx 0 aP (fx 6 aQ (fx 7 aS (fx 8 aT (fx 9 aV (sq (fun _ ao=>U (fun _ ap=>(ag (.int .i64 ((k:Nat) - 1:Int)) (p (ge rfl rfl) (au ((ap _ _ ?_))))))))))))
 refine cd rfl (fun aI=> ?_) (fun aI=> ?_)
 refine az (tn (ao _ _ (sq (fun _ V=>aA (rg rfl (ag (.slice j n cp) (ag (.int .i64 ((k:Nat) - 1:Int)) (ag (ae (b - a)) ?_))))))))
 refine ag (ae a) (e (cl xu (Bo A (k - 1) (b - a) a _ _ B n cp j _ C (by omega) (by omega) rfl Z) rfl fun a3 w26 aF=> ?_))
 obtain ⟨rfl,aD,ar⟩:=aF
 refine nl (bn (tn (V _ _ (rg rfl (ag (.int .i64 ((k:Nat) - 1:Int)) (p (sb rfl rfl (bm (by omega))) (p ak (nl ?_))))))))
 exact tn (⟨_,by omega,k - 1,Go.Sort.siftDown bo (b - a) a (k - 1) A,(by omega),((by rw [← hq,HH (show 0 < k by omega)])),aD,(Md.trans M ar),rfl,rfl,rfl,rfl,(iv (by omega)),rfl⟩)
 refine ext (te _ (te _ (be (tn (am _ _ (U (fun _ V=>(ag (ae (b - a)) ?_))))))))
 refine p (cM ((b - a - 1:Nat):Int) rfl rfl (aR (by omega) (by omega))) (aj (((V _ _ (aA (lp (fun J I E=> ∃ (k:Nat) (A:Array Nat),(k≤b - a)∧(Go.Sort.heapPop bo a k A=Go.Sort.heapSort bo d a b)∧(E.ownsRow B 71 1 (.slice j n cp) n (LE aO A))∧(Md (fun q=>(Value.slice j n cp).ownBlock=some q) w E)∧(I 0= .slice j n cp)∧(I 6=ae a)∧(I 7= .int .i64 0)∧(I 8=ae (b - a))∧(I 10= .int .i64 ((k:Nat) - 1:Int))∧(k=J)) _ ⟨b - a,A,(by omega),((by rw [show k=0 by omega,HI] at hq; rw [hq]; rfl)),C,M,rfl,rfl,rfl,rfl,(iv (by omega)),rfl⟩ ?_))))))
 rintro J I E ⟨k,A,a2,hq2,C,M,aW,aY,aZ,a0,aX,rfl⟩
 refine fx 0 aW (fx 6 aY (fx 7 aZ (fx 8 a0 (fx 10 aX (sq (fun _ aq=>U (fun _ ab=>(ag (.int .i64 ((k:Nat) - 1:Int)) (p (ge rfl rfl) (au ((ab _ _ ?_))))))))))))
 refine cd rfl (fun aK=> ?_) (fun aK=> ?_)
 refine az (tn (aq _ _ (sq (fun _ ac=>aA (sq (fun _ ah=> ?_))))))
 have hdcn:=dT C
 have s:(fun w'=>Wk E w') E.drew:=(Md.refl _ _).drew
 refine dH (fun w'=>Wk E w') 17 rfl wide s (a4 0 rfl (.slice j n cp) s (a4 1 rfl (ae a) s (a4 2 rfl (.slice j n cp) s (a4 3 rfl (ae a) s (a4 4 rfl (.int .i64 ((k:Nat) - 1:Int)) s (a6 5 rfl (fun _=>bc ((a+(k - 1):Nat):Int) rfl rfl (aR (by omega) (by omega))) (fun _=>s) (a4 6 rfl (.slice j n cp) s ?_)))))))
 refine a4 7 rfl (ae a) s (a4 8 rfl (.int .i64 ((k:Nat) - 1:Int)) s (a6 9 rfl (fun _=>bc ((a+(k - 1):Nat):Int) rfl rfl (aR (by omega) (by omega))) (fun _=>s) (a6 10 rfl (fun _=>aJ bl rfl rfl (by omega) (aw.ok ((aM C).2) (bw (by omega)))) (fun _=>s) (cT 11 rfl (fun w' O=>ld bL rfl (b0 (i:=a+(k - 1)) ((aM C).2.wk O) (by omega))) s (a4 12 rfl (.slice j n cp) s (a4 13 rfl (ae a) s (a6 14 rfl (fun _=>aJ bl rfl rfl (by omega) (aw.ok ((aM C).2) (bw (by omega)))) (fun _=>s) ?_)))))))
 refine cT 15 rfl (fun w' O=>ld bL rfl (b0 (i:=a) ((aM C).2.wk O) (by omega))) s (a6 16 rfl (fun _=>aJ bl rfl rfl (by omega) (aw.ok ((aM C).2) (bw (by omega)))) (fun _=>s) (cE 17 rfl (by kernel_rfl) (by kernel_rfl) (ep (u:=A[a+(k - 1)]!) (a) (aG C s) dY rfl rfl rfl (by omega) fun a7 ay aL=> ?_)))
 refine a6 18 rfl (fun _=>aJ bl rfl rfl (by omega) (aw.ok ((aM C).2) (bw (by omega)))) (fun h=>Bool.noConfusion ((show true =_ from by kernel_rfl).trans h)) (cE 19 rfl (by kernel_rfl) (by kernel_rfl) (ep (u:=A[a]!) (a+(k - 1)) aL dY rfl rfl rfl (by omega) fun wS2 aB aN=> ?_))
 have O:wS2.ownsRow B 71 1 (.slice j n cp) n (LE aO (Go.Sort.swp A (a) (a+(k - 1)))):=aN
 have ax:Md (fun q=>(Value.slice j n cp).ownBlock=some q) E wS2:=Md.trans (s.mono (fun _ _ h=>h.elim)) (Md.trans ay aB)
 refine dG (by kernel_rfl) ?_
 refine tn (ah _ _ (rg rfl (ag (.slice j n cp) (ag (.int .i64 0) (ag (.int .i64 ((k:Nat) - 1:Int)) (ag (ae a) (e (cl xu (Bo (Go.Sort.swp A a (a+(k - 1))) 0 (k - 1) a _ _ B n cp j _ O (by omega) rfl (by omega) Z) rfl fun a5 w55 aH=> ?_))))))))
 obtain ⟨rfl,aE,av⟩:=aH
 refine nl (bn (tn (ac _ _ (rg rfl (ag (.int .i64 ((k:Nat) - 1:Int)) (p (sb rfl rfl (bm (by omega))) (p ak (nl ?_))))))))
 exact tn (⟨_,by omega,k - 1,Go.Sort.siftDown bo (k - 1) a 0 (Go.Sort.swp A a (a+(k - 1))),(by omega),((by rw [← hq2,H7 (show 0 < k by omega)])),aE,(Md.trans M (Md.trans ax av)),rfl,rfl,rfl,rfl,(iv (by omega)),rfl⟩)
 refine ext (te _ (te _ (be (f0 rfl ?_))))
 exact ⟨rfl,by rw [← hq2,show k=0 by omega]; exact C,M⟩
theorem Kx (d:Array Nat) (a b:Nat) (B n cp:Nat) (A:Option Addr) (w:World) (am:w.ownsRow B 71 1 (.slice A n cp) n (LE aO d)) (ax:a < b∧b≤n) (ay:n≤1099511627776):
 aU Tryz.prog 160 (List.toArray [.slice A n cp,ae a,ae b]) w (fun v w'=>v= .tuple #[]∧w'.ownsRow B 71 1 (.slice A n cp) n (LE aO (Go.Sort.reverseRange d a b))∧Md (fun q=>(Value.slice A n cp).ownBlock=some q) w w'):=by
 refine enter Tryz.func160 rfl Tryz.ntmps160 rfl ?_
 refine U (fun _ V=>(ag (ae a) (p (bF (ae a) rfl) (au ((V _ _ (U (fun _ Y=> ?_))))))))
 refine ag (ae b) (p (cM ((b - 1:Nat):Int) rfl rfl (aR (by omega) (by omega))) (aj (((Y _ _ (aA (lp (fun M J G=> ∃ (i j:Nat) (E:Array Nat),(i≤n∧j < n)∧(Go.Sort.reverseLoop i j E=Go.Sort.reverseRange d a b)∧(G.ownsRow B 71 1 (.slice A n cp) n (LE aO E))∧(Md (fun q=>(Value.slice A n cp).ownBlock=some q) w G)∧(J 0= .slice A n cp)∧(J 6=ae i)∧(J 7=ae j)∧(j - i=M)) _ ⟨a,b - 1,d,(by omega),rfl,am,(Md.refl _ _),rfl,rfl,rfl,rfl⟩ ?_)))))))
 rintro M J G ⟨i,j,E,hi,hq,C,O,aq,ar,av,rfl⟩
 refine fx 0 aq (fx 6 ar (fx 7 av (sq (fun _ Z=>U (fun _ aa=>(ag (ae i) (ag (ae j) (p (lt rfl rfl) (nl ?_)))))))))
 refine tn (aa _ _ (cd rfl (fun an=> ?_) (fun an=> ?_)))
 refine az (tn (Z _ _ (aA (sq (fun _ ab=> ?_)))))
 have hdcn:=dT C
 have s:(fun w'=>Wk G w') G.drew:=(Md.refl _ _).drew
 refine dH (fun w'=>Wk G w') 13 rfl wide s (a4 0 rfl (.slice A n cp) s (a4 1 rfl (ae i) s (a4 2 rfl (.slice A n cp) s (a4 3 rfl (ae j) s (a4 4 rfl (.slice A n cp) s (a4 5 rfl (ae j) s (a6 6 rfl (fun _=>aJ bl rfl rfl (by omega) (aw.ok ((aM C).2) (bw (by omega)))) (fun _=>s) ?_)))))))
 refine cT 7 rfl (fun w' I=>ld bL rfl (b0 (i:=j) ((aM C).2.wk I) (by omega))) s (a4 8 rfl (.slice A n cp) s (a4 9 rfl (ae i) s (a6 10 rfl (fun _=>aJ bl rfl rfl (by omega) (aw.ok ((aM C).2) (bw (by omega)))) (fun _=>s) (cT 11 rfl (fun w' I=>ld bL rfl (b0 (i:=i) ((aM C).2.wk I) (by omega))) s (a6 12 rfl (fun _=>aJ bl rfl rfl (by omega) (aw.ok ((aM C).2) (bw (by omega)))) (fun _=>s) (cE 13 rfl (by kernel_rfl) (by kernel_rfl) (ep (u:=E[j]!) (i) (aG C s) dY rfl rfl rfl (by omega) fun aB ai ao=> ?_)))))))
 refine a6 14 rfl (fun _=>aJ bl rfl rfl (by omega) (aw.ok ((aM C).2) (bw (by omega)))) (fun h=>Bool.noConfusion ((show true =_ from by kernel_rfl).trans h)) (cE 15 rfl (by kernel_rfl) (by kernel_rfl) (ep (u:=E[i]!) (j) ao dY rfl rfl rfl (by omega) fun wS2 al ap=> ?_))
 have I:wS2.ownsRow B 71 1 (.slice A n cp) n (LE aO (Go.Sort.swp E (i) (j))):=ap
 have ah:Md (fun q=>(Value.slice A n cp).ownBlock=some q) G wS2:=Md.trans (s.mono (fun _ _ h=>h.elim)) (Md.trans ai al)
 refine dG (by kernel_rfl) ?_
 refine tn (ab _ _ (U (fun _ ac=>(ag (ae i) (p (bc ((i+1:Nat):Int) rfl rfl (aR (by omega) (by omega))) (aj (((ac _ _ ?_)))))))))
 exact rg rfl (ag (ae j) (p (cM ((j - 1:Nat):Int) rfl rfl (aR (by omega) (by omega))) (p ak (nl (bn (tn (⟨_,by omega,i+1,j - 1,Go.Sort.swp E i j,(by omega),((by rw [← hq,Kv (show i < j by omega)])),I,(Md.trans O ah),rfl,rfl,rfl,rfl⟩)))))))
 refine ext (te _ (te _ (be (f0 rfl ?_))))
 exact ⟨rfl,by rw [← hq,Kw (by omega)]; exact C,O⟩
end Go.Hb.mo
end
section
set_option maxRecDepth 20000
set_option maxHeartbeats 1000000
namespace Go.Hb.pk
open Go.Hb.di
open Go.Proofs
open Go.Hb.mo
theorem L0 {n:Nat} {l:List UInt8} (h:n < 256) (hl:∀ k:Fin 256,(l.getD k.val 0).toNat=gU k.val):IntKind.i64.wrap ((l.getD n 0).toNat:Int)=(gU n:Int):=by
 rw [hl ⟨n,h⟩]; have :=qO h; exact bm (by simp only; omega)
theorem KX {k:Nat} (h:k≤8):IntKind.u64.wrap ((1:Int)*2 ^ min ((k:Nat):Int).toNat IntKind.u64.bits)=((2 ^ k:Nat):Int):=by
 have h2:(IntKind.u64.bits:Nat)=64:=rfl
 rw [Int.toNat_natCast,h2,Nat.min_eq_left (by omega),Int.one_mul]
 have h3:(2:Nat) ^ k≤2 ^ 8:=Nat.pow_le_pow_right (by decide) h
 have h4:((2:Int) ^ k)=((2 ^ k:Nat):Int):=by simp
 rw [h4]
 obtain ⟨m,hm⟩:∃ m:Nat,2 ^ k=m:=⟨_,rfl⟩
 rw [hm] at h3 ⊢; exact kO (by omega)
theorem JZ {d d1 d2:Array Nat} {a b i j:Nat} (h:Go.Sort.PermIn a b d d1) (hi:a≤i∧i < b) (p:a≤j∧j < b) (hb:b≤d1.size) (h2:d2=Go.Sort.swp d1 i j):Go.Sort.PermIn a b d d2:=by
 subst h2; exact Go.Sort.permIn_trans _ _ _ a b h (Go.Sort.swp_permIn d1 a b i j hi.1 hi.2 p.1 p.2 hb)
theorem uA (d:Array Nat) (i j s lo hi G:Nat) (B n cp:Nat) (E:Option Addr) (w:World) (A:w.ownsRow B 71 1 (.slice E n cp) n (LE aO d)) (hB:bG w.heap G [ae s]) (hbs:(Value.slice E n cp).ownBlock≠some G) (hr:lo≤i∧i < hi∧lo≤j∧j < hi∧hi≤n) (hs:s≤1000) (al:n≤1099511627776):
 aU Tryz.prog 186 (List.toArray [.slice E n cp,ae i,ae j,aH G]) w (fun v w'=> ∃ M O s1:Nat,v= .tuple #[ae M,ae O]∧(lo≤M∧M < hi)∧(lo≤O∧O < hi)∧s1≤s+1∧bG w'.heap G [ae s1]∧w'.ownsRow B 71 1 (.slice E n cp) n (LE aO d)∧Md (fun q=>q=G) w w'):=by
 refine enter Tryz.func186 rfl Tryz.ntmps186 rfl ?_
 refine U (fun _ Y=>(p ak (aj (((Y _ _ (sq (fun _ Z=>sq (fun _ aa=> ?_)))))))))
 have hdn:=dT A
 have a:(fun w'=>Wk w w') w.drew:=(Md.refl _ _).drew
 refine bD (fun w'=>Wk w w') rfl wide a (bd 0 rfl (.slice E n cp) a (bd 1 rfl (ae j) a (aB 2 rfl (fun _ _=>aJ bl rfl rfl (by omega) (aw.ok ((aM A).2) (bw (by omega)))) a (aB 3 rfl (fun w' J=>ld bL rfl (b0 (i:=j) ((aM A).2.wk J) (by omega))) a (bd 4 rfl (.slice E n cp) a (bd 5 rfl (ae i) a (aB 6 rfl (fun _ _=>aJ bl rfl rfl (by omega) (aw.ok ((aM A).2) (bw (by omega)))) a ?_)))))))
 refine aB 7 rfl (fun w' J=>ld bL rfl (b0 (i:=i) ((aM A).2.wk J) (by omega))) a (he 8 rfl (by kernel_rfl) (cl iL (iR d[j]! d[i]! _) rfl fun am w18 ai=> ?_))
 obtain ⟨rfl,ah⟩:=ai
 have C:(fun w'=>Wk w w') w18:=Md.trans a ah
 refine ⟨C,?_⟩
 refine hn (by kernel_rfl) (tn (aa _ _ (cb rfl (fun hc18=> ?_) (fun hc18=> ?_))))
 have hB18:=C.B hB
 have hO18:=aG A C
 refine U (fun _ I=>(ag (aH G) (p (nc rfl) (p (ld bT rfl (hB18.aE 0)) (p (bc ((s+1:Nat):Int) rfl rfl (aR (by omega) (by omega))) (p (nc rfl) (e (st fV rfl rfl (rfl) (hB18) (by simp) fun wt2_5 V ac=> ?_))))))))
 refine au ((I _ _ (U (fun _ ab=>(ag (ae j) (ag (ae i) (p (bF (ae j) rfl) (p (bF (ae i) rfl) ?_))))))))
 exact au ((ab _ _ (rt (tr (f2 rfl rfl rfl (⟨j,i,s+1,rfl,by omega,by omega,by omega,ac,bS hO18 V (fun k hk h=>hbs (h ▸ hk)),Md.trans (C.mono (fun _ _ h=>h.elim)) V⟩))))))
 refine az (tn (Z _ _ (U (fun _ I=>(ag (ae i) (ag (ae j) (p (bF (ae i) rfl) (p (bF (ae j) rfl) ?_))))))))
 exact au ((I _ _ (rt (f2 rfl rfl rfl (⟨i,j,s,rfl,by omega,by omega,by omega,C.B hB,aG A C,C.mono (fun _ _ h=>h.elim)⟩)))))
theorem Ai (d:Array Nat) (i j k s lo hi a:Nat) (B n cp:Nat) (A:Option Addr) (w:World) (ab:w.ownsRow B 71 1 (.slice A n cp) n (LE aO d)) (hB:bG w.heap a [ae s]) (hbs:(Value.slice A n cp).ownBlock≠some a) (hr:(lo≤i∧i < hi)∧(lo≤j∧j < hi)∧(lo≤k∧k < hi)∧hi≤n) (hs:s≤900) (C:n≤1099511627776):
 aU Tryz.prog 179 (List.toArray [.slice A n cp,ae i,ae j,ae k,aH a]) w (fun v w'=> ∃ E s1:Nat,v=ae E∧(lo≤E∧E < hi)∧s1≤s+3∧bG w'.heap a [ae s1]∧w'.ownsRow B 71 1 (.slice A n cp) n (LE aO d)∧Md (fun q=>q=a) w w'):=by
 refine enter Tryz.func179 rfl Tryz.ntmps179 rfl ?_
 refine U (fun _ G=>(aj (((G _ _ (U (fun _ I=>(ag (.slice A n cp) ?_))))))))
 refine ag (ae i) (ag (ae j) (ag (aH a) (e (cl su (uA d i j s lo hi a B n cp A _ ab hB hbs (by omega) (by omega) C) rfl fun aC w16 hR16=> ?_))))
 obtain ⟨i1,ao,s1,rfl,au,aw,hs1,hB1,ac,Y⟩:=hR16
 refine p mv (p (xt rfl rfl) (p (xt rfl rfl) (p ak (aj (((I _ _ (sq (fun _ J=> ?_)))))))))
 refine rg rfl (ag (.slice A n cp) (p mv (ag (ae k) (ag (aH a) (e (cl su (uA d ao k s1 lo hi a B n cp A _ ac hB1 hbs (by omega) (by omega) C) rfl fun aD aF al=> ?_))))))
 obtain ⟨ap,aB,s2,rfl,ax,ay,az,hB2,ah,Z⟩:=al
 refine p mv (p (xt rfl rfl) (p (xt rfl rfl) (p ak (aj (((J _ _ (sq (fun _ M=> ?_)))))))))
 refine rg rfl (ag (.slice A n cp) (p mv (p mv (ag (aH a) (e (cl su (uA d i1 ap s2 lo hi a B n cp A _ ah hB2 hbs (by omega) (by omega) C) rfl fun aE aG am=> ?_))))))
 obtain ⟨i3,aq,ar,rfl,av,an,aA,V,ai,aa⟩:=am
 refine p mv (p (xt rfl rfl) (p (xt rfl rfl) (p ak (aj (((M _ _ (sq (fun _ O=> ?_)))))))))
 exact rg rfl (p mv (aj (((O _ _ (rt (f1 rfl rfl (⟨aq,ar,rfl,an,by omega,V,ai,Md.trans Y (Md.trans Z aa)⟩))))))))
theorem ui (d:Array Nat) (i s lo hi a:Nat) (B n cp:Nat) (j:Option Addr) (w:World) (G:w.ownsRow B 71 1 (.slice j n cp) n (LE aO d)) (hB:bG w.heap a [ae s]) (hbs:(Value.slice j n cp).ownBlock≠some a) (hr:lo+1≤i∧i+1 < hi∧hi≤n) (hs:s≤900) (J:n≤1099511627776):
 aU Tryz.prog 178 (List.toArray [.slice j n cp,ae i,aH a]) w (fun v w'=> ∃ A s1:Nat,v=ae A∧(lo≤A∧A < hi)∧s1≤s+3∧bG w'.heap a [ae s1]∧w'.ownsRow B 71 1 (.slice j n cp) n (LE aO d)∧Md (fun q=>q=a) w w'):=by
 refine enter Tryz.func178 rfl Tryz.ntmps178 rfl ?_
 refine U (fun _ C=>(aj (((C _ _ (U (fun _ E=>(ag (.slice j n cp) ?_))))))))
 refine ag (ae i) (p (cM ((i - 1:Nat):Int) rfl rfl (aR (by omega) (by omega))) (ag (ae i) (ag (ae i) (p (bc ((i+1:Nat):Int) rfl rfl (aR (by omega) (by omega))) (ag (aH a) (e (cl xv (Ai d (i - 1) i (i+1) s lo hi a B n cp j _ G hB hbs (by omega) (by omega) J) rfl fun M w14 I=>p ak ?_)))))))
 exact au ((E _ _ (rt (f1 rfl rfl (I)))))
theorem ED (d:Array Nat) (a b:Nat) (B n cp:Nat) (i:Option Addr) (w:World) (aa:w.ownsRow B 71 1 (.slice i n cp) n (LE aO d)) (a8:a+12 < b∧b≤n) (E:n≤1099511627776):
 aU Tryz.prog 159 (List.toArray [.slice i n cp,ae a,ae b]) w (fun v w'=> ∃ (Y:Nat) (hv:Int),v= .tuple #[ae Y,.int .i64 hv]∧(a≤Y∧Y < b)∧w'.ownsRow B 71 1 (.slice i n cp) n (LE aO d)∧Wk w w'):=by
 refine enter Tryz.func159 rfl Tryz.ntmps159 rfl ?_
 refine U (fun _ ab=>(p ak (aj (((ab _ _ (U (fun _ ac=> ?_))))))))
 refine ag (ae b) (ag (ae a) (p (cM ((b - a:Nat):Int) rfl rfl (aR (by omega) (by omega))) (aj (((ac _ _ (U (fun _ ah=> ?_))))))))
 refine e (al Mz fun b9 w9 hb9 O Z=> ?_)
 have hO9:=aG aa O.md
 have hbs:(Value.slice i n cp).ownBlock≠some b9:=fun h=>by have :=cG aa h; omega
 refine au ((ah _ _ (U (fun _ ai=>(ag (ae a) (p mv (p (ma (((b - a) / 4:Nat):Int) rfl rfl (by omega) (aR (by omega) (by omega))) (p (kF (((b - a) / 4:Nat):Int) rfl rfl (aR (by omega) (by omega))) ?_))))))))
 refine p (bc ((a+(b - a) / 4:Nat):Int) rfl rfl (aR (by omega) (by omega))) (aj (((ai _ _ (U (fun _ am=>(ag (ae a) (p mv ?_))))))))
 refine p (ma (((b - a) / 4:Nat):Int) rfl rfl (by omega) (aR (by omega) (by omega))) (p (kF (((b - a) / 4 *2:Nat):Int) rfl rfl (aR (by omega) (by omega))) (p (bc ((a+(b - a) / 4 *2:Nat):Int) rfl rfl (aR (by omega) (by omega))) (aj (((am _ _ (U (fun _ an=> ?_))))))))
 refine ag (ae a) (p mv (p (ma (((b - a) / 4:Nat):Int) rfl rfl (by omega) (aR (by omega) (by omega))) (p (kF (((b - a) / 4 *3:Nat):Int) rfl rfl (aR (by omega) (by omega))) (p (bc ((a+(b - a) / 4 *3:Nat):Int) rfl rfl (aR (by omega) (by omega))) (aj (((an _ _ ?_))))))))
 refine sq (fun _ ao=>U (fun _ ap=>(p mv (p (ge rfl rfl) (au ((ap _ _ (cd rfl (fun a9=> ?_) (fun h=>absurd (by omega) h)))))))))
 refine c7 (fun j wC=> ∃ (q s A G:Nat),(a≤q∧q < b)∧(a≤s∧s < b)∧(a≤A∧A < b)∧(G≤9)∧(bG wC.heap b9 [ae G])∧(wC.ownsRow B 71 1 (.slice i n cp) n (LE aO d))∧(Wk w wC)∧(j 0= .slice i n cp)∧(j 1=ae a)∧(j 2=ae b)∧(j 8=ae (b - a))∧(j 9=aH b9)∧(j 10=ae q)∧(j 11=ae s)∧(j 12=ae A)) ?_ ?_
 refine U (fun _ M=>(p mv (p (ge rfl rfl) (au ((M _ _ (cd rfl (fun aP=> ?_) (fun aP=> ?_))))))))
 refine U (fun _ I=>(ag (.slice i n cp) (p mv (e (cl ss (ui d (a+(b - a) / 4) 0 a b b9 B n cp i _ hO9 Z hbs (by omega) (by omega) E) rfl fun bl w37 aK=> ?_)))))
 obtain ⟨i1,s1,rfl,aT,hs1,hB1,aD,ax⟩:=aK
 refine aj (((I _ _ (U (fun _ C=>(ag (.slice i n cp) (p mv (e (cl ss (ui d (a+(b - a) / 4 *2) s1 a b b9 B n cp i _ aD hB1 hbs (by omega) (by omega) E) rfl fun bm w40 aL=> ?_)))))))))
 obtain ⟨a5,s2,rfl,aV,bg,hB2,aF,ay⟩:=aL
 refine aj (((C _ _ (rg rfl (ag (.slice i n cp) (p mv (e (cl ss (ui d (a+(b - a) / 4 *3) s2 a b b9 B n cp i _ aF hB2 hbs (by omega) (by omega) E) rfl fun bn w43 aM=> ?_))))))))
 obtain ⟨a6,a7,rfl,aW,bh,aq,aI,aB⟩:=aM
 exact aj (((⟨i1,a5,a6,a7,aT,aV,aW,(by omega),aq,aI,(Md.trans' O.md (Md.trans ax (Md.trans ay aB)) (fun k hk h=>by omega)),rfl,rfl,rfl,rfl,rfl,rfl,rfl,rfl⟩)))
 exact az (tn (⟨a+(b - a) / 4,a+(b - a) / 4 *2,a+(b - a) / 4 *3,0,(by omega),(by omega),(by omega),(by omega),Z,hO9,O.md,rfl,rfl,rfl,rfl,rfl,rfl,rfl,rfl⟩))
 rintro j wC ⟨q,s,A,G,ba,bb,bd,bj,av,aJ,aw,aX,aY,a2,a3,a4,aZ,a0,a1⟩
 refine fx 0 aX (fx 1 aY (fx 2 a2 (fx 8 a3 (fx 9 a4 (fx 10 aZ (fx 11 a0 (fx 12 a1 (rg rfl (ag (.slice i n cp) (ag (ae q) (ag (ae s) (ag (ae A) (e (cl xv (Ai d q s A G a b b9 B n cp i _ aJ av hbs (by omega) (by omega) E) rfl fun bo w48 aN=> ?_))))))))))))))
 obtain ⟨q1,bk,rfl,hq1,bi,ar,V,aC⟩:=aN
 have hE4:Wk w w48:=Md.trans' aw aC (fun k hk h=>by omega)
 refine aj (((ao _ _ (U (fun _ M=>(p (ld bT rfl (ar.aE 0)) (au ((M _ _ ?_)))))))))
 refine aA (U (fun _ I=>(p (bf rfl rfl) (aj (((I _ _ (cd rfl (fun aQ=> ?_) (fun aQ=> ?_)))))))))
 refine U (fun _ C=>(p mv (p ak (aj (((C _ _ (rt ?_))))))))
 exact br (f2 rfl rfl rfl (⟨q1,_,rfl,hq1,V,hE4⟩))
 refine U (fun _ C=>(p (bf rfl rfl) (aj (((C _ _ (cd rfl (fun aS=> ?_) (fun aS=> ?_))))))))
 refine U (fun _ J=>(p mv (p ak (aj (((J _ _ (rt ?_))))))))
 exact br (f2 rfl rfl rfl (⟨q1,_,rfl,hq1,V,hE4⟩))
 refine U (fun _ J=>(p mv (p ak (aj (((J _ _ (rt ?_))))))))
 exact br (f2 rfl rfl rfl (⟨q1,_,rfl,hq1,V,hE4⟩))
theorem Jp (a:Nat) (r:Int) (w:World) (hB:bG w.heap a [.int .u64 r]):
 aU Tryz.prog 177 (List.toArray [aH a]) w (fun v w'=> ∃ C:Int,v= .int .u64 C∧0≤C∧C < 18446744073709551616∧bG w'.heap a [.int .u64 C]∧Md (fun q=>q=a) w w'):=by
 refine enter Tryz.func177 rfl Tryz.ntmps177 rfl ?_
 refine U (fun _ O=>(aj (((O _ _ (sq (fun _ V=> ?_)))))))
 have j:(fun w'=>Wk w w') w.drew:=(Md.refl _ _).drew
 refine dH (fun w'=>Wk w w') 9 rfl wide j (lq 0 rfl (by kernel_rfl) (fun _ _=>aC (aH a) rfl) j (lq 1 rfl (by kernel_rfl) (fun _ _=>nc rfl) j (lq 2 rfl (by kernel_rfl) (fun w' i=>ld mr rfl (Wk.aE i (hB.aE 0))) j (lq 3 rfl (by kernel_rfl) (fun _ _=>aC (aH a) rfl) j (lq 4 rfl (by kernel_rfl) (fun _ _=>nc rfl) j (lq 5 rfl (by kernel_rfl) (fun w' i=>ld mr rfl (Wk.aE i (hB.aE 0))) j (lq 6 rfl (by kernel_rfl) (fun _ _=>shl rfl rfl (by decide) rfl) j ?_)))))))
 refine lq 7 rfl (by kernel_rfl) (fun _ _=>r9 rfl rfl rfl) j (lq 8 rfl (by kernel_rfl) (fun _ _=>nc rfl) j (cE 9 rfl (by kernel_rfl) (by kernel_rfl) (st p7 rfl rfl (rfl) (j.B hB) (by simp) fun I ab E=> ?_)))
 refine dG (by kernel_rfl) ?_
 refine tn (V _ _ (sq (fun _ Y=> ?_)))
 have s:(fun w'=>Wk I w') I.drew:=(Md.refl _ _).drew
 refine dH (fun w'=>Wk I w') 9 rfl wide s (lq 0 rfl (by kernel_rfl) (fun _ _=>aC (aH a) rfl) s (lq 1 rfl (by kernel_rfl) (fun _ _=>nc rfl) s (lq 2 rfl (by kernel_rfl) (fun w' i=>ld mr rfl (Wk.aE i (E.aE 0))) s (lq 3 rfl (by kernel_rfl) (fun _ _=>aC (aH a) rfl) s (lq 4 rfl (by kernel_rfl) (fun _ _=>nc rfl) s (lq 5 rfl (by kernel_rfl) (fun w' i=>ld mr rfl (Wk.aE i (E.aE 0))) s (lq 6 rfl (by kernel_rfl) (fun _ _=>shr rfl rfl (by decide) rfl) s ?_)))))))
 refine lq 7 rfl (by kernel_rfl) (fun _ _=>r9 rfl rfl rfl) s (lq 8 rfl (by kernel_rfl) (fun _ _=>nc rfl) s (cE 9 rfl (by kernel_rfl) (by kernel_rfl) (st p7 rfl rfl (rfl) (s.B E) (by simp) fun J ac G=> ?_)))
 refine dG (by kernel_rfl) ?_
 refine tn (Y _ _ (sq (fun _ Z=> ?_)))
 have A:(fun w'=>Wk J w') J.drew:=(Md.refl _ _).drew
 refine dH (fun w'=>Wk J w') 9 rfl wide A (lq 0 rfl (by kernel_rfl) (fun _ _=>aC (aH a) rfl) A (lq 1 rfl (by kernel_rfl) (fun _ _=>nc rfl) A (lq 2 rfl (by kernel_rfl) (fun w' i=>ld mr rfl (Wk.aE i (G.aE 0))) A (lq 3 rfl (by kernel_rfl) (fun _ _=>aC (aH a) rfl) A (lq 4 rfl (by kernel_rfl) (fun _ _=>nc rfl) A (lq 5 rfl (by kernel_rfl) (fun w' i=>ld mr rfl (Wk.aE i (G.aE 0))) A (lq 6 rfl (by kernel_rfl) (fun _ _=>shl rfl rfl (by decide) rfl) A ?_)))))))
 refine lq 7 rfl (by kernel_rfl) (fun _ _=>r9 rfl rfl rfl) A (lq 8 rfl (by kernel_rfl) (fun _ _=>nc rfl) A (cE 9 rfl (by kernel_rfl) (by kernel_rfl) (st p7 rfl rfl (rfl) (A.B G) (by simp) fun ah ae M=> ?_)))
 refine dG (by kernel_rfl) ?_
 refine tn (Z _ _ (U (fun _ aa=>(ag (aH a) (p (nc rfl) (p (ld mr rfl (M.aE 0)) (p ak (nl ?_))))))))
 refine tn (aa _ _ (rt (f1 rfl rfl ?_)))
 refine ⟨_,rfl,(BU _).1,(BU _).2,M,?_⟩
 exact Md.trans (Md.refl _ _).drew (Md.trans ab (Md.trans (Md.refl _ _).drew (Md.trans ac (Md.trans (Md.refl _ _).drew ae))))
theorem IQ (n:Nat) (w:World) (hn:n < 256):
 aU Tryz.prog 166 (List.toArray [.int .u64 (n:Nat)]) w (fun v w'=>v=ae (gU n)∧Wk w w'):=by
 have hll:=qO hn
 refine enter Tryz.func166 rfl Tryz.ntmps166 rfl ?_
 refine U (fun _ a=>(aj (((a _ _ (sq (fun _ i=>U (fun _ j=> ?_))))))))
 refine ag (.int .u64 (n:Nat)) (p (ge rfl rfl) (au ((j _ _ (cd rfl (fun h=>absurd h (by omega)) (fun I=> ?_))))))
 refine az (tn (i _ _ (sq (fun _ q=>U (fun _ s=>(ag (.int .u64 (n:Nat)) (p (ge rfl rfl) (nl ?_))))))))
 refine tn (s _ _ (cd rfl (fun h=>absurd h (by omega)) (fun hc8=> ?_)))
 refine az (tn (q _ _ (sq (fun _ A=>U (fun _ C=>(ag (.int .u64 (n:Nat)) (p (ge rfl rfl) (nl ?_))))))))
 refine tn (C _ _ (cd rfl (fun h=>absurd h (by omega)) (fun G=> ?_)))
 refine az (tn (A _ _ (U (fun _ E=>(ag (.int .i64 0) (ag (.int .u64 (n:Nat)) (p (ot u5 L9 rfl (nW (by omega))) (p (dA u9 rfl rfl (by have :n < 256:=hn; simpa using this)) ?_))))))))
 exact p (ir u3 lC rfl (L0 hn (by decide+kernel))) (p (bc ((gU n:Nat):Int) rfl rfl (aR (by omega) (by omega))) (aj (((E _ _ (rt (f1 rfl rfl (⟨rfl,Md.refl _ _⟩))))))))
theorem Aa (n:Nat) (w:World) (hn:n < 256):
 aU Tryz.prog 139 (List.toArray [.int .u64 (n:Nat)]) w (fun v w'=>v=ae (gU n)∧Wk w w'):=by
 refine enter Tryz.func139 rfl Tryz.ntmps139 rfl ?_
 refine U (fun _ a=>(aj (((a _ _ (sq (fun _ i=>cf rfl (az ?_))))))))
 refine tn (i _ _ (U (fun _ j=>(ag (.int .u64 (n:Nat)) (e (cl DN (IQ n _ hn) rfl fun p w7 hR7=>aj (((j _ _ ?_)))))))))
 exact rt (f1 rfl rfl (hR7))
theorem Jq (n:Nat) (w:World) (hn:n < 256):
 aU Tryz.prog 176 (List.toArray [ae n]) w (fun v w'=>v= .int .u64 (2 ^ gU n:Nat)∧Wk w w'):=by
 refine enter Tryz.func176 rfl Tryz.ntmps176 rfl ?_
 refine U (fun _ a=>(aj (((a _ _ (U (fun _ i=>(ag (ae n) ?_))))))))
 refine p (ir BT mi rfl (kO (by omega))) (e (cl xo (Aa n _ hn) rfl fun j w5 hR5=> ?_))
 obtain ⟨rfl,hE5⟩:=hR5
 have hll:=qO hn
 exact p (shl rfl rfl (by omega) (KX hll)) (aj (((i _ _ (rt (f1 rfl rfl (⟨rfl,hE5⟩)))))))
theorem C0 (d:Array Nat) (a b:Nat) (B n cp:Nat) (s:Option Addr) (w:World) (ao:w.ownsRow B 71 1 (.slice s n cp) n (LE aO d)) (bk:a+12 < b∧b≤n) (bp:n≤255):
 aU Tryz.prog 158 (List.toArray [.slice s n cp,ae a,ae b]) w (fun v w'=> ∃ d1,v= .tuple #[]∧Go.Sort.PermIn a b d d1∧w'.ownsRow B 71 1 (.slice s n cp) n (LE aO d1)∧Md (fun q=>(Value.slice s n cp).ownBlock=some q) w w'):=by
 refine enter Tryz.func158 rfl Tryz.ntmps158 rfl ?_
 refine U (fun _ ap=>(ag (ae b) (ag (ae a) (p (cM ((b - a:Nat):Int) rfl rfl (aR (by omega) (by omega))) (aj (((ap _ _ ?_))))))))
 refine U (fun _ ar=>(p mv (p (ge rfl rfl) (au ((ar _ _ (cd rfl (fun hc15=> ?_) (fun h=>absurd (by omega) h))))))))
 refine U (fun _ av=>(p mv (p (ir LW mi rfl (kO (by omega))) (e (al My fun b7 w7 bo aV aK=>e (st p7 rfl rfl (rfl) (aK) (by simp) fun wt2_3 aP aI=> ?_))))))
 have am:Wk w wt2_3:=Md.trans' aV.md aP (fun k hk h=>by omega)
 refine au ((av _ _ (U (fun _ ax=>(p mv (e (cl DT (Jq (b - a) _ (by omega)) rfl fun bt w19 aW=> ?_)))))))
 obtain ⟨rfl,Z⟩:=aW
 have hmr:=IS (n:=b - a) (by omega) (by omega)
 refine aj (((ax _ _ (U (fun _ ay=>(ag (ae a) (p mv (p (ma (((b - a) / 4:Nat):Int) rfl rfl (by omega) (aR (by omega) (by omega))) ?_))))))))
 refine p (kF (((b - a) / 4 *2:Nat):Int) rfl rfl (aR (by omega) (by omega))) (p (bc ((a+(b - a) / 4 *2:Nat):Int) rfl rfl (aR (by omega) (by omega))) (p (cM ((a+(b - a) / 4 *2 - 1:Nat):Int) rfl rfl (aR (by omega) (by omega))) (aj (((ay _ _ (aA ?_)))))))
 have O:(Value.slice s n cp).ownBlock≠some b7:=fun h=>by have :=cG ao h; omega
 refine lp (fun ah J Y=> ∃ (A:Nat) (r:Int) (E:Array Nat),(a+(b - a) / 4 *2 - 1≤A∧A≤a+(b - a) / 4 *2 +2)∧(Go.Sort.PermIn a b d E)∧(bG Y.heap b7 [.int .u64 r])∧(Y.ownsRow B 71 1 (.slice s n cp) n (LE aO E))∧(Md (fun q=>(Value.slice s n cp).ownBlock=some q) w Y)∧(J 0= .slice s n cp)∧(J 1=ae a)∧(J 6=ae (b - a))∧(J 7=aH b7)∧(J 8= .int .u64 (2 ^ gU (b - a):Nat))∧(J 9=ae A)∧(a+(b - a) / 4 *2 +3 - A=ah)) _ ⟨a+(b - a) / 4 *2 - 1,(b - a:Nat),d,(by omega),(Go.Sort.permIn_refl d a b),(Z.B aI),(aG (aG ao am) Z),((Md.trans am Z).mono (fun _ _ h=>h.elim)),rfl,rfl,rfl,rfl,rfl,rfl,rfl⟩ ?_
 rintro ah J Y ⟨A,r,E,hix,aB,aN,ab,aa,a3,a5,a7,a8,a9,ba,rfl⟩
 refine fx 0 a3 (fx 1 a5 (fx 6 a7 (fx 7 a8 (fx 8 a9 (fx 9 ba (sq (fun _ aC=>U (fun _ aD=>(ag (ae A) (ag (ae a) (ag (ae (b - a)) (p (ma (((b - a) / 4:Nat):Int) rfl rfl (by omega) (aR (by omega) (by omega))) ?_))))))))))))
 refine p (kF (((b - a) / 4 *2:Nat):Int) rfl rfl (aR (by omega) (by omega))) (p (bc ((a+(b - a) / 4 *2:Nat):Int) rfl rfl (aR (by omega) (by omega))) (p (bc ((a+(b - a) / 4 *2 +1:Nat):Int) rfl rfl (aR (by omega) (by omega))) (p (le rfl rfl) (au ((aD _ _ (cd rfl (fun aY=> ?_) (fun aY=> ?_))))))))
 refine az (tn (aC _ _ (sq (fun _ aE=>aA (U (fun _ aF=>(e (cl DU (Jp b7 r _ aN) rfl fun bu w36 aX=> ?_))))))))
 obtain ⟨ac,rfl,hr1,bs,ai,V⟩:=aX
 obtain ⟨o,bq,a2⟩:=CR ac (2 ^ gU (b - a)) (by omega)
 have hne:=O
 refine ag (.int .u64 (2 ^ gU (b - a):Nat)) (p (sb rfl rfl (kO (by omega))) (p (pM rfl rfl a2) (p (ot u3 L8 rfl (bm (by omega))) (aj (((aF _ _ ?_)))))))
 refine c7 (fun I wC=> ∃ (C:Nat),(C < b - a)∧(bG wC.heap b7 [.int .u64 ac])∧(wC.ownsRow B 71 1 (.slice s n cp) n (LE aO E))∧(Md (fun q=>(Value.slice s n cp).ownBlock=some q) w wC)∧(I 0= .slice s n cp)∧(I 1=ae a)∧(I 6=ae (b - a))∧(I 7=aH b7)∧(I 8= .int .u64 (2 ^ gU (b - a):Nat))∧(I 9=ae A)∧(I 10=ae C)) ?_ ?_
 refine U (fun _ aq=>(p mv (ag (ae (b - a)) (p (ge rfl rfl) (au ((aq _ _ (cd rfl (fun aZ=> ?_) (fun aZ=> ?_)))))))))
 exact rg rfl (p mv (ag (ae (b - a)) (p (cM ((o - (b - a):Nat):Int) rfl rfl (aR (by omega) (by omega))) (aj (((⟨o - (b - a),(by omega),ai,(bS ab V (fun k hk h=>O (h ▸ hk))),(Md.trans' aa V (fun k hk h=>by omega)),rfl,rfl,rfl,rfl,rfl,rfl,rfl⟩)))))))
 exact az (tn (⟨o,(by omega),ai,(bS ab V (fun k hk h=>O (h ▸ hk))),(Md.trans' aa V (fun k hk h=>by omega)),rfl,rfl,rfl,rfl,rfl,rfl,rfl⟩))
 rintro I wC ⟨C,br,aL,G,aT,bb,bd,bg,bh,bi,bj,bf⟩
 refine fx 0 bb (fx 1 bd (fx 6 bg (fx 7 bh (fx 8 bi (fx 9 bj (fx 10 bf ?_))))))
 have hdcn:=dT G
 have j:(fun w'=>Wk wC w') wC.drew:=(Md.refl _ _).drew
 refine dH (fun w'=>Wk wC w') 17 rfl wide j (a4 0 rfl (.slice s n cp) j (a4 1 rfl (ae A) j (a4 2 rfl (.slice s n cp) j (a4 3 rfl (ae a) j (a4 4 rfl (ae C) j (a6 5 rfl (fun _=>bc ((a+C:Nat):Int) rfl rfl (aR (by omega) (by omega))) (fun _=>j) (a4 6 rfl (.slice s n cp) j ?_)))))))
 refine a4 7 rfl (ae a) j (a4 8 rfl (ae C) j (a6 9 rfl (fun _=>bc ((a+C:Nat):Int) rfl rfl (aR (by omega) (by omega))) (fun _=>j) (a6 10 rfl (fun _=>aJ bl rfl rfl (by omega) (aw.ok ((aM G).2) (bw (by omega)))) (fun _=>j) (cT 11 rfl (fun w' M=>ld bL rfl (b0 (i:=a+C) ((aM G).2.wk M) (by omega))) j (a4 12 rfl (.slice s n cp) j (a4 13 rfl (ae A) j (a6 14 rfl (fun _=>aJ bl rfl rfl (by omega) (aw.ok ((aM G).2) (bw (by omega)))) (fun _=>j) ?_)))))))
 refine cT 15 rfl (fun w' M=>ld bL rfl (b0 (i:=A) ((aM G).2.wk M) (by omega))) j (a6 16 rfl (fun _=>aJ bl rfl rfl (by omega) (aw.ok ((aM G).2) (bw (by omega)))) (fun _=>j) (cE 17 rfl (by kernel_rfl) (by kernel_rfl) (ep (u:=E[a+C]!) (A) (aG G j) dY rfl rfl rfl (by omega) fun bv aQ a0=> ?_)))
 refine a6 18 rfl (fun _=>aJ bl rfl rfl (by omega) (aw.ok ((aM G).2) (bw (by omega)))) (fun h=>Bool.noConfusion ((show true =_ from by kernel_rfl).trans h)) (cE 19 rfl (by kernel_rfl) (by kernel_rfl) (ep (u:=E[A]!) (a+C) a0 dY rfl rfl rfl (by omega) fun wS2 aS a1=> ?_))
 have M:wS2.ownsRow B 71 1 (.slice s n cp) n (LE aO (Go.Sort.swp E (A) (a+C))):=a1
 have an:Md (fun q=>(Value.slice s n cp).ownBlock=some q) wC wS2:=Md.trans (j.mono (fun _ _ h=>h.elim)) (Md.trans aQ aS)
 refine dG (by kernel_rfl) ?_
 refine bn (tn (aE _ _ (rg rfl (ag (ae A) (p (bc ((A+1:Nat):Int) rfl rfl (aR (by omega) (by omega))) (p ak (nl (tn ?_))))))))
 exact ⟨_,by omega,A+1,ac,Go.Sort.swp E A (a+C),(by omega),(JZ aB (by omega) (by omega) (by omega) rfl),(an.B aL (fun h=>O h)),M,(Md.trans aT an),rfl,rfl,rfl,rfl,rfl,rfl,rfl⟩
 refine ext (te _ (te _ (be (f0 rfl ?_))))
 exact ⟨E,rfl,aB,ab,aa⟩
end Go.Hb.pk
end
section
set_option maxRecDepth 20000
set_option maxHeartbeats 1000000
namespace Go.Hb.vN
open Go.Hb.di
open Go.Proofs
open Go.Hb.mo
theorem JR {d:Array Nat} {a b p i j:Nat} (h1:Go.Sort.scanUp (fun x=>bo x (Go.Sort.swp d a p)[a]!) (Go.Sort.swp d a p) (b - 1) (a+1)=i) (h2:Go.Sort.scanDown (fun x=> !bo x (Go.Sort.swp d a p)[a]!) (Go.Sort.swp d a p) i (b - 1)=j) (h:i > j):
 Go.Sort.partition bo d a b p=(j,true,Go.Sort.swp (Go.Sort.swp d a p) j a):=by
 unfold Go.Sort.partition; simp only [h1,h2,if_pos h]
theorem JS {d:Array Nat} {a b p i j q:Nat} {s:Array Nat} (h1:Go.Sort.scanUp (fun x=>bo x (Go.Sort.swp d a p)[a]!) (Go.Sort.swp d a p) (b - 1) (a+1)=i) (h2:Go.Sort.scanDown (fun x=> !bo x (Go.Sort.swp d a p)[a]!) (Go.Sort.swp d a p) i (b - 1)=j) (h:¬i > j)
 (h3:Go.Sort.partLoop bo a (i+1) (j - 1) (Go.Sort.swp (Go.Sort.swp d a p) i j)=(q,s)):
 Go.Sort.partition bo d a b p=(q,false,Go.Sort.swp s q a):=by
 unfold Go.Sort.partition; simp only [h1,h2,if_neg h,h3]
theorem JT (d:Array Nat) (a b A:Nat) (B n cp:Nat) (s:Option Addr) (w:World) (ap:w.ownsRow B 71 1 (.slice s n cp) n (LE aO d)) (c5:a≤A∧A < b∧b≤n) (c9:n≤1099511627776):
 aU Tryz.prog 164 (List.toArray [.slice s n cp,ae a,ae b,ae A]) w (fun v w'=>v= .tuple #[ae ((Go.Sort.partition bo d a b A).1),.bool (Go.Sort.partition bo d a b A).2.1]∧w'.ownsRow B 71 1 (.slice s n cp) n (LE aO (Go.Sort.partition bo d a b A).2.2)∧Md (fun q=>(Value.slice s n cp).ownBlock=some q) w w'):=by
 refine enter Tryz.func164 rfl Tryz.ntmps164 rfl ?_
 refine U (fun _ bu=>(p ak (aj (((bu _ _ (sq (fun _ bv=> ?_))))))))
 have hdn:=dT ap
 have ac:(fun w'=>Wk w w') w.drew:=(Md.refl _ _).drew
 refine dH (fun w'=>Wk w w') 13 rfl wide ac (a4 0 rfl (.slice s n cp) ac (a4 1 rfl (ae a) ac (a4 2 rfl (.slice s n cp) ac (a4 3 rfl (ae A) ac (a4 4 rfl (.slice s n cp) ac (a4 5 rfl (ae A) ac (a6 6 rfl (fun _=>aJ bl rfl rfl (by omega) (aw.ok ((aM ap).2) (bw (by omega)))) (fun _=>ac) ?_)))))))
 refine cT 7 rfl (fun w' E=>ld bL rfl (b0 (i:=A) ((aM ap).2.wk E) (by omega))) ac (a4 8 rfl (.slice s n cp) ac (a4 9 rfl (ae a) ac (a6 10 rfl (fun _=>aJ bl rfl rfl (by omega) (aw.ok ((aM ap).2) (bw (by omega)))) (fun _=>ac) (cT 11 rfl (fun w' E=>ld bL rfl (b0 (i:=a) ((aM ap).2.wk E) (by omega))) ac (a6 12 rfl (fun _=>aJ bl rfl rfl (by omega) (aw.ok ((aM ap).2) (bw (by omega)))) (fun _=>ac) (cE 13 rfl (by kernel_rfl) (by kernel_rfl) (ep (u:=d[A]!) (a) (aG ap ac) dY rfl rfl rfl (by omega) fun de bH cg=> ?_)))))))
 refine a6 14 rfl (fun _=>aJ bl rfl rfl (by omega) (aw.ok ((aM ap).2) (bw (by omega)))) (fun h=>Bool.noConfusion ((show true =_ from by kernel_rfl).trans h)) (cE 15 rfl (by kernel_rfl) (by kernel_rfl) (ep (u:=d[a]!) (A) cg dY rfl rfl rfl (by omega) fun wP12 bI ch=> ?_))
 have bX:wP12.ownsRow B 71 1 (.slice s n cp) n (LE aO (Go.Sort.swp d (a) (A))):=ch
 have bG:Md (fun q=>(Value.slice s n cp).ownBlock=some q) w wP12:=Md.trans (ac.mono (fun _ _ h=>h.elim)) (Md.trans bH bI)
 refine dG (by kernel_rfl) ?_
 refine tn (bv _ _ (U (fun _ bx=>(ag (ae a) (p (bc ((a+1:Nat):Int) rfl rfl (aR (by omega) (by omega))) (ag (ae b) (p (cM ((b - 1:Nat):Int) rfl rfl (aR (by omega) (by omega))) (p ak ?_))))))))
 refine aj (((bx _ _ ?_)))
 refine c7 (fun aN bj=> ∃ (J:Nat),(a+1≤J∧(J=a+1∨J≤b - 1 +1))∧(Go.Sort.scanUp (fun x=>bo x (Go.Sort.swp d a A)[a]!) (Go.Sort.swp d a A) (b - 1) (a+1)=J)∧(bj.ownsRow B 71 1 (.slice s n cp) n (LE aO (Go.Sort.swp d a A)))∧(Md (fun q=>(Value.slice s n cp).ownBlock=some q) w bj)∧(aN 0= .slice s n cp)∧(aN 1=ae a)∧(aN 10=ae J)∧(aN 11=ae (b - 1))) ?_ ?_
 refine aA (lp (fun am aP ax=> ∃ (q:Nat),(a+1≤q∧(q=a+1∨q≤b - 1 +1))∧(Go.Sort.scanUp (fun x=>bo x (Go.Sort.swp d a A)[a]!) (Go.Sort.swp d a A) (b - 1) (q)=Go.Sort.scanUp (fun x=>bo x (Go.Sort.swp d a A)[a]!) (Go.Sort.swp d a A) (b - 1) (a+1))∧(ax.ownsRow B 71 1 (.slice s n cp) n (LE aO (Go.Sort.swp d a A)))∧(Md (fun q=>(Value.slice s n cp).ownBlock=some q) w ax)∧(aP 0= .slice s n cp)∧(aP 1=ae a)∧(aP 10=ae q)∧(aP 11=ae (b - 1))∧(b - 1 +1 - q=am)) _ ⟨a+1,(by omega),rfl,bX,bG,rfl,rfl,rfl,rfl,rfl⟩ ?_)
 rintro am aP ax ⟨q,hq1,hq2,C,al,cw,cx,cy,cz,rfl⟩
 refine fx 0 cw (fx 1 cx (fx 10 cy (fx 11 cz (sq (fun _ aK=>sq (fun _ ar=> ?_))))))
 have hdcn:=dT C
 have Z:(fun w'=>Wk ax w') ax.drew:=(Md.refl _ _).drew
 refine bD (fun w'=>Wk ax w') rfl wide Z (bd 0 rfl (ae q) Z (bd 1 rfl (ae (b - 1)) Z (aB 2 rfl (fun _ _=>le rfl rfl) Z (aB 3 rfl (fun _ _=>mv) Z (iQ (t:=33) rfl (fun cc=> ?_) (fun cc=> ?_))))))
 refine a8 4 rfl (by kernel_rfl) rfl rfl rfl (fun _ _=>aC (.slice s n cp) rfl) Z (a8 5 rfl (by kernel_rfl) rfl rfl rfl (fun _ _=>aC (ae q) rfl) Z (a8 6 rfl (by kernel_rfl) rfl rfl rfl (fun _ _=>aJ bl rfl rfl (by omega) (aw.ok ((aM C).2) (bw (by omega)))) Z (a8 7 rfl (by kernel_rfl) rfl rfl rfl (fun w' E=>ld bL rfl (b0 (i:=q) ((aM C).2.wk E) (by omega))) Z (a8 8 rfl (by kernel_rfl) rfl rfl rfl (fun _ _=>aC (.slice s n cp) rfl) Z (a8 9 rfl (by kernel_rfl) rfl rfl rfl (fun _ _=>aC (ae a) rfl) Z (a8 10 rfl (by kernel_rfl) rfl rfl rfl (fun _ _=>aJ bl rfl rfl (by omega) (aw.ok ((aM C).2) (bw (by omega)))) Z (a8 11 rfl (by kernel_rfl) rfl rfl rfl (fun w' E=>ld bL rfl (b0 (i:=a) ((aM C).2.wk E) (by omega))) Z ?_)))))))
 refine j4 12 rfl (by kernel_rfl) rfl rfl rfl (cl iL (iR (Go.Sort.swp d a A)[q]! (Go.Sort.swp d a A)[a]! _) rfl fun dc w42 b5=> ?_)
 obtain ⟨rfl,hE42⟩:=b5
 have aH:(fun w'=>Wk ax w') w42:=Md.trans Z hE42
 refine ⟨aH,?_⟩
 refine aB 13 rfl (fun _ _=>bg rfl) aH (hn (by kernel_rfl) (tn (ar _ _ (cb rfl (fun bf=> ?_) (fun bf=> ?_)))))
 refine az (tn (aK _ _ (aA (rg rfl (ag (ae q) (p (bc ((q+1:Nat):Int) rfl rfl (aR (by omega) (by omega))) (p ak (nl ?_))))))))
 exact bn (tn (⟨_,by omega,q+1,(by omega),((by rw [← hq2,vu (show q≤b - 1 by omega) (by simpa using bf)])),(aG C aH),(Md.trans al (aH.mono (fun _ _ h=>h.elim))),rfl,rfl,rfl,rfl,rfl⟩))
 exact ext (te _ (te _ (be (tn (⟨q,hq1,((by rw [← hq2,nP (.inr (by simpa using bf))])),(aG C aH),(Md.trans al (aH.mono (fun _ _ h=>h.elim))),rfl,rfl,rfl,rfl⟩)))))
 refine a9 4 rfl (by kernel_rfl) rfl rfl rfl rfl Z ?_
 refine a9 5 rfl (by kernel_rfl) rfl rfl rfl rfl Z ?_
 refine a9 6 rfl (by kernel_rfl) rfl rfl rfl rfl Z ?_
 refine a9 7 rfl (by kernel_rfl) rfl rfl rfl rfl Z ?_
 refine a9 8 rfl (by kernel_rfl) rfl rfl rfl rfl Z ?_
 refine a9 9 rfl (by kernel_rfl) rfl rfl rfl rfl Z ?_
 refine a9 10 rfl (by kernel_rfl) rfl rfl rfl rfl Z ?_
 refine a9 11 rfl (by kernel_rfl) rfl rfl rfl rfl Z ?_
 refine a9 12 rfl (by kernel_rfl) rfl rfl rfl rfl Z ?_
 refine aB 13 rfl (fun _ _=>a5 rfl) Z (hn (by kernel_rfl) (tn (ar _ _ (cf rfl (ext (te _ (te _ (be ?_))))))))
 exact tn (⟨q,hq1,((by rw [← hq2,nP (.inl (by omega))])),(aG C (Md.refl _ _).drew),al.drew,rfl,rfl,rfl,rfl⟩)
 rintro aN bj ⟨J,c6,bs,a7,a3,cs,ct,cu,cv⟩
 refine fx 0 cs (fx 1 ct (fx 10 cu (fx 11 cv ?_)))
 refine c7 (fun aQ an=> ∃ (M:Nat),(a≤M∧M≤b - 1)∧(Go.Sort.scanDown (fun x=> !bo x (Go.Sort.swp d a A)[a]!) (Go.Sort.swp d a A) (J) (b - 1)=M)∧(an.ownsRow B 71 1 (.slice s n cp) n (LE aO (Go.Sort.swp d a A)))∧(Md (fun q=>(Value.slice s n cp).ownBlock=some q) w an)∧(aQ 0= .slice s n cp)∧(aQ 1=ae a)∧(aQ 10=ae J)∧(aQ 11=ae M)) ?_ ?_
 refine aA (lp (fun am aS aD=> ∃ (q:Nat),(a≤q∧q≤b - 1)∧(Go.Sort.scanDown (fun x=> !bo x (Go.Sort.swp d a A)[a]!) (Go.Sort.swp d a A) (J) (q)=Go.Sort.scanDown (fun x=> !bo x (Go.Sort.swp d a A)[a]!) (Go.Sort.swp d a A) (J) (b - 1))∧(aD.ownsRow B 71 1 (.slice s n cp) n (LE aO (Go.Sort.swp d a A)))∧(Md (fun q=>(Value.slice s n cp).ownBlock=some q) w aD)∧(aS 0= .slice s n cp)∧(aS 1=ae a)∧(aS 10=ae J)∧(aS 11=ae q)∧(q=am)) _ ⟨b - 1,(by omega),rfl,a7,a3,rfl,rfl,rfl,rfl,rfl⟩ ?_)
 rintro am aS aD ⟨q,hq1,hq2,C,al,cF,cG,cH,cI,rfl⟩
 refine fx 0 cF (fx 1 cG (fx 10 cH (fx 11 cI (sq (fun _ aK=>sq (fun _ ar=> ?_))))))
 have hdcn:=dT C
 have V:(fun w'=>Wk aD w') aD.drew:=(Md.refl _ _).drew
 refine bD (fun w'=>Wk aD w') rfl wide V (bd 0 rfl (ae J) V (bd 1 rfl (ae q) V (aB 2 rfl (fun _ _=>le rfl rfl) V (aB 3 rfl (fun _ _=>mv) V (iQ (t:=49) rfl (fun ce=> ?_) (fun ce=> ?_))))))
 refine a8 4 rfl (by kernel_rfl) rfl rfl rfl (fun _ _=>aC (.slice s n cp) rfl) V (a8 5 rfl (by kernel_rfl) rfl rfl rfl (fun _ _=>aC (ae q) rfl) V (a8 6 rfl (by kernel_rfl) rfl rfl rfl (fun _ _=>aJ bl rfl rfl (by omega) (aw.ok ((aM C).2) (bw (by omega)))) V (a8 7 rfl (by kernel_rfl) rfl rfl rfl (fun w' E=>ld bL rfl (b0 (i:=q) ((aM C).2.wk E) (by omega))) V (a8 8 rfl (by kernel_rfl) rfl rfl rfl (fun _ _=>aC (.slice s n cp) rfl) V (a8 9 rfl (by kernel_rfl) rfl rfl rfl (fun _ _=>aC (ae a) rfl) V (a8 10 rfl (by kernel_rfl) rfl rfl rfl (fun _ _=>aJ bl rfl rfl (by omega) (aw.ok ((aM C).2) (bw (by omega)))) V (a8 11 rfl (by kernel_rfl) rfl rfl rfl (fun w' E=>ld bL rfl (b0 (i:=a) ((aM C).2.wk E) (by omega))) V ?_)))))))
 refine j4 12 rfl (by kernel_rfl) rfl rfl rfl (cl iL (iR (Go.Sort.swp d a A)[q]! (Go.Sort.swp d a A)[a]! _) rfl fun dd w58 b6=> ?_)
 obtain ⟨rfl,hE58⟩:=b6
 have av:(fun w'=>Wk aD w') w58:=Md.trans V hE58
 refine ⟨av,?_⟩
 refine a8 13 rfl (by kernel_rfl) rfl rfl rfl (fun _ _=>no rfl) av (aB 14 rfl (fun _ _=>bg rfl) av (hn (by kernel_rfl) (tn (ar _ _ (cb rfl (fun bh=> ?_) (fun bh=> ?_))))))
 refine az (tn (aK _ _ (aA (rg rfl (ag (ae q) (p (cM ((q - 1:Nat):Int) rfl rfl (aR (by omega) (by omega))) (p ak (nl ?_))))))))
 exact bn (tn (⟨_,by omega,q - 1,(by omega),((by rw [← hq2,sY (show 0 < q by omega) (show J≤q by omega) (by simpa using bh)])),(aG C av),(Md.trans al (av.mono (fun _ _ h=>h.elim))),rfl,rfl,rfl,rfl,rfl⟩))
 exact ext (te _ (te _ (be (tn (⟨q,hq1,((by rw [← hq2,nj (.inr (by simpa using bh))])),(aG C av),(Md.trans al (av.mono (fun _ _ h=>h.elim))),rfl,rfl,rfl,rfl⟩)))))
 refine a9 4 rfl (by kernel_rfl) rfl rfl rfl rfl V ?_
 refine a9 5 rfl (by kernel_rfl) rfl rfl rfl rfl V ?_
 refine a9 6 rfl (by kernel_rfl) rfl rfl rfl rfl V ?_
 refine a9 7 rfl (by kernel_rfl) rfl rfl rfl rfl V ?_
 refine a9 8 rfl (by kernel_rfl) rfl rfl rfl rfl V ?_
 refine a9 9 rfl (by kernel_rfl) rfl rfl rfl rfl V ?_
 refine a9 10 rfl (by kernel_rfl) rfl rfl rfl rfl V ?_
 refine a9 11 rfl (by kernel_rfl) rfl rfl rfl rfl V ?_
 refine a9 12 rfl (by kernel_rfl) rfl rfl rfl rfl V ?_
 refine a9 13 rfl (by kernel_rfl) rfl rfl rfl rfl V ?_
 refine aB 14 rfl (fun _ _=>a5 rfl) V (hn (by kernel_rfl) (tn (ar _ _ (cf rfl (ext (te _ (te _ (be ?_))))))))
 exact tn (⟨q,hq1,((by rw [← hq2,nj (.inl (by omega))])),(aG C (Md.refl _ _).drew),al.drew,rfl,rfl,rfl,rfl⟩)
 rintro aQ an ⟨M,c8,bm,G,aL,cA,cB,cC,cD⟩
 refine fx 0 cA (fx 1 cB (fx 10 cC (fx 11 cD (sq (fun _ aK=>U (fun _ ar=>(ag (ae J) (ag (ae M) (p (gt rfl rfl) (nl ?_))))))))))
 refine tn (ar _ _ (cd rfl (fun b8=> ?_) (fun b8=> ?_)))
 refine sq (fun _ a1=> ?_)
 have hdcn:=dT G
 have ai:(fun w'=>Wk an w') an.drew:=(Md.refl _ _).drew
 refine dH (fun w'=>Wk an w') 13 rfl wide ai (a4 0 rfl (.slice s n cp) ai (a4 1 rfl (ae M) ai (a4 2 rfl (.slice s n cp) ai (a4 3 rfl (ae a) ai (a4 4 rfl (.slice s n cp) ai (a4 5 rfl (ae a) ai (a6 6 rfl (fun _=>aJ bl rfl rfl (by omega) (aw.ok ((aM G).2) (bw (by omega)))) (fun _=>ai) ?_)))))))
 refine cT 7 rfl (fun w' E=>ld bL rfl (b0 (i:=a) ((aM G).2.wk E) (by omega))) ai (a4 8 rfl (.slice s n cp) ai (a4 9 rfl (ae M) ai (a6 10 rfl (fun _=>aJ bl rfl rfl (by omega) (aw.ok ((aM G).2) (bw (by omega)))) (fun _=>ai) (cT 11 rfl (fun w' E=>ld bL rfl (b0 (i:=M) ((aM G).2.wk E) (by omega))) ai (a6 12 rfl (fun _=>aJ bl rfl rfl (by omega) (aw.ok ((aM G).2) (bw (by omega)))) (fun _=>ai) (cE 13 rfl (by kernel_rfl) (by kernel_rfl) (ep (u:=(Go.Sort.swp d a A)[a]!) (M) (aG G ai) dY rfl rfl rfl (by omega) fun df bK ci=> ?_)))))))
 refine a6 14 rfl (fun _=>aJ bl rfl rfl (by omega) (aw.ok ((aM G).2) (bw (by omega)))) (fun h=>Bool.noConfusion ((show true =_ from by kernel_rfl).trans h)) (cE 15 rfl (by kernel_rfl) (by kernel_rfl) (ep (u:=(Go.Sort.swp d a A)[M]!) (a) ci dY rfl rfl rfl (by omega) fun wP82 bM cj=> ?_))
 have bY:wP82.ownsRow B 71 1 (.slice s n cp) n (LE aO (Go.Sort.swp (Go.Sort.swp d a A) (M) (a))):=cj
 have bJ:Md (fun q=>(Value.slice s n cp).ownBlock=some q) an wP82:=Md.trans (ai.mono (fun _ _ h=>h.elim)) (Md.trans bK bM)
 refine dG (by kernel_rfl) ?_
 refine tn (a1 _ _ (U (fun _ a2=>(ag (ae M) (p (bF (ae M) rfl) (aj (((a2 _ _ ?_)))))))))
 refine rt (tr (f2 rfl rfl rfl ?_))
 have hz:=JR bs bm (by omega)
 exact ⟨by rw [hz]; rfl,by rw [hz]; exact bY,Md.trans aL bJ⟩
 refine az (tn (aK _ _ (sq (fun _ a1=> ?_))))
 have hdcn:=dT G
 have ah:(fun w'=>Wk an w') an.drew:=(Md.refl _ _).drew
 refine dH (fun w'=>Wk an w') 13 rfl wide ah (a4 0 rfl (.slice s n cp) ah (a4 1 rfl (ae J) ah (a4 2 rfl (.slice s n cp) ah (a4 3 rfl (ae M) ah (a4 4 rfl (.slice s n cp) ah (a4 5 rfl (ae M) ah (a6 6 rfl (fun _=>aJ bl rfl rfl (by omega) (aw.ok ((aM G).2) (bw (by omega)))) (fun _=>ah) ?_)))))))
 refine cT 7 rfl (fun w' E=>ld bL rfl (b0 (i:=M) ((aM G).2.wk E) (by omega))) ah (a4 8 rfl (.slice s n cp) ah (a4 9 rfl (ae J) ah (a6 10 rfl (fun _=>aJ bl rfl rfl (by omega) (aw.ok ((aM G).2) (bw (by omega)))) (fun _=>ah) (cT 11 rfl (fun w' E=>ld bL rfl (b0 (i:=J) ((aM G).2.wk E) (by omega))) ah (a6 12 rfl (fun _=>aJ bl rfl rfl (by omega) (aw.ok ((aM G).2) (bw (by omega)))) (fun _=>ah) (cE 13 rfl (by kernel_rfl) (by kernel_rfl) (ep (u:=(Go.Sort.swp d a A)[M]!) (J) (aG G ah) dY rfl rfl rfl (by omega) fun dg bO ck=> ?_)))))))
 refine a6 14 rfl (fun _=>aJ bl rfl rfl (by omega) (aw.ok ((aM G).2) (bw (by omega)))) (fun h=>Bool.noConfusion ((show true =_ from by kernel_rfl).trans h)) (cE 15 rfl (by kernel_rfl) (by kernel_rfl) (ep (u:=(Go.Sort.swp d a A)[J]!) (M) ck dY rfl rfl rfl (by omega) fun wPX2 bP cm=> ?_))
 have bZ:wPX2.ownsRow B 71 1 (.slice s n cp) n (LE aO (Go.Sort.swp (Go.Sort.swp d a A) (J) (M))):=cm
 have bN:Md (fun q=>(Value.slice s n cp).ownBlock=some q) an wPX2:=Md.trans (ah.mono (fun _ _ h=>h.elim)) (Md.trans bO bP)
 refine dG (by kernel_rfl) ?_
 refine tn (a1 _ _ (U (fun _ a2=>(ag (ae J) (p (bc ((J+1:Nat):Int) rfl rfl (aR (by omega) (by omega))) (aj (((a2 _ _ ?_)))))))))
 refine U (fun _ bz=>(ag (ae M) (p (cM ((M - 1:Nat):Int) rfl rfl (aR (by omega) (by omega))) (aj (((bz _ _ (sq (fun _ bA=> ?_)))))))))
 refine aA (lp (fun am aT bi=> ∃ (i j:Nat) (I:Array Nat),(a+2≤i∧i≤b∧a≤j∧j < b∧i≤j+2)∧(Go.Sort.partLoop bo a i j I=Go.Sort.partLoop bo a (J+1) (M - 1) (Go.Sort.swp (Go.Sort.swp d a A) J M))∧(bi.ownsRow B 71 1 (.slice s n cp) n (LE aO I))∧(Md (fun q=>(Value.slice s n cp).ownBlock=some q) w bi)∧(aT 0= .slice s n cp)∧(aT 1=ae a)∧(aT 10=ae i)∧(aT 11=ae j)∧(j+1 - i=am)) _ ⟨J+1,M - 1,Go.Sort.swp (Go.Sort.swp d a A) J M,(by omega),rfl,bZ,(Md.trans aL bN),rfl,rfl,rfl,rfl,rfl⟩ ?_)
 rintro am aT bi ⟨i,j,I,hi,hq,bW,bE,cJ,cK,cL,cN,rfl⟩
 refine fx 0 cJ (fx 1 cK (fx 10 cL (fx 11 cN (aA ?_))))
 refine c7 (fun aV bk=> ∃ (aa:Nat),(i≤aa∧(aa=i∨aa≤j+1))∧(Go.Sort.scanUp (fun x=>bo x I[a]!) I (j) (i)=aa)∧(bk.ownsRow B 71 1 (.slice s n cp) n (LE aO I))∧(Md (fun q=>(Value.slice s n cp).ownBlock=some q) w bk)∧(aV 0= .slice s n cp)∧(aV 1=ae a)∧(aV 10=ae aa)∧(aV 11=ae j)) ?_ ?_
 refine aA (lp (fun am aW ay=> ∃ (q:Nat),(i≤q∧(q=i∨q≤j+1))∧(Go.Sort.scanUp (fun x=>bo x I[a]!) I (j) (q)=Go.Sort.scanUp (fun x=>bo x I[a]!) I (j) (i))∧(ay.ownsRow B 71 1 (.slice s n cp) n (LE aO I))∧(Md (fun q=>(Value.slice s n cp).ownBlock=some q) w ay)∧(aW 0= .slice s n cp)∧(aW 1=ae a)∧(aW 10=ae q)∧(aW 11=ae j)∧(j+1 - q=am)) _ ⟨i,(by omega),rfl,bW,bE,rfl,rfl,rfl,rfl,rfl⟩ ?_)
 rintro am aW ay ⟨q,hq1,hq2,C,al,cS,cU,cV,cW,rfl⟩
 refine fx 0 cS (fx 1 cU (fx 10 cV (fx 11 cW (sq (fun _ aI=>sq (fun _ aq=> ?_))))))
 have hdcn:=dT C
 have Y:(fun w'=>Wk ay w') ay.drew:=(Md.refl _ _).drew
 refine bD (fun w'=>Wk ay w') rfl wide Y (bd 0 rfl (ae q) Y (bd 1 rfl (ae j) Y (aB 2 rfl (fun _ _=>le rfl rfl) Y (aB 3 rfl (fun _ _=>mv) Y (iQ (t:=102) rfl (fun b9=> ?_) (fun b9=> ?_))))))
 refine a8 4 rfl (by kernel_rfl) rfl rfl rfl (fun _ _=>aC (.slice s n cp) rfl) Y (a8 5 rfl (by kernel_rfl) rfl rfl rfl (fun _ _=>aC (ae q) rfl) Y (a8 6 rfl (by kernel_rfl) rfl rfl rfl (fun _ _=>aJ bl rfl rfl (by omega) (aw.ok ((aM C).2) (bw (by omega)))) Y (a8 7 rfl (by kernel_rfl) rfl rfl rfl (fun w' E=>ld bL rfl (b0 (i:=q) ((aM C).2.wk E) (by omega))) Y (a8 8 rfl (by kernel_rfl) rfl rfl rfl (fun _ _=>aC (.slice s n cp) rfl) Y (a8 9 rfl (by kernel_rfl) rfl rfl rfl (fun _ _=>aC (ae a) rfl) Y (a8 10 rfl (by kernel_rfl) rfl rfl rfl (fun _ _=>aJ bl rfl rfl (by omega) (aw.ok ((aM C).2) (bw (by omega)))) Y (a8 11 rfl (by kernel_rfl) rfl rfl rfl (fun w' E=>ld bL rfl (b0 (i:=a) ((aM C).2.wk E) (by omega))) Y ?_)))))))
 refine j4 12 rfl (by kernel_rfl) rfl rfl rfl (cl iL (iR I[q]! I[a]! _) rfl fun da w111 b3=> ?_)
 obtain ⟨rfl,bB⟩:=b3
 have aF:(fun w'=>Wk ay w') w111:=Md.trans Y bB
 refine ⟨aF,?_⟩
 refine aB 13 rfl (fun _ _=>bg rfl) aF (hn (by kernel_rfl) (tn (aq _ _ (cb rfl (fun ba=> ?_) (fun ba=> ?_)))))
 refine az (tn (aI _ _ (aA (rg rfl (ag (ae q) (p (bc ((q+1:Nat):Int) rfl rfl (aR (by omega) (by omega))) (p ak (nl ?_))))))))
 exact bn (tn (⟨_,by omega,q+1,(by omega),((by rw [← hq2,vu (show q≤j by omega) (by simpa using ba)])),(aG C aF),(Md.trans al (aF.mono (fun _ _ h=>h.elim))),rfl,rfl,rfl,rfl,rfl⟩))
 exact ext (te _ (te _ (be (tn (⟨q,hq1,((by rw [← hq2,nP (.inr (by simpa using ba))])),(aG C aF),(Md.trans al (aF.mono (fun _ _ h=>h.elim))),rfl,rfl,rfl,rfl⟩)))))
 refine a9 4 rfl (by kernel_rfl) rfl rfl rfl rfl Y ?_
 refine a9 5 rfl (by kernel_rfl) rfl rfl rfl rfl Y ?_
 refine a9 6 rfl (by kernel_rfl) rfl rfl rfl rfl Y ?_
 refine a9 7 rfl (by kernel_rfl) rfl rfl rfl rfl Y ?_
 refine a9 8 rfl (by kernel_rfl) rfl rfl rfl rfl Y ?_
 refine a9 9 rfl (by kernel_rfl) rfl rfl rfl rfl Y ?_
 refine a9 10 rfl (by kernel_rfl) rfl rfl rfl rfl Y ?_
 refine a9 11 rfl (by kernel_rfl) rfl rfl rfl rfl Y ?_
 refine a9 12 rfl (by kernel_rfl) rfl rfl rfl rfl Y ?_
 refine aB 13 rfl (fun _ _=>a5 rfl) Y (hn (by kernel_rfl) (tn (aq _ _ (cf rfl (ext (te _ (te _ (be ?_))))))))
 exact tn (⟨q,hq1,((by rw [← hq2,nP (.inl (by omega))])),(aG C (Md.refl _ _).drew),al.drew,rfl,rfl,rfl,rfl⟩)
 rintro aV bk ⟨aa,bq,bt,a7,a3,cO,cP,cQ,cR⟩
 refine fx 0 cO (fx 1 cP (fx 10 cQ (fx 11 cR ?_)))
 refine c7 (fun aX ao=> ∃ (ab:Nat),(a≤ab∧ab≤j)∧(Go.Sort.scanDown (fun x=> !bo x I[a]!) I (aa) (j)=ab)∧(ao.ownsRow B 71 1 (.slice s n cp) n (LE aO I))∧(Md (fun q=>(Value.slice s n cp).ownBlock=some q) w ao)∧(aX 0= .slice s n cp)∧(aX 1=ae a)∧(aX 10=ae aa)∧(aX 11=ae ab)) ?_ ?_
 refine aA (lp (fun am aY aE=> ∃ (q:Nat),(a≤q∧q≤j)∧(Go.Sort.scanDown (fun x=> !bo x I[a]!) I (aa) (q)=Go.Sort.scanDown (fun x=> !bo x I[a]!) I (aa) (j))∧(aE.ownsRow B 71 1 (.slice s n cp) n (LE aO I))∧(Md (fun q=>(Value.slice s n cp).ownBlock=some q) w aE)∧(aY 0= .slice s n cp)∧(aY 1=ae a)∧(aY 10=ae aa)∧(aY 11=ae q)∧(q=am)) _ ⟨j,(by omega),rfl,a7,a3,rfl,rfl,rfl,rfl,rfl⟩ ?_)
 rintro am aY aE ⟨q,hq1,hq2,C,al,c1,c2,c3,c4,rfl⟩
 refine fx 0 c1 (fx 1 c2 (fx 10 c3 (fx 11 c4 (sq (fun _ aI=>sq (fun _ aq=> ?_))))))
 have hdcn:=dT C
 have O:(fun w'=>Wk aE w') aE.drew:=(Md.refl _ _).drew
 refine bD (fun w'=>Wk aE w') rfl wide O (bd 0 rfl (ae aa) O (bd 1 rfl (ae q) O (aB 2 rfl (fun _ _=>le rfl rfl) O (aB 3 rfl (fun _ _=>mv) O (iQ (t:=118) rfl (fun ca=> ?_) (fun ca=> ?_))))))
 refine a8 4 rfl (by kernel_rfl) rfl rfl rfl (fun _ _=>aC (.slice s n cp) rfl) O (a8 5 rfl (by kernel_rfl) rfl rfl rfl (fun _ _=>aC (ae q) rfl) O (a8 6 rfl (by kernel_rfl) rfl rfl rfl (fun _ _=>aJ bl rfl rfl (by omega) (aw.ok ((aM C).2) (bw (by omega)))) O (a8 7 rfl (by kernel_rfl) rfl rfl rfl (fun w' E=>ld bL rfl (b0 (i:=q) ((aM C).2.wk E) (by omega))) O (a8 8 rfl (by kernel_rfl) rfl rfl rfl (fun _ _=>aC (.slice s n cp) rfl) O (a8 9 rfl (by kernel_rfl) rfl rfl rfl (fun _ _=>aC (ae a) rfl) O (a8 10 rfl (by kernel_rfl) rfl rfl rfl (fun _ _=>aJ bl rfl rfl (by omega) (aw.ok ((aM C).2) (bw (by omega)))) O (a8 11 rfl (by kernel_rfl) rfl rfl rfl (fun w' E=>ld bL rfl (b0 (i:=a) ((aM C).2.wk E) (by omega))) O ?_)))))))
 refine j4 12 rfl (by kernel_rfl) rfl rfl rfl (cl iL (iR I[q]! I[a]! _) rfl fun db w127 b4=> ?_)
 obtain ⟨rfl,bC⟩:=b4
 have au:(fun w'=>Wk aE w') w127:=Md.trans O bC
 refine ⟨au,?_⟩
 refine a8 13 rfl (by kernel_rfl) rfl rfl rfl (fun _ _=>no rfl) au (aB 14 rfl (fun _ _=>bg rfl) au (hn (by kernel_rfl) (tn (aq _ _ (cb rfl (fun bb=> ?_) (fun bb=> ?_))))))
 refine az (tn (aI _ _ (aA (rg rfl (ag (ae q) (p (cM ((q - 1:Nat):Int) rfl rfl (aR (by omega) (by omega))) (p ak (nl ?_))))))))
 exact bn (tn (⟨_,by omega,q - 1,(by omega),((by rw [← hq2,sY (show 0 < q by omega) (show aa≤q by omega) (by simpa using bb)])),(aG C au),(Md.trans al (au.mono (fun _ _ h=>h.elim))),rfl,rfl,rfl,rfl,rfl⟩))
 exact ext (te _ (te _ (be (tn (⟨q,hq1,((by rw [← hq2,nj (.inr (by simpa using bb))])),(aG C au),(Md.trans al (au.mono (fun _ _ h=>h.elim))),rfl,rfl,rfl,rfl⟩)))))
 refine a9 4 rfl (by kernel_rfl) rfl rfl rfl rfl O ?_
 refine a9 5 rfl (by kernel_rfl) rfl rfl rfl rfl O ?_
 refine a9 6 rfl (by kernel_rfl) rfl rfl rfl rfl O ?_
 refine a9 7 rfl (by kernel_rfl) rfl rfl rfl rfl O ?_
 refine a9 8 rfl (by kernel_rfl) rfl rfl rfl rfl O ?_
 refine a9 9 rfl (by kernel_rfl) rfl rfl rfl rfl O ?_
 refine a9 10 rfl (by kernel_rfl) rfl rfl rfl rfl O ?_
 refine a9 11 rfl (by kernel_rfl) rfl rfl rfl rfl O ?_
 refine a9 12 rfl (by kernel_rfl) rfl rfl rfl rfl O ?_
 refine a9 13 rfl (by kernel_rfl) rfl rfl rfl rfl O ?_
 refine aB 14 rfl (fun _ _=>a5 rfl) O (hn (by kernel_rfl) (tn (aq _ _ (cf rfl (ext (te _ (te _ (be ?_))))))))
 exact tn (⟨q,hq1,((by rw [← hq2,nj (.inl (by omega))])),(aG C (Md.refl _ _).drew),al.drew,rfl,rfl,rfl,rfl⟩)
 rintro aX ao ⟨ab,br,bp,G,aL,cX,cY,cZ,c0⟩
 refine fx 0 cX (fx 1 cY (fx 10 cZ (fx 11 c0 (sq (fun _ aI=>U (fun _ aq=>(ag (ae aa) (ag (ae ab) (p (gt rfl rfl) (nl ?_))))))))))
 refine tn (aq _ _ (cd rfl (fun b7=> ?_) (fun b7=> ?_)))
 refine ext (te _ (ks (by decide) (te _ (be (tn (bA _ _ (sq (fun _ aZ=> ?_))))))))
 have hdcn:=dT G
 have hS21:(fun w'=>Wk ao w') ao.drew:=(Md.refl _ _).drew
 refine dH (fun w'=>Wk ao w') 13 rfl wide hS21 (a4 0 rfl (.slice s n cp) hS21 (a4 1 rfl (ae ab) hS21 (a4 2 rfl (.slice s n cp) hS21 (a4 3 rfl (ae a) hS21 (a4 4 rfl (.slice s n cp) hS21 (a4 5 rfl (ae a) hS21 (a6 6 rfl (fun _=>aJ bl rfl rfl (by omega) (aw.ok ((aM G).2) (bw (by omega)))) (fun _=>hS21) ?_)))))))
 refine cT 7 rfl (fun w' E=>ld bL rfl (b0 (i:=a) ((aM G).2.wk E) (by omega))) hS21 (a4 8 rfl (.slice s n cp) hS21 (a4 9 rfl (ae ab) hS21 (a6 10 rfl (fun _=>aJ bl rfl rfl (by omega) (aw.ok ((aM G).2) (bw (by omega)))) (fun _=>hS21) (cT 11 rfl (fun w' E=>ld bL rfl (b0 (i:=ab) ((aM G).2.wk E) (by omega))) hS21 (a6 12 rfl (fun _=>aJ bl rfl rfl (by omega) (aw.ok ((aM G).2) (bw (by omega)))) (fun _=>hS21) (cE 13 rfl (by kernel_rfl) (by kernel_rfl) (ep (u:=I[a]!) (ab) (aG G hS21) dY rfl rfl rfl (by omega) fun di bU cq=> ?_)))))))
 refine a6 14 rfl (fun _=>aJ bl rfl rfl (by omega) (aw.ok ((aM G).2) (bw (by omega)))) (fun h=>Bool.noConfusion ((show true =_ from by kernel_rfl).trans h)) (cE 15 rfl (by kernel_rfl) (by kernel_rfl) (ep (u:=I[ab]!) (a) cq dY rfl rfl rfl (by omega) fun wPZ2 bV cr=> ?_))
 have b2:wPZ2.ownsRow B 71 1 (.slice s n cp) n (LE aO (Go.Sort.swp I (ab) (a))):=cr
 have bT:Md (fun q=>(Value.slice s n cp).ownBlock=some q) ao wPZ2:=Md.trans (hS21.mono (fun _ _ h=>h.elim)) (Md.trans bU bV)
 refine dG (by kernel_rfl) ?_
 refine tn (aZ _ _ (U (fun _ a0=>(ag (ae ab) (p (bF (ae ab) rfl) (aj (((a0 _ _ ?_)))))))))
 refine rt (f2 rfl rfl rfl ?_)
 have hz:=JS bs bm (by omega) (hq.symm.trans (by rw [AO bt bp bq.1 br.2,if_pos (by omega)]))
 exact ⟨by rw [hz]; rfl,by rw [hz]; exact b2,Md.trans aL bT⟩
 refine az (tn (aI _ _ (sq (fun _ aZ=> ?_))))
 have hdcn:=dT G
 have hS18:(fun w'=>Wk ao w') ao.drew:=(Md.refl _ _).drew
 refine dH (fun w'=>Wk ao w') 13 rfl wide hS18 (a4 0 rfl (.slice s n cp) hS18 (a4 1 rfl (ae aa) hS18 (a4 2 rfl (.slice s n cp) hS18 (a4 3 rfl (ae ab) hS18 (a4 4 rfl (.slice s n cp) hS18 (a4 5 rfl (ae ab) hS18 (a6 6 rfl (fun _=>aJ bl rfl rfl (by omega) (aw.ok ((aM G).2) (bw (by omega)))) (fun _=>hS18) ?_)))))))
 refine cT 7 rfl (fun w' E=>ld bL rfl (b0 (i:=ab) ((aM G).2.wk E) (by omega))) hS18 (a4 8 rfl (.slice s n cp) hS18 (a4 9 rfl (ae aa) hS18 (a6 10 rfl (fun _=>aJ bl rfl rfl (by omega) (aw.ok ((aM G).2) (bw (by omega)))) (fun _=>hS18) (cT 11 rfl (fun w' E=>ld bL rfl (b0 (i:=aa) ((aM G).2.wk E) (by omega))) hS18 (a6 12 rfl (fun _=>aJ bl rfl rfl (by omega) (aw.ok ((aM G).2) (bw (by omega)))) (fun _=>hS18) (cE 13 rfl (by kernel_rfl) (by kernel_rfl) (ep (u:=I[ab]!) (aa) (aG G hS18) dY rfl rfl rfl (by omega) fun dh bR cn=> ?_)))))))
 refine a6 14 rfl (fun _=>aJ bl rfl rfl (by omega) (aw.ok ((aM G).2) (bw (by omega)))) (fun h=>Bool.noConfusion ((show true =_ from by kernel_rfl).trans h)) (cE 15 rfl (by kernel_rfl) (by kernel_rfl) (ep (u:=I[aa]!) (ab) cn dY rfl rfl rfl (by omega) fun wPY2 bS co=> ?_))
 have b1:wPY2.ownsRow B 71 1 (.slice s n cp) n (LE aO (Go.Sort.swp I (aa) (ab))):=co
 have bQ:Md (fun q=>(Value.slice s n cp).ownBlock=some q) ao wPY2:=Md.trans (hS18.mono (fun _ _ h=>h.elim)) (Md.trans bR bS)
 refine dG (by kernel_rfl) ?_
 refine tn (aZ _ _ (U (fun _ a0=>(ag (ae aa) (p (bc ((aa+1:Nat):Int) rfl rfl (aR (by omega) (by omega))) (aj (((a0 _ _ ?_)))))))))
 exact rg rfl (ag (ae ab) (p (cM ((ab - 1:Nat):Int) rfl rfl (aR (by omega) (by omega))) (p ak (nl (bn (tn (⟨_,by omega,aa+1,ab - 1,Go.Sort.swp I aa ab,(by omega),((by rw [← hq,AO bt bp bq.1 br.2,if_neg (by omega),if_pos (by omega)])),b1,(Md.trans aL bQ),rfl,rfl,rfl,rfl,rfl⟩)))))))
theorem JV (d:Array Nat) (a b Y:Nat) (B n cp:Nat) (s:Option Addr) (w:World) (ab:w.ownsRow B 71 1 (.slice s n cp) n (LE aO d)) (bS:a≤Y∧Y < b∧b≤n) (bV:n≤1099511627776):
 aU Tryz.prog 163 (List.toArray [.slice s n cp,ae a,ae b,ae Y]) w (fun v w'=>v=ae ((Go.Sort.partitionEqual bo d a b Y).1)∧w'.ownsRow B 71 1 (.slice s n cp) n (LE aO (Go.Sort.partitionEqual bo d a b Y).2)∧Md (fun q=>(Value.slice s n cp).ownBlock=some q) w w'):=by
 refine enter Tryz.func163 rfl Tryz.ntmps163 rfl ?_
 refine U (fun _ aP=>(aj (((aP _ _ (sq (fun _ aQ=> ?_)))))))
 have hdn:=dT ab
 have J:(fun w'=>Wk w w') w.drew:=(Md.refl _ _).drew
 refine dH (fun w'=>Wk w w') 13 rfl wide J (a4 0 rfl (.slice s n cp) J (a4 1 rfl (ae a) J (a4 2 rfl (.slice s n cp) J (a4 3 rfl (ae Y) J (a4 4 rfl (.slice s n cp) J (a4 5 rfl (ae Y) J (a6 6 rfl (fun _=>aJ bl rfl rfl (by omega) (aw.ok ((aM ab).2) (bw (by omega)))) (fun _=>J) ?_)))))))
 refine cT 7 rfl (fun w' V=>ld bL rfl (b0 (i:=Y) ((aM ab).2.wk V) (by omega))) J (a4 8 rfl (.slice s n cp) J (a4 9 rfl (ae a) J (a6 10 rfl (fun _=>aJ bl rfl rfl (by omega) (aw.ok ((aM ab).2) (bw (by omega)))) (fun _=>J) (cT 11 rfl (fun w' V=>ld bL rfl (b0 (i:=a) ((aM ab).2.wk V) (by omega))) J (a6 12 rfl (fun _=>aJ bl rfl rfl (by omega) (aw.ok ((aM ab).2) (bw (by omega)))) (fun _=>J) (cE 13 rfl (by kernel_rfl) (by kernel_rfl) (ep (u:=d[Y]!) (a) (aG ab J) dY rfl rfl rfl (by omega) fun bY aY bp=> ?_)))))))
 refine a6 14 rfl (fun _=>aJ bl rfl rfl (by omega) (aw.ok ((aM ab).2) (bw (by omega)))) (fun h=>Bool.noConfusion ((show true =_ from by kernel_rfl).trans h)) (cE 15 rfl (by kernel_rfl) (by kernel_rfl) (ep (u:=d[a]!) (Y) bp dY rfl rfl rfl (by omega) fun wP12 aZ bq=> ?_))
 have bb:wP12.ownsRow B 71 1 (.slice s n cp) n (LE aO (Go.Sort.swp d (a) (Y))):=bq
 have aX:Md (fun q=>(Value.slice s n cp).ownBlock=some q) w wP12:=Md.trans (J.mono (fun _ _ h=>h.elim)) (Md.trans aY aZ)
 refine dG (by kernel_rfl) ?_
 refine tn (aQ _ _ (U (fun _ aS=>(ag (ae a) (p (bc ((a+1:Nat):Int) rfl rfl (aR (by omega) (by omega))) (ag (ae b) (p (cM ((b - 1:Nat):Int) rfl rfl (aR (by omega) (by omega))) (p ak ?_))))))))
 refine aj (((aS _ _ (sq (fun _ aT=>aA (lp (fun aa aq aH=> ∃ (i j:Nat) (A:Array Nat),(a+1≤i∧i≤b∧a≤j∧j < b∧i≤j+2)∧(Go.Sort.partEqLoop bo a i j A=Go.Sort.partitionEqual bo d a b Y)∧(aH.ownsRow B 71 1 (.slice s n cp) n (LE aO A))∧(Md (fun q=>(Value.slice s n cp).ownBlock=some q) w aH)∧(aq 0= .slice s n cp)∧(aq 1=ae a)∧(aq 9=ae i)∧(aq 10=ae j)∧(j+1 - i=aa)) _ ⟨a+1,b - 1,(Go.Sort.swp d a Y),(by omega),rfl,bb,aX,rfl,rfl,rfl,rfl,rfl⟩ ?_))))))
 rintro aa aq aH ⟨i,j,A,hi,hq,a7,aW,bt,bu,bx,bv,rfl⟩
 refine fx 0 bt (fx 1 bu (fx 9 bx (fx 10 bv (aA ?_))))
 refine c7 (fun ar aI=> ∃ (C:Nat),(i≤C∧(C=i∨C≤j+1))∧(Go.Sort.scanUp (fun x=> !bo A[a]! x) A (j) (i)=C)∧(aI.ownsRow B 71 1 (.slice s n cp) n (LE aO A))∧(Md (fun q=>(Value.slice s n cp).ownBlock=some q) w aI)∧(ar 0= .slice s n cp)∧(ar 1=ae a)∧(ar 9=ae C)∧(ar 10=ae j)) ?_ ?_
 refine aA (lp (fun aa av al=> ∃ (q:Nat),(i≤q∧(q=i∨q≤j+1))∧(Go.Sort.scanUp (fun x=> !bo A[a]! x) A (j) (q)=Go.Sort.scanUp (fun x=> !bo A[a]! x) A (j) (i))∧(al.ownsRow B 71 1 (.slice s n cp) n (LE aO A))∧(Md (fun q=>(Value.slice s n cp).ownBlock=some q) w al)∧(av 0= .slice s n cp)∧(av 1=ae a)∧(av 9=ae q)∧(av 10=ae j)∧(j+1 - q=aa)) _ ⟨i,(by omega),rfl,a7,aW,rfl,rfl,rfl,rfl,rfl⟩ ?_)
 rintro aa av al ⟨q,hq1,hq2,I,ah,bE,bG,bI,bH,rfl⟩
 refine fx 0 bE (fx 1 bG (fx 9 bI (fx 10 bH (sq (fun _ ap=>sq (fun _ ac=> ?_))))))
 have hdcn:=dT I
 have E:(fun w'=>Wk al w') al.drew:=(Md.refl _ _).drew
 refine bD (fun w'=>Wk al w') rfl wide E (bd 0 rfl (ae q) E (bd 1 rfl (ae j) E (aB 2 rfl (fun _ _=>le rfl rfl) E (aB 3 rfl (fun _ _=>mv) E (iQ (t:=32) rfl (fun bk=> ?_) (fun bk=> ?_))))))
 refine a8 4 rfl (by kernel_rfl) rfl rfl rfl (fun _ _=>aC (.slice s n cp) rfl) E (a8 5 rfl (by kernel_rfl) rfl rfl rfl (fun _ _=>aC (ae a) rfl) E (a8 6 rfl (by kernel_rfl) rfl rfl rfl (fun _ _=>aJ bl rfl rfl (by omega) (aw.ok ((aM I).2) (bw (by omega)))) E (a8 7 rfl (by kernel_rfl) rfl rfl rfl (fun w' V=>ld bL rfl (b0 (i:=a) ((aM I).2.wk V) (by omega))) E (a8 8 rfl (by kernel_rfl) rfl rfl rfl (fun _ _=>aC (.slice s n cp) rfl) E (a8 9 rfl (by kernel_rfl) rfl rfl rfl (fun _ _=>aC (ae q) rfl) E (a8 10 rfl (by kernel_rfl) rfl rfl rfl (fun _ _=>aJ bl rfl rfl (by omega) (aw.ok ((aM I).2) (bw (by omega)))) E (a8 11 rfl (by kernel_rfl) rfl rfl rfl (fun w' V=>ld bL rfl (b0 (i:=q) ((aM I).2.wk V) (by omega))) E ?_)))))))
 refine j4 12 rfl (by kernel_rfl) rfl rfl rfl (cl iL (iR A[a]! A[q]! _) rfl fun bW w41 bh=> ?_)
 obtain ⟨rfl,hE41⟩:=bh
 have ai:(fun w'=>Wk al w') w41:=Md.trans E hE41
 refine ⟨ai,?_⟩
 refine a8 13 rfl (by kernel_rfl) rfl rfl rfl (fun _ _=>no rfl) ai (aB 14 rfl (fun _ _=>bg rfl) ai (hn (by kernel_rfl) (tn (ac _ _ (cb rfl (fun aE=> ?_) (fun aE=> ?_))))))
 refine az (tn (ap _ _ (aA (rg rfl (ag (ae q) (p (bc ((q+1:Nat):Int) rfl rfl (aR (by omega) (by omega))) (p ak (nl ?_))))))))
 exact bn (tn (⟨_,by omega,q+1,(by omega),((by rw [← hq2,vu (show q≤j by omega) (by simpa using aE)])),(aG I ai),(Md.trans ah (ai.mono (fun _ _ h=>h.elim))),rfl,rfl,rfl,rfl,rfl⟩))
 exact ext (te _ (te _ (be (tn (⟨q,hq1,((by rw [← hq2,nP (.inr (by simpa using aE))])),(aG I ai),(Md.trans ah (ai.mono (fun _ _ h=>h.elim))),rfl,rfl,rfl,rfl⟩)))))
 refine a9 4 rfl (by kernel_rfl) rfl rfl rfl rfl E ?_
 refine a9 5 rfl (by kernel_rfl) rfl rfl rfl rfl E ?_
 refine a9 6 rfl (by kernel_rfl) rfl rfl rfl rfl E ?_
 refine a9 7 rfl (by kernel_rfl) rfl rfl rfl rfl E ?_
 refine a9 8 rfl (by kernel_rfl) rfl rfl rfl rfl E ?_
 refine a9 9 rfl (by kernel_rfl) rfl rfl rfl rfl E ?_
 refine a9 10 rfl (by kernel_rfl) rfl rfl rfl rfl E ?_
 refine a9 11 rfl (by kernel_rfl) rfl rfl rfl rfl E ?_
 refine a9 12 rfl (by kernel_rfl) rfl rfl rfl rfl E ?_
 refine a9 13 rfl (by kernel_rfl) rfl rfl rfl rfl E ?_
 refine aB 14 rfl (fun _ _=>a5 rfl) E (hn (by kernel_rfl) (tn (ac _ _ (cf rfl (ext (te _ (te _ (be ?_))))))))
 exact tn (⟨q,hq1,((by rw [← hq2,nP (.inl (by omega))])),(aG I (Md.refl _ _).drew),ah.drew,rfl,rfl,rfl,rfl⟩)
 rintro ar aI ⟨C,bT,aN,ba,a3,bz,bA,bC,bB⟩
 refine fx 0 bz (fx 1 bA (fx 9 bC (fx 10 bB ?_)))
 refine c7 (fun ax an=> ∃ (O:Nat),(a≤O∧O≤j)∧(Go.Sort.scanDown (fun x=>bo A[a]! x) A (C) (j)=O)∧(an.ownsRow B 71 1 (.slice s n cp) n (LE aO A))∧(Md (fun q=>(Value.slice s n cp).ownBlock=some q) w an)∧(ax 0= .slice s n cp)∧(ax 1=ae a)∧(ax 9=ae C)∧(ax 10=ae O)) ?_ ?_
 refine aA (lp (fun aa ay am=> ∃ (q:Nat),(a≤q∧q≤j)∧(Go.Sort.scanDown (fun x=>bo A[a]! x) A (C) (q)=Go.Sort.scanDown (fun x=>bo A[a]! x) A (C) (j))∧(am.ownsRow B 71 1 (.slice s n cp) n (LE aO A))∧(Md (fun q=>(Value.slice s n cp).ownBlock=some q) w am)∧(ay 0= .slice s n cp)∧(ay 1=ae a)∧(ay 9=ae C)∧(ay 10=ae q)∧(q=aa)) _ ⟨j,(by omega),rfl,ba,a3,rfl,rfl,rfl,rfl,rfl⟩ ?_)
 rintro aa ay am ⟨q,hq1,hq2,I,ah,bO,bP,bR,bQ,rfl⟩
 refine fx 0 bO (fx 1 bP (fx 9 bR (fx 10 bQ (sq (fun _ ap=>sq (fun _ ac=> ?_))))))
 have hdcn:=dT I
 have G:(fun w'=>Wk am w') am.drew:=(Md.refl _ _).drew
 refine bD (fun w'=>Wk am w') rfl wide G (bd 0 rfl (ae C) G (bd 1 rfl (ae q) G (aB 2 rfl (fun _ _=>le rfl rfl) G (aB 3 rfl (fun _ _=>mv) G (iQ (t:=49) rfl (fun bm=> ?_) (fun bm=> ?_))))))
 refine a8 4 rfl (by kernel_rfl) rfl rfl rfl (fun _ _=>aC (.slice s n cp) rfl) G (a8 5 rfl (by kernel_rfl) rfl rfl rfl (fun _ _=>aC (ae a) rfl) G (a8 6 rfl (by kernel_rfl) rfl rfl rfl (fun _ _=>aJ bl rfl rfl (by omega) (aw.ok ((aM I).2) (bw (by omega)))) G (a8 7 rfl (by kernel_rfl) rfl rfl rfl (fun w' V=>ld bL rfl (b0 (i:=a) ((aM I).2.wk V) (by omega))) G (a8 8 rfl (by kernel_rfl) rfl rfl rfl (fun _ _=>aC (.slice s n cp) rfl) G (a8 9 rfl (by kernel_rfl) rfl rfl rfl (fun _ _=>aC (ae q) rfl) G (a8 10 rfl (by kernel_rfl) rfl rfl rfl (fun _ _=>aJ bl rfl rfl (by omega) (aw.ok ((aM I).2) (bw (by omega)))) G (a8 11 rfl (by kernel_rfl) rfl rfl rfl (fun w' V=>ld bL rfl (b0 (i:=q) ((aM I).2.wk V) (by omega))) G ?_)))))))
 refine j4 12 rfl (by kernel_rfl) rfl rfl rfl (cl iL (iR A[a]! A[q]! _) rfl fun bX w58 bi=> ?_)
 obtain ⟨rfl,hE58⟩:=bi
 have ao:(fun w'=>Wk am w') w58:=Md.trans G hE58
 refine ⟨ao,?_⟩
 refine aB 13 rfl (fun _ _=>bg rfl) ao (hn (by kernel_rfl) (tn (ac _ _ (cb rfl (fun aF=> ?_) (fun aF=> ?_)))))
 refine az (tn (ap _ _ (aA (rg rfl (ag (ae q) (p (cM ((q - 1:Nat):Int) rfl rfl (aR (by omega) (by omega))) (p ak (nl ?_))))))))
 exact bn (tn (⟨_,by omega,q - 1,(by omega),((by rw [← hq2,sY (show 0 < q by omega) (show C≤q by omega) (by simpa using aF)])),(aG I ao),(Md.trans ah (ao.mono (fun _ _ h=>h.elim))),rfl,rfl,rfl,rfl,rfl⟩))
 exact ext (te _ (te _ (be (tn (⟨q,hq1,((by rw [← hq2,nj (.inr (by simpa using aF))])),(aG I ao),(Md.trans ah (ao.mono (fun _ _ h=>h.elim))),rfl,rfl,rfl,rfl⟩)))))
 refine a9 4 rfl (by kernel_rfl) rfl rfl rfl rfl G ?_
 refine a9 5 rfl (by kernel_rfl) rfl rfl rfl rfl G ?_
 refine a9 6 rfl (by kernel_rfl) rfl rfl rfl rfl G ?_
 refine a9 7 rfl (by kernel_rfl) rfl rfl rfl rfl G ?_
 refine a9 8 rfl (by kernel_rfl) rfl rfl rfl rfl G ?_
 refine a9 9 rfl (by kernel_rfl) rfl rfl rfl rfl G ?_
 refine a9 10 rfl (by kernel_rfl) rfl rfl rfl rfl G ?_
 refine a9 11 rfl (by kernel_rfl) rfl rfl rfl rfl G ?_
 refine a9 12 rfl (by kernel_rfl) rfl rfl rfl rfl G ?_
 refine aB 13 rfl (fun _ _=>a5 rfl) G (hn (by kernel_rfl) (tn (ac _ _ (cf rfl (ext (te _ (te _ (be ?_))))))))
 exact tn (⟨q,hq1,((by rw [← hq2,nj (.inl (by omega))])),(aG I (Md.refl _ _).drew),ah.drew,rfl,rfl,rfl,rfl⟩)
 rintro ax an ⟨O,bU,aL,Z,aK,bJ,bK,bN,bM⟩
 refine fx 0 bJ (fx 1 bK (fx 9 bN (fx 10 bM (sq (fun _ ap=>U (fun _ ac=>(ag (ae C) (ag (ae O) (p (gt rfl rfl) (nl ?_))))))))))
 refine tn (ac _ _ (cd rfl (fun bj=> ?_) (fun bj=> ?_)))
 refine ext (te _ (ks (by decide) (te _ (be (tn (aT _ _ (U (fun _ aD=> ?_))))))))
 refine ag (ae C) (p (bF (ae C) rfl) (au ((aD _ _ (rt (f1 rfl rfl ?_))))))
 have hz:Go.Sort.partitionEqual bo d a b Y=(C,A):=by rw [← hq,AH aN aL,if_pos (by omega)]
 exact ⟨by rw [hz]; rfl,by rw [hz]; exact Z,aK⟩
 refine az (tn (ap _ _ (sq (fun _ aD=> ?_))))
 have hdcn:=dT Z
 have M:(fun w'=>Wk an w') an.drew:=(Md.refl _ _).drew
 refine dH (fun w'=>Wk an w') 13 rfl wide M (a4 0 rfl (.slice s n cp) M (a4 1 rfl (ae C) M (a4 2 rfl (.slice s n cp) M (a4 3 rfl (ae O) M (a4 4 rfl (.slice s n cp) M (a4 5 rfl (ae O) M (a6 6 rfl (fun _=>aJ bl rfl rfl (by omega) (aw.ok ((aM Z).2) (bw (by omega)))) (fun _=>M) ?_)))))))
 refine cT 7 rfl (fun w' V=>ld bL rfl (b0 (i:=O) ((aM Z).2.wk V) (by omega))) M (a4 8 rfl (.slice s n cp) M (a4 9 rfl (ae C) M (a6 10 rfl (fun _=>aJ bl rfl rfl (by omega) (aw.ok ((aM Z).2) (bw (by omega)))) (fun _=>M) (cT 11 rfl (fun w' V=>ld bL rfl (b0 (i:=C) ((aM Z).2.wk V) (by omega))) M (a6 12 rfl (fun _=>aJ bl rfl rfl (by omega) (aw.ok ((aM Z).2) (bw (by omega)))) (fun _=>M) (cE 13 rfl (by kernel_rfl) (by kernel_rfl) (ep (u:=A[O]!) (C) (aG Z M) dY rfl rfl rfl (by omega) fun bZ a1 br=> ?_)))))))
 refine a6 14 rfl (fun _=>aJ bl rfl rfl (by omega) (aw.ok ((aM Z).2) (bw (by omega)))) (fun h=>Bool.noConfusion ((show true =_ from by kernel_rfl).trans h)) (cE 15 rfl (by kernel_rfl) (by kernel_rfl) (ep (u:=A[C]!) (O) br dY rfl rfl rfl (by omega) fun wPY2 a2 bs=> ?_))
 have bf:wPY2.ownsRow B 71 1 (.slice s n cp) n (LE aO (Go.Sort.swp A (C) (O))):=bs
 have a0:Md (fun q=>(Value.slice s n cp).ownBlock=some q) an wPY2:=Md.trans (M.mono (fun _ _ h=>h.elim)) (Md.trans a1 a2)
 refine dG (by kernel_rfl) ?_
 refine tn (aD _ _ (U (fun _ aV=>(ag (ae C) (p (bc ((C+1:Nat):Int) rfl rfl (aR (by omega) (by omega))) (aj (((aV _ _ ?_)))))))))
 exact rg rfl (ag (ae O) (p (cM ((O - 1:Nat):Int) rfl rfl (aR (by omega) (by omega))) (p ak (nl (bn (tn (⟨_,by omega,C+1,O - 1,Go.Sort.swp A C O,(by omega),((by rw [← hq,AH aN aL,if_neg (by omega),if_pos (by omega)])),bf,(Md.trans aK a0),rfl,rfl,rfl,rfl,rfl⟩)))))))
end Go.Hb.vN
end
section
set_option maxRecDepth 20000
set_option maxHeartbeats 1000000
namespace Go.Hb.vO
open Go.Hb.di
open Go.Proofs
open Go.Hb.mo
theorem Ka {d:Array Nat} {a b s i i2:Nat} (h0:0 < s) (h:Go.Sort.scanSorted bo d b i=i2) (h1:i2=b):Go.Sort.partialIns bo a b s i d=(d,true):=by
 cases s with
 | zero=>omega
 | succ s=>rw [Go.Sort.partialIns]; simp only [h,if_pos h1]
theorem Kb {d:Array Nat} {a b s i i2:Nat} (h0:0 < s) (h:Go.Sort.scanSorted bo d b i=i2) (h1:¬i2=b) (h2:b - a < 50):Go.Sort.partialIns bo a b s i d=(d,false):=by
 cases s with
 | zero=>omega
 | succ s=>rw [Go.Sort.partialIns]; simp only [h,if_neg h1,if_pos h2]
theorem uE {d j dh:Array Nat} {a b s i i2:Nat} (h0:0 < s) (h:Go.Sort.scanSorted bo d b i=i2) (h1:¬i2=b) (h2:¬b - a < 50)
 (hg:j=if i2 - a≥2 then Go.Sort.shiftDown bo (i2 - 1) (Go.Sort.swp d i2 (i2 - 1)) else Go.Sort.swp d i2 (i2 - 1)) (hh:dh=if b - i2≥2 then Go.Sort.shiftUp bo b (i2+1) j else j):
 Go.Sort.partialIns bo a b s i d=Go.Sort.partialIns bo a b (s - 1) i2 dh:=by
 cases s with
 | zero=>omega
 | succ s=>rw [Go.Sort.partialIns]; simp only [h,if_neg h1,if_neg h2]; rw [← hg,← hh]; rfl
theorem Kd (d:Array Nat) (a b:Nat) (B n cp:Nat) (j:Option Addr) (w:World) (bP:w.ownsRow B 71 1 (.slice j n cp) n (LE aO d)) (cN:a < b∧b≤n) (cP:n≤1099511627776):
 aU Tryz.prog 161 (List.toArray [.slice j n cp,ae a,ae b]) w (fun v w'=>v= .bool (Go.Sort.partialInsertionSort bo d a b).2∧w'.ownsRow B 71 1 (.slice j n cp) n (LE aO (Go.Sort.partialInsertionSort bo d a b).1)∧Md (fun q=>(Value.slice j n cp).ownBlock=some q) w w'):=by
 refine enter Tryz.func161 rfl Tryz.ntmps161 rfl ?_
 refine U (fun _ bt=>(aj (((bt _ _ (U (fun _ bv=>(ag (ae a) ?_))))))))
 refine p (bc ((a+1:Nat):Int) rfl rfl (aR (by omega) (by omega))) (aj (((bv _ _ (sq (fun _ bx=>U (fun _ bz=>(p ak ?_))))))))
 refine au ((bz _ _ (aA (lp (fun O av bi=> ∃ (s i:Nat) (E:Array Nat),(a+1≤i∧i≤b∧s≤5)∧(Go.Sort.partialIns bo a b (5 - s) i E=(Go.Sort.partialInsertionSort bo d a b))∧(bi.ownsRow B 71 1 (.slice j n cp) n (LE aO E))∧(Md (fun q=>(Value.slice j n cp).ownBlock=some q) w bi)∧(av 0= .slice j n cp)∧(av 1=ae a)∧(av 2=ae b)∧(av 7=ae i)∧(av 8=ae s)∧(5 - s=O)) _ ⟨0,a+1,d,(by omega),rfl,bP,(Md.refl _ _),rfl,rfl,rfl,rfl,rfl,rfl⟩ ?_))))
 rintro O av bi ⟨s,i,E,hi,hq,bp,bj,ca,cc,ce,cg,ch,rfl⟩
 refine fx 0 ca (fx 1 cc (fx 2 ce (fx 7 cg (fx 8 ch (sq (fun _ bA=>U (fun _ bB=>(ag (ae s) (p (lt rfl rfl) (au ((bB _ _ ?_))))))))))))
 refine cd rfl (fun bW=> ?_) (fun bW=> ?_)
 refine az (tn (bA _ _ (sq (fun _ aE=>aA ?_))))
 refine c7 (fun ax wC=> ∃ (i2:Nat),(i≤i2∧i2≤b)∧(Go.Sort.scanSorted bo E b i=i2)∧(wC.ownsRow B 71 1 (.slice j n cp) n (LE aO E))∧(Md (fun q=>(Value.slice j n cp).ownBlock=some q) w wC)∧(ax 0= .slice j n cp)∧(ax 1=ae a)∧(ax 2=ae b)∧(ax 7=ae i2)∧(ax 8=ae s)) ?_ ?_
 refine aA (lp (fun O ay an=> ∃ (q:Nat),(i≤q∧q≤b)∧(Go.Sort.scanSorted bo E b q=Go.Sort.scanSorted bo E b i)∧(an.ownsRow B 71 1 (.slice j n cp) n (LE aO E))∧(Md (fun q=>(Value.slice j n cp).ownBlock=some q) w an)∧(ay 0= .slice j n cp)∧(ay 1=ae a)∧(ay 2=ae b)∧(ay 7=ae q)∧(ay 8=ae s)∧(b - q=O)) _ ⟨i,(by omega),rfl,bp,bj,rfl,rfl,rfl,rfl,rfl,rfl⟩ ?_)
 rintro O ay an ⟨q,hq1,hq2,aa,aY,co,cq,cr,cs,ct,rfl⟩
 refine fx 0 co (fx 1 cq (fx 2 cr (fx 7 cs (fx 8 ct (sq (fun _ aW=>sq (fun _ aF=> ?_)))))))
 have hdcn:=dT aa
 have A:(fun w'=>Wk an w') an.drew:=(Md.refl _ _).drew
 refine bD (fun w'=>Wk an w') rfl wide A (bd 0 rfl (ae q) A (bd 1 rfl (ae b) A (aB 2 rfl (fun _ _=>lt rfl rfl) A (aB 3 rfl (fun _ _=>mv) A (iQ (t:=20) rfl (fun b3=> ?_) (fun b3=> ?_))))))
 refine a8 4 rfl (by kernel_rfl) rfl rfl rfl (fun _ _=>aC (.slice j n cp) rfl) A (a8 5 rfl (by kernel_rfl) rfl rfl rfl (fun _ _=>aC (ae q) rfl) A (a8 6 rfl (by kernel_rfl) rfl rfl rfl (fun _ _=>aJ bl rfl rfl (by omega) (aw.ok ((aM aa).2) (bw (by omega)))) A (a8 7 rfl (by kernel_rfl) rfl rfl rfl (fun w' C=>ld bL rfl (b0 (i:=q) ((aM aa).2.wk C) (by omega))) A (a8 8 rfl (by kernel_rfl) rfl rfl rfl (fun _ _=>aC (.slice j n cp) rfl) A (a8 9 rfl (by kernel_rfl) rfl rfl rfl (fun _ _=>aC (ae q) rfl) A (a8 10 rfl (by kernel_rfl) rfl rfl rfl (fun _ _=>cM ((q - 1:Nat):Int) rfl rfl (aR (by omega) (by omega))) A (a8 11 rfl (by kernel_rfl) rfl rfl rfl (fun _ _=>aJ bl rfl rfl (by omega) (aw.ok ((aM aa).2) (bw (by omega)))) A ?_)))))))
 refine a8 12 rfl (by kernel_rfl) rfl rfl rfl (fun w' C=>ld bL rfl (b0 (i:=q - 1) ((aM aa).2.wk C) (by omega))) A (j4 13 rfl (by kernel_rfl) rfl rfl rfl (cl iL (iR E[q]! E[q - 1]! _) rfl fun v30 w30 bT=> ?_))
 obtain ⟨rfl,bE⟩:=bT
 have ai:(fun w'=>Wk an w') w30:=Md.trans A bE
 refine ⟨ai,?_⟩
 refine a8 14 rfl (by kernel_rfl) rfl rfl rfl (fun _ _=>no rfl) ai (aB 15 rfl (fun _ _=>bg rfl) ai (hn (by kernel_rfl) (tn (aF _ _ (cb rfl (fun a2=> ?_) (fun a2=> ?_))))))
 refine az (tn (aW _ _ (aA (rg rfl (ag (ae q) (p (bc ((q+1:Nat):Int) rfl rfl (aR (by omega) (by omega))) (p ak (nl ?_))))))))
 exact bn (tn (⟨_,by omega,q+1,(by omega),((by rw [← hq2,Lp (show q < b by omega) (by simpa using a2)])),(aG aa ai),(Md.trans aY (ai.mono (fun _ _ h=>h.elim))),rfl,rfl,rfl,rfl,rfl,rfl⟩))
 exact ext (te _ (te _ (be (tn (⟨q,(by omega),((by rw [← hq2,BB (.inr (by simpa using a2))])),(aG aa ai),(Md.trans aY (ai.mono (fun _ _ h=>h.elim))),rfl,rfl,rfl,rfl,rfl⟩)))))
 refine a9 4 rfl (by kernel_rfl) rfl rfl rfl rfl A ?_
 refine a9 5 rfl (by kernel_rfl) rfl rfl rfl rfl A ?_
 refine a9 6 rfl (by kernel_rfl) rfl rfl rfl rfl A ?_
 refine a9 7 rfl (by kernel_rfl) rfl rfl rfl rfl A ?_
 refine a9 8 rfl (by kernel_rfl) rfl rfl rfl rfl A ?_
 refine a9 9 rfl (by kernel_rfl) rfl rfl rfl rfl A ?_
 refine a9 10 rfl (by kernel_rfl) rfl rfl rfl rfl A ?_
 refine a9 11 rfl (by kernel_rfl) rfl rfl rfl rfl A ?_
 refine a9 12 rfl (by kernel_rfl) rfl rfl rfl rfl A ?_
 refine a9 13 rfl (by kernel_rfl) rfl rfl rfl rfl A ?_
 refine a9 14 rfl (by kernel_rfl) rfl rfl rfl rfl A ?_
 refine aB 15 rfl (fun _ _=>a5 rfl) A (hn (by kernel_rfl) (tn (aF _ _ (cf rfl (ext (te _ (te _ (be ?_))))))))
 exact tn (⟨q,(by omega),((by rw [← hq2,BB (.inl (by omega))])),(aG aa (Md.refl _ _).drew),aY.drew,rfl,rfl,rfl,rfl,rfl⟩)
 rintro ax wC ⟨i2,cO,hsc,Z,aH,ci,cj,ck,cm,cn⟩
 refine fx 0 ci (fx 1 cj (fx 2 ck (fx 7 cm (fx 8 cn (sq (fun _ aW=>U (fun _ aF=>(ag (ae i2) (ag (ae b) (p (bf rfl rfl) (nl ?_)))))))))))
 refine tn (aF _ _ (cd rfl (fun bX=> ?_) (fun bX=> ?_)))
 refine U (fun _ aI=>(aj (((aI _ _ (rt (tr (br ?_))))))))
 refine tr (tr (br (tr (f1 rfl rfl ?_))))
 have hz:(Go.Sort.partialInsertionSort bo d a b)=(E,true):=by rw [← hq,Ka (show 0 < 5 - s by omega) hsc (by omega)]
 exact ⟨by rw [hz]; rfl,by rw [hz]; exact Z,aH⟩
 have aX:¬i2=b:=by omega
 refine az (tn (aW _ _ (sq (fun _ aI=>U (fun _ bu=>(ag (ae b) (ag (ae a) (p (cM ((b - a:Nat):Int) rfl rfl (aR (by omega) (by omega))) ?_))))))))
 refine p (lt rfl rfl) (au ((bu _ _ (cd rfl (fun bY=> ?_) (fun bY=> ?_)))))
 refine U (fun _ aK=>(aj (((aK _ _ (rt (tr (br ?_))))))))
 refine tr (tr (br (tr (f1 rfl rfl ?_))))
 have hz:(Go.Sort.partialInsertionSort bo d a b)=(E,false):=by rw [← hq,Kb (show 0 < 5 - s by omega) hsc (by omega) (by omega)]
 exact ⟨by rw [hz]; rfl,by rw [hz]; exact Z,aH⟩
 refine az (tn (aI _ _ (sq (fun _ aK=> ?_))))
 have hdcn:=dT Z
 have G:(fun w'=>Wk wC w') wC.drew:=(Md.refl _ _).drew
 refine dH (fun w'=>Wk wC w') 15 rfl wide G (a4 0 rfl (.slice j n cp) G (a4 1 rfl (ae i2) G (a4 2 rfl (.slice j n cp) G (a4 3 rfl (ae i2) G (a6 4 rfl (fun _=>cM ((i2 - 1:Nat):Int) rfl rfl (aR (by omega) (by omega))) (fun _=>G) (a4 5 rfl (.slice j n cp) G (a4 6 rfl (ae i2) G ?_)))))))
 refine a6 7 rfl (fun _=>cM ((i2 - 1:Nat):Int) rfl rfl (aR (by omega) (by omega))) (fun _=>G) (a6 8 rfl (fun _=>aJ bl rfl rfl (by omega) (aw.ok ((aM Z).2) (bw (by omega)))) (fun _=>G) (cT 9 rfl (fun w' C=>ld bL rfl (b0 (i:=i2 - 1) ((aM Z).2.wk C) (by omega))) G (a4 10 rfl (.slice j n cp) G (a4 11 rfl (ae i2) G (a6 12 rfl (fun _=>aJ bl rfl rfl (by omega) (aw.ok ((aM Z).2) (bw (by omega)))) (fun _=>G) (cT 13 rfl (fun w' C=>ld bL rfl (b0 (i:=i2) ((aM Z).2.wk C) (by omega))) G (a6 14 rfl (fun _=>aJ bl rfl rfl (by omega) (aw.ok ((aM Z).2) (bw (by omega)))) (fun _=>G) ?_)))))))
 refine cE 15 rfl (by kernel_rfl) (by kernel_rfl) (ep (u:=E[i2 - 1]!) (i2) (aG Z G) dY rfl rfl rfl (by omega) fun cS bG b4=> ?_)
 refine a6 16 rfl (fun _=>aJ bl rfl rfl (by omega) (aw.ok ((aM Z).2) (bw (by omega)))) (fun h=>Bool.noConfusion ((show true =_ from by kernel_rfl).trans h)) (cE 17 rfl (by kernel_rfl) (by kernel_rfl) (ep (u:=E[i2]!) (i2 - 1) b4 dY rfl rfl rfl (by omega) fun wP12 bH b5=> ?_))
 have bs:wP12.ownsRow B 71 1 (.slice j n cp) n (LE aO (Go.Sort.swp E (i2) (i2 - 1))):=b5
 have bk:Md (fun q=>(Value.slice j n cp).ownBlock=some q) wC wP12:=Md.trans (G.mono (fun _ _ h=>h.elim)) (Md.trans bG bH)
 refine dG (by kernel_rfl) ?_
 refine tn (aK _ _ ?_)
 refine c7 (fun aD bh=> ∃ (ah:Array Nat),(ah=if i2 - a≥2 then Go.Sort.shiftDown bo (i2 - 1) (Go.Sort.swp E i2 (i2 - 1)) else (Go.Sort.swp E i2 (i2 - 1)))∧(bh.ownsRow B 71 1 (.slice j n cp) n (LE aO ah))∧(Md (fun q=>(Value.slice j n cp).ownBlock=some q) w bh)∧(aD 0= .slice j n cp)∧(aD 1=ae a)∧(aD 2=ae b)∧(aD 7=ae i2)∧(aD 8=ae s)) ?_ ?_
 refine U (fun _ aL=>(ag (ae i2) (ag (ae a) (p (cM ((i2 - a:Nat):Int) rfl rfl (aR (by omega) (by omega))) (p (ge rfl rfl) (au ((aL _ _ ?_))))))))
 refine cd rfl (fun bZ=> ?_) (fun bZ=> ?_)
 refine U (fun _ aN=>(ag (ae i2) (p (cM ((i2 - 1:Nat):Int) rfl rfl (aR (by omega) (by omega))) (aj (((aN _ _ (aA ?_))))))))
 refine lp (fun O ao al=> ∃ (q:Nat) (M:Array Nat),(q≤i2 - 1)∧(Go.Sort.shiftDown bo q M=Go.Sort.shiftDown bo (i2 - 1) (Go.Sort.swp E i2 (i2 - 1)))∧(al.ownsRow B 71 1 (.slice j n cp) n (LE aO M))∧(Md (fun q=>(Value.slice j n cp).ownBlock=some q) w al)∧(ao 0= .slice j n cp)∧(ao 1=ae a)∧(ao 2=ae b)∧(ao 7=ae i2)∧(ao 8=ae s)∧(ao 9=ae q)∧(q=O)) _ ⟨i2 - 1,(Go.Sort.swp E i2 (i2 - 1)),(by omega),rfl,bs,(Md.trans aH bk),rfl,rfl,rfl,rfl,rfl,rfl,rfl⟩ ?_
 rintro O ao al ⟨q,M,hq1,ba,ab,aZ,cz,cA,cB,cC,cD,cF,rfl⟩
 refine fx 0 cz (fx 1 cA (fx 2 cB (fx 7 cC (fx 8 cD (fx 9 cF (sq (fun _ aP=>U (fun _ aQ=>(ag (ae q) (p (ge rfl rfl) (au ((aQ _ _ ?_)))))))))))))
 refine cd rfl (fun b1=> ?_) (fun b1=> ?_)
 refine az (tn (aP _ _ (sq (fun _ aS=>aA (sq (fun _ aT=>sq (fun _ aV=> ?_)))))))
 have hdfn:=dT ab
 have V:(fun w'=>Wk al w') al.drew:=(Md.refl _ _).drew
 refine bD (fun w'=>Wk al w') rfl wide V (bd 0 rfl (.slice j n cp) V (bd 1 rfl (ae q) V (aB 2 rfl (fun _ _=>aJ bl rfl rfl (by omega) (aw.ok ((aM ab).2) (bw (by omega)))) V (aB 3 rfl (fun w' C=>ld bL rfl (b0 (i:=q) ((aM ab).2.wk C) (by omega))) V (bd 4 rfl (.slice j n cp) V (bd 5 rfl (ae q) V (aB 6 rfl (fun _ _=>cM ((q - 1:Nat):Int) rfl rfl (aR (by omega) (by omega))) V ?_)))))))
 refine aB 7 rfl (fun _ _=>aJ bl rfl rfl (by omega) (aw.ok ((aM ab).2) (bw (by omega)))) V (aB 8 rfl (fun w' C=>ld bL rfl (b0 (i:=q - 1) ((aM ab).2.wk C) (by omega))) V (he 9 rfl (by kernel_rfl) (cl iL (iR M[q]! M[q - 1]! _) rfl fun cR w77 bU=> ?_)))
 obtain ⟨rfl,bF⟩:=bU
 have aq:(fun w'=>Wk al w') w77:=Md.trans V bF
 refine ⟨aq,?_⟩
 refine aB 10 rfl (fun _ _=>no rfl) aq (hn (by kernel_rfl) (tn (aV _ _ (cb rfl (fun a3=> ?_) (fun a3=> ?_)))))
 exact ext (te _ (ks (by decide) (te _ (te _ (be (tn (⟨M,((by rw [if_pos (by omega),← ba,Bb (.inr (by simpa using a3))])),(aG ab aq),(Md.trans aZ (aq.mono (fun _ _ h=>h.elim))),rfl,rfl,rfl,rfl,rfl⟩)))))))
 refine az (tn (aT _ _ ?_))
 have hO7:=aG ab aq
 have hS17:(fun w'=>Wk w77 w') w77.drew:=(Md.refl _ _).drew
 refine dH (fun w'=>Wk w77 w') 15 rfl wide hS17 (a4 0 rfl (.slice j n cp) hS17 (a4 1 rfl (ae q) hS17 (a4 2 rfl (.slice j n cp) hS17 (a4 3 rfl (ae q) hS17 (a6 4 rfl (fun _=>cM ((q - 1:Nat):Int) rfl rfl (aR (by omega) (by omega))) (fun _=>hS17) (a4 5 rfl (.slice j n cp) hS17 (a4 6 rfl (ae q) hS17 ?_)))))))
 refine a6 7 rfl (fun _=>cM ((q - 1:Nat):Int) rfl rfl (aR (by omega) (by omega))) (fun _=>hS17) (a6 8 rfl (fun _=>aJ bl rfl rfl (by omega) (aw.ok ((aM hO7).2) (bw (by omega)))) (fun _=>hS17) (cT 9 rfl (fun w' C=>ld bL rfl (b0 (i:=q - 1) ((aM hO7).2.wk C) (by omega))) hS17 (a4 10 rfl (.slice j n cp) hS17 (a4 11 rfl (ae q) hS17 (a6 12 rfl (fun _=>aJ bl rfl rfl (by omega) (aw.ok ((aM hO7).2) (bw (by omega)))) (fun _=>hS17) (cT 13 rfl (fun w' C=>ld bL rfl (b0 (i:=q) ((aM hO7).2.wk C) (by omega))) hS17 (a6 14 rfl (fun _=>aJ bl rfl rfl (by omega) (aw.ok ((aM hO7).2) (bw (by omega)))) (fun _=>hS17) ?_)))))))
 refine cE 15 rfl (by kernel_rfl) (by kernel_rfl) (ep (u:=M[q - 1]!) (q) (aG hO7 hS17) dY rfl rfl rfl (by omega) fun cU bJ b6=> ?_)
 refine a6 16 rfl (fun _=>aJ bl rfl rfl (by omega) (aw.ok ((aM hO7).2) (bw (by omega)))) (fun h=>Bool.noConfusion ((show true =_ from by kernel_rfl).trans h)) (cE 17 rfl (by kernel_rfl) (by kernel_rfl) (ep (u:=M[q]!) (q - 1) b6 dY rfl rfl rfl (by omega) fun wP22 bK b7=> ?_))
 have bQ:wP22.ownsRow B 71 1 (.slice j n cp) n (LE aO (Go.Sort.swp M (q) (q - 1))):=b7
 have bI:Md (fun q=>(Value.slice j n cp).ownBlock=some q) w77 wP22:=Md.trans (hS17.mono (fun _ _ h=>h.elim)) (Md.trans bJ bK)
 refine dG (by kernel_rfl) ?_
 refine bn (tn (aS _ _ (rg rfl (ag (ae q) (p (cM ((q - 1:Nat):Int) rfl rfl (aR (by omega) (by omega))) (p ak (nl (tn ?_))))))))
 exact ⟨_,by omega,q - 1,Go.Sort.swp M q (q - 1),(by omega),((by rw [← ba,KR (show 0 < q by omega) (by simpa using a3)])),bQ,(Md.trans aZ (Md.trans (aq.mono (fun _ _ h=>h.elim)) bI)),rfl,rfl,rfl,rfl,rfl,rfl,rfl⟩
 exact ext (te _ (te _ (be (tn (⟨M,((by rw [if_pos (by omega),← ba,Bb (.inl (by omega))])),ab,aZ,rfl,rfl,rfl,rfl,rfl⟩)))))
 exact az (tn (⟨(Go.Sort.swp E i2 (i2 - 1)),((by rw [if_neg (by omega)])),bs,(Md.trans aH bk),rfl,rfl,rfl,rfl,rfl⟩))
 rintro aD bh ⟨ah,a7,bq,bm,cu,cv,cw,cx,cy⟩
 refine fx 0 cu (fx 1 cv (fx 2 cw (fx 7 cx (fx 8 cy (U (fun _ aL=>(ag (ae b) (ag (ae i2) (p (cM ((b - i2:Nat):Int) rfl rfl (aR (by omega) (by omega))) (p (ge rfl rfl) (nl ?_)))))))))))
 refine tn (aL _ _ (cd rfl (fun b2=> ?_) (fun b2=> ?_)))
 refine U (fun _ aN=>(ag (ae i2) (p (bc ((i2+1:Nat):Int) rfl rfl (aR (by omega) (by omega))) (aj (((aN _ _ (aA ?_))))))))
 refine lp (fun O ap am=> ∃ (q:Nat) (J:Array Nat),(i2+1≤q∧q≤b)∧(Go.Sort.shiftUp bo b q J=Go.Sort.shiftUp bo b (i2+1) ah)∧(am.ownsRow B 71 1 (.slice j n cp) n (LE aO J))∧(Md (fun q=>(Value.slice j n cp).ownBlock=some q) w am)∧(ap 0= .slice j n cp)∧(ap 1=ae a)∧(ap 2=ae b)∧(ap 7=ae i2)∧(ap 8=ae s)∧(ap 10=ae q)∧(b - q=O)) _ ⟨i2+1,ah,(by omega),rfl,bq,bm,rfl,rfl,rfl,rfl,rfl,rfl,rfl⟩ ?_
 rintro O ap am ⟨q,J,hq1,bb,ac,a0,cG,cH,cJ,cK,cL,cI,rfl⟩
 refine fx 0 cG (fx 1 cH (fx 2 cJ (fx 7 cK (fx 8 cL (fx 10 cI (sq (fun _ aP=>U (fun _ aQ=>(ag (ae q) (ag (ae b) (p (lt rfl rfl) (nl ?_))))))))))))
 refine tn (aQ _ _ (cd rfl (fun bV=> ?_) (fun bV=> ?_)))
 refine az (tn (aP _ _ (sq (fun _ aS=>aA (sq (fun _ aT=>sq (fun _ aV=> ?_)))))))
 have hdkn:=dT ac
 have Y:(fun w'=>Wk am w') am.drew:=(Md.refl _ _).drew
 refine bD (fun w'=>Wk am w') rfl wide Y (bd 0 rfl (.slice j n cp) Y (bd 1 rfl (ae q) Y (aB 2 rfl (fun _ _=>aJ bl rfl rfl (by omega) (aw.ok ((aM ac).2) (bw (by omega)))) Y (aB 3 rfl (fun w' C=>ld bL rfl (b0 (i:=q) ((aM ac).2.wk C) (by omega))) Y (bd 4 rfl (.slice j n cp) Y (bd 5 rfl (ae q) Y (aB 6 rfl (fun _ _=>cM ((q - 1:Nat):Int) rfl rfl (aR (by omega) (by omega))) Y ?_)))))))
 refine aB 7 rfl (fun _ _=>aJ bl rfl rfl (by omega) (aw.ok ((aM ac).2) (bw (by omega)))) Y (aB 8 rfl (fun w' C=>ld bL rfl (b0 (i:=q - 1) ((aM ac).2.wk C) (by omega))) Y (he 9 rfl (by kernel_rfl) (cl iL (iR J[q]! J[q - 1]! _) rfl fun cQ w115 bS=> ?_)))
 obtain ⟨rfl,bC⟩:=bS
 have ar:(fun w'=>Wk am w') w115:=Md.trans Y bC
 refine ⟨ar,?_⟩
 refine aB 10 rfl (fun _ _=>no rfl) ar (hn (by kernel_rfl) (tn (aV _ _ (cb rfl (fun a1=> ?_) (fun a1=> ?_)))))
 refine ext (te _ (ks (by decide) (te _ (te _ (be (bn (tn (aE _ _ ?_))))))))
 exact rg rfl (ag (ae s) (p (bc ((s+1:Nat):Int) rfl rfl (aR (by omega) (by omega))) (aj (((⟨_,by omega,s+1,i2,J,(by omega),((by rw [← hq,uE (show 0 < 5 - s by omega) hsc aX (by omega) a7 (show J=_ by rw [if_pos (by omega),← bb,BI (.inr (by simpa using a1))])]; rfl)),(aG ac ar),(Md.trans a0 (ar.mono (fun _ _ h=>h.elim))),rfl,rfl,rfl,rfl,rfl,rfl⟩))))))
 refine az (tn (aT _ _ ?_))
 have hO8:=aG ac ar
 have I:(fun w'=>Wk w115 w') w115.drew:=(Md.refl _ _).drew
 refine dH (fun w'=>Wk w115 w') 15 rfl wide I (a4 0 rfl (.slice j n cp) I (a4 1 rfl (ae q) I (a4 2 rfl (.slice j n cp) I (a4 3 rfl (ae q) I (a6 4 rfl (fun _=>cM ((q - 1:Nat):Int) rfl rfl (aR (by omega) (by omega))) (fun _=>I) (a4 5 rfl (.slice j n cp) I (a4 6 rfl (ae q) I ?_)))))))
 refine a6 7 rfl (fun _=>cM ((q - 1:Nat):Int) rfl rfl (aR (by omega) (by omega))) (fun _=>I) (a6 8 rfl (fun _=>aJ bl rfl rfl (by omega) (aw.ok ((aM hO8).2) (bw (by omega)))) (fun _=>I) (cT 9 rfl (fun w' C=>ld bL rfl (b0 (i:=q - 1) ((aM hO8).2.wk C) (by omega))) I (a4 10 rfl (.slice j n cp) I (a4 11 rfl (ae q) I (a6 12 rfl (fun _=>aJ bl rfl rfl (by omega) (aw.ok ((aM hO8).2) (bw (by omega)))) (fun _=>I) (cT 13 rfl (fun w' C=>ld bL rfl (b0 (i:=q) ((aM hO8).2.wk C) (by omega))) I (a6 14 rfl (fun _=>aJ bl rfl rfl (by omega) (aw.ok ((aM hO8).2) (bw (by omega)))) (fun _=>I) ?_)))))))
 refine cE 15 rfl (by kernel_rfl) (by kernel_rfl) (ep (u:=J[q - 1]!) (q) (aG hO8 I) dY rfl rfl rfl (by omega) fun cV bN b8=> ?_)
 refine a6 16 rfl (fun _=>aJ bl rfl rfl (by omega) (aw.ok ((aM hO8).2) (bw (by omega)))) (fun h=>Bool.noConfusion ((show true =_ from by kernel_rfl).trans h)) (cE 17 rfl (by kernel_rfl) (by kernel_rfl) (ep (u:=J[q]!) (q - 1) b8 dY rfl rfl rfl (by omega) fun wP32 bO b9=> ?_))
 have bR:wP32.ownsRow B 71 1 (.slice j n cp) n (LE aO (Go.Sort.swp J (q) (q - 1))):=b9
 have bM:Md (fun q=>(Value.slice j n cp).ownBlock=some q) w115 wP32:=Md.trans (I.mono (fun _ _ h=>h.elim)) (Md.trans bN bO)
 refine dG (by kernel_rfl) ?_
 refine bn (tn (aS _ _ (rg rfl (ag (ae q) (p (bc ((q+1:Nat):Int) rfl rfl (aR (by omega) (by omega))) (p ak (nl (tn ?_))))))))
 exact ⟨_,by omega,q+1,Go.Sort.swp J q (q - 1),(by omega),((by rw [← bb,LB (show q < b by omega) (by simpa using a1)])),bR,(Md.trans a0 (Md.trans (ar.mono (fun _ _ h=>h.elim)) bM)),rfl,rfl,rfl,rfl,rfl,rfl,rfl⟩
 refine ext (te _ (te _ (be (bn (tn (aE _ _ (rg rfl (ag (ae s) ?_))))))))
 exact p (bc ((s+1:Nat):Int) rfl rfl (aR (by omega) (by omega))) (aj (((⟨_,by omega,s+1,i2,J,(by omega),((by rw [← hq,uE (show 0 < 5 - s by omega) hsc aX (by omega) a7 (show J=_ by rw [if_pos (by omega),← bb,BI (.inl (by omega))])]; rfl)),ac,a0,rfl,rfl,rfl,rfl,rfl,rfl⟩))))
 refine az (bn (tn (aE _ _ (rg rfl (ag (ae s) (p (bc ((s+1:Nat):Int) rfl rfl (aR (by omega) (by omega))) (p ak (nl ?_))))))))
 exact tn (⟨_,by omega,s+1,i2,ah,(by omega),((by rw [← hq,uE (show 0 < 5 - s by omega) hsc aX (by omega) a7 (show ah=_ by rw [if_neg (by omega)])]; rfl)),bq,bm,rfl,rfl,rfl,rfl,rfl,rfl⟩)
 refine ext (te _ (te _ (be (tn (bx _ _ (U (fun _ aE=>(p ak ?_))))))))
 refine au ((aE _ _ (rt (f1 rfl rfl ?_))))
 have hz:(Go.Sort.partialInsertionSort bo d a b)=(E,false):=by rw [← hq,show 5 - s=0 by omega]; rfl
 exact ⟨by rw [hz]; rfl,by rw [hz]; exact bp,bj⟩
end Go.Hb.vO
end
section
set_option maxRecDepth 20000
set_option maxHeartbeats 1000000
namespace Go.Hb.rR
open Go.Hb.di
open Go.Proofs
open Go.Hb.mo Go.Hb.vN Go.Hb.vO Go.Hb.pk
theorem JU (d:Array Nat) (a b j:Nat) (B n cp:Nat) (i:Option Addr) (w:World) (s:w.ownsRow B 71 1 (.slice i n cp) n (LE aO d)) (A:a≤j∧j < b∧b≤n) (C:n≤1099511627776):aU Tryz.prog 164 (List.toArray [.slice i n cp,.int .i64 (a:Nat),.int .i64 (b:Nat),.int .i64 (j:Nat)]) w
 (fun v w'=> ∃ p ap d4,Go.Sort.partition bo d a b j=(p,ap,d4)∧v= .tuple #[.int .i64 (p:Nat),.bool ap]∧w'.ownsRow B 71 1 (.slice i n cp) n (LE aO d4)∧Md (fun q=>(Value.slice i n cp).ownBlock=some q) w w'):=
 (JT d a b j B n cp i w s A C).mono fun _ _ h=>⟨_,_,_,rfl,h⟩
theorem JW (d:Array Nat) (a b j:Nat) (B n cp:Nat) (i:Option Addr) (w:World) (s:w.ownsRow B 71 1 (.slice i n cp) n (LE aO d)) (A:a≤j∧j < b∧b≤n) (C:n≤1099511627776):aU Tryz.prog 163 (List.toArray [.slice i n cp,.int .i64 (a:Nat),.int .i64 (b:Nat),.int .i64 (j:Nat)]) w
 (fun v w'=> ∃ p d4,Go.Sort.partitionEqual bo d a b j=(p,d4)∧v= .int .i64 (p:Nat)∧w'.ownsRow B 71 1 (.slice i n cp) n (LE aO d4)∧Md (fun q=>(Value.slice i n cp).ownBlock=some q) w w'):=
 (JV d a b j B n cp i w s A C).mono fun _ _ h=>⟨_,_,rfl,h⟩
theorem JY (m:Nat) (d:Array Nat) (a b aa:Nat) (B n cp:Nat) (A:Option Addr) (w:World) (bk:w.ownsRow B 71 1 (.slice A n cp) n (LE aO d)) (hm:b - a < m) (c6:a≤b∧b≤n) (cr:n≤255) (hl:aa≤64) (bI:Go.Sort.Below bo a b d):
 aU Tryz.prog 138 (List.toArray [.slice A n cp,ae a,ae b,ae aa]) w (fun v w'=> ∃ d1,v= .tuple #[]∧Go.Sort.PermIn a b d d1∧Go.Sort.SortedIn bo a b d1∧w'.ownsRow B 71 1 (.slice A n cp) n (LE aO d1)∧Md (fun q=>(Value.slice A n cp).ownBlock=some q) w w'):=by
 have bv:True:=trivial
 induction m generalizing d a b aa w with
 | zero=>omega
 | succ m bv=>
   have ih:∀ (d:Array Nat) (a b aa:Nat) (w:World),w.ownsRow B 71 1 (.slice A n cp) n (LE aO d)→b - a < m→(a≤b∧b≤n)→aa≤64→Go.Sort.Below bo a b d→_:=fun d a b aa w h1 h2 h3 h4 h5=>bv d a b aa w h1 h2 h3 h4 h5
   have hdn:=dT bk
   refine enter Tryz.func138 rfl Tryz.ntmps138 rfl ?_
   refine U (fun _ bz=>(aj (((bz _ _ (U (fun _ bC=>(p ak ?_))))))))
   refine au ((bC _ _ (aA (lp (fun bb am ba=> ∃ (j s ab:Nat) (M wp:Bool) (C:Array Nat),(a≤j∧j≤s∧s≤b∧ab≤64)∧(Go.Sort.Below bo j s C)∧(∀ R,Go.Sort.PermIn j s C R→Go.Sort.SortedIn bo j s R→Go.Sort.PermIn a b d R∧Go.Sort.SortedIn bo a b R)∧(ba.ownsRow B 71 1 (.slice A n cp) n (LE aO C))∧(Md (fun q=>(Value.slice A n cp).ownBlock=some q) w ba)∧(am 0= .slice A n cp)∧(am 1=ae j)∧(am 2=ae s)∧(am 3=ae ab)∧(am 8= .bool M)∧(am 9= .bool wp)∧(s - j=bb)) _ ⟨a,b,aa,true,true,d,(by omega),bI,(fun R h1 h2=>⟨h1,h2⟩),bk,(Md.refl _ _),rfl,rfl,rfl,rfl,rfl,rfl,rfl⟩ ?_))))
   rintro bb am ba ⟨j,s,ab,M,wp,C,hr,aN,an,ax,aE,ct,cu,cv,cw,cx,cy,rfl⟩
   refine fx 0 ct (fx 1 cu (fx 2 cv (fx 3 cw (fx 8 cx (fx 9 cy ?_)))))
   have hdcn:=dT ax
   refine aA (U (fun _ bE=>(ag (ae s) (ag (ae j) (p (cM ((s - j:Nat):Int) rfl rfl (aR (by omega) (by omega))) (p ak (nl ?_)))))))
   refine tn (bE _ _ (sq (fun _ bF=>U (fun _ bG=>(p mv (p (le rfl rfl) (au ((bG _ _ ?_)))))))))
   refine cd rfl (fun hc23=> ?_) (fun hc23=> ?_)
   refine U (fun _ aL=>(ag (.slice A n cp) (ag (ae j) (ag (ae s) (e (cl DF (Iq C j s B n cp A _ ax (by omega) (by omega)) rfl fun da dk bZ=> ?_))))))
   obtain ⟨rfl,bR,bK⟩:=bZ
   refine au ((aL _ _ (rt (tr (br (tr (br (ql rfl ?_))))))))
   obtain ⟨h1,h2⟩:=Go.Sort.insertionSort_holds oJ C j s (by omega) (by omega)
   obtain ⟨hz1,hz2⟩:=an _ (h1) (h2)
   exact ⟨_,rfl,hz1,hz2,bR,Md.trans aE bK⟩
   refine az (tn (bF _ _ (sq (fun _ aL=>U (fun _ bH=>(ag (ae ab) (p (bf rfl rfl) (nl ?_))))))))
   refine tn (bH _ _ (cd rfl (fun ca=> ?_) (fun ca=> ?_)))
   refine U (fun _ aq=>(ag (.slice A n cp) (ag (ae j) (ag (ae s) (e (cl DG (H5 C j s B n cp A _ ax (by omega) (by omega)) rfl fun db w33 b1=> ?_))))))
   obtain ⟨rfl,bS,bM⟩:=b1
   refine au ((aq _ _ (rt (tr (br (tr (br (ql rfl ?_))))))))
   obtain ⟨h1,h2⟩:=Go.Sort.heapSort_holds oJ C j s (by omega) (by omega)
   obtain ⟨hz1,hz2⟩:=an _ (h1) (h2)
   exact ⟨_,rfl,hz1,hz2,bS,Md.trans aE bM⟩
   refine az (tn (aL _ _ ?_))
   refine c7 (fun ac a4=> ∃ (E:Nat) (d1:Array Nat),(E≤64)∧(Go.Sort.PermIn j s C d1)∧(a4.ownsRow B 71 1 (.slice A n cp) n (LE aO d1))∧(Md (fun q=>(Value.slice A n cp).ownBlock=some q) w a4)∧(ac 0= .slice A n cp)∧(ac 1=ae j)∧(ac 2=ae s)∧(ac 3=ae E)∧(ac 8= .bool M)∧(ac 9= .bool wp)∧(ac 10=ae (s - j))) ?_ ?_
   refine U (fun _ aq=>(ag (.bool M) (p (no rfl) (au ((aq _ _ (cb rfl (fun cc=> ?_) (fun cc=> ?_))))))))
   refine U (fun _ I=>(ag (.slice A n cp) (ag (ae j) (ag (ae s) (e (cl DH (C0 C j s B n cp A _ ax (by omega) cr) rfl fun dc w39 b2=> ?_))))))
   obtain ⟨d1,rfl,cs,bT,bN⟩:=b2
   refine au ((I _ _ (rg rfl (ag (ae ab) (p (cM ((ab - 1:Nat):Int) rfl rfl (aR (by omega) (by omega))) (p ak (nl (tn ?_))))))))
   exact ⟨ab - 1,d1,(by omega),cs,bT,(Md.trans aE bN),rfl,rfl,rfl,rfl,rfl,rfl,rfl⟩
   exact az (tn (⟨ab,C,(by omega),(Go.Sort.permIn_refl C j s),ax,aE,rfl,rfl,rfl,rfl,rfl,rfl,rfl⟩))
   rintro ac a4 ⟨E,d1,hl2,bu,bW,bQ,cz,cA,cC,cD,cE,cF,cB⟩
   refine fx 0 cz (fx 1 cA (fx 2 cC (fx 3 cD (fx 8 cE (fx 9 cF (fx 10 cB (U (fun _ aq=>(ag (.slice A n cp) (ag (ae j) (ag (ae s) (e (cl DI (ED d1 j s B n cp A _ bW (by omega) (by omega)) rfl fun dd w46 b3=> ?_)))))))))))))
   obtain ⟨aH,hv,rfl,c8,aS,hE46⟩:=b3
   have hM46:=Md.trans bQ (hE46.mono (fun _ _ h=>h.elim))
   refine p mv (p (xt rfl rfl) (p (xt rfl rfl) (p ak (aj (((aq _ _ ?_)))))))
   refine c7 (fun O a6=> ∃ (G:Nat) (a2:Int) (d2:Array Nat),(j≤G∧G < s)∧(Go.Sort.PermIn j s C d2)∧(a6.ownsRow B 71 1 (.slice A n cp) n (LE aO d2))∧(Md (fun q=>(Value.slice A n cp).ownBlock=some q) w a6)∧(O 0= .slice A n cp)∧(O 1=ae j)∧(O 2=ae s)∧(O 3=ae E)∧(O 8= .bool M)∧(O 9= .bool wp)∧(O 10=ae (s - j))∧(O 11=ae G)∧(O 12= .int .i64 a2)) ?_ ?_
   refine U (fun _ I=>(p mv (p (bf rfl rfl) (au ((I _ _ (cd rfl (fun ce=> ?_) (fun ce=> ?_))))))))
   refine U (fun _ ah=>(ag (.slice A n cp) (ag (ae j) (ag (ae s) (e (cl DJ (Kx d1 j s B n cp A _ aS (by omega) (by omega)) rfl fun de dl b4=> ?_))))))
   obtain ⟨rfl,bU,bO⟩:=b4
   have hd1n:=dT aS
   refine au ((ah _ _ (U (fun _ ao=>(ag (ae s) (p (cM ((s - 1:Nat):Int) rfl rfl (aR (by omega) (by omega))) (p mv (ag (ae j) ?_))))))))
   refine p (cM ((aH - j:Nat):Int) rfl rfl (aR (by omega) (by omega))) (p (cM ((s - 1 - (aH - j):Nat):Int) rfl rfl (aR (by omega) (by omega))) (aj (((ao _ _ (rg rfl (p ak (nl ?_))))))))
   exact tn (⟨s - 1 - (aH - j),1,Go.Sort.reverseRange d1 j s,(by omega),(Go.Sort.permIn_trans _ _ _ j s bu (Go.Sort.reverseRange_holds d1 j s (by omega) (by omega))),bU,(Md.trans hM46 bO),rfl,rfl,rfl,rfl,rfl,rfl,rfl,rfl,rfl⟩)
   exact az (tn (⟨aH,hv,d1,(by omega),bu,aS,hM46,rfl,rfl,rfl,rfl,rfl,rfl,rfl,rfl,rfl⟩))
   rintro O a6 ⟨G,a2,d2,aF,hp2,ay,av,cG,cH,cL,cN,cO,cP,cI,cJ,cK⟩
   refine fx 0 cG (fx 1 cH (fx 2 cL (fx 3 cN (fx 8 cO (fx 9 cP (fx 10 cI (fx 11 cJ (fx 12 cK ?_))))))))
   refine c7 (fun V al=> ∃ (d3:Array Nat),(Go.Sort.PermIn j s C d3)∧(al.ownsRow B 71 1 (.slice A n cp) n (LE aO d3))∧(Md (fun q=>(Value.slice A n cp).ownBlock=some q) w al)∧(V 0= .slice A n cp)∧(V 1=ae j)∧(V 2=ae s)∧(V 3=ae E)∧(V 8= .bool M)∧(V 9= .bool wp)∧(V 10=ae (s - j))∧(V 11=ae G)) ?_ ?_
   refine U (fun _ I=>(ag (.bool M) (ag (.bool M) (gb (t:=62) rfl (fun ch=> ?_) (fun ch=> ?_)))))
   refine pg rfl rfl rfl (aC (.bool wp) rfl) (p (bg rfl) (p mv (gb (t:=65) rfl (fun ci=> ?_) (fun ci=> ?_))))
   refine pg rfl rfl rfl (aC (.int .i64 a2) rfl) (pg rfl rfl rfl (bf rfl rfl) (p (bg rfl) (au ((I _ _ (cd rfl (fun cg=> ?_) (fun cg=> ?_)))))))
   refine U (fun _ ah=>(ag (.slice A n cp) (ag (ae j) (ag (ae s) (e (cl DK (Kd d2 j s B n cp A _ ay (by omega) (by omega)) rfl fun df dm b5=> ?_))))))
   obtain ⟨rfl,bm,bh⟩:=b5
   have hd2n:=dT ay
   obtain ⟨bt,ck⟩:=Go.Sort.partialInsertionSort_holds oJ d2 j s (by omega) (by omega) (Go.Sort.Below.perm aN (by omega) hp2)
   refine au ((ah _ _ (cb rfl (fun bq=> ?_) (fun bq=> ?_))))
   have hsT:=ck bq
   refine rt (tr (br (tr (br (ql rfl ?_)))))
   obtain ⟨hz1,hz2⟩:=an _ (Go.Sort.permIn_trans _ _ _ j s hp2 bt) (hsT)
   exact ⟨_,rfl,hz1,hz2,bm,Md.trans av bh⟩
   exact az (tn (⟨_,(Go.Sort.permIn_trans _ _ _ j s hp2 bt),bm,(Md.trans av bh),rfl,rfl,rfl,rfl,rfl,rfl,rfl,rfl⟩))
   exact az (tn (⟨d2,hp2,ay,av,rfl,rfl,rfl,rfl,rfl,rfl,rfl,rfl⟩))
   refine sk rfl rfl rfl rfl (sk rfl rfl rfl rfl (p (a5 rfl) (au ((I _ _ (cf rfl (az (tn ?_))))))))
   exact ⟨d2,hp2,ay,av,rfl,rfl,rfl,rfl,rfl,rfl,rfl,rfl⟩
   refine sk rfl rfl rfl rfl (p (a5 rfl) (p mv (sk rfl rfl rfl rfl (sk rfl rfl rfl rfl (p (a5 rfl) (au ((I _ _ ?_))))))))
   exact cf rfl (az (tn (⟨d2,hp2,ay,av,rfl,rfl,rfl,rfl,rfl,rfl,rfl,rfl⟩)))
   rintro V al ⟨d3,aD,Z,aP,cQ,cR,cU,cV,cW,cX,cS,cT⟩
   refine fx 0 cQ (fx 1 cR (fx 2 cU (fx 3 cV (fx 8 cW (fx 9 cX (fx 10 cS (fx 11 cT ?_)))))))
   refine c7 (fun Y a7=>(a7.ownsRow B 71 1 (.slice A n cp) n (LE aO d3))∧(Md (fun q=>(Value.slice A n cp).ownBlock=some q) w a7)∧(Y 0= .slice A n cp)∧(Y 1=ae j)∧(Y 2=ae s)∧(Y 3=ae E)∧(Y 8= .bool M)∧(Y 9= .bool wp)∧(Y 10=ae (s - j))∧(Y 11=ae G)) ?_ ?_
   refine sq (fun _ I=> ?_)
   have hd3n:=dT Z
   have hS17:(fun w'=>Wk al w') al.drew:=(Md.refl _ _).drew
   refine bD (fun w'=>Wk al w') rfl wide hS17 (bd 0 rfl (ae j) hS17 (aB 1 rfl (fun _ _=>gt rfl rfl) hS17 (aB 2 rfl (fun _ _=>mv) hS17 (iQ (t:=75) rfl (fun cj=> ?_) (fun cj=> ?_)))))
   refine a8 3 rfl (by kernel_rfl) rfl rfl rfl (fun _ _=>aC (.slice A n cp) rfl) hS17 (a8 4 rfl (by kernel_rfl) rfl rfl rfl (fun _ _=>aC (ae j) rfl) hS17 (a8 5 rfl (by kernel_rfl) rfl rfl rfl (fun _ _=>cM ((j - 1:Nat):Int) rfl rfl (aR (by omega) (by omega))) hS17 (a8 6 rfl (by kernel_rfl) rfl rfl rfl (fun _ _=>aJ bl rfl rfl (by omega) (aw.ok ((aM Z).2) (bw (by omega)))) hS17 (a8 7 rfl (by kernel_rfl) rfl rfl rfl (fun w' aW=>ld bL rfl (b0 (i:=j - 1) ((aM Z).2.wk aW) (by omega))) hS17 (a8 8 rfl (by kernel_rfl) rfl rfl rfl (fun _ _=>aC (.slice A n cp) rfl) hS17 (a8 9 rfl (by kernel_rfl) rfl rfl rfl (fun _ _=>aC (ae G) rfl) hS17 (a8 10 rfl (by kernel_rfl) rfl rfl rfl (fun _ _=>aJ bl rfl rfl (by omega) (aw.ok ((aM Z).2) (bw (by omega)))) hS17 ?_)))))))
   refine a8 11 rfl (by kernel_rfl) rfl rfl rfl (fun w' aW=>ld bL rfl (b0 (i:=G) ((aM Z).2.wk aW) (by omega))) hS17 (j4 12 rfl (by kernel_rfl) rfl rfl rfl (cl iL (iR d3[j - 1]! d3[G]! _) rfl fun dg w85 b6=> ?_))
   obtain ⟨rfl,bJ⟩:=b6
   have ai:(fun w'=>Wk al w') w85:=Md.trans hS17 bJ
   refine ⟨ai,?_⟩
   refine a8 13 rfl (by kernel_rfl) rfl rfl rfl (fun _ _=>no rfl) ai (aB 14 rfl (fun _ _=>bg rfl) ai (hn (by kernel_rfl) (tn (I _ _ (cb rfl (fun bs=> ?_) (fun bs=> ?_))))))
   refine U (fun _ ah=>(ag (.slice A n cp) (ag (ae j) (ag (ae s) (ag (ae G) (e (cl DL (JW d3 j s G B n cp A _ (aG Z ai) (by omega) (by omega)) rfl fun dh dn b7=> ?_)))))))
   obtain ⟨J,d4,a3,rfl,bV,bP⟩:=b7
   obtain ⟨bd,cm,cn,hm4,aZ⟩:=Go.Sort.round_eq oJ (Go.Sort.partitionEqual_holds bo) (show 0 < j by omega) aF.1 aF.2 (by omega) (Go.Sort.Below.perm aN (by omega) aD) (by simpa using bs) a3
   refine aj (((ah _ _ (U (fun _ ao=>(p mv (p ak (nl ?_))))))))
   exact tn (ao _ _ (ext (te _ (be (tn (⟨_,by omega,J,s,E,M,wp,d4,(by omega),hm4,((fun R h1 h2=>by obtain ⟨h3,h4⟩:=aZ R h1 h2; exact an R (Go.Sort.permIn_trans _ _ _ j s aD h3) h4)),bV,(Md.trans aP (Md.trans (ai.mono (fun _ _ h=>h.elim)) bP)),rfl,rfl,rfl,rfl,rfl,rfl,rfl⟩))))))
   exact az (tn (⟨(aG Z ai),(Md.trans aP (ai.mono (fun _ _ h=>h.elim))),rfl,rfl,rfl,rfl,rfl,rfl,rfl,rfl⟩))
   refine a9 3 rfl (by kernel_rfl) rfl rfl rfl rfl hS17 ?_
   refine a9 4 rfl (by kernel_rfl) rfl rfl rfl rfl hS17 ?_
   refine a9 5 rfl (by kernel_rfl) rfl rfl rfl rfl hS17 ?_
   refine a9 6 rfl (by kernel_rfl) rfl rfl rfl rfl hS17 ?_
   refine a9 7 rfl (by kernel_rfl) rfl rfl rfl rfl hS17 ?_
   refine a9 8 rfl (by kernel_rfl) rfl rfl rfl rfl hS17 ?_
   refine a9 9 rfl (by kernel_rfl) rfl rfl rfl rfl hS17 ?_
   refine a9 10 rfl (by kernel_rfl) rfl rfl rfl rfl hS17 ?_
   refine a9 11 rfl (by kernel_rfl) rfl rfl rfl rfl hS17 ?_
   refine a9 12 rfl (by kernel_rfl) rfl rfl rfl rfl hS17 ?_
   refine a9 13 rfl (by kernel_rfl) rfl rfl rfl rfl hS17 ?_
   exact aB 14 rfl (fun _ _=>a5 rfl) hS17 (hn (by kernel_rfl) (tn (I _ _ (cf rfl (az (tn (⟨(aG Z (Md.refl _ _).drew),aP.drew,rfl,rfl,rfl,rfl,rfl,rfl,rfl,rfl⟩)))))))
   rintro Y a7 ⟨bp,bj,cY,cZ,c2,c3,c4,c5,c0,c1⟩
   refine fx 0 cY (fx 1 cZ (fx 2 c2 (fx 3 c3 (fx 8 c4 (fx 9 c5 (fx 10 c0 (fx 11 c1 (U (fun _ I=>(ag (.slice A n cp) (ag (ae j) (ag (ae s) (ag (ae G) (e (cl DM (JU d3 j s G B n cp A _ bp (by omega) (by omega)) rfl fun di bx b8=> ?_)))))))))))))))
   obtain ⟨J,ap,d4,a3,rfl,aT,bi⟩:=b8
   have hd3n:=dT bp
   have hd4n:=dT aT
   obtain ⟨bd,cm,cn,hm4,aZ,co,cq⟩:=Go.Sort.round_part oJ (Go.Sort.partition_holds bo) aF.1 aF.2 (by omega) (Go.Sort.Below.perm aN (by omega) aD) a3
   refine p mv (p (xt rfl rfl) (p (xt rfl rfl) (p ak (aj (((I _ _ (sq (fun _ ah=> ?_)))))))))
   refine rg rfl (p mv (aj (((ah _ _ (U (fun _ ao=>(p mv ?_))))))))
   refine ag (ae j) (p (cM ((J - j:Nat):Int) rfl rfl (aR (by omega) (by omega))) (ag (ae s) (p mv (p (cM ((s - J:Nat):Int) rfl rfl (aR (by omega) (by omega))) (p ak (p ak (nl ?_)))))))
   refine tn (ao _ _ (U (fun _ bA=>(ag (ae (s - j)) (p (ma (((s - j) / 8:Nat):Int) rfl rfl (by omega) (aR (by omega) (by omega))) (aj (((bA _ _ ?_)))))))))
   refine U (fun _ bB=>(p mv (p mv (p (lt rfl rfl) (au ((bB _ _ (cd rfl (fun b9=> ?_) (fun b9=> ?_)))))))))
   refine U (fun _ aI=>(p mv (p mv (p (ge rfl rfl) (aj (((aI _ _ ?_))))))))
   refine U (fun _ aK=>(ag (.slice A n cp) (ag (ae j) (p mv (ag (ae E) (e (cl sj (ih d4 j J E bx aT (by omega) (by omega) (by omega) hm4) rfl fun v121 w121 bX=> ?_)))))))
   obtain ⟨ar,rfl,a0,a1,aV,aQ⟩:=bX
   obtain ⟨aX,aY⟩:=co ar a0 a1
   refine au ((aK _ _ (rg rfl (p mv (p (bc ((J+1:Nat):Int) rfl rfl (aR (by omega) (by omega))) (p ak (nl (bn ?_))))))))
   exact tn (⟨_,by omega,J+1,s,E,decide (((J - j:Nat):Int)≥(((s - j) / 8:Nat):Int)),ap,ar,(by omega),aX,((fun R h1 h2=>by obtain ⟨h3,h4⟩:=aY R h1 h2; exact an R (Go.Sort.permIn_trans _ _ _ j s aD h3) h4)),aV,(Md.trans bj (Md.trans bi aQ)),rfl,rfl,rfl,rfl,rfl,rfl,rfl⟩)
   refine U (fun _ aI=>(p mv (p mv (p (ge rfl rfl) (aj (((aI _ _ ?_))))))))
   refine U (fun _ aK=>(ag (.slice A n cp) (p mv (p (bc ((J+1:Nat):Int) rfl rfl (aR (by omega) (by omega))) (ag (ae s) (ag (ae E) (e (cl sj (ih d4 (J+1) s E bx aT (by omega) (by omega) (by omega) aZ) rfl fun c9 dj bY=> ?_))))))))
   obtain ⟨ar,rfl,a0,a1,aV,aQ⟩:=bY
   obtain ⟨aX,aY⟩:=cq ar a0 a1
   refine au ((aK _ _ (rg rfl (p mv (p ak (nl (bn (tn ?_))))))))
   exact ⟨_,by omega,j,J,E,decide (((s - J:Nat):Int)≥(((s - j) / 8:Nat):Int)),ap,ar,(by omega),aX,((fun R h1 h2=>by obtain ⟨h3,h4⟩:=aY R h1 h2; exact an R (Go.Sort.permIn_trans _ _ _ j s aD h3) h4)),aV,(Md.trans bj (Md.trans bi aQ)),rfl,rfl,rfl,rfl,rfl,rfl,rfl⟩
theorem Li (d:Array Nat) (B n cp:Nat) (a:Option Addr) (w:World) (s:w.ownsRow B 71 1 (.slice a n cp) n (LE aO d)) (A:n≤255):
 aU Tryz.prog 122 (List.toArray [.slice a n cp]) w (fun v w'=> ∃ d1,v= .tuple #[]∧Go.Sort.PermIn 0 n d d1∧Go.Sort.SortedIn bo 0 n d1∧w'.ownsRow B 71 1 (.slice a n cp) n (LE aO d1)∧Md (fun q=>(Value.slice a n cp).ownBlock=some q) w w'):=by
 refine enter Tryz.func122 rfl Tryz.ntmps122 rfl ?_
 refine U (fun _ j=>(ag (.slice a n cp) (p (ba js rfl rfl) (aj (((j _ _ (rg rfl ?_))))))))
 refine ag (.slice a n cp) (p mv (p mv (p (ir BT mi rfl (kO (by omega))) (e (cl xo (Aa n _ (by omega)) rfl fun v9 w9 hR9=> ?_)))))
 obtain ⟨rfl,i⟩:=hR9
 have hll:=qO (n:=n) (by omega)
 refine e (cl sj (JY (n+1) d 0 n (gU n) B n cp a _ (aG s i) (by omega) (by omega) A (by omega) (.inl rfl)) rfl fun v10 w10 hR10=> ?_)
 obtain ⟨d1,rfl,h1,h2,h3,h4⟩:=hR10
 refine nl (f0 rfl ?_)
 exact ⟨d1,rfl,h1,h2,h3,Md.trans (i.mono (fun _ _ h=>h.elim)) h4⟩
end Go.Hb.rR
end
section
set_option maxRecDepth 20000
set_option maxHeartbeats 1000000
namespace Go.Hb.g4
open Go.Hb.di
open Go.Proofs
open Go.Hb.gF Go.Hb.fS Go.Hb.mo Go.Hb.pk Go.Hb.rR
theorem nM {w:World} {B e n cp i:Nat} {a:Option Addr} {d:Array Nat} (h:w.ownsRow B e 1 (.slice a n cp) n (LE aO d)):aw w.heap (ee a cp i 1) ((LE aO d).drop i):=by
 have :=(aM h).2.drop (cap:=cp) (k:=i) (size:=1) (by rw [oI]; have h1:=dT h; have h2:=(aM h).1; omega)
 rwa [Nat.mul_one] at this
theorem I7 (l:List Nat):l.map aO=LE aO l.toArray:=by simp [LE]
theorem pJ (l:List Nat):(l.map aO).all Value.oneCell'=true :=by
 rw [List.all_eq_true]; intro v hv; obtain ⟨x,_,rfl⟩:=List.mem_map.1 hv; rfl
theorem LJ (d:Array Nat) (k:Nat):(LE aO d).take k=(d.toList.take k).map aO:=by simp [LE,List.map_take]
theorem kI (b:UInt8):fG b=decide ((b.toNat:Int) > 32∧(b.toNat:Int) < 127∧(b.toNat:Int)≠47∧(b.toNat:Int)≠44∧(b.toNat:Int)≠35):=by
 unfold fG; exact decide_eq_decide.2 (by omega)
theorem JN {w:World} {B e size n cp:Nat} {a:Option Addr} {xs:List Value} (h:w.ownsRow B e size (.slice a n cp) n xs) (hn:0 < n):a≠none:=by
 rintro rfl
 rcases h.2 with ⟨_,h5⟩ | ⟨g,cap,cur,h4,_⟩
 · omega
 · simp at h4
theorem pZ (a:Option Addr) (n c:Nat) (xs:List Value) (w:World) (hC:aw w.heap a xs) (hxl:xs.length=n*1) (ha:a=none→n=0) (h1:xs.all Value.oneCell'=true) (hn:n≤1048576):
 aU Tryz.prog 49 (List.toArray [.slice a n c]) w (fun v w'=>World.ownsRow w' w.heap.size 71 1 v n xs∧Wk w w'):=by
 refine enter Tryz.func49 rfl Tryz.ntmps49 rfl ?_
 refine U (fun _ s=>(aj (((s _ _ (sq (fun _ A=>U (fun _ C=> ?_))))))))
 refine ag (.slice a n c) (p (mF js rfl rfl) (au ((C _ _ (cb rfl (fun q=> ?_) (fun q=> ?_))))))
 have I:a=none:=by simpa using q
 refine U (fun _ i=>(aj (((i _ _ (rt (tr (f1 rfl rfl ?_))))))))
 have hn0:=ha I
 subst hn0
 obtain rfl :=List.eq_nil_of_length_eq_zero (show xs.length=0 by omega)
 exact ⟨World.ownsRow_nil _ _ _ _,Md.refl _ _⟩
 refine az (tn (A _ _ (U (fun _ i=>(e (je rm fun O w5 hb5 j E=> ?_))))))
 have ho5:=E w.heap.size (by omega)
 refine ag (.slice a n c) (e (ap rm (ho5) rfl (by have :=j.size; omega) rfl (hC.wk j.md) (hxl) (h1) (by omega) (by omega) fun M w7 J G hz7 V=> ?_))
 have hE7:=Wk.own j.md ho5 G (Nat.le_refl _)
 refine aj (((i _ _ (rt (f1 rfl rfl ?_)))))
 have hz:World.ownsRow w7 w.heap.size 71 1 M n xs:=by simpa using J
 exact ⟨hz,hE7⟩
theorem Fg (d:Array Nat) (B n cp:Nat) (a:Option Addr) (w:World) (E:w.ownsRow B 71 1 (.slice a n cp) n (LE aO d)) (a5:n≤1048576):
 aU Tryz.prog 123 (List.toArray [.slice a n cp]) w (fun v w'=> ∃ k,v= .slice a k cp∧k=(e5 d.toList).length∧World.ownsRow w' B 71 1 (.slice a k cp) k ((e5 d.toList).map aO)∧Md (fun q=>(Value.slice a n cp).ownBlock=some q) w w'):=by
 have hdn:=dT E
 have hcp:=(aM E).1
 refine enter Tryz.func123 rfl Tryz.ntmps123 rfl ?_
 refine U (fun _ ao=>(aj (((ao _ _ (sq (fun _ aC=>U (fun _ aD=> ?_))))))))
 refine ag (.slice a n cp) (p (ba js rfl rfl) (p (lt rfl rfl) (au ((aD _ _ (cd rfl (fun hc8=> ?_) (fun hc8=> ?_)))))))
 refine U (fun _ ai=>(ag (.slice a n cp) (p (bF (.slice a n cp) rfl) (au ((ai _ _ (rt (tr ?_))))))))
 refine f1 rfl rfl ?_
 have hz:e5 d.toList=d.toList:=by
  have hlt:d.toList.length < 2:=by rw [nN]; omega
  revert hlt
  generalize d.toList=l
  intro hlt
  match l,hlt with
  | [],_=>rfl
  | [x],_=>rfl
 exact ⟨n,rfl,by rw [hz,nN]; omega,by rw [hz]; exact E,Md.refl _ _⟩
 refine az (tn (aC _ _ (sq (fun _ ai=>U (fun _ aF=>(aj (((aF _ _ ?_)))))))))
 refine aA (lp (fun V an aa=> ∃ (i:Nat),(1≤i∧i≤n∧2≤n)∧(e5 (d.toList.take i)=d.toList.take i)∧(Wk w aa)∧(an 0= .slice a n cp)∧(an 3=ae i)∧(n - i=V)) _ ⟨1,(by omega),((by have h1:=rB (d:=d) (i:=0) (by omega); rw [h1]; rfl)),(Md.refl _ _),rfl,rfl,rfl⟩ ?_)
 rintro V an aa ⟨i,hi,Y,I,aZ,a0,rfl⟩
 refine fx 0 aZ (fx 3 a0 (sq (fun _ aH=>U (fun _ aI=>(ag (ae i) (ag (.slice a n cp) (p (ba js rfl rfl) (p (lt rfl rfl) ?_))))))))
 refine au ((aI _ _ (cd rfl (fun aP=> ?_) (fun aP=> ?_))))
 refine az (tn (aH _ _ (sq (fun _ al=>aA (sq (fun _ aK=> ?_))))))
 have A:(fun w'=>Wk aa w') aa.drew:=(Md.refl _ _).drew
 refine bD (fun w'=>Wk aa w') rfl wide A (bd 0 rfl (.slice a n cp) A (bd 1 rfl (ae i) A (aB 2 rfl (fun _ _=>aJ bl rfl rfl (by omega) (aw.ok ((aM E).2) (bw (by omega)))) A (aB 3 rfl (fun w' J=>ld bL rfl (Wk.aE J (b0 (i:=i) (aM (aG E I)).2 (by omega)))) A (bd 4 rfl (.slice a n cp) A (bd 5 rfl (ae i) A (aB 6 rfl (fun _ _=>cM ((i - 1:Nat):Int) rfl rfl (aR (by omega) (by omega))) A ?_)))))))
 refine aB 7 rfl (fun _ _=>aJ bl rfl rfl (by omega) (aw.ok ((aM E).2) (bw (by omega)))) A (aB 8 rfl (fun w' J=>ld bL rfl (Wk.aE J (b0 (i:=i - 1) (aM (aG E I)).2 (by omega)))) A (aB 9 rfl (fun _ _=>bf rfl rfl) A (hn (by kernel_rfl) (tn (aK _ _ (cd rfl (fun aQ=> ?_) (fun aQ=> ?_)))))))
 have heq:d[i - 1]! =d[i]! :=by omega
 refine U (fun _ ap=>(ag (.slice a n cp) (ag (ae i) (p (oZ bl rfl rfl (by omega)) (aj (((ap _ _ ?_))))))))
 refine sq (fun _ aq=>U (fun _ ar=>(aj (((ar _ _ (aA (lp (fun V ab O=> ∃ (k i2:Nat) (C:Array Nat),(1≤k∧k < i+i2∧1≤i2∧i2≤n - i)∧(C.toList.drop k=d.toList.drop k)∧(C.toList.take k=e5 (d.toList.take (i+i2)))∧(O.ownsRow B 71 1 (.slice a n cp) n (LE aO C))∧(Md (fun q=>(Value.slice a n cp).ownBlock=some q) w O)∧(ab 0= .slice a n cp)∧(ab 3=ae k)∧(ab 4= .slice (ee a cp i 1) (n - i) (cp - i))∧(ab 5=ae i2)∧(n - i2=V)) _ ⟨i,1,d,(by omega),rfl,((by rw [p9 (by omega) (by omega),if_pos heq,Y])),(aG E (Md.trans I (Md.refl _ _).drew)),((Md.trans I (Md.refl _ _).drew).mono (fun _ _ h=>h.elim)),rfl,rfl,rfl,rfl,rfl⟩ ?_))))))))
 rintro V ab O ⟨k,i2,C,hk,M,Z,G,am,a1,a2,a3,a4,rfl⟩
 refine fx 0 a1 (fx 3 a2 (fx 4 a3 (fx 5 a4 ?_)))
 have hdcn:=dT G
 refine sq (fun _ av=>U (fun _ ax=>(ag (ae i2) (ag (.slice (ee a cp i 1) (n - i) (cp - i)) (p (ba js rfl rfl) (p (lt rfl rfl) (nl ?_)))))))
 refine tn (ax _ _ (cd rfl (fun aS=> ?_) (fun aS=> ?_)))
 refine az (tn (av _ _ (sq (fun _ ac=>aA (sq (fun _ ah=> ?_))))))
 have s:(fun w'=>Wk O w') O.drew:=(Md.refl _ _).drew
 refine bD (fun w'=>Wk O w') rfl wide s (bd 0 rfl (.slice (ee a cp i 1) (n - i) (cp - i)) s (bd 1 rfl (ae i2) s (aB 2 rfl (fun _ _=>aJ bl rfl rfl (by omega) (aw.ok (nM G) (tZ (by omega)))) s (aB 3 rfl (fun w' J=>ld bL rfl (Wk.aE J (tY (j:=i2) (nM G) (by omega)))) s (bd 4 rfl (.slice (ee a cp i 1) (n - i) (cp - i)) s (bd 5 rfl (ae i2) s (aB 6 rfl (fun _ _=>cM ((i2 - 1:Nat):Int) rfl rfl (aR (by omega) (by omega))) s ?_)))))))
 refine aB 7 rfl (fun _ _=>aJ bl rfl rfl (by omega) (aw.ok (nM G) (tZ (by omega)))) s (aB 8 rfl (fun w' J=>ld bL rfl (Wk.aE J (tY (j:=i2 - 1) (nM G) (by omega)))) s (aB 9 rfl (fun _ _=>bB rfl rfl) s (hn (by kernel_rfl) (tn (ah _ _ (cd rfl (fun aT=> ?_) (fun aT=> ?_)))))))
 have hO2x:=aG G s
 have g1:=qe M (show k≤i+i2 by omega)
 have g2:=qe M (show k≤i+(i2 - 1) by omega)
 have aW:¬d[i+i2 - 1]! =d[i+i2]! :=by rw [show i+i2 - 1=i+(i2 - 1) by omega,← g1,← g2]; omega
 refine U (fun _ ay=>(ag (.slice a n cp) (ag (ae k) (ag (.slice (ee a cp i 1) (n - i) (cp - i)) (ag (ae i2) (p (aJ bl rfl rfl (by omega) (aw.ok (nM hO2x) (tZ (by omega)))) (p (ld bL rfl (tY (j:=i2) (nM hO2x) (by omega))) ?_)))))))
 refine p (aJ bl rfl rfl (by omega) (aw.ok ((aM hO2x).2) (bw (by omega)))) (e (ep (u:=C[i+i2]!) (k) hO2x dY rfl rfl rfl (by omega) fun w12 aL ho12=>au ((ay _ _ (rg rfl (ag (ae k) (p (bc ((k+1:Nat):Int) rfl rfl (aR (by omega) (by omega))) (p ak ?_))))))))
 refine nl (bn (tn (ac _ _ (rg rfl (ag (ae i2) (p (bc ((i2+1:Nat):Int) rfl rfl (aR (by omega) (by omega))) (p ak (nl ?_))))))))
 exact tn (⟨_,by omega,k+1,i2+1,C.setIfInBounds k C[i+i2]!,(by omega),((by rw [set_drop (by omega)]; have h3:=congrArg (List.drop 1) M; rwa [List.drop_drop,List.drop_drop] at h3)),((by rw [uY (by omega),Z,show i+(i2+1)=i+i2+1 from rfl,p9 (by omega) (by omega),if_neg aW,g1])),ho12,(Md.trans am (Md.trans (s.mono (fun _ _ h=>h.elim)) aL)),rfl,rfl,rfl,rfl,rfl⟩)
 have g1:=qe M (show k≤i+i2 by omega)
 have g2:=qe M (show k≤i+(i2 - 1) by omega)
 have aV:d[i+i2 - 1]! =d[i+i2]! :=by rw [show i+i2 - 1=i+(i2 - 1) by omega,← g1,← g2]; omega
 refine az (bn (tn (ac _ _ (rg rfl (ag (ae i2) (p (bc ((i2+1:Nat):Int) rfl rfl (aR (by omega) (by omega))) (p ak (nl ?_))))))))
 exact tn (⟨_,by omega,k,i2+1,C,(by omega),M,((by rw [Z,show i+(i2+1)=i+i2+1 from rfl,p9 (by omega) (by omega),if_pos aV])),(aG G (Md.refl _ _).drew),am.drew,rfl,rfl,rfl,rfl,rfl⟩)
 refine ext (te _ (te _ (be (tn (aq _ _ (U (fun _ ac=>(ag (.slice a n cp) ?_))))))))
 refine ag (ae k) (p (oZ bl rfl rfl (by omega)) (e (E0 (k:=k) js MI rfl G rfl rfl (by omega) fun w14 aN aY=>au ((ac _ _ (U (fun _ ah=>(ag (.slice a n cp) ?_))))))))
 refine ag (ae k) (p (oY bl rfl rfl (by omega)) (aj (((ah _ _ (rt (br (tr ?_))))))))
 refine tr (br (tr (f1 rfl rfl ?_)))
 have hz:d.toList.take (i+i2)=d.toList:=List.take_of_length_le (by rw [nN]; omega)
 rw [hz] at Z
 have hkl:k=(e5 d.toList).length:=by rw [← Z,List.length_take,nN]; omega
 refine ⟨k,rfl,hkl,?_,Md.trans am aN⟩
 have hT:=AG aY (show k≤n by omega) (JN E (by omega))
 rw [Nat.mul_one,List.take_append,List.take_of_length_le (l:=(LE aO C).take k) (by rw [List.length_take]; omega),List.length_take,oI,show k - min k C.size=0 by omega,List.take_zero,List.append_nil,LJ,Z] at hT
 exact hT
 have aX:¬d[i - 1]! =d[i]! :=by omega
 refine az (bn (tn (al _ _ (rg rfl (ag (ae i) (p (ad rfl rfl (bm (by omega))) (p ak (nl ?_))))))))
 exact tn (⟨_,by omega,i+1,(by omega),((by rw [p9 (by omega) (by omega),if_neg aX,Y,rB (by omega)])),(Md.trans I (Md.refl _ _).drew),rfl,rfl,rfl⟩)
 refine ext (te _ (te _ (be (tn (ai _ _ (U (fun _ al=>(ag (.slice a n cp) ?_))))))))
 refine p (bF (.slice a n cp) rfl) (au ((al _ _ (rt (f1 rfl rfl ?_)))))
 rw [show d.toList.take i=d.toList from List.take_of_length_le (by rw [nN]; omega)] at Y
 exact ⟨n,rfl,by rw [Y,nN]; omega,by rw [Y]; exact aG E I,I.mono (fun _ _ h=>h.elim)⟩
theorem Ay (l:List Nat) (a:Option Addr) (c:Nat) (w:World) (hC:aw w.heap a (l.map aO)) (ha:a=none→l.length=0) (hl:l.length≤255):
 aU Tryz.prog 104 (List.toArray [.slice a l.length c]) w (fun v w'=>World.ownsRow w' w.heap.size 71 1 v (gB l).length ((gB l).map aO)∧Wk w w'):=by
 refine enter Tryz.func104 rfl Tryz.ntmps104 rfl ?_
 refine U (fun _ s=>(aj (((s _ _ (U (fun _ A=>(ag (.slice a l.length c) ?_))))))))
 refine e (cl pR (pZ a l.length c (l.map aO) _ hC (by simp) ha (pJ l) (by omega)) rfl fun O w5 hR5=> ?_)
 obtain ⟨ho5,hE5⟩:=hR5
 obtain ⟨i,j,rfl⟩:=bW ho5
 rw [I7] at ho5
 refine aj (((A _ _ (U (fun _ C=>(ag (.slice i l.length j) (e (cl Dq (Li l.toArray w.heap.size l.length j i _ ho5 hl) rfl fun V w7 hR7=> ?_))))))))
 obtain ⟨d1,rfl,J,M,p,I⟩:=hR7
 refine au ((C _ _ (U (fun _ E=>(ag (.slice i l.length j) (e (cl Dr (Fg d1 w.heap.size l.length j i _ p (by omega)) rfl fun v9 w9 hR9=> ?_)))))))
 obtain ⟨k,rfl,hk,q,hM9⟩:=hR9
 have G:Wk w w9:=Wk.own (Wk.own hE5 ho5 I (Nat.le_refl _)) p hM9 (Nat.le_refl _)
 refine aj (((E _ _ (rt (f1 rfl rfl ?_)))))
 rw [Lh J M] at hk q
 exact ⟨by rw [← hk]; exact q,G⟩
theorem uZ (b:UInt8) (w:World):
 aU Tryz.prog 133 (List.toArray [.int .u8 b.toNat]) w (fun v w'=>v= .bool (fG b)∧Wk w w'):=by
 refine enter Tryz.func133 rfl Tryz.ntmps133 rfl ?_
 refine U (fun _ i=>(aj (((i _ _ (U (fun _ a=>(ag (.int .u8 b.toNat) ?_))))))))
 refine p (gt rfl rfl) (p mv (gs (t:=5) rfl (fun hg5=> ?_) (fun hg5=> ?_)))
 refine pg rfl rfl rfl (aC (.int .u8 b.toNat) rfl) (pg rfl rfl rfl (lt rfl rfl) (p (bg rfl) (p mv (gs (t:=9) rfl (fun hg9=> ?_) (fun hg9=> ?_)))))
 refine pg rfl rfl rfl (aC (.int .u8 b.toNat) rfl) (pg rfl rfl rfl (bB rfl rfl) (p (bg rfl) (p mv (gs (t:=13) rfl (fun hg13=> ?_) (fun hg13=> ?_)))))
 refine pg rfl rfl rfl (aC (.int .u8 b.toNat) rfl) (pg rfl rfl rfl (bB rfl rfl) (p (bg rfl) (p mv (gs (t:=17) rfl (fun j=> ?_) (fun j=> ?_)))))
 refine pg rfl rfl rfl (aC (.int .u8 b.toNat) rfl) (pg rfl rfl rfl (bB rfl rfl) (p (bg rfl) (aj (((a _ _ (rt (f1 rfl rfl ?_))))))))
 exact ⟨by show Value.bool (decide _)=_; rw [kI]; exact bv (by constructor <;> intro h <;> first | exact ⟨by omega,by omega,by omega,by omega,h⟩ | exact h.2.2.2.2),Md.refl _ _⟩
 refine sk rfl rfl rfl rfl (sk rfl rfl rfl rfl (p (a5 rfl) (aj (((a _ _ (rt (f1 rfl rfl ?_))))))))
 exact ⟨by show Value.bool false =_; rw [kI,decide_eq_false (by omega)],Md.refl _ _⟩
 refine sk rfl rfl rfl rfl (sk rfl rfl rfl rfl (p (a5 rfl) (p mv (sk rfl rfl rfl rfl (sk rfl rfl rfl rfl (p (a5 rfl) (p ak ?_)))))))
 exact au ((a _ _ (rt (f1 rfl rfl (⟨by show Value.bool false =_; rw [kI,decide_eq_false (by omega)],Md.refl _ _⟩)))))
 refine sk rfl rfl rfl rfl (sk rfl rfl rfl rfl (p (a5 rfl) (p mv (sk rfl rfl rfl rfl (sk rfl rfl rfl rfl (p (a5 rfl) (p mv ?_)))))))
 refine sk rfl rfl rfl rfl (sk rfl rfl rfl rfl (p (a5 rfl) (aj (((a _ _ (rt (f1 rfl rfl ?_))))))))
 exact ⟨by show Value.bool false =_; rw [kI,decide_eq_false (by omega)],Md.refl _ _⟩
 refine sk rfl rfl rfl rfl (sk rfl rfl rfl rfl (p (a5 rfl) (p mv (sk rfl rfl rfl rfl (sk rfl rfl rfl rfl (p (a5 rfl) (p mv ?_)))))))
 refine sk rfl rfl rfl rfl (sk rfl rfl rfl rfl (p (a5 rfl) (p mv (sk rfl rfl rfl rfl (sk rfl rfl rfl rfl (p (a5 rfl) (p ak ?_)))))))
 exact au ((a _ _ (rt (f1 rfl rfl (⟨by show Value.bool false =_; rw [kI,decide_eq_false (by omega)],Md.refl _ _⟩)))))
theorem z4 (k:Nat) (w:World):
 aU Tryz.prog 117 (List.toArray [ae k]) w (fun v w'=>v= .bool (decide (1≤k∧k≤3))∧Wk w w'):=by
 refine enter Tryz.func117 rfl Tryz.ntmps117 rfl ?_
 refine U (fun _ i=>(aj (((i _ _ (U (fun _ a=>(ag (ae k) ?_))))))))
 refine p (ge rfl rfl) (p mv (gs (t:=5) rfl (fun hg5=> ?_) (fun hg5=> ?_)))
 refine pg rfl rfl rfl (aC (ae k) rfl) (pg rfl rfl rfl (le rfl rfl) (p (bg rfl) (aj (((a _ _ (rt (f1 rfl rfl ?_))))))))
 exact ⟨by show Value.bool (decide _)=_; exact bv (by omega),Md.refl _ _⟩
 refine sk rfl rfl rfl rfl (sk rfl rfl rfl rfl (p (a5 rfl) (aj (((a _ _ (rt (f1 rfl rfl ?_))))))))
 exact ⟨by show Value.bool false =_; rw [decide_eq_false (by omega)],Md.refl _ _⟩
end Go.Hb.g4
end
section
set_option maxRecDepth 20000
set_option maxHeartbeats 1000000
namespace Go.Hb.lJ
open Go.Hb.di
open Go.Proofs
open Go.Hb.gF Go.Hb.fS Go.Hb.mo Go.Hb.pk Go.Hb.rR Go.Hb.g4
theorem yW {kind:Nat} {s:List UInt8} (h:kind=1∧s.length=1∧fG (s.getD 0 0)=true):dm kind s=(s.getD 0 0).toNat:=by unfold dm; rw [if_pos h.1,if_pos h.2]
theorem yX {kind:Nat} {s:List UInt8} (h:kind=2∧s.length=2∧fG (s.getD 0 0)=true∧fG (s.getD 1 0)=true):dm kind s=256 *(s.getD 0 0).toNat+(s.getD 1 0).toNat:=by unfold dm; rw [if_neg (by omega),if_pos h.1,if_pos h.2]
theorem tj {kind:Nat} {s:List UInt8} (h:kind=3):dm kind s=(cJ s 65535).1:=by unfold dm; rw [if_neg (by omega),if_neg (by omega)]
theorem np {kind:Nat} {s:List UInt8} (h:kind=1∨kind=2) (h1:¬(kind=1∧s.length=1∧fG (s.getD 0 0)=true)) (h2:¬(kind=2∧s.length=2∧fG (s.getD 0 0)=true∧fG (s.getD 1 0)=true)):dm kind s=0:=by
 unfold dm
 rcases h with h | h
 · rw [if_pos h,if_neg (fun h3=>h1 ⟨h,h3⟩)]
 · rw [if_neg (by omega),if_pos h,if_neg (fun h3=>h2 ⟨h,h3⟩)]
theorem Iu {c:UInt8} {l:List UInt8} (h:0 < l.count c):¬dD c l < 0:=by
 intro h1
 exact zY h1 (List.idxOf_lt_length_iff.2 (List.count_pos_iff.1 h))
theorem Kq (n:Nat) (x:List UInt8):List.replicate n (str x)=(List.replicate n x).map str:=by rw [List.map_replicate]
theorem Bj {dn:List (List UInt8)} {m:Nat} {x:List UInt8} (h:0 < m):((dn++List.replicate m []).map str).set dn.length (str x)=((dn++ [x])++List.replicate (m - 1) []).map str:=by
 obtain ⟨m,rfl⟩:∃ k,m=k+1:=⟨m - 1,by omega⟩
 rw [← List.map_set,List.set_append_right _ _ (Nat.le_refl _),Nat.sub_self,List.replicate_succ,List.set_cons_zero,Nat.add_sub_cancel,List.append_assoc]; rfl
theorem tc {kind:Nat} {ps:List (List UInt8)} {i:Nat} (h:i < ps.length) (h1:¬∃ x∈ps.take i,dm kind x=0) (h2:dm kind (ps.getD i [])≠0):¬∃ x∈ps.take (i+1),dm kind x=0:=by
 rw [eh ps i [] h]
 rintro ⟨x,a,h3⟩
 rcases List.mem_append.1 a with a | a
 · exact h1 ⟨x,a,h3⟩
 · rw [List.mem_singleton] at a; subst a; exact h2 h3
theorem qF {α:Type} {l:List α} {i:Nat} {d:α} (h:i < l.length):l.getD i d∈l:=by
 rw [List.getD_eq_getElem?_getD,List.getElem?_eq_getElem h]; exact List.getElem_mem h
theorem yY (kind:Nat) (s:List UInt8) (w:World) (hk:kind=1∨kind=2∨kind=3) (hs:s.length≤1048576):
 aU Tryz.prog 119 (List.toArray [ae kind,str s]) w (fun v w'=>v=aO (dm kind s)∧Wk w w'):=by
 refine enter Tryz.func119 rfl Tryz.ntmps119 rfl ?_
 refine U (fun _ aa=>(aj (((aa _ _ (sq (fun _ ab=>aA ?_)))))))
 refine c7 (fun C Z=> ∃ (I:Bool),(I=decide (kind=1∧s.length=1∧fG (s.getD 0 0)=true))∧(Wk w Z)∧(C 0=ae kind)∧(C 1=str s)∧(C 7= .bool I)) ?_ ?_
 refine rg rfl (ag (ae kind) (p (bf rfl rfl) (p mv (gs (t:=10) rfl (fun hg10=> ?_) (fun hg10=> ?_)))))
 refine pg rfl rfl rfl (aC (str s) rfl) (pg rfl rfl rfl (bK u9 rfl rfl) (pg rfl rfl rfl (bf rfl rfl) (p (bg rfl) (p mv (gs (t:=15) rfl (fun ap=> ?_) (fun ap=> ?_))))))
 refine pg rfl rfl rfl (aC (str s) rfl) (pg rfl rfl rfl (fD 0 u9 rfl rfl (by omega)) (eg rfl rfl rfl (cl sg (uZ (s.getD 0 0) _) rfl fun aE w18 ai=> ?_)))
 obtain ⟨rfl,ah⟩:=ai
 exact p (bg rfl) (aj (((⟨fG (s.getD 0 0),((by rw [Bool.eq_iff_iff,decide_eq_true_iff]; exact ⟨fun h=>⟨by omega,by omega,h⟩,fun h=>h.2.2⟩)),ah,rfl,rfl,rfl⟩))))
 exact sk rfl rfl rfl rfl (sk rfl rfl rfl rfl (sk rfl rfl rfl rfl (p (a5 rfl) (aj (((⟨false,((decide_eq_false (fun h=>by omega)).symm),(Md.refl _ _),rfl,rfl,rfl⟩)))))))
 refine sk rfl rfl rfl rfl (sk rfl rfl rfl rfl (sk rfl rfl rfl rfl (p (a5 rfl) (p mv (sk rfl rfl rfl rfl (sk rfl rfl rfl rfl (sk rfl rfl rfl rfl ?_)))))))
 exact p (a5 rfl) (aj (((⟨false,((decide_eq_false (fun h=>by omega)).symm),(Md.refl _ _),rfl,rfl,rfl⟩))))
 rintro C Z ⟨I,Y,i,au,av,aw⟩
 refine fx 0 au (fx 1 av (fx 7 aw (cb rfl (fun M=> ?_) (fun M=> ?_))))
 have O:kind=1∧s.length=1∧fG (s.getD 0 0)=true :=of_decide_eq_true (Y ▸ M)
 refine U (fun _ j=>(ag (str s) (p (fD 0 u9 rfl rfl (by omega)) (p (ir rE lC rfl (nV (by have :=UInt8.toNat_lt (s.getD 0 0); omega))) (aj (((j _ _ ?_))))))))
 exact rt (br (tr (f1 rfl rfl (⟨by rw [yW O]; rfl,i⟩))))
 have O:¬(kind=1∧s.length=1∧fG (s.getD 0 0)=true):=of_decide_eq_false (Y ▸ M)
 refine c7 (fun E q=> ∃ (J:Bool),(J=decide (kind=2∧s.length=2∧fG (s.getD 0 0)=true∧fG (s.getD 1 0)=true))∧(Wk w q)∧(E 0=ae kind)∧(E 1=str s)∧(E 23= .bool J)) ?_ ?_
 refine rg rfl (ag (ae kind) (p (bf rfl rfl) (p mv (gs (t:=26) rfl (fun aq=> ?_) (fun aq=> ?_)))))
 refine pg rfl rfl rfl (aC (str s) rfl) (pg rfl rfl rfl (bK u9 rfl rfl) (pg rfl rfl rfl (bf rfl rfl) (p (bg rfl) (p mv (gs (t:=31) rfl (fun ar=> ?_) (fun ar=> ?_))))))
 refine pg rfl rfl rfl (aC (str s) rfl) (pg rfl rfl rfl (fD 0 u9 rfl rfl (by omega)) (eg rfl rfl rfl (cl sg (uZ (s.getD 0 0) _) rfl fun aF aI al=> ?_)))
 obtain ⟨rfl,hE34⟩:=al
 refine p (bg rfl) (p mv (gb (t:=36) rfl (fun A=> ?_) (fun A=> ?_)))
 refine pg rfl rfl rfl (aC (str s) rfl) (pg rfl rfl rfl (fD 1 u9 rfl rfl (by omega)) (eg rfl rfl rfl (cl sg (uZ (s.getD 1 0) _) rfl fun aG w39 am=> ?_)))
 obtain ⟨rfl,hE39⟩:=am
 exact p (bg rfl) (aj (((⟨fG (s.getD 1 0),((by rw [Bool.eq_iff_iff,decide_eq_true_iff]; exact ⟨fun h=>⟨by omega,by omega,A,h⟩,fun h=>h.2.2.2⟩)),(Md.trans i (Md.trans hE34 hE39)),rfl,rfl,rfl⟩))))
 exact sk rfl rfl rfl rfl (sk rfl rfl rfl rfl (sk rfl rfl rfl rfl (p (a5 rfl) (aj (((⟨false,((decide_eq_false (fun h=>by rw [h.2.2.1] at A; cases A)).symm),(Md.trans i hE34),rfl,rfl,rfl⟩)))))))
 refine sk rfl rfl rfl rfl (sk rfl rfl rfl rfl (sk rfl rfl rfl rfl (p (a5 rfl) (p mv (sk rfl rfl rfl rfl (sk rfl rfl rfl rfl (sk rfl rfl rfl rfl ?_)))))))
 exact p (a5 rfl) (aj (((⟨false,((decide_eq_false (fun h=>by omega)).symm),i,rfl,rfl,rfl⟩))))
 refine sk rfl rfl rfl rfl (sk rfl rfl rfl rfl (sk rfl rfl rfl rfl (p (a5 rfl) (p mv (sk rfl rfl rfl rfl (sk rfl rfl rfl rfl (sk rfl rfl rfl rfl ?_)))))))
 refine p (a5 rfl) (p mv (sk rfl rfl rfl rfl (sk rfl rfl rfl rfl (sk rfl rfl rfl rfl (p (a5 rfl) (p ak (nl ?_)))))))
 exact tn (⟨false,((decide_eq_false (fun h=>by omega)).symm),i,rfl,rfl,rfl⟩)
 rintro E q ⟨J,hb2,i,ax,ay,aD⟩
 refine fx 0 ax (fx 1 ay (fx 23 aD (cb rfl (fun hc23=> ?_) (fun hc23=> ?_))))
 have V:kind=2∧s.length=2∧fG (s.getD 0 0)=true∧fG (s.getD 1 0)=true :=of_decide_eq_true (hb2 ▸ hc23)
 have g0:=UInt8.toNat_lt (s.getD 0 0)
 have g1:=UInt8.toNat_lt (s.getD 1 0)
 refine sq (fun _ j=> ?_)
 have a:(fun w'=>Wk q w') q.drew:=(Md.refl _ _).drew
 refine bD (fun w'=>Wk q w') rfl wide a (bd 0 rfl (str s) a (aB 1 rfl (fun _ _=>fD 0 u9 rfl rfl (by omega)) a (aB 2 rfl (fun _ _=>ir rE lC rfl (nV (by omega))) a (aB 3 rfl (fun _ _=>shl rfl rfl (by decide) (KW g0)) a (bd 4 rfl (str s) a (aB 5 rfl (fun _ _=>fD 1 u9 rfl rfl (by omega)) a (aB 6 rfl (fun _ _=>ir rE lC rfl (nV (by omega))) a ?_)))))))
 refine aB 7 rfl (fun _ _=>wS rfl rfl (JK g0 g1)) a (aB 8 rfl (fun _ _=>ak) a (hn (by kernel_rfl) (tn (j _ _ (rt (br (tr (f1 rfl rfl ?_))))))))
 exact ⟨by rw [yX V]; rfl,i.drew⟩
 have V:¬(kind=2∧s.length=2∧fG (s.getD 0 0)=true∧fG (s.getD 1 0)=true):=of_decide_eq_false (hb2 ▸ hc23)
 refine U (fun _ j=>(ag (ae kind) (p (bf rfl rfl) (aj (((j _ _ (cd rfl (fun ao=> ?_) (fun ao=> ?_)))))))))
 refine U (fun _ G=>(ag (str s) (e (cl pS (qV s 65535 _ hs (by decide)) rfl fun aH aJ an=> ?_))))
 obtain ⟨rfl,hE54⟩:=an
 have hn5:=Ar s
 refine p mv (p (xt rfl rfl) (p (xt rfl rfl) (p ak (aj (((G _ _ (sq (fun _ ac=> ?_)))))))))
 refine rg rfl (p mv (p (ir rE mi rfl (nV (by omega))) (aj (((ac _ _ (rt (br ?_))))))))
 exact tr (f1 rfl rfl (⟨by rw [tj (by omega)]; rfl,Md.trans i hE54⟩))
 refine az (bn (tn (ab _ _ (U (fun _ G=>(aj (((G _ _ ?_)))))))))
 exact rt (f1 rfl rfl (⟨by rw [np (by omega) O V]; rfl,i⟩))
theorem JH (kind:Nat) (s:List UInt8) (w:World) (hk:kind=1∨kind=2∨kind=3) (hs:s.length≤1048576):
 aU Tryz.prog 114 (List.toArray [ae kind,str s]) w (fun v w'=>v= .tuple #[aO (eE kind s).1,ae ((eE kind s).2)]∧Wk w w'):=by
 refine enter Tryz.func114 rfl Tryz.ntmps114 rfl ?_
 refine U (fun _ j=>(p ak (aj (((j _ _ (sq (fun _ q=>sq (fun _ A=> ?_)))))))))
 refine rg rfl (ag (ae kind) (e (cl xh (z4 kind _) rfl fun M w8 hR8=> ?_)))
 obtain ⟨rfl,i⟩:=hR8
 refine p (no rfl) (au ((A _ _ (cf ((by rw [decide_eq_true (by omega)]; rfl)) (az (tn (q _ _ (U (fun _ C=> ?_)))))))))
 refine ag (ae kind) (ag (str s) (e (cl xi (yY kind s _ hk hs) rfl fun cC w12 I=> ?_)))
 obtain ⟨rfl,hE12⟩:=I
 refine aj (((C _ _ (sq (fun _ E=>U (fun _ G=>(p mv (p (bf rfl rfl) ?_))))))))
 refine au ((G _ _ (cd rfl (fun J=> ?_) (fun J=> ?_))))
 refine U (fun _ a=>(p ak (aj (((a _ _ (rt (tr ?_))))))))
 exact f2 rfl rfl rfl (⟨by unfold eE; rw [if_pos (show dm kind s=0 by omega)]; rfl,Md.trans i hE12⟩)
 refine az (tn (E _ _ (U (fun _ a=>(p mv (p ak (p ak (nl ?_))))))))
 exact tn (a _ _ (rt (f2 rfl rfl rfl (⟨by unfold eE; rw [if_neg (show ¬dm kind s=0 by omega)]; rfl,Md.trans i hE12⟩))))
theorem Fl (s:List UInt8) (c:UInt8) (w:World):
 aU Tryz.prog 172 (List.toArray [str s,str [c]]) w (fun v w'=>v=ae (s.count c)∧Wk w w'):=by
 refine enter Tryz.func172 rfl Tryz.ntmps172 rfl ?_
 refine U (fun _ a=>(aj (((a _ _ (sq (fun _ i=>U (fun _ j=> ?_))))))))
 refine ag (str [c]) (p (bK u9 rfl rfl) (p (bf rfl rfl) (au ((j _ _ (cd rfl (fun h=>absurd h (by simp)) (fun E=> ?_)))))))
 refine az (tn (i _ _ (sq (fun _ C=>U (fun _ q=>(ag (str [c]) (p (bK u9 rfl rfl) (p (bf rfl rfl) ?_))))))))
 refine au ((q _ _ (cd rfl (fun hc15=> ?_) (fun h=>absurd rfl h))))
 refine U (fun _ A=>(ag (str s) (ag (str [c]) (p (fD 0 u9 rfl rfl (by simp)) (p (xW (Fe s c _) rfl) (p ak (nl ?_)))))))
 exact tn (A _ _ (rt (tr (f1 rfl rfl (⟨rfl,Md.refl _ _⟩)))))
theorem Hi (s:List UInt8) (w:World) (hs:s.length≤1048576):
 aU Tryz.prog 148 (List.toArray [str s,str [44],.int .i64 0,.int .i64 (-1)]) w (fun v w'=>World.ownsRow w' w.heap.size 9 1 (v) ((dR 44 [] s)).length (((dR 44 [] s)).map str)∧Wk w w'):=by
 have hcl:=List.count_le_length (a:=(44:UInt8)) (l:=s)
 have hsc:=ve 44 s []
 refine enter Tryz.func148 rfl Tryz.ntmps148 rfl ?_
 refine U (fun _ Y=>(aj (((Y _ _ (sq (fun _ an=>U (fun _ ao=> ?_))))))))
 refine ag (.int .i64 (-1)) (p (bf rfl rfl) (au ((ao _ _ (cd rfl (fun h=>absurd h (by decide)) (fun aV=> ?_))))))
 refine az (tn (an _ _ (sq (fun _ ap=>U (fun _ aq=>(ag (str [44]) (p (cI rfl rfl) (nl ?_))))))))
 refine tn (aq _ _ (cd rfl (fun h=>absurd h (by simp)) (fun hc15=> ?_)))
 refine az (tn (ap _ _ (sq (fun _ ar=>U (fun _ av=>(ag (.int .i64 (-1)) (p (lt rfl rfl) (nl ?_))))))))
 refine tn (av _ _ (cd rfl (fun aW=> ?_) (fun h=>absurd (by decide) h)))
 refine rg rfl (ag (str s) (ag (str [44]) (e (cl DQ (Fl s 44 _) rfl fun aX w23 aE=> ?_))))
 obtain ⟨rfl,hE23⟩:=aE
 refine p (bc ((s.count 44 +1:Nat):Int) rfl rfl (aR (by omega) (by omega))) (aj (((ar _ _ (U (fun _ ax=>(p mv (ag (str s) ?_))))))))
 refine p (bK u9 rfl rfl) (p (bc ((s.length+1:Nat):Int) rfl rfl (aR (by omega) (by omega))) (p (mn rfl rfl) (aj (((ax _ _ (U (fun _ ay=> ?_))))))))
 refine p mv (e (Jl (n:=s.count 44 +1) (zv:=str []) dV MD rfl (show Value.int .i64 (min ((s.count 44 +1:Nat):Int) ((s.length+1:Nat):Int))=_ from iv (by omega)) (show Value.int .i64 (min ((s.count 44 +1:Nat):Int) ((s.length+1:Nat):Int))=_ from iv (by omega)) (by omega) (by unfold maxLen; omega) fun C w31 aT aD ho31=> ?_))
 have hO31:=ho31 w.heap.size (by have :=hE23.size; omega)
 rw [Kq] at hO31
 refine aj (((ay _ _ (U (fun _ Z=>(p mv (p (cM ((s.count 44:Nat):Int) rfl rfl (aR (by omega) (by omega))) (p ak ?_))))))))
 refine au ((Z _ _ (U (fun _ aa=>(aj (((aa _ _ (sq (fun _ ab=> ?_))))))))))
 refine aA (lp (fun M q J=> ∃ (i:Nat) (dn:List (List UInt8)) (r:List UInt8),(dn.length=i)∧(r.count 44 +i=s.count 44∧r.length≤s.length)∧(dn++dR 44 [] r=dR 44 [] s)∧(World.ownsRow J w.heap.size 9 1 (.slice (some ⟨C,0,none⟩) (s.count 44 +1) (s.count 44 +1)) (s.count 44 +1) ((dn++List.replicate (s.count 44 +1 - i) []).map str))∧(Wk w J)∧(q 0=str r)∧(q 1=str [44])∧(q 2= .int .i64 0)∧(q 3=ae (s.count 44))∧(q 9= .slice (some ⟨C,0,none⟩) (s.count 44 +1) (s.count 44 +1))∧(q 10=ae i)∧(r.length=M)) _ ⟨0,[],s,rfl,((by omega)),rfl,hO31,(Md.trans hE23 aD.md),rfl,rfl,rfl,rfl,rfl,rfl,rfl⟩ ?_)
 rintro M q J ⟨i,dn,r,hi,hr,hd,A,O,aL,aN,aP,aQ,aS,aO,rfl⟩
 refine fx 0 aL (fx 1 aN (fx 2 aP (fx 3 aQ (fx 9 aS (fx 10 aO ?_)))))
 have hrl:=List.count_le_length (a:=(44:UInt8)) (l:=r)
 refine sq (fun _ ac=>U (fun _ ah=>(ag (ae i) (ag (ae (s.count 44)) (p (lt rfl rfl) (au ((ah _ _ ?_))))))))
 refine cd rfl (fun aH=> ?_) (fun aH=> ?_)
 refine az (tn (ac _ _ (aA (U (fun _ E=>(ag (str r) (ag (str [44]) (e (cl DR (Ih r 44 _) rfl fun aY w39 aF=> ?_)))))))))
 obtain ⟨rfl,hE39⟩:=aF
 refine aj (((E _ _ (sq (fun _ G=>U (fun _ ai=>(p mv (p (lt rfl rfl) ?_))))))))
 refine au ((ai _ _ (cd rfl (fun h=>absurd h (Iu (by omega))) (fun aI=> ?_))))
 refine az (tn (G _ _ (sq (fun _ al=> ?_))))
 have hix:=mK (c:=(44:UInt8)) (l:=r) aI
 have hl1:[(44:UInt8)].length=1:=rfl
 refine rg rfl (ag (.slice (some ⟨C,0,none⟩) (s.count 44 +1) (s.count 44 +1)) (ag (ae i) (ag (str r) (p mv (ag (.int .i64 0) (p (bc ((r.idxOf 44:Nat):Int) rfl rfl (aR (by omega) (by omega))) (p (rh u9 rfl rfl (by omega)) ?_)))))))
 refine p (aJ bE rfl rfl (by omega) (aw.ok ((aM (aG A hE39)).2) (bp (by rw [List.length_append,List.length_replicate]; omega)))) (e (ly (j:=i) (u:=str (r.take (r.idxOf 44))) (aG A hE39) iN rfl rfl rfl (by omega) (by omega) fun w14 aB V=> ?_))
 have hE14:Wk w w14:=Wk.own (Md.trans O hE39) (aG A hE39) aB (Nat.le_refl _)
 rw [← hi,Bj (by omega),hi] at V
 refine au ((al _ _ (U (fun _ am=>(ag (str r) (p mv (ag (str [44]) (p (bK u9 rfl rfl) ?_))))))))
 refine p (bc ((r.idxOf 44 +1:Nat):Int) rfl rfl (aR (by omega) (by omega))) (p (kJ u9 rfl rfl (by omega)) (aj (((am _ _ (rg rfl (ag (ae i) (p (bc ((i+1:Nat):Int) rfl rfl (aR (by omega) (by omega))) ?_))))))))
 exact p ak (nl (bn (tn (⟨_,by rw [List.length_drop]; omega,i+1,dn++ [r.take (r.idxOf 44)],r.drop (r.idxOf 44 +1),((by rw [List.length_append,hi]; rfl)),((by have :=FE hix.2; rw [List.length_drop]; omega)),((by rw [List.append_assoc,← hd,Bz 44 r [] hix.2]; rfl)),((by rw [show s.count 44 +1 - (i+1)=s.count 44 +1 - i - 1 by omega]; exact V)),hE14,rfl,rfl,rfl,rfl,rfl,rfl,rfl⟩))))
 refine ext (te _ (te _ (be (tn (ab _ _ (U (fun _ E=>(ag (.slice (some ⟨C,0,none⟩) (s.count 44 +1) (s.count 44 +1)) ?_))))))))
 refine ag (ae i) (ag (str r) (p (aJ bE rfl rfl (by omega) (aw.ok ((aM A).2) (bp (by rw [List.length_append,List.length_replicate]; omega)))) (e (ly (j:=i) (u:=str r) A iN rfl rfl rfl (by omega) (by omega) fun w17 aC I=> ?_))))
 have hE17:Wk w w17:=Wk.own O A aC (Nat.le_refl _)
 rw [← hi,Bj (by omega),hi] at I
 refine au ((E _ _ (U (fun _ G=>(ag (.slice (some ⟨C,0,none⟩) (s.count 44 +1) (s.count 44 +1)) (ag (ae i) (p (bc ((i+1:Nat):Int) rfl rfl (aR (by omega) (by omega))) (p (oY bE rfl rfl (by omega)) ?_))))))))
 refine aj (((G _ _ (rt (f1 rfl rfl ?_)))))
 have aK:¬(44:UInt8)∈r:=fun h=>by have :=List.count_pos_iff.2 h; omega
 have hd2:dn++ [r]=dR 44 [] s:=by rw [← hd,Lo 44 r [] aK]; rfl
 rw [show s.count 44 +1 - i - 1=0 by omega,List.replicate_zero,List.append_nil,hd2] at I
 exact ⟨by rw [hsc,show s.count 44 +1=i+1 by omega] at*; exact I,hE17⟩
theorem LA (s:List UInt8) (w:World) (hs:s.length≤1048576):
 aU Tryz.prog 132 (List.toArray [str s,str [44]]) w (fun v w'=>World.ownsRow w' w.heap.size 9 1 (v) ((dR 44 [] s)).length (((dR 44 [] s)).map str)∧Wk w w'):=by
 refine enter Tryz.func132 rfl Tryz.ntmps132 rfl ?_
 refine U (fun _ a=>(aj (((a _ _ (U (fun _ i=>(ag (str s) ?_))))))))
 exact ag (str [44]) (e (cl Dz (Hi s _ hs) rfl fun j w7 hR7=>aj (((i _ _ (rt (f1 rfl rfl (hR7))))))))
theorem Kc (kind:Nat) (s:List UInt8) (w:World) (hk:kind=1∨kind=2∨kind=3) (hs:s.length≤1048576):
 aU Tryz.prog 118 (List.toArray [ae kind,str s]) w (fun v w'=>World.ownsRow w' w.heap.size 9 1 (v) ((cg kind s)).length (((cg kind s)).map str)∧Wk w w'):=by
 refine enter Tryz.func118 rfl Tryz.ntmps118 rfl ?_
 refine U (fun _ O=>(aj (((O _ _ (sq (fun _ V=>U (fun _ Y=> ?_))))))))
 refine ag (ae kind) (p (bf rfl rfl) (au ((Y _ _ (cd rfl (fun hc8=> ?_) (fun hc8=> ?_))))))
 refine U (fun _ q=>(ag (str s) (e (cl Dv (LA s _ hs) rfl fun v10 w10 hR10=>aj (((q _ _ (rt ?_))))))))
 refine tr (f1 rfl rfl ?_)
 unfold cg; rw [if_pos (by omega)]; exact hR10
 refine az (tn (V _ _ (U (fun _ q=>(aj (((q _ _ (sq (fun _ Z=> ?_))))))))))
 refine U (fun _ aa=>(aj (((aa _ _ (aA (lp (fun G j wI=> ∃ (i:Nat) (dn:List (List UInt8)) (a:Value),(i≤s.length+kind∧dn.length≤i)∧(dn++chunks kind (s.drop i)=chunks kind s)∧(World.ownsRow wI w.heap.size 9 1 (a) (dn).length ((dn).map str))∧(Wk w wI)∧(j 0=ae kind)∧(j 1=str s)∧(j 5=a)∧(j 6=ae i)∧(s.length - i=G)) _ ⟨0,[],.slice none 0 0,((by simp)),rfl,(World.ownsRow_nil _ _ _ _),(Md.refl _ _),rfl,rfl,rfl,rfl,rfl⟩ ?_)))))))
 rintro G j wI ⟨i,dn,a,hi,hd,E,I,am,an,ao,aq,rfl⟩
 refine fx 0 am (fx 1 an (fx 5 ao (fx 6 aq (sq (fun _ ab=>U (fun _ ac=>(ag (ae i) (ag (str s) (p (bK u9 rfl rfl) (p (lt rfl rfl) ?_))))))))))
 refine au ((ac _ _ (cd rfl (fun al=> ?_) (fun al=> ?_))))
 have hne:s.drop i≠[]:=fun h=>by have :=congrArg List.length h; rw [List.length_drop,List.length_nil] at this; omega
 refine az (tn (ab _ _ (sq (fun _ A=>aA (rg rfl (ag (a) (ag (str s) (ag (ae i) ?_))))))))
 refine ag (ae i) (ag (ae kind) (p (bc ((i+kind:Nat):Int) rfl rfl (aR (by omega) (by omega))) (ag (str s) (p (bK u9 rfl rfl) (p (mn rfl rfl) (p (iS u9 rfl rfl rfl (by omega)) (e (ec dV rfl rfl fun av w28 hb28 C ah=> ?_))))))))
 have J:Wk w w28:=Md.trans I C.md
 refine e (ap dV (aG E C.md) rfl (by have :=J.size; omega) rfl (aw.cU ah) (rfl) (rfl) (by omega) (by omega) fun ar w29 M ai hz29 ax=> ?_)
 have hE29:=Wk.own J (aG E C.md) ai (Nat.le_refl _)
 rw [EE] at M
 have ho29x:=jl M
 refine p ak (nl (bn (tn (A _ _ (rg rfl (ag (ae i) (ag (ae kind) (p (bc ((i+kind:Nat):Int) rfl rfl (aR (by omega) (by omega))) ?_))))))))
 exact aj (((⟨_,by omega,i+kind,dn++ [(s.drop i).take kind],ar,((by rw [List.length_append,List.length_singleton]; omega)),((by rw [← hd,pW (k:=kind) (by omega) hne,List.append_assoc,List.drop_drop]; rfl)),ho29x,hE29,rfl,rfl,rfl,rfl,rfl⟩)))
 refine ext (te _ (te _ (be (tn (Z _ _ (U (fun _ A=>(ag (a) ?_))))))))
 refine p (bF (a) rfl) (au ((A _ _ (rt (f1 rfl rfl ?_)))))
 have hd2:dn=cg kind s:=by unfold cg; rw [if_neg (by omega),← hd,List.drop_eq_nil_of_le (by omega),pX,List.append_nil]
 exact ⟨by rw [← hd2]; exact E,I⟩
theorem zl (kind:Nat) (s:List UInt8) (w:World) (hk:kind=1∨kind=2∨kind=3) (hs:s.length≤1048576):
 aU Tryz.prog 101 (List.toArray [ae kind,str s]) w (fun v w'=>(∃ a,v= .tuple #[a,ae ((cX kind s).2)]∧World.ownsRow w' w.heap.size 71 1 a (cX kind s).1.length ((cX kind s).1.map aO))∧Wk w w'):=by
 refine enter Tryz.func101 rfl Tryz.ntmps101 rfl ?_
 refine U (fun _ aq=>(p ak (aj (((aq _ _ (sq (fun _ aB=>sq (fun _ aC=> ?_)))))))))
 refine rg rfl (ag (ae kind) (e (cl xh (z4 kind _) rfl fun v11 w11 hR11=> ?_)))
 obtain ⟨rfl,ah⟩:=hR11
 refine p (no rfl) (au ((aC _ _ (cf ((by rw [decide_eq_true (by omega)]; rfl)) (az (tn (aB _ _ (sq (fun _ aD=>sq (fun _ aE=> ?_))))))))))
 refine rg rfl (ag (str s) (p (cI rfl rfl) (au ((aE _ _ (cd rfl (fun A=> ?_) (fun A=> ?_)))))))
 refine U (fun _ Y=>(p ak (aj (((Y _ _ (rt (tr ?_))))))))
 exact f2 rfl rfl rfl (⟨⟨.slice none 0 0,by unfold cX; rw [if_pos A]; rfl,by unfold cX; rw [if_pos A]; exact World.ownsRow_nil _ _ _ _⟩,ah⟩)
 refine az (tn (aD _ _ (U (fun _ Y=>(aj (((Y _ _ (sq (fun _ aF=> ?_))))))))))
 refine U (fun _ aH=>(ag (ae kind) (ag (str s) (e (cl Dm (Kc kind s _ hk hs) rfl fun bb w17 aR=> ?_)))))
 obtain ⟨al,hE17⟩:=aR
 obtain ⟨aK,aL,rfl⟩:=bW al
 have hS17:=(aM al).2
 have hpl:=AM (kind:=kind) (s:=s) (by omega)
 have J:Wk w w17:=Md.trans ah hE17
 refine p (ba dx rfl rfl) (p mv (au ((aH _ _ (aA (lp (fun ac q wI=> ∃ (i:Nat) (I:Value),(i≤(cg kind s).length)∧(¬∃ x∈(cg kind s).take i,dm kind x=0)∧(World.ownsRow wI w17.heap.size 71 1 I (((cg kind s).take i).map (dm kind)).length ((((cg kind s).take i).map (dm kind)).map aO))∧(Wk w17 wI)∧(q 0=ae kind)∧(q 1=str s)∧(q 6=I)∧(q 17= .slice aK (cg kind s).length aL)∧(q 18=ae ((cg kind s).length))∧(q 19=ae i)∧((cg kind s).length - i=ac)) _ ⟨0,.slice none 0 0,(by omega),((by rintro ⟨x,a4,_⟩; simp at a4)),(World.ownsRow_nil _ _ _ _),(Md.refl _ _),rfl,rfl,rfl,rfl,rfl,rfl,rfl⟩ ?_))))))
 rintro ac q wI ⟨i,I,hi,hne,E,j,aY,aZ,a3,a0,a1,a2,rfl⟩
 refine fx 0 aY (fx 1 aZ (fx 6 a3 (fx 17 a0 (fx 18 a1 (fx 19 a2 ?_)))))
 have hfl:(((cg kind s).take i).map (dm kind)).length≤i:=by rw [List.length_map,List.length_take]; omega
 refine U (fun _ aI=>(p (lt rfl rfl) (au ((aI _ _ (sq (fun _ ar=>cd rfl (fun aV=> ?_) (fun aV=> ?_))))))))
 refine az (tn (ar _ _ (sq (fun _ O=>aA (U (fun _ V=>(p (aJ bE rfl rfl (by omega) (aw.ok (hS17.wk j) (bp (by omega)))) (p (ld bz rfl (bu.get (i:=i) (hS17.wk j) (by omega))) ?_))))))))
 refine aj (((V _ _ (U (fun _ C=>(ag (ae kind) (p mv (e (cl xi (yY kind ((cg kind s).getD i []) _ hk (by have :=AN (kind:=kind) (by omega) (qF (d:= []) (show i < (cg kind s).length by omega)); omega)) rfl fun bc w25 aS=> ?_)))))))))
 obtain ⟨rfl,hE25⟩:=aS
 refine aj (((C _ _ (sq (fun _ av=>U (fun _ ax=>(p mv (p (bf rfl rfl) ?_))))))))
 refine au ((ax _ _ (cd rfl (fun aW=> ?_) (fun aW=> ?_))))
 refine U (fun _ ay=>(p ak (aj (((ay _ _ (rt (tr ?_))))))))
 refine br (tr (tr (br (tr (f2 rfl rfl rfl ?_)))))
 have hz:cX kind s=([],31):=by unfold cX; rw [if_neg A,if_pos ⟨_,qF (d:= []) (show i < (cg kind s).length by omega),by omega⟩]
 exact ⟨⟨.slice none 0 0,by rw [hz]; rfl,by rw [hz]; exact World.ownsRow_nil _ _ _ _⟩,Md.trans J (Md.trans j hE25)⟩
 refine az (tn (av _ _ (rg rfl (ag (I) (p mv (e (ec rm rfl rfl fun a7 w30 a8 aa aN=> ?_)))))))
 have ai:Wk w17 w30:=Md.trans (Md.trans j hE25) aa.md
 refine e (ap rm (aG (aG E hE25) aa.md) rfl (by have :=ai.size; omega) rfl (aw.cU aN) (rfl) (rfl) (by omega) (by omega) fun ao w31 ho31 aQ hz31 a9=> ?_)
 have hE31:=Wk.own ai (aG (aG E hE25) aa.md) aQ (Nat.le_refl _)
 have aX:World.ownsRow w31 w17.heap.size 71 1 ao (((cg kind s).take (i+1)).map (dm kind)).length ((((cg kind s).take (i+1)).map (dm kind)).map aO):=by
  rw [eh _ i [] (by omega),List.map_append,List.length_append,List.map_append]; exact ho31
 refine p ak (nl (bn (tn (O _ _ (rg rfl (p (ad rfl rfl (bm (by omega))) (p mv (nl ?_))))))))
 exact tn (⟨_,by omega,i+1,ao,(by omega),(tc (by omega) hne (by omega)),aX,hE31,rfl,rfl,rfl,rfl,rfl,rfl,rfl⟩)
 refine ext (te _ (te _ (be (tn (aF _ _ (sq (fun _ O=>sq (fun _ V=> ?_))))))))
 obtain ⟨G,Z,rfl⟩:=bW E
 have htl:(((cg kind s).take i).map (dm kind)).length=(cg kind s).length:=by rw [List.length_map,List.length_take]; omega
 have M:(cg kind s).take i=(cg kind s):=List.take_of_length_le (by omega)
 have hnl:G=none→(((cg kind s).take i).map (dm kind)).length=0:=fun h=>by obtain ⟨a6,c2,an,_,_,h3⟩:=Rd.fY E; simp only [Value.slice.injEq] at an; exact h3 (an.1 ▸ h)
 refine rg rfl (ag (.slice G (((cg kind s).take i).map (dm kind)).length Z) (p (ba js rfl rfl) (p (gt rfl rfl) (au ((V _ _ (cd rfl (fun ab=> ?_) (fun ab=> ?_))))))))
 refine U (fun _ C=>(p ak (aj (((C _ _ (rt (tr ?_))))))))
 refine f2 rfl rfl rfl ?_
 rw [M] at hne htl
 have hz:cX kind s=([],32):=by unfold cX; rw [if_neg A,if_neg hne,if_pos (by rw [M,List.length_map] at ab; omega)]
 exact ⟨⟨.slice none 0 0,by rw [hz]; rfl,by rw [hz]; exact World.ownsRow_nil _ _ _ _⟩,Md.trans J j⟩
 refine az (tn (O _ _ (U (fun _ C=>(ag (.slice G (((cg kind s).take i).map (dm kind)).length Z) (e (cl xe (Ay (((cg kind s).take i).map (dm kind)) G Z _ (aM E).2 hnl (by rw [List.length_map,List.length_take] at*; omega)) rfl fun a5 w37 aT=> ?_)))))))
 obtain ⟨am,aP⟩:=aT
 refine p ak (aj (((C _ _ (rt (f2 rfl rfl rfl ?_))))))
 rw [M] at hne am
 have hz:cX kind s=(gB ((cg kind s).map (dm kind)),0):=by unfold cX; rw [if_neg A,if_neg hne,if_neg (by rw [M,List.length_map] at ab; omega)]
 exact ⟨⟨a5,by rw [hz]; rfl,by rw [hz]; exact gi am (by have :=J.size; have :=j.size; omega)⟩,Md.trans J (Md.trans j aP)⟩
end Go.Hb.lJ
end
section
set_option maxRecDepth 20000
set_option maxHeartbeats 1000000
namespace Go.Hb.gr
open Go.Hb.di
open Go.Proofs
theorem JA {b:UInt8} (h:¬(b.toNat:Int)=10):b≠10:=by rintro rfl; exact h rfl
theorem Ir {b:UInt8} (h:(b.toNat:Int)=10):b=10:=UInt8.toNat_inj.1 (by have :(10:UInt8).toNat=10:=rfl; omega)
theorem Is {b:UInt8} (h:(b.toNat:Int)=13):b=13:=UInt8.toNat_inj.1 (by have :(13:UInt8).toNat=13:=rfl; omega)
theorem JB {b:UInt8} (h:¬(b.toNat:Int)=13):b≠13:=by rintro rfl; exact h rfl
theorem tI (b:UInt8) (w:World):
 aU Tryz.prog 92 (List.toArray [.int .u8 b.toNat]) w (fun v w'=>v= .bool (jy b)∧Wk w w'):=by
 refine enter Tryz.func92 rfl Tryz.ntmps92 rfl ?_
 refine U (fun _ i=>(aj (((i _ _ (U (fun _ a=>(ag (.int .u8 b.toNat) ?_))))))))
 refine p (bf rfl rfl) (p mv (gs (t:=5) rfl (fun hg5=> ?_) (fun hg5=> ?_)))
 refine sk rfl rfl rfl rfl (sk rfl rfl rfl rfl (p (bg rfl) (aj (((a _ _ (rt (f1 rfl rfl ?_))))))))
 exact ⟨by show Value.bool true =_; rw [lY,decide_eq_true (.inl (by omega))],Md.refl _ _⟩
 refine pg rfl rfl rfl (aC (.int .u8 b.toNat) rfl) (pg rfl rfl rfl (bf rfl rfl) (p (a5 rfl) (aj (((a _ _ (rt (f1 rfl rfl ?_))))))))
 exact ⟨by show Value.bool (decide ((b.toNat:Int)=9))=_; rw [lY]; exact congrArg Value.bool (decide_eq_decide.2 (by omega)),Md.refl _ _⟩
theorem GI (l:List UInt8) (w:World) (hl:l.length≤1048576):
 aU Tryz.prog 57 (List.toArray [str l]) w (fun v w'=>World.ownsRow w' w.heap.size 9 1 v ((bC [] l)).length (((bC [] l)).map str)∧Wk w w'):=by
 refine enter Tryz.func57 rfl Tryz.ntmps57 rfl ?_
 refine U (fun _ ah=>(aj (((ah _ _ (U (fun _ ai=>(p ak ?_))))))))
 refine au ((ai _ _ (U (fun _ al=>(aj (((al _ _ (sq (fun _ am=> ?_))))))))))
 refine U (fun _ an=>(ag (str l) (p (bK u9 rfl rfl) (p mv (au ((an _ _ (aA ?_))))))))
 refine lp (fun ac G w1=> ∃ (i:Nat) (a:Int) (I:List UInt8) (dn:List (List UInt8)) (v:Value),(i≤l.length)∧(gZ l i a I)∧(dn++bC I (l.drop i)=(bC [] l))∧(Wk w w1)∧(World.ownsRow w1 w.heap.size 9 1 v (dn).length ((dn).map str))∧(G 0=str l)∧(G 3=v)∧(G 4= .int .i64 a)∧(G 7= .int .i64 l.length)∧(G 8= .int .i64 i)∧(l.length - i=ac)) _ ⟨0,-1,[],[],.slice none 0 0,(by omega),gZ.no,rfl,(Md.refl _ _),(World.ownsRow_nil _ _ _ _),rfl,rfl,rfl,rfl,rfl,rfl⟩ ?_
 rintro ac G w1 ⟨i,a,I,dn,v,hi,C,hd,J,V,aI,aJ,aK,aL,aM,rfl⟩
 refine fx 0 aI (fx 3 aJ (fx 4 aK (fx 7 aL (fx 8 aM ?_))))
 have hdl:dn.length≤l.length+1:=by have h1:=congrArg List.length hd; have h2:=oy l []; rw [List.length_append] at h1; omega
 refine U (fun _ ao=>(p (lt rfl rfl) (au ((ao _ _ (sq (fun _ aq=>cd rfl (fun aE=> ?_) (fun aE=> ?_))))))))
 refine az (tn (aq _ _ (sq (fun _ j=>aA (U (fun _ Y=>(ag (.int .i64 i) (p (bF (.int .i64 i) rfl) ?_))))))))
 refine au ((Y _ _ (aA (U (fun _ E=>(ag (str l) (ag (.int .i64 i) (p (dA u9 rfl rfl (by omega)) ?_))))))))
 refine e (cl sE (tI (l.getD i 0) _) rfl fun aY w15 hR15=> ?_)
 obtain ⟨rfl,ae⟩:=hR15
 have hE15x:Wk w w15:=Md.trans J ae
 have hsz15:=hE15x.size
 have ho15:=aG V ae
 refine p mv (gb (t:=16) rfl (fun s=> ?_) (fun s=> ?_))
 refine pg rfl rfl rfl (aC (.int .i64 a) rfl) (pg rfl rfl rfl (ge rfl rfl) (p (bg rfl) (aj (((E _ _ (cd rfl (fun ay=> ?_) (fun ay=> ?_))))))))
 obtain ⟨aB,hp2,ab⟩:=C.pos (by omega)
 refine U (fun _ A=>(ag (v) (ag (str l) (ag (.int .i64 a) (ag (.int .i64 i) (p (iS u9 rfl rfl rfl (by omega)) (e (ec dV rfl rfl fun aP w25 aR M ar=> ?_))))))))
 refine e (ap dV (aG ho15 M.md) rfl (by have :=M.size; omega) rfl (aw.cU ar) (rfl) (rfl) (by omega) (by omega) fun aN w26 aF ax aW aT=> ?_)
 have hE26:=Wk.own (Md.trans hE15x M.md) (aG ho15 M.md) ax (Nat.le_refl _)
 have ho26x:=jl aF
 refine aj (((A _ _ (rg rfl (p ak (nl (bn (bn ?_))))))))
 exact tn (j _ _ (rg rfl (p (ad rfl rfl (bm (by omega))) (p mv (au ((⟨_,by omega,i+1,-1,[],dn++ [(l.take i).drop a.toNat],aN,(by omega),gZ.no,((by rw [drop_cons 0 (by omega),y5 s ab,hp2] at hd; rw [List.append_assoc]; exact hd)),hE26,ho26x,rfl,rfl,rfl,rfl,rfl,rfl⟩)))))))
 refine U (fun _ A=>(ag (str l) (ag (.int .i64 i) (p (dA u9 rfl rfl (by omega)) (e (cl sE (tI (l.getD i 0) _) rfl fun aO w31 Z=> ?_))))))
 obtain ⟨rfl,hE31⟩:=Z
 have hE31x:Wk w w31:=Md.trans hE15x hE31
 have ho31:=aG ho15 hE31
 refine p (no rfl) (p mv (gb (t:=33) rfl (fun q=> ?_) (fun q=> ?_)))
 refine pg rfl rfl rfl (aC (.int .i64 a) rfl) (pg rfl rfl rfl (lt rfl rfl) (p (bg rfl) (aj (((A _ _ (cd rfl (fun aa=> ?_) (fun aa=> ?_))))))))
 refine rg rfl (ag (.int .i64 i) (p (bF (.int .i64 i) rfl) (nl (bn (bn (tn (j _ _ (rg rfl ?_))))))))
 refine p (ad rfl rfl (bm (by omega))) (p mv (nl (tn ?_)))
 rw [s] at q; cases q
 refine az (bn (bn (tn (j _ _ (rg rfl (p (ad rfl rfl (bm (by omega))) (p mv (nl ?_))))))))
 refine tn ?_
 rw [s] at q; cases q
 refine sk rfl rfl rfl rfl (sk rfl rfl rfl rfl (p (a5 rfl) (aj (((A _ _ (cf rfl (az ?_))))))))
 refine bn (bn (tn (j _ _ (rg rfl (p (ad rfl rfl (bm (by omega))) (p mv (nl (tn ?_))))))))
 exact ⟨_,by omega,i+1,a,I,dn,v,(by omega),((by obtain ⟨h1,h2⟩:=C.neg (by omega); subst h1 h2; exact gZ.no)),((by obtain ⟨h1,h2⟩:=C.neg (by omega); subst h2; rw [drop_cons 0 (by omega),qs s] at hd; exact hd)),hE31x,ho31,rfl,rfl,rfl,rfl,rfl,rfl⟩
 refine sk rfl rfl rfl rfl (sk rfl rfl rfl rfl (p (a5 rfl) (aj (((E _ _ (cf rfl (sq (fun _ A=> ?_)))))))))
 refine rg rfl (ag (str l) (ag (.int .i64 i) (p (dA u9 rfl rfl (by omega)) (e (cl sE (tI (l.getD i 0) _) rfl fun aO w31 Z=> ?_)))))
 obtain ⟨rfl,hE31⟩:=Z
 have hE31x:Wk w w31:=Md.trans hE15x hE31
 have ho31:=aG ho15 hE31
 refine p (no rfl) (p mv (gb (t:=33) rfl (fun q=> ?_) (fun q=> ?_)))
 refine pg rfl rfl rfl (aC (.int .i64 a) rfl) (pg rfl rfl rfl (lt rfl rfl) (p (bg rfl) (aj (((A _ _ (cd rfl (fun aa=> ?_) (fun aa=> ?_))))))))
 refine rg rfl (ag (.int .i64 i) (p (bF (.int .i64 i) rfl) (nl (bn (bn (tn (j _ _ (rg rfl ?_))))))))
 exact p (ad rfl rfl (bm (by omega))) (p mv (au ((⟨_,by omega,i+1,i,[l.getD i 0],dn,v,(by omega),(gZ.begin (by omega)),((by obtain ⟨h1,h2⟩:=C.neg (by omega); subst h2; rw [drop_cons 0 (by omega),tt s] at hd; exact hd)),hE31x,ho31,rfl,rfl,rfl,rfl,rfl,rfl⟩))))
 refine az (bn (bn (tn (j _ _ (rg rfl (p (ad rfl rfl (bm (by omega))) (p mv (nl ?_))))))))
 exact tn (⟨_,by omega,i+1,a,I++ [l.getD i 0],dn,v,(by omega),(C.more (by omega) (by omega)),((by rw [drop_cons 0 (by omega),tt s] at hd; exact hd)),hE31x,ho31,rfl,rfl,rfl,rfl,rfl,rfl⟩)
 refine sk rfl rfl rfl rfl (sk rfl rfl rfl rfl (p (a5 rfl) (aj (((A _ _ (cf rfl (az ?_))))))))
 refine bn (bn (tn (j _ _ (rg rfl (p (ad rfl rfl (bm (by omega))) (p mv (nl (tn ?_))))))))
 rw [s] at q; cases q
 refine ext (te _ (te _ (be (tn (am _ _ (sq (fun _ j=>U (fun _ Y=> ?_))))))))
 refine ag (.int .i64 a) (p (ge rfl rfl) (au ((Y _ _ (cd rfl (fun aD=> ?_) (fun aD=> ?_))))))
 obtain ⟨aB,hp2,ab⟩:=C.pos (by omega)
 refine rg rfl (ag (v) (ag (str l) (ag (.int .i64 a) (p (kJ u9 rfl rfl (by omega)) (e (ec dV rfl rfl fun aQ w45 aS O av=>e (ap dV (aG V O.md) rfl (by have :=O.size; have :=J.size; omega) rfl (aw.cU av) (rfl) (rfl) (by omega) (by omega) fun aZ w46 aH hM46 aX aV=> ?_)))))))
 have hE46:=Wk.own (Md.trans J O.md) (aG V O.md) hM46 (Nat.le_refl _)
 have ho46x:=jl aH
 refine aj (((j _ _ (U (fun _ E=>(p mv (p ak (nl ?_))))))))
 refine tn (E _ _ (rt (f1 rfl rfl ?_)))
 have hd2:dn++ [l.drop a.toNat]=(bC [] l):=by rw [← hd,show l.drop i= [] from List.drop_eq_nil_of_le (by omega),y6 ab,hp2,List.take_of_length_le (by omega)]
 exact ⟨by rw [← hd2]; exact ho46x,hE46⟩
 obtain ⟨aB,hp2⟩:=C.neg (by omega)
 refine az (tn (j _ _ (U (fun _ E=>(ag (v) (p (bF (v) rfl) (au ((E _ _ ?_)))))))))
 refine rt (f1 rfl rfl ?_)
 have hd2:dn=(bC [] l):=by rw [← hd,List.drop_eq_nil_of_le (by omega),hp2,tu,List.append_nil]
 exact ⟨by rw [← hd2]; exact V,J⟩
theorem Ky (l:List UInt8) (w:World) (hl:l.length≤1048576):
 aU Tryz.prog 50 (List.toArray [str l]) w (fun v w'=>World.ownsRow w' w.heap.size 9 1 v ((bC [] l)).length (((bC [] l)).map str)∧Wk w w'):=by
 refine enter Tryz.func50 rfl Tryz.ntmps50 rfl ?_
 refine U (fun _ ar=>(aj (((ar _ _ (U (fun _ ax=>(p ak ?_))))))))
 refine au ((ax _ _ (U (fun _ ay=>(aj (((ay _ _ (sq (fun _ aB=> ?_))))))))))
 refine aA (lp (fun G Z wI=> ∃ (i:Nat) (dn:List (List UInt8)) (v:Value),(i≤l.length)∧(dn++bC [] (l.drop i)=(bC [] l))∧(Wk w wI)∧(World.ownsRow wI w.heap.size 9 1 v (dn).length ((dn).map str))∧(Z 0=str l)∧(Z 3=v)∧(Z 4= .int .i64 i)∧(l.length - i=G)) _ ⟨0,[],.slice none 0 0,(by omega),rfl,(Md.refl _ _),(World.ownsRow_nil _ _ _ _),rfl,rfl,rfl,rfl⟩ ?_)
 rintro G Z wI ⟨i,dn,v,hi,hd,q,s,aN,aO,aP,rfl⟩
 refine fx 0 aN (fx 3 aO (fx 4 aP ?_))
 have hdl:dn.length≤l.length+1:=by have h1:=congrArg List.length hd; have h2:=oy l []; rw [List.length_append] at h1; omega
 refine sq (fun _ aD=>U (fun _ aE=>(ag (.int .i64 i) (ag (str l) (p (bK u9 rfl rfl) (p (lt rfl rfl) (nl ?_)))))))
 refine tn (aE _ _ (cd rfl (fun aJ=> ?_) (fun aJ=> ?_)))
 refine az (tn (aD _ _ (aA (sq (fun _ ac=>U (fun _ ah=>(ag (str l) (ag (.int .i64 i) ?_))))))))
 refine p (dA u9 rfl rfl (by omega)) (p (bf rfl rfl) (p mv (gs (t:=14) rfl (fun aK=> ?_) (fun aK=> ?_))))
 refine sk rfl rfl rfl rfl (sk rfl rfl rfl rfl (sk rfl rfl rfl rfl (sk rfl rfl rfl rfl (p (bg rfl) (au ((ah _ _ (ct rfl ?_))))))))
 refine U (fun _ E=>(ag (.int .i64 i) (p (ad rfl rfl (bm (by omega))) (aj (((E _ _ (ext ?_))))))))
 exact te _ (be (tn (⟨_,by omega,i+1,dn,v,(by omega),((by rw [drop_cons 0 (by omega),qs (by rw [lY]; exact decide_eq_true (.inl (by omega)))] at hd; exact hd)),q,s,rfl,rfl,rfl,rfl⟩)))
 refine pg rfl rfl rfl (aC (str l) rfl) (pg rfl rfl rfl (aC (.int .i64 i) rfl) (pg rfl rfl rfl (dA u9 rfl rfl (by omega)) (pg rfl rfl rfl (bf rfl rfl) (p (a5 rfl) (au ((ah _ _ (cd rfl (fun aH=> ?_) (fun aH=> ?_)))))))))
 refine U (fun _ E=>(ag (.int .i64 i) (p (ad rfl rfl (bm (by omega))) (aj (((E _ _ (ext ?_))))))))
 exact te _ (be (tn (⟨_,by omega,i+1,dn,v,(by omega),((by rw [drop_cons 0 (by omega),qs (by rw [lY]; exact decide_eq_true (.inr (by omega)))] at hd; exact hd)),q,s,rfl,rfl,rfl,rfl⟩)))
 have ae:jy (l.getD i 0)=false :=by rw [lY]; exact decide_eq_false (by omega)
 refine az (tn (ac _ _ (U (fun _ E=>(ag (.int .i64 i) (p (bF (.int .i64 i) rfl) (au ((E _ _ ?_)))))))))
 refine sq (fun _ aa=>aA (lp (fun G Y aq=> ∃ (j:Nat),(i≤j∧j≤l.length)∧(aq=wI)∧(dn++bC ((l.take j).drop i) (l.drop j)=(bC [] l))∧(Y 0=str l)∧(Y 3=v)∧(Y 4= .int .i64 i)∧(Y 5= .int .i64 j)∧(l.length - j=G)) _ ⟨i,(by omega),rfl,((by rw [List.drop_eq_nil_of_le (by rw [List.length_take]; omega)]; exact hd)),rfl,rfl,rfl,rfl,rfl⟩ ?_))
 rintro G Y aq ⟨j,aV,aF,hd2,aQ,aR,aS,aT,rfl⟩
 refine fx 0 aQ (fx 3 aR (fx 4 aS (fx 5 aT ?_)))
 subst aF
 refine sq (fun _ av=>U (fun _ ab=>(ag (.int .i64 j) (ag (str l) (p (bK u9 rfl rfl) (p (lt rfl rfl) (p mv ?_)))))))
 refine gs (t:=27) rfl (fun aL=> ?_) (fun aL=> ?_)
 refine pg rfl rfl rfl (aC (str l) rfl) (pg rfl rfl rfl (aC (.int .i64 j) rfl) (pg rfl rfl rfl (dA u9 rfl rfl (by omega)) (pg rfl rfl rfl (bB rfl rfl) (p (bg rfl) (p mv (gs (t:=33) rfl (fun aM=> ?_) (fun aM=> ?_)))))))
 refine pg rfl rfl rfl (aC (str l) rfl) (pg rfl rfl rfl (aC (.int .i64 j) rfl) (pg rfl rfl rfl (dA u9 rfl rfl (by omega)) (pg rfl rfl rfl (bB rfl rfl) (p (bg rfl) (au ((ab _ _ (cd rfl (fun aI=> ?_) (fun aI=> ?_)))))))))
 refine az (tn (av _ _ (aA (rg rfl (ag (.int .i64 j) (p (ad rfl rfl (bm (by omega))) (p ak (nl ?_))))))))
 exact bn (tn (⟨_,by omega,j+1,(by omega),rfl,((by rw [drop_cons (l:=l) (i:=j) 0 (by omega),tt (by rw [lY]; exact decide_eq_false (by omega)),← oX 0 (by omega) (by omega)] at hd2; exact hd2)),rfl,rfl,rfl,rfl,rfl⟩))
 have A:l.length≤j∨jy (l.getD j 0)=true := .inr (by rw [lY]; exact decide_eq_true (.inr (by omega)))
 have M:¬j=i:=by
  rintro rfl
  rcases A with h | h
  omega
  rw [ae] at h; cases h
 have hne:(l.take j).drop i≠[]:=fun h0=>M (by have h1:=congrArg List.length h0; simp only [List.length_drop,List.length_take,List.length_nil] at h1; omega)
 rw [tp (i:=j) hne A] at hd2
 refine ext (te _ (te _ (be (tn (aa _ _ (U (fun _ C=>(ag (v) ?_))))))))
 refine ag (str l) (ag (.int .i64 i) (ag (.int .i64 j) (p (iS u9 rfl rfl rfl (by omega)) (e (ec dV rfl rfl fun ai w46 al a I=>e (ap dV (aG s a.md) rfl (by have :=a.size; have :=q.size; omega) rfl (aw.cU I) (rfl) (rfl) (by omega) (by omega) fun V ao O J an am=> ?_))))))
 have hE47:=Wk.own (Md.trans q a.md) (aG s a.md) J (Nat.le_refl _)
 have ho47x:=jl O
 refine aj (((C _ _ (rg rfl (ag (.int .i64 j) (p (bF (.int .i64 j) rfl) (nl (bn ?_))))))))
 exact tn (⟨_,by omega,j,dn++ [(l.take j).drop i],V,(by omega),((by rw [List.append_assoc]; exact hd2)),hE47,ho47x,rfl,rfl,rfl,rfl⟩)
 have A:l.length≤j∨jy (l.getD j 0)=true := .inr (by rw [lY]; exact decide_eq_true (.inl (by omega)))
 have M:¬j=i:=by
  rintro rfl
  rcases A with h | h
  omega
  rw [ae] at h; cases h
 have hne:(l.take j).drop i≠[]:=fun h0=>M (by have h1:=congrArg List.length h0; simp only [List.length_drop,List.length_take,List.length_nil] at h1; omega)
 rw [tp (i:=j) hne A] at hd2
 refine sk rfl rfl rfl rfl (sk rfl rfl rfl rfl (sk rfl rfl rfl rfl (sk rfl rfl rfl rfl (p (a5 rfl) (au ((ab _ _ (cf rfl ?_))))))))
 refine ext (te _ (te _ (be (tn (aa _ _ (U (fun _ C=>(ag (v) ?_))))))))
 refine ag (str l) (ag (.int .i64 i) (ag (.int .i64 j) (p (iS u9 rfl rfl rfl (by omega)) (e (ec dV rfl rfl fun ai w46 al a I=>e (ap dV (aG s a.md) rfl (by have :=a.size; have :=q.size; omega) rfl (aw.cU I) (rfl) (rfl) (by omega) (by omega) fun V ao O J an am=> ?_))))))
 have hE47:=Wk.own (Md.trans q a.md) (aG s a.md) J (Nat.le_refl _)
 have ho47x:=jl O
 refine aj (((C _ _ (rg rfl (ag (.int .i64 j) (p (bF (.int .i64 j) rfl) (nl (bn ?_))))))))
 exact tn (⟨_,by omega,j,dn++ [(l.take j).drop i],V,(by omega),((by rw [List.append_assoc]; exact hd2)),hE47,ho47x,rfl,rfl,rfl,rfl⟩)
 have A:l.length≤j∨jy (l.getD j 0)=true := .inl (by omega)
 have M:¬j=i:=by
  rintro rfl
  rcases A with h | h
  omega
  rw [ae] at h; cases h
 have hne:(l.take j).drop i≠[]:=fun h0=>M (by have h1:=congrArg List.length h0; simp only [List.length_drop,List.length_take,List.length_nil] at h1; omega)
 rw [tp (i:=j) hne A] at hd2
 refine sk rfl rfl rfl rfl (sk rfl rfl rfl rfl (sk rfl rfl rfl rfl (sk rfl rfl rfl rfl (p (a5 rfl) (p mv (sk rfl rfl rfl rfl (sk rfl rfl rfl rfl ?_)))))))
 refine sk rfl rfl rfl rfl (sk rfl rfl rfl rfl (p (a5 rfl) (au ((ab _ _ (cf rfl (ext (te _ ?_))))))))
 refine te _ (be (tn (aa _ _ (U (fun _ C=>(ag (v) (ag (str l) (ag (.int .i64 i) ?_))))))))
 refine ag (.int .i64 j) (p (iS u9 rfl rfl rfl (by omega)) (e (ec dV rfl rfl fun ai w46 al a I=>e (ap dV (aG s a.md) rfl (by have :=a.size; have :=q.size; omega) rfl (aw.cU I) (rfl) (rfl) (by omega) (by omega) fun V ao O J an am=> ?_))))
 have hE47:=Wk.own (Md.trans q a.md) (aG s a.md) J (Nat.le_refl _)
 have ho47x:=jl O
 refine aj (((C _ _ (rg rfl (ag (.int .i64 j) (p (bF (.int .i64 j) rfl) (nl (bn ?_))))))))
 exact tn (⟨_,by omega,j,dn++ [(l.take j).drop i],V,(by omega),((by rw [List.append_assoc]; exact hd2)),hE47,ho47x,rfl,rfl,rfl,rfl⟩)
 refine ext (te _ (te _ (be (tn (aB _ _ (U (fun _ ac=>(ag (v) ?_))))))))
 refine p (bF (v) rfl) (au ((ac _ _ (rt (f1 rfl rfl ?_)))))
 have hd2:dn=(bC [] l):=by rw [← hd,List.drop_eq_nil_of_le (by omega),tu,List.append_nil]
 exact ⟨by rw [← hd2]; exact s,q⟩
theorem Ja (s:List UInt8) (w:World):
 aU Tryz.prog 23 (List.toArray [str s]) w (fun v w'=>v= .bool (nC s)∧Wk w w'):=by
 refine enter Tryz.func23 rfl Tryz.ntmps23 rfl ?_
 refine U (fun _ i=>(aj (((i _ _ (U (fun _ a=>(ag (str s) ?_))))))))
 refine p (bK u9 rfl rfl) (p (ge rfl rfl) (p mv (gs (t:=6) rfl (fun hg6=> ?_) (fun hg6=> ?_))))
 refine pg rfl rfl rfl (aC (str s) rfl) (pg rfl rfl rfl (fD 0 u9 rfl rfl (by omega)) (pg rfl rfl rfl (bf rfl rfl) (p (bg rfl) (p mv (gs (t:=11) rfl (fun hg11=> ?_) (fun hg11=> ?_))))))
 refine pg rfl rfl rfl (aC (str s) rfl) (pg rfl rfl rfl (fD 1 u9 rfl rfl (by omega)) (pg rfl rfl rfl (bf rfl rfl) (p (bg rfl) (p mv (gs (t:=16) rfl (fun j=> ?_) (fun j=> ?_))))))
 refine pg rfl rfl rfl (aC (str s) rfl) (pg rfl rfl rfl (fD 2 u9 rfl rfl (by omega)) (pg rfl rfl rfl (bf rfl rfl) (p (bg rfl) (aj (((a _ _ (rt ?_))))))))
 exact f1 rfl rfl (⟨by show Value.bool (decide (((s.getD 2 0).toNat:Int)=191))=_; rw [qQ]; exact congrArg Value.bool (decide_eq_decide.2 (by omega)),Md.refl _ _⟩)
 refine sk rfl rfl rfl rfl (sk rfl rfl rfl rfl (sk rfl rfl rfl rfl (p (a5 rfl) (aj (((a _ _ (rt ?_))))))))
 exact f1 rfl rfl (⟨by show Value.bool false =_; rw [qQ,decide_eq_false (by omega)],Md.refl _ _⟩)
 refine sk rfl rfl rfl rfl (sk rfl rfl rfl rfl (sk rfl rfl rfl rfl (p (a5 rfl) (p mv (sk rfl rfl rfl rfl (sk rfl rfl rfl rfl (sk rfl rfl rfl rfl ?_)))))))
 exact p (a5 rfl) (aj (((a _ _ (rt (f1 rfl rfl (⟨by show Value.bool false =_; rw [qQ,decide_eq_false (by omega)],Md.refl _ _⟩)))))))
 refine sk rfl rfl rfl rfl (sk rfl rfl rfl rfl (sk rfl rfl rfl rfl (p (a5 rfl) (p mv (sk rfl rfl rfl rfl (sk rfl rfl rfl rfl (sk rfl rfl rfl rfl ?_)))))))
 refine p (a5 rfl) (p mv (sk rfl rfl rfl rfl (sk rfl rfl rfl rfl (sk rfl rfl rfl rfl (p (a5 rfl) (p ak (nl ?_)))))))
 exact tn (a _ _ (rt (f1 rfl rfl (⟨by show Value.bool false =_; rw [qQ,decide_eq_false (by omega)],Md.refl _ _⟩))))
theorem yz (l:List UInt8) (a:Option Addr) (c:Nat) (w:World) (hC:aw w.heap a (U8 l)) (hl:l.length≤1048576) (hc:l.length≤c):
 aU Tryz.prog 77 (List.toArray [.slice a l.length c]) w (fun v w'=>v=str (gd l)∧Wk w w'):=by
 refine enter Tryz.func77 rfl Tryz.ntmps77 rfl ?_
 refine U (fun _ s=>(aj (((s _ _ (U (fun _ A=>(ag (.slice a l.length c) ?_))))))))
 refine p (ba jr rfl rfl) (aj (((A _ _ (sq (fun _ j=>U (fun _ q=>(p mv ?_))))))))
 refine p (gt rfl rfl) (p mv (gs (t:=8) rfl (fun hg8=> ?_) (fun hg8=> ?_)))
 refine pg rfl rfl rfl (aC (.slice a l.length c) rfl) (pg rfl rfl rfl mv (pg rfl rfl rfl (sb rfl rfl (bm (by omega))) (pg rfl rfl rfl (aJ iO rfl rfl (by omega) (aw.ok (hC) (lB (by omega)))) (pg rfl rfl rfl (ld kV rfl ((show _=some (Value.int .u8 (l.getD (l.length - 1) 0).toNat) from by rw [show ((l.length:Int) - 1).toNat=l.length - 1 from by omega]; exact lA hC (by omega)))) (pg rfl rfl rfl (bf rfl rfl) (p (bg rfl) (nl ?_)))))))
 refine tn (q _ _ (cd rfl (fun hc15=> ?_) (fun hc15=> ?_)))
 refine U (fun _ i=>(ag (.slice a l.length c) (p mv (p (sb rfl rfl (bm (by omega))) (p (oY iO rfl rfl (by omega)) (p (jw ju rfl (LZ hC ((l.length:Int) - 1).toNat) (by rw [List.length_take]; omega)) (p ak ?_)))))))
 exact au ((i _ _ (rt (tr (f1 rfl rfl (⟨by show str (l.take ((l.length:Int) - 1).toNat)=_; rw [yy (by omega) (Is (by omega)),show ((l.length:Int) - 1).toNat=l.length - 1 from by omega],Md.refl _ _⟩))))))
 refine az (tn (j _ _ (U (fun _ i=>(ag (.slice a l.length c) (p (jw ju rfl (hC) (rfl)) (p ak (nl ?_))))))))
 exact tn (i _ _ (rt (f1 rfl rfl (⟨by show str l=_; rw [s5 (fun h=>JB (by omega) h.2)],Md.refl _ _⟩))))
 refine sk rfl rfl rfl rfl (sk rfl rfl rfl rfl (sk rfl rfl rfl rfl (sk rfl rfl rfl rfl (sk rfl rfl rfl rfl (sk rfl rfl rfl rfl (p (a5 rfl) (nl ?_)))))))
 refine tn (q _ _ (cf rfl (az (tn (j _ _ (U (fun _ i=>(ag (.slice a l.length c) (p (jw ju rfl (hC) (rfl)) ?_)))))))))
 exact aj (((i _ _ (rt (f1 rfl rfl (⟨by show str l=_; rw [s5 (by omega)],Md.refl _ _⟩))))))
end Go.Hb.gr
end
section
set_option maxRecDepth 20000
set_option maxHeartbeats 1000000
namespace Go.Hb.fH
open Go.Hb.di
open Go.Proofs
open Go.Hb.eX Go.Hb.ko Go.Hb.gF Go.Hb.lJ Go.Hb.g4 Go.Hb.gr Go.Hb.fS
theorem H8 {l:List Tx} {x:Tx} :∀ {i:Nat},i < l.length→(∀ j,j < i→l.getD j []≠x)→l.getD i []=x→l.idxOf x=i:=by
 induction l with
 | nil=>intro i h; simp at h
 | cons a l ih=>
   intro i hi q p
   cases i with
   | zero=>simp only [List.getD_cons_zero] at p; rw [p,List.idxOf_cons_self]
   | succ i=>
     have h0:=q 0 (by omega)
     simp only [List.getD_cons_zero] at h0
     rw [List.idxOf_cons,show (a==x)=false from by simpa using h0,cond_false,ih (i:=i) (by simpa using hi) (fun j s=>by have :=q (j+1) (by omega); simpa using this) (by simpa using p)]
theorem Gw {a b:List Tx} (h:a.length≠b.length):a≠b:=fun h2=>h (by rw [h2])
theorem Hm {a b:List Tx} {i:Nat} (h:a.getD i []≠b.getD i []):a≠b:=fun h2=>h (by rw [h2])
theorem Hk {a b:List Tx} (hl:a.length=b.length) (h:∀ i,i < a.length→a.getD i []=b.getD i []):a=b:=by
 apply List.ext_getElem hl
 intro i h1 h2
 have :=h i h1
 rw [List.getD_eq_getElem?_getD,List.getD_eq_getElem?_getD,List.getElem?_eq_getElem h1,List.getElem?_eq_getElem h2] at this
 exact this
theorem LI {s:Tx} {i:Nat} (h:i < s.length):(s.drop i).take 1= [s.getD i 0]:=by
 rw [drop_cons 0 h]; rfl
theorem B3 (b:UInt8):lD [b]=fq b:=by
 unfold lD ei
 cases h:fq b <;> simp [h]
theorem Bp {s:Tx} {i:Nat} (h:i < s.length):(s.take (i+1)).drop i= [s.getD i 0]:=by
 rw [List.drop_take,show i+1 - i=1 from by omega,LI h]
theorem qn {s:Tx} (h:s= []∨ei s=false):e6 s=21:=if_pos h
theorem yS {s:Tx} (h:s≠[]) (h1:ei s=true) (h2:32 < s.length):e6 s=22:=by unfold e6; rw [if_neg (by rw [h1]; simp [h]),if_pos h2]
theorem yT {s:Tx} (h:s≠[]) (h1:ei s=true) (h2:¬32 < s.length):e6 s=0:=by unfold e6; rw [if_neg (by rw [h1]; simp [h]),if_neg h2]
theorem AK {s:Tx} (h:s= [48]):dq true s= .ok []:=by unfold dq; rw [if_pos ⟨rfl,h⟩]
theorem uJ {s:Tx} (h:s≠[48]):dq true s=dq false s:=by unfold dq; simp [h]
theorem uF {s:Tx} (h:(aW s).2.2.2≠0):dq false s= .error (aW s).2.2.2:=by unfold dq; rw [if_neg (fun h2=>by cases h2.1),if_pos h]
theorem uG {s:Tx} (h:(aW s).2.2.2=0) (h1:(aW s).2.2.1=true):dq false s= .error 114:=by unfold dq; rw [if_neg (fun h2=>by cases h2.1),if_neg (fun h2=>h2 h),if_pos h1]
theorem uH {s:Tx} (h:(aW s).2.2.2=0) (h1:(aW s).2.2.1=false) (h2:e6 (aW s).1≠0):dq false s= .error (e6 (aW s).1):=by unfold dq; rw [if_neg (fun h2=>by cases h2.1),if_neg (fun h2=>h2 h),if_neg (by rw [h1]; simp),if_pos h2]
theorem uI {s:Tx} (h:(aW s).2.2.2=0) (h1:(aW s).2.2.1=false) (h2:e6 (aW s).1=0):dq false s= .ok (aW s).1:=by unfold dq; rw [if_neg (fun h2=>by cases h2.1),if_neg (fun h2=>h2 h),if_neg (by rw [h1]; simp),if_neg (fun h3=>h3 h2)]
theorem j9 {s:Tx} {most:Int} (h:(cJ s most).2=0):dy s most= .ok (cJ s most).1:=by unfold dy; rw [if_neg (fun h2=>h2 h)]
theorem lk {s:Tx} {most:Int} (h:(cJ s most).2≠0):dy s most= .error 13∧(cJ s most).2=13:=by
 refine ⟨by unfold dy; rw [if_pos h],?_⟩
 rcases As s most with h1 | ⟨h1,_⟩
 · rw [h1]
 · rw [h1] at h; exact absurd rfl h
theorem zU (l:List Tx) (a:Option Addr) (c:Nat) (x:Tx) (w:World) (hC:bu w.heap a l) (ao:l.length≤1048576):
 aU Tryz.prog 93 (List.toArray [.slice a l.length c,str x]) w (fun v w'=>v= .int .i64 (if x∈l then (l.idxOf x:Nat) else -1:Int)∧w'=w):=by
 refine enter Tryz.func93 rfl Tryz.ntmps93 rfl ?_
 refine U (fun _ I=>(aj (((I _ _ (sq (fun _ J=>U (fun _ M=> ?_))))))))
 refine ag (.slice a l.length c) (p (ba dx rfl rfl) (p mv (au ((M _ _ (aA (lp (fun E q wI=> ∃ (i:Nat),(i≤l.length)∧(∀ j,j < i→l.getD j []≠x)∧(wI=w)∧(q 0= .slice a l.length c)∧(q 1=str x)∧(q 7=ae (l.length))∧(q 8=ae i)∧(l.length - i=E)) _ ⟨0,(by omega),((fun j G=>by omega)),rfl,rfl,rfl,rfl,rfl,rfl⟩ ?_)))))))
 rintro E q wI ⟨i,hi,C,ab,ah,ai,al,am,rfl⟩
 refine fx 0 ah (fx 1 ai (fx 7 al (fx 8 am ?_)))
 subst ab
 refine U (fun _ O=>(p (lt rfl rfl) (au ((O _ _ (sq (fun _ V=>cd rfl (fun ac=> ?_) (fun ac=> ?_))))))))
 refine az (tn (V _ _ (sq (fun _ A=>aA (U (fun _ Y=>(ag (ae i) (p (bF (ae i) rfl) ?_))))))))
 refine au ((Y _ _ (U (fun _ Z=>(ag (str x) (ag (.slice a l.length c) (ag (ae i) (p (aJ bE rfl rfl (by omega) (aw.ok (hC) (bp (by omega)))) ?_))))))))
 refine p (ld bz rfl (bu.get (i:=i) hC (by omega))) (p (cI rfl rfl) (au ((Z _ _ (cd rfl (fun s=> ?_) (fun s=> ?_))))))
 refine U (fun _ aa=>(ag (ae i) (p (bF (ae i) rfl) (au ((aa _ _ (rt (br ?_))))))))
 exact tr (tr (br (tr (f1 rfl rfl (⟨by rw [if_pos (by rw [s]; exact c6 (by omega)),H8 (by omega) C s.symm]; rfl,rfl⟩)))))
 refine az (bn (tn (A _ _ (rg rfl (p (ad rfl rfl (bm (by omega))) (p mv (nl (tn ?_))))))))
 exact ⟨_,by omega,i+1,(by omega),((fun j G=>by rcases Nat.lt_or_ge j i with h | h <;> first | exact C j h | (rw [show j=i by omega]; exact fun h2=>s h2.symm))),rfl,rfl,rfl,rfl,rfl,rfl⟩
 refine ext (te _ (te _ (be (tn (J _ _ (U (fun _ A=>(p ak ?_))))))))
 exact au ((A _ _ (rt (f1 rfl rfl (⟨by rw [if_neg (fun h=>by obtain ⟨j,G,an⟩:=lh [] h; exact C j (by omega) an)]; rfl,rfl⟩)))))
theorem Gx (l m:List Tx) (s C:Nat) (a b:Option Addr) (c d:Nat) (w:World) (hC:bu w.heap a l) (V:bu w.heap b m) (hnl:l.length=s) (aD:m.length=C) (aC:s≤1048576):
 aU Tryz.prog 115 (List.toArray [.slice a s c,.slice b C d]) w (fun v w'=>v= .bool (decide (l=m))∧Wk w w'):=by
 refine enter Tryz.func115 rfl Tryz.ntmps115 rfl ?_
 refine U (fun _ aa=>(aj (((aa _ _ (sq (fun _ ah=>U (fun _ ai=> ?_))))))))
 refine ag (.slice a s c) (p (ba dx rfl rfl) (ag (.slice b C d) (p (ba dx rfl rfl) (p (bB rfl rfl) (au ((ai _ _ (cd rfl (fun hc10=> ?_) (fun hc10=> ?_)))))))))
 refine U (fun _ G=>(aj (((G _ _ (rt (tr (f1 rfl rfl ?_))))))))
 exact ⟨by show Value.bool false =_; rw [decide_eq_false (Gw (by omega))],Md.refl _ _⟩
 have aq:l.length=m.length:=by omega
 refine az (tn (ah _ _ (sq (fun _ G=>U (fun _ al=>(ag (.slice a s c) (p (ba dx rfl rfl) (p mv ?_))))))))
 refine au ((al _ _ (aA (lp (fun O E wI=> ∃ (i:Nat),(i≤s)∧(∀ j,j < i→l.getD j []=m.getD j [])∧(Wk w wI)∧(E 0= .slice a s c)∧(E 1= .slice b C d)∧(E 12=ae s)∧(E 13=ae i)∧(s - i=O)) _ ⟨0,(by omega),((fun j Y=>by omega)),(Md.refl _ _),rfl,rfl,rfl,rfl,rfl⟩ ?_))))
 rintro O E wI ⟨i,hi,Z,A,ar,av,ax,ay,rfl⟩
 refine fx 0 ar (fx 1 av (fx 12 ax (fx 13 ay (U (fun _ am=>(p (lt rfl rfl) (au ((am _ _ (sq (fun _ an=>cd rfl (fun ap=> ?_) (fun ap=> ?_))))))))))))
 refine az (tn (an _ _ (sq (fun _ I=>aA (U (fun _ ao=>(ag (ae i) (p (bF (ae i) rfl) ?_))))))))
 refine au ((ao _ _ (sq (fun _ ab=> ?_))))
 have q:(fun w'=>Wk wI w') wI.drew:=(Md.refl _ _).drew
 refine bD (fun w'=>Wk wI w') rfl wide q (bd 0 rfl (.slice a s c) q (bd 1 rfl (ae i) q (aB 2 rfl (fun _ _=>aJ bE rfl rfl (by omega) (aw.ok (hC.wk A) (bp (by omega)))) q (aB 3 rfl (fun w' J=>ld bz rfl (Wk.aE J (bu.get (i:=i) (hC.wk A) (by omega)))) q (bd 4 rfl (.slice b C d) q (bd 5 rfl (ae i) q (aB 6 rfl (fun _ _=>aJ bE rfl rfl (by omega) (aw.ok (V.wk A) (bp (by omega)))) q ?_)))))))
 refine aB 7 rfl (fun w' J=>ld bz rfl (Wk.aE J (bu.get (i:=i) (V.wk A) (by omega)))) q (aB 8 rfl (fun _ _=>j8 rfl rfl) q (hn (by kernel_rfl) (tn (ab _ _ (cd rfl (fun M=> ?_) (fun M=> ?_))))))
 refine U (fun _ ac=>(aj (((ac _ _ (rt (br (tr ?_))))))))
 exact tr (br (tr (f1 rfl rfl (⟨by show Value.bool false =_; rw [decide_eq_false (Hm M)],A.drew⟩))))
 refine az (bn (tn (I _ _ (rg rfl (p (ad rfl rfl (bm (by omega))) (p mv (nl (tn ?_))))))))
 exact ⟨_,by omega,i+1,(by omega),((fun j Y=>by rcases Nat.lt_or_ge j i with h | h <;> first | exact Z j h | (rw [show j=i by omega]; exact Classical.not_not.1 M))),A.drew,rfl,rfl,rfl,rfl,rfl⟩
 refine ext (te _ (te _ (be (tn (G _ _ (U (fun _ I=>(p ak ?_))))))))
 exact au ((I _ _ (rt (f1 rfl rfl (⟨by show Value.bool true =_; rw [decide_eq_true (Hk aq (fun j Y=>Z j (by omega)))],A⟩)))))
theorem kG (rb ln:Nat) (e:Int) (w:World) (hln:Hb.aE w.heap rb 2=some (.int .i64 (ln:Nat))):
 dO Tryz.prog 66 (List.toArray [.pointer (some ⟨rb,0,none⟩),.int .i64 e]) w (fun v w'=>v=Value.tuple #[]∧e=0∧w'=w) (fun c w'=>c=fL 25 ln e∧e≠0∧w'=w):=by
 refine gy Tryz.func66 rfl Tryz.ntmps66 rfl ?_
 refine sq (fun i a=>rg rfl (p (aC (.int .i64 e) rfl) (p (bB rfl rfl) (nl (tn (a _ _ (cd rfl (fun hc5=> ?_) (fun hc5=> ?_))))))))
 refine rg rfl (p (aC (.pointer (some ⟨rb,0,none⟩)) rfl) (p (nc rfl) (p (fa oF rfl) (p (ld bT rfl (hln)) (p (aC (.int .i64 e) rfl) (p (bZ (ps:= [(0,.int .i64 1),(1,.int .i64 (ln:Nat)),(2,.int .i64 e)]) (L:= [.int .i64 1,.int .i64 (ln:Nat),.int .i64 e]) nL rfl (rfl)) (p (Jk uj rfl) ?_)))))))
 exact Ke rfl (fun j hF=>⟨rfl,by omega,rfl⟩)
 refine az (gh ?_)
 refine f0 rfl ?_
 exact ⟨rfl,by omega,rfl⟩
theorem e9 (rb ln:Nat) (b:Bool) (e:Int) (w:World) (hln:Hb.aE w.heap rb 2=some (.int .i64 (ln:Nat))) (he:e≠0):
 dO Tryz.prog 34 (List.toArray [.pointer (some ⟨rb,0,none⟩),.bool b,.int .i64 e]) w (fun v w'=>v=Value.tuple #[]∧b=true∧w'=w) (fun c w'=>c=fL 25 ln e∧b=false∧w'=w):=by
 refine gy Tryz.func34 rfl Tryz.ntmps34 rfl ?_
 refine sq (fun q j=>rg rfl (p (aC (.bool b) rfl) (p (no rfl) (nl (tn (j _ _ (cb rfl (fun a=> ?_) (fun a=> ?_))))))))
 refine rg rfl (p (aC (.pointer (some ⟨rb,0,none⟩)) rfl) (p (aC (.int .i64 e) rfl) (eP rfl (cz kt (kG rb ln e w hln) rfl fun v10 w10 hR10=> ?_) (fun c w' i s hF=>⟨i.1,by simpa using a,i.2.2⟩))))
 exact absurd hR10.2.1 he
 refine az (gh ?_)
 refine f0 rfl ?_
 exact ⟨rfl,by simpa using a,rfl⟩
theorem BK (B:Nat) (H:bO) (F:aI) (R:eI) (n:Nat) (r:List Tx) (rest:List Rw) (ln:Nat) (seen:List Tx) (w:World) (j:bU w B H F R ((n,r)::rest) ln seen):
 aU Tryz.prog 33 (List.toArray [aH H.rb]) w (fun v w'=>(∃ R',bU w' B H F R' rest n seen)∧Tg w' B 9 r.length v (r.map str)∧Md (fun k=>k=H.rb) w w'):=by
 obtain ⟨vr,vs,vn⟩:=R
 obtain ⟨a,cp,hv⟩:=j.rws.slice
 obtain rfl :vr= .slice a (rest.length+1) cp:=hv
 obtain ⟨q,vs,rfl⟩:∃ q vs',vs=q::vs':=by
  cases vs with
  | nil=>exact absurd j.rt.1 (by simp)
  | cons q vs'=>exact ⟨q,vs',rfl⟩
 obtain ⟨q1,q2⟩:=q
 obtain ⟨hq1,hq2⟩:=j.rt.2 0 (q1,q2) (n,r) rfl rfl
 obtain rfl :q1=n:=hq1
 obtain ⟨Y,Z,rfl⟩:=hq2.slice
 have hrw:rest.length+1≤cp∧aw w.heap a (gN ((q1,.slice Y r.length Z)::vs)):=j.rws.cells
 have hcl:=j.cells
 have hrl:H.rb < w.heap.size:=(Array.getElem?_eq_some_iff.1 hcl).1
 refine enter Tryz.func33 rfl Tryz.ntmps33 rfl ?_
 refine U (fun _ I=>(aj (((I _ _ (U (fun _ J=>(ag (aH H.rb) ?_))))))))
 refine p (nc rfl) (p (fa oE rfl) (p (ld m9 rfl ((aQ hcl).trans rfl)) (p (aJ nm rfl rfl (by omega) (aw.ok (hrw.2) (iD (by simp)))) (p (dB pC rfl (rfl) (iF (i:=0) hrw.2 rfl)) (e (al Ce fun ah w3 ai G ab=> ?_))))))
 have hcl3:=G.md.aA hcl
 refine e (bY x4 rfl rfl rfl rfl (ab) (by simp) fun am A aa=> ?_)
 have hcl4:=A.aA hcl3 (fun h=>by omega)
 refine au ((J _ _ (U (fun _ M=>(ag (aH H.rb) (ag (aH H.rb) (p (nc rfl) (p (fa oE rfl) ?_))))))))
 refine p (ld m9 rfl ((aQ hcl4).trans rfl)) (p (oZ nm rfl rfl (by omega)) (p (nc rfl) (p (fa oE rfl) (e (cj yb rfl rfl (v:= .slice (ee a cp 1 2) rest.length (cp - 1)) rfl hcl4 (by show _ < 7; decide) fun w5 C ac=> ?_)))))
 have hb5:=C.B aa (fun h=>by omega)
 refine au ((M _ _ (U (fun _ O=>(ag (aH H.rb) (p (fa qt rfl) (p (ld bT rfl ((hb5.aE 0).trans rfl)) (p (nc rfl) ?_))))))))
 refine p (fa oF rfl) (e (cj fV rfl rfl (v:=ae q1) rfl ac (by show _ < 7; decide) fun w6 E hB6=> ?_))
 have hb6:=E.B hb5 (fun h=>by omega)
 refine au ((O _ _ (U (fun _ V=>(p (fa oz rfl) (p (ld gl rfl ((hb6.aE 1).trans rfl)) (p ak (nl ?_))))))))
 refine tn (V _ _ (rt (f1 rfl rfl ?_)))
 have s:Md (fun k=>k=H.rb) w w6:=(((G.md.mono fun _ _ h=>h.elim).trans' A (fun k hk h=>by omega)).trans' C (fun _ _ h=>h)).trans' E (fun _ _ h=>h)
 exact ⟨⟨⟨.slice (ee a cp 1 2) rest.length (cp - 1),vs,vn⟩,j.cW (R':=⟨.slice (ee a cp 1 2) rest.length (cp - 1),vs,vn⟩) s hB6 rfl (j.rws.k4 (m:=2) ((A9 _).trans (by have :=j.rt.1; simp at this; simp [this]))) (eL.tl j.rt)⟩,hq2.md s (dM hcl (by decide)),s⟩
theorem tV (B:Nat) (H:bO) (F:aI) (R:eI) (rows:List Rw) (ln:Nat) (seen:List Tx) (hd:List Tx) (aa j:Nat) (A:Option Addr) (C:Nat) (w:World) (G:bU w B H F R rows ln seen) (ai:Tg w aa 9 j (.slice A j C) (hd.map str)) (I:hd.length=j) (aD:j≤1000) (hrow:∀ q∈rows,q.2.length≤70000):
 dO Tryz.prog 98 (List.toArray [.pointer (some ⟨H.rb,0,none⟩),.slice A j C]) w (fun v w'=> ∃ n r rest,rows=(n,r)::rest∧r.take hd.length=hd∧(∃ R',bU w' B H F R' rest n seen)∧Tg w' B 9 r.length v (r.map str)∧Md (fun k=>k=H.rb) w w') (fun c w'=>((rows= []∧c=fL 25 H.eof 116)∨(∃ n r rest,rows=(n,r)::rest∧r.take hd.length≠hd∧c=fL 25 n 116))∧Md (fun k=>k=H.rb) w w'):=by
 obtain ⟨a,cp,hv⟩:=G.rws.slice
 have hcl:=G.cells
 have hcl0:=G.cells
 unfold oU at hcl
 rw [hv] at hcl
 refine gy Tryz.func98 rfl Tryz.ntmps98 rfl ?_
 refine sq (fun ax aj=>rg rfl (p ak (nl (tn (aj _ _ (sq (fun ay al=>sq (fun aA am=>rg rfl ?_))))))))
 refine p (aC (.pointer (some ⟨H.rb,0,none⟩)) rfl) (p (nc rfl) (p (fa oE rfl) (p (ld m9 rfl ((aQ hcl).trans rfl)) (p (ba rF rfl rfl) (p (bf rfl rfl) (nl (tn (am _ _ ?_))))))))
 refine cd rfl (fun Y=> ?_) (fun Y=> ?_)
 obtain rfl :rows= []:=List.eq_nil_of_length_eq_zero (by omega)
 refine sq (fun ab J=>rg rfl (p (aC (.pointer (some ⟨H.rb,0,none⟩)) rfl) (p (aC (.pointer (some ⟨H.rb,0,none⟩)) rfl) (p (nc rfl) (p (fa Ha rfl) (p (ld bT rfl ((aQ hcl0).trans rfl)) (p (nc rfl) ?_)))))))
 refine p (fa oF rfl) (e (cj fV rfl rfl (v:= .int .i64 (H.eof:Nat)) rfl hcl0 (by show _ < 7; decide) fun w6 an hB6=>nl (tn (J _ _ (rg rfl (p (aC (.pointer (some ⟨H.rb,0,none⟩)) rfl) (eP rfl (cz kt (kG H.rb H.eof 116 w6 ((aQ hB6).trans rfl)) rfl fun v20 w20 ao=> ?_) (fun c w' i Z hF=>⟨.inl ⟨rfl,i.1⟩,i.2.2 ▸ an⟩))))))))
 exact absurd ao.2.1 (by decide)
 obtain ⟨q,rest,rfl⟩:∃ q rest,rows=q::rest:=by
  cases rows with
  | nil=>exact absurd rfl Y
  | cons q rest=>exact ⟨q,rest,rfl⟩
 obtain ⟨n,r⟩:=q
 refine az (tn (al _ _ (sq (fun ab J=>rg rfl (p (aC (.pointer (some ⟨H.rb,0,none⟩)) rfl) (e (cl xC (BK B H F R n r rest ln seen _ G) rfl fun aF av ap=> ?_)))))))
 obtain ⟨⟨ae,hR2⟩,hT,E⟩:=ap
 obtain ⟨ag,ah,rfl⟩:=hT.slice
 have hTc:=hT.bH
 have hrl:r.length≤70000:=hrow (n,r) (by simp)
 have hH2:=ai.md E (dM hcl0 (by decide))
 have hHc:=hH2.bH
 have hln2:=hR2.bM
 refine p ak (nl (tn (J _ _ (sq (fun aB V=>rg rfl (p (aC (.pointer (some ⟨H.rb,0,none⟩)) rfl) (p mv (p (ba dx rfl rfl) ?_))))))))
 refine p (aC (.slice A j C) rfl) (p (ba dx rfl rfl) (p (ge rfl rfl) (p mv (gs (t:=29) rfl (fun ar=> ?_) (fun ar=> ?_)))))
 refine pg rfl rfl rfl mv (pg rfl rfl rfl (aC (.slice A j C) rfl) (pg rfl rfl rfl (ba dx rfl rfl) (pg rfl rfl rfl (oY bE rfl rfl (by omega)) (pg rfl rfl rfl (aC (.slice A j C) rfl) (eg rfl rfl rfl (cl Dl (Gx (r.take j) hd _ _ ag A ah C _ (by have :=aw.take hTc.2 j; unfold bu; rw [List.map_take]; exact this) hHc.2 (by rw [List.length_take]; omega) I (by omega)) rfl fun aG w35 aq=> ?_))))))
 obtain ⟨rfl,s⟩:=aq
 refine p (bg rfl) (eP rfl (cz eZ (e9 H.rb n _ 116 w35 (by first | exact hR2.bM | exact Wk.aE s hR2.bM) (by decide)) rfl fun au w37 O=> ?_) (fun c w' i Z hF=>⟨.inr ⟨n,r,rest,rfl,(by rw [I]; first | exact of_decide_eq_false i.2.1 | exact fun h=>by have :=congrArg List.length h; rw [List.length_take] at this; omega),i.1⟩,(by rw [i.2.2]; first | exact E.trans' s (fun _ _ h=>h.elim) | exact E)⟩))
 obtain ⟨rfl,U,rfl⟩:=O
 refine nl (tn (V _ _ (sq (fun ac M=>rg rfl (p mv (p ak (nl (tn (M _ _ ?_)))))))))
 refine rt (gh ?_)
 exact f1 rfl rfl (⟨n,r,rest,rfl,(by rw [I]; exact of_decide_eq_true U),⟨ae,hR2.wk s⟩,hT.wk s,E.trans' s (fun _ _ h=>h.elim)⟩)
 refine sk rfl rfl rfl rfl (sk rfl rfl rfl rfl (sk rfl rfl rfl rfl (sk rfl rfl rfl rfl (sk rfl rfl rfl rfl (sk rfl rfl rfl rfl (p (a5 rfl) (eP rfl (cz eZ (e9 H.rb n _ 116 av (by first | exact hR2.bM | exact Wk.aE s hR2.bM) (by decide)) rfl fun au w37 O=> ?_) (fun c w' i Z hF=>⟨.inr ⟨n,r,rest,rfl,(by rw [I]; first | exact of_decide_eq_false i.2.1 | exact fun h=>by have :=congrArg List.length h; rw [List.length_take] at this; omega),i.1⟩,(by rw [i.2.2]; first | exact E.trans' s (fun _ _ h=>h.elim) | exact E)⟩))))))))
 obtain ⟨rfl,U,rfl⟩:=O
 refine nl (tn (V _ _ (sq (fun ac M=>rg rfl (p mv (p ak (nl (tn (M _ _ ?_)))))))))
 refine rt (gh ?_)
 exact f1 rfl rfl (absurd U (by decide))
theorem q5 (rb ln:Nat) (s:Tx) (most:Int) (w:World) (hln:Hb.aE w.heap rb 2=some (.int .i64 (ln:Nat))) (hs:s.length≤1048576) (hm: -9223372036854775808≤most∧most≤9223372036854775807):
 dO Tryz.prog 97 (List.toArray [.pointer (some ⟨rb,0,none⟩),str s,.int .i64 most]) w (fun v w'=> ∃ a,dy s most= .ok a∧v= .int .i64 (a:Nat)∧Wk w w') (fun c w'=> ∃ e,dy s most= .error e∧c=fL 25 ln e∧Wk w w'):=by
 refine gy Tryz.func97 rfl Tryz.ntmps97 rfl ?_
 refine sq (fun J j=>rg rfl (p ak (nl (tn (j _ _ (sq (fun M q=>rg rfl (p (aC (str s) rfl) ?_))))))))
 refine p (aC (.int .i64 most) rfl) (e (cl pS (qV s most _ hs hm) rfl fun cC w12 E=> ?_))
 obtain ⟨rfl,hE12⟩:=E
 refine p mv (p (xt rfl rfl) (p (xt rfl rfl) (p ak (p ak (nl (tn (q _ _ (sq (fun O A=> ?_)))))))))
 refine rg rfl (p (aC (.pointer (some ⟨rb,0,none⟩)) rfl) (p mv (eP rfl (cz kt (kG rb ln (cJ s most).2 w12 (Wk.aE hE12 hln)) rfl fun V w17 G=> ?_) (fun c w' i Y hF=>⟨13,(lk i.2.1).1,(by rw [i.1,(lk i.2.1).2]; rfl),(by rw [i.2.2]; exact hE12)⟩))))
 obtain ⟨rfl,I,rfl⟩:=G
 refine nl (tn (A _ _ (sq (fun U C=>rg rfl (p mv (p ak (nl (tn (C _ _ ?_)))))))))
 refine rt (gh ?_)
 exact f1 rfl rfl (⟨_,j9 I,rfl,hE12⟩)
theorem uK (rb ln:Nat) (s:Tx) (w:World) (hln:Hb.aE w.heap rb 2=some (.int .i64 (ln:Nat))) (hs:s.length≤1048576):
 dO Tryz.prog 94 (List.toArray [.pointer (some ⟨rb,0,none⟩),str s]) w (fun v w'=>v= .tuple #[]∧ei s=true∧Wk w w') (fun c w'=>c=fL 25 ln 21∧ei s=false∧Wk w w'):=by
 refine gy Tryz.func94 rfl Tryz.ntmps94 rfl ?_
 refine sq (fun ag M=>rg rfl (p (aC (str s) rfl) (p (bK u9 rfl rfl) (p mv (nl (tn (M _ _ (aA ?_))))))))
 refine lp (fun E a wI=> ∃ (i:Nat),(i≤s.length)∧(∀ j,j < i→fq (s.getD j 0)=true)∧(Wk w wI)∧(a 0= .pointer (some ⟨rb,0,none⟩))∧(a 1=str s)∧(a 6= .int .i64 (s.length:Nat))∧(a 7= .int .i64 (i:Nat))∧(s.length - i=E)) _ ⟨0,(by omega),((fun j G=>by omega)),(Md.refl _ _),rfl,rfl,rfl,rfl,rfl⟩ ?_
 rintro E a wI ⟨i,hi,I,q,aa,ab,ac,ae,rfl⟩
 refine fx 0 aa (fx 1 ab (fx 6 ac (fx 7 ae (sq (fun ah O=>rg rfl (p (lt rfl rfl) (nl (tn (O _ _ (sq (fun ai U=>cd rfl (fun hc8=> ?_) (fun hc8=> ?_))))))))))))
 refine az (tn (U _ _ (sq (fun aj V=>aA (sq (fun ak Y=>rg rfl (p (aC (.int .i64 (i:Nat)) rfl) (p (bF (.int .i64 (i:Nat)) rfl) ?_))))))))
 refine nl (tn (Y _ _ (rg rfl (p (aC (.pointer (some ⟨rb,0,none⟩)) rfl) (p (aC (str s) rfl) (p (aC (.int .i64 (i:Nat)) rfl) (p (aC (.int .i64 (i:Nat)) rfl) (p (bc ((i+1:Nat):Int) rfl rfl (aR (by omega) (by omega))) ?_))))))))
 refine p (iS u9 rfl rfl rfl (by omega)) (e (cl xI (B5 ((s.take (i+1)).drop i) _ (by rw [List.length_drop,List.length_take]; omega)) rfl fun al w16 hR16=> ?_))
 obtain ⟨rfl,A⟩:=hR16
 refine eP rfl (cz eZ (e9 rb ln _ 21 w16 (Wk.aE (q.trans A) hln) (by decide)) rfl fun am w17 Z=> ?_) (fun c w' C an hF=>⟨C.1,nf (i:=i) (by omega) (by have h:=C.2.1; rw [Bp (by omega :i < s.length),B3] at h; exact h),(by rw [C.2.2]; exact q.trans A)⟩)
 obtain ⟨rfl,J,rfl⟩:=Z
 rw [Bp (by omega :i < s.length),B3] at J
 refine nl (bn (tn (V _ _ (rg rfl (p (ad rfl rfl (bm (by omega))) (p mv (nl (tn ?_))))))))
 exact ⟨_,by omega,i+1,(by omega),((fun j G=>by rcases Nat.lt_or_ge j i with h | h <;> first | exact I j h | (rw [show j=i by omega]; exact J))),(q.trans A),rfl,rfl,rfl,rfl,rfl⟩
 refine ext (te _ (te _ (be (gh ?_))))
 refine f0 rfl ?_
 exact ⟨rfl,oe (fun j G=>I j (by omega)),q⟩
theorem AT (rb ln:Nat) (s:Tx) (w:World) (hln:Hb.aE w.heap rb 2=some (.int .i64 (ln:Nat))) (hs:s.length≤1048576):
 dO Tryz.prog 116 (List.toArray [.pointer (some ⟨rb,0,none⟩),str s]) w (fun v w'=>v=str s∧e6 s=0∧Wk w w') (fun c w'=>c=fL 25 ln (e6 s:Nat)∧e6 s≠0∧Wk w w'):=by
 refine gy Tryz.func116 rfl Tryz.ntmps116 rfl ?_
 refine sq (fun J A=>rg rfl (p ak (nl (tn (A _ _ (sq (fun M C=>rg rfl (p (aC (.pointer (some ⟨rb,0,none⟩)) rfl) ?_))))))))
 refine p (aC (str s) rfl) (eP rfl (cz sF (uK rb ln s w hln hs) rfl fun Z w7 hR7=> ?_) (fun c w' a q hF=>by have h:e6 s=21:=qn (.inr a.2.1); exact ⟨by rw [h]; exact a.1,by rw [h]; decide,a.2.2⟩))
 obtain ⟨rfl,j,hE7⟩:=hR7
 refine nl (tn (C _ _ (sq (fun O E=>rg rfl (p (aC (.pointer (some ⟨rb,0,none⟩)) rfl) (p (aC (str s) rfl) (p (j8 rfl rfl) (eP rfl (cz eZ (e9 rb ln _ 21 w7 (Wk.aE hE7 hln) (by decide)) rfl fun v11 w11 hR11=> ?_) (fun c w' a q hF=>by have h:e6 s=21:=qn (.inl (Classical.not_not.1 (of_decide_eq_false a.2.1))); exact ⟨by rw [h]; exact a.1,by rw [h]; decide,by rw [a.2.2]; exact hE7⟩)))))))))
 obtain ⟨rfl,i,rfl⟩:=hR11
 have i:s≠[]:=of_decide_eq_true i
 refine nl (tn (E _ _ (sq (fun U G=>rg rfl (p (aC (.pointer (some ⟨rb,0,none⟩)) rfl) (p (aC (str s) rfl) (p (bK u9 rfl rfl) (p (le rfl rfl) ?_))))))))
 refine eP rfl (cz eZ (e9 rb ln _ 22 w11 (Wk.aE hE7 hln) (by decide)) rfl fun Y w16 hR16=> ?_) (fun c w' a q hF=>by have h0:=of_decide_eq_false a.2.1; have h:e6 s=22:=yS i j (by omega); exact ⟨by rw [h]; exact a.1,by rw [h]; decide,by rw [a.2.2]; exact hE7⟩)
 obtain ⟨rfl,hx16,rfl⟩:=hR16
 have hx16:=of_decide_eq_true hx16
 refine nl (tn (G _ _ (sq (fun V I=>rg rfl (p (aC (str s) rfl) (p (bF (str s) rfl) (nl (tn (I _ _ ?_)))))))))
 refine rt (gh ?_)
 exact f1 rfl rfl (⟨rfl,yT i j (by omega),hE7⟩)
theorem AL (rb ln:Nat) (s:Tx) (w:World) (hln:Hb.aE w.heap rb 2=some (.int .i64 (ln:Nat))) (hs:s.length≤1048576):
 dO Tryz.prog 99 (List.toArray [.pointer (some ⟨rb,0,none⟩),str s]) w (fun v w'=> ∃ a,dq false s= .ok a∧v=str a∧Wk w w') (fun c w'=> ∃ e,dq false s= .error e∧c=fL 25 ln e∧Wk w w'):=by
 refine gy Tryz.func99 rfl Tryz.ntmps99 rfl ?_
 refine sq (fun aa E=>rg rfl (p ak (nl (tn (E _ _ (sq (fun ab G=>rg rfl (p (aC (str s) rfl) ?_))))))))
 refine e (cl sA (vE s _ hs) rfl fun v11 w11 hR11=> ?_)
 obtain ⟨rfl,j⟩:=hR11
 have hwl:=mV s
 refine p mv (p (xt rfl rfl) (p (xt rfl rfl) (p (xt rfl rfl) (p (xt rfl rfl) (p ak (p ak (p ak ?_)))))))
 refine p ak (nl (tn (G _ _ (sq (fun ac I=>rg rfl (p (aC (.pointer (some ⟨rb,0,none⟩)) rfl) (p mv (eP rfl (cz kt (kG rb ln ((aW s).2.2.2:Nat) w11 (Wk.aE j hln)) rfl fun ah w18 O=> ?_) (fun c w' i C hF=>⟨_,uF (by have :=i.2.1; omega),i.1,by rw [i.2.2]; exact j⟩)))))))))
 obtain ⟨rfl,q,rfl⟩:=O
 have q:(aW s).2.2.2=0:=by omega
 refine nl (tn (I _ _ (sq (fun ae J=>rg rfl (p (aC (.pointer (some ⟨rb,0,none⟩)) rfl) (p mv (p (no rfl) (eP rfl (cz eZ (e9 rb ln _ 114 w18 (Wk.aE j hln) (by decide)) rfl fun ai Z U=> ?_) (fun c w' i C hF=>⟨_,uG q (by simpa using i.2.1),i.1,by rw [i.2.2]; exact j⟩)))))))))
 obtain ⟨rfl,A,rfl⟩:=U
 have A:(aW s).2.2.1=false :=by simpa using A
 refine nl (tn (J _ _ (sq (fun ag M=>rg rfl (p (aC (.pointer (some ⟨rb,0,none⟩)) rfl) (p mv (eP rfl (cz xg (AT rb ln (aW s).1 Z (Wk.aE j hln) (by omega)) rfl fun aj w25 V=> ?_) (fun c w' i C hF=>⟨_,uH q A i.2.1,i.1,j.trans i.2.2⟩))))))))
 obtain ⟨rfl,Y,hE25⟩:=V
 refine p ak (nl (tn (M _ _ (rt (gh ?_)))))
 exact f1 rfl rfl (⟨_,uI q A Y,rfl,j.trans hE25⟩)
theorem AI (rb ln:Nat) (s:Tx) (w:World) (hln:Hb.aE w.heap rb 2=some (.int .i64 (ln:Nat))) (hs:s.length≤1048576):
 dO Tryz.prog 100 (List.toArray [.pointer (some ⟨rb,0,none⟩),str s]) w (fun v w'=> ∃ a,dq true s= .ok a∧v=str a∧Wk w w') (fun c w'=> ∃ e,dq true s= .error e∧c=fL 25 ln e∧Wk w w'):=by
 refine gy Tryz.func100 rfl Tryz.ntmps100 rfl ?_
 refine sq (fun I A=>rg rfl (p ak (nl (tn (A _ _ (sq (fun J C=>sq (fun M E=>rg rfl ?_))))))))
 refine p (aC (str s) rfl) (p (cI rfl rfl) (nl (tn (E _ _ (cd rfl (fun hc6=> ?_) (fun hc6=> ?_))))))
 refine sq (fun j i=>rg rfl (p ak (nl (tn (i _ _ (rt (tr (gh ?_))))))))
 exact f1 rfl rfl (⟨[],AK hc6,rfl,Md.refl _ _⟩)
 refine az (tn (C _ _ (sq (fun j i=>rg rfl (p (aC (.pointer (some ⟨rb,0,none⟩)) rfl) (p (aC (str s) rfl) (eP rfl (cz xO (AL rb ln s w hln hs) rfl fun v9 w9 hR9=> ?_) (fun c w' G O hF=>by obtain ⟨e,he,h⟩:=G; exact ⟨e,by rw [uJ hc6]; exact he,h⟩))))))))
 obtain ⟨a,ha,rfl,q⟩:=hR9
 refine p ak (nl (tn (i _ _ (rt (gh ?_)))))
 exact f1 rfl rfl (⟨a,by rw [uJ hc6]; exact ha,rfl,q⟩)
end Go.Hb.fH
end
