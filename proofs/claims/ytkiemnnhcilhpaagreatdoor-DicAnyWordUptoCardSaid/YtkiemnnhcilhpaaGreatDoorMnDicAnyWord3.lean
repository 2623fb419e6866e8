/-
  Walks and plain laws that the law rests on, laid together. No conditions but those that each theorem names.
-/
import Derived.Test.YtkiemnnhcilhpaaGreatDoorMnDicAnyWord2
set_option linter.unusedVariables false
section
set_option maxRecDepth 20000
set_option maxHeartbeats 1000000
namespace Go.Hb.mR
open Go.Hb.cJ
open Go.Proofs
open Go.Hb.kg
theorem F8 {n:Nat} {l:List UInt8} (h:n < 256) (hl:∀ k:Fin 256,(l.getD k.val 0).toNat=fC k.val):IntKind.i64.wrap ((l.getD n 0).toNat:Int)=(fC n:Int):=by
 rw [hl ⟨n,h⟩]; have :=nJ h; exact bp (by simp only; omega)
theorem Ff {k:Nat} (h:k≤8):IntKind.u64.wrap ((1:Int)*2 ^ min ((k:Nat):Int).toNat IntKind.u64.bits)=((2 ^ k:Nat):Int):=by
 have h2:(IntKind.u64.bits:Nat)=64:=rfl
 rw [Int.toNat_natCast,h2,Nat.min_eq_left (by omega),Int.one_mul]
 have h3:(2:Nat) ^ k≤2 ^ 8:=Nat.pow_le_pow_right (by decide) h
 have h4:((2:Int) ^ k)=((2 ^ k:Nat):Int):=by simp
 rw [h4]
 obtain ⟨m,hm⟩:∃ m:Nat,2 ^ k=m:=⟨_,rfl⟩
 rw [hm] at h3 ⊢; exact ji (by omega)
theorem Ed {d d1 d2:Array Nat} {a b i j:Nat} (h:Go.Sort.PermIn a b d d1) (hi:a≤i∧i < b) (hj:a≤j∧j < b) (hb:b≤d1.size) (h2:d2=Go.Sort.swp d1 i j):Go.Sort.PermIn a b d d2:=by
 subst h2; exact Go.Sort.permIn_trans _ _ _ a b h (Go.Sort.swp_permIn d1 a b i j hi.1 hi.2 hj.1 hj.2 hb)
theorem qn (d:Array Nat) (i j s lo hi E:Nat) (B n cp:Nat) (C:Option Addr) (w:World) (c:w.ownsRow B 71 1 (.slice C n cp) n (LE az d)) (O:a9 w.heap E [U s]) (hbs:(Value.slice C n cp).ownBlock≠some E) (hr:lo≤i∧i < hi∧lo≤j∧j < hi∧hi≤n) (hs:s≤1000) (al:n≤1099511627776):
 aT Tryz.prog 186 (List.toArray [.slice C n cp,U i,U j,aU E]) w (fun v w'=> ∃ J M s1:Nat,v= .tuple #[U J,U M]∧(lo≤J∧J < hi)∧(lo≤M∧M < hi)∧s1≤s+1∧a9 w'.heap E [U s1]∧w'.ownsRow B 71 1 (.slice C n cp) n (LE az d)∧Md (fun q=>q=E) w w'):=by
 refine enter Tryz.func186 rfl Tryz.ntmps186 rfl ?_
 refine ab (fun _ Y=>(p aw (ag (((Y _ _ (sq (fun _ Z=>sq (fun _ aa=> ?_)))))))))
 have hdn:=cY c
 have a:(fun w'=>Wk w w') w.drew:=(Md.refl _ _).drew
 refine bF (fun w'=>Wk w w') rfl wide a (bm 0 rfl (.slice C n cp) a (bm 1 rfl (U j) a (aK 2 rfl (fun _ _=>aH aY rfl rfl (by omega) (ak.ok ((aB c).2) (a7 (by omega)))) a (aK 3 rfl (fun w' I=>ld ba rfl (bq (i:=j) ((aB c).2.wk I) (by omega))) a (bm 4 rfl (.slice C n cp) a (bm 5 rfl (U i) a (aK 6 rfl (fun _ _=>aH aY rfl rfl (by omega) (ak.ok ((aB c).2) (a7 (by omega)))) a ?_)))))))
 refine aK 7 rfl (fun w' I=>ld ba rfl (bq (i:=i) ((aB c).2.wk I) (by omega))) a (he 8 rfl (by kernel_rfl) (cl gn (gu d[j]! d[i]! _) rfl fun am w18 ai=> ?_))
 obtain ⟨rfl,ah⟩:=ai
 have A:(fun w'=>Wk w w') w18:=Md.trans a ah
 refine ⟨A,?_⟩
 refine hn (by kernel_rfl) (tn (aa _ _ (cb rfl (fun hc18=> ?_) (fun hc18=> ?_))))
 have hB18:=A.B O
 have hO18:=aE c A
 refine ab (fun _ G=>(ae (aU E) (p (nc rfl) (p (ld eu rfl (hB18.ay 0)) (p (a8 ((s+1:Nat):Int) rfl rfl (aI (by omega) (by omega))) (p (nc rfl) (e (st iR rfl rfl (rfl) (hB18) (by simp) fun wt2_5 V ad=> ?_))))))))
 refine aj ((G _ _ (ab (fun _ ac=>(ae (U j) (ae (U i) (p (bw (U j) rfl) (p (bw (U i) rfl) ?_))))))))
 exact aj ((ac _ _ (rt (tr (f2 rfl rfl rfl (⟨j,i,s+1,rfl,by omega,by omega,by omega,ad,bA hO18 V (fun k hk h=>hbs (h ▸ hk)),Md.trans (A.mono (fun _ _ h=>h.elim)) V⟩))))))
 refine aA (tn (Z _ _ (ab (fun _ G=>(ae (U i) (ae (U j) (p (bw (U i) rfl) (p (bw (U j) rfl) ?_))))))))
 exact aj ((G _ _ (rt (f2 rfl rfl rfl (⟨i,j,s,rfl,by omega,by omega,by omega,A.B O,aE c A,A.mono (fun _ _ h=>h.elim)⟩)))))
theorem uB (d:Array Nat) (i j k s lo hi a:Nat) (B n cp:Nat) (c:Option Addr) (w:World) (ac:w.ownsRow B 71 1 (.slice c n cp) n (LE az d)) (O:a9 w.heap a [U s]) (hbs:(Value.slice c n cp).ownBlock≠some a) (hr:(lo≤i∧i < hi)∧(lo≤j∧j < hi)∧(lo≤k∧k < hi)∧hi≤n) (hs:s≤900) (A:n≤1099511627776):
 aT Tryz.prog 179 (List.toArray [.slice c n cp,U i,U j,U k,aU a]) w (fun v w'=> ∃ C s1:Nat,v=U C∧(lo≤C∧C < hi)∧s1≤s+3∧a9 w'.heap a [U s1]∧w'.ownsRow B 71 1 (.slice c n cp) n (LE az d)∧Md (fun q=>q=a) w w'):=by
 refine enter Tryz.func179 rfl Tryz.ntmps179 rfl ?_
 refine ab (fun _ E=>(ag (((E _ _ (ab (fun _ G=>(ae (.slice c n cp) ?_))))))))
 refine ae (U i) (ae (U j) (ae (aU a) (e (cl oS (qn d i j s lo hi a B n cp c _ ac O hbs (by omega) (by omega) A) rfl fun aD w16 aj=> ?_))))
 obtain ⟨i1,an,s1,rfl,ar,av,hs1,hB1,ad,Y⟩:=aj
 refine p mv (p (xt rfl rfl) (p (xt rfl rfl) (p aw (ag (((G _ _ (sq (fun _ I=> ?_)))))))))
 refine rg rfl (ae (.slice c n cp) (p mv (ae (U k) (ae (aU a) (e (cl oS (qn d an k s1 lo hi a B n cp c _ ad hB1 hbs (by omega) (by omega) A) rfl fun aE aG ak=> ?_))))))
 obtain ⟨ao,aC,s2,rfl,ax,ay,aA,hB2,ah,Z⟩:=ak
 refine p mv (p (xt rfl rfl) (p (xt rfl rfl) (p aw (ag (((I _ _ (sq (fun _ J=> ?_)))))))))
 refine rg rfl (ae (.slice c n cp) (p mv (p mv (ae (aU a) (e (cl oS (qn d i1 ao s2 lo hi a B n cp c _ ah hB2 hbs (by omega) (by omega) A) rfl fun aF aH al=> ?_))))))
 obtain ⟨i3,ap,aq,rfl,au,am,aB,V,ai,aa⟩:=al
 refine p mv (p (xt rfl rfl) (p (xt rfl rfl) (p aw (ag (((J _ _ (sq (fun _ M=> ?_)))))))))
 exact rg rfl (p mv (ag (((M _ _ (rt (f1 rfl rfl (⟨ap,aq,rfl,am,by omega,V,ai,Md.trans Y (Md.trans Z aa)⟩))))))))
theorem p9 (d:Array Nat) (i s lo hi a:Nat) (B n cp:Nat) (c:Option Addr) (w:World) (G:w.ownsRow B 71 1 (.slice c n cp) n (LE az d)) (E:a9 w.heap a [U s]) (hbs:(Value.slice c n cp).ownBlock≠some a) (hr:lo+1≤i∧i+1 < hi∧hi≤n) (hs:s≤900) (J:n≤1099511627776):
 aT Tryz.prog 178 (List.toArray [.slice c n cp,U i,aU a]) w (fun v w'=> ∃ j s1:Nat,v=U j∧(lo≤j∧j < hi)∧s1≤s+3∧a9 w'.heap a [U s1]∧w'.ownsRow B 71 1 (.slice c n cp) n (LE az d)∧Md (fun q=>q=a) w w'):=by
 refine enter Tryz.func178 rfl Tryz.ntmps178 rfl ?_
 refine ab (fun _ A=>(ag (((A _ _ (ab (fun _ C=>(ae (.slice c n cp) ?_))))))))
 refine ae (U i) (p (bK ((i - 1:Nat):Int) rfl rfl (aI (by omega) (by omega))) (ae (U i) (ae (U i) (p (a8 ((i+1:Nat):Int) rfl rfl (aI (by omega) (by omega))) (ae (aU a) (e (cl rZ (uB d (i - 1) i (i+1) s lo hi a B n cp c _ G E hbs (by omega) (by omega) J) rfl fun M w14 I=>p aw ?_)))))))
 exact aj ((C _ _ (rt (f1 rfl rfl (I)))))
theorem zf (d:Array Nat) (a b:Nat) (B n cp:Nat) (c:Option Addr) (w:World) (aa:w.ownsRow B 71 1 (.slice c n cp) n (LE az d)) (a7:a+12 < b∧b≤n) (C:n≤1099511627776):
 aT Tryz.prog 159 (List.toArray [.slice c n cp,U a,U b]) w (fun v w'=> ∃ (Y:Nat) (hv:Int),v= .tuple #[U Y,.int .i64 hv]∧(a≤Y∧Y < b)∧w'.ownsRow B 71 1 (.slice c n cp) n (LE az d)∧Wk w w'):=by
 refine enter Tryz.func159 rfl Tryz.ntmps159 rfl ?_
 refine ab (fun _ ac=>(p aw (ag (((ac _ _ (ab (fun _ ad=> ?_))))))))
 refine ae (U b) (ae (U a) (p (bK ((b - a:Nat):Int) rfl rfl (aI (by omega) (by omega))) (ag (((ad _ _ (ab (fun _ ah=> ?_))))))))
 refine e (al GG fun b9 w9 hb9 M Z=> ?_)
 have hO9:=aE aa M.md
 have hbs:(Value.slice c n cp).ownBlock≠some b9:=fun h=>by have :=cU aa h; omega
 refine aj ((ah _ _ (ab (fun _ ai=>(ae (U a) (p mv (p (jG (((b - a) / 4:Nat):Int) rfl rfl (by omega) (aI (by omega) (by omega))) (p (kB (((b - a) / 4:Nat):Int) rfl rfl (aI (by omega) (by omega))) ?_))))))))
 refine p (a8 ((a+(b - a) / 4:Nat):Int) rfl rfl (aI (by omega) (by omega))) (ag (((ai _ _ (ab (fun _ ak=>(ae (U a) (p mv ?_))))))))
 refine p (jG (((b - a) / 4:Nat):Int) rfl rfl (by omega) (aI (by omega) (by omega))) (p (kB (((b - a) / 4 *2:Nat):Int) rfl rfl (aI (by omega) (by omega))) (p (a8 ((a+(b - a) / 4 *2:Nat):Int) rfl rfl (aI (by omega) (by omega))) (ag (((ak _ _ (ab (fun _ am=> ?_))))))))
 refine ae (U a) (p mv (p (jG (((b - a) / 4:Nat):Int) rfl rfl (by omega) (aI (by omega) (by omega))) (p (kB (((b - a) / 4 *3:Nat):Int) rfl rfl (aI (by omega) (by omega))) (p (a8 ((a+(b - a) / 4 *3:Nat):Int) rfl rfl (aI (by omega) (by omega))) (ag (((am _ _ ?_))))))))
 refine sq (fun _ an=>ab (fun _ ao=>(p mv (p (ge rfl rfl) (aj ((ao _ _ (cd rfl (fun ba=> ?_) (fun h=>absurd (by omega) h)))))))))
 refine dm (fun i wC=> ∃ (j q s E:Nat),(a≤j∧j < b)∧(a≤q∧q < b)∧(a≤s∧s < b)∧(E≤9)∧(a9 wC.heap b9 [U E])∧(wC.ownsRow B 71 1 (.slice c n cp) n (LE az d))∧(Wk w wC)∧(i 0= .slice c n cp)∧(i 1=U a)∧(i 2=U b)∧(i 8=U (b - a))∧(i 9=aU b9)∧(i 10=U j)∧(i 11=U q)∧(i 12=U s)) ?_ ?_
 refine ab (fun _ J=>(p mv (p (ge rfl rfl) (aj ((J _ _ (cd rfl (fun aO=> ?_) (fun aO=> ?_))))))))
 refine ab (fun _ G=>(ae (.slice c n cp) (p mv (e (cl oR (p9 d (a+(b - a) / 4) 0 a b b9 B n cp c _ hO9 Z hbs (by omega) (by omega) C) rfl fun bk w37 aK=> ?_)))))
 obtain ⟨i1,s1,rfl,aR,hs1,hB1,aF,ax⟩:=aK
 refine ag (((G _ _ (ab (fun _ A=>(ae (.slice c n cp) (p mv (e (cl oR (p9 d (a+(b - a) / 4 *2) s1 a b b9 B n cp c _ aF hB1 hbs (by omega) (by omega) C) rfl fun bl bp aL=> ?_)))))))))
 obtain ⟨a4,s2,rfl,aS,bf,hB2,aG,aB⟩:=aL
 refine ag (((A _ _ (rg rfl (ae (.slice c n cp) (p mv (e (cl oR (p9 d (a+(b - a) / 4 *3) s2 a b b9 B n cp c _ aG hB2 hbs (by omega) (by omega) C) rfl fun bm w43 aM=> ?_))))))))
 obtain ⟨a5,a6,rfl,aV,bg,ap,aH,aC⟩:=aM
 exact ag (((⟨i1,a4,a5,a6,aR,aS,aV,(by omega),ap,aH,(Md.trans' M.md (Md.trans ax (Md.trans aB aC)) (fun k hk h=>by omega)),rfl,rfl,rfl,rfl,rfl,rfl,rfl,rfl⟩)))
 exact aA (tn (⟨a+(b - a) / 4,a+(b - a) / 4 *2,a+(b - a) / 4 *3,0,(by omega),(by omega),(by omega),(by omega),Z,hO9,M.md,rfl,rfl,rfl,rfl,rfl,rfl,rfl,rfl⟩))
 rintro i wC ⟨j,q,s,E,bb,bc,bd,bi,ar,aJ,av,aW,aX,a1,a2,a3,aY,aZ,a0⟩
 refine fx 0 aW (fx 1 aX (fx 2 a1 (fx 8 a2 (fx 9 a3 (fx 10 aY (fx 11 aZ (fx 12 a0 (rg rfl (ae (.slice c n cp) (ae (U j) (ae (U q) (ae (U s) (e (cl rZ (uB d j q s E a b b9 B n cp c _ aJ ar hbs (by omega) (by omega) C) rfl fun bn w48 aN=> ?_))))))))))))))
 obtain ⟨q1,bj,rfl,V,bh,aq,O,aD⟩:=aN
 have hE4:Wk w w48:=Md.trans' av aD (fun k hk h=>by omega)
 refine ag (((an _ _ (ab (fun _ J=>(p (ld eu rfl (aq.ay 0)) (aj ((J _ _ ?_)))))))))
 refine au (ab (fun _ G=>(p (bo rfl rfl) (ag (((G _ _ (cd rfl (fun aP=> ?_) (fun aP=> ?_)))))))))
 refine ab (fun _ A=>(p mv (p aw (ag (((A _ _ (rt ?_))))))))
 exact br (f2 rfl rfl rfl (⟨q1,_,rfl,V,O,hE4⟩))
 refine ab (fun _ A=>(p (bo rfl rfl) (ag (((A _ _ (cd rfl (fun aQ=> ?_) (fun aQ=> ?_))))))))
 refine ab (fun _ I=>(p mv (p aw (ag (((I _ _ (rt ?_))))))))
 exact br (f2 rfl rfl rfl (⟨q1,_,rfl,V,O,hE4⟩))
 refine ab (fun _ I=>(p mv (p aw (ag (((I _ _ (rt ?_))))))))
 exact br (f2 rfl rfl rfl (⟨q1,_,rfl,V,O,hE4⟩))
theorem DH (a:Nat) (r:Int) (w:World) (C:a9 w.heap a [.int .u64 r]):
 aT Tryz.prog 177 (List.toArray [aU a]) w (fun v w'=> ∃ A:Int,v= .int .u64 A∧0≤A∧A < 18446744073709551616∧a9 w'.heap a [.int .u64 A]∧Md (fun q=>q=a) w w'):=by
 refine enter Tryz.func177 rfl Tryz.ntmps177 rfl ?_
 refine ab (fun _ O=>(ag (((O _ _ (sq (fun _ U=> ?_)))))))
 have i:(fun w'=>Wk w w') w.drew:=(Md.refl _ _).drew
 refine da (fun w'=>Wk w w') 9 rfl wide i (lq 0 rfl (by kernel_rfl) (fun _ _=>ao (aU a) rfl) i (lq 1 rfl (by kernel_rfl) (fun _ _=>nc rfl) i (lq 2 rfl (by kernel_rfl) (fun w' c=>ld kh rfl (Wk.ay c (C.ay 0))) i (lq 3 rfl (by kernel_rfl) (fun _ _=>ao (aU a) rfl) i (lq 4 rfl (by kernel_rfl) (fun _ _=>nc rfl) i (lq 5 rfl (by kernel_rfl) (fun w' c=>ld kh rfl (Wk.ay c (C.ay 0))) i (lq 6 rfl (by kernel_rfl) (fun _ _=>shl rfl rfl (by decide) rfl) i ?_)))))))
 refine lq 7 rfl (by kernel_rfl) (fun _ _=>oM rfl rfl rfl) i (lq 8 rfl (by kernel_rfl) (fun _ _=>nc rfl) i (bJ 9 rfl (by kernel_rfl) (by kernel_rfl) (st nn rfl rfl (rfl) (i.B C) (by simp) fun I aa E=> ?_)))
 refine c9 (by kernel_rfl) ?_
 refine tn (U _ _ (sq (fun _ V=> ?_)))
 have j:(fun w'=>Wk I w') I.drew:=(Md.refl _ _).drew
 refine da (fun w'=>Wk I w') 9 rfl wide j (lq 0 rfl (by kernel_rfl) (fun _ _=>ao (aU a) rfl) j (lq 1 rfl (by kernel_rfl) (fun _ _=>nc rfl) j (lq 2 rfl (by kernel_rfl) (fun w' c=>ld kh rfl (Wk.ay c (E.ay 0))) j (lq 3 rfl (by kernel_rfl) (fun _ _=>ao (aU a) rfl) j (lq 4 rfl (by kernel_rfl) (fun _ _=>nc rfl) j (lq 5 rfl (by kernel_rfl) (fun w' c=>ld kh rfl (Wk.ay c (E.ay 0))) j (lq 6 rfl (by kernel_rfl) (fun _ _=>shr rfl rfl (by decide) rfl) j ?_)))))))
 refine lq 7 rfl (by kernel_rfl) (fun _ _=>oM rfl rfl rfl) j (lq 8 rfl (by kernel_rfl) (fun _ _=>nc rfl) j (bJ 9 rfl (by kernel_rfl) (by kernel_rfl) (st nn rfl rfl (rfl) (j.B E) (by simp) fun J ac G=> ?_)))
 refine c9 (by kernel_rfl) ?_
 refine tn (V _ _ (sq (fun _ Y=> ?_)))
 have s:(fun w'=>Wk J w') J.drew:=(Md.refl _ _).drew
 refine da (fun w'=>Wk J w') 9 rfl wide s (lq 0 rfl (by kernel_rfl) (fun _ _=>ao (aU a) rfl) s (lq 1 rfl (by kernel_rfl) (fun _ _=>nc rfl) s (lq 2 rfl (by kernel_rfl) (fun w' c=>ld kh rfl (Wk.ay c (G.ay 0))) s (lq 3 rfl (by kernel_rfl) (fun _ _=>ao (aU a) rfl) s (lq 4 rfl (by kernel_rfl) (fun _ _=>nc rfl) s (lq 5 rfl (by kernel_rfl) (fun w' c=>ld kh rfl (Wk.ay c (G.ay 0))) s (lq 6 rfl (by kernel_rfl) (fun _ _=>shl rfl rfl (by decide) rfl) s ?_)))))))
 refine lq 7 rfl (by kernel_rfl) (fun _ _=>oM rfl rfl rfl) s (lq 8 rfl (by kernel_rfl) (fun _ _=>nc rfl) s (bJ 9 rfl (by kernel_rfl) (by kernel_rfl) (st nn rfl rfl (rfl) (s.B G) (by simp) fun ah ad M=> ?_)))
 refine c9 (by kernel_rfl) ?_
 refine tn (Y _ _ (ab (fun _ Z=>(ae (aU a) (p (nc rfl) (p (ld kh rfl (M.ay 0)) (p aw (nl ?_))))))))
 refine tn (Z _ _ (rt (f1 rfl rfl ?_)))
 refine ⟨_,rfl,(vS _).1,(vS _).2,M,?_⟩
 exact Md.trans (Md.refl _ _).drew (Md.trans aa (Md.trans (Md.refl _ _).drew (Md.trans ac (Md.trans (Md.refl _ _).drew ad))))
theorem C8 (n:Nat) (w:World) (hn:n < 256):
 aT Tryz.prog 166 (List.toArray [.int .u64 (n:Nat)]) w (fun v w'=>v=U (fC n)∧Wk w w'):=by
 have hll:=nJ hn
 refine enter Tryz.func166 rfl Tryz.ntmps166 rfl ?_
 refine ab (fun _ a=>(ag (((a _ _ (sq (fun _ c=>ab (fun _ i=> ?_))))))))
 refine ae (.int .u64 (n:Nat)) (p (ge rfl rfl) (aj ((i _ _ (cd rfl (fun h=>absurd h (by omega)) (fun G=> ?_))))))
 refine aA (tn (c _ _ (sq (fun _ j=>ab (fun _ q=>(ae (.int .u64 (n:Nat)) (p (ge rfl rfl) (nl ?_))))))))
 refine tn (q _ _ (cd rfl (fun h=>absurd h (by omega)) (fun hc8=> ?_)))
 refine aA (tn (j _ _ (sq (fun _ s=>ab (fun _ A=>(ae (.int .u64 (n:Nat)) (p (ge rfl rfl) (nl ?_))))))))
 refine tn (A _ _ (cd rfl (fun h=>absurd h (by omega)) (fun E=> ?_)))
 refine aA (tn (s _ _ (ab (fun _ C=>(ae (.int .i64 0) (ae (.int .u64 (n:Nat)) (p (o6 u5 Ge rfl (qP (by omega))) (p (eY u9 rfl rfl (by have :n < 256:=hn; simpa using this)) ?_))))))))
 exact p (ik u3 mH rfl (F8 hn (by decide+kernel))) (p (a8 ((fC n:Nat):Int) rfl rfl (aI (by omega) (by omega))) (ag (((C _ _ (rt (f1 rfl rfl (⟨rfl,Md.refl _ _⟩))))))))
theorem uo (n:Nat) (w:World) (hn:n < 256):
 aT Tryz.prog 139 (List.toArray [.int .u64 (n:Nat)]) w (fun v w'=>v=U (fC n)∧Wk w w'):=by
 refine enter Tryz.func139 rfl Tryz.ntmps139 rfl ?_
 refine ab (fun _ a=>(ag (((a _ _ (sq (fun _ c=>cf rfl (aA ?_))))))))
 refine tn (c _ _ (ab (fun _ i=>(ae (.int .u64 (n:Nat)) (e (cl yu (C8 n _ hn) rfl fun j w7 hR7=>ag (((i _ _ ?_)))))))))
 exact rt (f1 rfl rfl (hR7))
theorem DI (n:Nat) (w:World) (hn:n < 256):
 aT Tryz.prog 176 (List.toArray [U n]) w (fun v w'=>v= .int .u64 (2 ^ fC n:Nat)∧Wk w w'):=by
 refine enter Tryz.func176 rfl Tryz.ntmps176 rfl ?_
 refine ab (fun _ a=>(ag (((a _ _ (ab (fun _ c=>(ae (U n) ?_))))))))
 refine p (ik vR kK rfl (ji (by omega))) (e (cl rT (uo n _ hn) rfl fun i w5 hR5=> ?_))
 obtain ⟨rfl,hE5⟩:=hR5
 have hll:=nJ hn
 exact p (shl rfl rfl (by omega) (Ff hll)) (ag (((c _ _ (rt (f1 rfl rfl (⟨rfl,hE5⟩)))))))
theorem xN (d:Array Nat) (a b:Nat) (B n cp:Nat) (j:Option Addr) (w:World) (an:w.ownsRow B 71 1 (.slice j n cp) n (LE az d)) (bm:a+12 < b∧b≤n) (bs:n≤255):
 aT Tryz.prog 158 (List.toArray [.slice j n cp,U a,U b]) w (fun v w'=> ∃ d1,v= .tuple #[]∧Go.Sort.PermIn a b d d1∧w'.ownsRow B 71 1 (.slice j n cp) n (LE az d1)∧Md (fun q=>(Value.slice j n cp).ownBlock=some q) w w'):=by
 refine enter Tryz.func158 rfl Tryz.ntmps158 rfl ?_
 refine ab (fun _ ao=>(ae (U b) (ae (U a) (p (bK ((b - a:Nat):Int) rfl rfl (aI (by omega) (by omega))) (ag (((ao _ _ ?_))))))))
 refine ab (fun _ aq=>(p mv (p (ge rfl rfl) (aj ((aq _ _ (cd rfl (fun br=> ?_) (fun h=>absurd (by omega) h))))))))
 refine ab (fun _ ar=>(p mv (p (ik F4 kK rfl (ji (by omega))) (e (al GF fun b7 w7 bo aS aL=>e (st nn rfl rfl (rfl) (aL) (by simp) fun wt2_3 aO aG=> ?_))))))
 have ai:Wk w wt2_3:=Md.trans' aS.md aO (fun k hk h=>by omega)
 refine aj ((ar _ _ (ab (fun _ av=>(p mv (e (cl yz (DI (b - a) _ (by omega)) rfl fun bx w19 aV=> ?_)))))))
 obtain ⟨rfl,Y⟩:=aV
 have hmr:=C9 (n:=b - a) (by omega) (by omega)
 refine ag (((av _ _ (ab (fun _ ax=>(ae (U a) (p mv (p (jG (((b - a) / 4:Nat):Int) rfl rfl (by omega) (aI (by omega) (by omega))) ?_))))))))
 refine p (kB (((b - a) / 4 *2:Nat):Int) rfl rfl (aI (by omega) (by omega))) (p (a8 ((a+(b - a) / 4 *2:Nat):Int) rfl rfl (aI (by omega) (by omega))) (p (bK ((a+(b - a) / 4 *2 - 1:Nat):Int) rfl rfl (aI (by omega) (by omega))) (ag (((ax _ _ (au ?_)))))))
 have M:(Value.slice j n cp).ownBlock≠some b7:=fun h=>by have :=cU an h; omega
 refine lp (fun ad I V=> ∃ (s:Nat) (r:Int) (C:Array Nat),(a+(b - a) / 4 *2 - 1≤s∧s≤a+(b - a) / 4 *2 +2)∧(Go.Sort.PermIn a b d C)∧(a9 V.heap b7 [.int .u64 r])∧(V.ownsRow B 71 1 (.slice j n cp) n (LE az C))∧(Md (fun q=>(Value.slice j n cp).ownBlock=some q) w V)∧(I 0= .slice j n cp)∧(I 1=U a)∧(I 6=U (b - a))∧(I 7=aU b7)∧(I 8= .int .u64 (2 ^ fC (b - a):Nat))∧(I 9=U s)∧(a+(b - a) / 4 *2 +3 - s=ad)) _ ⟨a+(b - a) / 4 *2 - 1,(b - a:Nat),d,(by omega),(Go.Sort.permIn_refl d a b),(Y.B aG),(aE (aE an ai) Y),((Md.trans ai Y).mono (fun _ _ h=>h.elim)),rfl,rfl,rfl,rfl,rfl,rfl,rfl⟩ ?_
 rintro ad I V ⟨s,r,C,hix,aK,aN,aa,Z,a3,a4,a6,bb,bc,bd,rfl⟩
 refine fx 0 a3 (fx 1 a4 (fx 6 a6 (fx 7 bb (fx 8 bc (fx 9 bd (sq (fun _ ay=>ab (fun _ aC=>(ae (U s) (ae (U a) (ae (U (b - a)) (p (jG (((b - a) / 4:Nat):Int) rfl rfl (by omega) (aI (by omega) (by omega))) ?_))))))))))))
 refine p (kB (((b - a) / 4 *2:Nat):Int) rfl rfl (aI (by omega) (by omega))) (p (a8 ((a+(b - a) / 4 *2:Nat):Int) rfl rfl (aI (by omega) (by omega))) (p (a8 ((a+(b - a) / 4 *2 +1:Nat):Int) rfl rfl (aI (by omega) (by omega))) (p (le rfl rfl) (aj ((aC _ _ (cd rfl (fun aX=> ?_) (fun aX=> ?_))))))))
 refine aA (tn (ay _ _ (sq (fun _ aD=>au (ab (fun _ aF=>(e (cl yA (DH b7 r _ aN) rfl fun bz w36 aW=> ?_))))))))
 obtain ⟨ac,rfl,bv,bw,ah,O⟩:=aW
 obtain ⟨o,bt,a2⟩:=xv ac (2 ^ fC (b - a)) (by omega)
 have hne:=M
 refine ae (.int .u64 (2 ^ fC (b - a):Nat)) (p (sb rfl rfl (ji (by omega))) (p (m4 rfl rfl a2) (p (o6 u3 Gd rfl (bp (by omega))) (ag (((aF _ _ ?_)))))))
 refine dm (fun G wC=> ∃ (A:Nat),(A < b - a)∧(a9 wC.heap b7 [.int .u64 ac])∧(wC.ownsRow B 71 1 (.slice j n cp) n (LE az C))∧(Md (fun q=>(Value.slice j n cp).ownBlock=some q) w wC)∧(G 0= .slice j n cp)∧(G 1=U a)∧(G 6=U (b - a))∧(G 7=aU b7)∧(G 8= .int .u64 (2 ^ fC (b - a):Nat))∧(G 9=U s)∧(G 10=U A)) ?_ ?_
 refine ab (fun _ ap=>(p mv (ae (U (b - a)) (p (ge rfl rfl) (aj ((ap _ _ (cd rfl (fun aZ=> ?_) (fun aZ=> ?_)))))))))
 exact rg rfl (p mv (ae (U (b - a)) (p (bK ((o - (b - a):Nat):Int) rfl rfl (aI (by omega) (by omega))) (ag (((⟨o - (b - a),(by omega),ah,(bA aa O (fun k hk h=>M (h ▸ hk))),(Md.trans' Z O (fun k hk h=>by omega)),rfl,rfl,rfl,rfl,rfl,rfl,rfl⟩)))))))
 exact aA (tn (⟨o,(by omega),ah,(bA aa O (fun k hk h=>M (h ▸ hk))),(Md.trans' Z O (fun k hk h=>by omega)),rfl,rfl,rfl,rfl,rfl,rfl,rfl⟩))
 rintro G wC ⟨A,bu,aM,E,aR,bf,bg,bi,bj,bk,bl,bh⟩
 refine fx 0 bf (fx 1 bg (fx 6 bi (fx 7 bj (fx 8 bk (fx 9 bl (fx 10 bh ?_))))))
 have hdcn:=cY E
 have c:(fun w'=>Wk wC w') wC.drew:=(Md.refl _ _).drew
 refine da (fun w'=>Wk wC w') 17 rfl wide c (aJ 0 rfl (.slice j n cp) c (aJ 1 rfl (U s) c (aJ 2 rfl (.slice j n cp) c (aJ 3 rfl (U a) c (aJ 4 rfl (U A) c (a5 5 rfl (fun _=>a8 ((a+A:Nat):Int) rfl rfl (aI (by omega) (by omega))) (fun _=>c) (aJ 6 rfl (.slice j n cp) c ?_)))))))
 refine aJ 7 rfl (U a) c (aJ 8 rfl (U A) c (a5 9 rfl (fun _=>a8 ((a+A:Nat):Int) rfl rfl (aI (by omega) (by omega))) (fun _=>c) (a5 10 rfl (fun _=>aH aY rfl rfl (by omega) (ak.ok ((aB E).2) (a7 (by omega)))) (fun _=>c) (cT 11 rfl (fun w' J=>ld ba rfl (bq (i:=a+A) ((aB E).2.wk J) (by omega))) c (aJ 12 rfl (.slice j n cp) c (aJ 13 rfl (U s) c (a5 14 rfl (fun _=>aH aY rfl rfl (by omega) (ak.ok ((aB E).2) (a7 (by omega)))) (fun _=>c) ?_)))))))
 refine cT 15 rfl (fun w' J=>ld ba rfl (bq (i:=s) ((aB E).2.wk J) (by omega))) c (a5 16 rfl (fun _=>aH aY rfl rfl (by omega) (ak.ok ((aB E).2) (a7 (by omega)))) (fun _=>c) (bJ 17 rfl (by kernel_rfl) (by kernel_rfl) (dq (u:=C[a+A]!) (s) (aE E c) di rfl rfl rfl (by omega) fun bB aP a0=> ?_)))
 refine a5 18 rfl (fun _=>aH aY rfl rfl (by omega) (ak.ok ((aB E).2) (a7 (by omega)))) (fun h=>Bool.noConfusion ((show true =_ from by kernel_rfl).trans h)) (bJ 19 rfl (by kernel_rfl) (by kernel_rfl) (dq (u:=C[s]!) (a+A) a0 di rfl rfl rfl (by omega) fun wS2 aQ a1=> ?_))
 have J:wS2.ownsRow B 71 1 (.slice j n cp) n (LE az (Go.Sort.swp C (s) (a+A))):=a1
 have am:Md (fun q=>(Value.slice j n cp).ownBlock=some q) wC wS2:=Md.trans (c.mono (fun _ _ h=>h.elim)) (Md.trans aP aQ)
 refine c9 (by kernel_rfl) ?_
 refine bn (tn (aD _ _ (rg rfl (ae (U s) (p (a8 ((s+1:Nat):Int) rfl rfl (aI (by omega) (by omega))) (p aw (nl (tn ?_))))))))
 exact ⟨_,by omega,s+1,ac,Go.Sort.swp C s (a+A),(by omega),(Ed aK (by omega) (by omega) (by omega) rfl),(am.B aM (fun h=>M h)),J,(Md.trans aR am),rfl,rfl,rfl,rfl,rfl,rfl,rfl⟩
 refine ext (te _ (te _ (be (f0 rfl ?_))))
 exact ⟨C,rfl,aK,aa,Z⟩
end Go.Hb.mR
end
section
set_option maxRecDepth 20000
set_option maxHeartbeats 1000000
namespace Go.Hb.q4
open Go.Hb.cJ
open Go.Proofs
open Go.Hb.kg
theorem D6 {d:Array Nat} {a b c i j:Nat} (h1:Go.Sort.scanUp (fun x=>a4 x (Go.Sort.swp d a c)[a]!) (Go.Sort.swp d a c) (b - 1) (a+1)=i) (h2:Go.Sort.scanDown (fun x=> !a4 x (Go.Sort.swp d a c)[a]!) (Go.Sort.swp d a c) i (b - 1)=j) (h:i > j):
 Go.Sort.partition a4 d a b c=(j,true,Go.Sort.swp (Go.Sort.swp d a c) j a):=by
 unfold Go.Sort.partition; simp only [h1,h2,if_pos h]
theorem D7 {d:Array Nat} {a b c i j p:Nat} {q:Array Nat} (h1:Go.Sort.scanUp (fun x=>a4 x (Go.Sort.swp d a c)[a]!) (Go.Sort.swp d a c) (b - 1) (a+1)=i) (h2:Go.Sort.scanDown (fun x=> !a4 x (Go.Sort.swp d a c)[a]!) (Go.Sort.swp d a c) i (b - 1)=j) (h:¬i > j)
 (h3:Go.Sort.partLoop a4 a (i+1) (j - 1) (Go.Sort.swp (Go.Sort.swp d a c) i j)=(p,q)):
 Go.Sort.partition a4 d a b c=(p,false,Go.Sort.swp q p a):=by
 unfold Go.Sort.partition; simp only [h1,h2,if_neg h,h3]
theorem D8 (d:Array Nat) (a b s:Nat) (B n cp:Nat) (c:Option Addr) (w:World) (aq:w.ownsRow B 71 1 (.slice c n cp) n (LE az d)) (c7:a≤s∧s < b∧b≤n) (dc:n≤1099511627776):
 aT Tryz.prog 164 (List.toArray [.slice c n cp,U a,U b,U s]) w (fun v w'=>v= .tuple #[U ((Go.Sort.partition a4 d a b s).1),.bool (Go.Sort.partition a4 d a b s).2.1]∧w'.ownsRow B 71 1 (.slice c n cp) n (LE az (Go.Sort.partition a4 d a b s).2.2)∧Md (fun q=>(Value.slice c n cp).ownBlock=some q) w w'):=by
 refine enter Tryz.func164 rfl Tryz.ntmps164 rfl ?_
 refine ab (fun _ bA=>(p aw (ag (((bA _ _ (sq (fun _ bB=> ?_))))))))
 have hdn:=cY aq
 have ac:(fun w'=>Wk w w') w.drew:=(Md.refl _ _).drew
 refine da (fun w'=>Wk w w') 13 rfl wide ac (aJ 0 rfl (.slice c n cp) ac (aJ 1 rfl (U a) ac (aJ 2 rfl (.slice c n cp) ac (aJ 3 rfl (U s) ac (aJ 4 rfl (.slice c n cp) ac (aJ 5 rfl (U s) ac (a5 6 rfl (fun _=>aH aY rfl rfl (by omega) (ak.ok ((aB aq).2) (a7 (by omega)))) (fun _=>ac) ?_)))))))
 refine cT 7 rfl (fun w' C=>ld ba rfl (bq (i:=s) ((aB aq).2.wk C) (by omega))) ac (aJ 8 rfl (.slice c n cp) ac (aJ 9 rfl (U a) ac (a5 10 rfl (fun _=>aH aY rfl rfl (by omega) (ak.ok ((aB aq).2) (a7 (by omega)))) (fun _=>ac) (cT 11 rfl (fun w' C=>ld ba rfl (bq (i:=a) ((aB aq).2.wk C) (by omega))) ac (a5 12 rfl (fun _=>aH aY rfl rfl (by omega) (ak.ok ((aB aq).2) (a7 (by omega)))) (fun _=>ac) (bJ 13 rfl (by kernel_rfl) (by kernel_rfl) (dq (u:=d[s]!) (a) (aE aq ac) di rfl rfl rfl (by omega) fun dh bM cj=> ?_)))))))
 refine a5 14 rfl (fun _=>aH aY rfl rfl (by omega) (ak.ok ((aB aq).2) (a7 (by omega)))) (fun h=>Bool.noConfusion ((show true =_ from by kernel_rfl).trans h)) (bJ 15 rfl (by kernel_rfl) (by kernel_rfl) (dq (u:=d[a]!) (s) cj di rfl rfl rfl (by omega) fun wP12 bN ck=> ?_))
 have b1:wP12.ownsRow B 71 1 (.slice c n cp) n (LE az (Go.Sort.swp d (a) (s))):=ck
 have bL:Md (fun q=>(Value.slice c n cp).ownBlock=some q) w wP12:=Md.trans (ac.mono (fun _ _ h=>h.elim)) (Md.trans bM bN)
 refine c9 (by kernel_rfl) ?_
 refine tn (bB _ _ (ab (fun _ bC=>(ae (U a) (p (a8 ((a+1:Nat):Int) rfl rfl (aI (by omega) (by omega))) (ae (U b) (p (bK ((b - 1:Nat):Int) rfl rfl (aI (by omega) (by omega))) (p aw ?_))))))))
 refine ag (((bC _ _ ?_)))
 refine dm (fun aQ bl=> ∃ (I:Nat),(a+1≤I∧(I=a+1∨I≤b - 1 +1))∧(Go.Sort.scanUp (fun x=>a4 x (Go.Sort.swp d a s)[a]!) (Go.Sort.swp d a s) (b - 1) (a+1)=I)∧(bl.ownsRow B 71 1 (.slice c n cp) n (LE az (Go.Sort.swp d a s)))∧(Md (fun q=>(Value.slice c n cp).ownBlock=some q) w bl)∧(aQ 0= .slice c n cp)∧(aQ 1=U a)∧(aQ 10=U I)∧(aQ 11=U (b - 1))) ?_ ?_
 refine au (lp (fun al aR aC=> ∃ (q:Nat),(a+1≤q∧(q=a+1∨q≤b - 1 +1))∧(Go.Sort.scanUp (fun x=>a4 x (Go.Sort.swp d a s)[a]!) (Go.Sort.swp d a s) (b - 1) (q)=Go.Sort.scanUp (fun x=>a4 x (Go.Sort.swp d a s)[a]!) (Go.Sort.swp d a s) (b - 1) (a+1))∧(aC.ownsRow B 71 1 (.slice c n cp) n (LE az (Go.Sort.swp d a s)))∧(Md (fun q=>(Value.slice c n cp).ownBlock=some q) w aC)∧(aR 0= .slice c n cp)∧(aR 1=U a)∧(aR 10=U q)∧(aR 11=U (b - 1))∧(b - 1 +1 - q=al)) _ ⟨a+1,(by omega),rfl,b1,bL,rfl,rfl,rfl,rfl,rfl⟩ ?_)
 rintro al aR aC ⟨q,am,hq2,A,aj,cz,cA,cB,cC,rfl⟩
 refine fx 0 cz (fx 1 cA (fx 10 cB (fx 11 cC (sq (fun _ aO=>sq (fun _ av=> ?_))))))
 have hdcn:=cY A
 have Y:(fun w'=>Wk aC w') aC.drew:=(Md.refl _ _).drew
 refine bF (fun w'=>Wk aC w') rfl wide Y (bm 0 rfl (U q) Y (bm 1 rfl (U (b - 1)) Y (aK 2 rfl (fun _ _=>le rfl rfl) Y (aK 3 rfl (fun _ _=>mv) Y (ir (t:=33) rfl (fun ch=> ?_) (fun ch=> ?_))))))
 refine a3 4 rfl (by kernel_rfl) rfl rfl rfl (fun _ _=>ao (.slice c n cp) rfl) Y (a3 5 rfl (by kernel_rfl) rfl rfl rfl (fun _ _=>ao (U q) rfl) Y (a3 6 rfl (by kernel_rfl) rfl rfl rfl (fun _ _=>aH aY rfl rfl (by omega) (ak.ok ((aB A).2) (a7 (by omega)))) Y (a3 7 rfl (by kernel_rfl) rfl rfl rfl (fun w' C=>ld ba rfl (bq (i:=q) ((aB A).2.wk C) (by omega))) Y (a3 8 rfl (by kernel_rfl) rfl rfl rfl (fun _ _=>ao (.slice c n cp) rfl) Y (a3 9 rfl (by kernel_rfl) rfl rfl rfl (fun _ _=>ao (U a) rfl) Y (a3 10 rfl (by kernel_rfl) rfl rfl rfl (fun _ _=>aH aY rfl rfl (by omega) (ak.ok ((aB A).2) (a7 (by omega)))) Y (a3 11 rfl (by kernel_rfl) rfl rfl rfl (fun w' C=>ld ba rfl (bq (i:=a) ((aB A).2.wk C) (by omega))) Y ?_)))))))
 refine iV 12 rfl (by kernel_rfl) rfl rfl rfl (cl gn (gu (Go.Sort.swp d a s)[q]! (Go.Sort.swp d a s)[a]! _) rfl fun df w42 b8=> ?_)
 obtain ⟨rfl,hE42⟩:=b8
 have aM:(fun w'=>Wk aC w') w42:=Md.trans Y hE42
 refine ⟨aM,?_⟩
 refine aK 13 rfl (fun _ _=>bu rfl) aM (hn (by kernel_rfl) (tn (av _ _ (cb rfl (fun bi=> ?_) (fun bi=> ?_)))))
 refine aA (tn (aO _ _ (au (rg rfl (ae (U q) (p (a8 ((q+1:Nat):Int) rfl rfl (aI (by omega) (by omega))) (p aw (nl ?_))))))))
 exact bn (tn (⟨_,by omega,q+1,(by omega),((by rw [← hq2,qJ (show q≤b - 1 by omega) (by simpa using bi)])),(aE A aM),(Md.trans aj (aM.mono (fun _ _ h=>h.elim))),rfl,rfl,rfl,rfl,rfl⟩))
 exact ext (te _ (te _ (be (tn (⟨q,am,((by rw [← hq2,lH (.inr (by simpa using bi))])),(aE A aM),(Md.trans aj (aM.mono (fun _ _ h=>h.elim))),rfl,rfl,rfl,rfl⟩)))))
 refine aV 4 rfl (by kernel_rfl) rfl rfl rfl rfl Y ?_
 refine aV 5 rfl (by kernel_rfl) rfl rfl rfl rfl Y ?_
 refine aV 6 rfl (by kernel_rfl) rfl rfl rfl rfl Y ?_
 refine aV 7 rfl (by kernel_rfl) rfl rfl rfl rfl Y ?_
 refine aV 8 rfl (by kernel_rfl) rfl rfl rfl rfl Y ?_
 refine aV 9 rfl (by kernel_rfl) rfl rfl rfl rfl Y ?_
 refine aV 10 rfl (by kernel_rfl) rfl rfl rfl rfl Y ?_
 refine aV 11 rfl (by kernel_rfl) rfl rfl rfl rfl Y ?_
 refine aV 12 rfl (by kernel_rfl) rfl rfl rfl rfl Y ?_
 refine aK 13 rfl (fun _ _=>bc rfl) Y (hn (by kernel_rfl) (tn (av _ _ (cf rfl (ext (te _ (te _ (be ?_))))))))
 exact tn (⟨q,am,((by rw [← hq2,lH (.inl (by omega))])),(aE A (Md.refl _ _).drew),aj.drew,rfl,rfl,rfl,rfl⟩)
 rintro aQ bl ⟨I,c8,bx,bf,bd,cv,cw,cx,cy⟩
 refine fx 0 cv (fx 1 cw (fx 10 cx (fx 11 cy ?_)))
 refine dm (fun aS an=> ∃ (J:Nat),(a≤J∧J≤b - 1)∧(Go.Sort.scanDown (fun x=> !a4 x (Go.Sort.swp d a s)[a]!) (Go.Sort.swp d a s) (I) (b - 1)=J)∧(an.ownsRow B 71 1 (.slice c n cp) n (LE az (Go.Sort.swp d a s)))∧(Md (fun q=>(Value.slice c n cp).ownBlock=some q) w an)∧(aS 0= .slice c n cp)∧(aS 1=U a)∧(aS 10=U I)∧(aS 11=U J)) ?_ ?_
 refine au (lp (fun al aU aF=> ∃ (q:Nat),(a≤q∧q≤b - 1)∧(Go.Sort.scanDown (fun x=> !a4 x (Go.Sort.swp d a s)[a]!) (Go.Sort.swp d a s) (I) (q)=Go.Sort.scanDown (fun x=> !a4 x (Go.Sort.swp d a s)[a]!) (Go.Sort.swp d a s) (I) (b - 1))∧(aF.ownsRow B 71 1 (.slice c n cp) n (LE az (Go.Sort.swp d a s)))∧(Md (fun q=>(Value.slice c n cp).ownBlock=some q) w aF)∧(aU 0= .slice c n cp)∧(aU 1=U a)∧(aU 10=U I)∧(aU 11=U q)∧(q=al)) _ ⟨b - 1,(by omega),rfl,bf,bd,rfl,rfl,rfl,rfl,rfl⟩ ?_)
 rintro al aU aF ⟨q,am,hq2,A,aj,cH,cI,cJ,cK,rfl⟩
 refine fx 0 cH (fx 1 cI (fx 10 cJ (fx 11 cK (sq (fun _ aO=>sq (fun _ av=> ?_))))))
 have hdcn:=cY A
 have O:(fun w'=>Wk aF w') aF.drew:=(Md.refl _ _).drew
 refine bF (fun w'=>Wk aF w') rfl wide O (bm 0 rfl (U I) O (bm 1 rfl (U q) O (aK 2 rfl (fun _ _=>le rfl rfl) O (aK 3 rfl (fun _ _=>mv) O (ir (t:=49) rfl (fun ci=> ?_) (fun ci=> ?_))))))
 refine a3 4 rfl (by kernel_rfl) rfl rfl rfl (fun _ _=>ao (.slice c n cp) rfl) O (a3 5 rfl (by kernel_rfl) rfl rfl rfl (fun _ _=>ao (U q) rfl) O (a3 6 rfl (by kernel_rfl) rfl rfl rfl (fun _ _=>aH aY rfl rfl (by omega) (ak.ok ((aB A).2) (a7 (by omega)))) O (a3 7 rfl (by kernel_rfl) rfl rfl rfl (fun w' C=>ld ba rfl (bq (i:=q) ((aB A).2.wk C) (by omega))) O (a3 8 rfl (by kernel_rfl) rfl rfl rfl (fun _ _=>ao (.slice c n cp) rfl) O (a3 9 rfl (by kernel_rfl) rfl rfl rfl (fun _ _=>ao (U a) rfl) O (a3 10 rfl (by kernel_rfl) rfl rfl rfl (fun _ _=>aH aY rfl rfl (by omega) (ak.ok ((aB A).2) (a7 (by omega)))) O (a3 11 rfl (by kernel_rfl) rfl rfl rfl (fun w' C=>ld ba rfl (bq (i:=a) ((aB A).2.wk C) (by omega))) O ?_)))))))
 refine iV 12 rfl (by kernel_rfl) rfl rfl rfl (cl gn (gu (Go.Sort.swp d a s)[q]! (Go.Sort.swp d a s)[a]! _) rfl fun dg w58 b9=> ?_)
 obtain ⟨rfl,hE58⟩:=b9
 have ay:(fun w'=>Wk aF w') w58:=Md.trans O hE58
 refine ⟨ay,?_⟩
 refine a3 13 rfl (by kernel_rfl) rfl rfl rfl (fun _ _=>no rfl) ay (aK 14 rfl (fun _ _=>bu rfl) ay (hn (by kernel_rfl) (tn (av _ _ (cb rfl (fun bj=> ?_) (fun bj=> ?_))))))
 refine aA (tn (aO _ _ (au (rg rfl (ae (U q) (p (bK ((q - 1:Nat):Int) rfl rfl (aI (by omega) (by omega))) (p aw (nl ?_))))))))
 exact bn (tn (⟨_,by omega,q - 1,(by omega),((by rw [← hq2,ph (show 0 < q by omega) (show I≤q by omega) (by simpa using bj)])),(aE A ay),(Md.trans aj (ay.mono (fun _ _ h=>h.elim))),rfl,rfl,rfl,rfl,rfl⟩))
 exact ext (te _ (te _ (be (tn (⟨q,am,((by rw [← hq2,k5 (.inr (by simpa using bj))])),(aE A ay),(Md.trans aj (ay.mono (fun _ _ h=>h.elim))),rfl,rfl,rfl,rfl⟩)))))
 refine aV 4 rfl (by kernel_rfl) rfl rfl rfl rfl O ?_
 refine aV 5 rfl (by kernel_rfl) rfl rfl rfl rfl O ?_
 refine aV 6 rfl (by kernel_rfl) rfl rfl rfl rfl O ?_
 refine aV 7 rfl (by kernel_rfl) rfl rfl rfl rfl O ?_
 refine aV 8 rfl (by kernel_rfl) rfl rfl rfl rfl O ?_
 refine aV 9 rfl (by kernel_rfl) rfl rfl rfl rfl O ?_
 refine aV 10 rfl (by kernel_rfl) rfl rfl rfl rfl O ?_
 refine aV 11 rfl (by kernel_rfl) rfl rfl rfl rfl O ?_
 refine aV 12 rfl (by kernel_rfl) rfl rfl rfl rfl O ?_
 refine aV 13 rfl (by kernel_rfl) rfl rfl rfl rfl O ?_
 refine aK 14 rfl (fun _ _=>bc rfl) O (hn (by kernel_rfl) (tn (av _ _ (cf rfl (ext (te _ (te _ (be ?_))))))))
 exact tn (⟨q,am,((by rw [← hq2,k5 (.inl (by omega))])),(aE A (Md.refl _ _).drew),aj.drew,rfl,rfl,rfl,rfl⟩)
 rintro aS an ⟨J,db,bp,E,aP,cD,cE,cF,cG⟩
 refine fx 0 cD (fx 1 cE (fx 10 cF (fx 11 cG (sq (fun _ aO=>ab (fun _ av=>(ae (U I) (ae (U J) (p (gt rfl rfl) (nl ?_))))))))))
 refine tn (av _ _ (cd rfl (fun cc=> ?_) (fun cc=> ?_)))
 refine sq (fun _ a9=> ?_)
 have hdcn:=cY E
 have ai:(fun w'=>Wk an w') an.drew:=(Md.refl _ _).drew
 refine da (fun w'=>Wk an w') 13 rfl wide ai (aJ 0 rfl (.slice c n cp) ai (aJ 1 rfl (U J) ai (aJ 2 rfl (.slice c n cp) ai (aJ 3 rfl (U a) ai (aJ 4 rfl (.slice c n cp) ai (aJ 5 rfl (U a) ai (a5 6 rfl (fun _=>aH aY rfl rfl (by omega) (ak.ok ((aB E).2) (a7 (by omega)))) (fun _=>ai) ?_)))))))
 refine cT 7 rfl (fun w' C=>ld ba rfl (bq (i:=a) ((aB E).2.wk C) (by omega))) ai (aJ 8 rfl (.slice c n cp) ai (aJ 9 rfl (U J) ai (a5 10 rfl (fun _=>aH aY rfl rfl (by omega) (ak.ok ((aB E).2) (a7 (by omega)))) (fun _=>ai) (cT 11 rfl (fun w' C=>ld ba rfl (bq (i:=J) ((aB E).2.wk C) (by omega))) ai (a5 12 rfl (fun _=>aH aY rfl rfl (by omega) (ak.ok ((aB E).2) (a7 (by omega)))) (fun _=>ai) (bJ 13 rfl (by kernel_rfl) (by kernel_rfl) (dq (u:=(Go.Sort.swp d a s)[a]!) (J) (aE E ai) di rfl rfl rfl (by omega) fun dj bP cm=> ?_)))))))
 refine a5 14 rfl (fun _=>aH aY rfl rfl (by omega) (ak.ok ((aB E).2) (a7 (by omega)))) (fun h=>Bool.noConfusion ((show true =_ from by kernel_rfl).trans h)) (bJ 15 rfl (by kernel_rfl) (by kernel_rfl) (dq (u:=(Go.Sort.swp d a s)[J]!) (a) cm di rfl rfl rfl (by omega) fun wP82 bQ cn=> ?_))
 have b2:wP82.ownsRow B 71 1 (.slice c n cp) n (LE az (Go.Sort.swp (Go.Sort.swp d a s) (J) (a))):=cn
 have bO:Md (fun q=>(Value.slice c n cp).ownBlock=some q) an wP82:=Md.trans (ai.mono (fun _ _ h=>h.elim)) (Md.trans bP bQ)
 refine c9 (by kernel_rfl) ?_
 refine tn (a9 _ _ (ab (fun _ bb=>(ae (U J) (p (bw (U J) rfl) (ag (((bb _ _ ?_)))))))))
 refine rt (tr (f2 rfl rfl rfl ?_))
 have hz:=D6 bx bp (by omega)
 exact ⟨by rw [hz]; rfl,by rw [hz]; exact b2,Md.trans aP bO⟩
 refine aA (tn (aO _ _ (sq (fun _ a9=> ?_))))
 have hdcn:=cY E
 have ad:(fun w'=>Wk an w') an.drew:=(Md.refl _ _).drew
 refine da (fun w'=>Wk an w') 13 rfl wide ad (aJ 0 rfl (.slice c n cp) ad (aJ 1 rfl (U I) ad (aJ 2 rfl (.slice c n cp) ad (aJ 3 rfl (U J) ad (aJ 4 rfl (.slice c n cp) ad (aJ 5 rfl (U J) ad (a5 6 rfl (fun _=>aH aY rfl rfl (by omega) (ak.ok ((aB E).2) (a7 (by omega)))) (fun _=>ad) ?_)))))))
 refine cT 7 rfl (fun w' C=>ld ba rfl (bq (i:=J) ((aB E).2.wk C) (by omega))) ad (aJ 8 rfl (.slice c n cp) ad (aJ 9 rfl (U I) ad (a5 10 rfl (fun _=>aH aY rfl rfl (by omega) (ak.ok ((aB E).2) (a7 (by omega)))) (fun _=>ad) (cT 11 rfl (fun w' C=>ld ba rfl (bq (i:=I) ((aB E).2.wk C) (by omega))) ad (a5 12 rfl (fun _=>aH aY rfl rfl (by omega) (ak.ok ((aB E).2) (a7 (by omega)))) (fun _=>ad) (bJ 13 rfl (by kernel_rfl) (by kernel_rfl) (dq (u:=(Go.Sort.swp d a s)[J]!) (I) (aE E ad) di rfl rfl rfl (by omega) fun dk bS co=> ?_)))))))
 refine a5 14 rfl (fun _=>aH aY rfl rfl (by omega) (ak.ok ((aB E).2) (a7 (by omega)))) (fun h=>Bool.noConfusion ((show true =_ from by kernel_rfl).trans h)) (bJ 15 rfl (by kernel_rfl) (by kernel_rfl) (dq (u:=(Go.Sort.swp d a s)[I]!) (J) co di rfl rfl rfl (by omega) fun wPX2 bT cq=> ?_))
 have b3:wPX2.ownsRow B 71 1 (.slice c n cp) n (LE az (Go.Sort.swp (Go.Sort.swp d a s) (I) (J))):=cq
 have bR:Md (fun q=>(Value.slice c n cp).ownBlock=some q) an wPX2:=Md.trans (ad.mono (fun _ _ h=>h.elim)) (Md.trans bS bT)
 refine c9 (by kernel_rfl) ?_
 refine tn (a9 _ _ (ab (fun _ bb=>(ae (U I) (p (a8 ((I+1:Nat):Int) rfl rfl (aI (by omega) (by omega))) (ag (((bb _ _ ?_)))))))))
 refine ab (fun _ bD=>(ae (U J) (p (bK ((J - 1:Nat):Int) rfl rfl (aI (by omega) (by omega))) (ag (((bD _ _ (sq (fun _ bE=> ?_)))))))))
 refine au (lp (fun al aW bk=> ∃ (i j:Nat) (G:Array Nat),(a+2≤i∧i≤b∧a≤j∧j < b∧i≤j+2)∧(Go.Sort.partLoop a4 a i j G=Go.Sort.partLoop a4 a (I+1) (J - 1) (Go.Sort.swp (Go.Sort.swp d a s) I J))∧(bk.ownsRow B 71 1 (.slice c n cp) n (LE az G))∧(Md (fun q=>(Value.slice c n cp).ownBlock=some q) w bk)∧(aW 0= .slice c n cp)∧(aW 1=U a)∧(aW 10=U i)∧(aW 11=U j)∧(j+1 - i=al)) _ ⟨I+1,J - 1,Go.Sort.swp (Go.Sort.swp d a s) I J,(by omega),rfl,b3,(Md.trans aP bR),rfl,rfl,rfl,rfl,rfl⟩ ?_)
 rintro al aW bk ⟨i,j,G,hi,bv,b0,bI,cL,cM,cN,cO,rfl⟩
 refine fx 0 cL (fx 1 cM (fx 10 cN (fx 11 cO (au ?_))))
 refine dm (fun aX bo=> ∃ (Z:Nat),(i≤Z∧(Z=i∨Z≤j+1))∧(Go.Sort.scanUp (fun x=>a4 x G[a]!) G (j) (i)=Z)∧(bo.ownsRow B 71 1 (.slice c n cp) n (LE az G))∧(Md (fun q=>(Value.slice c n cp).ownBlock=some q) w bo)∧(aX 0= .slice c n cp)∧(aX 1=U a)∧(aX 10=U Z)∧(aX 11=U j)) ?_ ?_
 refine au (lp (fun al aZ aD=> ∃ (q:Nat),(i≤q∧(q=i∨q≤j+1))∧(Go.Sort.scanUp (fun x=>a4 x G[a]!) G (j) (q)=Go.Sort.scanUp (fun x=>a4 x G[a]!) G (j) (i))∧(aD.ownsRow B 71 1 (.slice c n cp) n (LE az G))∧(Md (fun q=>(Value.slice c n cp).ownBlock=some q) w aD)∧(aZ 0= .slice c n cp)∧(aZ 1=U a)∧(aZ 10=U q)∧(aZ 11=U j)∧(j+1 - q=al)) _ ⟨i,(by omega),rfl,b0,bI,rfl,rfl,rfl,rfl,rfl⟩ ?_)
 rintro al aZ aD ⟨q,am,hq2,A,aj,cU,cV,cW,cX,rfl⟩
 refine fx 0 cU (fx 1 cV (fx 10 cW (fx 11 cX (sq (fun _ aN=>sq (fun _ ar=> ?_))))))
 have hdcn:=cY A
 have V:(fun w'=>Wk aD w') aD.drew:=(Md.refl _ _).drew
 refine bF (fun w'=>Wk aD w') rfl wide V (bm 0 rfl (U q) V (bm 1 rfl (U j) V (aK 2 rfl (fun _ _=>le rfl rfl) V (aK 3 rfl (fun _ _=>mv) V (ir (t:=102) rfl (fun ce=> ?_) (fun ce=> ?_))))))
 refine a3 4 rfl (by kernel_rfl) rfl rfl rfl (fun _ _=>ao (.slice c n cp) rfl) V (a3 5 rfl (by kernel_rfl) rfl rfl rfl (fun _ _=>ao (U q) rfl) V (a3 6 rfl (by kernel_rfl) rfl rfl rfl (fun _ _=>aH aY rfl rfl (by omega) (ak.ok ((aB A).2) (a7 (by omega)))) V (a3 7 rfl (by kernel_rfl) rfl rfl rfl (fun w' C=>ld ba rfl (bq (i:=q) ((aB A).2.wk C) (by omega))) V (a3 8 rfl (by kernel_rfl) rfl rfl rfl (fun _ _=>ao (.slice c n cp) rfl) V (a3 9 rfl (by kernel_rfl) rfl rfl rfl (fun _ _=>ao (U a) rfl) V (a3 10 rfl (by kernel_rfl) rfl rfl rfl (fun _ _=>aH aY rfl rfl (by omega) (ak.ok ((aB A).2) (a7 (by omega)))) V (a3 11 rfl (by kernel_rfl) rfl rfl rfl (fun w' C=>ld ba rfl (bq (i:=a) ((aB A).2.wk C) (by omega))) V ?_)))))))
 refine iV 12 rfl (by kernel_rfl) rfl rfl rfl (cl gn (gu G[q]! G[a]! _) rfl fun dd w111 b6=> ?_)
 obtain ⟨rfl,bG⟩:=b6
 have aL:(fun w'=>Wk aD w') w111:=Md.trans V bG
 refine ⟨aL,?_⟩
 refine aK 13 rfl (fun _ _=>bu rfl) aL (hn (by kernel_rfl) (tn (ar _ _ (cb rfl (fun bg=> ?_) (fun bg=> ?_)))))
 refine aA (tn (aN _ _ (au (rg rfl (ae (U q) (p (a8 ((q+1:Nat):Int) rfl rfl (aI (by omega) (by omega))) (p aw (nl ?_))))))))
 exact bn (tn (⟨_,by omega,q+1,(by omega),((by rw [← hq2,qJ (show q≤j by omega) (by simpa using bg)])),(aE A aL),(Md.trans aj (aL.mono (fun _ _ h=>h.elim))),rfl,rfl,rfl,rfl,rfl⟩))
 exact ext (te _ (te _ (be (tn (⟨q,am,((by rw [← hq2,lH (.inr (by simpa using bg))])),(aE A aL),(Md.trans aj (aL.mono (fun _ _ h=>h.elim))),rfl,rfl,rfl,rfl⟩)))))
 refine aV 4 rfl (by kernel_rfl) rfl rfl rfl rfl V ?_
 refine aV 5 rfl (by kernel_rfl) rfl rfl rfl rfl V ?_
 refine aV 6 rfl (by kernel_rfl) rfl rfl rfl rfl V ?_
 refine aV 7 rfl (by kernel_rfl) rfl rfl rfl rfl V ?_
 refine aV 8 rfl (by kernel_rfl) rfl rfl rfl rfl V ?_
 refine aV 9 rfl (by kernel_rfl) rfl rfl rfl rfl V ?_
 refine aV 10 rfl (by kernel_rfl) rfl rfl rfl rfl V ?_
 refine aV 11 rfl (by kernel_rfl) rfl rfl rfl rfl V ?_
 refine aV 12 rfl (by kernel_rfl) rfl rfl rfl rfl V ?_
 refine aK 13 rfl (fun _ _=>bc rfl) V (hn (by kernel_rfl) (tn (ar _ _ (cf rfl (ext (te _ (te _ (be ?_))))))))
 exact tn (⟨q,am,((by rw [← hq2,lH (.inl (by omega))])),(aE A (Md.refl _ _).drew),aj.drew,rfl,rfl,rfl,rfl⟩)
 rintro aX bo ⟨Z,bs,bz,bf,bd,cP,cQ,cR,cS⟩
 refine fx 0 cP (fx 1 cQ (fx 10 cR (fx 11 cS ?_)))
 refine dm (fun a0 ap=> ∃ (aa:Nat),(a≤aa∧aa≤j)∧(Go.Sort.scanDown (fun x=> !a4 x G[a]!) G (Z) (j)=aa)∧(ap.ownsRow B 71 1 (.slice c n cp) n (LE az G))∧(Md (fun q=>(Value.slice c n cp).ownBlock=some q) w ap)∧(a0 0= .slice c n cp)∧(a0 1=U a)∧(a0 10=U Z)∧(a0 11=U aa)) ?_ ?_
 refine au (lp (fun al a1 aG=> ∃ (q:Nat),(a≤q∧q≤j)∧(Go.Sort.scanDown (fun x=> !a4 x G[a]!) G (Z) (q)=Go.Sort.scanDown (fun x=> !a4 x G[a]!) G (Z) (j))∧(aG.ownsRow B 71 1 (.slice c n cp) n (LE az G))∧(Md (fun q=>(Value.slice c n cp).ownBlock=some q) w aG)∧(a1 0= .slice c n cp)∧(a1 1=U a)∧(a1 10=U Z)∧(a1 11=U q)∧(q=al)) _ ⟨j,(by omega),rfl,bf,bd,rfl,rfl,rfl,rfl,rfl⟩ ?_)
 rintro al a1 aG ⟨q,am,hq2,A,aj,c3,c4,c5,c6,rfl⟩
 refine fx 0 c3 (fx 1 c4 (fx 10 c5 (fx 11 c6 (sq (fun _ aN=>sq (fun _ ar=> ?_))))))
 have hdcn:=cY A
 have M:(fun w'=>Wk aG w') aG.drew:=(Md.refl _ _).drew
 refine bF (fun w'=>Wk aG w') rfl wide M (bm 0 rfl (U Z) M (bm 1 rfl (U q) M (aK 2 rfl (fun _ _=>le rfl rfl) M (aK 3 rfl (fun _ _=>mv) M (ir (t:=118) rfl (fun cg=> ?_) (fun cg=> ?_))))))
 refine a3 4 rfl (by kernel_rfl) rfl rfl rfl (fun _ _=>ao (.slice c n cp) rfl) M (a3 5 rfl (by kernel_rfl) rfl rfl rfl (fun _ _=>ao (U q) rfl) M (a3 6 rfl (by kernel_rfl) rfl rfl rfl (fun _ _=>aH aY rfl rfl (by omega) (ak.ok ((aB A).2) (a7 (by omega)))) M (a3 7 rfl (by kernel_rfl) rfl rfl rfl (fun w' C=>ld ba rfl (bq (i:=q) ((aB A).2.wk C) (by omega))) M (a3 8 rfl (by kernel_rfl) rfl rfl rfl (fun _ _=>ao (.slice c n cp) rfl) M (a3 9 rfl (by kernel_rfl) rfl rfl rfl (fun _ _=>ao (U a) rfl) M (a3 10 rfl (by kernel_rfl) rfl rfl rfl (fun _ _=>aH aY rfl rfl (by omega) (ak.ok ((aB A).2) (a7 (by omega)))) M (a3 11 rfl (by kernel_rfl) rfl rfl rfl (fun w' C=>ld ba rfl (bq (i:=a) ((aB A).2.wk C) (by omega))) M ?_)))))))
 refine iV 12 rfl (by kernel_rfl) rfl rfl rfl (cl gn (gu G[q]! G[a]! _) rfl fun de w127 b7=> ?_)
 obtain ⟨rfl,bH⟩:=b7
 have ax:(fun w'=>Wk aG w') w127:=Md.trans M bH
 refine ⟨ax,?_⟩
 refine a3 13 rfl (by kernel_rfl) rfl rfl rfl (fun _ _=>no rfl) ax (aK 14 rfl (fun _ _=>bu rfl) ax (hn (by kernel_rfl) (tn (ar _ _ (cb rfl (fun bh=> ?_) (fun bh=> ?_))))))
 refine aA (tn (aN _ _ (au (rg rfl (ae (U q) (p (bK ((q - 1:Nat):Int) rfl rfl (aI (by omega) (by omega))) (p aw (nl ?_))))))))
 exact bn (tn (⟨_,by omega,q - 1,(by omega),((by rw [← hq2,ph (show 0 < q by omega) (show Z≤q by omega) (by simpa using bh)])),(aE A ax),(Md.trans aj (ax.mono (fun _ _ h=>h.elim))),rfl,rfl,rfl,rfl,rfl⟩))
 exact ext (te _ (te _ (be (tn (⟨q,am,((by rw [← hq2,k5 (.inr (by simpa using bh))])),(aE A ax),(Md.trans aj (ax.mono (fun _ _ h=>h.elim))),rfl,rfl,rfl,rfl⟩)))))
 refine aV 4 rfl (by kernel_rfl) rfl rfl rfl rfl M ?_
 refine aV 5 rfl (by kernel_rfl) rfl rfl rfl rfl M ?_
 refine aV 6 rfl (by kernel_rfl) rfl rfl rfl rfl M ?_
 refine aV 7 rfl (by kernel_rfl) rfl rfl rfl rfl M ?_
 refine aV 8 rfl (by kernel_rfl) rfl rfl rfl rfl M ?_
 refine aV 9 rfl (by kernel_rfl) rfl rfl rfl rfl M ?_
 refine aV 10 rfl (by kernel_rfl) rfl rfl rfl rfl M ?_
 refine aV 11 rfl (by kernel_rfl) rfl rfl rfl rfl M ?_
 refine aV 12 rfl (by kernel_rfl) rfl rfl rfl rfl M ?_
 refine aV 13 rfl (by kernel_rfl) rfl rfl rfl rfl M ?_
 refine aK 14 rfl (fun _ _=>bc rfl) M (hn (by kernel_rfl) (tn (ar _ _ (cf rfl (ext (te _ (te _ (be ?_))))))))
 exact tn (⟨q,am,((by rw [← hq2,k5 (.inl (by omega))])),(aE A (Md.refl _ _).drew),aj.drew,rfl,rfl,rfl,rfl⟩)
 rintro a0 ap ⟨aa,bt,br,E,aP,cZ,c0,c1,c2⟩
 refine fx 0 cZ (fx 1 c0 (fx 10 c1 (fx 11 c2 (sq (fun _ aN=>ab (fun _ ar=>(ae (U Z) (ae (U aa) (p (gt rfl rfl) (nl ?_))))))))))
 refine tn (ar _ _ (cd rfl (fun ca=> ?_) (fun ca=> ?_)))
 refine ext (te _ (iN (by decide) (te _ (be (tn (bE _ _ (sq (fun _ a2=> ?_))))))))
 have hdcn:=cY E
 have ah:(fun w'=>Wk ap w') ap.drew:=(Md.refl _ _).drew
 refine da (fun w'=>Wk ap w') 13 rfl wide ah (aJ 0 rfl (.slice c n cp) ah (aJ 1 rfl (U aa) ah (aJ 2 rfl (.slice c n cp) ah (aJ 3 rfl (U a) ah (aJ 4 rfl (.slice c n cp) ah (aJ 5 rfl (U a) ah (a5 6 rfl (fun _=>aH aY rfl rfl (by omega) (ak.ok ((aB E).2) (a7 (by omega)))) (fun _=>ah) ?_)))))))
 refine cT 7 rfl (fun w' C=>ld ba rfl (bq (i:=a) ((aB E).2.wk C) (by omega))) ah (aJ 8 rfl (.slice c n cp) ah (aJ 9 rfl (U aa) ah (a5 10 rfl (fun _=>aH aY rfl rfl (by omega) (ak.ok ((aB E).2) (a7 (by omega)))) (fun _=>ah) (cT 11 rfl (fun w' C=>ld ba rfl (bq (i:=aa) ((aB E).2.wk C) (by omega))) ah (a5 12 rfl (fun _=>aH aY rfl rfl (by omega) (ak.ok ((aB E).2) (a7 (by omega)))) (fun _=>ah) (bJ 13 rfl (by kernel_rfl) (by kernel_rfl) (dq (u:=G[a]!) (aa) (aE E ah) di rfl rfl rfl (by omega) fun dn bY ct=> ?_)))))))
 refine a5 14 rfl (fun _=>aH aY rfl rfl (by omega) (ak.ok ((aB E).2) (a7 (by omega)))) (fun h=>Bool.noConfusion ((show true =_ from by kernel_rfl).trans h)) (bJ 15 rfl (by kernel_rfl) (by kernel_rfl) (dq (u:=G[aa]!) (a) ct di rfl rfl rfl (by omega) fun wPZ2 bZ cu=> ?_))
 have b5:wPZ2.ownsRow B 71 1 (.slice c n cp) n (LE az (Go.Sort.swp G (aa) (a))):=cu
 have bX:Md (fun q=>(Value.slice c n cp).ownBlock=some q) ap wPZ2:=Md.trans (ah.mono (fun _ _ h=>h.elim)) (Md.trans bY bZ)
 refine c9 (by kernel_rfl) ?_
 refine tn (a2 _ _ (ab (fun _ a6=>(ae (U aa) (p (bw (U aa) rfl) (ag (((a6 _ _ ?_)))))))))
 refine rt (f2 rfl rfl rfl ?_)
 have hz:=D7 bx bp (by omega) (bv.symm.trans (by rw [uZ bz br bs.1 bt.2,if_pos (by omega)]))
 exact ⟨by rw [hz]; rfl,by rw [hz]; exact b5,Md.trans aP bX⟩
 refine aA (tn (aN _ _ (sq (fun _ a2=> ?_))))
 have hdcn:=cY E
 have hS18:(fun w'=>Wk ap w') ap.drew:=(Md.refl _ _).drew
 refine da (fun w'=>Wk ap w') 13 rfl wide hS18 (aJ 0 rfl (.slice c n cp) hS18 (aJ 1 rfl (U Z) hS18 (aJ 2 rfl (.slice c n cp) hS18 (aJ 3 rfl (U aa) hS18 (aJ 4 rfl (.slice c n cp) hS18 (aJ 5 rfl (U aa) hS18 (a5 6 rfl (fun _=>aH aY rfl rfl (by omega) (ak.ok ((aB E).2) (a7 (by omega)))) (fun _=>hS18) ?_)))))))
 refine cT 7 rfl (fun w' C=>ld ba rfl (bq (i:=aa) ((aB E).2.wk C) (by omega))) hS18 (aJ 8 rfl (.slice c n cp) hS18 (aJ 9 rfl (U Z) hS18 (a5 10 rfl (fun _=>aH aY rfl rfl (by omega) (ak.ok ((aB E).2) (a7 (by omega)))) (fun _=>hS18) (cT 11 rfl (fun w' C=>ld ba rfl (bq (i:=Z) ((aB E).2.wk C) (by omega))) hS18 (a5 12 rfl (fun _=>aH aY rfl rfl (by omega) (ak.ok ((aB E).2) (a7 (by omega)))) (fun _=>hS18) (bJ 13 rfl (by kernel_rfl) (by kernel_rfl) (dq (u:=G[aa]!) (Z) (aE E hS18) di rfl rfl rfl (by omega) fun dl bV cr=> ?_)))))))
 refine a5 14 rfl (fun _=>aH aY rfl rfl (by omega) (ak.ok ((aB E).2) (a7 (by omega)))) (fun h=>Bool.noConfusion ((show true =_ from by kernel_rfl).trans h)) (bJ 15 rfl (by kernel_rfl) (by kernel_rfl) (dq (u:=G[Z]!) (aa) cr di rfl rfl rfl (by omega) fun wPY2 bW cs=> ?_))
 have b4:wPY2.ownsRow B 71 1 (.slice c n cp) n (LE az (Go.Sort.swp G (Z) (aa))):=cs
 have bU:Md (fun q=>(Value.slice c n cp).ownBlock=some q) ap wPY2:=Md.trans (hS18.mono (fun _ _ h=>h.elim)) (Md.trans bV bW)
 refine c9 (by kernel_rfl) ?_
 refine tn (a2 _ _ (ab (fun _ a6=>(ae (U Z) (p (a8 ((Z+1:Nat):Int) rfl rfl (aI (by omega) (by omega))) (ag (((a6 _ _ ?_)))))))))
 exact rg rfl (ae (U aa) (p (bK ((aa - 1:Nat):Int) rfl rfl (aI (by omega) (by omega))) (p aw (nl (bn (tn (⟨_,by omega,Z+1,aa - 1,Go.Sort.swp G Z aa,(by omega),((by rw [← bv,uZ bz br bs.1 bt.2,if_neg (by omega),if_pos (by omega)])),b4,(Md.trans aP bU),rfl,rfl,rfl,rfl,rfl⟩)))))))
theorem Ea (d:Array Nat) (a b V:Nat) (B n cp:Nat) (c:Option Addr) (w:World) (aa:w.ownsRow B 71 1 (.slice c n cp) n (LE az d)) (bW:a≤V∧V < b∧b≤n) (bZ:n≤1099511627776):
 aT Tryz.prog 163 (List.toArray [.slice c n cp,U a,U b,U V]) w (fun v w'=>v=U ((Go.Sort.partitionEqual a4 d a b V).1)∧w'.ownsRow B 71 1 (.slice c n cp) n (LE az (Go.Sort.partitionEqual a4 d a b V).2)∧Md (fun q=>(Value.slice c n cp).ownBlock=some q) w w'):=by
 refine enter Tryz.func163 rfl Tryz.ntmps163 rfl ?_
 refine ab (fun _ aR=>(ag (((aR _ _ (sq (fun _ aS=> ?_)))))))
 have hdn:=cY aa
 have I:(fun w'=>Wk w w') w.drew:=(Md.refl _ _).drew
 refine da (fun w'=>Wk w w') 13 rfl wide I (aJ 0 rfl (.slice c n cp) I (aJ 1 rfl (U a) I (aJ 2 rfl (.slice c n cp) I (aJ 3 rfl (U V) I (aJ 4 rfl (.slice c n cp) I (aJ 5 rfl (U V) I (a5 6 rfl (fun _=>aH aY rfl rfl (by omega) (ak.ok ((aB aa).2) (a7 (by omega)))) (fun _=>I) ?_)))))))
 refine cT 7 rfl (fun w' O=>ld ba rfl (bq (i:=V) ((aB aa).2.wk O) (by omega))) I (aJ 8 rfl (.slice c n cp) I (aJ 9 rfl (U a) I (a5 10 rfl (fun _=>aH aY rfl rfl (by omega) (ak.ok ((aB aa).2) (a7 (by omega)))) (fun _=>I) (cT 11 rfl (fun w' O=>ld ba rfl (bq (i:=a) ((aB aa).2.wk O) (by omega))) I (a5 12 rfl (fun _=>aH aY rfl rfl (by omega) (ak.ok ((aB aa).2) (a7 (by omega)))) (fun _=>I) (bJ 13 rfl (by kernel_rfl) (by kernel_rfl) (dq (u:=d[V]!) (a) (aE aa I) di rfl rfl rfl (by omega) fun b2 a2 bs=> ?_)))))))
 refine a5 14 rfl (fun _=>aH aY rfl rfl (by omega) (ak.ok ((aB aa).2) (a7 (by omega)))) (fun h=>Bool.noConfusion ((show true =_ from by kernel_rfl).trans h)) (bJ 15 rfl (by kernel_rfl) (by kernel_rfl) (dq (u:=d[a]!) (V) bs di rfl rfl rfl (by omega) fun wP12 a6 bt=> ?_))
 have bi:wP12.ownsRow B 71 1 (.slice c n cp) n (LE az (Go.Sort.swp d (a) (V))):=bt
 have a1:Md (fun q=>(Value.slice c n cp).ownBlock=some q) w wP12:=Md.trans (I.mono (fun _ _ h=>h.elim)) (Md.trans a2 a6)
 refine c9 (by kernel_rfl) ?_
 refine tn (aS _ _ (ab (fun _ aU=>(ae (U a) (p (a8 ((a+1:Nat):Int) rfl rfl (aI (by omega) (by omega))) (ae (U b) (p (bK ((b - 1:Nat):Int) rfl rfl (aI (by omega) (by omega))) (p aw ?_))))))))
 refine ag (((aU _ _ (sq (fun _ aW=>au (lp (fun Z ar aL=> ∃ (i j:Nat) (s:Array Nat),(a+1≤i∧i≤b∧a≤j∧j < b∧i≤j+2)∧(Go.Sort.partEqLoop a4 a i j s=Go.Sort.partitionEqual a4 d a b V)∧(aL.ownsRow B 71 1 (.slice c n cp) n (LE az s))∧(Md (fun q=>(Value.slice c n cp).ownBlock=some q) w aL)∧(ar 0= .slice c n cp)∧(ar 1=U a)∧(ar 9=U i)∧(ar 10=U j)∧(j+1 - i=Z)) _ ⟨a+1,b - 1,(Go.Sort.swp d a V),(by omega),rfl,bi,a1,rfl,rfl,rfl,rfl,rfl⟩ ?_))))))
 rintro Z ar aL ⟨i,j,s,hi,aP,bg,a0,bz,bA,bC,bB,rfl⟩
 refine fx 0 bz (fx 1 bA (fx 9 bC (fx 10 bB (au ?_))))
 refine dm (fun av aM=> ∃ (A:Nat),(i≤A∧(A=i∨A≤j+1))∧(Go.Sort.scanUp (fun x=> !a4 s[a]! x) s (j) (i)=A)∧(aM.ownsRow B 71 1 (.slice c n cp) n (LE az s))∧(Md (fun q=>(Value.slice c n cp).ownBlock=some q) w aM)∧(av 0= .slice c n cp)∧(av 1=U a)∧(av 9=U A)∧(av 10=U j)) ?_ ?_
 refine au (lp (fun Z ax ai=> ∃ (q:Nat),(i≤q∧(q=i∨q≤j+1))∧(Go.Sort.scanUp (fun x=> !a4 s[a]! x) s (j) (q)=Go.Sort.scanUp (fun x=> !a4 s[a]! x) s (j) (i))∧(ai.ownsRow B 71 1 (.slice c n cp) n (LE az s))∧(Md (fun q=>(Value.slice c n cp).ownBlock=some q) w ai)∧(ax 0= .slice c n cp)∧(ax 1=U a)∧(ax 9=U q)∧(ax 10=U j)∧(j+1 - q=Z)) _ ⟨i,(by omega),rfl,bg,a0,rfl,rfl,rfl,rfl,rfl⟩ ?_)
 rintro Z ax ai ⟨q,aq,hq2,G,ad,bI,bL,bN,bM,rfl⟩
 refine fx 0 bI (fx 1 bL (fx 9 bN (fx 10 bM (sq (fun _ ap=>sq (fun _ ac=> ?_))))))
 have hdcn:=cY G
 have C:(fun w'=>Wk ai w') ai.drew:=(Md.refl _ _).drew
 refine bF (fun w'=>Wk ai w') rfl wide C (bm 0 rfl (U q) C (bm 1 rfl (U j) C (aK 2 rfl (fun _ _=>le rfl rfl) C (aK 3 rfl (fun _ _=>mv) C (ir (t:=32) rfl (fun bp=> ?_) (fun bp=> ?_))))))
 refine a3 4 rfl (by kernel_rfl) rfl rfl rfl (fun _ _=>ao (.slice c n cp) rfl) C (a3 5 rfl (by kernel_rfl) rfl rfl rfl (fun _ _=>ao (U a) rfl) C (a3 6 rfl (by kernel_rfl) rfl rfl rfl (fun _ _=>aH aY rfl rfl (by omega) (ak.ok ((aB G).2) (a7 (by omega)))) C (a3 7 rfl (by kernel_rfl) rfl rfl rfl (fun w' O=>ld ba rfl (bq (i:=a) ((aB G).2.wk O) (by omega))) C (a3 8 rfl (by kernel_rfl) rfl rfl rfl (fun _ _=>ao (.slice c n cp) rfl) C (a3 9 rfl (by kernel_rfl) rfl rfl rfl (fun _ _=>ao (U q) rfl) C (a3 10 rfl (by kernel_rfl) rfl rfl rfl (fun _ _=>aH aY rfl rfl (by omega) (ak.ok ((aB G).2) (a7 (by omega)))) C (a3 11 rfl (by kernel_rfl) rfl rfl rfl (fun w' O=>ld ba rfl (bq (i:=q) ((aB G).2.wk O) (by omega))) C ?_)))))))
 refine iV 12 rfl (by kernel_rfl) rfl rfl rfl (cl gn (gu s[a]! s[q]! _) rfl fun b0 w41 bk=> ?_)
 obtain ⟨rfl,aZ⟩:=bk
 have ah:(fun w'=>Wk ai w') w41:=Md.trans C aZ
 refine ⟨ah,?_⟩
 refine a3 13 rfl (by kernel_rfl) rfl rfl rfl (fun _ _=>no rfl) ah (aK 14 rfl (fun _ _=>bu rfl) ah (hn (by kernel_rfl) (tn (ac _ _ (cb rfl (fun aF=> ?_) (fun aF=> ?_))))))
 refine aA (tn (ap _ _ (au (rg rfl (ae (U q) (p (a8 ((q+1:Nat):Int) rfl rfl (aI (by omega) (by omega))) (p aw (nl ?_))))))))
 exact bn (tn (⟨_,by omega,q+1,(by omega),((by rw [← hq2,qJ (show q≤j by omega) (by simpa using aF)])),(aE G ah),(Md.trans ad (ah.mono (fun _ _ h=>h.elim))),rfl,rfl,rfl,rfl,rfl⟩))
 exact ext (te _ (te _ (be (tn (⟨q,aq,((by rw [← hq2,lH (.inr (by simpa using aF))])),(aE G ah),(Md.trans ad (ah.mono (fun _ _ h=>h.elim))),rfl,rfl,rfl,rfl⟩)))))
 refine aV 4 rfl (by kernel_rfl) rfl rfl rfl rfl C ?_
 refine aV 5 rfl (by kernel_rfl) rfl rfl rfl rfl C ?_
 refine aV 6 rfl (by kernel_rfl) rfl rfl rfl rfl C ?_
 refine aV 7 rfl (by kernel_rfl) rfl rfl rfl rfl C ?_
 refine aV 8 rfl (by kernel_rfl) rfl rfl rfl rfl C ?_
 refine aV 9 rfl (by kernel_rfl) rfl rfl rfl rfl C ?_
 refine aV 10 rfl (by kernel_rfl) rfl rfl rfl rfl C ?_
 refine aV 11 rfl (by kernel_rfl) rfl rfl rfl rfl C ?_
 refine aV 12 rfl (by kernel_rfl) rfl rfl rfl rfl C ?_
 refine aV 13 rfl (by kernel_rfl) rfl rfl rfl rfl C ?_
 refine aK 14 rfl (fun _ _=>bc rfl) C (hn (by kernel_rfl) (tn (ac _ _ (cf rfl (ext (te _ (te _ (be ?_))))))))
 exact tn (⟨q,aq,((by rw [← hq2,lH (.inl (by omega))])),(aE G (Md.refl _ _).drew),ad.drew,rfl,rfl,rfl,rfl⟩)
 rintro av aM ⟨A,bX,aQ,bh,bf,bD,bE,bH,bG⟩
 refine fx 0 bD (fx 1 bE (fx 9 bH (fx 10 bG ?_)))
 refine dm (fun ay am=> ∃ (M:Nat),(a≤M∧M≤j)∧(Go.Sort.scanDown (fun x=>a4 s[a]! x) s (A) (j)=M)∧(am.ownsRow B 71 1 (.slice c n cp) n (LE az s))∧(Md (fun q=>(Value.slice c n cp).ownBlock=some q) w am)∧(ay 0= .slice c n cp)∧(ay 1=U a)∧(ay 9=U A)∧(ay 10=U M)) ?_ ?_
 refine au (lp (fun Z aC al=> ∃ (q:Nat),(a≤q∧q≤j)∧(Go.Sort.scanDown (fun x=>a4 s[a]! x) s (A) (q)=Go.Sort.scanDown (fun x=>a4 s[a]! x) s (A) (j))∧(al.ownsRow B 71 1 (.slice c n cp) n (LE az s))∧(Md (fun q=>(Value.slice c n cp).ownBlock=some q) w al)∧(aC 0= .slice c n cp)∧(aC 1=U a)∧(aC 9=U A)∧(aC 10=U q)∧(q=Z)) _ ⟨j,(by omega),rfl,bh,bf,rfl,rfl,rfl,rfl,rfl⟩ ?_)
 rintro Z aC al ⟨q,aq,hq2,G,ad,bS,bT,bV,bU,rfl⟩
 refine fx 0 bS (fx 1 bT (fx 9 bV (fx 10 bU (sq (fun _ ap=>sq (fun _ ac=> ?_))))))
 have hdcn:=cY G
 have E:(fun w'=>Wk al w') al.drew:=(Md.refl _ _).drew
 refine bF (fun w'=>Wk al w') rfl wide E (bm 0 rfl (U A) E (bm 1 rfl (U q) E (aK 2 rfl (fun _ _=>le rfl rfl) E (aK 3 rfl (fun _ _=>mv) E (ir (t:=49) rfl (fun br=> ?_) (fun br=> ?_))))))
 refine a3 4 rfl (by kernel_rfl) rfl rfl rfl (fun _ _=>ao (.slice c n cp) rfl) E (a3 5 rfl (by kernel_rfl) rfl rfl rfl (fun _ _=>ao (U a) rfl) E (a3 6 rfl (by kernel_rfl) rfl rfl rfl (fun _ _=>aH aY rfl rfl (by omega) (ak.ok ((aB G).2) (a7 (by omega)))) E (a3 7 rfl (by kernel_rfl) rfl rfl rfl (fun w' O=>ld ba rfl (bq (i:=a) ((aB G).2.wk O) (by omega))) E (a3 8 rfl (by kernel_rfl) rfl rfl rfl (fun _ _=>ao (.slice c n cp) rfl) E (a3 9 rfl (by kernel_rfl) rfl rfl rfl (fun _ _=>ao (U q) rfl) E (a3 10 rfl (by kernel_rfl) rfl rfl rfl (fun _ _=>aH aY rfl rfl (by omega) (ak.ok ((aB G).2) (a7 (by omega)))) E (a3 11 rfl (by kernel_rfl) rfl rfl rfl (fun w' O=>ld ba rfl (bq (i:=q) ((aB G).2.wk O) (by omega))) E ?_)))))))
 refine iV 12 rfl (by kernel_rfl) rfl rfl rfl (cl gn (gu s[a]! s[q]! _) rfl fun b1 w58 bl=> ?_)
 obtain ⟨rfl,hE58⟩:=bl
 have an:(fun w'=>Wk al w') w58:=Md.trans E hE58
 refine ⟨an,?_⟩
 refine aK 13 rfl (fun _ _=>bu rfl) an (hn (by kernel_rfl) (tn (ac _ _ (cb rfl (fun aG=> ?_) (fun aG=> ?_)))))
 refine aA (tn (ap _ _ (au (rg rfl (ae (U q) (p (bK ((q - 1:Nat):Int) rfl rfl (aI (by omega) (by omega))) (p aw (nl ?_))))))))
 exact bn (tn (⟨_,by omega,q - 1,(by omega),((by rw [← hq2,ph (show 0 < q by omega) (show A≤q by omega) (by simpa using aG)])),(aE G an),(Md.trans ad (an.mono (fun _ _ h=>h.elim))),rfl,rfl,rfl,rfl,rfl⟩))
 exact ext (te _ (te _ (be (tn (⟨q,aq,((by rw [← hq2,k5 (.inr (by simpa using aG))])),(aE G an),(Md.trans ad (an.mono (fun _ _ h=>h.elim))),rfl,rfl,rfl,rfl⟩)))))
 refine aV 4 rfl (by kernel_rfl) rfl rfl rfl rfl E ?_
 refine aV 5 rfl (by kernel_rfl) rfl rfl rfl rfl E ?_
 refine aV 6 rfl (by kernel_rfl) rfl rfl rfl rfl E ?_
 refine aV 7 rfl (by kernel_rfl) rfl rfl rfl rfl E ?_
 refine aV 8 rfl (by kernel_rfl) rfl rfl rfl rfl E ?_
 refine aV 9 rfl (by kernel_rfl) rfl rfl rfl rfl E ?_
 refine aV 10 rfl (by kernel_rfl) rfl rfl rfl rfl E ?_
 refine aV 11 rfl (by kernel_rfl) rfl rfl rfl rfl E ?_
 refine aV 12 rfl (by kernel_rfl) rfl rfl rfl rfl E ?_
 refine aK 13 rfl (fun _ _=>bc rfl) E (hn (by kernel_rfl) (tn (ac _ _ (cf rfl (ext (te _ (te _ (be ?_))))))))
 exact tn (⟨q,aq,((by rw [← hq2,k5 (.inl (by omega))])),(aE G (Md.refl _ _).drew),ad.drew,rfl,rfl,rfl,rfl⟩)
 rintro ay am ⟨M,bY,aO,Y,aN,bO,bP,bR,bQ⟩
 refine fx 0 bO (fx 1 bP (fx 9 bR (fx 10 bQ (sq (fun _ ap=>ab (fun _ ac=>(ae (U A) (ae (U M) (p (gt rfl rfl) (nl ?_))))))))))
 refine tn (ac _ _ (cd rfl (fun bo=> ?_) (fun bo=> ?_)))
 refine ext (te _ (iN (by decide) (te _ (be (tn (aW _ _ (ab (fun _ aD=> ?_))))))))
 refine ae (U A) (p (bw (U A) rfl) (aj ((aD _ _ (rt (f1 rfl rfl ?_))))))
 have hz:Go.Sort.partitionEqual a4 d a b V=(A,s):=by rw [← aP,uV aQ aO,if_pos (by omega)]
 exact ⟨by rw [hz]; rfl,by rw [hz]; exact Y,aN⟩
 refine aA (tn (ap _ _ (sq (fun _ aD=> ?_))))
 have hdcn:=cY Y
 have J:(fun w'=>Wk am w') am.drew:=(Md.refl _ _).drew
 refine da (fun w'=>Wk am w') 13 rfl wide J (aJ 0 rfl (.slice c n cp) J (aJ 1 rfl (U A) J (aJ 2 rfl (.slice c n cp) J (aJ 3 rfl (U M) J (aJ 4 rfl (.slice c n cp) J (aJ 5 rfl (U M) J (a5 6 rfl (fun _=>aH aY rfl rfl (by omega) (ak.ok ((aB Y).2) (a7 (by omega)))) (fun _=>J) ?_)))))))
 refine cT 7 rfl (fun w' O=>ld ba rfl (bq (i:=M) ((aB Y).2.wk O) (by omega))) J (aJ 8 rfl (.slice c n cp) J (aJ 9 rfl (U A) J (a5 10 rfl (fun _=>aH aY rfl rfl (by omega) (ak.ok ((aB Y).2) (a7 (by omega)))) (fun _=>J) (cT 11 rfl (fun w' O=>ld ba rfl (bq (i:=A) ((aB Y).2.wk O) (by omega))) J (a5 12 rfl (fun _=>aH aY rfl rfl (by omega) (ak.ok ((aB Y).2) (a7 (by omega)))) (fun _=>J) (bJ 13 rfl (by kernel_rfl) (by kernel_rfl) (dq (u:=s[M]!) (A) (aE Y J) di rfl rfl rfl (by omega) fun b3 bb bv=> ?_)))))))
 refine a5 14 rfl (fun _=>aH aY rfl rfl (by omega) (ak.ok ((aB Y).2) (a7 (by omega)))) (fun h=>Bool.noConfusion ((show true =_ from by kernel_rfl).trans h)) (bJ 15 rfl (by kernel_rfl) (by kernel_rfl) (dq (u:=s[A]!) (M) bv di rfl rfl rfl (by omega) fun wPY2 bd bx=> ?_))
 have bj:wPY2.ownsRow B 71 1 (.slice c n cp) n (LE az (Go.Sort.swp s (A) (M))):=bx
 have a9:Md (fun q=>(Value.slice c n cp).ownBlock=some q) am wPY2:=Md.trans (J.mono (fun _ _ h=>h.elim)) (Md.trans bb bd)
 refine c9 (by kernel_rfl) ?_
 refine tn (aD _ _ (ab (fun _ aX=>(ae (U A) (p (a8 ((A+1:Nat):Int) rfl rfl (aI (by omega) (by omega))) (ag (((aX _ _ ?_)))))))))
 exact rg rfl (ae (U M) (p (bK ((M - 1:Nat):Int) rfl rfl (aI (by omega) (by omega))) (p aw (nl (bn (tn (⟨_,by omega,A+1,M - 1,Go.Sort.swp s A M,(by omega),((by rw [← aP,uV aQ aO,if_neg (by omega),if_pos (by omega)])),bj,(Md.trans aN a9),rfl,rfl,rfl,rfl,rfl⟩)))))))
end Go.Hb.q4
end
section
set_option maxRecDepth 20000
set_option maxHeartbeats 1000000
namespace Go.Hb.q5
open Go.Hb.cJ
open Go.Proofs
open Go.Hb.kg
theorem Ee {d:Array Nat} {a b s i i2:Nat} (h0:0 < s) (h:Go.Sort.scanSorted a4 d b i=i2) (h1:i2=b):Go.Sort.partialIns a4 a b s i d=(d,true):=by
 cases s with
 | zero=>omega
 | succ s=>rw [Go.Sort.partialIns]; simp only [h,if_pos h1]
theorem Ef {d:Array Nat} {a b s i i2:Nat} (h0:0 < s) (h:Go.Sort.scanSorted a4 d b i=i2) (h1:¬i2=b) (h2:b - a < 50):Go.Sort.partialIns a4 a b s i d=(d,false):=by
 cases s with
 | zero=>omega
 | succ s=>rw [Go.Sort.partialIns]; simp only [h,if_neg h1,if_pos h2]
theorem qs {d c dh:Array Nat} {a b s i i2:Nat} (h0:0 < s) (h:Go.Sort.scanSorted a4 d b i=i2) (h1:¬i2=b) (h2:¬b - a < 50)
 (hg:c=if i2 - a≥2 then Go.Sort.shiftDown a4 (i2 - 1) (Go.Sort.swp d i2 (i2 - 1)) else Go.Sort.swp d i2 (i2 - 1)) (hh:dh=if b - i2≥2 then Go.Sort.shiftUp a4 b (i2+1) c else c):
 Go.Sort.partialIns a4 a b s i d=Go.Sort.partialIns a4 a b (s - 1) i2 dh:=by
 cases s with
 | zero=>omega
 | succ s=>rw [Go.Sort.partialIns]; simp only [h,if_neg h1,if_neg h2]; rw [← hg,← hh]; rfl
theorem Eo (d:Array Nat) (a b:Nat) (B n cp:Nat) (c:Option Addr) (w:World) (bS:w.ownsRow B 71 1 (.slice c n cp) n (LE az d)) (cN:a < b∧b≤n) (cP:n≤1099511627776):
 aT Tryz.prog 161 (List.toArray [.slice c n cp,U a,U b]) w (fun v w'=>v= .bool (Go.Sort.partialInsertionSort a4 d a b).2∧w'.ownsRow B 71 1 (.slice c n cp) n (LE az (Go.Sort.partialInsertionSort a4 d a b).1)∧Md (fun q=>(Value.slice c n cp).ownBlock=some q) w w'):=by
 refine enter Tryz.func161 rfl Tryz.ntmps161 rfl ?_
 refine ab (fun _ bw=>(ag (((bw _ _ (ab (fun _ bz=>(ae (U a) ?_))))))))
 refine p (a8 ((a+1:Nat):Int) rfl rfl (aI (by omega) (by omega))) (ag (((bz _ _ (sq (fun _ bA=>ab (fun _ bB=>(p aw ?_))))))))
 refine aj ((bB _ _ (au (lp (fun M ax bi=> ∃ (s i:Nat) (C:Array Nat),(a+1≤i∧i≤b∧s≤5)∧(Go.Sort.partialIns a4 a b (5 - s) i C=(Go.Sort.partialInsertionSort a4 d a b))∧(bi.ownsRow B 71 1 (.slice c n cp) n (LE az C))∧(Md (fun q=>(Value.slice c n cp).ownBlock=some q) w bi)∧(ax 0= .slice c n cp)∧(ax 1=U a)∧(ax 2=U b)∧(ax 7=U i)∧(ax 8=U s)∧(5 - s=M)) _ ⟨0,a+1,d,(by omega),rfl,bS,(Md.refl _ _),rfl,rfl,rfl,rfl,rfl,rfl⟩ ?_))))
 rintro M ax bi ⟨s,i,C,hi,av,bp,bj,ce,cg,ch,ci,cj,rfl⟩
 refine fx 0 ce (fx 1 cg (fx 2 ch (fx 7 ci (fx 8 cj (sq (fun _ bC=>ab (fun _ bD=>(ae (U s) (p (lt rfl rfl) (aj ((bD _ _ ?_))))))))))))
 refine cd rfl (fun bZ=> ?_) (fun bZ=> ?_)
 refine aA (tn (bC _ _ (sq (fun _ aF=>au ?_))))
 refine dm (fun ay wC=> ∃ (i2:Nat),(i≤i2∧i2≤b)∧(Go.Sort.scanSorted a4 C b i=i2)∧(wC.ownsRow B 71 1 (.slice c n cp) n (LE az C))∧(Md (fun q=>(Value.slice c n cp).ownBlock=some q) w wC)∧(ay 0= .slice c n cp)∧(ay 1=U a)∧(ay 2=U b)∧(ay 7=U i2)∧(ay 8=U s)) ?_ ?_
 refine au (lp (fun M aC am=> ∃ (q:Nat),(i≤q∧q≤b)∧(Go.Sort.scanSorted a4 C b q=Go.Sort.scanSorted a4 C b i)∧(am.ownsRow B 71 1 (.slice c n cp) n (LE az C))∧(Md (fun q=>(Value.slice c n cp).ownBlock=some q) w am)∧(aC 0= .slice c n cp)∧(aC 1=U a)∧(aC 2=U b)∧(aC 7=U q)∧(aC 8=U s)∧(b - q=M)) _ ⟨i,(by omega),rfl,bp,bj,rfl,rfl,rfl,rfl,rfl,rfl⟩ ?_)
 rintro M aC am ⟨q,bv,hq2,Z,a0,cr,cs,ct,cu,cv,rfl⟩
 refine fx 0 cr (fx 1 cs (fx 2 ct (fx 7 cu (fx 8 cv (sq (fun _ aX=>sq (fun _ aG=> ?_)))))))
 have hdcn:=cY Z
 have j:(fun w'=>Wk am w') am.drew:=(Md.refl _ _).drew
 refine bF (fun w'=>Wk am w') rfl wide j (bm 0 rfl (U q) j (bm 1 rfl (U b) j (aK 2 rfl (fun _ _=>lt rfl rfl) j (aK 3 rfl (fun _ _=>mv) j (ir (t:=20) rfl (fun b5=> ?_) (fun b5=> ?_))))))
 refine a3 4 rfl (by kernel_rfl) rfl rfl rfl (fun _ _=>ao (.slice c n cp) rfl) j (a3 5 rfl (by kernel_rfl) rfl rfl rfl (fun _ _=>ao (U q) rfl) j (a3 6 rfl (by kernel_rfl) rfl rfl rfl (fun _ _=>aH aY rfl rfl (by omega) (ak.ok ((aB Z).2) (a7 (by omega)))) j (a3 7 rfl (by kernel_rfl) rfl rfl rfl (fun w' A=>ld ba rfl (bq (i:=q) ((aB Z).2.wk A) (by omega))) j (a3 8 rfl (by kernel_rfl) rfl rfl rfl (fun _ _=>ao (.slice c n cp) rfl) j (a3 9 rfl (by kernel_rfl) rfl rfl rfl (fun _ _=>ao (U q) rfl) j (a3 10 rfl (by kernel_rfl) rfl rfl rfl (fun _ _=>bK ((q - 1:Nat):Int) rfl rfl (aI (by omega) (by omega))) j (a3 11 rfl (by kernel_rfl) rfl rfl rfl (fun _ _=>aH aY rfl rfl (by omega) (ak.ok ((aB Z).2) (a7 (by omega)))) j ?_)))))))
 refine a3 12 rfl (by kernel_rfl) rfl rfl rfl (fun w' A=>ld ba rfl (bq (i:=q - 1) ((aB Z).2.wk A) (by omega))) j (iV 13 rfl (by kernel_rfl) rfl rfl rfl (cl gn (gu C[q]! C[q - 1]! _) rfl fun v30 w30 bW=> ?_))
 obtain ⟨rfl,bG⟩:=bW
 have ah:(fun w'=>Wk am w') w30:=Md.trans j bG
 refine ⟨ah,?_⟩
 refine a3 14 rfl (by kernel_rfl) rfl rfl rfl (fun _ _=>no rfl) ah (aK 15 rfl (fun _ _=>bu rfl) ah (hn (by kernel_rfl) (tn (aG _ _ (cb rfl (fun a9=> ?_) (fun a9=> ?_))))))
 refine aA (tn (aX _ _ (au (rg rfl (ae (U q) (p (a8 ((q+1:Nat):Int) rfl rfl (aI (by omega) (by omega))) (p aw (nl ?_))))))))
 exact bn (tn (⟨_,by omega,q+1,(by omega),((by rw [← hq2,FB (show q < b by omega) (by simpa using a9)])),(aE Z ah),(Md.trans a0 (ah.mono (fun _ _ h=>h.elim))),rfl,rfl,rfl,rfl,rfl,rfl⟩))
 exact ext (te _ (te _ (be (tn (⟨q,(by omega),((by rw [← hq2,vE (.inr (by simpa using a9))])),(aE Z ah),(Md.trans a0 (ah.mono (fun _ _ h=>h.elim))),rfl,rfl,rfl,rfl,rfl⟩)))))
 refine aV 4 rfl (by kernel_rfl) rfl rfl rfl rfl j ?_
 refine aV 5 rfl (by kernel_rfl) rfl rfl rfl rfl j ?_
 refine aV 6 rfl (by kernel_rfl) rfl rfl rfl rfl j ?_
 refine aV 7 rfl (by kernel_rfl) rfl rfl rfl rfl j ?_
 refine aV 8 rfl (by kernel_rfl) rfl rfl rfl rfl j ?_
 refine aV 9 rfl (by kernel_rfl) rfl rfl rfl rfl j ?_
 refine aV 10 rfl (by kernel_rfl) rfl rfl rfl rfl j ?_
 refine aV 11 rfl (by kernel_rfl) rfl rfl rfl rfl j ?_
 refine aV 12 rfl (by kernel_rfl) rfl rfl rfl rfl j ?_
 refine aV 13 rfl (by kernel_rfl) rfl rfl rfl rfl j ?_
 refine aV 14 rfl (by kernel_rfl) rfl rfl rfl rfl j ?_
 refine aK 15 rfl (fun _ _=>bc rfl) j (hn (by kernel_rfl) (tn (aG _ _ (cf rfl (ext (te _ (te _ (be ?_))))))))
 exact tn (⟨q,(by omega),((by rw [← hq2,vE (.inl (by omega))])),(aE Z (Md.refl _ _).drew),a0.drew,rfl,rfl,rfl,rfl,rfl⟩)
 rintro ay wC ⟨i2,cO,hsc,Y,aL,ck,cm,cn,co,cq⟩
 refine fx 0 ck (fx 1 cm (fx 2 cn (fx 7 co (fx 8 cq (sq (fun _ aX=>ab (fun _ aG=>(ae (U i2) (ae (U b) (p (bo rfl rfl) (nl ?_)))))))))))
 refine tn (aG _ _ (cd rfl (fun b0=> ?_) (fun b0=> ?_)))
 refine ab (fun _ aM=>(ag (((aM _ _ (rt (tr (br ?_))))))))
 refine tr (tr (br (tr (f1 rfl rfl ?_))))
 have hz:(Go.Sort.partialInsertionSort a4 d a b)=(C,true):=by rw [← av,Ee (show 0 < 5 - s by omega) hsc (by omega)]
 exact ⟨by rw [hz]; rfl,by rw [hz]; exact Y,aL⟩
 have aZ:¬i2=b:=by omega
 refine aA (tn (aX _ _ (sq (fun _ aM=>ab (fun _ bx=>(ae (U b) (ae (U a) (p (bK ((b - a:Nat):Int) rfl rfl (aI (by omega) (by omega))) ?_))))))))
 refine p (lt rfl rfl) (aj ((bx _ _ (cd rfl (fun b1=> ?_) (fun b1=> ?_)))))
 refine ab (fun _ aN=>(ag (((aN _ _ (rt (tr (br ?_))))))))
 refine tr (tr (br (tr (f1 rfl rfl ?_))))
 have hz:(Go.Sort.partialInsertionSort a4 d a b)=(C,false):=by rw [← av,Ef (show 0 < 5 - s by omega) hsc (by omega) (by omega)]
 exact ⟨by rw [hz]; rfl,by rw [hz]; exact Y,aL⟩
 refine aA (tn (aM _ _ (sq (fun _ aN=> ?_))))
 have hdcn:=cY Y
 have E:(fun w'=>Wk wC w') wC.drew:=(Md.refl _ _).drew
 refine da (fun w'=>Wk wC w') 15 rfl wide E (aJ 0 rfl (.slice c n cp) E (aJ 1 rfl (U i2) E (aJ 2 rfl (.slice c n cp) E (aJ 3 rfl (U i2) E (a5 4 rfl (fun _=>bK ((i2 - 1:Nat):Int) rfl rfl (aI (by omega) (by omega))) (fun _=>E) (aJ 5 rfl (.slice c n cp) E (aJ 6 rfl (U i2) E ?_)))))))
 refine a5 7 rfl (fun _=>bK ((i2 - 1:Nat):Int) rfl rfl (aI (by omega) (by omega))) (fun _=>E) (a5 8 rfl (fun _=>aH aY rfl rfl (by omega) (ak.ok ((aB Y).2) (a7 (by omega)))) (fun _=>E) (cT 9 rfl (fun w' A=>ld ba rfl (bq (i:=i2 - 1) ((aB Y).2.wk A) (by omega))) E (aJ 10 rfl (.slice c n cp) E (aJ 11 rfl (U i2) E (a5 12 rfl (fun _=>aH aY rfl rfl (by omega) (ak.ok ((aB Y).2) (a7 (by omega)))) (fun _=>E) (cT 13 rfl (fun w' A=>ld ba rfl (bq (i:=i2) ((aB Y).2.wk A) (by omega))) E (a5 14 rfl (fun _=>aH aY rfl rfl (by omega) (ak.ok ((aB Y).2) (a7 (by omega)))) (fun _=>E) ?_)))))))
 refine bJ 15 rfl (by kernel_rfl) (by kernel_rfl) (dq (u:=C[i2 - 1]!) (i2) (aE Y E) di rfl rfl rfl (by omega) fun cS bI b6=> ?_)
 refine a5 16 rfl (fun _=>aH aY rfl rfl (by omega) (ak.ok ((aB Y).2) (a7 (by omega)))) (fun h=>Bool.noConfusion ((show true =_ from by kernel_rfl).trans h)) (bJ 17 rfl (by kernel_rfl) (by kernel_rfl) (dq (u:=C[i2]!) (i2 - 1) b6 di rfl rfl rfl (by omega) fun wP12 bL b7=> ?_))
 have bt:wP12.ownsRow B 71 1 (.slice c n cp) n (LE az (Go.Sort.swp C (i2) (i2 - 1))):=b7
 have bk:Md (fun q=>(Value.slice c n cp).ownBlock=some q) wC wP12:=Md.trans (E.mono (fun _ _ h=>h.elim)) (Md.trans bI bL)
 refine c9 (by kernel_rfl) ?_
 refine tn (aN _ _ ?_)
 refine dm (fun aD bh=> ∃ (ad:Array Nat),(ad=if i2 - a≥2 then Go.Sort.shiftDown a4 (i2 - 1) (Go.Sort.swp C i2 (i2 - 1)) else (Go.Sort.swp C i2 (i2 - 1)))∧(bh.ownsRow B 71 1 (.slice c n cp) n (LE az ad))∧(Md (fun q=>(Value.slice c n cp).ownBlock=some q) w bh)∧(aD 0= .slice c n cp)∧(aD 1=U a)∧(aD 2=U b)∧(aD 7=U i2)∧(aD 8=U s)) ?_ ?_
 refine ab (fun _ aO=>(ae (U i2) (ae (U a) (p (bK ((i2 - a:Nat):Int) rfl rfl (aI (by omega) (by omega))) (p (ge rfl rfl) (aj ((aO _ _ ?_))))))))
 refine cd rfl (fun b2=> ?_) (fun b2=> ?_)
 refine ab (fun _ aP=>(ae (U i2) (p (bK ((i2 - 1:Nat):Int) rfl rfl (aI (by omega) (by omega))) (ag (((aP _ _ (au ?_))))))))
 refine lp (fun M an ai=> ∃ (q:Nat) (J:Array Nat),(q≤i2 - 1)∧(Go.Sort.shiftDown a4 q J=Go.Sort.shiftDown a4 (i2 - 1) (Go.Sort.swp C i2 (i2 - 1)))∧(ai.ownsRow B 71 1 (.slice c n cp) n (LE az J))∧(Md (fun q=>(Value.slice c n cp).ownBlock=some q) w ai)∧(an 0= .slice c n cp)∧(an 1=U a)∧(an 2=U b)∧(an 7=U i2)∧(an 8=U s)∧(an 9=U q)∧(q=M)) _ ⟨i2 - 1,(Go.Sort.swp C i2 (i2 - 1)),(by omega),rfl,bt,(Md.trans aL bk),rfl,rfl,rfl,rfl,rfl,rfl,rfl⟩ ?_
 rintro M an ai ⟨q,J,bv,bf,aa,a1,cB,cC,cD,cE,cF,cG,rfl⟩
 refine fx 0 cB (fx 1 cC (fx 2 cD (fx 7 cE (fx 8 cF (fx 9 cG (sq (fun _ aQ=>ab (fun _ aR=>(ae (U q) (p (ge rfl rfl) (aj ((aR _ _ ?_)))))))))))))
 refine cd rfl (fun b3=> ?_) (fun b3=> ?_)
 refine aA (tn (aQ _ _ (sq (fun _ aS=>au (sq (fun _ aU=>sq (fun _ aW=> ?_)))))))
 have hdfn:=cY aa
 have O:(fun w'=>Wk ai w') ai.drew:=(Md.refl _ _).drew
 refine bF (fun w'=>Wk ai w') rfl wide O (bm 0 rfl (.slice c n cp) O (bm 1 rfl (U q) O (aK 2 rfl (fun _ _=>aH aY rfl rfl (by omega) (ak.ok ((aB aa).2) (a7 (by omega)))) O (aK 3 rfl (fun w' A=>ld ba rfl (bq (i:=q) ((aB aa).2.wk A) (by omega))) O (bm 4 rfl (.slice c n cp) O (bm 5 rfl (U q) O (aK 6 rfl (fun _ _=>bK ((q - 1:Nat):Int) rfl rfl (aI (by omega) (by omega))) O ?_)))))))
 refine aK 7 rfl (fun _ _=>aH aY rfl rfl (by omega) (ak.ok ((aB aa).2) (a7 (by omega)))) O (aK 8 rfl (fun w' A=>ld ba rfl (bq (i:=q - 1) ((aB aa).2.wk A) (by omega))) O (he 9 rfl (by kernel_rfl) (cl gn (gu J[q]! J[q - 1]! _) rfl fun cR w77 bX=> ?_)))
 obtain ⟨rfl,bH⟩:=bX
 have aq:(fun w'=>Wk ai w') w77:=Md.trans O bH
 refine ⟨aq,?_⟩
 refine aK 10 rfl (fun _ _=>no rfl) aq (hn (by kernel_rfl) (tn (aW _ _ (cb rfl (fun bb=> ?_) (fun bb=> ?_)))))
 exact ext (te _ (iN (by decide) (te _ (te _ (be (tn (⟨J,((by rw [if_pos (by omega),← bf,vp (.inr (by simpa using bb))])),(aE aa aq),(Md.trans a1 (aq.mono (fun _ _ h=>h.elim))),rfl,rfl,rfl,rfl,rfl⟩)))))))
 refine aA (tn (aU _ _ ?_))
 have hO7:=aE aa aq
 have hS17:(fun w'=>Wk w77 w') w77.drew:=(Md.refl _ _).drew
 refine da (fun w'=>Wk w77 w') 15 rfl wide hS17 (aJ 0 rfl (.slice c n cp) hS17 (aJ 1 rfl (U q) hS17 (aJ 2 rfl (.slice c n cp) hS17 (aJ 3 rfl (U q) hS17 (a5 4 rfl (fun _=>bK ((q - 1:Nat):Int) rfl rfl (aI (by omega) (by omega))) (fun _=>hS17) (aJ 5 rfl (.slice c n cp) hS17 (aJ 6 rfl (U q) hS17 ?_)))))))
 refine a5 7 rfl (fun _=>bK ((q - 1:Nat):Int) rfl rfl (aI (by omega) (by omega))) (fun _=>hS17) (a5 8 rfl (fun _=>aH aY rfl rfl (by omega) (ak.ok ((aB hO7).2) (a7 (by omega)))) (fun _=>hS17) (cT 9 rfl (fun w' A=>ld ba rfl (bq (i:=q - 1) ((aB hO7).2.wk A) (by omega))) hS17 (aJ 10 rfl (.slice c n cp) hS17 (aJ 11 rfl (U q) hS17 (a5 12 rfl (fun _=>aH aY rfl rfl (by omega) (ak.ok ((aB hO7).2) (a7 (by omega)))) (fun _=>hS17) (cT 13 rfl (fun w' A=>ld ba rfl (bq (i:=q) ((aB hO7).2.wk A) (by omega))) hS17 (a5 14 rfl (fun _=>aH aY rfl rfl (by omega) (ak.ok ((aB hO7).2) (a7 (by omega)))) (fun _=>hS17) ?_)))))))
 refine bJ 15 rfl (by kernel_rfl) (by kernel_rfl) (dq (u:=J[q - 1]!) (q) (aE hO7 hS17) di rfl rfl rfl (by omega) fun cU bN b8=> ?_)
 refine a5 16 rfl (fun _=>aH aY rfl rfl (by omega) (ak.ok ((aB hO7).2) (a7 (by omega)))) (fun h=>Bool.noConfusion ((show true =_ from by kernel_rfl).trans h)) (bJ 17 rfl (by kernel_rfl) (by kernel_rfl) (dq (u:=J[q]!) (q - 1) b8 di rfl rfl rfl (by omega) fun wP22 bO b9=> ?_))
 have bT:wP22.ownsRow B 71 1 (.slice c n cp) n (LE az (Go.Sort.swp J (q) (q - 1))):=b9
 have bM:Md (fun q=>(Value.slice c n cp).ownBlock=some q) w77 wP22:=Md.trans (hS17.mono (fun _ _ h=>h.elim)) (Md.trans bN bO)
 refine c9 (by kernel_rfl) ?_
 refine bn (tn (aS _ _ (rg rfl (ae (U q) (p (bK ((q - 1:Nat):Int) rfl rfl (aI (by omega) (by omega))) (p aw (nl (tn ?_))))))))
 exact ⟨_,by omega,q - 1,Go.Sort.swp J q (q - 1),(by omega),((by rw [← bf,E7 (show 0 < q by omega) (by simpa using bb)])),bT,(Md.trans a1 (Md.trans (aq.mono (fun _ _ h=>h.elim)) bM)),rfl,rfl,rfl,rfl,rfl,rfl,rfl⟩
 exact ext (te _ (te _ (be (tn (⟨J,((by rw [if_pos (by omega),← bf,vp (.inl (by omega))])),aa,a1,rfl,rfl,rfl,rfl,rfl⟩)))))
 exact aA (tn (⟨(Go.Sort.swp C i2 (i2 - 1)),((by rw [if_neg (by omega)])),bt,(Md.trans aL bk),rfl,rfl,rfl,rfl,rfl⟩))
 rintro aD bh ⟨ad,bd,bs,bl,cw,cx,cy,cz,cA⟩
 refine fx 0 cw (fx 1 cx (fx 2 cy (fx 7 cz (fx 8 cA (ab (fun _ aO=>(ae (U b) (ae (U i2) (p (bK ((b - i2:Nat):Int) rfl rfl (aI (by omega) (by omega))) (p (ge rfl rfl) (nl ?_)))))))))))
 refine tn (aO _ _ (cd rfl (fun b4=> ?_) (fun b4=> ?_)))
 refine ab (fun _ aP=>(ae (U i2) (p (a8 ((i2+1:Nat):Int) rfl rfl (aI (by omega) (by omega))) (ag (((aP _ _ (au ?_))))))))
 refine lp (fun M ap al=> ∃ (q:Nat) (I:Array Nat),(i2+1≤q∧q≤b)∧(Go.Sort.shiftUp a4 b q I=Go.Sort.shiftUp a4 b (i2+1) ad)∧(al.ownsRow B 71 1 (.slice c n cp) n (LE az I))∧(Md (fun q=>(Value.slice c n cp).ownBlock=some q) w al)∧(ap 0= .slice c n cp)∧(ap 1=U a)∧(ap 2=U b)∧(ap 7=U i2)∧(ap 8=U s)∧(ap 10=U q)∧(b - q=M)) _ ⟨i2+1,ad,(by omega),rfl,bs,bl,rfl,rfl,rfl,rfl,rfl,rfl,rfl⟩ ?_
 rintro M ap al ⟨q,I,bv,bg,ac,a2,cH,cI,cK,cL,cM,cJ,rfl⟩
 refine fx 0 cH (fx 1 cI (fx 2 cK (fx 7 cL (fx 8 cM (fx 10 cJ (sq (fun _ aQ=>ab (fun _ aR=>(ae (U q) (ae (U b) (p (lt rfl rfl) (nl ?_))))))))))))
 refine tn (aR _ _ (cd rfl (fun bY=> ?_) (fun bY=> ?_)))
 refine aA (tn (aQ _ _ (sq (fun _ aS=>au (sq (fun _ aU=>sq (fun _ aW=> ?_)))))))
 have hdkn:=cY ac
 have V:(fun w'=>Wk al w') al.drew:=(Md.refl _ _).drew
 refine bF (fun w'=>Wk al w') rfl wide V (bm 0 rfl (.slice c n cp) V (bm 1 rfl (U q) V (aK 2 rfl (fun _ _=>aH aY rfl rfl (by omega) (ak.ok ((aB ac).2) (a7 (by omega)))) V (aK 3 rfl (fun w' A=>ld ba rfl (bq (i:=q) ((aB ac).2.wk A) (by omega))) V (bm 4 rfl (.slice c n cp) V (bm 5 rfl (U q) V (aK 6 rfl (fun _ _=>bK ((q - 1:Nat):Int) rfl rfl (aI (by omega) (by omega))) V ?_)))))))
 refine aK 7 rfl (fun _ _=>aH aY rfl rfl (by omega) (ak.ok ((aB ac).2) (a7 (by omega)))) V (aK 8 rfl (fun w' A=>ld ba rfl (bq (i:=q - 1) ((aB ac).2.wk A) (by omega))) V (he 9 rfl (by kernel_rfl) (cl gn (gu I[q]! I[q - 1]! _) rfl fun cQ w115 bV=> ?_)))
 obtain ⟨rfl,bE⟩:=bV
 have ar:(fun w'=>Wk al w') w115:=Md.trans V bE
 refine ⟨ar,?_⟩
 refine aK 10 rfl (fun _ _=>no rfl) ar (hn (by kernel_rfl) (tn (aW _ _ (cb rfl (fun a6=> ?_) (fun a6=> ?_)))))
 refine ext (te _ (iN (by decide) (te _ (te _ (be (bn (tn (aF _ _ ?_))))))))
 exact rg rfl (ae (U s) (p (a8 ((s+1:Nat):Int) rfl rfl (aI (by omega) (by omega))) (ag (((⟨_,by omega,s+1,i2,I,(by omega),((by rw [← av,qs (show 0 < 5 - s by omega) hsc aZ (by omega) bd (show I=_ by rw [if_pos (by omega),← bg,vH (.inr (by simpa using a6))])]; rfl)),(aE ac ar),(Md.trans a2 (ar.mono (fun _ _ h=>h.elim))),rfl,rfl,rfl,rfl,rfl,rfl⟩))))))
 refine aA (tn (aU _ _ ?_))
 have hO8:=aE ac ar
 have G:(fun w'=>Wk w115 w') w115.drew:=(Md.refl _ _).drew
 refine da (fun w'=>Wk w115 w') 15 rfl wide G (aJ 0 rfl (.slice c n cp) G (aJ 1 rfl (U q) G (aJ 2 rfl (.slice c n cp) G (aJ 3 rfl (U q) G (a5 4 rfl (fun _=>bK ((q - 1:Nat):Int) rfl rfl (aI (by omega) (by omega))) (fun _=>G) (aJ 5 rfl (.slice c n cp) G (aJ 6 rfl (U q) G ?_)))))))
 refine a5 7 rfl (fun _=>bK ((q - 1:Nat):Int) rfl rfl (aI (by omega) (by omega))) (fun _=>G) (a5 8 rfl (fun _=>aH aY rfl rfl (by omega) (ak.ok ((aB hO8).2) (a7 (by omega)))) (fun _=>G) (cT 9 rfl (fun w' A=>ld ba rfl (bq (i:=q - 1) ((aB hO8).2.wk A) (by omega))) G (aJ 10 rfl (.slice c n cp) G (aJ 11 rfl (U q) G (a5 12 rfl (fun _=>aH aY rfl rfl (by omega) (ak.ok ((aB hO8).2) (a7 (by omega)))) (fun _=>G) (cT 13 rfl (fun w' A=>ld ba rfl (bq (i:=q) ((aB hO8).2.wk A) (by omega))) G (a5 14 rfl (fun _=>aH aY rfl rfl (by omega) (ak.ok ((aB hO8).2) (a7 (by omega)))) (fun _=>G) ?_)))))))
 refine bJ 15 rfl (by kernel_rfl) (by kernel_rfl) (dq (u:=I[q - 1]!) (q) (aE hO8 G) di rfl rfl rfl (by omega) fun cV bQ ca=> ?_)
 refine a5 16 rfl (fun _=>aH aY rfl rfl (by omega) (ak.ok ((aB hO8).2) (a7 (by omega)))) (fun h=>Bool.noConfusion ((show true =_ from by kernel_rfl).trans h)) (bJ 17 rfl (by kernel_rfl) (by kernel_rfl) (dq (u:=I[q]!) (q - 1) ca di rfl rfl rfl (by omega) fun wP32 bR cc=> ?_))
 have bU:wP32.ownsRow B 71 1 (.slice c n cp) n (LE az (Go.Sort.swp I (q) (q - 1))):=cc
 have bP:Md (fun q=>(Value.slice c n cp).ownBlock=some q) w115 wP32:=Md.trans (G.mono (fun _ _ h=>h.elim)) (Md.trans bQ bR)
 refine c9 (by kernel_rfl) ?_
 refine bn (tn (aS _ _ (rg rfl (ae (U q) (p (a8 ((q+1:Nat):Int) rfl rfl (aI (by omega) (by omega))) (p aw (nl (tn ?_))))))))
 exact ⟨_,by omega,q+1,Go.Sort.swp I q (q - 1),(by omega),((by rw [← bg,FJ (show q < b by omega) (by simpa using a6)])),bU,(Md.trans a2 (Md.trans (ar.mono (fun _ _ h=>h.elim)) bP)),rfl,rfl,rfl,rfl,rfl,rfl,rfl⟩
 refine ext (te _ (te _ (be (bn (tn (aF _ _ (rg rfl (ae (U s) ?_))))))))
 exact p (a8 ((s+1:Nat):Int) rfl rfl (aI (by omega) (by omega))) (ag (((⟨_,by omega,s+1,i2,I,(by omega),((by rw [← av,qs (show 0 < 5 - s by omega) hsc aZ (by omega) bd (show I=_ by rw [if_pos (by omega),← bg,vH (.inl (by omega))])]; rfl)),ac,a2,rfl,rfl,rfl,rfl,rfl,rfl⟩))))
 refine aA (bn (tn (aF _ _ (rg rfl (ae (U s) (p (a8 ((s+1:Nat):Int) rfl rfl (aI (by omega) (by omega))) (p aw (nl ?_))))))))
 exact tn (⟨_,by omega,s+1,i2,ad,(by omega),((by rw [← av,qs (show 0 < 5 - s by omega) hsc aZ (by omega) bd (show ad=_ by rw [if_neg (by omega)])]; rfl)),bs,bl,rfl,rfl,rfl,rfl,rfl,rfl⟩)
 refine ext (te _ (te _ (be (tn (bA _ _ (ab (fun _ aF=>(p aw ?_))))))))
 refine aj ((aF _ _ (rt (f1 rfl rfl ?_))))
 have hz:(Go.Sort.partialInsertionSort a4 d a b)=(C,false):=by rw [← av,show 5 - s=0 by omega]; rfl
 exact ⟨by rw [hz]; rfl,by rw [hz]; exact bp,bj⟩
end Go.Hb.q5
end
section
set_option maxRecDepth 20000
set_option maxHeartbeats 1000000
namespace Go.Hb.oD
open Go.Hb.cJ
open Go.Proofs
open Go.Hb.kg Go.Hb.q4 Go.Hb.q5 Go.Hb.mR
theorem D9 (d:Array Nat) (a b i:Nat) (B n cp:Nat) (c:Option Addr) (w:World) (p:w.ownsRow B 71 1 (.slice c n cp) n (LE az d)) (s:a≤i∧i < b∧b≤n) (A:n≤1099511627776):aT Tryz.prog 164 (List.toArray [.slice c n cp,.int .i64 (a:Nat),.int .i64 (b:Nat),.int .i64 (i:Nat)]) w
 (fun v w'=> ∃ j ap d4,Go.Sort.partition a4 d a b i=(j,ap,d4)∧v= .tuple #[.int .i64 (j:Nat),.bool ap]∧w'.ownsRow B 71 1 (.slice c n cp) n (LE az d4)∧Md (fun q=>(Value.slice c n cp).ownBlock=some q) w w'):=
 (D8 d a b i B n cp c w p s A).mono fun _ _ h=>⟨_,_,_,rfl,h⟩
theorem Eb (d:Array Nat) (a b i:Nat) (B n cp:Nat) (c:Option Addr) (w:World) (p:w.ownsRow B 71 1 (.slice c n cp) n (LE az d)) (s:a≤i∧i < b∧b≤n) (A:n≤1099511627776):aT Tryz.prog 163 (List.toArray [.slice c n cp,.int .i64 (a:Nat),.int .i64 (b:Nat),.int .i64 (i:Nat)]) w
 (fun v w'=> ∃ j d4,Go.Sort.partitionEqual a4 d a b i=(j,d4)∧v= .int .i64 (j:Nat)∧w'.ownsRow B 71 1 (.slice c n cp) n (LE az d4)∧Md (fun q=>(Value.slice c n cp).ownBlock=some q) w w'):=
 (Ea d a b i B n cp c w p s A).mono fun _ _ h=>⟨_,_,rfl,h⟩
theorem Ec (m:Nat) (d:Array Nat) (a b Z:Nat) (B n cp:Nat) (s:Option Addr) (w:World) (bj:w.ownsRow B 71 1 (.slice s n cp) n (LE az d)) (hm:b - a < m) (c5:a≤b∧b≤n) (cq:n≤255) (hl:Z≤64) (bI:Go.Sort.Below a4 a b d):
 aT Tryz.prog 138 (List.toArray [.slice s n cp,U a,U b,U Z]) w (fun v w'=> ∃ d1,v= .tuple #[]∧Go.Sort.PermIn a b d d1∧Go.Sort.SortedIn a4 a b d1∧w'.ownsRow B 71 1 (.slice s n cp) n (LE az d1)∧Md (fun q=>(Value.slice s n cp).ownBlock=some q) w w'):=by
 have bw:True:=trivial
 induction m generalizing d a b Z w with
 | zero=>omega
 | succ m bw=>
   have ih:∀ (d:Array Nat) (a b Z:Nat) (w:World),w.ownsRow B 71 1 (.slice s n cp) n (LE az d)→b - a < m→(a≤b∧b≤n)→Z≤64→Go.Sort.Below a4 a b d→_:=fun d a b Z w h1 h2 h3 h4 h5=>bw d a b Z w h1 h2 h3 h4 h5
   have hdn:=cY bj
   refine enter Tryz.func138 rfl Tryz.ntmps138 rfl ?_
   refine ab (fun _ bz=>(ag (((bz _ _ (ab (fun _ bC=>(p aw ?_))))))))
   refine aj ((bC _ _ (au (lp (fun bf al bd=> ∃ (c j aa:Nat) (J wp:Bool) (A:Array Nat),(a≤c∧c≤j∧j≤b∧aa≤64)∧(Go.Sort.Below a4 c j A)∧(∀ R,Go.Sort.PermIn c j A R→Go.Sort.SortedIn a4 c j R→Go.Sort.PermIn a b d R∧Go.Sort.SortedIn a4 a b R)∧(bd.ownsRow B 71 1 (.slice s n cp) n (LE az A))∧(Md (fun q=>(Value.slice s n cp).ownBlock=some q) w bd)∧(al 0= .slice s n cp)∧(al 1=U c)∧(al 2=U j)∧(al 3=U aa)∧(al 8= .bool J)∧(al 9= .bool wp)∧(j - c=bf)) _ ⟨a,b,Z,true,true,d,(by omega),bI,(fun R h1 h2=>⟨h1,h2⟩),bj,(Md.refl _ _),rfl,rfl,rfl,rfl,rfl,rfl,rfl⟩ ?_))))
   rintro bf al bd ⟨c,j,aa,J,wp,A,hr,aN,am,ax,aD,cs,ct,cu,cv,cw,cx,rfl⟩
   refine fx 0 cs (fx 1 ct (fx 2 cu (fx 3 cv (fx 8 cw (fx 9 cx ?_)))))
   have hdcn:=cY ax
   refine au (ab (fun _ bD=>(ae (U j) (ae (U c) (p (bK ((j - c:Nat):Int) rfl rfl (aI (by omega) (by omega))) (p aw (nl ?_)))))))
   refine tn (bD _ _ (sq (fun _ bE=>ab (fun _ bG=>(p mv (p (le rfl rfl) (aj ((bG _ _ ?_)))))))))
   refine cd rfl (fun hc23=> ?_) (fun hc23=> ?_)
   refine ab (fun _ aM=>(ae (.slice s n cp) (ae (U c) (ae (U j) (e (cl ym (CK A c j B n cp s _ ax (by omega) (by omega)) rfl fun c9 dk bZ=> ?_))))))
   obtain ⟨rfl,bR,bL⟩:=bZ
   refine aj ((aM _ _ (rt (tr (br (tr (br (ny rfl ?_))))))))
   obtain ⟨h1,h2⟩:=Go.Sort.insertionSort_holds mh A c j (by omega) (by omega)
   obtain ⟨hz1,hz2⟩:=am _ (h1) (h2)
   exact ⟨_,rfl,hz1,hz2,bR,Md.trans aD bL⟩
   refine aA (tn (bE _ _ (sq (fun _ aM=>ab (fun _ bH=>(ae (U aa) (p (bo rfl rfl) (nl ?_))))))))
   refine tn (bH _ _ (cd rfl (fun b9=> ?_) (fun b9=> ?_)))
   refine ab (fun _ aq=>(ae (.slice s n cp) (ae (U c) (ae (U j) (e (cl yn (Ct A c j B n cp s _ ax (by omega) (by omega)) rfl fun da dl b0=> ?_))))))
   obtain ⟨rfl,bS,bM⟩:=b0
   refine aj ((aq _ _ (rt (tr (br (tr (br (ny rfl ?_))))))))
   obtain ⟨h1,h2⟩:=Go.Sort.heapSort_holds mh A c j (by omega) (by omega)
   obtain ⟨hz1,hz2⟩:=am _ (h1) (h2)
   exact ⟨_,rfl,hz1,hz2,bS,Md.trans aD bM⟩
   refine aA (tn (aM _ _ ?_))
   refine dm (fun ac a6=> ∃ (C:Nat) (d1:Array Nat),(C≤64)∧(Go.Sort.PermIn c j A d1)∧(a6.ownsRow B 71 1 (.slice s n cp) n (LE az d1))∧(Md (fun q=>(Value.slice s n cp).ownBlock=some q) w a6)∧(ac 0= .slice s n cp)∧(ac 1=U c)∧(ac 2=U j)∧(ac 3=U C)∧(ac 8= .bool J)∧(ac 9= .bool wp)∧(ac 10=U (j - c))) ?_ ?_
   refine ab (fun _ aq=>(ae (.bool J) (p (no rfl) (aj ((aq _ _ (cb rfl (fun ca=> ?_) (fun ca=> ?_))))))))
   refine ab (fun _ G=>(ae (.slice s n cp) (ae (U c) (ae (U j) (e (cl yo (xN A c j B n cp s _ ax (by omega) cq) rfl fun db w39 b1=> ?_))))))
   obtain ⟨d1,rfl,cr,bT,bN⟩:=b1
   refine aj ((G _ _ (rg rfl (ae (U aa) (p (bK ((aa - 1:Nat):Int) rfl rfl (aI (by omega) (by omega))) (p aw (nl (tn ?_))))))))
   exact ⟨aa - 1,d1,(by omega),cr,bT,(Md.trans aD bN),rfl,rfl,rfl,rfl,rfl,rfl,rfl⟩
   exact aA (tn (⟨aa,A,(by omega),(Go.Sort.permIn_refl A c j),ax,aD,rfl,rfl,rfl,rfl,rfl,rfl,rfl⟩))
   rintro ac a6 ⟨C,d1,hl2,bv,bW,bQ,cy,cz,cB,cC,cD,cE,cA⟩
   refine fx 0 cy (fx 1 cz (fx 2 cB (fx 3 cC (fx 8 cD (fx 9 cE (fx 10 cA (ab (fun _ aq=>(ae (.slice s n cp) (ae (U c) (ae (U j) (e (cl yp (zf d1 c j B n cp s _ bW (by omega) (by omega)) rfl fun dc w46 b2=> ?_)))))))))))))
   obtain ⟨aG,hv,rfl,c6,aQ,hE46⟩:=b2
   have hM46:=Md.trans bQ (hE46.mono (fun _ _ h=>h.elim))
   refine p mv (p (xt rfl rfl) (p (xt rfl rfl) (p aw (ag (((aq _ _ ?_)))))))
   refine dm (fun M a9=> ∃ (E:Nat) (a5:Int) (d2:Array Nat),(c≤E∧E < j)∧(Go.Sort.PermIn c j A d2)∧(a9.ownsRow B 71 1 (.slice s n cp) n (LE az d2))∧(Md (fun q=>(Value.slice s n cp).ownBlock=some q) w a9)∧(M 0= .slice s n cp)∧(M 1=U c)∧(M 2=U j)∧(M 3=U C)∧(M 8= .bool J)∧(M 9= .bool wp)∧(M 10=U (j - c))∧(M 11=U E)∧(M 12= .int .i64 a5)) ?_ ?_
   refine ab (fun _ G=>(p mv (p (bo rfl rfl) (aj ((G _ _ (cd rfl (fun cc=> ?_) (fun cc=> ?_))))))))
   refine ab (fun _ ad=>(ae (.slice s n cp) (ae (U c) (ae (U j) (e (cl yq (ER d1 c j B n cp s _ aQ (by omega) (by omega)) rfl fun dd dn b3=> ?_))))))
   obtain ⟨rfl,bU,bO⟩:=b3
   have hd1n:=cY aQ
   refine aj ((ad _ _ (ab (fun _ an=>(ae (U j) (p (bK ((j - 1:Nat):Int) rfl rfl (aI (by omega) (by omega))) (p mv (ae (U c) ?_))))))))
   refine p (bK ((aG - c:Nat):Int) rfl rfl (aI (by omega) (by omega))) (p (bK ((j - 1 - (aG - c):Nat):Int) rfl rfl (aI (by omega) (by omega))) (ag (((an _ _ (rg rfl (p aw (nl ?_))))))))
   exact tn (⟨j - 1 - (aG - c),1,Go.Sort.reverseRange d1 c j,(by omega),(Go.Sort.permIn_trans _ _ _ c j bv (Go.Sort.reverseRange_holds d1 c j (by omega) (by omega))),bU,(Md.trans hM46 bO),rfl,rfl,rfl,rfl,rfl,rfl,rfl,rfl,rfl⟩)
   exact aA (tn (⟨aG,hv,d1,(by omega),bv,aQ,hM46,rfl,rfl,rfl,rfl,rfl,rfl,rfl,rfl,rfl⟩))
   rintro M a9 ⟨E,a5,d2,aF,hp2,ay,av,cF,cG,cK,cL,cM,cN,cH,cI,cJ⟩
   refine fx 0 cF (fx 1 cG (fx 2 cK (fx 3 cL (fx 8 cM (fx 9 cN (fx 10 cH (fx 11 cI (fx 12 cJ ?_))))))))
   refine dm (fun O ai=> ∃ (d3:Array Nat),(Go.Sort.PermIn c j A d3)∧(ai.ownsRow B 71 1 (.slice s n cp) n (LE az d3))∧(Md (fun q=>(Value.slice s n cp).ownBlock=some q) w ai)∧(O 0= .slice s n cp)∧(O 1=U c)∧(O 2=U j)∧(O 3=U C)∧(O 8= .bool J)∧(O 9= .bool wp)∧(O 10=U (j - c))∧(O 11=U E)) ?_ ?_
   refine ab (fun _ G=>(ae (.bool J) (ae (.bool J) (gb (t:=62) rfl (fun cg=> ?_) (fun cg=> ?_)))))
   refine pg rfl rfl rfl (ao (.bool wp) rfl) (p (bu rfl) (p mv (gb (t:=65) rfl (fun ch=> ?_) (fun ch=> ?_))))
   refine pg rfl rfl rfl (ao (.int .i64 a5) rfl) (pg rfl rfl rfl (bo rfl rfl) (p (bu rfl) (aj ((G _ _ (cd rfl (fun ce=> ?_) (fun ce=> ?_)))))))
   refine ab (fun _ ad=>(ae (.slice s n cp) (ae (U c) (ae (U j) (e (cl yr (Eo d2 c j B n cp s _ ay (by omega) (by omega)) rfl fun de dp b4=> ?_))))))
   obtain ⟨rfl,bk,bg⟩:=b4
   have hd2n:=cY ay
   obtain ⟨bt,cj⟩:=Go.Sort.partialInsertionSort_holds mh d2 c j (by omega) (by omega) (Go.Sort.Below.perm aN (by omega) hp2)
   refine aj ((ad _ _ (cb rfl (fun bp=> ?_) (fun bp=> ?_))))
   have hsT:=cj bp
   refine rt (tr (br (tr (br (ny rfl ?_)))))
   obtain ⟨hz1,hz2⟩:=am _ (Go.Sort.permIn_trans _ _ _ c j hp2 bt) (hsT)
   exact ⟨_,rfl,hz1,hz2,bk,Md.trans av bg⟩
   exact aA (tn (⟨_,(Go.Sort.permIn_trans _ _ _ c j hp2 bt),bk,(Md.trans av bg),rfl,rfl,rfl,rfl,rfl,rfl,rfl,rfl⟩))
   exact aA (tn (⟨d2,hp2,ay,av,rfl,rfl,rfl,rfl,rfl,rfl,rfl,rfl⟩))
   refine sk rfl rfl rfl rfl (sk rfl rfl rfl rfl (p (bc rfl) (aj ((G _ _ (cf rfl (aA (tn ?_))))))))
   exact ⟨d2,hp2,ay,av,rfl,rfl,rfl,rfl,rfl,rfl,rfl,rfl⟩
   refine sk rfl rfl rfl rfl (p (bc rfl) (p mv (sk rfl rfl rfl rfl (sk rfl rfl rfl rfl (p (bc rfl) (aj ((G _ _ ?_))))))))
   exact cf rfl (aA (tn (⟨d2,hp2,ay,av,rfl,rfl,rfl,rfl,rfl,rfl,rfl,rfl⟩)))
   rintro O ai ⟨d3,aC,Y,aO,cO,cP,cS,cT,cU,cV,cQ,cR⟩
   refine fx 0 cO (fx 1 cP (fx 2 cS (fx 3 cT (fx 8 cU (fx 9 cV (fx 10 cQ (fx 11 cR ?_)))))))
   refine dm (fun V bb=>(bb.ownsRow B 71 1 (.slice s n cp) n (LE az d3))∧(Md (fun q=>(Value.slice s n cp).ownBlock=some q) w bb)∧(V 0= .slice s n cp)∧(V 1=U c)∧(V 2=U j)∧(V 3=U C)∧(V 8= .bool J)∧(V 9= .bool wp)∧(V 10=U (j - c))∧(V 11=U E)) ?_ ?_
   refine sq (fun _ G=> ?_)
   have hd3n:=cY Y
   have hS17:(fun w'=>Wk ai w') ai.drew:=(Md.refl _ _).drew
   refine bF (fun w'=>Wk ai w') rfl wide hS17 (bm 0 rfl (U c) hS17 (aK 1 rfl (fun _ _=>gt rfl rfl) hS17 (aK 2 rfl (fun _ _=>mv) hS17 (ir (t:=75) rfl (fun ci=> ?_) (fun ci=> ?_)))))
   refine a3 3 rfl (by kernel_rfl) rfl rfl rfl (fun _ _=>ao (.slice s n cp) rfl) hS17 (a3 4 rfl (by kernel_rfl) rfl rfl rfl (fun _ _=>ao (U c) rfl) hS17 (a3 5 rfl (by kernel_rfl) rfl rfl rfl (fun _ _=>bK ((c - 1:Nat):Int) rfl rfl (aI (by omega) (by omega))) hS17 (a3 6 rfl (by kernel_rfl) rfl rfl rfl (fun _ _=>aH aY rfl rfl (by omega) (ak.ok ((aB Y).2) (a7 (by omega)))) hS17 (a3 7 rfl (by kernel_rfl) rfl rfl rfl (fun w' aU=>ld ba rfl (bq (i:=c - 1) ((aB Y).2.wk aU) (by omega))) hS17 (a3 8 rfl (by kernel_rfl) rfl rfl rfl (fun _ _=>ao (.slice s n cp) rfl) hS17 (a3 9 rfl (by kernel_rfl) rfl rfl rfl (fun _ _=>ao (U E) rfl) hS17 (a3 10 rfl (by kernel_rfl) rfl rfl rfl (fun _ _=>aH aY rfl rfl (by omega) (ak.ok ((aB Y).2) (a7 (by omega)))) hS17 ?_)))))))
   refine a3 11 rfl (by kernel_rfl) rfl rfl rfl (fun w' aU=>ld ba rfl (bq (i:=E) ((aB Y).2.wk aU) (by omega))) hS17 (iV 12 rfl (by kernel_rfl) rfl rfl rfl (cl gn (gu d3[c - 1]! d3[E]! _) rfl fun df w85 b5=> ?_))
   obtain ⟨rfl,bJ⟩:=b5
   have ah:(fun w'=>Wk ai w') w85:=Md.trans hS17 bJ
   refine ⟨ah,?_⟩
   refine a3 13 rfl (by kernel_rfl) rfl rfl rfl (fun _ _=>no rfl) ah (aK 14 rfl (fun _ _=>bu rfl) ah (hn (by kernel_rfl) (tn (G _ _ (cb rfl (fun bs=> ?_) (fun bs=> ?_))))))
   refine ab (fun _ ad=>(ae (.slice s n cp) (ae (U c) (ae (U j) (ae (U E) (e (cl ys (Eb d3 c j E B n cp s _ (aE Y ah) (by omega) (by omega)) rfl fun dg dq b6=> ?_)))))))
   obtain ⟨I,d4,hx,rfl,bV,bP⟩:=b6
   obtain ⟨bm,ck,cm,aZ,a0⟩:=Go.Sort.round_eq mh (Go.Sort.partitionEqual_holds a4) (show 0 < c by omega) aF.1 aF.2 (by omega) (Go.Sort.Below.perm aN (by omega) aC) (by simpa using bs) hx
   refine ag (((ad _ _ (ab (fun _ an=>(p mv (p aw (nl ?_))))))))
   exact tn (an _ _ (ext (te _ (be (tn (⟨_,by omega,I,j,C,J,wp,d4,(by omega),aZ,((fun R h1 h2=>by obtain ⟨h3,h4⟩:=a0 R h1 h2; exact am R (Go.Sort.permIn_trans _ _ _ c j aC h3) h4)),bV,(Md.trans aO (Md.trans (ah.mono (fun _ _ h=>h.elim)) bP)),rfl,rfl,rfl,rfl,rfl,rfl,rfl⟩))))))
   exact aA (tn (⟨(aE Y ah),(Md.trans aO (ah.mono (fun _ _ h=>h.elim))),rfl,rfl,rfl,rfl,rfl,rfl,rfl,rfl⟩))
   refine aV 3 rfl (by kernel_rfl) rfl rfl rfl rfl hS17 ?_
   refine aV 4 rfl (by kernel_rfl) rfl rfl rfl rfl hS17 ?_
   refine aV 5 rfl (by kernel_rfl) rfl rfl rfl rfl hS17 ?_
   refine aV 6 rfl (by kernel_rfl) rfl rfl rfl rfl hS17 ?_
   refine aV 7 rfl (by kernel_rfl) rfl rfl rfl rfl hS17 ?_
   refine aV 8 rfl (by kernel_rfl) rfl rfl rfl rfl hS17 ?_
   refine aV 9 rfl (by kernel_rfl) rfl rfl rfl rfl hS17 ?_
   refine aV 10 rfl (by kernel_rfl) rfl rfl rfl rfl hS17 ?_
   refine aV 11 rfl (by kernel_rfl) rfl rfl rfl rfl hS17 ?_
   refine aV 12 rfl (by kernel_rfl) rfl rfl rfl rfl hS17 ?_
   refine aV 13 rfl (by kernel_rfl) rfl rfl rfl rfl hS17 ?_
   exact aK 14 rfl (fun _ _=>bc rfl) hS17 (hn (by kernel_rfl) (tn (G _ _ (cf rfl (aA (tn (⟨(aE Y (Md.refl _ _).drew),aO.drew,rfl,rfl,rfl,rfl,rfl,rfl,rfl,rfl⟩)))))))
   rintro V bb ⟨bl,bi,cW,cX,c1,c2,c3,c4,cZ,c0⟩
   refine fx 0 cW (fx 1 cX (fx 2 c1 (fx 3 c2 (fx 8 c3 (fx 9 c4 (fx 10 cZ (fx 11 c0 (ab (fun _ G=>(ae (.slice s n cp) (ae (U c) (ae (U j) (ae (U E) (e (cl yt (D9 d3 c j E B n cp s _ bl (by omega) (by omega)) rfl fun dh bx b7=> ?_)))))))))))))))
   obtain ⟨I,ap,d4,hx,rfl,aR,bh⟩:=b7
   have hd3n:=cY bl
   have hd4n:=cY aR
   obtain ⟨bm,ck,cm,aZ,a0,cn,co⟩:=Go.Sort.round_part mh (Go.Sort.partition_holds a4) aF.1 aF.2 (by omega) (Go.Sort.Below.perm aN (by omega) aC) hx
   refine p mv (p (xt rfl rfl) (p (xt rfl rfl) (p aw (ag (((G _ _ (sq (fun _ ad=> ?_)))))))))
   refine rg rfl (p mv (ag (((ad _ _ (ab (fun _ an=>(p mv ?_))))))))
   refine ae (U c) (p (bK ((I - c:Nat):Int) rfl rfl (aI (by omega) (by omega))) (ae (U j) (p mv (p (bK ((j - I:Nat):Int) rfl rfl (aI (by omega) (by omega))) (p aw (p aw (nl ?_)))))))
   refine tn (an _ _ (ab (fun _ bA=>(ae (U (j - c)) (p (jG (((j - c) / 8:Nat):Int) rfl rfl (by omega) (aI (by omega) (by omega))) (ag (((bA _ _ ?_)))))))))
   refine ab (fun _ bB=>(p mv (p mv (p (lt rfl rfl) (aj ((bB _ _ (cd rfl (fun b8=> ?_) (fun b8=> ?_)))))))))
   refine ab (fun _ aJ=>(p mv (p mv (p (ge rfl rfl) (ag (((aJ _ _ ?_))))))))
   refine ab (fun _ aL=>(ae (.slice s n cp) (ae (U c) (p mv (ae (U C) (e (cl oQ (ih d4 c I C bx aR (by omega) (by omega) (by omega) aZ) rfl fun c7 di bX=> ?_)))))))
   obtain ⟨ar,rfl,a1,a2,aS,aP⟩:=bX
   obtain ⟨aW,aX⟩:=cn ar a1 a2
   refine aj ((aL _ _ (rg rfl (p mv (p (a8 ((I+1:Nat):Int) rfl rfl (aI (by omega) (by omega))) (p aw (nl (bn ?_))))))))
   exact tn (⟨_,by omega,I+1,j,C,decide (((I - c:Nat):Int)≥(((j - c) / 8:Nat):Int)),ap,ar,(by omega),aW,((fun R h1 h2=>by obtain ⟨h3,h4⟩:=aX R h1 h2; exact am R (Go.Sort.permIn_trans _ _ _ c j aC h3) h4)),aS,(Md.trans bi (Md.trans bh aP)),rfl,rfl,rfl,rfl,rfl,rfl,rfl⟩)
   refine ab (fun _ aJ=>(p mv (p mv (p (ge rfl rfl) (ag (((aJ _ _ ?_))))))))
   refine ab (fun _ aL=>(ae (.slice s n cp) (p mv (p (a8 ((I+1:Nat):Int) rfl rfl (aI (by omega) (by omega))) (ae (U j) (ae (U C) (e (cl oQ (ih d4 (I+1) j C bx aR (by omega) (by omega) (by omega) a0) rfl fun c8 dj bY=> ?_))))))))
   obtain ⟨ar,rfl,a1,a2,aS,aP⟩:=bY
   obtain ⟨aW,aX⟩:=co ar a1 a2
   refine aj ((aL _ _ (rg rfl (p mv (p aw (nl (bn (tn ?_))))))))
   exact ⟨_,by omega,c,I,C,decide (((j - I:Nat):Int)≥(((j - c) / 8:Nat):Int)),ap,ar,(by omega),aW,((fun R h1 h2=>by obtain ⟨h3,h4⟩:=aX R h1 h2; exact am R (Go.Sort.permIn_trans _ _ _ c j aC h3) h4)),aS,(Md.trans bi (Md.trans bh aP)),rfl,rfl,rfl,rfl,rfl,rfl,rfl⟩
theorem Fs (d:Array Nat) (B n cp:Nat) (a:Option Addr) (w:World) (j:w.ownsRow B 71 1 (.slice a n cp) n (LE az d)) (s:n≤255):
 aT Tryz.prog 122 (List.toArray [.slice a n cp]) w (fun v w'=> ∃ d1,v= .tuple #[]∧Go.Sort.PermIn 0 n d d1∧Go.Sort.SortedIn a4 0 n d1∧w'.ownsRow B 71 1 (.slice a n cp) n (LE az d1)∧Md (fun q=>(Value.slice a n cp).ownBlock=some q) w w'):=by
 refine enter Tryz.func122 rfl Tryz.ntmps122 rfl ?_
 refine ab (fun _ i=>(ae (.slice a n cp) (p (bl gV rfl rfl) (ag (((i _ _ (rg rfl ?_))))))))
 refine ae (.slice a n cp) (p mv (p mv (p (ik vR kK rfl (ji (by omega))) (e (cl rT (uo n _ (by omega)) rfl fun v9 w9 hR9=> ?_)))))
 obtain ⟨rfl,c⟩:=hR9
 have hll:=nJ (n:=n) (by omega)
 refine e (cl oQ (Ec (n+1) d 0 n (fC n) B n cp a _ (aE j c) (by omega) (by omega) s (by omega) (.inl rfl)) rfl fun v10 w10 hR10=> ?_)
 obtain ⟨d1,rfl,h1,h2,h3,h4⟩:=hR10
 refine nl (f0 rfl ?_)
 exact ⟨d1,rfl,h1,h2,h3,Md.trans (c.mono (fun _ _ h=>h.elim)) h4⟩
end Go.Hb.oD
end
section
set_option maxRecDepth 20000
set_option maxHeartbeats 1000000
namespace Go.Hb.fH
open Go.Hb.cJ
open Go.Proofs
open Go.Hb.gX Go.Hb.fQ Go.Hb.kg Go.Hb.mR Go.Hb.oD
theorem lF {w:World} {B e n cp i:Nat} {a:Option Addr} {d:Array Nat} (h:w.ownsRow B e 1 (.slice a n cp) n (LE az d)):ak w.heap (dj a cp i 1) ((LE az d).drop i):=by
 have :=(aB h).2.drop (cap:=cp) (k:=i) (size:=1) (by rw [mg]; have h1:=cY h; have h2:=(aB h).1; omega)
 rwa [Nat.mul_one] at this
theorem Dq (l:List Nat):l.map az=LE az l.toArray:=by simp [LE]
theorem m3 (l:List Nat):(l.map az).all Value.oneCell'=true :=by
 rw [List.all_eq_true]; intro v hv; obtain ⟨x,_,rfl⟩:=List.mem_map.1 hv; rfl
theorem FQ (d:Array Nat) (k:Nat):(LE az d).take k=(d.toList.take k).map az:=by simp [LE,List.map_take]
theorem mz (b:UInt8):eE b=decide ((b.toNat:Int) > 32∧(b.toNat:Int) < 127∧(b.toNat:Int)≠47∧(b.toNat:Int)≠44∧(b.toNat:Int)≠35):=by
 unfold eE; exact decide_eq_decide.2 (by omega)
theorem D4 {w:World} {B e size n cp:Nat} {a:Option Addr} {xs:List Value} (h:w.ownsRow B e size (.slice a n cp) n xs) (hn:0 < n):a≠none:=by
 rintro rfl
 rcases h.2 with ⟨_,h5⟩ | ⟨g,cap,cur,h4,_⟩
 · omega
 · simp at h4
theorem ng (a:Option Addr) (n c:Nat) (xs:List Value) (w:World) (hC:ak w.heap a xs) (hxl:xs.length=n*1) (ha:a=none→n=0) (h1:xs.all Value.oneCell'=true) (hn:n≤1048576):
 aT Tryz.prog 49 (List.toArray [.slice a n c]) w (fun v w'=>World.ownsRow w' w.heap.size 71 1 v n xs∧Wk w w'):=by
 refine enter Tryz.func49 rfl Tryz.ntmps49 rfl ?_
 refine ab (fun _ s=>(ag (((s _ _ (sq (fun _ A=>ab (fun _ C=> ?_))))))))
 refine ae (.slice a n c) (p (k8 gV rfl rfl) (aj ((C _ _ (cb rfl (fun q=> ?_) (fun q=> ?_))))))
 have I:a=none:=by simpa using q
 refine ab (fun _ i=>(ag (((i _ _ (rt (tr (f1 rfl rfl ?_))))))))
 have hn0:=ha I
 subst hn0
 obtain rfl :=List.eq_nil_of_length_eq_zero (show xs.length=0 by omega)
 exact ⟨World.ownsRow_nil _ _ _ _,Md.refl _ _⟩
 refine aA (tn (A _ _ (ab (fun _ i=>(e (jU n3 fun O w5 hb5 j E=> ?_))))))
 have ho5:=E w.heap.size (by omega)
 refine ae (.slice a n c) (e (ap n3 (ho5) rfl (by have :=j.size; omega) rfl (hC.wk j.md) (hxl) (h1) (by omega) (by omega) fun M w7 J G hz7 U=> ?_))
 have hE7:=Wk.own j.md ho5 G (Nat.le_refl _)
 refine ag (((i _ _ (rt (f1 rfl rfl ?_)))))
 have hz:World.ownsRow w7 w.heap.size 71 1 M n xs:=by simpa using J
 exact ⟨hz,hE7⟩
theorem zR (d:Array Nat) (B n cp:Nat) (a:Option Addr) (w:World) (C:w.ownsRow B 71 1 (.slice a n cp) n (LE az d)) (a5:n≤1048576):
 aT Tryz.prog 123 (List.toArray [.slice a n cp]) w (fun v w'=> ∃ k,v= .slice a k cp∧k=(dO d.toList).length∧World.ownsRow w' B 71 1 (.slice a k cp) k ((dO d.toList).map az)∧Md (fun q=>(Value.slice a n cp).ownBlock=some q) w w'):=by
 have hdn:=cY C
 have hcp:=(aB C).1
 refine enter Tryz.func123 rfl Tryz.ntmps123 rfl ?_
 refine ab (fun _ ao=>(ag (((ao _ _ (sq (fun _ aD=>ab (fun _ aF=> ?_))))))))
 refine ae (.slice a n cp) (p (bl gV rfl rfl) (p (lt rfl rfl) (aj ((aF _ _ (cd rfl (fun hc8=> ?_) (fun hc8=> ?_)))))))
 refine ab (fun _ ai=>(ae (.slice a n cp) (p (bw (.slice a n cp) rfl) (aj ((ai _ _ (rt (tr ?_))))))))
 refine f1 rfl rfl ?_
 have hz:dO d.toList=d.toList:=by
  have hlt:d.toList.length < 2:=by rw [lG]; omega
  revert hlt
  generalize d.toList=l
  intro hlt
  match l,hlt with
  | [],_=>rfl
  | [x],_=>rfl
 exact ⟨n,rfl,by rw [hz,lG]; omega,by rw [hz]; exact C,Md.refl _ _⟩
 refine aA (tn (aD _ _ (sq (fun _ ai=>ab (fun _ aG=>(ag (((aG _ _ ?_)))))))))
 refine au (lp (fun O an Z=> ∃ (i:Nat),(1≤i∧i≤n∧2≤n)∧(dO (d.toList.take i)=d.toList.take i)∧(Wk w Z)∧(an 0= .slice a n cp)∧(an 3=U i)∧(n - i=O)) _ ⟨1,(by omega),((by have h1:=od (d:=d) (i:=0) (by omega); rw [h1]; rfl)),(Md.refl _ _),rfl,rfl,rfl⟩ ?_)
 rintro O an Z ⟨i,hi,V,G,aZ,a0,rfl⟩
 refine fx 0 aZ (fx 3 a0 (sq (fun _ aJ=>ab (fun _ aL=>(ae (U i) (ae (.slice a n cp) (p (bl gV rfl rfl) (p (lt rfl rfl) ?_))))))))
 refine aj ((aL _ _ (cd rfl (fun aP=> ?_) (fun aP=> ?_))))
 refine aA (tn (aJ _ _ (sq (fun _ al=>au (sq (fun _ aM=> ?_))))))
 have s:(fun w'=>Wk Z w') Z.drew:=(Md.refl _ _).drew
 refine bF (fun w'=>Wk Z w') rfl wide s (bm 0 rfl (.slice a n cp) s (bm 1 rfl (U i) s (aK 2 rfl (fun _ _=>aH aY rfl rfl (by omega) (ak.ok ((aB C).2) (a7 (by omega)))) s (aK 3 rfl (fun w' I=>ld ba rfl (Wk.ay I (bq (i:=i) (aB (aE C G)).2 (by omega)))) s (bm 4 rfl (.slice a n cp) s (bm 5 rfl (U i) s (aK 6 rfl (fun _ _=>bK ((i - 1:Nat):Int) rfl rfl (aI (by omega) (by omega))) s ?_)))))))
 refine aK 7 rfl (fun _ _=>aH aY rfl rfl (by omega) (ak.ok ((aB C).2) (a7 (by omega)))) s (aK 8 rfl (fun w' I=>ld ba rfl (Wk.ay I (bq (i:=i - 1) (aB (aE C G)).2 (by omega)))) s (aK 9 rfl (fun _ _=>bo rfl rfl) s (hn (by kernel_rfl) (tn (aM _ _ (cd rfl (fun aQ=> ?_) (fun aQ=> ?_)))))))
 have heq:d[i - 1]! =d[i]! :=by omega
 refine ab (fun _ ap=>(ae (.slice a n cp) (ae (U i) (p (mA aY rfl rfl (by omega)) (ag (((ap _ _ ?_))))))))
 refine sq (fun _ aq=>ab (fun _ ar=>(ag (((ar _ _ (au (lp (fun O aa M=> ∃ (k i2:Nat) (A:Array Nat),(1≤k∧k < i+i2∧1≤i2∧i2≤n - i)∧(A.toList.drop k=d.toList.drop k)∧(A.toList.take k=dO (d.toList.take (i+i2)))∧(M.ownsRow B 71 1 (.slice a n cp) n (LE az A))∧(Md (fun q=>(Value.slice a n cp).ownBlock=some q) w M)∧(aa 0= .slice a n cp)∧(aa 3=U k)∧(aa 4= .slice (dj a cp i 1) (n - i) (cp - i))∧(aa 5=U i2)∧(n - i2=O)) _ ⟨i,1,d,(by omega),rfl,((by rw [nq (by omega) (by omega),if_pos heq,V])),(aE C (Md.trans G (Md.refl _ _).drew)),((Md.trans G (Md.refl _ _).drew).mono (fun _ _ h=>h.elim)),rfl,rfl,rfl,rfl,rfl⟩ ?_))))))))
 rintro O aa M ⟨k,i2,A,hk,J,Y,E,am,a1,a2,a3,a4,rfl⟩
 refine fx 0 a1 (fx 3 a2 (fx 4 a3 (fx 5 a4 ?_)))
 have hdcn:=cY E
 refine sq (fun _ av=>ab (fun _ ax=>(ae (U i2) (ae (.slice (dj a cp i 1) (n - i) (cp - i)) (p (bl gV rfl rfl) (p (lt rfl rfl) (nl ?_)))))))
 refine tn (ax _ _ (cd rfl (fun aR=> ?_) (fun aR=> ?_)))
 refine aA (tn (av _ _ (sq (fun _ ac=>au (sq (fun _ ah=> ?_))))))
 have c:(fun w'=>Wk M w') M.drew:=(Md.refl _ _).drew
 refine bF (fun w'=>Wk M w') rfl wide c (bm 0 rfl (.slice (dj a cp i 1) (n - i) (cp - i)) c (bm 1 rfl (U i2) c (aK 2 rfl (fun _ _=>aH aY rfl rfl (by omega) (ak.ok (lF E) (p4 (by omega)))) c (aK 3 rfl (fun w' I=>ld ba rfl (Wk.ay I (pZ (j:=i2) (lF E) (by omega)))) c (bm 4 rfl (.slice (dj a cp i 1) (n - i) (cp - i)) c (bm 5 rfl (U i2) c (aK 6 rfl (fun _ _=>bK ((i2 - 1:Nat):Int) rfl rfl (aI (by omega) (by omega))) c ?_)))))))
 refine aK 7 rfl (fun _ _=>aH aY rfl rfl (by omega) (ak.ok (lF E) (p4 (by omega)))) c (aK 8 rfl (fun w' I=>ld ba rfl (Wk.ay I (pZ (j:=i2 - 1) (lF E) (by omega)))) c (aK 9 rfl (fun _ _=>ej rfl rfl) c (hn (by kernel_rfl) (tn (ah _ _ (cd rfl (fun aS=> ?_) (fun aS=> ?_)))))))
 have hO2x:=aE E c
 have g1:=nu J (show k≤i+i2 by omega)
 have g2:=nu J (show k≤i+(i2 - 1) by omega)
 have aV:¬d[i+i2 - 1]! =d[i+i2]! :=by rw [show i+i2 - 1=i+(i2 - 1) by omega,← g1,← g2]; omega
 refine ab (fun _ aC=>(ae (.slice a n cp) (ae (U k) (ae (.slice (dj a cp i 1) (n - i) (cp - i)) (ae (U i2) (p (aH aY rfl rfl (by omega) (ak.ok (lF hO2x) (p4 (by omega)))) (p (ld ba rfl (pZ (j:=i2) (lF hO2x) (by omega))) ?_)))))))
 refine p (aH aY rfl rfl (by omega) (ak.ok ((aB hO2x).2) (a7 (by omega)))) (e (dq (u:=A[i+i2]!) (k) hO2x di rfl rfl rfl (by omega) fun w12 aN ho12=>aj ((aC _ _ (rg rfl (ae (U k) (p (a8 ((k+1:Nat):Int) rfl rfl (aI (by omega) (by omega))) (p aw ?_))))))))
 refine nl (bn (tn (ac _ _ (rg rfl (ae (U i2) (p (a8 ((i2+1:Nat):Int) rfl rfl (aI (by omega) (by omega))) (p aw (nl ?_))))))))
 exact tn (⟨_,by omega,k+1,i2+1,A.setIfInBounds k A[i+i2]!,(by omega),((by rw [set_drop (by omega)]; have h3:=congrArg (List.drop 1) J; rwa [List.drop_drop,List.drop_drop] at h3)),((by rw [qz (by omega),Y,show i+(i2+1)=i+i2+1 from rfl,nq (by omega) (by omega),if_neg aV,g1])),ho12,(Md.trans am (Md.trans (c.mono (fun _ _ h=>h.elim)) aN)),rfl,rfl,rfl,rfl,rfl⟩)
 have g1:=nu J (show k≤i+i2 by omega)
 have g2:=nu J (show k≤i+(i2 - 1) by omega)
 have aU:d[i+i2 - 1]! =d[i+i2]! :=by rw [show i+i2 - 1=i+(i2 - 1) by omega,← g1,← g2]; omega
 refine aA (bn (tn (ac _ _ (rg rfl (ae (U i2) (p (a8 ((i2+1:Nat):Int) rfl rfl (aI (by omega) (by omega))) (p aw (nl ?_))))))))
 exact tn (⟨_,by omega,k,i2+1,A,(by omega),J,((by rw [Y,show i+(i2+1)=i+i2+1 from rfl,nq (by omega) (by omega),if_pos aU])),(aE E (Md.refl _ _).drew),am.drew,rfl,rfl,rfl,rfl,rfl⟩)
 refine ext (te _ (te _ (be (tn (aq _ _ (ab (fun _ ac=>(ae (.slice a n cp) ?_))))))))
 refine ae (U k) (p (mA aY rfl rfl (by omega)) (e (zD (k:=k) gV GQ rfl E rfl rfl (by omega) fun w14 aO aX=>aj ((ac _ _ (ab (fun _ ah=>(ae (.slice a n cp) ?_))))))))
 refine ae (U k) (p (nY aY rfl rfl (by omega)) (ag (((ah _ _ (rt (br (tr ?_))))))))
 refine tr (br (tr (f1 rfl rfl ?_)))
 have hz:d.toList.take (i+i2)=d.toList:=List.take_of_length_le (by rw [lG]; omega)
 rw [hz] at Y
 have hkl:k=(dO d.toList).length:=by rw [← Y,List.length_take,lG]; omega
 refine ⟨k,rfl,hkl,?_,Md.trans am aO⟩
 have hT:=uU aX (show k≤n by omega) (D4 C (by omega))
 rw [Nat.mul_one,List.take_append,List.take_of_length_le (l:=(LE az A).take k) (by rw [List.length_take]; omega),List.length_take,mg,show k - min k A.size=0 by omega,List.take_zero,List.append_nil,FQ,Y] at hT
 exact hT
 have aW:¬d[i - 1]! =d[i]! :=by omega
 refine aA (bn (tn (al _ _ (rg rfl (ae (U i) (p (ad rfl rfl (bp (by omega))) (p aw (nl ?_))))))))
 exact tn (⟨_,by omega,i+1,(by omega),((by rw [nq (by omega) (by omega),if_neg aW,V,od (by omega)])),(Md.trans G (Md.refl _ _).drew),rfl,rfl,rfl⟩)
 refine ext (te _ (te _ (be (tn (ai _ _ (ab (fun _ al=>(ae (.slice a n cp) ?_))))))))
 refine p (bw (.slice a n cp) rfl) (aj ((al _ _ (rt (f1 rfl rfl ?_)))))
 rw [show d.toList.take i=d.toList from List.take_of_length_le (by rw [lG]; omega)] at V
 exact ⟨n,rfl,by rw [V,lG]; omega,by rw [V]; exact aE C G,G.mono (fun _ _ h=>h.elim)⟩
theorem uQ (l:List Nat) (a:Option Addr) (c:Nat) (w:World) (hC:ak w.heap a (l.map az)) (ha:a=none→l.length=0) (hl:l.length≤255):
 aT Tryz.prog 104 (List.toArray [.slice a l.length c]) w (fun v w'=>World.ownsRow w' w.heap.size 71 1 v (fV l).length ((fV l).map az)∧Wk w w'):=by
 refine enter Tryz.func104 rfl Tryz.ntmps104 rfl ?_
 refine ab (fun _ s=>(ag (((s _ _ (ab (fun _ A=>(ae (.slice a l.length c) ?_))))))))
 refine e (cl m9 (ng a l.length c (l.map az) _ hC (by simp) ha (m3 l) (by omega)) rfl fun O w5 hR5=> ?_)
 obtain ⟨ho5,hE5⟩:=hR5
 obtain ⟨i,j,rfl⟩:=dw ho5
 rw [Dq] at ho5
 refine ag (((A _ _ (ab (fun _ C=>(ae (.slice i l.length j) (e (cl x8 (Fs l.toArray w.heap.size l.length j i _ ho5 hl) rfl fun U w7 hR7=> ?_))))))))
 obtain ⟨d1,rfl,J,M,p,I⟩:=hR7
 refine aj ((C _ _ (ab (fun _ E=>(ae (.slice i l.length j) (e (cl x9 (zR d1 w.heap.size l.length j i _ p (by omega)) rfl fun v9 w9 hR9=> ?_)))))))
 obtain ⟨k,rfl,hk,q,hM9⟩:=hR9
 have G:Wk w w9:=Wk.own (Wk.own hE5 ho5 I (Nat.le_refl _)) p hM9 (Nat.le_refl _)
 refine ag (((E _ _ (rt (f1 rfl rfl ?_)))))
 rw [Fq J M] at hk q
 exact ⟨by rw [← hk]; exact q,G⟩
theorem qA (b:UInt8) (w:World):
 aT Tryz.prog 133 (List.toArray [.int .u8 b.toNat]) w (fun v w'=>v= .bool (eE b)∧Wk w w'):=by
 refine enter Tryz.func133 rfl Tryz.ntmps133 rfl ?_
 refine ab (fun _ c=>(ag (((c _ _ (ab (fun _ a=>(ae (.int .u8 b.toNat) ?_))))))))
 refine p (gt rfl rfl) (p mv (gs (t:=5) rfl (fun hg5=> ?_) (fun hg5=> ?_)))
 refine pg rfl rfl rfl (ao (.int .u8 b.toNat) rfl) (pg rfl rfl rfl (lt rfl rfl) (p (bu rfl) (p mv (gs (t:=9) rfl (fun hg9=> ?_) (fun hg9=> ?_)))))
 refine pg rfl rfl rfl (ao (.int .u8 b.toNat) rfl) (pg rfl rfl rfl (ej rfl rfl) (p (bu rfl) (p mv (gs (t:=13) rfl (fun hg13=> ?_) (fun hg13=> ?_)))))
 refine pg rfl rfl rfl (ao (.int .u8 b.toNat) rfl) (pg rfl rfl rfl (ej rfl rfl) (p (bu rfl) (p mv (gs (t:=17) rfl (fun i=> ?_) (fun i=> ?_)))))
 refine pg rfl rfl rfl (ao (.int .u8 b.toNat) rfl) (pg rfl rfl rfl (ej rfl rfl) (p (bu rfl) (ag (((a _ _ (rt (f1 rfl rfl ?_))))))))
 exact ⟨by show Value.bool (decide _)=_; rw [mz]; exact bv (by constructor <;> intro h <;> first | exact ⟨by omega,by omega,by omega,by omega,h⟩ | exact h.2.2.2.2),Md.refl _ _⟩
 refine sk rfl rfl rfl rfl (sk rfl rfl rfl rfl (p (bc rfl) (ag (((a _ _ (rt (f1 rfl rfl ?_))))))))
 exact ⟨by show Value.bool false =_; rw [mz,decide_eq_false (by omega)],Md.refl _ _⟩
 refine sk rfl rfl rfl rfl (sk rfl rfl rfl rfl (p (bc rfl) (p mv (sk rfl rfl rfl rfl (sk rfl rfl rfl rfl (p (bc rfl) (p aw ?_)))))))
 exact aj ((a _ _ (rt (f1 rfl rfl (⟨by show Value.bool false =_; rw [mz,decide_eq_false (by omega)],Md.refl _ _⟩)))))
 refine sk rfl rfl rfl rfl (sk rfl rfl rfl rfl (p (bc rfl) (p mv (sk rfl rfl rfl rfl (sk rfl rfl rfl rfl (p (bc rfl) (p mv ?_)))))))
 refine sk rfl rfl rfl rfl (sk rfl rfl rfl rfl (p (bc rfl) (ag (((a _ _ (rt (f1 rfl rfl ?_))))))))
 exact ⟨by show Value.bool false =_; rw [mz,decide_eq_false (by omega)],Md.refl _ _⟩
 refine sk rfl rfl rfl rfl (sk rfl rfl rfl rfl (p (bc rfl) (p mv (sk rfl rfl rfl rfl (sk rfl rfl rfl rfl (p (bc rfl) (p mv ?_)))))))
 refine sk rfl rfl rfl rfl (sk rfl rfl rfl rfl (p (bc rfl) (p mv (sk rfl rfl rfl rfl (sk rfl rfl rfl rfl (p (bc rfl) (p aw ?_)))))))
 exact aj ((a _ _ (rt (f1 rfl rfl (⟨by show Value.bool false =_; rw [mz,decide_eq_false (by omega)],Md.refl _ _⟩)))))
theorem ug (k:Nat) (w:World):
 aT Tryz.prog 117 (List.toArray [U k]) w (fun v w'=>v= .bool (decide (1≤k∧k≤3))∧Wk w w'):=by
 refine enter Tryz.func117 rfl Tryz.ntmps117 rfl ?_
 refine ab (fun _ c=>(ag (((c _ _ (ab (fun _ a=>(ae (U k) ?_))))))))
 refine p (ge rfl rfl) (p mv (gs (t:=5) rfl (fun hg5=> ?_) (fun hg5=> ?_)))
 refine pg rfl rfl rfl (ao (U k) rfl) (pg rfl rfl rfl (le rfl rfl) (p (bu rfl) (ag (((a _ _ (rt (f1 rfl rfl ?_))))))))
 exact ⟨by show Value.bool (decide _)=_; exact bv (by omega),Md.refl _ _⟩
 refine sk rfl rfl rfl rfl (sk rfl rfl rfl rfl (p (bc rfl) (ag (((a _ _ (rt (f1 rfl rfl ?_))))))))
 exact ⟨by show Value.bool false =_; rw [decide_eq_false (by omega)],Md.refl _ _⟩
end Go.Hb.fH
end
section
set_option maxRecDepth 20000
set_option maxHeartbeats 1000000
namespace Go.Hb.ke
open Go.Hb.cJ
open Go.Proofs
open Go.Hb.gX Go.Hb.fQ Go.Hb.kg Go.Hb.mR Go.Hb.oD Go.Hb.fH
theorem BC {kind:Nat} {s:List UInt8} (h:kind=1∧s.length=1∧eE (s.getD 0 0)=true):c8 kind s=(s.getD 0 0).toNat:=by unfold c8; rw [if_pos h.1,if_pos h.2]
theorem BD {kind:Nat} {s:List UInt8} (h:kind=2∧s.length=2∧eE (s.getD 0 0)=true∧eE (s.getD 1 0)=true):c8 kind s=256 *(s.getD 0 0).toNat+(s.getD 1 0).toNat:=by unfold c8; rw [if_neg (by omega),if_pos h.1,if_pos h.2]
theorem BE {kind:Nat} {s:List UInt8} (h:kind=3):c8 kind s=(dv s 65535).1:=by unfold c8; rw [if_neg (by omega),if_neg (by omega)]
theorem BB {kind:Nat} {s:List UInt8} (h:kind=1∨kind=2) (h1:¬(kind=1∧s.length=1∧eE (s.getD 0 0)=true)) (h2:¬(kind=2∧s.length=2∧eE (s.getD 0 0)=true∧eE (s.getD 1 0)=true)):c8 kind s=0:=by
 unfold c8
 rcases h with h | h
 · rw [if_pos h,if_neg (fun h3=>h1 ⟨h,h3⟩)]
 · rw [if_neg (by omega),if_pos h,if_neg (fun h3=>h2 ⟨h,h3⟩)]
theorem CM {c:UInt8} {l:List UInt8} (h:0 < l.count c):¬cG c l < 0:=by
 intro h1
 exact ud h1 (List.idxOf_lt_length_iff.2 (List.count_pos_iff.1 h))
theorem EJ (n:Nat) (x:List UInt8):List.replicate n (str x)=(List.replicate n x).map str:=by rw [List.map_replicate]
theorem vv {dn:List (List UInt8)} {m:Nat} {x:List UInt8} (h:0 < m):((dn++List.replicate m []).map str).set dn.length (str x)=((dn++ [x])++List.replicate (m - 1) []).map str:=by
 obtain ⟨m,rfl⟩:∃ k,m=k+1:=⟨m - 1,by omega⟩
 rw [← List.map_set,List.set_append_right _ _ (Nat.le_refl _),Nat.sub_self,List.replicate_succ,List.set_cons_zero,Nat.add_sub_cancel,List.append_assoc]; rfl
theorem Bl {kind:Nat} {ps:List (List UInt8)} {i:Nat} (h:i < ps.length) (h1:¬∃ x∈ps.take i,c8 kind x=0) (h2:c8 kind (ps.getD i [])≠0):¬∃ x∈ps.take (i+1),c8 kind x=0:=by
 rw [gU ps i [] h]
 rintro ⟨x,hx,h3⟩
 rcases List.mem_append.1 hx with hx | hx
 · exact h1 ⟨x,hx,h3⟩
 · rw [List.mem_singleton] at hx; subst hx; exact h2 h3
theorem tK {α:Type} {l:List α} {i:Nat} {d:α} (h:i < l.length):l.getD i d∈l:=by
 rw [List.getD_eq_getElem?_getD,List.getElem?_eq_getElem h]; exact List.getElem_mem h
theorem ti (kind:Nat) (s:List UInt8) (w:World) (hk:kind=1∨kind=2∨kind=3) (hs:s.length≤1048576):
 aT Tryz.prog 119 (List.toArray [U kind,str s]) w (fun v w'=>v=az (c8 kind s)∧Wk w w'):=by
 refine enter Tryz.func119 rfl Tryz.ntmps119 rfl ?_
 refine ab (fun _ aa=>(ag (((aa _ _ (sq (fun _ ac=>au ?_)))))))
 refine dm (fun A Z=> ∃ (G:Bool),(G=decide (kind=1∧s.length=1∧eE (s.getD 0 0)=true))∧(Wk w Z)∧(A 0=U kind)∧(A 1=str s)∧(A 7= .bool G)) ?_ ?_
 refine rg rfl (ae (U kind) (p (bo rfl rfl) (p mv (gs (t:=10) rfl (fun hg10=> ?_) (fun hg10=> ?_)))))
 refine pg rfl rfl rfl (ao (str s) rfl) (pg rfl rfl rfl (bV u9 rfl rfl) (pg rfl rfl rfl (bo rfl rfl) (p (bu rfl) (p mv (gs (t:=15) rfl (fun aq=> ?_) (fun aq=> ?_))))))
 refine pg rfl rfl rfl (ao (str s) rfl) (pg rfl rfl rfl (iw 0 u9 rfl rfl (by omega)) (eg rfl rfl rfl (cl oO (qA (s.getD 0 0) _) rfl fun aF w18 ak=> ?_)))
 obtain ⟨rfl,ah⟩:=ak
 exact p (bu rfl) (ag (((⟨eE (s.getD 0 0),((by rw [Bool.eq_iff_iff,decide_eq_true_iff]; exact ⟨fun h=>⟨by omega,by omega,h⟩,fun h=>h.2.2⟩)),ah,rfl,rfl,rfl⟩))))
 exact sk rfl rfl rfl rfl (sk rfl rfl rfl rfl (sk rfl rfl rfl rfl (p (bc rfl) (ag (((⟨false,((decide_eq_false (fun h=>by omega)).symm),(Md.refl _ _),rfl,rfl,rfl⟩)))))))
 refine sk rfl rfl rfl rfl (sk rfl rfl rfl rfl (sk rfl rfl rfl rfl (p (bc rfl) (p mv (sk rfl rfl rfl rfl (sk rfl rfl rfl rfl (sk rfl rfl rfl rfl ?_)))))))
 exact p (bc rfl) (ag (((⟨false,((decide_eq_false (fun h=>by omega)).symm),(Md.refl _ _),rfl,rfl,rfl⟩))))
 rintro A Z ⟨G,Y,c,ax,ay,aB⟩
 refine fx 0 ax (fx 1 ay (fx 7 aB (cb rfl (fun J=> ?_) (fun J=> ?_))))
 have M:kind=1∧s.length=1∧eE (s.getD 0 0)=true :=of_decide_eq_true (Y ▸ J)
 refine ab (fun _ i=>(ae (str s) (p (iw 0 u9 rfl rfl (by omega)) (p (ik oh mH rfl (lN (by have :=UInt8.toNat_lt (s.getD 0 0); omega))) (ag (((i _ _ ?_))))))))
 exact rt (br (tr (f1 rfl rfl (⟨by rw [BC M]; rfl,c⟩))))
 have M:¬(kind=1∧s.length=1∧eE (s.getD 0 0)=true):=of_decide_eq_false (Y ▸ J)
 refine dm (fun C j=> ∃ (I:Bool),(I=decide (kind=2∧s.length=2∧eE (s.getD 0 0)=true∧eE (s.getD 1 0)=true))∧(Wk w j)∧(C 0=U kind)∧(C 1=str s)∧(C 23= .bool I)) ?_ ?_
 refine rg rfl (ae (U kind) (p (bo rfl rfl) (p mv (gs (t:=26) rfl (fun ar=> ?_) (fun ar=> ?_)))))
 refine pg rfl rfl rfl (ao (str s) rfl) (pg rfl rfl rfl (bV u9 rfl rfl) (pg rfl rfl rfl (bo rfl rfl) (p (bu rfl) (p mv (gs (t:=31) rfl (fun av=> ?_) (fun av=> ?_))))))
 refine pg rfl rfl rfl (ao (str s) rfl) (pg rfl rfl rfl (iw 0 u9 rfl rfl (by omega)) (eg rfl rfl rfl (cl oO (qA (s.getD 0 0) _) rfl fun aG aJ al=> ?_)))
 obtain ⟨rfl,V⟩:=al
 refine p (bu rfl) (p mv (gb (t:=36) rfl (fun q=> ?_) (fun q=> ?_)))
 refine pg rfl rfl rfl (ao (str s) rfl) (pg rfl rfl rfl (iw 1 u9 rfl rfl (by omega)) (eg rfl rfl rfl (cl oO (qA (s.getD 1 0) _) rfl fun aH w39 am=> ?_)))
 obtain ⟨rfl,ai⟩:=am
 exact p (bu rfl) (ag (((⟨eE (s.getD 1 0),((by rw [Bool.eq_iff_iff,decide_eq_true_iff]; exact ⟨fun h=>⟨by omega,by omega,q,h⟩,fun h=>h.2.2.2⟩)),(Md.trans c (Md.trans V ai)),rfl,rfl,rfl⟩))))
 exact sk rfl rfl rfl rfl (sk rfl rfl rfl rfl (sk rfl rfl rfl rfl (p (bc rfl) (ag (((⟨false,((decide_eq_false (fun h=>by rw [h.2.2.1] at q; cases q)).symm),(Md.trans c V),rfl,rfl,rfl⟩)))))))
 refine sk rfl rfl rfl rfl (sk rfl rfl rfl rfl (sk rfl rfl rfl rfl (p (bc rfl) (p mv (sk rfl rfl rfl rfl (sk rfl rfl rfl rfl (sk rfl rfl rfl rfl ?_)))))))
 exact p (bc rfl) (ag (((⟨false,((decide_eq_false (fun h=>by omega)).symm),c,rfl,rfl,rfl⟩))))
 refine sk rfl rfl rfl rfl (sk rfl rfl rfl rfl (sk rfl rfl rfl rfl (p (bc rfl) (p mv (sk rfl rfl rfl rfl (sk rfl rfl rfl rfl (sk rfl rfl rfl rfl ?_)))))))
 refine p (bc rfl) (p mv (sk rfl rfl rfl rfl (sk rfl rfl rfl rfl (sk rfl rfl rfl rfl (p (bc rfl) (p aw (nl ?_)))))))
 exact tn (⟨false,((decide_eq_false (fun h=>by omega)).symm),c,rfl,rfl,rfl⟩)
 rintro C j ⟨I,hb2,c,aC,aD,aE⟩
 refine fx 0 aC (fx 1 aD (fx 23 aE (cb rfl (fun hc23=> ?_) (fun hc23=> ?_))))
 have O:kind=2∧s.length=2∧eE (s.getD 0 0)=true∧eE (s.getD 1 0)=true :=of_decide_eq_true (hb2 ▸ hc23)
 have g0:=UInt8.toNat_lt (s.getD 0 0)
 have g1:=UInt8.toNat_lt (s.getD 1 0)
 refine sq (fun _ i=> ?_)
 have a:(fun w'=>Wk j w') j.drew:=(Md.refl _ _).drew
 refine bF (fun w'=>Wk j w') rfl wide a (bm 0 rfl (str s) a (aK 1 rfl (fun _ _=>iw 0 u9 rfl rfl (by omega)) a (aK 2 rfl (fun _ _=>ik oh mH rfl (lN (by omega))) a (aK 3 rfl (fun _ _=>shl rfl rfl (by decide) (Fe g0)) a (bm 4 rfl (str s) a (aK 5 rfl (fun _ _=>iw 1 u9 rfl rfl (by omega)) a (aK 6 rfl (fun _ _=>ik oh mH rfl (lN (by omega))) a ?_)))))))
 refine aK 7 rfl (fun _ _=>rE rfl rfl (D2 g0 g1)) a (aK 8 rfl (fun _ _=>aw) a (hn (by kernel_rfl) (tn (i _ _ (rt (br (tr (f1 rfl rfl ?_))))))))
 exact ⟨by rw [BD O]; rfl,c.drew⟩
 have O:¬(kind=2∧s.length=2∧eE (s.getD 0 0)=true∧eE (s.getD 1 0)=true):=of_decide_eq_false (hb2 ▸ hc23)
 refine ab (fun _ i=>(ae (U kind) (p (bo rfl rfl) (ag (((i _ _ (cd rfl (fun ap=> ?_) (fun ap=> ?_)))))))))
 refine ab (fun _ E=>(ae (str s) (e (cl nd (nP s 65535 _ hs (by decide)) rfl fun aI aL an=> ?_))))
 obtain ⟨rfl,aj⟩:=an
 have hn5:=DO s
 refine p mv (p (xt rfl rfl) (p (xt rfl rfl) (p aw (ag (((E _ _ (sq (fun _ ad=> ?_)))))))))
 refine rg rfl (p mv (p (ik oh kK rfl (lN (by omega))) (ag (((ad _ _ (rt (br ?_))))))))
 exact tr (f1 rfl rfl (⟨by rw [BE (by omega)]; rfl,Md.trans c aj⟩))
 refine aA (bn (tn (ac _ _ (ab (fun _ E=>(ag (((E _ _ ?_)))))))))
 exact rt (f1 rfl rfl (⟨by rw [BB (by omega) M O]; rfl,c⟩))
theorem DY (kind:Nat) (s:List UInt8) (w:World) (hk:kind=1∨kind=2∨kind=3) (hs:s.length≤1048576):
 aT Tryz.prog 114 (List.toArray [U kind,str s]) w (fun v w'=>v= .tuple #[az (eJ kind s).1,U ((eJ kind s).2)]∧Wk w w'):=by
 refine enter Tryz.func114 rfl Tryz.ntmps114 rfl ?_
 refine ab (fun _ i=>(p aw (ag (((i _ _ (sq (fun _ j=>sq (fun _ q=> ?_)))))))))
 refine rg rfl (ae (U kind) (e (cl rO (ug kind _) rfl fun J w8 hR8=> ?_)))
 obtain ⟨rfl,c⟩:=hR8
 refine p (no rfl) (aj ((q _ _ (cf ((by rw [decide_eq_true (by omega)]; rfl)) (aA (tn (j _ _ (ab (fun _ A=> ?_)))))))))
 refine ae (U kind) (ae (str s) (e (cl rP (ti kind s _ hk hs) rfl fun dd w12 G=> ?_)))
 obtain ⟨rfl,hE12⟩:=G
 refine ag (((A _ _ (sq (fun _ C=>ab (fun _ E=>(p mv (p (bo rfl rfl) ?_))))))))
 refine aj ((E _ _ (cd rfl (fun I=> ?_) (fun I=> ?_))))
 refine ab (fun _ a=>(p aw (ag (((a _ _ (rt (tr ?_))))))))
 exact f2 rfl rfl rfl (⟨by unfold eJ; rw [if_pos (show c8 kind s=0 by omega)]; rfl,Md.trans c hE12⟩)
 refine aA (tn (C _ _ (ab (fun _ a=>(p mv (p aw (p aw (nl ?_))))))))
 exact tn (a _ _ (rt (f2 rfl rfl rfl (⟨by unfold eJ; rw [if_neg (show ¬c8 kind s=0 by omega)]; rfl,Md.trans c hE12⟩))))
theorem zZ (s:List UInt8) (c:UInt8) (w:World):
 aT Tryz.prog 172 (List.toArray [str s,str [c]]) w (fun v w'=>v=U (s.count c)∧Wk w w'):=by
 refine enter Tryz.func172 rfl Tryz.ntmps172 rfl ?_
 refine ab (fun _ a=>(ag (((a _ _ (sq (fun _ i=>ab (fun _ j=> ?_))))))))
 refine ae (str [c]) (p (bV u9 rfl rfl) (p (bo rfl rfl) (aj ((j _ _ (cd rfl (fun h=>absurd h (by simp)) (fun G=> ?_)))))))
 refine aA (tn (i _ _ (sq (fun _ C=>ab (fun _ q=>(ae (str [c]) (p (bV u9 rfl rfl) (p (bo rfl rfl) ?_))))))))
 refine aj ((q _ _ (cd rfl (fun E=> ?_) (fun h=>absurd rfl h))))
 refine ab (fun _ A=>(ae (str s) (ae (str [c]) (p (iw 0 u9 rfl rfl (by simp)) (p (sx (zP s c _) rfl) (p aw (nl ?_)))))))
 exact tn (A _ _ (rt (tr (f1 rfl rfl (⟨rfl,Md.refl _ _⟩)))))
theorem B4 (s:List UInt8) (w:World) (hs:s.length≤1048576):
 aT Tryz.prog 148 (List.toArray [str s,str [44],.int .i64 0,.int .i64 (-1)]) w (fun v w'=>World.ownsRow w' w.heap.size 9 1 (v) ((eb 44 [] s)).length (((eb 44 [] s)).map str)∧Wk w w'):=by
 have hcl:=List.count_le_length (a:=(44:UInt8)) (l:=s)
 have hsc:=qE 44 s []
 refine enter Tryz.func148 rfl Tryz.ntmps148 rfl ?_
 refine ab (fun _ aa=>(ag (((aa _ _ (sq (fun _ ap=>ab (fun _ aq=> ?_))))))))
 refine ae (.int .i64 (-1)) (p (bo rfl rfl) (aj ((aq _ _ (cd rfl (fun h=>absurd h (by decide)) (fun aX=> ?_))))))
 refine aA (tn (ap _ _ (sq (fun _ ar=>ab (fun _ av=>(ae (str [44]) (p (e7 rfl rfl) (nl ?_))))))))
 refine tn (av _ _ (cd rfl (fun h=>absurd h (by simp)) (fun aY=> ?_)))
 refine aA (tn (ar _ _ (sq (fun _ ax=>ab (fun _ ay=>(ae (.int .i64 (-1)) (p (lt rfl rfl) (nl ?_))))))))
 refine tn (ay _ _ (cd rfl (fun aZ=> ?_) (fun h=>absurd (by decide) h)))
 refine rg rfl (ae (str s) (ae (str [44]) (e (cl yw (zZ s 44 _) rfl fun a0 a2 aJ=> ?_))))
 obtain ⟨rfl,Y⟩:=aJ
 refine p (a8 ((s.count 44 +1:Nat):Int) rfl rfl (aI (by omega) (by omega))) (ag (((ax _ _ (ab (fun _ az=>(p mv (ae (str s) ?_))))))))
 refine p (bV u9 rfl rfl) (p (a8 ((s.length+1:Nat):Int) rfl rfl (aI (by omega) (by omega))) (p (mn rfl rfl) (ag (((az _ _ (ab (fun _ aC=> ?_))))))))
 refine p mv (e (DD (n:=s.count 44 +1) (zv:=str []) fE GK rfl (show Value.int .i64 (min ((s.count 44 +1:Nat):Int) ((s.length+1:Nat):Int))=_ from iv (by omega)) (show Value.int .i64 (min ((s.count 44 +1:Nat):Int) ((s.length+1:Nat):Int))=_ from iv (by omega)) (by omega) (by unfold maxLen; omega) fun C w31 aW aG ho31=> ?_))
 have hO31:=ho31 w.heap.size (by have :=Y.size; omega)
 rw [EJ] at hO31
 refine ag (((aC _ _ (ab (fun _ ac=>(p mv (p (bK ((s.count 44:Nat):Int) rfl rfl (aI (by omega) (by omega))) (p aw ?_))))))))
 refine aj ((ac _ _ (ab (fun _ ad=>(ag (((ad _ _ (sq (fun _ ah=> ?_))))))))))
 refine au (lp (fun O q M=> ∃ (i:Nat) (dn:List (List UInt8)) (r:List UInt8),(dn.length=i)∧(r.count 44 +i=s.count 44∧r.length≤s.length)∧(dn++eb 44 [] r=eb 44 [] s)∧(World.ownsRow M w.heap.size 9 1 (.slice (some ⟨C,0,none⟩) (s.count 44 +1) (s.count 44 +1)) (s.count 44 +1) ((dn++List.replicate (s.count 44 +1 - i) []).map str))∧(Wk w M)∧(q 0=str r)∧(q 1=str [44])∧(q 2= .int .i64 0)∧(q 3=U (s.count 44))∧(q 9= .slice (some ⟨C,0,none⟩) (s.count 44 +1) (s.count 44 +1))∧(q 10=U i)∧(r.length=O)) _ ⟨0,[],s,rfl,((by omega)),rfl,hO31,(Md.trans Y aG.md),rfl,rfl,rfl,rfl,rfl,rfl,rfl⟩ ?_)
 rintro O q M ⟨i,dn,r,hi,hr,hd,A,V,aP,aQ,aS,aU,aV,aR,rfl⟩
 refine fx 0 aP (fx 1 aQ (fx 2 aS (fx 3 aU (fx 9 aV (fx 10 aR ?_)))))
 have hrl:=List.count_le_length (a:=(44:UInt8)) (l:=r)
 refine sq (fun _ ai=>ab (fun _ al=>(ae (U i) (ae (U (s.count 44)) (p (lt rfl rfl) (aj ((al _ _ ?_))))))))
 refine cd rfl (fun aL=> ?_) (fun aL=> ?_)
 refine aA (tn (ai _ _ (au (ab (fun _ G=>(ae (str r) (ae (str [44]) (e (cl yx (CC r 44 _) rfl fun a1 w39 aK=> ?_)))))))))
 obtain ⟨rfl,E⟩:=aK
 refine ag (((G _ _ (sq (fun _ I=>ab (fun _ am=>(p mv (p (lt rfl rfl) ?_))))))))
 refine aj ((am _ _ (cd rfl (fun h=>absurd h (CM (by omega))) (fun aM=> ?_))))
 refine aA (tn (I _ _ (sq (fun _ an=> ?_))))
 have hix:=ll (c:=(44:UInt8)) (l:=r) aM
 have hl1:[(44:UInt8)].length=1:=rfl
 refine rg rfl (ae (.slice (some ⟨C,0,none⟩) (s.count 44 +1) (s.count 44 +1)) (ae (U i) (ae (str r) (p mv (ae (.int .i64 0) (p (a8 ((r.idxOf 44:Nat):Int) rfl rfl (aI (by omega) (by omega))) (p (nZ u9 rfl rfl (by omega)) ?_)))))))
 refine p (aH bZ rfl rfl (by omega) (ak.ok ((aB (aE A E)).2) (bG (by rw [List.length_append,List.length_replicate]; omega)))) (e (lE (j:=i) (u:=str (r.take (r.idxOf 44))) (aE A E) kr rfl rfl rfl (by omega) (by omega) fun w14 aD Z=> ?_))
 have hE14:Wk w w14:=Wk.own (Md.trans V E) (aE A E) aD (Nat.le_refl _)
 rw [← hi,vv (by omega),hi] at Z
 refine aj ((an _ _ (ab (fun _ ao=>(ae (str r) (p mv (ae (str [44]) (p (bV u9 rfl rfl) ?_))))))))
 refine p (a8 ((r.idxOf 44 +1:Nat):Int) rfl rfl (aI (by omega) (by omega))) (p (j6 u9 rfl rfl (by omega)) (ag (((ao _ _ (rg rfl (ae (U i) (p (a8 ((i+1:Nat):Int) rfl rfl (aI (by omega) (by omega))) ?_))))))))
 exact p aw (nl (bn (tn (⟨_,by rw [List.length_drop]; omega,i+1,dn++ [r.take (r.idxOf 44)],r.drop (r.idxOf 44 +1),((by rw [List.length_append,hi]; rfl)),((by have :=Ad hix.2; rw [List.length_drop]; omega)),((by rw [List.append_assoc,← hd,vC 44 r [] hix.2]; rfl)),((by rw [show s.count 44 +1 - (i+1)=s.count 44 +1 - i - 1 by omega]; exact Z)),hE14,rfl,rfl,rfl,rfl,rfl,rfl,rfl⟩))))
 refine ext (te _ (te _ (be (tn (ah _ _ (ab (fun _ G=>(ae (.slice (some ⟨C,0,none⟩) (s.count 44 +1) (s.count 44 +1)) ?_))))))))
 refine ae (U i) (ae (str r) (p (aH bZ rfl rfl (by omega) (ak.ok ((aB A).2) (bG (by rw [List.length_append,List.length_replicate]; omega)))) (e (lE (j:=i) (u:=str r) A kr rfl rfl rfl (by omega) (by omega) fun w17 aF J=> ?_))))
 have hE17:Wk w w17:=Wk.own V A aF (Nat.le_refl _)
 rw [← hi,vv (by omega),hi] at J
 refine aj ((G _ _ (ab (fun _ I=>(ae (.slice (some ⟨C,0,none⟩) (s.count 44 +1) (s.count 44 +1)) (ae (U i) (p (a8 ((i+1:Nat):Int) rfl rfl (aI (by omega) (by omega))) (p (nY bZ rfl rfl (by omega)) ?_))))))))
 refine ag (((I _ _ (rt (f1 rfl rfl ?_)))))
 have aO:¬(44:UInt8)∈r:=fun h=>by have :=List.count_pos_iff.2 h; omega
 have aN:dn++ [r]=eb 44 [] s:=by rw [← hd,FA 44 r [] aO]; rfl
 rw [show s.count 44 +1 - i - 1=0 by omega,List.replicate_zero,List.append_nil,aN] at J
 exact ⟨by rw [hsc,show s.count 44 +1=i+1 by omega] at*; exact J,hE17⟩
theorem FI (s:List UInt8) (w:World) (hs:s.length≤1048576):
 aT Tryz.prog 132 (List.toArray [str s,str [44]]) w (fun v w'=>World.ownsRow w' w.heap.size 9 1 (v) ((eb 44 [] s)).length (((eb 44 [] s)).map str)∧Wk w w'):=by
 refine enter Tryz.func132 rfl Tryz.ntmps132 rfl ?_
 refine ab (fun _ a=>(ag (((a _ _ (ab (fun _ c=>(ae (str s) ?_))))))))
 exact ae (str [44]) (e (cl yf (B4 s _ hs) rfl fun i w7 hR7=>ag (((c _ _ (rt (f1 rfl rfl (hR7))))))))
theorem En (kind:Nat) (s:List UInt8) (w:World) (hk:kind=1∨kind=2∨kind=3) (hs:s.length≤1048576):
 aT Tryz.prog 118 (List.toArray [U kind,str s]) w (fun v w'=>World.ownsRow w' w.heap.size 9 1 (v) ((cV kind s)).length (((cV kind s)).map str)∧Wk w w'):=by
 refine enter Tryz.func118 rfl Tryz.ntmps118 rfl ?_
 refine ab (fun _ M=>(ag (((M _ _ (sq (fun _ O=>ab (fun _ V=> ?_))))))))
 refine ae (U kind) (p (bo rfl rfl) (aj ((V _ _ (cd rfl (fun hc8=> ?_) (fun hc8=> ?_))))))
 refine ab (fun _ j=>(ae (str s) (e (cl yc (FI s _ hs) rfl fun v10 w10 hR10=>ag (((j _ _ (rt ?_))))))))
 refine tr (f1 rfl rfl ?_)
 unfold cV; rw [if_pos (by omega)]; exact hR10
 refine aA (tn (O _ _ (ab (fun _ j=>(ag (((j _ _ (sq (fun _ Y=> ?_))))))))))
 refine ab (fun _ Z=>(ag (((Z _ _ (au (lp (fun E c wI=> ∃ (i:Nat) (dn:List (List UInt8)) (a:Value),(i≤s.length+kind∧dn.length≤i)∧(dn++chunks kind (s.drop i)=chunks kind s)∧(World.ownsRow wI w.heap.size 9 1 (a) (dn).length ((dn).map str))∧(Wk w wI)∧(c 0=U kind)∧(c 1=str s)∧(c 5=a)∧(c 6=U i)∧(s.length - i=E)) _ ⟨0,[],.slice none 0 0,((by simp)),rfl,(World.ownsRow_nil _ _ _ _),(Md.refl _ _),rfl,rfl,rfl,rfl,rfl⟩ ?_)))))))
 rintro E c wI ⟨i,dn,a,hi,hd,C,G,am,an,ao,aq,rfl⟩
 refine fx 0 am (fx 1 an (fx 5 ao (fx 6 aq (sq (fun _ aa=>ab (fun _ ac=>(ae (U i) (ae (str s) (p (bV u9 rfl rfl) (p (lt rfl rfl) ?_))))))))))
 refine aj ((ac _ _ (cd rfl (fun ai=> ?_) (fun ai=> ?_))))
 have hne:s.drop i≠[]:=fun h=>by have :=congrArg List.length h; rw [List.length_drop,List.length_nil] at this; omega
 refine aA (tn (aa _ _ (sq (fun _ q=>au (rg rfl (ae (a) (ae (str s) (ae (U i) ?_))))))))
 refine ae (U i) (ae (U kind) (p (a8 ((i+kind:Nat):Int) rfl rfl (aI (by omega) (by omega))) (ae (str s) (p (bV u9 rfl rfl) (p (mn rfl rfl) (p (mB u9 rfl rfl rfl (by omega)) (e (gj fE rfl rfl fun av w28 hb28 A ad=> ?_))))))))
 have I:Wk w w28:=Md.trans G A.md
 refine e (ap fE (aE C A.md) rfl (by have :=I.size; omega) rfl (ak.ea ad) (rfl) (rfl) (by omega) (by omega) fun ar w29 J ah hz29 ax=> ?_)
 have hE29:=Wk.own I (aE C A.md) ah (Nat.le_refl _)
 rw [zg] at J
 have ho29x:=nQ J
 refine p aw (nl (bn (tn (q _ _ (rg rfl (ae (U i) (ae (U kind) (p (a8 ((i+kind:Nat):Int) rfl rfl (aI (by omega) (by omega))) ?_))))))))
 exact ag (((⟨_,by omega,i+kind,dn++ [(s.drop i).take kind],ar,((by rw [List.length_append,List.length_singleton]; omega)),((by rw [← hd,oY (k:=kind) (by omega) hne,List.append_assoc,List.drop_drop]; rfl)),ho29x,hE29,rfl,rfl,rfl,rfl,rfl⟩)))
 refine ext (te _ (te _ (be (tn (Y _ _ (ab (fun _ q=>(ae (a) ?_))))))))
 refine p (bw (a) rfl) (aj ((q _ _ (rt (f1 rfl rfl ?_)))))
 have al:dn=cV kind s:=by unfold cV; rw [if_neg (by omega),← hd,List.drop_eq_nil_of_le (by omega),oZ,List.append_nil]
 exact ⟨by rw [← al]; exact C,G⟩
theorem tH (kind:Nat) (s:List UInt8) (w:World) (hk:kind=1∨kind=2∨kind=3) (hs:s.length≤1048576):
 aT Tryz.prog 101 (List.toArray [U kind,str s]) w (fun v w'=>(∃ a,v= .tuple #[a,U ((dt kind s).2)]∧World.ownsRow w' w.heap.size 71 1 a (dt kind s).1.length ((dt kind s).1.map az))∧Wk w w'):=by
 refine enter Tryz.func101 rfl Tryz.ntmps101 rfl ?_
 refine ab (fun _ aq=>(p aw (ag (((aq _ _ (sq (fun _ aC=>sq (fun _ aD=> ?_)))))))))
 refine rg rfl (ae (U kind) (e (cl rO (ug kind _) rfl fun v11 w11 hR11=> ?_)))
 obtain ⟨rfl,ah⟩:=hR11
 refine p (no rfl) (aj ((aD _ _ (cf ((by rw [decide_eq_true (by omega)]; rfl)) (aA (tn (aC _ _ (sq (fun _ aF=>sq (fun _ aG=> ?_))))))))))
 refine rg rfl (ae (str s) (p (e7 rfl rfl) (aj ((aG _ _ (cd rfl (fun q=> ?_) (fun q=> ?_)))))))
 refine ab (fun _ V=>(p aw (ag (((V _ _ (rt (tr ?_))))))))
 exact f2 rfl rfl rfl (⟨⟨.slice none 0 0,by unfold dt; rw [if_pos q]; rfl,by unfold dt; rw [if_pos q]; exact World.ownsRow_nil _ _ _ _⟩,ah⟩)
 refine aA (tn (aF _ _ (ab (fun _ V=>(ag (((V _ _ (sq (fun _ aI=> ?_))))))))))
 refine ab (fun _ aJ=>(ae (U kind) (ae (str s) (e (cl x5 (En kind s _ hk hs) rfl fun a8 w17 aQ=> ?_)))))
 obtain ⟨al,hE17⟩:=aQ
 obtain ⟨aL,aM,rfl⟩:=dw al
 have hS17:=(aB al).2
 have hpl:=El (kind:=kind) (s:=s) (by omega)
 have I:Wk w w17:=Md.trans ah hE17
 refine p (bl dT rfl rfl) (p mv (aj ((aJ _ _ (au (lp (fun ac j wI=> ∃ (i:Nat) (G:Value),(i≤(cV kind s).length)∧(¬∃ x∈(cV kind s).take i,c8 kind x=0)∧(World.ownsRow wI w17.heap.size 71 1 G (((cV kind s).take i).map (c8 kind)).length ((((cV kind s).take i).map (c8 kind)).map az))∧(Wk w17 wI)∧(j 0=U kind)∧(j 1=str s)∧(j 6=G)∧(j 17= .slice aL (cV kind s).length aM)∧(j 18=U ((cV kind s).length))∧(j 19=U i)∧((cV kind s).length - i=ac)) _ ⟨0,.slice none 0 0,(by omega),((by rintro ⟨x,hx,_⟩; simp at hx)),(World.ownsRow_nil _ _ _ _),(Md.refl _ _),rfl,rfl,rfl,rfl,rfl,rfl,rfl⟩ ?_))))))
 rintro ac j wI ⟨i,G,hi,hne,C,c,aX,aY,a2,aZ,a0,a1,rfl⟩
 refine fx 0 aX (fx 1 aY (fx 6 a2 (fx 17 aZ (fx 18 a0 (fx 19 a1 ?_)))))
 have hfl:(((cV kind s).take i).map (c8 kind)).length≤i:=by rw [List.length_map,List.length_take]; omega
 refine ab (fun _ aK=>(p (lt rfl rfl) (aj ((aK _ _ (sq (fun _ ar=>cd rfl (fun aU=> ?_) (fun aU=> ?_))))))))
 refine aA (tn (ar _ _ (sq (fun _ M=>au (ab (fun _ O=>(p (aH bZ rfl rfl (by omega) (ak.ok (hS17.wk c) (bG (by omega)))) (p (ld bQ rfl (bE.get (i:=i) (hS17.wk c) (by omega))) ?_))))))))
 refine ag (((O _ _ (ab (fun _ A=>(ae (U kind) (p mv (e (cl rP (ti kind ((cV kind s).getD i []) _ hk (by have :=Em (kind:=kind) (by omega) (tK (d:= []) (show i < (cV kind s).length by omega)); omega)) rfl fun a9 w25 aR=> ?_)))))))))
 obtain ⟨rfl,hE25⟩:=aR
 refine ag (((A _ _ (sq (fun _ av=>ab (fun _ ax=>(p mv (p (bo rfl rfl) ?_))))))))
 refine aj ((ax _ _ (cd rfl (fun aV=> ?_) (fun aV=> ?_))))
 refine ab (fun _ ay=>(p aw (ag (((ay _ _ (rt (tr ?_))))))))
 refine br (tr (tr (br (tr (f2 rfl rfl rfl ?_)))))
 have hz:dt kind s=([],31):=by unfold dt; rw [if_neg q,if_pos ⟨_,tK (d:= []) (show i < (cV kind s).length by omega),by omega⟩]
 exact ⟨⟨.slice none 0 0,by rw [hz]; rfl,by rw [hz]; exact World.ownsRow_nil _ _ _ _⟩,Md.trans I (Md.trans c hE25)⟩
 refine aA (tn (av _ _ (rg rfl (ae (G) (p mv (e (gj n3 rfl rfl fun a5 w30 a6 Z aN=> ?_)))))))
 have ai:Wk w17 w30:=Md.trans (Md.trans c hE25) Z.md
 refine e (ap n3 (aE (aE C hE25) Z.md) rfl (by have :=ai.size; omega) rfl (ak.ea aN) (rfl) (rfl) (by omega) (by omega) fun ao w31 ho31 aP hz31 a7=> ?_)
 have hE31:=Wk.own ai (aE (aE C hE25) Z.md) aP (Nat.le_refl _)
 have aW:World.ownsRow w31 w17.heap.size 71 1 ao (((cV kind s).take (i+1)).map (c8 kind)).length ((((cV kind s).take (i+1)).map (c8 kind)).map az):=by
  rw [gU _ i [] (by omega),List.map_append,List.length_append,List.map_append]; exact ho31
 refine p aw (nl (bn (tn (M _ _ (rg rfl (p (ad rfl rfl (bp (by omega))) (p mv (nl ?_))))))))
 exact tn (⟨_,by omega,i+1,ao,(by omega),(Bl (by omega) hne (by omega)),aW,hE31,rfl,rfl,rfl,rfl,rfl,rfl,rfl⟩)
 refine ext (te _ (te _ (be (tn (aI _ _ (sq (fun _ M=>sq (fun _ O=> ?_))))))))
 obtain ⟨E,Y,rfl⟩:=dw C
 have htl:(((cV kind s).take i).map (c8 kind)).length=(cV kind s).length:=by rw [List.length_map,List.length_take]; omega
 have J:(cV kind s).take i=(cV kind s):=List.take_of_length_le (by omega)
 have hnl:E=none→(((cV kind s).take i).map (c8 kind)).length=0:=fun h=>by obtain ⟨a4,c2,an,_,_,h3⟩:=Rd.fW C; simp only [Value.slice.injEq] at an; exact h3 (an.1 ▸ h)
 refine rg rfl (ae (.slice E (((cV kind s).take i).map (c8 kind)).length Y) (p (bl gV rfl rfl) (p (gt rfl rfl) (aj ((O _ _ (cd rfl (fun aa=> ?_) (fun aa=> ?_))))))))
 refine ab (fun _ A=>(p aw (ag (((A _ _ (rt (tr ?_))))))))
 refine f2 rfl rfl rfl ?_
 rw [J] at hne htl
 have hz:dt kind s=([],32):=by unfold dt; rw [if_neg q,if_neg hne,if_pos (by rw [J,List.length_map] at aa; omega)]
 exact ⟨⟨.slice none 0 0,by rw [hz]; rfl,by rw [hz]; exact World.ownsRow_nil _ _ _ _⟩,Md.trans I c⟩
 refine aA (tn (M _ _ (ab (fun _ A=>(ae (.slice E (((cV kind s).take i).map (c8 kind)).length Y) (e (cl rM (uQ (((cV kind s).take i).map (c8 kind)) E Y _ (aB C).2 hnl (by rw [List.length_map,List.length_take] at*; omega)) rfl fun a3 w37 aS=> ?_)))))))
 obtain ⟨am,aO⟩:=aS
 refine p aw (ag (((A _ _ (rt (f2 rfl rfl rfl ?_))))))
 rw [J] at hne am
 have hz:dt kind s=(fV ((cV kind s).map (c8 kind)),0):=by unfold dt; rw [if_neg q,if_neg hne,if_neg (by rw [J,List.length_map] at aa; omega)]
 exact ⟨⟨a3,by rw [hz]; rfl,by rw [hz]; exact fX am (by have :=I.size; have :=c.size; omega)⟩,Md.trans I (Md.trans c aO)⟩
end Go.Hb.ke
end
section
set_option maxRecDepth 20000
set_option maxHeartbeats 1000000
namespace Go.Hb.gx
open Go.Hb.cJ
open Go.Proofs
theorem pO (b:UInt8) (w:World):
 aT Tryz.prog 92 (List.toArray [.int .u8 b.toNat]) w (fun v w'=>v= .bool (jz b)∧Wk w w'):=by
 refine enter Tryz.func92 rfl Tryz.ntmps92 rfl ?_
 refine ab (fun _ c=>(ag (((c _ _ (ab (fun _ a=>(ae (.int .u8 b.toNat) ?_))))))))
 refine p (bo rfl rfl) (p mv (gs (t:=5) rfl (fun hg5=> ?_) (fun hg5=> ?_)))
 refine sk rfl rfl rfl rfl (sk rfl rfl rfl rfl (p (bu rfl) (ag (((a _ _ (rt (f1 rfl rfl ?_))))))))
 exact ⟨by show Value.bool true =_; rw [nI,decide_eq_true (.inl (by omega))],Md.refl _ _⟩
 refine pg rfl rfl rfl (ao (.int .u8 b.toNat) rfl) (pg rfl rfl rfl (bo rfl rfl) (p (bc rfl) (ag (((a _ _ (rt (f1 rfl rfl ?_))))))))
 exact ⟨by show Value.bool (decide ((b.toNat:Int)=9))=_; rw [nI]; exact congrArg Value.bool (decide_eq_decide.2 (by omega)),Md.refl _ _⟩
theorem Bs (l:List UInt8) (w:World) (hl:l.length≤1048576):
 aT Tryz.prog 57 (List.toArray [str l]) w (fun v w'=>World.ownsRow w' w.heap.size 9 1 v ((bI [] l)).length (((bI [] l)).map str)∧Wk w w'):=by
 refine enter Tryz.func57 rfl Tryz.ntmps57 rfl ?_
 refine ab (fun _ ai=>(ag (((ai _ _ (ab (fun _ al=>(p aw ?_))))))))
 refine aj ((al _ _ (ab (fun _ am=>(ag (((am _ _ (sq (fun _ an=> ?_))))))))))
 refine ab (fun _ aq=>(ae (str l) (p (bV u9 rfl rfl) (p mv (aj ((aq _ _ (au ?_))))))))
 refine lp (fun ac E w1=> ∃ (i:Nat) (a:Int) (G:List UInt8) (dn:List (List UInt8)) (v:Value),(i≤l.length)∧(fG l i a G)∧(dn++bI G (l.drop i)=(bI [] l))∧(Wk w w1)∧(World.ownsRow w1 w.heap.size 9 1 v (dn).length ((dn).map str))∧(E 0=str l)∧(E 3=v)∧(E 4= .int .i64 a)∧(E 7= .int .i64 l.length)∧(E 8= .int .i64 i)∧(l.length - i=ac)) _ ⟨0,-1,[],[],.slice none 0 0,(by omega),fG.no,rfl,(Md.refl _ _),(World.ownsRow_nil _ _ _ _),rfl,rfl,rfl,rfl,rfl,rfl⟩ ?_
 rintro ac E w1 ⟨i,a,G,dn,v,hi,A,hd,I,O,aI,aJ,aL,aM,aN,rfl⟩
 refine fx 0 aI (fx 3 aJ (fx 4 aL (fx 7 aM (fx 8 aN ?_))))
 have hdl:dn.length≤l.length+1:=by have h1:=congrArg List.length hd; have h2:=pE l []; rw [List.length_append] at h1; omega
 refine ab (fun _ ar=>(p (lt rfl rfl) (aj ((ar _ _ (sq (fun _ av=>cd rfl (fun aF=> ?_) (fun aF=> ?_))))))))
 refine aA (tn (av _ _ (sq (fun _ c=>au (ab (fun _ U=>(ae (.int .i64 i) (p (bw (.int .i64 i) rfl) ?_))))))))
 refine aj ((U _ _ (au (ab (fun _ C=>(ae (str l) (ae (.int .i64 i) (p (eY u9 rfl rfl (by omega)) ?_))))))))
 refine e (cl oU (pO (l.getD i 0) _) rfl fun aZ w15 aB=> ?_)
 obtain ⟨rfl,ah⟩:=aB
 have hE15x:Wk w w15:=Md.trans I ah
 have hsz15:=hE15x.size
 have ho15:=aE O ah
 refine p mv (gb (t:=16) rfl (fun q=> ?_) (fun q=> ?_))
 refine pg rfl rfl rfl (ao (.int .i64 a) rfl) (pg rfl rfl rfl (ge rfl rfl) (p (bu rfl) (ag (((C _ _ (cd rfl (fun aC=> ?_) (fun aC=> ?_))))))))
 obtain ⟨aK,hp2,aa⟩:=A.pos (by omega)
 refine ab (fun _ s=>(ae (v) (ae (str l) (ae (.int .i64 a) (ae (.int .i64 i) (p (mB u9 rfl rfl rfl (by omega)) (e (gj fE rfl rfl fun aQ w25 aS J ax=> ?_))))))))
 refine e (ap fE (aE ho15 J.md) rfl (by have :=J.size; omega) rfl (ak.ea ax) (rfl) (rfl) (by omega) (by omega) fun aO w26 aG az aX aV=> ?_)
 have hE26:=Wk.own (Md.trans hE15x J.md) (aE ho15 J.md) az (Nat.le_refl _)
 have ho26x:=nQ aG
 refine ag (((s _ _ (rg rfl (p aw (nl (bn (bn ?_))))))))
 exact tn (c _ _ (rg rfl (p (ad rfl rfl (bp (by omega))) (p mv (aj ((⟨_,by omega,i+1,-1,[],dn++ [(l.take i).drop a.toNat],aO,(by omega),fG.no,((by rw [drop_cons 0 (by omega),BL q aa,hp2] at hd; rw [List.append_assoc]; exact hd)),hE26,ho26x,rfl,rfl,rfl,rfl,rfl,rfl⟩)))))))
 refine ab (fun _ s=>(ae (str l) (ae (.int .i64 i) (p (eY u9 rfl rfl (by omega)) (e (cl oU (pO (l.getD i 0) _) rfl fun aP w31 V=> ?_))))))
 obtain ⟨rfl,hE31⟩:=V
 have hE31x:Wk w w31:=Md.trans hE15x hE31
 have ho31:=aE ho15 hE31
 refine p (no rfl) (p mv (gb (t:=33) rfl (fun j=> ?_) (fun j=> ?_)))
 refine pg rfl rfl rfl (ao (.int .i64 a) rfl) (pg rfl rfl rfl (lt rfl rfl) (p (bu rfl) (ag (((s _ _ (cd rfl (fun Y=> ?_) (fun Y=> ?_))))))))
 refine rg rfl (ae (.int .i64 i) (p (bw (.int .i64 i) rfl) (nl (bn (bn (tn (c _ _ (rg rfl ?_))))))))
 refine p (ad rfl rfl (bp (by omega))) (p mv (nl (tn ?_)))
 rw [q] at j; cases j
 refine aA (bn (bn (tn (c _ _ (rg rfl (p (ad rfl rfl (bp (by omega))) (p mv (nl ?_))))))))
 refine tn ?_
 rw [q] at j; cases j
 refine sk rfl rfl rfl rfl (sk rfl rfl rfl rfl (p (bc rfl) (ag (((s _ _ (cf rfl (aA ?_))))))))
 refine bn (bn (tn (c _ _ (rg rfl (p (ad rfl rfl (bp (by omega))) (p mv (nl (tn ?_))))))))
 exact ⟨_,by omega,i+1,a,G,dn,v,(by omega),((by obtain ⟨h1,h2⟩:=A.neg (by omega); subst h1 h2; exact fG.no)),((by obtain ⟨h1,h2⟩:=A.neg (by omega); subst h2; rw [drop_cons 0 (by omega),BK q] at hd; exact hd)),hE31x,ho31,rfl,rfl,rfl,rfl,rfl,rfl⟩
 refine sk rfl rfl rfl rfl (sk rfl rfl rfl rfl (p (bc rfl) (ag (((C _ _ (cf rfl (sq (fun _ s=> ?_)))))))))
 refine rg rfl (ae (str l) (ae (.int .i64 i) (p (eY u9 rfl rfl (by omega)) (e (cl oU (pO (l.getD i 0) _) rfl fun aP w31 V=> ?_)))))
 obtain ⟨rfl,hE31⟩:=V
 have hE31x:Wk w w31:=Md.trans hE15x hE31
 have ho31:=aE ho15 hE31
 refine p (no rfl) (p mv (gb (t:=33) rfl (fun j=> ?_) (fun j=> ?_)))
 refine pg rfl rfl rfl (ao (.int .i64 a) rfl) (pg rfl rfl rfl (lt rfl rfl) (p (bu rfl) (ag (((s _ _ (cd rfl (fun Y=> ?_) (fun Y=> ?_))))))))
 refine rg rfl (ae (.int .i64 i) (p (bw (.int .i64 i) rfl) (nl (bn (bn (tn (c _ _ (rg rfl ?_))))))))
 exact p (ad rfl rfl (bp (by omega))) (p mv (aj ((⟨_,by omega,i+1,i,[l.getD i 0],dn,v,(by omega),(fG.begin (by omega)),((by obtain ⟨h1,h2⟩:=A.neg (by omega); subst h2; rw [drop_cons 0 (by omega),pF q] at hd; exact hd)),hE31x,ho31,rfl,rfl,rfl,rfl,rfl,rfl⟩))))
 refine aA (bn (bn (tn (c _ _ (rg rfl (p (ad rfl rfl (bp (by omega))) (p mv (nl ?_))))))))
 exact tn (⟨_,by omega,i+1,a,G++ [l.getD i 0],dn,v,(by omega),(A.more (by omega) (by omega)),((by rw [drop_cons 0 (by omega),pF q] at hd; exact hd)),hE31x,ho31,rfl,rfl,rfl,rfl,rfl,rfl⟩)
 refine sk rfl rfl rfl rfl (sk rfl rfl rfl rfl (p (bc rfl) (ag (((s _ _ (cf rfl (aA ?_))))))))
 refine bn (bn (tn (c _ _ (rg rfl (p (ad rfl rfl (bp (by omega))) (p mv (nl (tn ?_))))))))
 rw [q] at j; cases j
 refine ext (te _ (te _ (be (tn (an _ _ (sq (fun _ c=>ab (fun _ U=> ?_))))))))
 refine ae (.int .i64 a) (p (ge rfl rfl) (aj ((U _ _ (cd rfl (fun aD=> ?_) (fun aD=> ?_))))))
 obtain ⟨aK,hp2,aa⟩:=A.pos (by omega)
 refine rg rfl (ae (v) (ae (str l) (ae (.int .i64 a) (p (j6 u9 rfl rfl (by omega)) (e (gj fE rfl rfl fun aR w45 aU M ay=>e (ap fE (aE O M.md) rfl (by have :=M.size; have :=I.size; omega) rfl (ak.ea ay) (rfl) (rfl) (by omega) (by omega) fun a0 w46 aH hM46 aY aW=> ?_)))))))
 have hE46:=Wk.own (Md.trans I M.md) (aE O M.md) hM46 (Nat.le_refl _)
 have ho46x:=nQ aH
 refine ag (((c _ _ (ab (fun _ C=>(p mv (p aw (nl ?_))))))))
 refine tn (C _ _ (rt (f1 rfl rfl ?_)))
 have Z:dn++ [l.drop a.toNat]=(bI [] l):=by rw [← hd,show l.drop i= [] from List.drop_eq_nil_of_le (by omega),tu aa,hp2,List.take_of_length_le (by omega)]
 exact ⟨by rw [← Z]; exact ho46x,hE46⟩
 obtain ⟨aK,hp2⟩:=A.neg (by omega)
 refine aA (tn (c _ _ (ab (fun _ C=>(ae (v) (p (bw (v) rfl) (aj ((C _ _ ?_)))))))))
 refine rt (f1 rfl rfl ?_)
 have Z:dn=(bI [] l):=by rw [← hd,List.drop_eq_nil_of_le (by omega),hp2,BM,List.append_nil]
 exact ⟨by rw [← Z]; exact O,I⟩
end Go.Hb.gx
end
section
set_option maxRecDepth 20000
set_option maxHeartbeats 1000000
namespace Go.Hb.fg
open Go.Hb.cJ
open Go.Proofs
open Go.Hb.eM Go.Hb.ib Go.Hb.gX Go.Hb.ke Go.Hb.fH Go.Hb.gx Go.Hb.fQ
theorem Cw {l:List Tx} {x:Tx} :∀ {i:Nat},i < l.length→(∀ j,j < i→l.getD j []≠x)→l.getD i []=x→l.idxOf x=i:=by
 induction l with
 | nil=>intro i h; simp at h
 | cons a l ih=>
   intro i hi c hx
   cases i with
   | zero=>simp only [List.getD_cons_zero] at hx; rw [hx,List.idxOf_cons_self]
   | succ i=>
     have h0:=c 0 (by omega)
     simp only [List.getD_cons_zero] at h0
     rw [List.idxOf_cons,show (a==x)=false from by simpa using h0,cond_false,ih (i:=i) (by simpa using hi) (fun j hj=>by have :=c (j+1) (by omega); simpa using this) (by simpa using hx)]
theorem Be {a b:List Tx} (h:a.length≠b.length):a≠b:=fun h2=>h (by rw [h2])
theorem B6 {a b:List Tx} {i:Nat} (h:a.getD i []≠b.getD i []):a≠b:=fun h2=>h (by rw [h2])
theorem B5 {a b:List Tx} (hl:a.length=b.length) (h:∀ i,i < a.length→a.getD i []=b.getD i []):a=b:=by
 apply List.ext_getElem hl
 intro i h1 h2
 have :=h i h1
 rw [List.getD_eq_getElem?_getD,List.getD_eq_getElem?_getD,List.getElem?_eq_getElem h1,List.getElem?_eq_getElem h2] at this
 exact this
theorem FP {s:Tx} {i:Nat} (h:i < s.length):(s.drop i).take 1= [s.getD i 0]:=by
 rw [drop_cons 0 h]; rfl
theorem vZ (b:UInt8):eX [b]=dX b:=by
 unfold eX dB
 cases h:dX b <;> simp [h]
theorem vA {s:Tx} {i:Nat} (h:i < s.length):(s.take (i+1)).drop i= [s.getD i 0]:=by
 rw [List.drop_take,show i+1 - i=1 from by omega,FP h]
theorem tg {s:Tx} (h:s= []∨dB s=false):eQ s=21:=if_pos h
theorem Bx {s:Tx} (h:s≠[]) (h1:dB s=true) (h2:32 < s.length):eQ s=22:=by unfold eQ; rw [if_neg (by rw [h1]; simp [h]),if_pos h2]
theorem By {s:Tx} (h:s≠[]) (h1:dB s=true) (h2:¬32 < s.length):eQ s=0:=by unfold eQ; rw [if_neg (by rw [h1]; simp [h]),if_neg h2]
theorem Ek {s:Tx} (h:s= [48]):dR true s= .ok []:=by unfold dR; rw [if_pos ⟨rfl,h⟩]
theorem uX {s:Tx} (h:s≠[48]):dR true s=dR false s:=by unfold dR; simp [h]
theorem Eg {s:Tx} (h:(aW s).2.2.2≠0):dR false s= .error (aW s).2.2.2:=by unfold dR; rw [if_neg (fun h2=>by cases h2.1),if_pos h]
theorem Eh {s:Tx} (h:(aW s).2.2.2=0) (h1:(aW s).2.2.1=true):dR false s= .error 114:=by unfold dR; rw [if_neg (fun h2=>by cases h2.1),if_neg (fun h2=>h2 h),if_pos h1]
theorem Ei {s:Tx} (h:(aW s).2.2.2=0) (h1:(aW s).2.2.1=false) (h2:eQ (aW s).1≠0):dR false s= .error (eQ (aW s).1):=by unfold dR; rw [if_neg (fun h2=>by cases h2.1),if_neg (fun h2=>h2 h),if_neg (by rw [h1]; simp),if_pos h2]
theorem Ej {s:Tx} (h:(aW s).2.2.2=0) (h1:(aW s).2.2.1=false) (h2:eQ (aW s).1=0):dR false s= .ok (aW s).1:=by unfold dR; rw [if_neg (fun h2=>by cases h2.1),if_neg (fun h2=>h2 h),if_neg (by rw [h1]; simp),if_neg (fun h3=>h3 h2)]
theorem nO {s:Tx} {most:Int} (h:(dv s most).2=0):cH s most= .ok (dv s most).1:=by unfold cH; rw [if_neg (fun h2=>h2 h)]
theorem nN {s:Tx} {most:Int} (h:(dv s most).2≠0):cH s most= .error 13∧(dv s most).2=13:=by
 refine ⟨by unfold cH; rw [if_pos h],?_⟩
 rcases uH s most with h1 | ⟨h1,_⟩
 · rw [h1]
 · rw [h1] at h; exact absurd rfl h
theorem tX (l:List Tx) (a:Option Addr) (c:Nat) (x:Tx) (w:World) (hC:bE w.heap a l) (an:l.length≤1048576):
 aT Tryz.prog 93 (List.toArray [.slice a l.length c,str x]) w (fun v w'=>v= .int .i64 (if x∈l then (l.idxOf x:Nat) else -1:Int)∧w'=w):=by
 refine enter Tryz.func93 rfl Tryz.ntmps93 rfl ?_
 refine ab (fun _ G=>(ag (((G _ _ (sq (fun _ I=>ab (fun _ J=> ?_))))))))
 refine ae (.slice a l.length c) (p (bl dT rfl rfl) (p mv (aj ((J _ _ (au (lp (fun E q wI=> ∃ (i:Nat),(i≤l.length)∧(∀ j,j < i→l.getD j []≠x)∧(wI=w)∧(q 0= .slice a l.length c)∧(q 1=str x)∧(q 7=U (l.length))∧(q 8=U i)∧(l.length - i=E)) _ ⟨0,(by omega),((fun j hj=>by omega)),rfl,rfl,rfl,rfl,rfl,rfl⟩ ?_)))))))
 rintro E q wI ⟨i,hi,C,aa,ah,ai,al,am,rfl⟩
 refine fx 0 ah (fx 1 ai (fx 7 al (fx 8 am ?_)))
 subst aa
 refine ab (fun _ M=>(p (lt rfl rfl) (aj ((M _ _ (sq (fun _ O=>cd rfl (fun ac=> ?_) (fun ac=> ?_))))))))
 refine aA (tn (O _ _ (sq (fun _ A=>au (ab (fun _ V=>(ae (U i) (p (bw (U i) rfl) ?_))))))))
 refine aj ((V _ _ (ab (fun _ Y=>(ae (str x) (ae (.slice a l.length c) (ae (U i) (p (aH bZ rfl rfl (by omega) (ak.ok (hC) (bG (by omega)))) ?_))))))))
 refine p (ld bQ rfl (bE.get (i:=i) hC (by omega))) (p (e7 rfl rfl) (aj ((Y _ _ (cd rfl (fun s=> ?_) (fun s=> ?_))))))
 refine ab (fun _ Z=>(ae (U i) (p (bw (U i) rfl) (aj ((Z _ _ (rt (br ?_))))))))
 exact tr (tr (br (tr (f1 rfl rfl (⟨by rw [if_pos (by rw [s]; exact du (by omega)),Cw (by omega) C s.symm]; rfl,rfl⟩)))))
 refine aA (bn (tn (A _ _ (rg rfl (p (ad rfl rfl (bp (by omega))) (p mv (nl (tn ?_))))))))
 exact ⟨_,by omega,i+1,(by omega),((fun j hj=>by rcases Nat.lt_or_ge j i with h | h <;> first | exact C j h | (rw [show j=i by omega]; exact fun h2=>s h2.symm))),rfl,rfl,rfl,rfl,rfl,rfl⟩
 refine ext (te _ (te _ (be (tn (I _ _ (ab (fun _ A=>(p aw ?_))))))))
 exact aj ((A _ _ (rt (f1 rfl rfl (⟨by rw [if_neg (fun h=>by obtain ⟨j,hj,hx⟩:=mi [] h; exact C j (by omega) hx)]; rfl,rfl⟩)))))
theorem Bf (l m:List Tx) (s C:Nat) (a b:Option Addr) (c d:Nat) (w:World) (hC:bE w.heap a l) (V:bE w.heap b m) (hnl:l.length=s) (aC:m.length=C) (aB:s≤1048576):
 aT Tryz.prog 115 (List.toArray [.slice a s c,.slice b C d]) w (fun v w'=>v= .bool (decide (l=m))∧Wk w w'):=by
 refine enter Tryz.func115 rfl Tryz.ntmps115 rfl ?_
 refine ab (fun _ Z=>(ag (((Z _ _ (sq (fun _ ah=>ab (fun _ ai=> ?_))))))))
 refine ae (.slice a s c) (p (bl dT rfl rfl) (ae (.slice b C d) (p (bl dT rfl rfl) (p (ej rfl rfl) (aj ((ai _ _ (cd rfl (fun hc10=> ?_) (fun hc10=> ?_)))))))))
 refine ab (fun _ G=>(ag (((G _ _ (rt (tr (f1 rfl rfl ?_))))))))
 exact ⟨by show Value.bool false =_; rw [decide_eq_false (Be (by omega))],Md.refl _ _⟩
 have aq:l.length=m.length:=by omega
 refine aA (tn (ah _ _ (sq (fun _ G=>ab (fun _ al=>(ae (.slice a s c) (p (bl dT rfl rfl) (p mv ?_))))))))
 refine aj ((al _ _ (au (lp (fun O E wI=> ∃ (i:Nat),(i≤s)∧(∀ j,j < i→l.getD j []=m.getD j [])∧(Wk w wI)∧(E 0= .slice a s c)∧(E 1= .slice b C d)∧(E 12=U s)∧(E 13=U i)∧(s - i=O)) _ ⟨0,(by omega),((fun j hj=>by omega)),(Md.refl _ _),rfl,rfl,rfl,rfl,rfl⟩ ?_))))
 rintro O E wI ⟨i,hi,Y,A,ar,av,ax,az,rfl⟩
 refine fx 0 ar (fx 1 av (fx 12 ax (fx 13 az (ab (fun _ am=>(p (lt rfl rfl) (aj ((am _ _ (sq (fun _ an=>cd rfl (fun ap=> ?_) (fun ap=> ?_))))))))))))
 refine aA (tn (an _ _ (sq (fun _ I=>au (ab (fun _ ao=>(ae (U i) (p (bw (U i) rfl) ?_))))))))
 refine aj ((ao _ _ (sq (fun _ aa=> ?_))))
 have q:(fun w'=>Wk wI w') wI.drew:=(Md.refl _ _).drew
 refine bF (fun w'=>Wk wI w') rfl wide q (bm 0 rfl (.slice a s c) q (bm 1 rfl (U i) q (aK 2 rfl (fun _ _=>aH bZ rfl rfl (by omega) (ak.ok (hC.wk A) (bG (by omega)))) q (aK 3 rfl (fun w' J=>ld bQ rfl (Wk.ay J (bE.get (i:=i) (hC.wk A) (by omega)))) q (bm 4 rfl (.slice b C d) q (bm 5 rfl (U i) q (aK 6 rfl (fun _ _=>aH bZ rfl rfl (by omega) (ak.ok (V.wk A) (bG (by omega)))) q ?_)))))))
 refine aK 7 rfl (fun w' J=>ld bQ rfl (Wk.ay J (bE.get (i:=i) (V.wk A) (by omega)))) q (aK 8 rfl (fun _ _=>lx rfl rfl) q (hn (by kernel_rfl) (tn (aa _ _ (cd rfl (fun M=> ?_) (fun M=> ?_))))))
 refine ab (fun _ ac=>(ag (((ac _ _ (rt (br (tr ?_))))))))
 exact tr (br (tr (f1 rfl rfl (⟨by show Value.bool false =_; rw [decide_eq_false (B6 M)],A.drew⟩))))
 refine aA (bn (tn (I _ _ (rg rfl (p (ad rfl rfl (bp (by omega))) (p mv (nl (tn ?_))))))))
 exact ⟨_,by omega,i+1,(by omega),((fun j hj=>by rcases Nat.lt_or_ge j i with h | h <;> first | exact Y j h | (rw [show j=i by omega]; exact Classical.not_not.1 M))),A.drew,rfl,rfl,rfl,rfl,rfl⟩
 refine ext (te _ (te _ (be (tn (G _ _ (ab (fun _ I=>(p aw ?_))))))))
 exact aj ((I _ _ (rt (f1 rfl rfl (⟨by show Value.bool true =_; rw [decide_eq_true (B5 aq (fun j hj=>Y j (by omega)))],A⟩)))))
theorem iY (rb ln:Nat) (e:Int) (w:World) (hln:Hb.ay w.heap rb 2=some (.int .i64 (ln:Nat))):
 cM Tryz.prog 66 (List.toArray [.pointer (some ⟨rb,0,none⟩),.int .i64 e]) w (fun v w'=>v=Value.tuple #[]∧e=0∧w'=w) (fun c w'=>c=eB 25 ln e∧e≠0∧w'=w):=by
 refine e5 Tryz.func66 rfl Tryz.ntmps66 rfl ?_
 refine sq (fun i a=>rg rfl (p (ao (.int .i64 e) rfl) (p (ej rfl rfl) (nl (tn (a _ _ (cd rfl (fun hc5=> ?_) (fun hc5=> ?_))))))))
 refine rg rfl (p (ao (.pointer (some ⟨rb,0,none⟩)) rfl) (p (nc rfl) (p (fa ma rfl) (p (ld eu rfl (hln)) (p (ao (.int .i64 e) rfl) (p (bT (ps:= [(0,.int .i64 1),(1,.int .i64 (ln:Nat)),(2,.int .i64 e)]) (L:= [.int .i64 1,.int .i64 (ln:Nat),.int .i64 e]) kH rfl (rfl)) (p (DC qa rfl) ?_)))))))
 exact Ep rfl (fun q j=>⟨rfl,by omega,rfl⟩)
 refine aA (eR ?_)
 refine f0 rfl ?_
 exact ⟨rfl,by omega,rfl⟩
theorem dQ (rb ln:Nat) (b:Bool) (e:Int) (w:World) (hln:Hb.ay w.heap rb 2=some (.int .i64 (ln:Nat))) (he:e≠0):
 cM Tryz.prog 34 (List.toArray [.pointer (some ⟨rb,0,none⟩),.bool b,.int .i64 e]) w (fun v w'=>v=Value.tuple #[]∧b=true∧w'=w) (fun c w'=>c=eB 25 ln e∧b=false∧w'=w):=by
 refine e5 Tryz.func34 rfl Tryz.ntmps34 rfl ?_
 refine sq (fun q j=>rg rfl (p (ao (.bool b) rfl) (p (no rfl) (nl (tn (j _ _ (cb rfl (fun a=> ?_) (fun a=> ?_))))))))
 refine rg rfl (p (ao (.pointer (some ⟨rb,0,none⟩)) rfl) (p (ao (.int .i64 e) rfl) (eP rfl (bz iO (iY rb ln e w hln) rfl fun v10 w10 hR10=> ?_) (fun c w' i A s=>⟨i.1,by simpa using a,i.2.2⟩))))
 exact absurd hR10.2.1 he
 refine aA (eR ?_)
 refine f0 rfl ?_
 exact ⟨rfl,by simpa using a,rfl⟩
theorem vJ (B:Nat) (H:bd) (F:aG) (R:dF) (n:Nat) (r:List Tx) (rest:List Rw) (ln:Nat) (seen:List Tx) (w:World) (c:bg w B H F R ((n,r)::rest) ln seen):
 aT Tryz.prog 33 (List.toArray [aU H.rb]) w (fun v w'=>(∃ R',bg w' B H F R' rest n seen)∧Tg w' B 9 r.length v (r.map str)∧Md (fun k=>k=H.rb) w w'):=by
 obtain ⟨vr,vs,vn⟩:=R
 obtain ⟨a,cp,hv⟩:=c.rws.slice
 obtain rfl :vr= .slice a (rest.length+1) cp:=hv
 obtain ⟨q,vs,rfl⟩:∃ q vs',vs=q::vs':=by
  cases vs with
  | nil=>exact absurd c.rt.1 (by simp)
  | cons q vs'=>exact ⟨q,vs',rfl⟩
 obtain ⟨q1,q2⟩:=q
 obtain ⟨ad,hq2⟩:=c.rt.2 0 (q1,q2) (n,r) rfl rfl
 obtain rfl :q1=n:=ad
 obtain ⟨V,Y,rfl⟩:=hq2.slice
 have hrw:rest.length+1≤cp∧ak w.heap a (gO ((q1,.slice V r.length Y)::vs)):=c.rws.cells
 have hcl:=c.cells
 have hrl:H.rb < w.heap.size:=(Array.getElem?_eq_some_iff.1 hcl).1
 refine enter Tryz.func33 rfl Tryz.ntmps33 rfl ?_
 refine ab (fun _ G=>(ag (((G _ _ (ab (fun _ I=>(ae (aU H.rb) ?_))))))))
 refine p (nc rfl) (p (fa l9 rfl) (p (ld kU rfl ((aQ hcl).trans rfl)) (p (aH k9 rfl rfl (by omega) (ak.ok (hrw.2) (nU (by simp)))) (p (dp mV rfl (rfl) (nV (i:=0) hrw.2 rfl)) (e (al wy fun ah w3 ai E aa=> ?_))))))
 have hcl3:=E.md.au hcl
 refine e (b0 sy rfl rfl rfl rfl (aa) (by simp) fun am s Z=> ?_)
 have hcl4:=s.au hcl3 (fun h=>by omega)
 refine aj ((I _ _ (ab (fun _ J=>(ae (aU H.rb) (ae (aU H.rb) (p (nc rfl) (p (fa l9 rfl) ?_))))))))
 refine p (ld kU rfl ((aQ hcl4).trans rfl)) (p (mA k9 rfl rfl (by omega)) (p (nc rfl) (p (fa l9 rfl) (e (c4 sD rfl rfl (v:= .slice (dj a cp 1 2) rest.length (cp - 1)) rfl hcl4 (by show _ < 7; decide) fun w5 A ac=> ?_)))))
 have hb5:=A.B Z (fun h=>by omega)
 refine aj ((J _ _ (ab (fun _ M=>(ae (aU H.rb) (p (fa nB rfl) (p (ld eu rfl ((hb5.ay 0).trans rfl)) (p (nc rfl) ?_))))))))
 refine p (fa ma rfl) (e (c4 iR rfl rfl (v:=U q1) rfl ac (by show _ < 7; decide) fun w6 C hB6=> ?_))
 have hb6:=C.B hb5 (fun h=>by omega)
 refine aj ((M _ _ (ab (fun _ O=>(p (fa l7 rfl) (p (ld ki rfl ((hb6.ay 1).trans rfl)) (p aw (nl ?_))))))))
 refine tn (O _ _ (rt (f1 rfl rfl ?_)))
 have j:Md (fun k=>k=H.rb) w w6:=(((E.md.mono fun _ _ h=>h.elim).trans' s (fun k hk h=>by omega)).trans' A (fun _ _ h=>h)).trans' C (fun _ _ h=>h)
 exact ⟨⟨⟨.slice (dj a cp 1 2) rest.length (cp - 1),vs,vn⟩,c.bY (R':=⟨.slice (dj a cp 1 2) rest.length (cp - 1),vs,vn⟩) j hB6 rfl (c.rws.k6 (m:=2) ((vo _).trans (by have :=c.rt.1; simp at this; simp [this]))) (ep.tl c.rt)⟩,hq2.md j (ez hcl (by decide)),j⟩
theorem pU (B:Nat) (H:bd) (F:aG) (R:dF) (rows:List Rw) (ln:Nat) (seen:List Tx) (hd:List Tx) (aa j:Nat) (s:Option Addr) (A:Nat) (w:World) (E:bg w B H F R rows ln seen) (ah:Tg w aa 9 j (.slice s j A) (hd.map str)) (G:hd.length=j) (aD:j≤1000) (hrow:∀ q∈rows,q.2.length≤70000):
 cM Tryz.prog 98 (List.toArray [.pointer (some ⟨H.rb,0,none⟩),.slice s j A]) w (fun v w'=> ∃ n r rest,rows=(n,r)::rest∧r.take hd.length=hd∧(∃ R',bg w' B H F R' rest n seen)∧Tg w' B 9 r.length v (r.map str)∧Md (fun k=>k=H.rb) w w') (fun c w'=>((rows= []∧c=eB 25 H.eof 116)∨(∃ n r rest,rows=(n,r)::rest∧r.take hd.length≠hd∧c=eB 25 n 116))∧Md (fun k=>k=H.rb) w w'):=by
 obtain ⟨a,cp,hv⟩:=E.rws.slice
 have hcl:=E.cells
 have hcl0:=E.cells
 unfold mx at hcl
 rw [hv] at hcl
 refine e5 Tryz.func98 rfl Tryz.ntmps98 rfl ?_
 refine sq (fun ax ai=>rg rfl (p aw (nl (tn (ai _ _ (sq (fun az aj=>sq (fun aB al=>rg rfl ?_))))))))
 refine p (ao (.pointer (some ⟨H.rb,0,none⟩)) rfl) (p (nc rfl) (p (fa l9 rfl) (p (ld kU rfl ((aQ hcl).trans rfl)) (p (bl om rfl rfl) (p (bo rfl rfl) (nl (tn (al _ _ ?_))))))))
 refine cd rfl (fun Y=> ?_) (fun Y=> ?_)
 obtain rfl :rows= []:=List.eq_nil_of_length_eq_zero (by omega)
 refine sq (fun ab I=>rg rfl (p (ao (.pointer (some ⟨H.rb,0,none⟩)) rfl) (p (ao (.pointer (some ⟨H.rb,0,none⟩)) rfl) (p (nc rfl) (p (fa BU rfl) (p (ld eu rfl ((aQ hcl0).trans rfl)) (p (nc rfl) ?_)))))))
 refine p (fa ma rfl) (e (c4 iR rfl rfl (v:= .int .i64 (H.eof:Nat)) rfl hcl0 (by show _ < 7; decide) fun w6 am hB6=>nl (tn (I _ _ (rg rfl (p (ao (.pointer (some ⟨H.rb,0,none⟩)) rfl) (eP rfl (bz iO (iY H.rb H.eof 116 w6 ((aQ hB6).trans rfl)) rfl fun v20 w20 an=> ?_) (fun c w' i Z U=>⟨.inl ⟨rfl,i.1⟩,i.2.2 ▸ am⟩))))))))
 exact absurd an.2.1 (by decide)
 obtain ⟨q,rest,rfl⟩:∃ q rest,rows=q::rest:=by
  cases rows with
  | nil=>exact absurd rfl Y
  | cons q rest=>exact ⟨q,rest,rfl⟩
 obtain ⟨n,r⟩:=q
 refine aA (tn (aj _ _ (sq (fun ab I=>rg rfl (p (ao (.pointer (some ⟨H.rb,0,none⟩)) rfl) (e (cl r5 (vJ B H F R n r rest ln seen _ E) rfl fun aE av ap=> ?_)))))))
 obtain ⟨⟨ad,hR2⟩,hT,C⟩:=ap
 obtain ⟨ae,ag,rfl⟩:=hT.slice
 have hTc:=hT.bN
 have hrl:r.length≤70000:=hrow (n,r) (by simp)
 have hH2:=ah.md C (ez hcl0 (by decide))
 have hHc:=hH2.bN
 have hln2:=hR2.cy
 refine p aw (nl (tn (I _ _ (sq (fun aC V=>rg rfl (p (ao (.pointer (some ⟨H.rb,0,none⟩)) rfl) (p mv (p (bl dT rfl rfl) ?_))))))))
 refine p (ao (.slice s j A) rfl) (p (bl dT rfl rfl) (p (ge rfl rfl) (p mv (gs (t:=29) rfl (fun ar=> ?_) (fun ar=> ?_)))))
 refine pg rfl rfl rfl mv (pg rfl rfl rfl (ao (.slice s j A) rfl) (pg rfl rfl rfl (bl dT rfl rfl) (pg rfl rfl rfl (nY bZ rfl rfl (by omega)) (pg rfl rfl rfl (ao (.slice s j A) rfl) (eg rfl rfl rfl (cl x4 (Bf (r.take j) hd _ _ ae s ag A _ (by have :=ak.take hTc.2 j; unfold bE; rw [List.map_take]; exact this) hHc.2 (by rw [List.length_take]; omega) G (by omega)) rfl fun aF w35 aq=> ?_))))))
 obtain ⟨rfl,hE35⟩:=aq
 refine p (bu rfl) (eP rfl (bz dN (dQ H.rb n _ 116 w35 (by first | exact hR2.cy | exact Wk.ay hE35 hR2.cy) (by decide)) rfl fun au w37 M=> ?_) (fun c w' i Z U=>⟨.inr ⟨n,r,rest,rfl,(by rw [G]; first | exact of_decide_eq_false i.2.1 | exact fun h=>by have :=congrArg List.length h; rw [List.length_take] at this; omega),i.1⟩,(by rw [i.2.2]; first | exact C.trans' hE35 (fun _ _ h=>h.elim) | exact C)⟩))
 obtain ⟨rfl,O,rfl⟩:=M
 refine nl (tn (V _ _ (sq (fun ac J=>rg rfl (p mv (p aw (nl (tn (J _ _ ?_)))))))))
 refine rt (eR ?_)
 exact f1 rfl rfl (⟨n,r,rest,rfl,(by rw [G]; exact of_decide_eq_true O),⟨ad,hR2.wk hE35⟩,hT.wk hE35,C.trans' hE35 (fun _ _ h=>h.elim)⟩)
 refine sk rfl rfl rfl rfl (sk rfl rfl rfl rfl (sk rfl rfl rfl rfl (sk rfl rfl rfl rfl (sk rfl rfl rfl rfl (sk rfl rfl rfl rfl (p (bc rfl) (eP rfl (bz dN (dQ H.rb n _ 116 av (by first | exact hR2.cy | exact Wk.ay hE35 hR2.cy) (by decide)) rfl fun au w37 M=> ?_) (fun c w' i Z U=>⟨.inr ⟨n,r,rest,rfl,(by rw [G]; first | exact of_decide_eq_false i.2.1 | exact fun h=>by have :=congrArg List.length h; rw [List.length_take] at this; omega),i.1⟩,(by rw [i.2.2]; first | exact C.trans' hE35 (fun _ _ h=>h.elim) | exact C)⟩))))))))
 obtain ⟨rfl,O,rfl⟩:=M
 refine nl (tn (V _ _ (sq (fun ac J=>rg rfl (p mv (p aw (nl (tn (J _ _ ?_)))))))))
 refine rt (eR ?_)
 exact f1 rfl rfl (absurd O (by decide))
theorem nR (rb ln:Nat) (s:Tx) (most:Int) (w:World) (hln:Hb.ay w.heap rb 2=some (.int .i64 (ln:Nat))) (hs:s.length≤1048576) (hm: -9223372036854775808≤most∧most≤9223372036854775807):
 cM Tryz.prog 97 (List.toArray [.pointer (some ⟨rb,0,none⟩),str s,.int .i64 most]) w (fun v w'=> ∃ a,cH s most= .ok a∧v= .int .i64 (a:Nat)∧Wk w w') (fun c w'=> ∃ e,cH s most= .error e∧c=eB 25 ln e∧Wk w w'):=by
 refine e5 Tryz.func97 rfl Tryz.ntmps97 rfl ?_
 refine sq (fun J j=>rg rfl (p aw (nl (tn (j _ _ (sq (fun M q=>rg rfl (p (ao (str s) rfl) ?_))))))))
 refine p (ao (.int .i64 most) rfl) (e (cl nd (nP s most _ hs hm) rfl fun dd w12 E=> ?_))
 obtain ⟨rfl,hE12⟩:=E
 refine p mv (p (xt rfl rfl) (p (xt rfl rfl) (p aw (p aw (nl (tn (q _ _ (sq (fun O A=> ?_)))))))))
 refine rg rfl (p (ao (.pointer (some ⟨rb,0,none⟩)) rfl) (p mv (eP rfl (bz iO (iY rb ln (dv s most).2 w12 (Wk.ay hE12 hln)) rfl fun Y w17 G=> ?_) (fun c w' i Z V=>⟨13,(nN i.2.1).1,(by rw [i.1,(nN i.2.1).2]; rfl),(by rw [i.2.2]; exact hE12)⟩))))
 obtain ⟨rfl,I,rfl⟩:=G
 refine nl (tn (A _ _ (sq (fun U C=>rg rfl (p mv (p aw (nl (tn (C _ _ ?_)))))))))
 refine rt (eR ?_)
 exact f1 rfl rfl (⟨_,nO I,rfl,hE12⟩)
theorem qt (rb ln:Nat) (s:Tx) (w:World) (hln:Hb.ay w.heap rb 2=some (.int .i64 (ln:Nat))) (hs:s.length≤1048576):
 cM Tryz.prog 94 (List.toArray [.pointer (some ⟨rb,0,none⟩),str s]) w (fun v w'=>v= .tuple #[]∧dB s=true∧Wk w w') (fun c w'=>c=eB 25 ln 21∧dB s=false∧Wk w w'):=by
 refine e5 Tryz.func94 rfl Tryz.ntmps94 rfl ?_
 refine sq (fun ag J=>rg rfl (p (ao (str s) rfl) (p (bV u9 rfl rfl) (p mv (nl (tn (J _ _ (au ?_))))))))
 refine lp (fun E a wI=> ∃ (i:Nat),(i≤s.length)∧(∀ j,j < i→dX (s.getD j 0)=true)∧(Wk w wI)∧(a 0= .pointer (some ⟨rb,0,none⟩))∧(a 1=str s)∧(a 6= .int .i64 (s.length:Nat))∧(a 7= .int .i64 (i:Nat))∧(s.length - i=E)) _ ⟨0,(by omega),((fun j hj=>by omega)),(Md.refl _ _),rfl,rfl,rfl,rfl,rfl⟩ ?_
 rintro E a wI ⟨i,hi,G,q,aa,ab,ac,ae,rfl⟩
 refine fx 0 aa (fx 1 ab (fx 6 ac (fx 7 ae (sq (fun ah M=>rg rfl (p (lt rfl rfl) (nl (tn (M _ _ (sq (fun ai O=>cd rfl (fun hc8=> ?_) (fun hc8=> ?_))))))))))))
 refine aA (tn (O _ _ (sq (fun aj U=>au (sq (fun ak V=>rg rfl (p (ao (.int .i64 (i:Nat)) rfl) (p (bw (.int .i64 (i:Nat)) rfl) ?_))))))))
 refine nl (tn (V _ _ (rg rfl (p (ao (.pointer (some ⟨rb,0,none⟩)) rfl) (p (ao (str s) rfl) (p (ao (.int .i64 (i:Nat)) rfl) (p (ao (.int .i64 (i:Nat)) rfl) (p (a8 ((i+1:Nat):Int) rfl rfl (aI (by omega) (by omega))) ?_))))))))
 refine p (mB u9 rfl rfl rfl (by omega)) (e (cl sc (wc ((s.take (i+1)).drop i) _ (by rw [List.length_drop,List.length_take]; omega)) rfl fun am w16 Y=> ?_))
 obtain ⟨rfl,A⟩:=Y
 refine eP rfl (bz dN (dQ rb ln _ 21 w16 (Wk.ay (q.trans A) hln) (by decide)) rfl fun an w17 Z=> ?_) (fun c w' C ap al=>⟨C.1,kZ (i:=i) (by omega) (by have h:=C.2.1; rw [vA (by omega :i < s.length),vZ] at h; exact h),(by rw [C.2.2]; exact q.trans A)⟩)
 obtain ⟨rfl,I,rfl⟩:=Z
 rw [vA (by omega :i < s.length),vZ] at I
 refine nl (bn (tn (U _ _ (rg rfl (p (ad rfl rfl (bp (by omega))) (p mv (nl (tn ?_))))))))
 exact ⟨_,by omega,i+1,(by omega),((fun j hj=>by rcases Nat.lt_or_ge j i with h | h <;> first | exact G j h | (rw [show j=i by omega]; exact I))),(q.trans A),rfl,rfl,rfl,rfl,rfl⟩
 refine ext (te _ (te _ (be (eR ?_))))
 refine f0 rfl ?_
 exact ⟨rfl,lW (fun j hj=>G j (by omega)),q⟩
theorem u7 (rb ln:Nat) (s:Tx) (w:World) (hln:Hb.ay w.heap rb 2=some (.int .i64 (ln:Nat))) (hs:s.length≤1048576):
 cM Tryz.prog 116 (List.toArray [.pointer (some ⟨rb,0,none⟩),str s]) w (fun v w'=>v=str s∧eQ s=0∧Wk w w') (fun c w'=>c=eB 25 ln (eQ s:Nat)∧eQ s≠0∧Wk w w'):=by
 refine e5 Tryz.func116 rfl Tryz.ntmps116 rfl ?_
 refine sq (fun O C=>rg rfl (p aw (nl (tn (C _ _ (sq (fun U E=>rg rfl (p (ao (.pointer (some ⟨rb,0,none⟩)) rfl) ?_))))))))
 refine p (ao (str s) rfl) (eP rfl (bz oV (qt rb ln s w hln hs) rfl fun ab w7 hR7=> ?_) (fun c w' a A j=>by have h:eQ s=21:=tg (.inr a.2.1); exact ⟨by rw [h]; exact a.1,by rw [h]; decide,a.2.2⟩))
 obtain ⟨rfl,q,hE7⟩:=hR7
 refine nl (tn (E _ _ (sq (fun V G=>rg rfl (p (ao (.pointer (some ⟨rb,0,none⟩)) rfl) (p (ao (str s) rfl) (p (lx rfl rfl) (eP rfl (bz dN (dQ rb ln _ 21 w7 (Wk.ay hE7 hln) (by decide)) rfl fun v11 w11 hR11=> ?_) (fun c w' a A j=>by have h:eQ s=21:=tg (.inl (Classical.not_not.1 (of_decide_eq_false a.2.1))); exact ⟨by rw [h]; exact a.1,by rw [h]; decide,by rw [a.2.2]; exact hE7⟩)))))))))
 obtain ⟨rfl,i,rfl⟩:=hR11
 have i:s≠[]:=of_decide_eq_true i
 refine nl (tn (G _ _ (sq (fun Y I=>rg rfl (p (ao (.pointer (some ⟨rb,0,none⟩)) rfl) (p (ao (str s) rfl) (p (bV u9 rfl rfl) (p (le rfl rfl) ?_))))))))
 refine eP rfl (bz dN (dQ rb ln _ 22 w11 (Wk.ay hE7 hln) (by decide)) rfl fun aa w16 M=> ?_) (fun c w' a A j=>by have h0:=of_decide_eq_false a.2.1; have h:eQ s=22:=Bx i q (by omega); exact ⟨by rw [h]; exact a.1,by rw [h]; decide,by rw [a.2.2]; exact hE7⟩)
 obtain ⟨rfl,hx16,rfl⟩:=M
 have hx16:=of_decide_eq_true hx16
 refine nl (tn (I _ _ (sq (fun Z J=>rg rfl (p (ao (str s) rfl) (p (bw (str s) rfl) (nl (tn (J _ _ ?_)))))))))
 refine rt (eR ?_)
 exact f1 rfl rfl (⟨rfl,By i q (by omega),hE7⟩)
theorem uY (rb ln:Nat) (s:Tx) (w:World) (hln:Hb.ay w.heap rb 2=some (.int .i64 (ln:Nat))) (hs:s.length≤1048576):
 cM Tryz.prog 99 (List.toArray [.pointer (some ⟨rb,0,none⟩),str s]) w (fun v w'=> ∃ a,dR false s= .ok a∧v=str a∧Wk w w') (fun c w'=> ∃ e,dR false s= .error e∧c=eB 25 ln e∧Wk w w'):=by
 refine e5 Tryz.func99 rfl Tryz.ntmps99 rfl ?_
 refine sq (fun ab G=>rg rfl (p aw (nl (tn (G _ _ (sq (fun ac I=>rg rfl (p (ao (str s) rfl) ?_))))))))
 refine e (cl oT (qO s _ hs) rfl fun v11 w11 hR11=> ?_)
 obtain ⟨rfl,j⟩:=hR11
 have hwl:=oz s
 refine p mv (p (xt rfl rfl) (p (xt rfl rfl) (p (xt rfl rfl) (p (xt rfl rfl) (p aw (p aw (p aw ?_)))))))
 refine p aw (nl (tn (I _ _ (sq (fun ad J=>rg rfl (p (ao (.pointer (some ⟨rb,0,none⟩)) rfl) (p mv (eP rfl (bz iO (iY rb ln ((aW s).2.2.2:Nat) w11 (Wk.ay j hln)) rfl fun ah w18 U=> ?_) (fun c w' i E C=>⟨_,Eg (by have :=i.2.1; omega),i.1,by rw [i.2.2]; exact j⟩)))))))))
 obtain ⟨rfl,q,rfl⟩:=U
 have q:(aW s).2.2.2=0:=by omega
 refine nl (tn (J _ _ (sq (fun ae M=>rg rfl (p (ao (.pointer (some ⟨rb,0,none⟩)) rfl) (p mv (p (no rfl) (eP rfl (bz dN (dQ rb ln _ 114 w18 (Wk.ay j hln) (by decide)) rfl fun ai aa V=> ?_) (fun c w' i E C=>⟨_,Eh q (by simpa using i.2.1),i.1,by rw [i.2.2]; exact j⟩)))))))))
 obtain ⟨rfl,A,rfl⟩:=V
 have A:(aW s).2.2.1=false :=by simpa using A
 refine nl (tn (M _ _ (sq (fun ag O=>rg rfl (p (ao (.pointer (some ⟨rb,0,none⟩)) rfl) (p mv (eP rfl (bz rN (u7 rb ln (aW s).1 aa (Wk.ay j hln) (by omega)) rfl fun aj w25 Y=> ?_) (fun c w' i E C=>⟨_,Ei q A i.2.1,i.1,j.trans i.2.2⟩))))))))
 obtain ⟨rfl,Z,hE25⟩:=Y
 refine p aw (nl (tn (O _ _ (rt (eR ?_)))))
 exact f1 rfl rfl (⟨_,Ej q A Z,rfl,j.trans hE25⟩)
theorem uW (rb ln:Nat) (s:Tx) (w:World) (hln:Hb.ay w.heap rb 2=some (.int .i64 (ln:Nat))) (hs:s.length≤1048576):
 cM Tryz.prog 100 (List.toArray [.pointer (some ⟨rb,0,none⟩),str s]) w (fun v w'=> ∃ a,dR true s= .ok a∧v=str a∧Wk w w') (fun c w'=> ∃ e,dR true s= .error e∧c=eB 25 ln e∧Wk w w'):=by
 refine e5 Tryz.func100 rfl Tryz.ntmps100 rfl ?_
 refine sq (fun J C=>rg rfl (p aw (nl (tn (C _ _ (sq (fun M E=>sq (fun O G=>rg rfl ?_))))))))
 refine p (ao (str s) rfl) (p (e7 rfl rfl) (nl (tn (G _ _ (cd rfl (fun i=> ?_) (fun i=> ?_))))))
 refine sq (fun q j=>rg rfl (p aw (nl (tn (j _ _ (rt (tr (eR ?_))))))))
 exact f1 rfl rfl (⟨[],Ek i,rfl,Md.refl _ _⟩)
 refine aA (tn (E _ _ (sq (fun q j=>rg rfl (p (ao (.pointer (some ⟨rb,0,none⟩)) rfl) (p (ao (str s) rfl) (eP rfl (bz sh (uY rb ln s w hln hs) rfl fun v9 w9 hR9=> ?_) (fun c w' I V U=>by obtain ⟨e,he,h⟩:=I; exact ⟨e,by rw [uX i]; exact he,h⟩))))))))
 obtain ⟨a,ha,rfl,A⟩:=hR9
 refine p aw (nl (tn (j _ _ (rt (eR ?_)))))
 exact f1 rfl rfl (⟨a,by rw [uX i]; exact ha,rfl,A⟩)
end Go.Hb.fg
end
section
set_option maxRecDepth 20000
set_option maxHeartbeats 1000000
namespace Go.Hb.jk
open Go.Hb.cJ
open Go.Proofs
open Go.Hb.eM Go.Hb.fg Go.Hb.ib Go.Hb.gX Go.Hb.ke Go.Hb.fH Go.Hb.gx Go.Hb.fQ
theorem BW {kind:Nat} {s:Tx} (h:(eJ kind s).2=0):(eJ kind s).1≠0:=by
 unfold eJ at h ⊢
 split
 · rename_i h0; rw [if_pos h0] at h; cases h
 · rename_i h0; exact h0
theorem BX {F:aG} {s:Tx} (h:(eJ F.kind s).2≠0):eS F s= .error (eJ F.kind s).2:=if_pos h
theorem BY {F:aG} {s:Tx} (h:(eJ F.kind s).2=0) (h1:cQ F (eJ F.kind s).1=true):eS F s= .error 115:=by unfold eS; rw [if_neg (fun h2=>h2 h),if_pos h1]
theorem BZ {F:aG} {s:Tx} (h:(eJ F.kind s).2=0) (h1:cQ F (eJ F.kind s).1=false):eS F s= .ok (eJ F.kind s).1:=by unfold eS; rw [if_neg (fun h2=>h2 h),if_neg (by rw [h1]; exact Bool.noConfusion)]
theorem Fv {F:aG} {rows:List Rw} {ln e:Nat} {r:List Tx} (h:eS F (r.getD 1 [])= .error e):fZ F rows ln r= .error (ln,e):=by unfold fZ; rw [h]
theorem Fw {F:aG} {rows:List Rw} {ln x:Nat} {r:List Tx} (h:eS F (r.getD 1 [])= .ok x):fZ F rows ln r= .ok ({F with sp:=F.sp.set (dE.idxOf (r.getD 0 [])) x},rows):=by unfold fZ; rw [h]
def ja:List Tx:= [fp,fA,fL,fT,gr,eT,eV,bO]
theorem uS (hs:List Tx):ordered hs=true↔∀ k∈ja,k∉hs:=by
 unfold ordered
 rw [Bool.not_eq_true',List.any_eq_false]
 have hm:∀ k,k∈ja↔(k∈dE∨k=eT∨k=eV∨k=bO):=by
  intro k
  simp only [ja,dE,List.mem_cons,List.not_mem_nil,or_false,or_assoc]
 constructor
 · intro h k hk a
   have :=h k a
   rw [decide_eq_true_iff] at this
   exact this ((hm k).1 hk)
 · intro h x hx hd
   rw [decide_eq_true_iff] at hd
   exact h x ((hm x).2 hd) hx
theorem E8 {F:aG} {rows:List Rw} {ln:Nat} {r:List Tx} (h:dB (r.getD 1 [])=false):jH F rows ln r= .error (ln,21):=if_pos h
theorem E9 {F:aG} {rows:List Rw} {ln:Nat} {r:List Tx} (h:dB (r.getD 1 [])=true):jH F rows ln r= .ok ({F with lY:=r.getD 1 []},rows):=if_neg (by rw [h]; exact Bool.noConfusion)
theorem FZ {F:aG} {rows:List Rw} {ln:Nat} {r:List Tx} (h:(letE (r.getD 1 [])).2≠0):jJ F rows ln r= .error (ln,(letE (r.getD 1 [])).2):=if_pos h
theorem F1 {F:aG} {rows:List Rw} {ln:Nat} {r:List Tx} (h:(letE (r.getD 1 [])).2=0):jJ F rows ln r= .ok ({F with tr:=(letE (r.getD 1 [])).1},rows):=if_neg (fun h2=>h2 h)
theorem Dy {F:aG} {rows:List Rw} {ln e:Nat} {r:List Tx} (h:cH (r.getD 1 []) 64= .error e):gK F rows ln r= .error (ln,e):=by unfold gK; rw [h]
theorem Dz {F:aG} {rows:List Rw} {ln n:Nat} {r:List Tx} (h:cH (r.getD 1 []) 64= .ok n) (h0:n=0):gK F rows ln r= .error (ln,13):=by unfold gK; rw [h]; exact if_pos h0
theorem DA {F:aG} {rows:List Rw} {ln n:Nat} {r:List Tx} (h:cH (r.getD 1 []) 64= .ok n) (h0:n≠0):gK F rows ln r= .ok ({F with least:=n},rows):=by unfold gK; rw [h]; exact if_neg h0
theorem CZ {F:aG} {seen:List Tx} {rows:List Rw} {ln:Nat} {r:List Tx} {k:Tx} (hk:k∈ja) (h:k∈seen):gJ F seen rows ln r= .error (ln,113):=by
 unfold gJ
 rw [if_pos]
 cases ho:ordered seen with
 | false =>rfl
 | true =>exact absurd h ((uS seen).1 ho k hk)
theorem C0 {F:aG} {seen:List Tx} {rows:List Rw} {ln:Nat} {r:List Tx} (h:ordered seen=true) (h0:fU (r.getD 1 [])=0):gJ F seen rows ln r= .error (ln,114):=by unfold gJ; rw [if_neg (by rw [h]; exact Bool.noConfusion),if_pos h0]
theorem C1 {F:aG} {seen:List Tx} {rows:List Rw} {ln:Nat} {r:List Tx} (h:ordered seen=true) (h0:fU (r.getD 1 [])≠0):gJ F seen rows ln r= .ok ({F with kind:=fU (r.getD 1 [])},rows):=by unfold gJ; rw [if_neg (by rw [h]; exact Bool.noConfusion),if_neg h0]
def kinds:List Tx:= [pX,pV,pW]
theorem CX (s:Tx):((if s∈kinds then (kinds.idxOf s:Nat) else -1:Int))=(fU s:Nat) - 1:=by
 unfold fU kinds
 by_cases h1:s=pX
 · subst h1; decide
 · by_cases h2:s=pV
   · subst h2; decide
   · by_cases h3:s=pW
     · subst h3; decide
     · rw [if_neg (by simp [h1,h2,h3]),if_neg h1,if_neg h2,if_neg h3]; rfl
theorem CY (s:Tx):fU s≤3:=by
 unfold fU
 split
 · omega
 · split
   · omega
   · split <;> omega
theorem pN (B:Nat) (H:bd) (F:aG) (V:c5) (R:dF) (rows:List Rw) (ln:Nat) (seen:List Tx) (s:Tx) (w:World) (A:bB w B H.fb H.mc F V) (i:bg w B H F R rows ln seen) (hk:F.kind=1∨F.kind=2∨F.kind=3) (hs:s.length≤1048576):
 cM Tryz.prog 96 (List.toArray [.pointer (some ⟨H.rb,0,none⟩),str s]) w (fun v w'=> ∃ x,eS F s= .ok x∧x≠0∧v=az x∧cQ F x=false∧Wk w w') (fun c w'=> ∃ e,eS F s= .error e∧c=eB 25 ln (e:Nat)∧Wk w w'):=by
 obtain ⟨ai,Y,Z⟩:=i.tm
 refine e5 Tryz.func96 rfl Tryz.ntmps96 rfl ?_
 refine sq (fun ac C=>rg rfl (p aw (nl (tn (C _ _ (sq (fun ad E=>rg rfl (p (ao (.pointer (some ⟨H.rb,0,none⟩)) rfl) ?_))))))))
 refine p (nc rfl) (p (fa dI rfl) (p (ld dx rfl ((aQ i.cells).trans rfl)) (p (nc rfl) (p (fa dz rfl) (p (fa lg rfl) (p (ld eu rfl ((aQ A.cells).trans rfl)) (p (ao (str s) rfl) ?_)))))))
 refine e (cl x3 (DY F.kind s _ hk hs) rfl fun aj w17 M=> ?_)
 obtain ⟨rfl,hE17⟩:=M
 refine p mv (p (xt rfl rfl) (p (xt rfl rfl) (p aw (p aw (nl (tn (E _ _ (sq (fun ae G=> ?_)))))))))
 refine rg rfl (p (ao (.pointer (some ⟨H.rb,0,none⟩)) rfl) (p mv (eP rfl (bz iO (iY H.rb ln ((eJ F.kind s).2:Nat) w17 (Wk.ay hE17 i.cy)) rfl fun ak aa O=> ?_) (fun c w' a ab A=>⟨_,BX (by have :=a.2.1; omega),a.1,by rw [a.2.2]; exact hE17⟩))))
 obtain ⟨rfl,q,rfl⟩:=O
 have q:(eJ F.kind s).2=0:=by omega
 have hx0:=BW q
 refine nl (tn (G _ _ (sq (fun ag I=>rg rfl (p (ao (.pointer (some ⟨H.rb,0,none⟩)) rfl) (p (ao (.pointer (some ⟨H.rb,0,none⟩)) rfl) (p (nc rfl) (p (fa pK rfl) ?_))))))))
 refine p (ld lS rfl (Wk.ay hE17 ((aQ i.cells).trans rfl))) (p mv (p (iX db jj kv (Y.wk hE17) rfl rfl (⟨_,rfl⟩) (Z _ hx0)) (p (bo rfl rfl) (eP rfl (bz dN (dQ H.rb ln _ 115 aa (Wk.ay hE17 i.cy) (by decide)) rfl fun al w31 U=> ?_) (fun c w' a ab A=>⟨115,BY q (by have h:=a.2.1; rw [sK] at h; simpa using h),a.1,by rw [a.2.2]; exact hE17⟩)))))
 obtain ⟨rfl,j,rfl⟩:=U
 rw [sK] at j
 have j:cQ F (eJ F.kind s).1=false :=by simpa using j
 refine nl (tn (I _ _ (sq (fun ah J=>rg rfl (p mv (p aw (nl (tn (J _ _ ?_)))))))))
 refine rt (eR ?_)
 exact f1 rfl rfl (⟨_,BZ q j,hx0,rfl,j,hE17⟩)
theorem mC (B:Nat) (H:bd) (F:aG) (rows:List Rw) (ln:Nat) (seen:List Tx) (r:List Tx) (aj:Nat) (E:Option Addr) (I:Nat) (w:World) (G:St w B H F rows ln seen) (hT:Tg w aj 9 r.length (.slice E r.length I) (r.map str)) (hr:r.length=2) (hrl:∀ x∈r,x.length≤70000) (ae:r.getD 0 []∈dE) (aB:F.sp.getD (dE.idxOf (r.getD 0 [])) 0=0):
 cM Tryz.prog 61 (List.toArray [.pointer (some ⟨H.rb,0,none⟩),.slice E r.length I]) w (eH B H seen (fZ F rows ln r) w) (eG B H (fZ F rows ln r) w):=by
 obtain ⟨V,R,q,A,s⟩:=G
 have hTs:=hT.bN
 have ac:¬(H.rb=H.fb):=fun h=>by have h1:=A.cells; rw [h,q.cells] at h1; cases h1
 have aF:(r.getD 1 []).length≤70000:=hrl _ (du (by omega))
 have ad:¬(bk E=H.fb):=Tg.mm hT (bG (by omega)) q.cells (by decide)
 obtain ⟨aM,Y,ag⟩:=A.tm
 obtain ⟨aL,aJ,aK⟩:=A.sm
 have hix:dE.idxOf (r.getD 0 []) < 5:=List.idxOf_lt_length_iff.2 ae
 refine e5 Tryz.func61 rfl Tryz.ntmps61 rfl ?_
 refine sq (fun aC an=>rg rfl (p (ao (.pointer (some ⟨H.rb,0,none⟩)) rfl) (p (ao (.slice E r.length I) rfl) (p (aH bZ rfl rfl (by omega) (ak.ok (hTs.2) (bG (by omega)))) (p (ld bQ rfl (bE.get (i:=1) hTs.2 (by omega))) (eP rfl (bz oW (pN B H F V R rows ln seen (r.getD 1 []) w q A s.kd (by omega)) rfl fun v9 w9 hR9=> ?_) (fun c w' aq aO q=>by obtain ⟨e,he,h,h2⟩:=aq; exact ⟨ln,e,Fv he,h,Wk.mw h2⟩)))))))
 obtain ⟨x,hx,hx0,rfl,ai,j⟩:=hR9
 have hF9:=q.wk j
 have hR9:=A.wk j
 refine p aw (nl (tn (an _ _ (sq (fun aD ap=>rg rfl (p (ao (.pointer (some ⟨H.rb,0,none⟩)) rfl) (p (nc rfl) (p (fa pK rfl) ?_))))))))
 refine p (ld lS rfl (Wk.ay j ((aQ A.cells).trans rfl))) (p mv (p (iX db jj kv (Y.wk j) rfl rfl (⟨_,rfl⟩) (show _=Value.int .i64 0 from (ag x hx0).trans (by rw [ai]; rfl))) (p (a8 ((1:Nat):Int) rfl rfl (aI (by omega) (by omega))) (e (lI db kv (Y.wk j) rfl rfl rfl (⟨_,rfl⟩) fun C J ar=> ?_)))))
 have hR1:=hR9.ml (F':= {F with sp:=F.sp.set (dE.idxOf (r.getD 0 [])) x}) J ar rfl (vK ai ag (AE (by rw [q.fN]; exact hix) aB))
 have hF1:=hF9.ml hR9 J
 have hT1:=(hT.wk j).md J (fun k hk cur z hg=>by subst hk; exact (Y.wk j).jF hg)
 have hT1s:=hT1.bN
 refine nl (tn (ap _ _ ?_))
 have a:(fun w'=>Md (fun k=>k=H.fb) C w') C.drew:=(Md.refl _ _).drew
 refine bF (fun w'=>Md (fun k=>k=H.fb) C w') rfl wide a (hp 0 rfl (by kernel_rfl) (fun _ _=>ao (.pointer (some ⟨H.rb,0,none⟩)) rfl) a (hp 1 rfl (by kernel_rfl) (fun _ _=>nc rfl) a (hp 2 rfl (by kernel_rfl) (fun _ _=>fa dI rfl) a (hp 3 rfl (by kernel_rfl) (fun w' G=>ld dx rfl (Md.ay G ((aQ hR1.cells).trans rfl) (by first | exact ac | exact ad))) a (hp 5 rfl (by kernel_rfl) (fun _ _=>ao (.slice E r.length I) rfl) a (hp 6 rfl (by kernel_rfl) (fun _ _=>aH bZ rfl rfl (by omega) (ak.ok (hT1s.2) (bG (by omega)))) a (hp 7 rfl (by kernel_rfl) (fun w' G=>ld bQ rfl (Md.ay G (bE.get (i:=0) hT1s.2 (by omega)) (by first | exact ac | exact ad))) a ?_)))))))
 refine hp 9 rfl (by kernel_rfl) (fun _ _=>mv) a (hp 10 rfl (by kernel_rfl) (fun _ _=>nc rfl) a (hp 11 rfl (by kernel_rfl) (fun _ _=>fa dz rfl) a (hp 12 rfl (by kernel_rfl) (fun _ _=>fa tz rfl) a (he 4 rfl (by kernel_rfl) (kY (L:=dE.map str) fE rfl rfl rfl rfl fun Z w21 aE O am=> ?_)))))
 have ax:bE w21.heap (some ⟨Z,0,none⟩) dE:=ak.ea ⟨_,am⟩
 have hE21:=eW O.md
 have ab:(fun w'=>Md (fun k=>k=H.fb) C w') w21:=a.trans' O.md (fun _ _ h=>h.elim)
 refine ⟨ab,?_⟩
 refine he 8 rfl (by kernel_rfl) (cl sg (tX dE (some ⟨Z,0,none⟩) 5 (r.getD 0 []) _ ax (by decide)) rfl fun aN w25 av=> ?_)
 obtain ⟨ah,rfl⟩:=av
 rw [if_pos ae] at ah
 subst ah
 have U:(fun w'=>Md (fun k=>k=H.fb) C w') w25:=ab
 refine ⟨U,?_⟩
 refine hp 13 rfl (by kernel_rfl) (fun _ _=>iu oJ rfl rfl (by omega)) U (he 14 rfl (by kernel_rfl) (c4 di rfl rfl (v:=az x) rfl (O.md.au hF1.cells) (by show _ < 14; omega) fun w7 M aa=> ?_))
 rw [BA (i:=dE.idxOf (r.getD 0 [])) q.fN hix (by omega)] at aa
 have aA:(fun w'=>Md (fun k=>k=H.fb) C w') w7:=U.trans' M (fun _ _ h=>h)
 refine ⟨aA,?_⟩
 refine hn (by kernel_rfl) (eR ?_)
 refine f0 rfl ?_
 have hF2:=(hF1.wk hE21).put (F':= {F with sp:=F.sp.set (dE.idxOf (r.getD 0 [])) x}) M aa rfl rfl rfl rfl (by rw [List.length_set]; exact q.fN)
 exact ⟨rfl,_,rows,ln,Fw hx,⟨V,R,hF2,(hR1.wk hE21).fb (hF1.wk hE21) M,⟨s.len,s.sl,s.row,s.kd,s.al⟩⟩,((Wk.mw j).trans (cK.mt hR9 J)).trans ((Wk.mw hE21).trans (cK.fb (hF1.wk hE21) M))⟩
theorem za (B:Nat) (H:bd) (F:aG) (rows:List Rw) (ln:Nat) (seen:List Tx) (r:List Tx) (O:Nat) (j:Option Addr) (E:Nat) (w:World) (C:St w B H F rows ln seen) (hT:Tg w O 9 r.length (.slice j r.length E) (r.map str)) (hr:r.length=2) (hrl:∀ x∈r,x.length≤70000):
 cM Tryz.prog 59 (List.toArray [.pointer (some ⟨H.rb,0,none⟩),.slice j r.length E]) w (eH B H seen (jH F rows ln r) w) (eG B H (jH F rows ln r) w):=by
 obtain ⟨V,R,s,A,q⟩:=C
 have hTs:=hT.bN
 have J:¬(H.rb=H.fb):=fun h=>by have h1:=A.cells; rw [h,s.cells] at h1; cases h1
 have ac:(r.getD 1 []).length≤70000:=hrl _ (du (by omega))
 have M:¬(bk j=H.fb):=Tg.mm hT (bG (by omega)) s.cells (by decide)
 obtain ⟨aj,ag,ah⟩:=A.tm
 obtain ⟨ai,ad,ae⟩:=A.sm
 refine e5 Tryz.func59 rfl Tryz.ntmps59 rfl ?_
 refine sq (fun ab Y=>rg rfl (p (ao (.pointer (some ⟨H.rb,0,none⟩)) rfl) (p (ao (.slice j r.length E) rfl) (p (aH bZ rfl rfl (by omega) (ak.ok (hTs.2) (bG (by omega)))) (p (ld bQ rfl (bE.get (i:=1) hTs.2 (by omega))) (eP rfl (bz oV (qt H.rb ln (r.getD 1 []) w A.cy (by omega)) rfl fun am w8 hR8=> ?_) (fun c w' I an s=>⟨ln,21,E8 I.2.1,I.1,Wk.mw I.2.2⟩)))))))
 obtain ⟨rfl,aa,G⟩:=hR8
 have hF8:=s.wk G
 have hR8:=A.wk G
 have hT8s:=(hT.wk G).bN
 refine nl (tn (Y _ _ ?_))
 have a:(fun w'=>Md (fun k=>k=H.fb) w8 w') w8.drew:=(Md.refl _ _).drew
 refine bF (fun w'=>Md (fun k=>k=H.fb) w8 w') rfl wide a (hp 0 rfl (by kernel_rfl) (fun _ _=>ao (.pointer (some ⟨H.rb,0,none⟩)) rfl) a (hp 1 rfl (by kernel_rfl) (fun _ _=>nc rfl) a (hp 2 rfl (by kernel_rfl) (fun _ _=>fa dI rfl) a (hp 3 rfl (by kernel_rfl) (fun w' C=>ld dx rfl (Md.ay C ((aQ hR8.cells).trans rfl) (by first | exact J | exact M))) a (hp 4 rfl (by kernel_rfl) (fun _ _=>ao (.slice j r.length E) rfl) a (hp 5 rfl (by kernel_rfl) (fun _ _=>aH bZ rfl rfl (by omega) (ak.ok (hT8s.2) (bG (by omega)))) a (hp 6 rfl (by kernel_rfl) (fun w' C=>ld bQ rfl (Md.ay C (bE.get (i:=1) hT8s.2 (by omega)) (by first | exact J | exact M))) a ?_)))))))
 refine hp 7 rfl (by kernel_rfl) (fun _ _=>nc rfl) a (hp 8 rfl (by kernel_rfl) (fun _ _=>fa dz rfl) a (hp 9 rfl (by kernel_rfl) (fun _ _=>fa BS rfl) a (he 10 rfl (by kernel_rfl) (c4 kr rfl rfl (v:=str (r.getD 1 [])) rfl hF8.cells (by show _ < 14; omega) fun w9 hM9 U=> ?_))))
 have hM9:=eW hM9
 have Z:(fun w'=>Md (fun k=>k=H.fb) w8 w') w9:=hM9
 refine ⟨Z,?_⟩
 refine hn (by kernel_rfl) (eR ?_)
 refine f0 rfl ?_
 have hF2:=hF8.put (F':= {F with lY:=r.getD 1 []}) hM9 U rfl rfl rfl rfl s.fN
 exact ⟨rfl,_,rows,ln,E9 aa,⟨V,R,hF2,(hR8.fb hF8 hM9).congr rfl (fun _=>rfl),⟨q.len,q.sl,q.row,q.kd,q.al⟩⟩,(Wk.mw G).trans (cK.fb hF8 hM9)⟩
theorem F2 (B:Nat) (H:bd) (F:aG) (rows:List Rw) (ln:Nat) (seen:List Tx) (r:List Tx) (I:Nat) (q:Option Addr) (C:Nat) (w:World) (Y:St w B H F rows ln seen) (hT:Tg w I 9 r.length (.slice q r.length C) (r.map str)) (hr:r.length=2) (hrl:∀ x∈r,x.length≤70000):
 cM Tryz.prog 60 (List.toArray [.pointer (some ⟨H.rb,0,none⟩),.slice q r.length C]) w (eH B H seen (jJ F rows ln r) w) (eG B H (jJ F rows ln r) w):=by
 obtain ⟨V,R,j,A,a⟩:=Y
 have hTs:=hT.bN
 have ab:¬(H.rb=H.fb):=fun h=>by have h1:=A.cells; rw [h,j.cells] at h1; cases h1
 have ad:(r.getD 1 []).length≤70000:=hrl _ (du (by omega))
 have ac:¬(bk q=H.fb):=Tg.mm hT (bG (by omega)) j.cells (by decide)
 obtain ⟨am,ah,ai⟩:=A.tm
 obtain ⟨aj,ae,ag⟩:=A.sm
 refine e5 Tryz.func60 rfl Tryz.ntmps60 rfl ?_
 refine sq (fun Z M=>rg rfl (p (ao (.slice q r.length C) rfl) (p (aH bZ rfl rfl (by omega) (ak.ok (hTs.2) (bG (by omega)))) (p (ld bQ rfl (bE.get (i:=1) hTs.2 (by omega))) (e (cl y5 (Db (r.getD 1 []) _ (by omega)) rfl fun v10 w10 hR10=> ?_))))))
 obtain ⟨rfl,s⟩:=hR10
 have hF8:=j.wk s
 have hR8:=A.wk s
 refine p mv (p (xt rfl rfl) (p (xt rfl rfl) (p aw (p aw (nl (tn (M _ _ (sq (fun aa O=> ?_)))))))))
 refine rg rfl (p (ao (.pointer (some ⟨H.rb,0,none⟩)) rfl) (p mv (eP rfl (bz iO (iY H.rb ln ((letE (r.getD 1 [])).2:Nat) w10 hR8.cy) rfl fun an w15 U=> ?_) (fun c w' E ap j=>⟨ln,_,FZ (by have :=E.2.1; omega),E.1,by rw [E.2.2]; exact Wk.mw s⟩))))
 obtain ⟨rfl,G,rfl⟩:=U
 have G:(letE (r.getD 1 [])).2=0:=by omega
 refine nl (tn (O _ _ (rg rfl (p (ao (.pointer (some ⟨H.rb,0,none⟩)) rfl) (p (nc rfl) (p (fa dI rfl) (p (ld dx rfl ((aQ hR8.cells).trans rfl)) (p mv ?_))))))))
 refine p (nc rfl) (p (fa dz rfl) (p (fa BT rfl) (e (c4 kr rfl rfl (v:=str (letE (r.getD 1 [])).1) rfl hF8.cells (by show _ < 14; omega) fun w9 hM9 J=>nl (eR ?_)))))
 refine f0 rfl ?_
 have hF2:=hF8.put (F':= {F with tr:=(letE (r.getD 1 [])).1}) hM9 J rfl rfl rfl rfl j.fN
 exact ⟨rfl,_,rows,ln,F1 G,⟨V,R,hF2,(hR8.fb hF8 hM9).congr rfl (fun _=>rfl),⟨a.len,a.sl,a.row,a.kd,a.al⟩⟩,(Wk.mw s).trans (cK.fb hF8 hM9)⟩
theorem C5 (B:Nat) (H:bd) (F:aG) (rows:List Rw) (ln:Nat) (seen:List Tx) (r:List Tx) (U:Nat) (G:Option Addr) (I:Nat) (w:World) (C:St w B H F rows ln seen) (hT:Tg w U 9 r.length (.slice G r.length I) (r.map str)) (hr:r.length=2) (hrl:∀ x∈r,x.length≤70000):
 cM Tryz.prog 62 (List.toArray [.pointer (some ⟨H.rb,0,none⟩),.slice G r.length I]) w (eH B H seen (gK F rows ln r) w) (eG B H (gK F rows ln r) w):=by
 obtain ⟨V,R,j,q,s⟩:=C
 have hTs:=hT.bN
 have M:¬(H.rb=H.fb):=fun h=>by have h1:=q.cells; rw [h,j.cells] at h1; cases h1
 have ae:(r.getD 1 []).length≤70000:=hrl _ (du (by omega))
 have O:¬(bk G=H.fb):=Tg.mm hT (bG (by omega)) j.cells (by decide)
 obtain ⟨an,ai,aj⟩:=q.tm
 obtain ⟨am,ag,ah⟩:=q.sm
 refine e5 Tryz.func62 rfl Tryz.ntmps62 rfl ?_
 refine sq (fun ad Y=> ?_)
 have a:(fun w'=>Md (fun k=>k=H.fb) w w') w.drew:=(Md.refl _ _).drew
 refine bF (fun w'=>Md (fun k=>k=H.fb) w w') rfl wide a (hp 0 rfl (by kernel_rfl) (fun _ _=>ao (.pointer (some ⟨H.rb,0,none⟩)) rfl) a (hp 1 rfl (by kernel_rfl) (fun _ _=>nc rfl) a (hp 2 rfl (by kernel_rfl) (fun _ _=>fa dI rfl) a (hp 3 rfl (by kernel_rfl) (fun w' C=>ld dx rfl (Md.ay C ((aQ q.cells).trans rfl) (by first | exact M | exact O))) a (hp 4 rfl (by kernel_rfl) (fun _ _=>ao (.pointer (some ⟨H.rb,0,none⟩)) rfl) a (hp 5 rfl (by kernel_rfl) (fun _ _=>ao (.slice G r.length I) rfl) a (hp 6 rfl (by kernel_rfl) (fun _ _=>aH bZ rfl rfl (by omega) (ak.ok (hTs.2) (bG (by omega)))) a ?_)))))))
 refine hp 7 rfl (by kernel_rfl) (fun w' C=>ld bQ rfl (Md.ay C (bE.get (i:=1) hTs.2 (by omega)) (by first | exact M | exact O))) a (lk 8 rfl (by kernel_rfl) rfl (bz nf (nR H.rb ln (r.getD 1 []) 64 w.drew q.cy (by omega) (by omega)) rfl fun dd w12 Z=> ?_) (fun c w' A ac j=>by obtain ⟨e,he,h,h2⟩:=A; exact ⟨ln,e,Dy he,h,Wk.mw (eW h2)⟩))
 obtain ⟨n,hnx,rfl,hE12⟩:=Z
 have hE12:=eW hE12
 have hF8:=j.wk hE12
 have hR8:=q.wk hE12
 have E:(fun w'=>Md (fun k=>k=H.fb) w w') w12:=Md.mono hE12 (fun _ _ h=>h.elim)
 refine ⟨E,?_⟩
 refine hp 9 rfl (by kernel_rfl) (fun _ _=>nc rfl) E (hp 10 rfl (by kernel_rfl) (fun _ _=>fa dz rfl) E (hp 11 rfl (by kernel_rfl) (fun _ _=>fa pJ rfl) E (he 12 rfl (by kernel_rfl) (c4 iR rfl rfl (v:= .int .i64 (n:Nat)) rfl hF8.cells (by show _ < 14; omega) fun w9 hM9 J=> ?_))))
 have hR9:=hR8.fb hF8 hM9
 have ab:(fun w'=>Md (fun k=>k=H.fb) w w') w9:=E.trans' hM9 (fun _ _ h=>h)
 refine ⟨ab,?_⟩
 refine hn (by kernel_rfl) (tn (Y _ _ (rg rfl (p (ao (.pointer (some ⟨H.rb,0,none⟩)) rfl) (p (ao (.pointer (some ⟨H.rb,0,none⟩)) rfl) (p (nc rfl) (p (fa dI rfl) (p (ld dx rfl ((aQ hR9.cells).trans rfl)) ?_))))))))
 refine p (nc rfl) (p (fa dz rfl) (p (fa pJ rfl) (p (ld eu rfl ((aQ J).trans rfl)) (p (gt rfl rfl) (eP rfl (bz dN (dQ H.rb ln _ 13 w9 hR9.cy (by decide)) rfl fun ap w26 aa=> ?_) (fun c w' A ac j=>by have h0:=of_decide_eq_false A.2.1; exact ⟨ln,13,Dz hnx (by omega),A.1,by rw [A.2.2]; exact (Wk.mw hE12).trans (cK.fb hF8 hM9)⟩))))))
 obtain ⟨rfl,hx26,rfl⟩:=aa
 have hx26:=of_decide_eq_true hx26
 refine nl (eR ?_)
 refine f0 rfl ?_
 have hF2:=hF8.put (F':= {F with least:=n}) hM9 J rfl rfl rfl rfl j.fN
 exact ⟨rfl,_,rows,ln,DA hnx (by omega),⟨V,R,hF2,hR9.congr rfl (fun _=>rfl),⟨s.len,s.sl,s.row,s.kd,s.al⟩⟩,(Wk.mw hE12).trans (cK.fb hF8 hM9)⟩
theorem C2 (B:Nat) (H:bd) (F:aG) (rows:List Rw) (ln:Nat) (seen:List Tx) (r:List Tx) (aq:Nat) (G:Option Addr) (J:Nat) (w:World) (I:St w B H F rows ln seen) (hT:Tg w aq 9 r.length (.slice G r.length J) (r.map str)) (hr:r.length=2) (hrl:∀ x∈r,x.length≤70000):
 cM Tryz.prog 58 (List.toArray [.pointer (some ⟨H.rb,0,none⟩),.slice G r.length J]) w (eH B H seen (gJ F seen rows ln r) w) (eG B H (gJ F seen rows ln r) w):=by
 obtain ⟨V,R,A,O,M⟩:=I
 have hTs:=hT.bN
 have ai:¬(H.rb=H.fb):=fun h=>by have h1:=O.cells; rw [h,A.cells] at h1; cases h1
 have a5:(r.getD 1 []).length≤70000:=hrl _ (du (by omega))
 have aj:¬(bk G=H.fb):=Tg.mm hT (bG (by omega)) A.cells (by decide)
 obtain ⟨ba,a6,a7⟩:=O.tm
 obtain ⟨a9,aV,aW⟩:=O.sm
 refine e5 Tryz.func58 rfl Tryz.ntmps58 rfl ?_
 refine sq (fun aY az=>sq (fun aZ aB=>rg rfl (e (kY (L:=ja.map str) fE rfl rfl rfl rfl fun aa w6 hb6 aF hB6=> ?_))))
 have ah:bE w6.heap (some ⟨aa,0,none⟩) ja:=ak.ea ⟨_,hB6⟩
 have s:Wk w w6:=aF.md
 have hF6:=A.wk s
 have hR6:=O.wk s
 have hT6s:=(hT.wk s).bN
 have hsf6:=aV.wk s
 have a4:ja.length=8:=rfl
 refine p (bl dT rfl rfl) (p mv (nl (tn (aB _ _ (au (lp (fun ab E wI=> ∃ (i:Nat),(i≤8)∧(∀ j,j < i→ja.getD j []∉seen)∧(wI=w6)∧(E 0= .pointer (some ⟨H.rb,0,none⟩))∧(E 1= .slice G r.length J)∧(E 6= .slice (some ⟨aa,0,none⟩) 8 8)∧(E 7= .int .i64 (8:Nat))∧(E 8= .int .i64 (i:Nat))∧(8 - i=ab)) _ ⟨0,(by omega),((fun j hj=>by omega)),rfl,rfl,rfl,rfl,rfl,rfl,rfl⟩ ?_))))))
 rintro ab E wI ⟨i,hi,am,ax,aP,aR,aS,aT,aU,rfl⟩
 refine fx 0 aP (fx 1 aR (fx 6 aS (fx 7 aT (fx 8 aU ?_))))
 subst ax
 refine sq (fun a0 aC=>rg rfl (p (lt rfl rfl) (nl (tn (aC _ _ (sq (fun a1 aD=>cd rfl (fun aO=> ?_) (fun aO=> ?_))))))))
 refine aA (tn (aD _ _ (sq (fun ar U=>au (sq (fun a2 aE=>rg rfl (p (aH bZ rfl rfl (by omega) (ak.ok (ah) (bG (by omega)))) (p (ld bQ rfl (bE.get (i:=i) ah (by omega))) ?_))))))))
 refine p aw (nl (tn (aE _ _ (rg rfl (p (ao (.pointer (some ⟨H.rb,0,none⟩)) rfl) (p (ao (.pointer (some ⟨H.rb,0,none⟩)) rfl) (p (nc rfl) (p (fa lj rfl) ?_))))))))
 refine p (ld kV rfl ((aQ hR6.cells).trans rfl)) (p mv (p (iX j7 jj ei (hsf6) rfl rfl (⟨_,rfl⟩) (aW _)) (p (bo rfl rfl) (eP rfl (bz dN (dQ H.rb ln _ 113 wI hR6.cy (by decide)) rfl fun v20 w20 aJ=> ?_) (fun c w' q aX A=>⟨ln,113,CZ (k:=ja.getD i []) (du (by omega)) (by have h:=of_decide_eq_false q.2.1; exact Classical.not_not.1 fun h2=>h (by have :=List.count_eq_zero.2 h2; omega)),q.1,by rw [q.2.2]; exact Wk.mw s⟩)))))
 obtain ⟨rfl,Y,rfl⟩:=aJ
 have Y:ja.getD i []∉seen:=List.count_eq_zero.1 (by have :=of_decide_eq_true Y; omega)
 refine nl (bn (tn (U _ _ (rg rfl (p (ad rfl rfl (bp (by omega))) (p mv (nl (tn ?_))))))))
 exact ⟨_,by omega,i+1,(by omega),((fun j hj=>by rcases Nat.lt_or_ge j i with h | h <;> first | exact am j h | (rw [show j=i by omega]; exact Y))),rfl,rfl,rfl,rfl,rfl,rfl,rfl⟩
 refine ext (te _ (te _ (be (tn (az _ _ (sq (fun ar U=> ?_)))))))
 have an:ordered seen=true :=(uS seen).2 fun k hk=>by obtain ⟨j,hj,rfl⟩:=mi [] hk; exact am j (by omega)
 have a:(fun w'=>Md (fun k=>k=H.fb) wI w') wI.drew:=(Md.refl _ _).drew
 refine bF (fun w'=>Md (fun k=>k=H.fb) wI w') rfl wide a (hp 0 rfl (by kernel_rfl) (fun _ _=>ao (.pointer (some ⟨H.rb,0,none⟩)) rfl) a (hp 1 rfl (by kernel_rfl) (fun _ _=>nc rfl) a (hp 2 rfl (by kernel_rfl) (fun _ _=>fa dI rfl) a (hp 3 rfl (by kernel_rfl) (fun w' I=>ld dx rfl (Md.ay I ((aQ hR6.cells).trans rfl) (by first | exact ai | exact aj))) a (hp 5 rfl (by kernel_rfl) (fun _ _=>ao (.slice G r.length J) rfl) a (hp 6 rfl (by kernel_rfl) (fun _ _=>aH bZ rfl rfl (by omega) (ak.ok (hT6s.2) (bG (by omega)))) a (hp 7 rfl (by kernel_rfl) (fun w' I=>ld bQ rfl (Md.ay I (bE.get (i:=1) hT6s.2 (by omega)) (by first | exact ai | exact aj))) a ?_)))))))
 refine he 4 rfl (by kernel_rfl) (kY (L:=kinds.map str) fE rfl rfl rfl rfl fun Z w26 a3 ae av=> ?_)
 have aM:bE w26.heap (some ⟨Z,0,none⟩) kinds:=ak.ea ⟨_,av⟩
 have hE26:=eW ae.md
 have ag:(fun w'=>Md (fun k=>k=H.fb) wI w') w26:=a.trans' ae.md (fun _ _ h=>h.elim)
 refine ⟨ag,?_⟩
 refine he 8 rfl (by kernel_rfl) (cl sg (tX kinds (some ⟨Z,0,none⟩) 3 (r.getD 1 []) _ aM (by decide)) rfl fun v30 w30 aK=> ?_)
 obtain ⟨ap,rfl⟩:=aK
 rw [CX] at ap
 subst ap
 have hkl:=CY (r.getD 1 [])
 have C:(fun w'=>Md (fun k=>k=H.fb) wI w') w30:=ag
 refine ⟨C,?_⟩
 refine hp 9 rfl (by kernel_rfl) (fun _ _=>a8 ((fU (r.getD 1 []):Nat):Int) rfl rfl (aI (by omega) (by omega))) C (hp 10 rfl (by kernel_rfl) (fun _ _=>nc rfl) C (hp 11 rfl (by kernel_rfl) (fun _ _=>fa dz rfl) C (hp 12 rfl (by kernel_rfl) (fun _ _=>fa lg rfl) C (he 13 rfl (by kernel_rfl) (c4 iR rfl rfl (v:= .int .i64 (fU (r.getD 1 []):Nat)) rfl ((hF6.wk hE26).cells) (by show _ < 14; omega) fun w9 hM9 ac=> ?_)))))
 have hF26:=hF6.wk hE26
 have hR9:=(hR6.wk hE26).fb hF26 hM9
 have hMw:=((Wk.mw s).trans (Wk.mw hE26)).trans (cK.fb hF26 hM9)
 have aN:(fun w'=>Md (fun k=>k=H.fb) wI w') w9:=C.trans' hM9 (fun _ _ h=>h)
 refine ⟨aN,?_⟩
 refine hn (by kernel_rfl) (tn (U _ _ (rg rfl (p (ao (.pointer (some ⟨H.rb,0,none⟩)) rfl) (p (ao (.pointer (some ⟨H.rb,0,none⟩)) rfl) (p (nc rfl) (p (fa dI rfl) (p (ld dx rfl ((aQ hR9.cells).trans rfl)) ?_))))))))
 refine p (nc rfl) (p (fa dz rfl) (p (fa lg rfl) (p (ld eu rfl ((aQ ac).trans rfl)) (p (gt rfl rfl) (eP rfl (bz dN (dQ H.rb ln _ 114 w9 hR9.cy (by decide)) rfl fun bb w45 aL=> ?_) (fun c w' q aX A=>by have h0:=of_decide_eq_false q.2.1; exact ⟨ln,114,C0 an (by omega),q.1,by rw [q.2.2]; exact hMw⟩))))))
 obtain ⟨rfl,hx45,rfl⟩:=aL
 have hx45:=of_decide_eq_true hx45
 refine nl (eR ?_)
 refine f0 rfl ?_
 have hF2:=hF26.put (F':= {F with kind:=fU (r.getD 1 [])}) hM9 ac rfl rfl rfl rfl A.fN
 exact ⟨rfl,_,rows,ln,C1 an (by omega),⟨V,R,hF2,hR9.congr rfl (fun _=>rfl),⟨M.len,M.sl,M.row,(by show fU (r.getD 1 [])=1∨fU (r.getD 1 [])=2∨fU (r.getD 1 [])=3; omega),M.al⟩⟩,hMw⟩
end Go.Hb.jk
end
