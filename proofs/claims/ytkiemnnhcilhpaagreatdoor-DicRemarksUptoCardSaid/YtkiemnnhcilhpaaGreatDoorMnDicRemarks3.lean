/-
  Walks and plain laws that the law rests on, laid together. No conditions but those that each theorem names.
-/
import Derived.Test.YtkiemnnhcilhpaaGreatDoorMnDicRemarks2
set_option linter.unusedVariables false
section
set_option maxRecDepth 20000
set_option maxHeartbeats 1000000
namespace Go.Hb.m9
open Go.Hb.cU
open Go.Proofs
open Go.Hb.kv
theorem GK {n:Nat} {l:List UInt8} (h:n < 256) (hl:∀ k:Fin 256,(l.getD k.val 0).toNat=fM k.val):IntKind.i64.wrap ((l.getD n 0).toNat:Int)=(fM n:Int):=by
 rw [hl ⟨n,h⟩]; have :=n2 h; exact bC (by simp only; omega)
theorem FU {k:Nat} (h:k≤8):IntKind.u64.wrap ((1:Int)*2 ^ min ((k:Nat):Int).toNat IntKind.u64.bits)=((2 ^ k:Nat):Int):=by
 have h2:(IntKind.u64.bits:Nat)=64:=rfl
 rw [Int.toNat_natCast,h2,Nat.min_eq_left (by omega),Int.one_mul]
 have h3:(2:Nat) ^ k≤2 ^ 8:=Nat.pow_le_pow_right (by decide) h
 have h4:((2:Int) ^ k)=((2 ^ k:Nat):Int):=by simp
 rw [h4]
 obtain ⟨m,hm⟩:∃ m:Nat,2 ^ k=m:=⟨_,rfl⟩
 rw [hm] at h3 ⊢; exact jr (by omega)
theorem EI {d d1 d2:Array Nat} {a b i j:Nat} (h:Go.Sort.PermIn a b d d1) (hi:a≤i∧i < b) (c:a≤j∧j < b) (hb:b≤d1.size) (h2:d2=Go.Sort.swp d1 i j):Go.Sort.PermIn a b d d2:=by
 subst h2; exact Go.Sort.permIn_trans _ _ _ a b h (Go.Sort.swp_permIn d1 a b i j hi.1 hi.2 c.1 c.2 hb)
theorem qM (d:Array Nat) (i j s lo hi E:Nat) (B n cp:Nat) (C:Option Addr) (w:World) (c:w.ownsRow B 71 1 (.slice C n cp) n (LE aB d)) (O:ba w.heap E [U s]) (hbs:(Value.slice C n cp).ownBlock≠some E) (hr:lo≤i∧i < hi∧lo≤j∧j < hi∧hi≤n) (hs:s≤1000) (ai:n≤1099511627776):
 aT Tryz.prog 186 (List.toArray [.slice C n cp,U i,U j,aW E]) w (fun v w'=> ∃ J M s1:Nat,v= .tuple #[U J,U M]∧(lo≤J∧J < hi)∧(lo≤M∧M < hi)∧s1≤s+1∧ba w'.heap E [U s1]∧w'.ownsRow B 71 1 (.slice C n cp) n (LE aB d)∧Md (fun q=>q=E) w w'):=by
 refine enter Tryz.func186 rfl Tryz.ntmps186 rfl ?_
 refine ae (fun _ Y=>(p au (aj (((Y _ _ (sq (fun _ Z=>sq (fun _ aa=> ?_)))))))))
 have hdn:=c9 c
 have a:(fun w'=>Wk w w') w.drew:=(Md.refl _ _).drew
 refine bI (fun w'=>Wk w w') rfl wide a (bf 0 rfl (.slice C n cp) a (bf 1 rfl (U j) a (aM 2 rfl (fun _ _=>aK a4 rfl rfl (by omega) (ao.ok ((aG c).2) (a9 (by omega)))) a (aM 3 rfl (fun w' I=>ld bg rfl (bB (i:=j) ((aG c).2.wk I) (by omega))) a (bf 4 rfl (.slice C n cp) a (bf 5 rfl (U i) a (aM 6 rfl (fun _ _=>aK a4 rfl rfl (by omega) (ao.ok ((aG c).2) (a9 (by omega)))) a ?_)))))))
 refine aM 7 rfl (fun w' I=>ld bg rfl (bB (i:=i) ((aG c).2.wk I) (by omega))) a (he 8 rfl (by kernel_rfl) (cl gr (gz d[j]! d[i]! _) rfl fun al w18 ah=> ?_))
 obtain ⟨rfl,ad⟩:=ah
 have A:(fun w'=>Wk w w') w18:=Md.trans a ad
 refine ⟨A,?_⟩
 refine hn (by kernel_rfl) (tn (aa _ _ (cb rfl (fun hc18=> ?_) (fun hc18=> ?_))))
 have hB18:=A.B O
 have hO18:=aJ c A
 refine ae (fun _ G=>(ag (aW E) (p (nc rfl) (p (ld dN rfl (hB18.aA 0)) (p (bd ((s+1:Nat):Int) rfl rfl (aO (by omega) (by omega))) (p (nc rfl) (e (st iD rfl rfl (rfl) (hB18) (by simp) fun wt2_5 V ac=> ?_))))))))
 refine ak ((G _ _ (ae (fun _ ab=>(ag (U j) (ag (U i) (p (bD (U j) rfl) (p (bD (U i) rfl) ?_))))))))
 exact ak ((ab _ _ (rt (tr (f2 rfl rfl rfl (⟨j,i,s+1,rfl,by omega,by omega,by omega,ac,bF hO18 V (fun k hk h=>hbs (h ▸ hk)),Md.trans (A.mono (fun _ _ h=>h.elim)) V⟩))))))
 refine aE (tn (Z _ _ (ae (fun _ G=>(ag (U i) (ag (U j) (p (bD (U i) rfl) (p (bD (U j) rfl) ?_))))))))
 exact ak ((G _ _ (rt (f2 rfl rfl rfl (⟨i,j,s,rfl,by omega,by omega,by omega,A.B O,aJ c A,A.mono (fun _ _ h=>h.elim)⟩)))))
theorem uT (d:Array Nat) (i j k s lo hi a:Nat) (B n cp:Nat) (c:Option Addr) (w:World) (ab:w.ownsRow B 71 1 (.slice c n cp) n (LE aB d)) (O:ba w.heap a [U s]) (hbs:(Value.slice c n cp).ownBlock≠some a) (hr:(lo≤i∧i < hi)∧(lo≤j∧j < hi)∧(lo≤k∧k < hi)∧hi≤n) (hs:s≤900) (A:n≤1099511627776):
 aT Tryz.prog 179 (List.toArray [.slice c n cp,U i,U j,U k,aW a]) w (fun v w'=> ∃ C s1:Nat,v=U C∧(lo≤C∧C < hi)∧s1≤s+3∧ba w'.heap a [U s1]∧w'.ownsRow B 71 1 (.slice c n cp) n (LE aB d)∧Md (fun q=>q=a) w w'):=by
 refine enter Tryz.func179 rfl Tryz.ntmps179 rfl ?_
 refine ae (fun _ E=>(aj (((E _ _ (ae (fun _ G=>(ag (.slice c n cp) ?_))))))))
 refine ag (U i) (ag (U j) (ag (aW a) (e (cl pn (qM d i j s lo hi a B n cp c _ ab O hbs (by omega) (by omega) A) rfl fun aD w16 ai=> ?_))))
 obtain ⟨i1,an,s1,rfl,ar,aw,hs1,hB1,ac,Y⟩:=ai
 refine p mv (p (xt rfl rfl) (p (xt rfl rfl) (p au (aj (((G _ _ (sq (fun _ I=> ?_)))))))))
 refine rg rfl (ag (.slice c n cp) (p mv (ag (U k) (ag (aW a) (e (cl pn (qM d an k s1 lo hi a B n cp c _ ac hB1 hbs (by omega) (by omega) A) rfl fun aE aG ak=> ?_))))))
 obtain ⟨ao,aC,s2,rfl,ax,ay,az,hB2,ad,Z⟩:=ak
 refine p mv (p (xt rfl rfl) (p (xt rfl rfl) (p au (aj (((I _ _ (sq (fun _ J=> ?_)))))))))
 refine rg rfl (ag (.slice c n cp) (p mv (p mv (ag (aW a) (e (cl pn (qM d i1 ao s2 lo hi a B n cp c _ ad hB2 hbs (by omega) (by omega) A) rfl fun aF aH al=> ?_))))))
 obtain ⟨i3,ap,aq,rfl,av,am,aA,V,ah,aa⟩:=al
 refine p mv (p (xt rfl rfl) (p (xt rfl rfl) (p au (aj (((J _ _ (sq (fun _ M=> ?_)))))))))
 exact rg rfl (p mv (aj (((M _ _ (rt (f1 rfl rfl (⟨ap,aq,rfl,am,by omega,V,ah,Md.trans Y (Md.trans Z aa)⟩))))))))
theorem qA (d:Array Nat) (i s lo hi a:Nat) (B n cp:Nat) (c:Option Addr) (w:World) (G:w.ownsRow B 71 1 (.slice c n cp) n (LE aB d)) (E:ba w.heap a [U s]) (hbs:(Value.slice c n cp).ownBlock≠some a) (hr:lo+1≤i∧i+1 < hi∧hi≤n) (hs:s≤900) (J:n≤1099511627776):
 aT Tryz.prog 178 (List.toArray [.slice c n cp,U i,aW a]) w (fun v w'=> ∃ j s1:Nat,v=U j∧(lo≤j∧j < hi)∧s1≤s+3∧ba w'.heap a [U s1]∧w'.ownsRow B 71 1 (.slice c n cp) n (LE aB d)∧Md (fun q=>q=a) w w'):=by
 refine enter Tryz.func178 rfl Tryz.ntmps178 rfl ?_
 refine ae (fun _ A=>(aj (((A _ _ (ae (fun _ C=>(ag (.slice c n cp) ?_))))))))
 refine ag (U i) (p (bQ ((i - 1:Nat):Int) rfl rfl (aO (by omega) (by omega))) (ag (U i) (ag (U i) (p (bd ((i+1:Nat):Int) rfl rfl (aO (by omega) (by omega))) (ag (aW a) (e (cl sv (uT d (i - 1) i (i+1) s lo hi a B n cp c _ G E hbs (by omega) (by omega) J) rfl fun M w14 I=>p au ?_)))))))
 exact ak ((C _ _ (rt (f1 rfl rfl (I)))))
theorem zz (d:Array Nat) (a b:Nat) (B n cp:Nat) (c:Option Addr) (w:World) (Z:w.ownsRow B 71 1 (.slice c n cp) n (LE aB d)) (a6:a+12 < b∧b≤n) (C:n≤1099511627776):
 aT Tryz.prog 159 (List.toArray [.slice c n cp,U a,U b]) w (fun v w'=> ∃ (V:Nat) (hv:Int),v= .tuple #[U V,.int .i64 hv]∧(a≤V∧V < b)∧w'.ownsRow B 71 1 (.slice c n cp) n (LE aB d)∧Wk w w'):=by
 refine enter Tryz.func159 rfl Tryz.ntmps159 rfl ?_
 refine ae (fun _ aa=>(p au (aj (((aa _ _ (ae (fun _ ab=> ?_))))))))
 refine ag (U b) (ag (U a) (p (bQ ((b - a:Nat):Int) rfl rfl (aO (by omega) (by omega))) (aj (((ab _ _ (ae (fun _ ac=> ?_))))))))
 refine e (al Hd fun b9 w9 hb9 M Y=> ?_)
 have hO9:=aJ Z M.md
 have hbs:(Value.slice c n cp).ownBlock≠some b9:=fun h=>by have :=c4 Z h; omega
 refine ak ((ac _ _ (ae (fun _ ad=>(ag (U a) (p mv (p (kg (((b - a) / 4:Nat):Int) rfl rfl (by omega) (aO (by omega) (by omega))) (p (kT (((b - a) / 4:Nat):Int) rfl rfl (aO (by omega) (by omega))) ?_))))))))
 refine p (bd ((a+(b - a) / 4:Nat):Int) rfl rfl (aO (by omega) (by omega))) (aj (((ad _ _ (ae (fun _ ah=>(ag (U a) (p mv ?_))))))))
 refine p (kg (((b - a) / 4:Nat):Int) rfl rfl (by omega) (aO (by omega) (by omega))) (p (kT (((b - a) / 4 *2:Nat):Int) rfl rfl (aO (by omega) (by omega))) (p (bd ((a+(b - a) / 4 *2:Nat):Int) rfl rfl (aO (by omega) (by omega))) (aj (((ah _ _ (ae (fun _ ai=> ?_))))))))
 refine ag (U a) (p mv (p (kg (((b - a) / 4:Nat):Int) rfl rfl (by omega) (aO (by omega) (by omega))) (p (kT (((b - a) / 4 *3:Nat):Int) rfl rfl (aO (by omega) (by omega))) (p (bd ((a+(b - a) / 4 *3:Nat):Int) rfl rfl (aO (by omega) (by omega))) (aj (((ai _ _ ?_))))))))
 refine sq (fun _ am=>ae (fun _ an=>(p mv (p (ge rfl rfl) (ak ((an _ _ (cd rfl (fun a7=> ?_) (fun h=>absurd (by omega) h)))))))))
 refine cQ (fun i wC=> ∃ (j q s E:Nat),(a≤j∧j < b)∧(a≤q∧q < b)∧(a≤s∧s < b)∧(E≤9)∧(ba wC.heap b9 [U E])∧(wC.ownsRow B 71 1 (.slice c n cp) n (LE aB d))∧(Wk w wC)∧(i 0= .slice c n cp)∧(i 1=U a)∧(i 2=U b)∧(i 8=U (b - a))∧(i 9=aW b9)∧(i 10=U j)∧(i 11=U q)∧(i 12=U s)) ?_ ?_
 refine ae (fun _ J=>(p mv (p (ge rfl rfl) (ak ((J _ _ (cd rfl (fun aM=> ?_) (fun aM=> ?_))))))))
 refine ae (fun _ G=>(ag (.slice c n cp) (p mv (e (cl pk (qA d (a+(b - a) / 4) 0 a b b9 B n cp c _ hO9 Y hbs (by omega) (by omega) C) rfl fun bj w37 aH=> ?_)))))
 obtain ⟨i1,s1,rfl,aQ,hs1,hB1,aC,av⟩:=aH
 refine aj (((G _ _ (ae (fun _ A=>(ag (.slice c n cp) (p mv (e (cl pk (qA d (a+(b - a) / 4 *2) s1 a b b9 B n cp c _ aC hB1 hbs (by omega) (by omega) C) rfl fun bk bn aI=> ?_)))))))))
 obtain ⟨a3,s2,rfl,aR,bc,hB2,aD,ax⟩:=aI
 refine aj (((A _ _ (rg rfl (ag (.slice c n cp) (p mv (e (cl pk (qA d (a+(b - a) / 4 *3) s2 a b b9 B n cp c _ aD hB2 hbs (by omega) (by omega) C) rfl fun bl w43 aK=> ?_))))))))
 obtain ⟨a4,a5,rfl,aS,bf,ao,aF,ay⟩:=aK
 exact aj (((⟨i1,a3,a4,a5,aQ,aR,aS,(by omega),ao,aF,(Md.trans' M.md (Md.trans av (Md.trans ax ay)) (fun k hk h=>by omega)),rfl,rfl,rfl,rfl,rfl,rfl,rfl,rfl⟩)))
 exact aE (tn (⟨a+(b - a) / 4,a+(b - a) / 4 *2,a+(b - a) / 4 *3,0,(by omega),(by omega),(by omega),(by omega),Y,hO9,M.md,rfl,rfl,rfl,rfl,rfl,rfl,rfl,rfl⟩))
 rintro i wC ⟨j,q,s,E,a8,a9,bb,bh,aq,aG,ar,aU,aV,a0,a1,a2,aX,aY,aZ⟩
 refine fx 0 aU (fx 1 aV (fx 2 a0 (fx 8 a1 (fx 9 a2 (fx 10 aX (fx 11 aY (fx 12 aZ (rg rfl (ag (.slice c n cp) (ag (U j) (ag (U q) (ag (U s) (e (cl sv (uT d j q s E a b b9 B n cp c _ aG aq hbs (by omega) (by omega) C) rfl fun bm w48 aL=> ?_))))))))))))))
 obtain ⟨q1,bi,rfl,hq1,bg,ap,O,az⟩:=aL
 have hE4:Wk w w48:=Md.trans' ar az (fun k hk h=>by omega)
 refine aj (((am _ _ (ae (fun _ J=>(p (ld dN rfl (ap.aA 0)) (ak ((J _ _ ?_)))))))))
 refine aw (ae (fun _ G=>(p (bu rfl rfl) (aj (((G _ _ (cd rfl (fun aN=> ?_) (fun aN=> ?_)))))))))
 refine ae (fun _ A=>(p mv (p au (aj (((A _ _ (rt ?_))))))))
 exact br (f2 rfl rfl rfl (⟨q1,_,rfl,hq1,O,hE4⟩))
 refine ae (fun _ A=>(p (bu rfl rfl) (aj (((A _ _ (cd rfl (fun aP=> ?_) (fun aP=> ?_))))))))
 refine ae (fun _ I=>(p mv (p au (aj (((I _ _ (rt ?_))))))))
 exact br (f2 rfl rfl rfl (⟨q1,_,rfl,hq1,O,hE4⟩))
 refine ae (fun _ I=>(p mv (p au (aj (((I _ _ (rt ?_))))))))
 exact br (f2 rfl rfl rfl (⟨q1,_,rfl,hq1,O,hE4⟩))
theorem Ea (a:Nat) (r:Int) (w:World) (C:ba w.heap a [.int .u64 r]):
 aT Tryz.prog 177 (List.toArray [aW a]) w (fun v w'=> ∃ A:Int,v= .int .u64 A∧0≤A∧A < 18446744073709551616∧ba w'.heap a [.int .u64 A]∧Md (fun q=>q=a) w w'):=by
 refine enter Tryz.func177 rfl Tryz.ntmps177 rfl ?_
 refine ae (fun _ O=>(aj (((O _ _ (sq (fun _ U=> ?_)))))))
 have i:(fun w'=>Wk w w') w.drew:=(Md.refl _ _).drew
 refine dj (fun w'=>Wk w w') 9 rfl wide i (lq 0 rfl (by kernel_rfl) (fun _ _=>az (aW a) rfl) i (lq 1 rfl (by kernel_rfl) (fun _ _=>nc rfl) i (lq 2 rfl (by kernel_rfl) (fun w' c=>ld kz rfl (Wk.aA c (C.aA 0))) i (lq 3 rfl (by kernel_rfl) (fun _ _=>az (aW a) rfl) i (lq 4 rfl (by kernel_rfl) (fun _ _=>nc rfl) i (lq 5 rfl (by kernel_rfl) (fun w' c=>ld kz rfl (Wk.aA c (C.aA 0))) i (lq 6 rfl (by kernel_rfl) (fun _ _=>shl rfl rfl (by decide) rfl) i ?_)))))))
 refine lq 7 rfl (by kernel_rfl) (fun _ _=>pc rfl rfl rfl) i (lq 8 rfl (by kernel_rfl) (fun _ _=>nc rfl) i (bP 9 rfl (by kernel_rfl) (by kernel_rfl) (st nG rfl rfl (rfl) (i.B C) (by simp) fun I aa E=> ?_)))
 refine di (by kernel_rfl) ?_
 refine tn (U _ _ (sq (fun _ V=> ?_)))
 have j:(fun w'=>Wk I w') I.drew:=(Md.refl _ _).drew
 refine dj (fun w'=>Wk I w') 9 rfl wide j (lq 0 rfl (by kernel_rfl) (fun _ _=>az (aW a) rfl) j (lq 1 rfl (by kernel_rfl) (fun _ _=>nc rfl) j (lq 2 rfl (by kernel_rfl) (fun w' c=>ld kz rfl (Wk.aA c (E.aA 0))) j (lq 3 rfl (by kernel_rfl) (fun _ _=>az (aW a) rfl) j (lq 4 rfl (by kernel_rfl) (fun _ _=>nc rfl) j (lq 5 rfl (by kernel_rfl) (fun w' c=>ld kz rfl (Wk.aA c (E.aA 0))) j (lq 6 rfl (by kernel_rfl) (fun _ _=>shr rfl rfl (by decide) rfl) j ?_)))))))
 refine lq 7 rfl (by kernel_rfl) (fun _ _=>pc rfl rfl rfl) j (lq 8 rfl (by kernel_rfl) (fun _ _=>nc rfl) j (bP 9 rfl (by kernel_rfl) (by kernel_rfl) (st nG rfl rfl (rfl) (j.B E) (by simp) fun J ab G=> ?_)))
 refine di (by kernel_rfl) ?_
 refine tn (V _ _ (sq (fun _ Y=> ?_)))
 have s:(fun w'=>Wk J w') J.drew:=(Md.refl _ _).drew
 refine dj (fun w'=>Wk J w') 9 rfl wide s (lq 0 rfl (by kernel_rfl) (fun _ _=>az (aW a) rfl) s (lq 1 rfl (by kernel_rfl) (fun _ _=>nc rfl) s (lq 2 rfl (by kernel_rfl) (fun w' c=>ld kz rfl (Wk.aA c (G.aA 0))) s (lq 3 rfl (by kernel_rfl) (fun _ _=>az (aW a) rfl) s (lq 4 rfl (by kernel_rfl) (fun _ _=>nc rfl) s (lq 5 rfl (by kernel_rfl) (fun w' c=>ld kz rfl (Wk.aA c (G.aA 0))) s (lq 6 rfl (by kernel_rfl) (fun _ _=>shl rfl rfl (by decide) rfl) s ?_)))))))
 refine lq 7 rfl (by kernel_rfl) (fun _ _=>pc rfl rfl rfl) s (lq 8 rfl (by kernel_rfl) (fun _ _=>nc rfl) s (bP 9 rfl (by kernel_rfl) (by kernel_rfl) (st nG rfl rfl (rfl) (s.B G) (by simp) fun ad ac M=> ?_)))
 refine di (by kernel_rfl) ?_
 refine tn (Y _ _ (ae (fun _ Z=>(ag (aW a) (p (nc rfl) (p (ld kz rfl (M.aA 0)) (p au (nl ?_))))))))
 refine tn (Z _ _ (rt (f1 rfl rfl ?_)))
 refine ⟨_,rfl,(wO _).1,(wO _).2,M,?_⟩
 exact Md.trans (Md.refl _ _).drew (Md.trans aa (Md.trans (Md.refl _ _).drew (Md.trans ab (Md.trans (Md.refl _ _).drew ac))))
theorem Dw (n:Nat) (w:World) (hn:n < 256):
 aT Tryz.prog 166 (List.toArray [.int .u64 (n:Nat)]) w (fun v w'=>v=U (fM n)∧Wk w w'):=by
 have hll:=n2 hn
 refine enter Tryz.func166 rfl Tryz.ntmps166 rfl ?_
 refine ae (fun _ a=>(aj (((a _ _ (sq (fun _ c=>ae (fun _ i=> ?_))))))))
 refine ag (.int .u64 (n:Nat)) (p (ge rfl rfl) (ak ((i _ _ (cd rfl (fun h=>absurd h (by omega)) (fun G=> ?_))))))
 refine aE (tn (c _ _ (sq (fun _ j=>ae (fun _ q=>(ag (.int .u64 (n:Nat)) (p (ge rfl rfl) (nl ?_))))))))
 refine tn (q _ _ (cd rfl (fun h=>absurd h (by omega)) (fun hc8=> ?_)))
 refine aE (tn (j _ _ (sq (fun _ s=>ae (fun _ A=>(ag (.int .u64 (n:Nat)) (p (ge rfl rfl) (nl ?_))))))))
 refine tn (A _ _ (cd rfl (fun h=>absurd h (by omega)) (fun E=> ?_)))
 refine aE (tn (s _ _ (ae (fun _ C=>(ag (.int .i64 0) (ag (.int .u64 (n:Nat)) (p (pI u5 GP rfl (rp (by omega))) (p (fF u9 rfl rfl (by have :n < 256:=hn; simpa using this)) ?_))))))))
 exact p (iZ u3 mZ rfl (GK hn (by decide+kernel))) (p (bd ((fM n:Nat):Int) rfl rfl (aO (by omega) (by omega))) (aj (((C _ _ (rt (f1 rfl rfl (⟨rfl,Md.refl _ _⟩))))))))
theorem uJ (n:Nat) (w:World) (hn:n < 256):
 aT Tryz.prog 139 (List.toArray [.int .u64 (n:Nat)]) w (fun v w'=>v=U (fM n)∧Wk w w'):=by
 refine enter Tryz.func139 rfl Tryz.ntmps139 rfl ?_
 refine ae (fun _ a=>(aj (((a _ _ (sq (fun _ c=>cf rfl (aE ?_))))))))
 refine tn (c _ _ (ae (fun _ i=>(ag (.int .u64 (n:Nat)) (e (cl yR (Dw n _ hn) rfl fun j w7 hR7=>aj (((i _ _ ?_)))))))))
 exact rt (f1 rfl rfl (hR7))
theorem Eb (n:Nat) (w:World) (hn:n < 256):
 aT Tryz.prog 176 (List.toArray [U n]) w (fun v w'=>v= .int .u64 (2 ^ fM n:Nat)∧Wk w w'):=by
 refine enter Tryz.func176 rfl Tryz.ntmps176 rfl ?_
 refine ae (fun _ a=>(aj (((a _ _ (ae (fun _ c=>(ag (U n) ?_))))))))
 refine p (iZ wH lW rfl (jr (by omega))) (e (cl sj (uJ n _ hn) rfl fun i w5 hR5=> ?_))
 obtain ⟨rfl,hE5⟩:=hR5
 have hll:=n2 hn
 exact p (shl rfl rfl (by omega) (FU hll)) (aj (((c _ _ (rt (f1 rfl rfl (⟨rfl,hE5⟩)))))))
theorem yc (d:Array Nat) (a b:Nat) (B n cp:Nat) (j:Option Addr) (w:World) (am:w.ownsRow B 71 1 (.slice j n cp) n (LE aB d)) (bm:a+12 < b∧b≤n) (bq:n≤255):
 aT Tryz.prog 158 (List.toArray [.slice j n cp,U a,U b]) w (fun v w'=> ∃ d1,v= .tuple #[]∧Go.Sort.PermIn a b d d1∧w'.ownsRow B 71 1 (.slice j n cp) n (LE aB d1)∧Md (fun q=>(Value.slice j n cp).ownBlock=some q) w w'):=by
 refine enter Tryz.func158 rfl Tryz.ntmps158 rfl ?_
 refine ae (fun _ an=>(ag (U b) (ag (U a) (p (bQ ((b - a:Nat):Int) rfl rfl (aO (by omega) (by omega))) (aj (((an _ _ ?_))))))))
 refine ae (fun _ aq=>(p mv (p (ge rfl rfl) (ak ((aq _ _ (cd rfl (fun bp=> ?_) (fun h=>absurd (by omega) h))))))))
 refine ae (fun _ ar=>(p mv (p (iZ GG lW rfl (jr (by omega))) (e (al Hc fun b7 w7 bo aS aF=>e (st nG rfl rfl (rfl) (aF) (by simp) fun wt2_3 aL aD=> ?_))))))
 have ah:Wk w wt2_3:=Md.trans' aS.md aL (fun k hk h=>by omega)
 refine ak ((ar _ _ (ae (fun _ av=>(p mv (e (cl yV (Eb (b - a) _ (by omega)) rfl fun bv w19 aU=> ?_)))))))
 obtain ⟨rfl,Y⟩:=aU
 have hmr:=Dx (n:=b - a) (by omega) (by omega)
 refine aj (((av _ _ (ae (fun _ ax=>(ag (U a) (p mv (p (kg (((b - a) / 4:Nat):Int) rfl rfl (by omega) (aO (by omega) (by omega))) ?_))))))))
 refine p (kT (((b - a) / 4 *2:Nat):Int) rfl rfl (aO (by omega) (by omega))) (p (bd ((a+(b - a) / 4 *2:Nat):Int) rfl rfl (aO (by omega) (by omega))) (p (bQ ((a+(b - a) / 4 *2 - 1:Nat):Int) rfl rfl (aO (by omega) (by omega))) (aj (((ax _ _ (aw ?_)))))))
 have M:(Value.slice j n cp).ownBlock≠some b7:=fun h=>by have :=c4 am h; omega
 refine lp (fun ac I V=> ∃ (s:Nat) (r:Int) (C:Array Nat),(a+(b - a) / 4 *2 - 1≤s∧s≤a+(b - a) / 4 *2 +2)∧(Go.Sort.PermIn a b d C)∧(ba V.heap b7 [.int .u64 r])∧(V.ownsRow B 71 1 (.slice j n cp) n (LE aB C))∧(Md (fun q=>(Value.slice j n cp).ownBlock=some q) w V)∧(I 0= .slice j n cp)∧(I 1=U a)∧(I 6=U (b - a))∧(I 7=aW b7)∧(I 8= .int .u64 (2 ^ fM (b - a):Nat))∧(I 9=U s)∧(a+(b - a) / 4 *2 +3 - s=ac)) _ ⟨a+(b - a) / 4 *2 - 1,(b - a:Nat),d,(by omega),(Go.Sort.permIn_refl d a b),(Y.B aD),(aJ (aJ am ah) Y),((Md.trans ah Y).mono (fun _ _ h=>h.elim)),rfl,rfl,rfl,rfl,rfl,rfl,rfl⟩ ?_
 rintro ac I V ⟨s,r,C,hix,aM,aI,aa,Z,a2,a3,a5,a6,a8,bb,rfl⟩
 refine fx 0 a2 (fx 1 a3 (fx 6 a5 (fx 7 a6 (fx 8 a8 (fx 9 bb (sq (fun _ ay=>ae (fun _ az=>(ag (U s) (ag (U a) (ag (U (b - a)) (p (kg (((b - a) / 4:Nat):Int) rfl rfl (by omega) (aO (by omega) (by omega))) ?_))))))))))))
 refine p (kT (((b - a) / 4 *2:Nat):Int) rfl rfl (aO (by omega) (by omega))) (p (bd ((a+(b - a) / 4 *2:Nat):Int) rfl rfl (aO (by omega) (by omega))) (p (bd ((a+(b - a) / 4 *2 +1:Nat):Int) rfl rfl (aO (by omega) (by omega))) (p (le rfl rfl) (ak ((az _ _ (cd rfl (fun aX=> ?_) (fun aX=> ?_))))))))
 refine aE (tn (ay _ _ (sq (fun _ aA=>aw (ae (fun _ aC=>(e (cl yW (Ea b7 r _ aI) rfl fun bw w36 aV=> ?_))))))))
 obtain ⟨ab,rfl,bt,bu,ad,O⟩:=aV
 obtain ⟨o,br,a1⟩:=xV ab (2 ^ fM (b - a)) (by omega)
 have hne:=M
 refine ag (.int .u64 (2 ^ fM (b - a):Nat)) (p (sb rfl rfl (jr (by omega))) (p (nn rfl rfl a1) (p (pI u3 GO rfl (bC (by omega))) (aj (((aC _ _ ?_)))))))
 refine cQ (fun G wC=> ∃ (A:Nat),(A < b - a)∧(ba wC.heap b7 [.int .u64 ab])∧(wC.ownsRow B 71 1 (.slice j n cp) n (LE aB C))∧(Md (fun q=>(Value.slice j n cp).ownBlock=some q) w wC)∧(G 0= .slice j n cp)∧(G 1=U a)∧(G 6=U (b - a))∧(G 7=aW b7)∧(G 8= .int .u64 (2 ^ fM (b - a):Nat))∧(G 9=U s)∧(G 10=U A)) ?_ ?_
 refine ae (fun _ ap=>(p mv (ag (U (b - a)) (p (ge rfl rfl) (ak ((ap _ _ (cd rfl (fun aY=> ?_) (fun aY=> ?_)))))))))
 exact rg rfl (p mv (ag (U (b - a)) (p (bQ ((o - (b - a):Nat):Int) rfl rfl (aO (by omega) (by omega))) (aj (((⟨o - (b - a),(by omega),ad,(bF aa O (fun k hk h=>M (h ▸ hk))),(Md.trans' Z O (fun k hk h=>by omega)),rfl,rfl,rfl,rfl,rfl,rfl,rfl⟩)))))))
 exact aE (tn (⟨o,(by omega),ad,(bF aa O (fun k hk h=>M (h ▸ hk))),(Md.trans' Z O (fun k hk h=>by omega)),rfl,rfl,rfl,rfl,rfl,rfl,rfl⟩))
 rintro G wC ⟨A,bs,aH,E,aR,bc,bf,bi,bj,bk,bl,bh⟩
 refine fx 0 bc (fx 1 bf (fx 6 bi (fx 7 bj (fx 8 bk (fx 9 bl (fx 10 bh ?_))))))
 have hdcn:=c9 E
 have c:(fun w'=>Wk wC w') wC.drew:=(Md.refl _ _).drew
 refine dj (fun w'=>Wk wC w') 17 rfl wide c (aQ 0 rfl (.slice j n cp) c (aQ 1 rfl (U s) c (aQ 2 rfl (.slice j n cp) c (aQ 3 rfl (U a) c (aQ 4 rfl (U A) c (a7 5 rfl (fun _=>bd ((a+A:Nat):Int) rfl rfl (aO (by omega) (by omega))) (fun _=>c) (aQ 6 rfl (.slice j n cp) c ?_)))))))
 refine aQ 7 rfl (U a) c (aQ 8 rfl (U A) c (a7 9 rfl (fun _=>bd ((a+A:Nat):Int) rfl rfl (aO (by omega) (by omega))) (fun _=>c) (a7 10 rfl (fun _=>aK a4 rfl rfl (by omega) (ao.ok ((aG E).2) (a9 (by omega)))) (fun _=>c) (cY 11 rfl (fun w' J=>ld bg rfl (bB (i:=a+A) ((aG E).2.wk J) (by omega))) c (aQ 12 rfl (.slice j n cp) c (aQ 13 rfl (U s) c (a7 14 rfl (fun _=>aK a4 rfl rfl (by omega) (ao.ok ((aG E).2) (a9 (by omega)))) (fun _=>c) ?_)))))))
 refine cY 15 rfl (fun w' J=>ld bg rfl (bB (i:=s) ((aG E).2.wk J) (by omega))) c (a7 16 rfl (fun _=>aK a4 rfl rfl (by omega) (ao.ok ((aG E).2) (a9 (by omega)))) (fun _=>c) (bP 17 rfl (by kernel_rfl) (by kernel_rfl) (dA (u:=C[a+A]!) (s) (aJ E c) dq rfl rfl rfl (by omega) fun bx aN aZ=> ?_)))
 refine a7 18 rfl (fun _=>aK a4 rfl rfl (by omega) (ao.ok ((aG E).2) (a9 (by omega)))) (fun h=>Bool.noConfusion ((show true =_ from by kernel_rfl).trans h)) (bP 19 rfl (by kernel_rfl) (by kernel_rfl) (dA (u:=C[s]!) (a+A) aZ dq rfl rfl rfl (by omega) fun wS2 aP a0=> ?_))
 have J:wS2.ownsRow B 71 1 (.slice j n cp) n (LE aB (Go.Sort.swp C (s) (a+A))):=a0
 have ai:Md (fun q=>(Value.slice j n cp).ownBlock=some q) wC wS2:=Md.trans (c.mono (fun _ _ h=>h.elim)) (Md.trans aN aP)
 refine di (by kernel_rfl) ?_
 refine bn (tn (aA _ _ (rg rfl (ag (U s) (p (bd ((s+1:Nat):Int) rfl rfl (aO (by omega) (by omega))) (p au (nl (tn ?_))))))))
 exact ⟨_,by omega,s+1,ab,Go.Sort.swp C s (a+A),(by omega),(EI aM (by omega) (by omega) (by omega) rfl),(ai.B aH (fun h=>M h)),J,(Md.trans aR ai),rfl,rfl,rfl,rfl,rfl,rfl,rfl⟩
 refine ext (te _ (te _ (be (f0 rfl ?_))))
 exact ⟨C,rfl,aM,aa,Z⟩
end Go.Hb.m9
end
section
set_option maxRecDepth 20000
set_option maxHeartbeats 1000000
namespace Go.Hb.rD
open Go.Hb.cU
open Go.Proofs
open Go.Hb.kv
theorem EB {d:Array Nat} {a b c i j:Nat} (h1:Go.Sort.scanUp (fun x=>a6 x (Go.Sort.swp d a c)[a]!) (Go.Sort.swp d a c) (b - 1) (a+1)=i) (h2:Go.Sort.scanDown (fun x=> !a6 x (Go.Sort.swp d a c)[a]!) (Go.Sort.swp d a c) i (b - 1)=j) (h:i > j):
 Go.Sort.partition a6 d a b c=(j,true,Go.Sort.swp (Go.Sort.swp d a c) j a):=by
 unfold Go.Sort.partition; simp only [h1,h2,if_pos h]
theorem EC {d:Array Nat} {a b c i j p:Nat} {q:Array Nat} (h1:Go.Sort.scanUp (fun x=>a6 x (Go.Sort.swp d a c)[a]!) (Go.Sort.swp d a c) (b - 1) (a+1)=i) (h2:Go.Sort.scanDown (fun x=> !a6 x (Go.Sort.swp d a c)[a]!) (Go.Sort.swp d a c) i (b - 1)=j) (h:¬i > j)
 (h3:Go.Sort.partLoop a6 a (i+1) (j - 1) (Go.Sort.swp (Go.Sort.swp d a c) i j)=(p,q)):
 Go.Sort.partition a6 d a b c=(p,false,Go.Sort.swp q p a):=by
 unfold Go.Sort.partition; simp only [h1,h2,if_neg h,h3]
theorem ED (d:Array Nat) (a b s:Nat) (B n cp:Nat) (c:Option Addr) (w:World) (an:w.ownsRow B 71 1 (.slice c n cp) n (LE aB d)) (c6:a≤s∧s < b∧b≤n) (da:n≤1099511627776):
 aT Tryz.prog 164 (List.toArray [.slice c n cp,U a,U b,U s]) w (fun v w'=>v= .tuple #[U ((Go.Sort.partition a6 d a b s).1),.bool (Go.Sort.partition a6 d a b s).2.1]∧w'.ownsRow B 71 1 (.slice c n cp) n (LE aB (Go.Sort.partition a6 d a b s).2.2)∧Md (fun q=>(Value.slice c n cp).ownBlock=some q) w w'):=by
 refine enter Tryz.func164 rfl Tryz.ntmps164 rfl ?_
 refine ae (fun _ bv=>(p au (aj (((bv _ _ (sq (fun _ bw=> ?_))))))))
 have hdn:=c9 an
 have ab:(fun w'=>Wk w w') w.drew:=(Md.refl _ _).drew
 refine dj (fun w'=>Wk w w') 13 rfl wide ab (aQ 0 rfl (.slice c n cp) ab (aQ 1 rfl (U a) ab (aQ 2 rfl (.slice c n cp) ab (aQ 3 rfl (U s) ab (aQ 4 rfl (.slice c n cp) ab (aQ 5 rfl (U s) ab (a7 6 rfl (fun _=>aK a4 rfl rfl (by omega) (ao.ok ((aG an).2) (a9 (by omega)))) (fun _=>ab) ?_)))))))
 refine cY 7 rfl (fun w' C=>ld bg rfl (bB (i:=s) ((aG an).2.wk C) (by omega))) ab (aQ 8 rfl (.slice c n cp) ab (aQ 9 rfl (U a) ab (a7 10 rfl (fun _=>aK a4 rfl rfl (by omega) (ao.ok ((aG an).2) (a9 (by omega)))) (fun _=>ab) (cY 11 rfl (fun w' C=>ld bg rfl (bB (i:=a) ((aG an).2.wk C) (by omega))) ab (a7 12 rfl (fun _=>aK a4 rfl rfl (by omega) (ao.ok ((aG an).2) (a9 (by omega)))) (fun _=>ab) (bP 13 rfl (by kernel_rfl) (by kernel_rfl) (dA (u:=d[s]!) (a) (aJ an ab) dq rfl rfl rfl (by omega) fun df bJ ci=> ?_)))))))
 refine a7 14 rfl (fun _=>aK a4 rfl rfl (by omega) (ao.ok ((aG an).2) (a9 (by omega)))) (fun h=>Bool.noConfusion ((show true =_ from by kernel_rfl).trans h)) (bP 15 rfl (by kernel_rfl) (by kernel_rfl) (dA (u:=d[a]!) (s) ci dq rfl rfl rfl (by omega) fun wP12 bK cj=> ?_))
 have b0:wP12.ownsRow B 71 1 (.slice c n cp) n (LE aB (Go.Sort.swp d (a) (s))):=cj
 have bH:Md (fun q=>(Value.slice c n cp).ownBlock=some q) w wP12:=Md.trans (ab.mono (fun _ _ h=>h.elim)) (Md.trans bJ bK)
 refine di (by kernel_rfl) ?_
 refine tn (bw _ _ (ae (fun _ bx=>(ag (U a) (p (bd ((a+1:Nat):Int) rfl rfl (aO (by omega) (by omega))) (ag (U b) (p (bQ ((b - 1:Nat):Int) rfl rfl (aO (by omega) (by omega))) (p au ?_))))))))
 refine aj (((bx _ _ ?_)))
 refine cQ (fun aN bl=> ∃ (I:Nat),(a+1≤I∧(I=a+1∨I≤b - 1 +1))∧(Go.Sort.scanUp (fun x=>a6 x (Go.Sort.swp d a s)[a]!) (Go.Sort.swp d a s) (b - 1) (a+1)=I)∧(bl.ownsRow B 71 1 (.slice c n cp) n (LE aB (Go.Sort.swp d a s)))∧(Md (fun q=>(Value.slice c n cp).ownBlock=some q) w bl)∧(aN 0= .slice c n cp)∧(aN 1=U a)∧(aN 10=U I)∧(aN 11=U (b - 1))) ?_ ?_
 refine aw (lp (fun ak aP ax=> ∃ (q:Nat),(a+1≤q∧(q=a+1∨q≤b - 1 +1))∧(Go.Sort.scanUp (fun x=>a6 x (Go.Sort.swp d a s)[a]!) (Go.Sort.swp d a s) (b - 1) (q)=Go.Sort.scanUp (fun x=>a6 x (Go.Sort.swp d a s)[a]!) (Go.Sort.swp d a s) (b - 1) (a+1))∧(ax.ownsRow B 71 1 (.slice c n cp) n (LE aB (Go.Sort.swp d a s)))∧(Md (fun q=>(Value.slice c n cp).ownBlock=some q) w ax)∧(aP 0= .slice c n cp)∧(aP 1=U a)∧(aP 10=U q)∧(aP 11=U (b - 1))∧(b - 1 +1 - q=ak)) _ ⟨a+1,(by omega),rfl,b0,bH,rfl,rfl,rfl,rfl,rfl⟩ ?_)
 rintro ak aP ax ⟨q,hq1,hq2,A,ai,cy,cz,cA,cB,rfl⟩
 refine fx 0 cy (fx 1 cz (fx 10 cA (fx 11 cB (sq (fun _ aI=>sq (fun _ aq=> ?_))))))
 have hdcn:=c9 A
 have Y:(fun w'=>Wk ax w') ax.drew:=(Md.refl _ _).drew
 refine bI (fun w'=>Wk ax w') rfl wide Y (bf 0 rfl (U q) Y (bf 1 rfl (U (b - 1)) Y (aM 2 rfl (fun _ _=>le rfl rfl) Y (aM 3 rfl (fun _ _=>mv) Y (iG (t:=33) rfl (fun cg=> ?_) (fun cg=> ?_))))))
 refine a5 4 rfl (by kernel_rfl) rfl rfl rfl (fun _ _=>az (.slice c n cp) rfl) Y (a5 5 rfl (by kernel_rfl) rfl rfl rfl (fun _ _=>az (U q) rfl) Y (a5 6 rfl (by kernel_rfl) rfl rfl rfl (fun _ _=>aK a4 rfl rfl (by omega) (ao.ok ((aG A).2) (a9 (by omega)))) Y (a5 7 rfl (by kernel_rfl) rfl rfl rfl (fun w' C=>ld bg rfl (bB (i:=q) ((aG A).2.wk C) (by omega))) Y (a5 8 rfl (by kernel_rfl) rfl rfl rfl (fun _ _=>az (.slice c n cp) rfl) Y (a5 9 rfl (by kernel_rfl) rfl rfl rfl (fun _ _=>az (U a) rfl) Y (a5 10 rfl (by kernel_rfl) rfl rfl rfl (fun _ _=>aK a4 rfl rfl (by omega) (ao.ok ((aG A).2) (a9 (by omega)))) Y (a5 11 rfl (by kernel_rfl) rfl rfl rfl (fun w' C=>ld bg rfl (bB (i:=a) ((aG A).2.wk C) (by omega))) Y ?_)))))))
 refine jc 12 rfl (by kernel_rfl) rfl rfl rfl (cl gr (gz (Go.Sort.swp d a s)[q]! (Go.Sort.swp d a s)[a]! _) rfl fun dd w42 b7=> ?_)
 obtain ⟨rfl,hE42⟩:=b7
 have aF:(fun w'=>Wk ax w') w42:=Md.trans Y hE42
 refine ⟨aF,?_⟩
 refine aM 13 rfl (fun _ _=>bz rfl) aF (hn (by kernel_rfl) (tn (aq _ _ (cb rfl (fun bi=> ?_) (fun bi=> ?_)))))
 refine aE (tn (aI _ _ (aw (rg rfl (ag (U q) (p (bd ((q+1:Nat):Int) rfl rfl (aO (by omega) (by omega))) (p au (nl ?_))))))))
 exact bn (tn (⟨_,by omega,q+1,(by omega),((by rw [← hq2,ri (show q≤b - 1 by omega) (by simpa using bi)])),(aJ A aF),(Md.trans ai (aF.mono (fun _ _ h=>h.elim))),rfl,rfl,rfl,rfl,rfl⟩))
 exact ext (te _ (te _ (be (tn (⟨q,hq1,((by rw [← hq2,lU (.inr (by simpa using bi))])),(aJ A aF),(Md.trans ai (aF.mono (fun _ _ h=>h.elim))),rfl,rfl,rfl,rfl⟩)))))
 refine aX 4 rfl (by kernel_rfl) rfl rfl rfl rfl Y ?_
 refine aX 5 rfl (by kernel_rfl) rfl rfl rfl rfl Y ?_
 refine aX 6 rfl (by kernel_rfl) rfl rfl rfl rfl Y ?_
 refine aX 7 rfl (by kernel_rfl) rfl rfl rfl rfl Y ?_
 refine aX 8 rfl (by kernel_rfl) rfl rfl rfl rfl Y ?_
 refine aX 9 rfl (by kernel_rfl) rfl rfl rfl rfl Y ?_
 refine aX 10 rfl (by kernel_rfl) rfl rfl rfl rfl Y ?_
 refine aX 11 rfl (by kernel_rfl) rfl rfl rfl rfl Y ?_
 refine aX 12 rfl (by kernel_rfl) rfl rfl rfl rfl Y ?_
 refine aM 13 rfl (fun _ _=>bc rfl) Y (hn (by kernel_rfl) (tn (aq _ _ (cf rfl (ext (te _ (te _ (be ?_))))))))
 exact tn (⟨q,hq1,((by rw [← hq2,lU (.inl (by omega))])),(aJ A (Md.refl _ _).drew),ai.drew,rfl,rfl,rfl,rfl⟩)
 rintro aN bl ⟨I,c7,bt,ba,a8,cu,cv,cw,cx⟩
 refine fx 0 cu (fx 1 cv (fx 10 cw (fx 11 cx ?_)))
 refine cQ (fun aR al=> ∃ (J:Nat),(a≤J∧J≤b - 1)∧(Go.Sort.scanDown (fun x=> !a6 x (Go.Sort.swp d a s)[a]!) (Go.Sort.swp d a s) (I) (b - 1)=J)∧(al.ownsRow B 71 1 (.slice c n cp) n (LE aB (Go.Sort.swp d a s)))∧(Md (fun q=>(Value.slice c n cp).ownBlock=some q) w al)∧(aR 0= .slice c n cp)∧(aR 1=U a)∧(aR 10=U I)∧(aR 11=U J)) ?_ ?_
 refine aw (lp (fun ak aS aA=> ∃ (q:Nat),(a≤q∧q≤b - 1)∧(Go.Sort.scanDown (fun x=> !a6 x (Go.Sort.swp d a s)[a]!) (Go.Sort.swp d a s) (I) (q)=Go.Sort.scanDown (fun x=> !a6 x (Go.Sort.swp d a s)[a]!) (Go.Sort.swp d a s) (I) (b - 1))∧(aA.ownsRow B 71 1 (.slice c n cp) n (LE aB (Go.Sort.swp d a s)))∧(Md (fun q=>(Value.slice c n cp).ownBlock=some q) w aA)∧(aS 0= .slice c n cp)∧(aS 1=U a)∧(aS 10=U I)∧(aS 11=U q)∧(q=ak)) _ ⟨b - 1,(by omega),rfl,ba,a8,rfl,rfl,rfl,rfl,rfl⟩ ?_)
 rintro ak aS aA ⟨q,hq1,hq2,A,ai,cG,cH,cI,cJ,rfl⟩
 refine fx 0 cG (fx 1 cH (fx 10 cI (fx 11 cJ (sq (fun _ aI=>sq (fun _ aq=> ?_))))))
 have hdcn:=c9 A
 have O:(fun w'=>Wk aA w') aA.drew:=(Md.refl _ _).drew
 refine bI (fun w'=>Wk aA w') rfl wide O (bf 0 rfl (U I) O (bf 1 rfl (U q) O (aM 2 rfl (fun _ _=>le rfl rfl) O (aM 3 rfl (fun _ _=>mv) O (iG (t:=49) rfl (fun ch=> ?_) (fun ch=> ?_))))))
 refine a5 4 rfl (by kernel_rfl) rfl rfl rfl (fun _ _=>az (.slice c n cp) rfl) O (a5 5 rfl (by kernel_rfl) rfl rfl rfl (fun _ _=>az (U q) rfl) O (a5 6 rfl (by kernel_rfl) rfl rfl rfl (fun _ _=>aK a4 rfl rfl (by omega) (ao.ok ((aG A).2) (a9 (by omega)))) O (a5 7 rfl (by kernel_rfl) rfl rfl rfl (fun w' C=>ld bg rfl (bB (i:=q) ((aG A).2.wk C) (by omega))) O (a5 8 rfl (by kernel_rfl) rfl rfl rfl (fun _ _=>az (.slice c n cp) rfl) O (a5 9 rfl (by kernel_rfl) rfl rfl rfl (fun _ _=>az (U a) rfl) O (a5 10 rfl (by kernel_rfl) rfl rfl rfl (fun _ _=>aK a4 rfl rfl (by omega) (ao.ok ((aG A).2) (a9 (by omega)))) O (a5 11 rfl (by kernel_rfl) rfl rfl rfl (fun w' C=>ld bg rfl (bB (i:=a) ((aG A).2.wk C) (by omega))) O ?_)))))))
 refine jc 12 rfl (by kernel_rfl) rfl rfl rfl (cl gr (gz (Go.Sort.swp d a s)[q]! (Go.Sort.swp d a s)[a]! _) rfl fun de w58 b8=> ?_)
 obtain ⟨rfl,hE58⟩:=b8
 have av:(fun w'=>Wk aA w') w58:=Md.trans O hE58
 refine ⟨av,?_⟩
 refine a5 13 rfl (by kernel_rfl) rfl rfl rfl (fun _ _=>no rfl) av (aM 14 rfl (fun _ _=>bz rfl) av (hn (by kernel_rfl) (tn (aq _ _ (cb rfl (fun bj=> ?_) (fun bj=> ?_))))))
 refine aE (tn (aI _ _ (aw (rg rfl (ag (U q) (p (bQ ((q - 1:Nat):Int) rfl rfl (aO (by omega) (by omega))) (p au (nl ?_))))))))
 exact bn (tn (⟨_,by omega,q - 1,(by omega),((by rw [← hq2,pP (show 0 < q by omega) (show I≤q by omega) (by simpa using bj)])),(aJ A av),(Md.trans ai (av.mono (fun _ _ h=>h.elim))),rfl,rfl,rfl,rfl,rfl⟩))
 exact ext (te _ (te _ (be (tn (⟨q,hq1,((by rw [← hq2,lr (.inr (by simpa using bj))])),(aJ A av),(Md.trans ai (av.mono (fun _ _ h=>h.elim))),rfl,rfl,rfl,rfl⟩)))))
 refine aX 4 rfl (by kernel_rfl) rfl rfl rfl rfl O ?_
 refine aX 5 rfl (by kernel_rfl) rfl rfl rfl rfl O ?_
 refine aX 6 rfl (by kernel_rfl) rfl rfl rfl rfl O ?_
 refine aX 7 rfl (by kernel_rfl) rfl rfl rfl rfl O ?_
 refine aX 8 rfl (by kernel_rfl) rfl rfl rfl rfl O ?_
 refine aX 9 rfl (by kernel_rfl) rfl rfl rfl rfl O ?_
 refine aX 10 rfl (by kernel_rfl) rfl rfl rfl rfl O ?_
 refine aX 11 rfl (by kernel_rfl) rfl rfl rfl rfl O ?_
 refine aX 12 rfl (by kernel_rfl) rfl rfl rfl rfl O ?_
 refine aX 13 rfl (by kernel_rfl) rfl rfl rfl rfl O ?_
 refine aM 14 rfl (fun _ _=>bc rfl) O (hn (by kernel_rfl) (tn (aq _ _ (cf rfl (ext (te _ (te _ (be ?_))))))))
 exact tn (⟨q,hq1,((by rw [← hq2,lr (.inl (by omega))])),(aJ A (Md.refl _ _).drew),ai.drew,rfl,rfl,rfl,rfl⟩)
 rintro aR al ⟨J,c8,bo,E,aL,cC,cD,cE,cF⟩
 refine fx 0 cC (fx 1 cD (fx 10 cE (fx 11 cF (sq (fun _ aI=>ae (fun _ aq=>(ag (U I) (ag (U J) (p (gt rfl rfl) (nl ?_))))))))))
 refine tn (aq _ _ (cd rfl (fun ca=> ?_) (fun ca=> ?_)))
 refine sq (fun _ a2=> ?_)
 have hdcn:=c9 E
 have ah:(fun w'=>Wk al w') al.drew:=(Md.refl _ _).drew
 refine dj (fun w'=>Wk al w') 13 rfl wide ah (aQ 0 rfl (.slice c n cp) ah (aQ 1 rfl (U J) ah (aQ 2 rfl (.slice c n cp) ah (aQ 3 rfl (U a) ah (aQ 4 rfl (.slice c n cp) ah (aQ 5 rfl (U a) ah (a7 6 rfl (fun _=>aK a4 rfl rfl (by omega) (ao.ok ((aG E).2) (a9 (by omega)))) (fun _=>ah) ?_)))))))
 refine cY 7 rfl (fun w' C=>ld bg rfl (bB (i:=a) ((aG E).2.wk C) (by omega))) ah (aQ 8 rfl (.slice c n cp) ah (aQ 9 rfl (U J) ah (a7 10 rfl (fun _=>aK a4 rfl rfl (by omega) (ao.ok ((aG E).2) (a9 (by omega)))) (fun _=>ah) (cY 11 rfl (fun w' C=>ld bg rfl (bB (i:=J) ((aG E).2.wk C) (by omega))) ah (a7 12 rfl (fun _=>aK a4 rfl rfl (by omega) (ao.ok ((aG E).2) (a9 (by omega)))) (fun _=>ah) (bP 13 rfl (by kernel_rfl) (by kernel_rfl) (dA (u:=(Go.Sort.swp d a s)[a]!) (J) (aJ E ah) dq rfl rfl rfl (by omega) fun dg bM ck=> ?_)))))))
 refine a7 14 rfl (fun _=>aK a4 rfl rfl (by omega) (ao.ok ((aG E).2) (a9 (by omega)))) (fun h=>Bool.noConfusion ((show true =_ from by kernel_rfl).trans h)) (bP 15 rfl (by kernel_rfl) (by kernel_rfl) (dA (u:=(Go.Sort.swp d a s)[J]!) (a) ck dq rfl rfl rfl (by omega) fun wP82 bN cm=> ?_))
 have b1:wP82.ownsRow B 71 1 (.slice c n cp) n (LE aB (Go.Sort.swp (Go.Sort.swp d a s) (J) (a))):=cm
 have bL:Md (fun q=>(Value.slice c n cp).ownBlock=some q) al wP82:=Md.trans (ah.mono (fun _ _ h=>h.elim)) (Md.trans bM bN)
 refine di (by kernel_rfl) ?_
 refine tn (a2 _ _ (ae (fun _ a3=>(ag (U J) (p (bD (U J) rfl) (aj (((a3 _ _ ?_)))))))))
 refine rt (tr (f2 rfl rfl rfl ?_))
 have hz:=EB bt bo (by omega)
 exact ⟨by rw [hz]; rfl,by rw [hz]; exact b1,Md.trans aL bL⟩
 refine aE (tn (aI _ _ (sq (fun _ a2=> ?_))))
 have hdcn:=c9 E
 have ac:(fun w'=>Wk al w') al.drew:=(Md.refl _ _).drew
 refine dj (fun w'=>Wk al w') 13 rfl wide ac (aQ 0 rfl (.slice c n cp) ac (aQ 1 rfl (U I) ac (aQ 2 rfl (.slice c n cp) ac (aQ 3 rfl (U J) ac (aQ 4 rfl (.slice c n cp) ac (aQ 5 rfl (U J) ac (a7 6 rfl (fun _=>aK a4 rfl rfl (by omega) (ao.ok ((aG E).2) (a9 (by omega)))) (fun _=>ac) ?_)))))))
 refine cY 7 rfl (fun w' C=>ld bg rfl (bB (i:=J) ((aG E).2.wk C) (by omega))) ac (aQ 8 rfl (.slice c n cp) ac (aQ 9 rfl (U I) ac (a7 10 rfl (fun _=>aK a4 rfl rfl (by omega) (ao.ok ((aG E).2) (a9 (by omega)))) (fun _=>ac) (cY 11 rfl (fun w' C=>ld bg rfl (bB (i:=I) ((aG E).2.wk C) (by omega))) ac (a7 12 rfl (fun _=>aK a4 rfl rfl (by omega) (ao.ok ((aG E).2) (a9 (by omega)))) (fun _=>ac) (bP 13 rfl (by kernel_rfl) (by kernel_rfl) (dA (u:=(Go.Sort.swp d a s)[J]!) (I) (aJ E ac) dq rfl rfl rfl (by omega) fun dh bR cn=> ?_)))))))
 refine a7 14 rfl (fun _=>aK a4 rfl rfl (by omega) (ao.ok ((aG E).2) (a9 (by omega)))) (fun h=>Bool.noConfusion ((show true =_ from by kernel_rfl).trans h)) (bP 15 rfl (by kernel_rfl) (by kernel_rfl) (dA (u:=(Go.Sort.swp d a s)[I]!) (J) cn dq rfl rfl rfl (by omega) fun wPX2 bS co=> ?_))
 have b2:wPX2.ownsRow B 71 1 (.slice c n cp) n (LE aB (Go.Sort.swp (Go.Sort.swp d a s) (I) (J))):=co
 have bO:Md (fun q=>(Value.slice c n cp).ownBlock=some q) al wPX2:=Md.trans (ac.mono (fun _ _ h=>h.elim)) (Md.trans bR bS)
 refine di (by kernel_rfl) ?_
 refine tn (a2 _ _ (ae (fun _ a3=>(ag (U I) (p (bd ((I+1:Nat):Int) rfl rfl (aO (by omega) (by omega))) (aj (((a3 _ _ ?_)))))))))
 refine ae (fun _ bA=>(ag (U J) (p (bQ ((J - 1:Nat):Int) rfl rfl (aO (by omega) (by omega))) (aj (((bA _ _ (sq (fun _ bC=> ?_)))))))))
 refine aw (lp (fun ak aU bk=> ∃ (i j:Nat) (G:Array Nat),(a+2≤i∧i≤b∧a≤j∧j < b∧i≤j+2)∧(Go.Sort.partLoop a6 a i j G=Go.Sort.partLoop a6 a (I+1) (J - 1) (Go.Sort.swp (Go.Sort.swp d a s) I J))∧(bk.ownsRow B 71 1 (.slice c n cp) n (LE aB G))∧(Md (fun q=>(Value.slice c n cp).ownBlock=some q) w bk)∧(aU 0= .slice c n cp)∧(aU 1=U a)∧(aU 10=U i)∧(aU 11=U j)∧(j+1 - i=ak)) _ ⟨I+1,J - 1,Go.Sort.swp (Go.Sort.swp d a s) I J,(by omega),rfl,b2,(Md.trans aL bO),rfl,rfl,rfl,rfl,rfl⟩ ?_)
 rintro ak aU bk ⟨i,j,G,hi,bs,bZ,bG,cK,cL,cM,cN,rfl⟩
 refine fx 0 cK (fx 1 cL (fx 10 cM (fx 11 cN (aw ?_))))
 refine cQ (fun aV bm=> ∃ (Z:Nat),(i≤Z∧(Z=i∨Z≤j+1))∧(Go.Sort.scanUp (fun x=>a6 x G[a]!) G (j) (i)=Z)∧(bm.ownsRow B 71 1 (.slice c n cp) n (LE aB G))∧(Md (fun q=>(Value.slice c n cp).ownBlock=some q) w bm)∧(aV 0= .slice c n cp)∧(aV 1=U a)∧(aV 10=U Z)∧(aV 11=U j)) ?_ ?_
 refine aw (lp (fun ak aW ay=> ∃ (q:Nat),(i≤q∧(q=i∨q≤j+1))∧(Go.Sort.scanUp (fun x=>a6 x G[a]!) G (j) (q)=Go.Sort.scanUp (fun x=>a6 x G[a]!) G (j) (i))∧(ay.ownsRow B 71 1 (.slice c n cp) n (LE aB G))∧(Md (fun q=>(Value.slice c n cp).ownBlock=some q) w ay)∧(aW 0= .slice c n cp)∧(aW 1=U a)∧(aW 10=U q)∧(aW 11=U j)∧(j+1 - q=ak)) _ ⟨i,(by omega),rfl,bZ,bG,rfl,rfl,rfl,rfl,rfl⟩ ?_)
 rintro ak aW ay ⟨q,hq1,hq2,A,ai,cT,cU,cV,cW,rfl⟩
 refine fx 0 cT (fx 1 cU (fx 10 cV (fx 11 cW (sq (fun _ aH=>sq (fun _ ap=> ?_))))))
 have hdcn:=c9 A
 have V:(fun w'=>Wk ay w') ay.drew:=(Md.refl _ _).drew
 refine bI (fun w'=>Wk ay w') rfl wide V (bf 0 rfl (U q) V (bf 1 rfl (U j) V (aM 2 rfl (fun _ _=>le rfl rfl) V (aM 3 rfl (fun _ _=>mv) V (iG (t:=102) rfl (fun cc=> ?_) (fun cc=> ?_))))))
 refine a5 4 rfl (by kernel_rfl) rfl rfl rfl (fun _ _=>az (.slice c n cp) rfl) V (a5 5 rfl (by kernel_rfl) rfl rfl rfl (fun _ _=>az (U q) rfl) V (a5 6 rfl (by kernel_rfl) rfl rfl rfl (fun _ _=>aK a4 rfl rfl (by omega) (ao.ok ((aG A).2) (a9 (by omega)))) V (a5 7 rfl (by kernel_rfl) rfl rfl rfl (fun w' C=>ld bg rfl (bB (i:=q) ((aG A).2.wk C) (by omega))) V (a5 8 rfl (by kernel_rfl) rfl rfl rfl (fun _ _=>az (.slice c n cp) rfl) V (a5 9 rfl (by kernel_rfl) rfl rfl rfl (fun _ _=>az (U a) rfl) V (a5 10 rfl (by kernel_rfl) rfl rfl rfl (fun _ _=>aK a4 rfl rfl (by omega) (ao.ok ((aG A).2) (a9 (by omega)))) V (a5 11 rfl (by kernel_rfl) rfl rfl rfl (fun w' C=>ld bg rfl (bB (i:=a) ((aG A).2.wk C) (by omega))) V ?_)))))))
 refine jc 12 rfl (by kernel_rfl) rfl rfl rfl (cl gr (gz G[q]! G[a]! _) rfl fun db w111 b5=> ?_)
 obtain ⟨rfl,bE⟩:=b5
 have aD:(fun w'=>Wk ay w') w111:=Md.trans V bE
 refine ⟨aD,?_⟩
 refine aM 13 rfl (fun _ _=>bz rfl) aD (hn (by kernel_rfl) (tn (ap _ _ (cb rfl (fun bb=> ?_) (fun bb=> ?_)))))
 refine aE (tn (aH _ _ (aw (rg rfl (ag (U q) (p (bd ((q+1:Nat):Int) rfl rfl (aO (by omega) (by omega))) (p au (nl ?_))))))))
 exact bn (tn (⟨_,by omega,q+1,(by omega),((by rw [← hq2,ri (show q≤j by omega) (by simpa using bb)])),(aJ A aD),(Md.trans ai (aD.mono (fun _ _ h=>h.elim))),rfl,rfl,rfl,rfl,rfl⟩))
 exact ext (te _ (te _ (be (tn (⟨q,hq1,((by rw [← hq2,lU (.inr (by simpa using bb))])),(aJ A aD),(Md.trans ai (aD.mono (fun _ _ h=>h.elim))),rfl,rfl,rfl,rfl⟩)))))
 refine aX 4 rfl (by kernel_rfl) rfl rfl rfl rfl V ?_
 refine aX 5 rfl (by kernel_rfl) rfl rfl rfl rfl V ?_
 refine aX 6 rfl (by kernel_rfl) rfl rfl rfl rfl V ?_
 refine aX 7 rfl (by kernel_rfl) rfl rfl rfl rfl V ?_
 refine aX 8 rfl (by kernel_rfl) rfl rfl rfl rfl V ?_
 refine aX 9 rfl (by kernel_rfl) rfl rfl rfl rfl V ?_
 refine aX 10 rfl (by kernel_rfl) rfl rfl rfl rfl V ?_
 refine aX 11 rfl (by kernel_rfl) rfl rfl rfl rfl V ?_
 refine aX 12 rfl (by kernel_rfl) rfl rfl rfl rfl V ?_
 refine aM 13 rfl (fun _ _=>bc rfl) V (hn (by kernel_rfl) (tn (ap _ _ (cf rfl (ext (te _ (te _ (be ?_))))))))
 exact tn (⟨q,hq1,((by rw [← hq2,lU (.inl (by omega))])),(aJ A (Md.refl _ _).drew),ai.drew,rfl,rfl,rfl,rfl⟩)
 rintro aV bm ⟨Z,bq,bu,ba,a8,cO,cP,cR,cS⟩
 refine fx 0 cO (fx 1 cP (fx 10 cR (fx 11 cS ?_)))
 refine cQ (fun aY am=> ∃ (aa:Nat),(a≤aa∧aa≤j)∧(Go.Sort.scanDown (fun x=> !a6 x G[a]!) G (Z) (j)=aa)∧(am.ownsRow B 71 1 (.slice c n cp) n (LE aB G))∧(Md (fun q=>(Value.slice c n cp).ownBlock=some q) w am)∧(aY 0= .slice c n cp)∧(aY 1=U a)∧(aY 10=U Z)∧(aY 11=U aa)) ?_ ?_
 refine aw (lp (fun ak aZ aC=> ∃ (q:Nat),(a≤q∧q≤j)∧(Go.Sort.scanDown (fun x=> !a6 x G[a]!) G (Z) (q)=Go.Sort.scanDown (fun x=> !a6 x G[a]!) G (Z) (j))∧(aC.ownsRow B 71 1 (.slice c n cp) n (LE aB G))∧(Md (fun q=>(Value.slice c n cp).ownBlock=some q) w aC)∧(aZ 0= .slice c n cp)∧(aZ 1=U a)∧(aZ 10=U Z)∧(aZ 11=U q)∧(q=ak)) _ ⟨j,(by omega),rfl,ba,a8,rfl,rfl,rfl,rfl,rfl⟩ ?_)
 rintro ak aZ aC ⟨q,hq1,hq2,A,ai,c2,c3,c4,c5,rfl⟩
 refine fx 0 c2 (fx 1 c3 (fx 10 c4 (fx 11 c5 (sq (fun _ aH=>sq (fun _ ap=> ?_))))))
 have hdcn:=c9 A
 have M:(fun w'=>Wk aC w') aC.drew:=(Md.refl _ _).drew
 refine bI (fun w'=>Wk aC w') rfl wide M (bf 0 rfl (U Z) M (bf 1 rfl (U q) M (aM 2 rfl (fun _ _=>le rfl rfl) M (aM 3 rfl (fun _ _=>mv) M (iG (t:=118) rfl (fun ce=> ?_) (fun ce=> ?_))))))
 refine a5 4 rfl (by kernel_rfl) rfl rfl rfl (fun _ _=>az (.slice c n cp) rfl) M (a5 5 rfl (by kernel_rfl) rfl rfl rfl (fun _ _=>az (U q) rfl) M (a5 6 rfl (by kernel_rfl) rfl rfl rfl (fun _ _=>aK a4 rfl rfl (by omega) (ao.ok ((aG A).2) (a9 (by omega)))) M (a5 7 rfl (by kernel_rfl) rfl rfl rfl (fun w' C=>ld bg rfl (bB (i:=q) ((aG A).2.wk C) (by omega))) M (a5 8 rfl (by kernel_rfl) rfl rfl rfl (fun _ _=>az (.slice c n cp) rfl) M (a5 9 rfl (by kernel_rfl) rfl rfl rfl (fun _ _=>az (U a) rfl) M (a5 10 rfl (by kernel_rfl) rfl rfl rfl (fun _ _=>aK a4 rfl rfl (by omega) (ao.ok ((aG A).2) (a9 (by omega)))) M (a5 11 rfl (by kernel_rfl) rfl rfl rfl (fun w' C=>ld bg rfl (bB (i:=a) ((aG A).2.wk C) (by omega))) M ?_)))))))
 refine jc 12 rfl (by kernel_rfl) rfl rfl rfl (cl gr (gz G[q]! G[a]! _) rfl fun dc w127 b6=> ?_)
 obtain ⟨rfl,bF⟩:=b6
 have ar:(fun w'=>Wk aC w') w127:=Md.trans M bF
 refine ⟨ar,?_⟩
 refine a5 13 rfl (by kernel_rfl) rfl rfl rfl (fun _ _=>no rfl) ar (aM 14 rfl (fun _ _=>bz rfl) ar (hn (by kernel_rfl) (tn (ap _ _ (cb rfl (fun bh=> ?_) (fun bh=> ?_))))))
 refine aE (tn (aH _ _ (aw (rg rfl (ag (U q) (p (bQ ((q - 1:Nat):Int) rfl rfl (aO (by omega) (by omega))) (p au (nl ?_))))))))
 exact bn (tn (⟨_,by omega,q - 1,(by omega),((by rw [← hq2,pP (show 0 < q by omega) (show Z≤q by omega) (by simpa using bh)])),(aJ A ar),(Md.trans ai (ar.mono (fun _ _ h=>h.elim))),rfl,rfl,rfl,rfl,rfl⟩))
 exact ext (te _ (te _ (be (tn (⟨q,hq1,((by rw [← hq2,lr (.inr (by simpa using bh))])),(aJ A ar),(Md.trans ai (ar.mono (fun _ _ h=>h.elim))),rfl,rfl,rfl,rfl⟩)))))
 refine aX 4 rfl (by kernel_rfl) rfl rfl rfl rfl M ?_
 refine aX 5 rfl (by kernel_rfl) rfl rfl rfl rfl M ?_
 refine aX 6 rfl (by kernel_rfl) rfl rfl rfl rfl M ?_
 refine aX 7 rfl (by kernel_rfl) rfl rfl rfl rfl M ?_
 refine aX 8 rfl (by kernel_rfl) rfl rfl rfl rfl M ?_
 refine aX 9 rfl (by kernel_rfl) rfl rfl rfl rfl M ?_
 refine aX 10 rfl (by kernel_rfl) rfl rfl rfl rfl M ?_
 refine aX 11 rfl (by kernel_rfl) rfl rfl rfl rfl M ?_
 refine aX 12 rfl (by kernel_rfl) rfl rfl rfl rfl M ?_
 refine aX 13 rfl (by kernel_rfl) rfl rfl rfl rfl M ?_
 refine aM 14 rfl (fun _ _=>bc rfl) M (hn (by kernel_rfl) (tn (ap _ _ (cf rfl (ext (te _ (te _ (be ?_))))))))
 exact tn (⟨q,hq1,((by rw [← hq2,lr (.inl (by omega))])),(aJ A (Md.refl _ _).drew),ai.drew,rfl,rfl,rfl,rfl⟩)
 rintro aY am ⟨aa,br,bp,E,aL,cX,cZ,c0,c1⟩
 refine fx 0 cX (fx 1 cZ (fx 10 c0 (fx 11 c1 (sq (fun _ aH=>ae (fun _ ap=>(ag (U Z) (ag (U aa) (p (gt rfl rfl) (nl ?_))))))))))
 refine tn (ap _ _ (cd rfl (fun b9=> ?_) (fun b9=> ?_)))
 refine ext (te _ (iV (by decide) (te _ (be (tn (bC _ _ (sq (fun _ a0=> ?_))))))))
 have hdcn:=c9 E
 have ad:(fun w'=>Wk am w') am.drew:=(Md.refl _ _).drew
 refine dj (fun w'=>Wk am w') 13 rfl wide ad (aQ 0 rfl (.slice c n cp) ad (aQ 1 rfl (U aa) ad (aQ 2 rfl (.slice c n cp) ad (aQ 3 rfl (U a) ad (aQ 4 rfl (.slice c n cp) ad (aQ 5 rfl (U a) ad (a7 6 rfl (fun _=>aK a4 rfl rfl (by omega) (ao.ok ((aG E).2) (a9 (by omega)))) (fun _=>ad) ?_)))))))
 refine cY 7 rfl (fun w' C=>ld bg rfl (bB (i:=a) ((aG E).2.wk C) (by omega))) ad (aQ 8 rfl (.slice c n cp) ad (aQ 9 rfl (U aa) ad (a7 10 rfl (fun _=>aK a4 rfl rfl (by omega) (ao.ok ((aG E).2) (a9 (by omega)))) (fun _=>ad) (cY 11 rfl (fun w' C=>ld bg rfl (bB (i:=aa) ((aG E).2.wk C) (by omega))) ad (a7 12 rfl (fun _=>aK a4 rfl rfl (by omega) (ao.ok ((aG E).2) (a9 (by omega)))) (fun _=>ad) (bP 13 rfl (by kernel_rfl) (by kernel_rfl) (dA (u:=G[a]!) (aa) (aJ E ad) dq rfl rfl rfl (by omega) fun dl bX cs=> ?_)))))))
 refine a7 14 rfl (fun _=>aK a4 rfl rfl (by omega) (ao.ok ((aG E).2) (a9 (by omega)))) (fun h=>Bool.noConfusion ((show true =_ from by kernel_rfl).trans h)) (bP 15 rfl (by kernel_rfl) (by kernel_rfl) (dA (u:=G[aa]!) (a) cs dq rfl rfl rfl (by omega) fun wPZ2 bY ct=> ?_))
 have b4:wPZ2.ownsRow B 71 1 (.slice c n cp) n (LE aB (Go.Sort.swp G (aa) (a))):=ct
 have bW:Md (fun q=>(Value.slice c n cp).ownBlock=some q) am wPZ2:=Md.trans (ad.mono (fun _ _ h=>h.elim)) (Md.trans bX bY)
 refine di (by kernel_rfl) ?_
 refine tn (a0 _ _ (ae (fun _ a1=>(ag (U aa) (p (bD (U aa) rfl) (aj (((a1 _ _ ?_)))))))))
 refine rt (f2 rfl rfl rfl ?_)
 have hz:=EC bt bo (by omega) (bs.symm.trans (by rw [vA bu bp bq.1 br.2,if_pos (by omega)]))
 exact ⟨by rw [hz]; rfl,by rw [hz]; exact b4,Md.trans aL bW⟩
 refine aE (tn (aH _ _ (sq (fun _ a0=> ?_))))
 have hdcn:=c9 E
 have hS18:(fun w'=>Wk am w') am.drew:=(Md.refl _ _).drew
 refine dj (fun w'=>Wk am w') 13 rfl wide hS18 (aQ 0 rfl (.slice c n cp) hS18 (aQ 1 rfl (U Z) hS18 (aQ 2 rfl (.slice c n cp) hS18 (aQ 3 rfl (U aa) hS18 (aQ 4 rfl (.slice c n cp) hS18 (aQ 5 rfl (U aa) hS18 (a7 6 rfl (fun _=>aK a4 rfl rfl (by omega) (ao.ok ((aG E).2) (a9 (by omega)))) (fun _=>hS18) ?_)))))))
 refine cY 7 rfl (fun w' C=>ld bg rfl (bB (i:=aa) ((aG E).2.wk C) (by omega))) hS18 (aQ 8 rfl (.slice c n cp) hS18 (aQ 9 rfl (U Z) hS18 (a7 10 rfl (fun _=>aK a4 rfl rfl (by omega) (ao.ok ((aG E).2) (a9 (by omega)))) (fun _=>hS18) (cY 11 rfl (fun w' C=>ld bg rfl (bB (i:=Z) ((aG E).2.wk C) (by omega))) hS18 (a7 12 rfl (fun _=>aK a4 rfl rfl (by omega) (ao.ok ((aG E).2) (a9 (by omega)))) (fun _=>hS18) (bP 13 rfl (by kernel_rfl) (by kernel_rfl) (dA (u:=G[aa]!) (Z) (aJ E hS18) dq rfl rfl rfl (by omega) fun dk bU cq=> ?_)))))))
 refine a7 14 rfl (fun _=>aK a4 rfl rfl (by omega) (ao.ok ((aG E).2) (a9 (by omega)))) (fun h=>Bool.noConfusion ((show true =_ from by kernel_rfl).trans h)) (bP 15 rfl (by kernel_rfl) (by kernel_rfl) (dA (u:=G[Z]!) (aa) cq dq rfl rfl rfl (by omega) fun wPY2 bV cr=> ?_))
 have b3:wPY2.ownsRow B 71 1 (.slice c n cp) n (LE aB (Go.Sort.swp G (Z) (aa))):=cr
 have bT:Md (fun q=>(Value.slice c n cp).ownBlock=some q) am wPY2:=Md.trans (hS18.mono (fun _ _ h=>h.elim)) (Md.trans bU bV)
 refine di (by kernel_rfl) ?_
 refine tn (a0 _ _ (ae (fun _ a1=>(ag (U Z) (p (bd ((Z+1:Nat):Int) rfl rfl (aO (by omega) (by omega))) (aj (((a1 _ _ ?_)))))))))
 exact rg rfl (ag (U aa) (p (bQ ((aa - 1:Nat):Int) rfl rfl (aO (by omega) (by omega))) (p au (nl (bn (tn (⟨_,by omega,Z+1,aa - 1,Go.Sort.swp G Z aa,(by omega),((by rw [← bs,vA bu bp bq.1 br.2,if_neg (by omega),if_pos (by omega)])),b3,(Md.trans aL bT),rfl,rfl,rfl,rfl,rfl⟩)))))))
theorem EF (d:Array Nat) (a b V:Nat) (B n cp:Nat) (c:Option Addr) (w:World) (aa:w.ownsRow B 71 1 (.slice c n cp) n (LE aB d)) (bV:a≤V∧V < b∧b≤n) (bY:n≤1099511627776):
 aT Tryz.prog 163 (List.toArray [.slice c n cp,U a,U b,U V]) w (fun v w'=>v=U ((Go.Sort.partitionEqual a6 d a b V).1)∧w'.ownsRow B 71 1 (.slice c n cp) n (LE aB (Go.Sort.partitionEqual a6 d a b V).2)∧Md (fun q=>(Value.slice c n cp).ownBlock=some q) w w'):=by
 refine enter Tryz.func163 rfl Tryz.ntmps163 rfl ?_
 refine ae (fun _ aP=>(aj (((aP _ _ (sq (fun _ aR=> ?_)))))))
 have hdn:=c9 aa
 have I:(fun w'=>Wk w w') w.drew:=(Md.refl _ _).drew
 refine dj (fun w'=>Wk w w') 13 rfl wide I (aQ 0 rfl (.slice c n cp) I (aQ 1 rfl (U a) I (aQ 2 rfl (.slice c n cp) I (aQ 3 rfl (U V) I (aQ 4 rfl (.slice c n cp) I (aQ 5 rfl (U V) I (a7 6 rfl (fun _=>aK a4 rfl rfl (by omega) (ao.ok ((aG aa).2) (a9 (by omega)))) (fun _=>I) ?_)))))))
 refine cY 7 rfl (fun w' O=>ld bg rfl (bB (i:=V) ((aG aa).2.wk O) (by omega))) I (aQ 8 rfl (.slice c n cp) I (aQ 9 rfl (U a) I (a7 10 rfl (fun _=>aK a4 rfl rfl (by omega) (ao.ok ((aG aa).2) (a9 (by omega)))) (fun _=>I) (cY 11 rfl (fun w' O=>ld bg rfl (bB (i:=a) ((aG aa).2.wk O) (by omega))) I (a7 12 rfl (fun _=>aK a4 rfl rfl (by omega) (ao.ok ((aG aa).2) (a9 (by omega)))) (fun _=>I) (bP 13 rfl (by kernel_rfl) (by kernel_rfl) (dA (u:=d[V]!) (a) (aJ aa I) dq rfl rfl rfl (by omega) fun b1 a0 bq=> ?_)))))))
 refine a7 14 rfl (fun _=>aK a4 rfl rfl (by omega) (ao.ok ((aG aa).2) (a9 (by omega)))) (fun h=>Bool.noConfusion ((show true =_ from by kernel_rfl).trans h)) (bP 15 rfl (by kernel_rfl) (by kernel_rfl) (dA (u:=d[a]!) (V) bq dq rfl rfl rfl (by omega) fun wP12 a1 br=> ?_))
 have bi:wP12.ownsRow B 71 1 (.slice c n cp) n (LE aB (Go.Sort.swp d (a) (V))):=br
 have aZ:Md (fun q=>(Value.slice c n cp).ownBlock=some q) w wP12:=Md.trans (I.mono (fun _ _ h=>h.elim)) (Md.trans a0 a1)
 refine di (by kernel_rfl) ?_
 refine tn (aR _ _ (ae (fun _ aS=>(ag (U a) (p (bd ((a+1:Nat):Int) rfl rfl (aO (by omega) (by omega))) (ag (U b) (p (bQ ((b - 1:Nat):Int) rfl rfl (aO (by omega) (by omega))) (p au ?_))))))))
 refine aj (((aS _ _ (sq (fun _ aU=>aw (lp (fun Z ap aD=> ∃ (i j:Nat) (s:Array Nat),(a+1≤i∧i≤b∧a≤j∧j < b∧i≤j+2)∧(Go.Sort.partEqLoop a6 a i j s=Go.Sort.partitionEqual a6 d a b V)∧(aD.ownsRow B 71 1 (.slice c n cp) n (LE aB s))∧(Md (fun q=>(Value.slice c n cp).ownBlock=some q) w aD)∧(ap 0= .slice c n cp)∧(ap 1=U a)∧(ap 9=U i)∧(ap 10=U j)∧(j+1 - i=Z)) _ ⟨a+1,b - 1,(Go.Sort.swp d a V),(by omega),rfl,bi,aZ,rfl,rfl,rfl,rfl,rfl⟩ ?_))))))
 rintro Z ap aD ⟨i,j,s,hi,aL,bb,aY,bu,bv,bx,bw,rfl⟩
 refine fx 0 bu (fx 1 bv (fx 9 bx (fx 10 bw (aw ?_))))
 refine cQ (fun aq aF=> ∃ (A:Nat),(i≤A∧(A=i∨A≤j+1))∧(Go.Sort.scanUp (fun x=> !a6 s[a]! x) s (j) (i)=A)∧(aF.ownsRow B 71 1 (.slice c n cp) n (LE aB s))∧(Md (fun q=>(Value.slice c n cp).ownBlock=some q) w aF)∧(aq 0= .slice c n cp)∧(aq 1=U a)∧(aq 9=U A)∧(aq 10=U j)) ?_ ?_
 refine aw (lp (fun Z ar ah=> ∃ (q:Nat),(i≤q∧(q=i∨q≤j+1))∧(Go.Sort.scanUp (fun x=> !a6 s[a]! x) s (j) (q)=Go.Sort.scanUp (fun x=> !a6 s[a]! x) s (j) (i))∧(ah.ownsRow B 71 1 (.slice c n cp) n (LE aB s))∧(Md (fun q=>(Value.slice c n cp).ownBlock=some q) w ah)∧(ar 0= .slice c n cp)∧(ar 1=U a)∧(ar 9=U q)∧(ar 10=U j)∧(j+1 - q=Z)) _ ⟨i,(by omega),rfl,bb,aY,rfl,rfl,rfl,rfl,rfl⟩ ?_)
 rintro Z ar ah ⟨q,hq1,hq2,G,ac,bG,bH,bK,bJ,rfl⟩
 refine fx 0 bG (fx 1 bH (fx 9 bK (fx 10 bJ (sq (fun _ an=>sq (fun _ ab=> ?_))))))
 have hdcn:=c9 G
 have C:(fun w'=>Wk ah w') ah.drew:=(Md.refl _ _).drew
 refine bI (fun w'=>Wk ah w') rfl wide C (bf 0 rfl (U q) C (bf 1 rfl (U j) C (aM 2 rfl (fun _ _=>le rfl rfl) C (aM 3 rfl (fun _ _=>mv) C (iG (t:=32) rfl (fun bo=> ?_) (fun bo=> ?_))))))
 refine a5 4 rfl (by kernel_rfl) rfl rfl rfl (fun _ _=>az (.slice c n cp) rfl) C (a5 5 rfl (by kernel_rfl) rfl rfl rfl (fun _ _=>az (U a) rfl) C (a5 6 rfl (by kernel_rfl) rfl rfl rfl (fun _ _=>aK a4 rfl rfl (by omega) (ao.ok ((aG G).2) (a9 (by omega)))) C (a5 7 rfl (by kernel_rfl) rfl rfl rfl (fun w' O=>ld bg rfl (bB (i:=a) ((aG G).2.wk O) (by omega))) C (a5 8 rfl (by kernel_rfl) rfl rfl rfl (fun _ _=>az (.slice c n cp) rfl) C (a5 9 rfl (by kernel_rfl) rfl rfl rfl (fun _ _=>az (U q) rfl) C (a5 10 rfl (by kernel_rfl) rfl rfl rfl (fun _ _=>aK a4 rfl rfl (by omega) (ao.ok ((aG G).2) (a9 (by omega)))) C (a5 11 rfl (by kernel_rfl) rfl rfl rfl (fun w' O=>ld bg rfl (bB (i:=q) ((aG G).2.wk O) (by omega))) C ?_)))))))
 refine jc 12 rfl (by kernel_rfl) rfl rfl rfl (cl gr (gz s[a]! s[q]! _) rfl fun bZ w41 bk=> ?_)
 obtain ⟨rfl,aW⟩:=bk
 have ad:(fun w'=>Wk ah w') w41:=Md.trans C aW
 refine ⟨ad,?_⟩
 refine a5 13 rfl (by kernel_rfl) rfl rfl rfl (fun _ _=>no rfl) ad (aM 14 rfl (fun _ _=>bz rfl) ad (hn (by kernel_rfl) (tn (ab _ _ (cb rfl (fun aA=> ?_) (fun aA=> ?_))))))
 refine aE (tn (an _ _ (aw (rg rfl (ag (U q) (p (bd ((q+1:Nat):Int) rfl rfl (aO (by omega) (by omega))) (p au (nl ?_))))))))
 exact bn (tn (⟨_,by omega,q+1,(by omega),((by rw [← hq2,ri (show q≤j by omega) (by simpa using aA)])),(aJ G ad),(Md.trans ac (ad.mono (fun _ _ h=>h.elim))),rfl,rfl,rfl,rfl,rfl⟩))
 exact ext (te _ (te _ (be (tn (⟨q,hq1,((by rw [← hq2,lU (.inr (by simpa using aA))])),(aJ G ad),(Md.trans ac (ad.mono (fun _ _ h=>h.elim))),rfl,rfl,rfl,rfl⟩)))))
 refine aX 4 rfl (by kernel_rfl) rfl rfl rfl rfl C ?_
 refine aX 5 rfl (by kernel_rfl) rfl rfl rfl rfl C ?_
 refine aX 6 rfl (by kernel_rfl) rfl rfl rfl rfl C ?_
 refine aX 7 rfl (by kernel_rfl) rfl rfl rfl rfl C ?_
 refine aX 8 rfl (by kernel_rfl) rfl rfl rfl rfl C ?_
 refine aX 9 rfl (by kernel_rfl) rfl rfl rfl rfl C ?_
 refine aX 10 rfl (by kernel_rfl) rfl rfl rfl rfl C ?_
 refine aX 11 rfl (by kernel_rfl) rfl rfl rfl rfl C ?_
 refine aX 12 rfl (by kernel_rfl) rfl rfl rfl rfl C ?_
 refine aX 13 rfl (by kernel_rfl) rfl rfl rfl rfl C ?_
 refine aM 14 rfl (fun _ _=>bc rfl) C (hn (by kernel_rfl) (tn (ab _ _ (cf rfl (ext (te _ (te _ (be ?_))))))))
 exact tn (⟨q,hq1,((by rw [← hq2,lU (.inl (by omega))])),(aJ G (Md.refl _ _).drew),ac.drew,rfl,rfl,rfl,rfl⟩)
 rintro aq aF ⟨A,bW,aN,bh,ba,bA,bC,bF,bE⟩
 refine fx 0 bA (fx 1 bC (fx 9 bF (fx 10 bE ?_)))
 refine cQ (fun av al=> ∃ (M:Nat),(a≤M∧M≤j)∧(Go.Sort.scanDown (fun x=>a6 s[a]! x) s (A) (j)=M)∧(al.ownsRow B 71 1 (.slice c n cp) n (LE aB s))∧(Md (fun q=>(Value.slice c n cp).ownBlock=some q) w al)∧(av 0= .slice c n cp)∧(av 1=U a)∧(av 9=U A)∧(av 10=U M)) ?_ ?_
 refine aw (lp (fun Z ax ai=> ∃ (q:Nat),(a≤q∧q≤j)∧(Go.Sort.scanDown (fun x=>a6 s[a]! x) s (A) (q)=Go.Sort.scanDown (fun x=>a6 s[a]! x) s (A) (j))∧(ai.ownsRow B 71 1 (.slice c n cp) n (LE aB s))∧(Md (fun q=>(Value.slice c n cp).ownBlock=some q) w ai)∧(ax 0= .slice c n cp)∧(ax 1=U a)∧(ax 9=U A)∧(ax 10=U q)∧(q=Z)) _ ⟨j,(by omega),rfl,bh,ba,rfl,rfl,rfl,rfl,rfl⟩ ?_)
 rintro Z ax ai ⟨q,hq1,hq2,G,ac,bR,bS,bU,bT,rfl⟩
 refine fx 0 bR (fx 1 bS (fx 9 bU (fx 10 bT (sq (fun _ an=>sq (fun _ ab=> ?_))))))
 have hdcn:=c9 G
 have E:(fun w'=>Wk ai w') ai.drew:=(Md.refl _ _).drew
 refine bI (fun w'=>Wk ai w') rfl wide E (bf 0 rfl (U A) E (bf 1 rfl (U q) E (aM 2 rfl (fun _ _=>le rfl rfl) E (aM 3 rfl (fun _ _=>mv) E (iG (t:=49) rfl (fun bp=> ?_) (fun bp=> ?_))))))
 refine a5 4 rfl (by kernel_rfl) rfl rfl rfl (fun _ _=>az (.slice c n cp) rfl) E (a5 5 rfl (by kernel_rfl) rfl rfl rfl (fun _ _=>az (U a) rfl) E (a5 6 rfl (by kernel_rfl) rfl rfl rfl (fun _ _=>aK a4 rfl rfl (by omega) (ao.ok ((aG G).2) (a9 (by omega)))) E (a5 7 rfl (by kernel_rfl) rfl rfl rfl (fun w' O=>ld bg rfl (bB (i:=a) ((aG G).2.wk O) (by omega))) E (a5 8 rfl (by kernel_rfl) rfl rfl rfl (fun _ _=>az (.slice c n cp) rfl) E (a5 9 rfl (by kernel_rfl) rfl rfl rfl (fun _ _=>az (U q) rfl) E (a5 10 rfl (by kernel_rfl) rfl rfl rfl (fun _ _=>aK a4 rfl rfl (by omega) (ao.ok ((aG G).2) (a9 (by omega)))) E (a5 11 rfl (by kernel_rfl) rfl rfl rfl (fun w' O=>ld bg rfl (bB (i:=q) ((aG G).2.wk O) (by omega))) E ?_)))))))
 refine jc 12 rfl (by kernel_rfl) rfl rfl rfl (cl gr (gz s[a]! s[q]! _) rfl fun b0 w58 bl=> ?_)
 obtain ⟨rfl,hE58⟩:=bl
 have am:(fun w'=>Wk ai w') w58:=Md.trans E hE58
 refine ⟨am,?_⟩
 refine aM 13 rfl (fun _ _=>bz rfl) am (hn (by kernel_rfl) (tn (ab _ _ (cb rfl (fun aC=> ?_) (fun aC=> ?_)))))
 refine aE (tn (an _ _ (aw (rg rfl (ag (U q) (p (bQ ((q - 1:Nat):Int) rfl rfl (aO (by omega) (by omega))) (p au (nl ?_))))))))
 exact bn (tn (⟨_,by omega,q - 1,(by omega),((by rw [← hq2,pP (show 0 < q by omega) (show A≤q by omega) (by simpa using aC)])),(aJ G am),(Md.trans ac (am.mono (fun _ _ h=>h.elim))),rfl,rfl,rfl,rfl,rfl⟩))
 exact ext (te _ (te _ (be (tn (⟨q,hq1,((by rw [← hq2,lr (.inr (by simpa using aC))])),(aJ G am),(Md.trans ac (am.mono (fun _ _ h=>h.elim))),rfl,rfl,rfl,rfl⟩)))))
 refine aX 4 rfl (by kernel_rfl) rfl rfl rfl rfl E ?_
 refine aX 5 rfl (by kernel_rfl) rfl rfl rfl rfl E ?_
 refine aX 6 rfl (by kernel_rfl) rfl rfl rfl rfl E ?_
 refine aX 7 rfl (by kernel_rfl) rfl rfl rfl rfl E ?_
 refine aX 8 rfl (by kernel_rfl) rfl rfl rfl rfl E ?_
 refine aX 9 rfl (by kernel_rfl) rfl rfl rfl rfl E ?_
 refine aX 10 rfl (by kernel_rfl) rfl rfl rfl rfl E ?_
 refine aX 11 rfl (by kernel_rfl) rfl rfl rfl rfl E ?_
 refine aX 12 rfl (by kernel_rfl) rfl rfl rfl rfl E ?_
 refine aM 13 rfl (fun _ _=>bc rfl) E (hn (by kernel_rfl) (tn (ab _ _ (cf rfl (ext (te _ (te _ (be ?_))))))))
 exact tn (⟨q,hq1,((by rw [← hq2,lr (.inl (by omega))])),(aJ G (Md.refl _ _).drew),ac.drew,rfl,rfl,rfl,rfl⟩)
 rintro av al ⟨M,bX,aI,Y,aH,bL,bM,bO,bN⟩
 refine fx 0 bL (fx 1 bM (fx 9 bO (fx 10 bN (sq (fun _ an=>ae (fun _ ab=>(ag (U A) (ag (U M) (p (gt rfl rfl) (nl ?_))))))))))
 refine tn (ab _ _ (cd rfl (fun bm=> ?_) (fun bm=> ?_)))
 refine ext (te _ (iV (by decide) (te _ (be (tn (aU _ _ (ae (fun _ ay=> ?_))))))))
 refine ag (U A) (p (bD (U A) rfl) (ak ((ay _ _ (rt (f1 rfl rfl ?_))))))
 have hz:Go.Sort.partitionEqual a6 d a b V=(A,s):=by rw [← aL,vu aN aI,if_pos (by omega)]
 exact ⟨by rw [hz]; rfl,by rw [hz]; exact Y,aH⟩
 refine aE (tn (an _ _ (sq (fun _ ay=> ?_))))
 have hdcn:=c9 Y
 have J:(fun w'=>Wk al w') al.drew:=(Md.refl _ _).drew
 refine dj (fun w'=>Wk al w') 13 rfl wide J (aQ 0 rfl (.slice c n cp) J (aQ 1 rfl (U A) J (aQ 2 rfl (.slice c n cp) J (aQ 3 rfl (U M) J (aQ 4 rfl (.slice c n cp) J (aQ 5 rfl (U M) J (a7 6 rfl (fun _=>aK a4 rfl rfl (by omega) (ao.ok ((aG Y).2) (a9 (by omega)))) (fun _=>J) ?_)))))))
 refine cY 7 rfl (fun w' O=>ld bg rfl (bB (i:=M) ((aG Y).2.wk O) (by omega))) J (aQ 8 rfl (.slice c n cp) J (aQ 9 rfl (U A) J (a7 10 rfl (fun _=>aK a4 rfl rfl (by omega) (ao.ok ((aG Y).2) (a9 (by omega)))) (fun _=>J) (cY 11 rfl (fun w' O=>ld bg rfl (bB (i:=A) ((aG Y).2.wk O) (by omega))) J (a7 12 rfl (fun _=>aK a4 rfl rfl (by omega) (ao.ok ((aG Y).2) (a9 (by omega)))) (fun _=>J) (bP 13 rfl (by kernel_rfl) (by kernel_rfl) (dA (u:=s[M]!) (A) (aJ Y J) dq rfl rfl rfl (by omega) fun b2 a3 bs=> ?_)))))))
 refine a7 14 rfl (fun _=>aK a4 rfl rfl (by omega) (ao.ok ((aG Y).2) (a9 (by omega)))) (fun h=>Bool.noConfusion ((show true =_ from by kernel_rfl).trans h)) (bP 15 rfl (by kernel_rfl) (by kernel_rfl) (dA (u:=s[A]!) (M) bs dq rfl rfl rfl (by omega) fun wPY2 a8 bt=> ?_))
 have bj:wPY2.ownsRow B 71 1 (.slice c n cp) n (LE aB (Go.Sort.swp s (A) (M))):=bt
 have a2:Md (fun q=>(Value.slice c n cp).ownBlock=some q) al wPY2:=Md.trans (J.mono (fun _ _ h=>h.elim)) (Md.trans a3 a8)
 refine di (by kernel_rfl) ?_
 refine tn (ay _ _ (ae (fun _ aV=>(ag (U A) (p (bd ((A+1:Nat):Int) rfl rfl (aO (by omega) (by omega))) (aj (((aV _ _ ?_)))))))))
 exact rg rfl (ag (U M) (p (bQ ((M - 1:Nat):Int) rfl rfl (aO (by omega) (by omega))) (p au (nl (bn (tn (⟨_,by omega,A+1,M - 1,Go.Sort.swp s A M,(by omega),((by rw [← aL,vu aN aI,if_neg (by omega),if_pos (by omega)])),bj,(Md.trans aH a2),rfl,rfl,rfl,rfl,rfl⟩)))))))
end Go.Hb.rD
end
section
set_option maxRecDepth 20000
set_option maxHeartbeats 1000000
namespace Go.Hb.rE
open Go.Hb.cU
open Go.Proofs
open Go.Hb.kv
theorem EJ {d:Array Nat} {a b s i i2:Nat} (h0:0 < s) (h:Go.Sort.scanSorted a6 d b i=i2) (h1:i2=b):Go.Sort.partialIns a6 a b s i d=(d,true):=by
 cases s with
 | zero=>omega
 | succ s=>rw [Go.Sort.partialIns]; simp only [h,if_pos h1]
theorem EK {d:Array Nat} {a b s i i2:Nat} (h0:0 < s) (h:Go.Sort.scanSorted a6 d b i=i2) (h1:¬i2=b) (h2:b - a < 50):Go.Sort.partialIns a6 a b s i d=(d,false):=by
 cases s with
 | zero=>omega
 | succ s=>rw [Go.Sort.partialIns]; simp only [h,if_neg h1,if_pos h2]
theorem qP {d c dh:Array Nat} {a b s i i2:Nat} (h0:0 < s) (h:Go.Sort.scanSorted a6 d b i=i2) (h1:¬i2=b) (h2:¬b - a < 50)
 (hg:c=if i2 - a≥2 then Go.Sort.shiftDown a6 (i2 - 1) (Go.Sort.swp d i2 (i2 - 1)) else Go.Sort.swp d i2 (i2 - 1)) (hh:dh=if b - i2≥2 then Go.Sort.shiftUp a6 b (i2+1) c else c):
 Go.Sort.partialIns a6 a b s i d=Go.Sort.partialIns a6 a b (s - 1) i2 dh:=by
 cases s with
 | zero=>omega
 | succ s=>rw [Go.Sort.partialIns]; simp only [h,if_neg h1,if_neg h2]; rw [← hg,← hh]; rfl
theorem EU (d:Array Nat) (a b:Nat) (B n cp:Nat) (c:Option Addr) (w:World) (bR:w.ownsRow B 71 1 (.slice c n cp) n (LE aB d)) (cM:a < b∧b≤n) (cO:n≤1099511627776):
 aT Tryz.prog 161 (List.toArray [.slice c n cp,U a,U b]) w (fun v w'=>v= .bool (Go.Sort.partialInsertionSort a6 d a b).2∧w'.ownsRow B 71 1 (.slice c n cp) n (LE aB (Go.Sort.partialInsertionSort a6 d a b).1)∧Md (fun q=>(Value.slice c n cp).ownBlock=some q) w w'):=by
 refine enter Tryz.func161 rfl Tryz.ntmps161 rfl ?_
 refine ae (fun _ bs=>(aj (((bs _ _ (ae (fun _ bv=>(ag (U a) ?_))))))))
 refine p (bd ((a+1:Nat):Int) rfl rfl (aO (by omega) (by omega))) (aj (((bv _ _ (sq (fun _ bw=>ae (fun _ bx=>(p au ?_))))))))
 refine ak ((bx _ _ (aw (lp (fun M av bj=> ∃ (s i:Nat) (C:Array Nat),(a+1≤i∧i≤b∧s≤5)∧(Go.Sort.partialIns a6 a b (5 - s) i C=(Go.Sort.partialInsertionSort a6 d a b))∧(bj.ownsRow B 71 1 (.slice c n cp) n (LE aB C))∧(Md (fun q=>(Value.slice c n cp).ownBlock=some q) w bj)∧(av 0= .slice c n cp)∧(av 1=U a)∧(av 2=U b)∧(av 7=U i)∧(av 8=U s)∧(5 - s=M)) _ ⟨0,a+1,d,(by omega),rfl,bR,(Md.refl _ _),rfl,rfl,rfl,rfl,rfl,rfl⟩ ?_))))
 rintro M av bj ⟨s,i,C,hi,ar,bo,bk,cc,ce,cg,ch,ci,rfl⟩
 refine fx 0 cc (fx 1 ce (fx 2 cg (fx 7 ch (fx 8 ci (sq (fun _ bA=>ae (fun _ bC=>(ag (U s) (p (lt rfl rfl) (ak ((bC _ _ ?_))))))))))))
 refine cd rfl (fun bY=> ?_) (fun bY=> ?_)
 refine aE (tn (bA _ _ (sq (fun _ aC=>aw ?_))))
 refine cQ (fun ax wC=> ∃ (i2:Nat),(i≤i2∧i2≤b)∧(Go.Sort.scanSorted a6 C b i=i2)∧(wC.ownsRow B 71 1 (.slice c n cp) n (LE aB C))∧(Md (fun q=>(Value.slice c n cp).ownBlock=some q) w wC)∧(ax 0= .slice c n cp)∧(ax 1=U a)∧(ax 2=U b)∧(ax 7=U i2)∧(ax 8=U s)) ?_ ?_
 refine aw (lp (fun M ay al=> ∃ (q:Nat),(i≤q∧q≤b)∧(Go.Sort.scanSorted a6 C b q=Go.Sort.scanSorted a6 C b i)∧(al.ownsRow B 71 1 (.slice c n cp) n (LE aB C))∧(Md (fun q=>(Value.slice c n cp).ownBlock=some q) w al)∧(ay 0= .slice c n cp)∧(ay 1=U a)∧(ay 2=U b)∧(ay 7=U q)∧(ay 8=U s)∧(b - q=M)) _ ⟨i,(by omega),rfl,bo,bk,rfl,rfl,rfl,rfl,rfl,rfl⟩ ?_)
 rintro M ay al ⟨q,hq1,hq2,Z,aZ,cq,cr,cs,ct,cu,rfl⟩
 refine fx 0 cq (fx 1 cr (fx 2 cs (fx 7 ct (fx 8 cu (sq (fun _ aW=>sq (fun _ aD=> ?_)))))))
 have hdcn:=c9 Z
 have j:(fun w'=>Wk al w') al.drew:=(Md.refl _ _).drew
 refine bI (fun w'=>Wk al w') rfl wide j (bf 0 rfl (U q) j (bf 1 rfl (U b) j (aM 2 rfl (fun _ _=>lt rfl rfl) j (aM 3 rfl (fun _ _=>mv) j (iG (t:=20) rfl (fun b4=> ?_) (fun b4=> ?_))))))
 refine a5 4 rfl (by kernel_rfl) rfl rfl rfl (fun _ _=>az (.slice c n cp) rfl) j (a5 5 rfl (by kernel_rfl) rfl rfl rfl (fun _ _=>az (U q) rfl) j (a5 6 rfl (by kernel_rfl) rfl rfl rfl (fun _ _=>aK a4 rfl rfl (by omega) (ao.ok ((aG Z).2) (a9 (by omega)))) j (a5 7 rfl (by kernel_rfl) rfl rfl rfl (fun w' A=>ld bg rfl (bB (i:=q) ((aG Z).2.wk A) (by omega))) j (a5 8 rfl (by kernel_rfl) rfl rfl rfl (fun _ _=>az (.slice c n cp) rfl) j (a5 9 rfl (by kernel_rfl) rfl rfl rfl (fun _ _=>az (U q) rfl) j (a5 10 rfl (by kernel_rfl) rfl rfl rfl (fun _ _=>bQ ((q - 1:Nat):Int) rfl rfl (aO (by omega) (by omega))) j (a5 11 rfl (by kernel_rfl) rfl rfl rfl (fun _ _=>aK a4 rfl rfl (by omega) (ao.ok ((aG Z).2) (a9 (by omega)))) j ?_)))))))
 refine a5 12 rfl (by kernel_rfl) rfl rfl rfl (fun w' A=>ld bg rfl (bB (i:=q - 1) ((aG Z).2.wk A) (by omega))) j (jc 13 rfl (by kernel_rfl) rfl rfl rfl (cl gr (gz C[q]! C[q - 1]! _) rfl fun v30 w30 bV=> ?_))
 obtain ⟨rfl,bE⟩:=bV
 have ad:(fun w'=>Wk al w') w30:=Md.trans j bE
 refine ⟨ad,?_⟩
 refine a5 14 rfl (by kernel_rfl) rfl rfl rfl (fun _ _=>no rfl) ad (aM 15 rfl (fun _ _=>bz rfl) ad (hn (by kernel_rfl) (tn (aD _ _ (cb rfl (fun a3=> ?_) (fun a3=> ?_))))))
 refine aE (tn (aW _ _ (aw (rg rfl (ag (U q) (p (bd ((q+1:Nat):Int) rfl rfl (aO (by omega) (by omega))) (p au (nl ?_))))))))
 exact bn (tn (⟨_,by omega,q+1,(by omega),((by rw [← hq2,Gd (show q < b by omega) (by simpa using a3)])),(aJ Z ad),(Md.trans aZ (ad.mono (fun _ _ h=>h.elim))),rfl,rfl,rfl,rfl,rfl,rfl⟩))
 exact ext (te _ (te _ (be (tn (⟨q,(by omega),((by rw [← hq2,wc (.inr (by simpa using a3))])),(aJ Z ad),(Md.trans aZ (ad.mono (fun _ _ h=>h.elim))),rfl,rfl,rfl,rfl,rfl⟩)))))
 refine aX 4 rfl (by kernel_rfl) rfl rfl rfl rfl j ?_
 refine aX 5 rfl (by kernel_rfl) rfl rfl rfl rfl j ?_
 refine aX 6 rfl (by kernel_rfl) rfl rfl rfl rfl j ?_
 refine aX 7 rfl (by kernel_rfl) rfl rfl rfl rfl j ?_
 refine aX 8 rfl (by kernel_rfl) rfl rfl rfl rfl j ?_
 refine aX 9 rfl (by kernel_rfl) rfl rfl rfl rfl j ?_
 refine aX 10 rfl (by kernel_rfl) rfl rfl rfl rfl j ?_
 refine aX 11 rfl (by kernel_rfl) rfl rfl rfl rfl j ?_
 refine aX 12 rfl (by kernel_rfl) rfl rfl rfl rfl j ?_
 refine aX 13 rfl (by kernel_rfl) rfl rfl rfl rfl j ?_
 refine aX 14 rfl (by kernel_rfl) rfl rfl rfl rfl j ?_
 refine aM 15 rfl (fun _ _=>bc rfl) j (hn (by kernel_rfl) (tn (aD _ _ (cf rfl (ext (te _ (te _ (be ?_))))))))
 exact tn (⟨q,(by omega),((by rw [← hq2,wc (.inl (by omega))])),(aJ Z (Md.refl _ _).drew),aZ.drew,rfl,rfl,rfl,rfl,rfl⟩)
 rintro ax wC ⟨i2,cN,hsc,Y,aF,cj,ck,cm,cn,co⟩
 refine fx 0 cj (fx 1 ck (fx 2 cm (fx 7 cn (fx 8 co (sq (fun _ aW=>ae (fun _ aD=>(ag (U i2) (ag (U b) (p (bu rfl rfl) (nl ?_)))))))))))
 refine tn (aD _ _ (cd rfl (fun bZ=> ?_) (fun bZ=> ?_)))
 refine ae (fun _ aH=>(aj (((aH _ _ (rt (tr (br ?_))))))))
 refine tr (tr (br (tr (f1 rfl rfl ?_))))
 have hz:(Go.Sort.partialInsertionSort a6 d a b)=(C,true):=by rw [← ar,EJ (show 0 < 5 - s by omega) hsc (by omega)]
 exact ⟨by rw [hz]; rfl,by rw [hz]; exact Y,aF⟩
 have aY:¬i2=b:=by omega
 refine aE (tn (aW _ _ (sq (fun _ aH=>ae (fun _ bt=>(ag (U b) (ag (U a) (p (bQ ((b - a:Nat):Int) rfl rfl (aO (by omega) (by omega))) ?_))))))))
 refine p (lt rfl rfl) (ak ((bt _ _ (cd rfl (fun b0=> ?_) (fun b0=> ?_)))))
 refine ae (fun _ aI=>(aj (((aI _ _ (rt (tr (br ?_))))))))
 refine tr (tr (br (tr (f1 rfl rfl ?_))))
 have hz:(Go.Sort.partialInsertionSort a6 d a b)=(C,false):=by rw [← ar,EK (show 0 < 5 - s by omega) hsc (by omega) (by omega)]
 exact ⟨by rw [hz]; rfl,by rw [hz]; exact Y,aF⟩
 refine aE (tn (aH _ _ (sq (fun _ aI=> ?_))))
 have hdcn:=c9 Y
 have E:(fun w'=>Wk wC w') wC.drew:=(Md.refl _ _).drew
 refine dj (fun w'=>Wk wC w') 15 rfl wide E (aQ 0 rfl (.slice c n cp) E (aQ 1 rfl (U i2) E (aQ 2 rfl (.slice c n cp) E (aQ 3 rfl (U i2) E (a7 4 rfl (fun _=>bQ ((i2 - 1:Nat):Int) rfl rfl (aO (by omega) (by omega))) (fun _=>E) (aQ 5 rfl (.slice c n cp) E (aQ 6 rfl (U i2) E ?_)))))))
 refine a7 7 rfl (fun _=>bQ ((i2 - 1:Nat):Int) rfl rfl (aO (by omega) (by omega))) (fun _=>E) (a7 8 rfl (fun _=>aK a4 rfl rfl (by omega) (ao.ok ((aG Y).2) (a9 (by omega)))) (fun _=>E) (cY 9 rfl (fun w' A=>ld bg rfl (bB (i:=i2 - 1) ((aG Y).2.wk A) (by omega))) E (aQ 10 rfl (.slice c n cp) E (aQ 11 rfl (U i2) E (a7 12 rfl (fun _=>aK a4 rfl rfl (by omega) (ao.ok ((aG Y).2) (a9 (by omega)))) (fun _=>E) (cY 13 rfl (fun w' A=>ld bg rfl (bB (i:=i2) ((aG Y).2.wk A) (by omega))) E (a7 14 rfl (fun _=>aK a4 rfl rfl (by omega) (ao.ok ((aG Y).2) (a9 (by omega)))) (fun _=>E) ?_)))))))
 refine bP 15 rfl (by kernel_rfl) (by kernel_rfl) (dA (u:=C[i2 - 1]!) (i2) (aJ Y E) dq rfl rfl rfl (by omega) fun cS bG b5=> ?_)
 refine a7 16 rfl (fun _=>aK a4 rfl rfl (by omega) (ao.ok ((aG Y).2) (a9 (by omega)))) (fun h=>Bool.noConfusion ((show true =_ from by kernel_rfl).trans h)) (bP 17 rfl (by kernel_rfl) (by kernel_rfl) (dA (u:=C[i2]!) (i2 - 1) b5 dq rfl rfl rfl (by omega) fun wP12 bH b6=> ?_))
 have bq:wP12.ownsRow B 71 1 (.slice c n cp) n (LE aB (Go.Sort.swp C (i2) (i2 - 1))):=b6
 have bl:Md (fun q=>(Value.slice c n cp).ownBlock=some q) wC wP12:=Md.trans (E.mono (fun _ _ h=>h.elim)) (Md.trans bG bH)
 refine di (by kernel_rfl) ?_
 refine tn (aI _ _ ?_)
 refine cQ (fun aA bi=> ∃ (ac:Array Nat),(ac=if i2 - a≥2 then Go.Sort.shiftDown a6 (i2 - 1) (Go.Sort.swp C i2 (i2 - 1)) else (Go.Sort.swp C i2 (i2 - 1)))∧(bi.ownsRow B 71 1 (.slice c n cp) n (LE aB ac))∧(Md (fun q=>(Value.slice c n cp).ownBlock=some q) w bi)∧(aA 0= .slice c n cp)∧(aA 1=U a)∧(aA 2=U b)∧(aA 7=U i2)∧(aA 8=U s)) ?_ ?_
 refine ae (fun _ aL=>(ag (U i2) (ag (U a) (p (bQ ((i2 - a:Nat):Int) rfl rfl (aO (by omega) (by omega))) (p (ge rfl rfl) (ak ((aL _ _ ?_))))))))
 refine cd rfl (fun b1=> ?_) (fun b1=> ?_)
 refine ae (fun _ aN=>(ag (U i2) (p (bQ ((i2 - 1:Nat):Int) rfl rfl (aO (by omega) (by omega))) (aj (((aN _ _ (aw ?_))))))))
 refine lp (fun M am ah=> ∃ (q:Nat) (J:Array Nat),(q≤i2 - 1)∧(Go.Sort.shiftDown a6 q J=Go.Sort.shiftDown a6 (i2 - 1) (Go.Sort.swp C i2 (i2 - 1)))∧(ah.ownsRow B 71 1 (.slice c n cp) n (LE aB J))∧(Md (fun q=>(Value.slice c n cp).ownBlock=some q) w ah)∧(am 0= .slice c n cp)∧(am 1=U a)∧(am 2=U b)∧(am 7=U i2)∧(am 8=U s)∧(am 9=U q)∧(q=M)) _ ⟨i2 - 1,(Go.Sort.swp C i2 (i2 - 1)),(by omega),rfl,bq,(Md.trans aF bl),rfl,rfl,rfl,rfl,rfl,rfl,rfl⟩ ?_
 rintro M am ah ⟨q,J,hq1,bb,aa,a0,cA,cB,cC,cD,cE,cF,rfl⟩
 refine fx 0 cA (fx 1 cB (fx 2 cC (fx 7 cD (fx 8 cE (fx 9 cF (sq (fun _ aP=>ae (fun _ aR=>(ag (U q) (p (ge rfl rfl) (ak ((aR _ _ ?_)))))))))))))
 refine cd rfl (fun b2=> ?_) (fun b2=> ?_)
 refine aE (tn (aP _ _ (sq (fun _ aS=>aw (sq (fun _ aU=>sq (fun _ aV=> ?_)))))))
 have hdfn:=c9 aa
 have O:(fun w'=>Wk ah w') ah.drew:=(Md.refl _ _).drew
 refine bI (fun w'=>Wk ah w') rfl wide O (bf 0 rfl (.slice c n cp) O (bf 1 rfl (U q) O (aM 2 rfl (fun _ _=>aK a4 rfl rfl (by omega) (ao.ok ((aG aa).2) (a9 (by omega)))) O (aM 3 rfl (fun w' A=>ld bg rfl (bB (i:=q) ((aG aa).2.wk A) (by omega))) O (bf 4 rfl (.slice c n cp) O (bf 5 rfl (U q) O (aM 6 rfl (fun _ _=>bQ ((q - 1:Nat):Int) rfl rfl (aO (by omega) (by omega))) O ?_)))))))
 refine aM 7 rfl (fun _ _=>aK a4 rfl rfl (by omega) (ao.ok ((aG aa).2) (a9 (by omega)))) O (aM 8 rfl (fun w' A=>ld bg rfl (bB (i:=q - 1) ((aG aa).2.wk A) (by omega))) O (he 9 rfl (by kernel_rfl) (cl gr (gz J[q]! J[q - 1]! _) rfl fun cR w77 bW=> ?_)))
 obtain ⟨rfl,bF⟩:=bW
 have ap:(fun w'=>Wk ah w') w77:=Md.trans O bF
 refine ⟨ap,?_⟩
 refine aM 10 rfl (fun _ _=>no rfl) ap (hn (by kernel_rfl) (tn (aV _ _ (cb rfl (fun a8=> ?_) (fun a8=> ?_)))))
 exact ext (te _ (iV (by decide) (te _ (te _ (be (tn (⟨J,((by rw [if_pos (by omega),← bb,vP (.inr (by simpa using a8))])),(aJ aa ap),(Md.trans a0 (ap.mono (fun _ _ h=>h.elim))),rfl,rfl,rfl,rfl,rfl⟩)))))))
 refine aE (tn (aU _ _ ?_))
 have hO7:=aJ aa ap
 have hS17:(fun w'=>Wk w77 w') w77.drew:=(Md.refl _ _).drew
 refine dj (fun w'=>Wk w77 w') 15 rfl wide hS17 (aQ 0 rfl (.slice c n cp) hS17 (aQ 1 rfl (U q) hS17 (aQ 2 rfl (.slice c n cp) hS17 (aQ 3 rfl (U q) hS17 (a7 4 rfl (fun _=>bQ ((q - 1:Nat):Int) rfl rfl (aO (by omega) (by omega))) (fun _=>hS17) (aQ 5 rfl (.slice c n cp) hS17 (aQ 6 rfl (U q) hS17 ?_)))))))
 refine a7 7 rfl (fun _=>bQ ((q - 1:Nat):Int) rfl rfl (aO (by omega) (by omega))) (fun _=>hS17) (a7 8 rfl (fun _=>aK a4 rfl rfl (by omega) (ao.ok ((aG hO7).2) (a9 (by omega)))) (fun _=>hS17) (cY 9 rfl (fun w' A=>ld bg rfl (bB (i:=q - 1) ((aG hO7).2.wk A) (by omega))) hS17 (aQ 10 rfl (.slice c n cp) hS17 (aQ 11 rfl (U q) hS17 (a7 12 rfl (fun _=>aK a4 rfl rfl (by omega) (ao.ok ((aG hO7).2) (a9 (by omega)))) (fun _=>hS17) (cY 13 rfl (fun w' A=>ld bg rfl (bB (i:=q) ((aG hO7).2.wk A) (by omega))) hS17 (a7 14 rfl (fun _=>aK a4 rfl rfl (by omega) (ao.ok ((aG hO7).2) (a9 (by omega)))) (fun _=>hS17) ?_)))))))
 refine bP 15 rfl (by kernel_rfl) (by kernel_rfl) (dA (u:=J[q - 1]!) (q) (aJ hO7 hS17) dq rfl rfl rfl (by omega) fun cT bK b7=> ?_)
 refine a7 16 rfl (fun _=>aK a4 rfl rfl (by omega) (ao.ok ((aG hO7).2) (a9 (by omega)))) (fun h=>Bool.noConfusion ((show true =_ from by kernel_rfl).trans h)) (bP 17 rfl (by kernel_rfl) (by kernel_rfl) (dA (u:=J[q]!) (q - 1) b7 dq rfl rfl rfl (by omega) fun wP22 bL b8=> ?_))
 have bS:wP22.ownsRow B 71 1 (.slice c n cp) n (LE aB (Go.Sort.swp J (q) (q - 1))):=b8
 have bJ:Md (fun q=>(Value.slice c n cp).ownBlock=some q) w77 wP22:=Md.trans (hS17.mono (fun _ _ h=>h.elim)) (Md.trans bK bL)
 refine di (by kernel_rfl) ?_
 refine bn (tn (aS _ _ (rg rfl (ag (U q) (p (bQ ((q - 1:Nat):Int) rfl rfl (aO (by omega) (by omega))) (p au (nl (tn ?_))))))))
 exact ⟨_,by omega,q - 1,Go.Sort.swp J q (q - 1),(by omega),((by rw [← bb,FM (show 0 < q by omega) (by simpa using a8)])),bS,(Md.trans a0 (Md.trans (ap.mono (fun _ _ h=>h.elim)) bJ)),rfl,rfl,rfl,rfl,rfl,rfl,rfl⟩
 exact ext (te _ (te _ (be (tn (⟨J,((by rw [if_pos (by omega),← bb,vP (.inl (by omega))])),aa,a0,rfl,rfl,rfl,rfl,rfl⟩)))))
 exact aE (tn (⟨(Go.Sort.swp C i2 (i2 - 1)),((by rw [if_neg (by omega)])),bq,(Md.trans aF bl),rfl,rfl,rfl,rfl,rfl⟩))
 rintro aA bi ⟨ac,ba,bp,bm,cv,cw,cx,cy,cz⟩
 refine fx 0 cv (fx 1 cw (fx 2 cx (fx 7 cy (fx 8 cz (ae (fun _ aL=>(ag (U b) (ag (U i2) (p (bQ ((b - i2:Nat):Int) rfl rfl (aO (by omega) (by omega))) (p (ge rfl rfl) (nl ?_)))))))))))
 refine tn (aL _ _ (cd rfl (fun b3=> ?_) (fun b3=> ?_)))
 refine ae (fun _ aN=>(ag (U i2) (p (bd ((i2+1:Nat):Int) rfl rfl (aO (by omega) (by omega))) (aj (((aN _ _ (aw ?_))))))))
 refine lp (fun M an ai=> ∃ (q:Nat) (I:Array Nat),(i2+1≤q∧q≤b)∧(Go.Sort.shiftUp a6 b q I=Go.Sort.shiftUp a6 b (i2+1) ac)∧(ai.ownsRow B 71 1 (.slice c n cp) n (LE aB I))∧(Md (fun q=>(Value.slice c n cp).ownBlock=some q) w ai)∧(an 0= .slice c n cp)∧(an 1=U a)∧(an 2=U b)∧(an 7=U i2)∧(an 8=U s)∧(an 10=U q)∧(b - q=M)) _ ⟨i2+1,ac,(by omega),rfl,bp,bm,rfl,rfl,rfl,rfl,rfl,rfl,rfl⟩ ?_
 rintro M an ai ⟨q,I,hq1,bh,ab,a1,cG,cH,cJ,cK,cL,cI,rfl⟩
 refine fx 0 cG (fx 1 cH (fx 2 cJ (fx 7 cK (fx 8 cL (fx 10 cI (sq (fun _ aP=>ae (fun _ aR=>(ag (U q) (ag (U b) (p (lt rfl rfl) (nl ?_))))))))))))
 refine tn (aR _ _ (cd rfl (fun bX=> ?_) (fun bX=> ?_)))
 refine aE (tn (aP _ _ (sq (fun _ aS=>aw (sq (fun _ aU=>sq (fun _ aV=> ?_)))))))
 have hdkn:=c9 ab
 have V:(fun w'=>Wk ai w') ai.drew:=(Md.refl _ _).drew
 refine bI (fun w'=>Wk ai w') rfl wide V (bf 0 rfl (.slice c n cp) V (bf 1 rfl (U q) V (aM 2 rfl (fun _ _=>aK a4 rfl rfl (by omega) (ao.ok ((aG ab).2) (a9 (by omega)))) V (aM 3 rfl (fun w' A=>ld bg rfl (bB (i:=q) ((aG ab).2.wk A) (by omega))) V (bf 4 rfl (.slice c n cp) V (bf 5 rfl (U q) V (aM 6 rfl (fun _ _=>bQ ((q - 1:Nat):Int) rfl rfl (aO (by omega) (by omega))) V ?_)))))))
 refine aM 7 rfl (fun _ _=>aK a4 rfl rfl (by omega) (ao.ok ((aG ab).2) (a9 (by omega)))) V (aM 8 rfl (fun w' A=>ld bg rfl (bB (i:=q - 1) ((aG ab).2.wk A) (by omega))) V (he 9 rfl (by kernel_rfl) (cl gr (gz I[q]! I[q - 1]! _) rfl fun cP w115 bU=> ?_)))
 obtain ⟨rfl,bD⟩:=bU
 have aq:(fun w'=>Wk ai w') w115:=Md.trans V bD
 refine ⟨aq,?_⟩
 refine aM 10 rfl (fun _ _=>no rfl) aq (hn (by kernel_rfl) (tn (aV _ _ (cb rfl (fun a2=> ?_) (fun a2=> ?_)))))
 refine ext (te _ (iV (by decide) (te _ (te _ (be (bn (tn (aC _ _ ?_))))))))
 exact rg rfl (ag (U s) (p (bd ((s+1:Nat):Int) rfl rfl (aO (by omega) (by omega))) (aj (((⟨_,by omega,s+1,i2,I,(by omega),((by rw [← ar,qP (show 0 < 5 - s by omega) hsc aY (by omega) ba (show I=_ by rw [if_pos (by omega),← bh,wi (.inr (by simpa using a2))])]; rfl)),(aJ ab aq),(Md.trans a1 (aq.mono (fun _ _ h=>h.elim))),rfl,rfl,rfl,rfl,rfl,rfl⟩))))))
 refine aE (tn (aU _ _ ?_))
 have hO8:=aJ ab aq
 have G:(fun w'=>Wk w115 w') w115.drew:=(Md.refl _ _).drew
 refine dj (fun w'=>Wk w115 w') 15 rfl wide G (aQ 0 rfl (.slice c n cp) G (aQ 1 rfl (U q) G (aQ 2 rfl (.slice c n cp) G (aQ 3 rfl (U q) G (a7 4 rfl (fun _=>bQ ((q - 1:Nat):Int) rfl rfl (aO (by omega) (by omega))) (fun _=>G) (aQ 5 rfl (.slice c n cp) G (aQ 6 rfl (U q) G ?_)))))))
 refine a7 7 rfl (fun _=>bQ ((q - 1:Nat):Int) rfl rfl (aO (by omega) (by omega))) (fun _=>G) (a7 8 rfl (fun _=>aK a4 rfl rfl (by omega) (ao.ok ((aG hO8).2) (a9 (by omega)))) (fun _=>G) (cY 9 rfl (fun w' A=>ld bg rfl (bB (i:=q - 1) ((aG hO8).2.wk A) (by omega))) G (aQ 10 rfl (.slice c n cp) G (aQ 11 rfl (U q) G (a7 12 rfl (fun _=>aK a4 rfl rfl (by omega) (ao.ok ((aG hO8).2) (a9 (by omega)))) (fun _=>G) (cY 13 rfl (fun w' A=>ld bg rfl (bB (i:=q) ((aG hO8).2.wk A) (by omega))) G (a7 14 rfl (fun _=>aK a4 rfl rfl (by omega) (ao.ok ((aG hO8).2) (a9 (by omega)))) (fun _=>G) ?_)))))))
 refine bP 15 rfl (by kernel_rfl) (by kernel_rfl) (dA (u:=I[q - 1]!) (q) (aJ hO8 G) dq rfl rfl rfl (by omega) fun cU bN b9=> ?_)
 refine a7 16 rfl (fun _=>aK a4 rfl rfl (by omega) (ao.ok ((aG hO8).2) (a9 (by omega)))) (fun h=>Bool.noConfusion ((show true =_ from by kernel_rfl).trans h)) (bP 17 rfl (by kernel_rfl) (by kernel_rfl) (dA (u:=I[q]!) (q - 1) b9 dq rfl rfl rfl (by omega) fun wP32 bO ca=> ?_))
 have bT:wP32.ownsRow B 71 1 (.slice c n cp) n (LE aB (Go.Sort.swp I (q) (q - 1))):=ca
 have bM:Md (fun q=>(Value.slice c n cp).ownBlock=some q) w115 wP32:=Md.trans (G.mono (fun _ _ h=>h.elim)) (Md.trans bN bO)
 refine di (by kernel_rfl) ?_
 refine bn (tn (aS _ _ (rg rfl (ag (U q) (p (bd ((q+1:Nat):Int) rfl rfl (aO (by omega) (by omega))) (p au (nl (tn ?_))))))))
 exact ⟨_,by omega,q+1,Go.Sort.swp I q (q - 1),(by omega),((by rw [← bh,Gl (show q < b by omega) (by simpa using a2)])),bT,(Md.trans a1 (Md.trans (aq.mono (fun _ _ h=>h.elim)) bM)),rfl,rfl,rfl,rfl,rfl,rfl,rfl⟩
 refine ext (te _ (te _ (be (bn (tn (aC _ _ (rg rfl (ag (U s) ?_))))))))
 exact p (bd ((s+1:Nat):Int) rfl rfl (aO (by omega) (by omega))) (aj (((⟨_,by omega,s+1,i2,I,(by omega),((by rw [← ar,qP (show 0 < 5 - s by omega) hsc aY (by omega) ba (show I=_ by rw [if_pos (by omega),← bh,wi (.inl (by omega))])]; rfl)),ab,a1,rfl,rfl,rfl,rfl,rfl,rfl⟩))))
 refine aE (bn (tn (aC _ _ (rg rfl (ag (U s) (p (bd ((s+1:Nat):Int) rfl rfl (aO (by omega) (by omega))) (p au (nl ?_))))))))
 exact tn (⟨_,by omega,s+1,i2,ac,(by omega),((by rw [← ar,qP (show 0 < 5 - s by omega) hsc aY (by omega) ba (show ac=_ by rw [if_neg (by omega)])]; rfl)),bp,bm,rfl,rfl,rfl,rfl,rfl,rfl⟩)
 refine ext (te _ (te _ (be (tn (bw _ _ (ae (fun _ aC=>(p au ?_))))))))
 refine ak ((aC _ _ (rt (f1 rfl rfl ?_))))
 have hz:(Go.Sort.partialInsertionSort a6 d a b)=(C,false):=by rw [← ar,show 5 - s=0 by omega]; rfl
 exact ⟨by rw [hz]; rfl,by rw [hz]; exact bo,bk⟩
end Go.Hb.rE
end
section
set_option maxRecDepth 20000
set_option maxHeartbeats 1000000
namespace Go.Hb.oX
open Go.Hb.cU
open Go.Proofs
open Go.Hb.kv Go.Hb.rD Go.Hb.rE Go.Hb.m9
theorem EE (d:Array Nat) (a b i:Nat) (B n cp:Nat) (c:Option Addr) (w:World) (p:w.ownsRow B 71 1 (.slice c n cp) n (LE aB d)) (s:a≤i∧i < b∧b≤n) (A:n≤1099511627776):aT Tryz.prog 164 (List.toArray [.slice c n cp,.int .i64 (a:Nat),.int .i64 (b:Nat),.int .i64 (i:Nat)]) w
 (fun v w'=> ∃ j ap d4,Go.Sort.partition a6 d a b i=(j,ap,d4)∧v= .tuple #[.int .i64 (j:Nat),.bool ap]∧w'.ownsRow B 71 1 (.slice c n cp) n (LE aB d4)∧Md (fun q=>(Value.slice c n cp).ownBlock=some q) w w'):=
 (ED d a b i B n cp c w p s A).mono fun _ _ h=>⟨_,_,_,rfl,h⟩
theorem EG (d:Array Nat) (a b i:Nat) (B n cp:Nat) (c:Option Addr) (w:World) (p:w.ownsRow B 71 1 (.slice c n cp) n (LE aB d)) (s:a≤i∧i < b∧b≤n) (A:n≤1099511627776):aT Tryz.prog 163 (List.toArray [.slice c n cp,.int .i64 (a:Nat),.int .i64 (b:Nat),.int .i64 (i:Nat)]) w
 (fun v w'=> ∃ j d4,Go.Sort.partitionEqual a6 d a b i=(j,d4)∧v= .int .i64 (j:Nat)∧w'.ownsRow B 71 1 (.slice c n cp) n (LE aB d4)∧Md (fun q=>(Value.slice c n cp).ownBlock=some q) w w'):=
 (EF d a b i B n cp c w p s A).mono fun _ _ h=>⟨_,_,rfl,h⟩
theorem EH (m:Nat) (d:Array Nat) (a b Z:Nat) (B n cp:Nat) (s:Option Addr) (w:World) (bl:w.ownsRow B 71 1 (.slice s n cp) n (LE aB d)) (hm:b - a < m) (c6:a≤b∧b≤n) (cr:n≤255) (hl:Z≤64) (bJ:Go.Sort.Below a6 a b d):
 aT Tryz.prog 138 (List.toArray [.slice s n cp,U a,U b,U Z]) w (fun v w'=> ∃ d1,v= .tuple #[]∧Go.Sort.PermIn a b d d1∧Go.Sort.SortedIn a6 a b d1∧w'.ownsRow B 71 1 (.slice s n cp) n (LE aB d1)∧Md (fun q=>(Value.slice s n cp).ownBlock=some q) w w'):=by
 have bv:True:=trivial
 induction m generalizing d a b Z w with
 | zero=>omega
 | succ m bv=>
   have ih:∀ (d:Array Nat) (a b Z:Nat) (w:World),w.ownsRow B 71 1 (.slice s n cp) n (LE aB d)→b - a < m→(a≤b∧b≤n)→Z≤64→Go.Sort.Below a6 a b d→_:=fun d a b Z w h1 h2 h3 h4 h5=>bv d a b Z w h1 h2 h3 h4 h5
   have hdn:=c9 bl
   refine enter Tryz.func138 rfl Tryz.ntmps138 rfl ?_
   refine ae (fun _ bx=>(aj (((bx _ _ (ae (fun _ bD=>(p au ?_))))))))
   refine ak ((bD _ _ (aw (lp (fun bh ai bb=> ∃ (c j aa:Nat) (J wp:Bool) (A:Array Nat),(a≤c∧c≤j∧j≤b∧aa≤64)∧(Go.Sort.Below a6 c j A)∧(∀ R,Go.Sort.PermIn c j A R→Go.Sort.SortedIn a6 c j R→Go.Sort.PermIn a b d R∧Go.Sort.SortedIn a6 a b R)∧(bb.ownsRow B 71 1 (.slice s n cp) n (LE aB A))∧(Md (fun q=>(Value.slice s n cp).ownBlock=some q) w bb)∧(ai 0= .slice s n cp)∧(ai 1=U c)∧(ai 2=U j)∧(ai 3=U aa)∧(ai 8= .bool J)∧(ai 9= .bool wp)∧(j - c=bh)) _ ⟨a,b,Z,true,true,d,(by omega),bJ,(fun R h1 h2=>⟨h1,h2⟩),bl,(Md.refl _ _),rfl,rfl,rfl,rfl,rfl,rfl,rfl⟩ ?_))))
   rintro bh ai bb ⟨c,j,aa,J,wp,A,hr,aL,al,av,aA,ct,cu,cv,cw,cx,cy,rfl⟩
   refine fx 0 ct (fx 1 cu (fx 2 cv (fx 3 cw (fx 8 cx (fx 9 cy ?_)))))
   have hdcn:=c9 av
   refine aw (ae (fun _ bE=>(ag (U j) (ag (U c) (p (bQ ((j - c:Nat):Int) rfl rfl (aO (by omega) (by omega))) (p au (nl ?_)))))))
   refine tn (bE _ _ (sq (fun _ bF=>ae (fun _ bG=>(p mv (p (le rfl rfl) (ak ((bG _ _ ?_)))))))))
   refine cd rfl (fun hc23=> ?_) (fun hc23=> ?_)
   refine ae (fun _ aI=>(ag (.slice s n cp) (ag (U c) (ag (U j) (e (cl yJ (C4 A c j B n cp s _ av (by omega) (by omega)) rfl fun db dm b0=> ?_))))))
   obtain ⟨rfl,bS,bL⟩:=b0
   refine ak ((aI _ _ (rt (tr (br (tr (br (nQ rfl ?_))))))))
   obtain ⟨h1,h2⟩:=Go.Sort.insertionSort_holds mF A c j (by omega) (by omega)
   obtain ⟨hz1,hz2⟩:=al _ (h1) (h2)
   exact ⟨_,rfl,hz1,hz2,bS,Md.trans aA bL⟩
   refine aE (tn (bF _ _ (sq (fun _ aI=>ae (fun _ bH=>(ag (U aa) (p (bu rfl rfl) (nl ?_))))))))
   refine tn (bH _ _ (cd rfl (fun ca=> ?_) (fun ca=> ?_)))
   refine ae (fun _ an=>(ag (.slice s n cp) (ag (U c) (ag (U j) (e (cl yK (CN A c j B n cp s _ av (by omega) (by omega)) rfl fun dc w33 b1=> ?_))))))
   obtain ⟨rfl,bT,bM⟩:=b1
   refine ak ((an _ _ (rt (tr (br (tr (br (nQ rfl ?_))))))))
   obtain ⟨h1,h2⟩:=Go.Sort.heapSort_holds mF A c j (by omega) (by omega)
   obtain ⟨hz1,hz2⟩:=al _ (h1) (h2)
   exact ⟨_,rfl,hz1,hz2,bT,Md.trans aA bM⟩
   refine aE (tn (aI _ _ ?_))
   refine cQ (fun ab a7=> ∃ (C:Nat) (d1:Array Nat),(C≤64)∧(Go.Sort.PermIn c j A d1)∧(a7.ownsRow B 71 1 (.slice s n cp) n (LE aB d1))∧(Md (fun q=>(Value.slice s n cp).ownBlock=some q) w a7)∧(ab 0= .slice s n cp)∧(ab 1=U c)∧(ab 2=U j)∧(ab 3=U C)∧(ab 8= .bool J)∧(ab 9= .bool wp)∧(ab 10=U (j - c))) ?_ ?_
   refine ae (fun _ an=>(ag (.bool J) (p (no rfl) (ak ((an _ _ (cb rfl (fun cc=> ?_) (fun cc=> ?_))))))))
   refine ae (fun _ G=>(ag (.slice s n cp) (ag (U c) (ag (U j) (e (cl yL (yc A c j B n cp s _ av (by omega) cr) rfl fun dd w39 b2=> ?_))))))
   obtain ⟨d1,rfl,cs,bU,bN⟩:=b2
   refine ak ((G _ _ (rg rfl (ag (U aa) (p (bQ ((aa - 1:Nat):Int) rfl rfl (aO (by omega) (by omega))) (p au (nl (tn ?_))))))))
   exact ⟨aa - 1,d1,(by omega),cs,bU,(Md.trans aA bN),rfl,rfl,rfl,rfl,rfl,rfl,rfl⟩
   exact aE (tn (⟨aa,A,(by omega),(Go.Sort.permIn_refl A c j),av,aA,rfl,rfl,rfl,rfl,rfl,rfl,rfl⟩))
   rintro ab a7 ⟨C,d1,hl2,bt,bX,bR,cz,cA,cC,cD,cE,cF,cB⟩
   refine fx 0 cz (fx 1 cA (fx 2 cC (fx 3 cD (fx 8 cE (fx 9 cF (fx 10 cB (ae (fun _ an=>(ag (.slice s n cp) (ag (U c) (ag (U j) (e (cl yM (zz d1 c j B n cp s _ bX (by omega) (by omega)) rfl fun de w46 b3=> ?_)))))))))))))
   obtain ⟨aD,hv,rfl,c7,aQ,hE46⟩:=b3
   have hM46:=Md.trans bR (hE46.mono (fun _ _ h=>h.elim))
   refine p mv (p (xt rfl rfl) (p (xt rfl rfl) (p au (aj (((an _ _ ?_)))))))
   refine cQ (fun M a8=> ∃ (E:Nat) (a2:Int) (d2:Array Nat),(c≤E∧E < j)∧(Go.Sort.PermIn c j A d2)∧(a8.ownsRow B 71 1 (.slice s n cp) n (LE aB d2))∧(Md (fun q=>(Value.slice s n cp).ownBlock=some q) w a8)∧(M 0= .slice s n cp)∧(M 1=U c)∧(M 2=U j)∧(M 3=U C)∧(M 8= .bool J)∧(M 9= .bool wp)∧(M 10=U (j - c))∧(M 11=U E)∧(M 12= .int .i64 a2)) ?_ ?_
   refine ae (fun _ G=>(p mv (p (bu rfl rfl) (ak ((G _ _ (cd rfl (fun ce=> ?_) (fun ce=> ?_))))))))
   refine ae (fun _ ac=>(ag (.slice s n cp) (ag (U c) (ag (U j) (e (cl yN (Fw d1 c j B n cp s _ aQ (by omega) (by omega)) rfl fun df dn b4=> ?_))))))
   obtain ⟨rfl,bV,bO⟩:=b4
   have hd1n:=c9 aQ
   refine ak ((ac _ _ (ae (fun _ am=>(ag (U j) (p (bQ ((j - 1:Nat):Int) rfl rfl (aO (by omega) (by omega))) (p mv (ag (U c) ?_))))))))
   refine p (bQ ((aD - c:Nat):Int) rfl rfl (aO (by omega) (by omega))) (p (bQ ((j - 1 - (aD - c):Nat):Int) rfl rfl (aO (by omega) (by omega))) (aj (((am _ _ (rg rfl (p au (nl ?_))))))))
   exact tn (⟨j - 1 - (aD - c),1,Go.Sort.reverseRange d1 c j,(by omega),(Go.Sort.permIn_trans _ _ _ c j bt (Go.Sort.reverseRange_holds d1 c j (by omega) (by omega))),bV,(Md.trans hM46 bO),rfl,rfl,rfl,rfl,rfl,rfl,rfl,rfl,rfl⟩)
   exact aE (tn (⟨aD,hv,d1,(by omega),bt,aQ,hM46,rfl,rfl,rfl,rfl,rfl,rfl,rfl,rfl,rfl⟩))
   rintro M a8 ⟨E,a2,d2,aC,hp2,ax,ar,cG,cH,cL,cM,cN,cO,cI,cJ,cK⟩
   refine fx 0 cG (fx 1 cH (fx 2 cL (fx 3 cM (fx 8 cN (fx 9 cO (fx 10 cI (fx 11 cJ (fx 12 cK ?_))))))))
   refine cQ (fun O ah=> ∃ (d3:Array Nat),(Go.Sort.PermIn c j A d3)∧(ah.ownsRow B 71 1 (.slice s n cp) n (LE aB d3))∧(Md (fun q=>(Value.slice s n cp).ownBlock=some q) w ah)∧(O 0= .slice s n cp)∧(O 1=U c)∧(O 2=U j)∧(O 3=U C)∧(O 8= .bool J)∧(O 9= .bool wp)∧(O 10=U (j - c))∧(O 11=U E)) ?_ ?_
   refine ae (fun _ G=>(ag (.bool J) (ag (.bool J) (gb (t:=62) rfl (fun ch=> ?_) (fun ch=> ?_)))))
   refine pg rfl rfl rfl (az (.bool wp) rfl) (p (bz rfl) (p mv (gb (t:=65) rfl (fun ci=> ?_) (fun ci=> ?_))))
   refine pg rfl rfl rfl (az (.int .i64 a2) rfl) (pg rfl rfl rfl (bu rfl rfl) (p (bz rfl) (ak ((G _ _ (cd rfl (fun cg=> ?_) (fun cg=> ?_)))))))
   refine ae (fun _ ac=>(ag (.slice s n cp) (ag (U c) (ag (U j) (e (cl yO (EU d2 c j B n cp s _ ax (by omega) (by omega)) rfl fun dg dp b5=> ?_))))))
   obtain ⟨rfl,bm,bi⟩:=b5
   have hd2n:=c9 ax
   obtain ⟨bs,ck⟩:=Go.Sort.partialInsertionSort_holds mF d2 c j (by omega) (by omega) (Go.Sort.Below.perm aL (by omega) hp2)
   refine ak ((ac _ _ (cb rfl (fun bp=> ?_) (fun bp=> ?_))))
   have hsT:=ck bp
   refine rt (tr (br (tr (br (nQ rfl ?_)))))
   obtain ⟨hz1,hz2⟩:=al _ (Go.Sort.permIn_trans _ _ _ c j hp2 bs) (hsT)
   exact ⟨_,rfl,hz1,hz2,bm,Md.trans ar bi⟩
   exact aE (tn (⟨_,(Go.Sort.permIn_trans _ _ _ c j hp2 bs),bm,(Md.trans ar bi),rfl,rfl,rfl,rfl,rfl,rfl,rfl,rfl⟩))
   exact aE (tn (⟨d2,hp2,ax,ar,rfl,rfl,rfl,rfl,rfl,rfl,rfl,rfl⟩))
   refine sk rfl rfl rfl rfl (sk rfl rfl rfl rfl (p (bc rfl) (ak ((G _ _ (cf rfl (aE (tn ?_))))))))
   exact ⟨d2,hp2,ax,ar,rfl,rfl,rfl,rfl,rfl,rfl,rfl,rfl⟩
   refine sk rfl rfl rfl rfl (p (bc rfl) (p mv (sk rfl rfl rfl rfl (sk rfl rfl rfl rfl (p (bc rfl) (ak ((G _ _ ?_))))))))
   exact cf rfl (aE (tn (⟨d2,hp2,ax,ar,rfl,rfl,rfl,rfl,rfl,rfl,rfl,rfl⟩)))
   rintro O ah ⟨d3,ay,Y,aN,cP,cR,cU,cV,cW,cX,cS,cT⟩
   refine fx 0 cP (fx 1 cR (fx 2 cU (fx 3 cV (fx 8 cW (fx 9 cX (fx 10 cS (fx 11 cT ?_)))))))
   refine cQ (fun V ba=>(ba.ownsRow B 71 1 (.slice s n cp) n (LE aB d3))∧(Md (fun q=>(Value.slice s n cp).ownBlock=some q) w ba)∧(V 0= .slice s n cp)∧(V 1=U c)∧(V 2=U j)∧(V 3=U C)∧(V 8= .bool J)∧(V 9= .bool wp)∧(V 10=U (j - c))∧(V 11=U E)) ?_ ?_
   refine sq (fun _ G=> ?_)
   have hd3n:=c9 Y
   have hS17:(fun w'=>Wk ah w') ah.drew:=(Md.refl _ _).drew
   refine bI (fun w'=>Wk ah w') rfl wide hS17 (bf 0 rfl (U c) hS17 (aM 1 rfl (fun _ _=>gt rfl rfl) hS17 (aM 2 rfl (fun _ _=>mv) hS17 (iG (t:=75) rfl (fun cj=> ?_) (fun cj=> ?_)))))
   refine a5 3 rfl (by kernel_rfl) rfl rfl rfl (fun _ _=>az (.slice s n cp) rfl) hS17 (a5 4 rfl (by kernel_rfl) rfl rfl rfl (fun _ _=>az (U c) rfl) hS17 (a5 5 rfl (by kernel_rfl) rfl rfl rfl (fun _ _=>bQ ((c - 1:Nat):Int) rfl rfl (aO (by omega) (by omega))) hS17 (a5 6 rfl (by kernel_rfl) rfl rfl rfl (fun _ _=>aK a4 rfl rfl (by omega) (ao.ok ((aG Y).2) (a9 (by omega)))) hS17 (a5 7 rfl (by kernel_rfl) rfl rfl rfl (fun w' aU=>ld bg rfl (bB (i:=c - 1) ((aG Y).2.wk aU) (by omega))) hS17 (a5 8 rfl (by kernel_rfl) rfl rfl rfl (fun _ _=>az (.slice s n cp) rfl) hS17 (a5 9 rfl (by kernel_rfl) rfl rfl rfl (fun _ _=>az (U E) rfl) hS17 (a5 10 rfl (by kernel_rfl) rfl rfl rfl (fun _ _=>aK a4 rfl rfl (by omega) (ao.ok ((aG Y).2) (a9 (by omega)))) hS17 ?_)))))))
   refine a5 11 rfl (by kernel_rfl) rfl rfl rfl (fun w' aU=>ld bg rfl (bB (i:=E) ((aG Y).2.wk aU) (by omega))) hS17 (jc 12 rfl (by kernel_rfl) rfl rfl rfl (cl gr (gz d3[c - 1]! d3[E]! _) rfl fun dh w85 b6=> ?_))
   obtain ⟨rfl,bK⟩:=b6
   have ad:(fun w'=>Wk ah w') w85:=Md.trans hS17 bK
   refine ⟨ad,?_⟩
   refine a5 13 rfl (by kernel_rfl) rfl rfl rfl (fun _ _=>no rfl) ad (aM 14 rfl (fun _ _=>bz rfl) ad (hn (by kernel_rfl) (tn (G _ _ (cb rfl (fun bq=> ?_) (fun bq=> ?_))))))
   refine ae (fun _ ac=>(ag (.slice s n cp) (ag (U c) (ag (U j) (ag (U E) (e (cl yP (EG d3 c j E B n cp s _ (aJ Y ad) (by omega) (by omega)) rfl fun di dq b7=> ?_)))))))
   obtain ⟨I,d4,a3,rfl,bW,bP⟩:=b7
   obtain ⟨bf,cm,cn,aY,aZ⟩:=Go.Sort.round_eq mF (Go.Sort.partitionEqual_holds a6) (show 0 < c by omega) aC.1 aC.2 (by omega) (Go.Sort.Below.perm aL (by omega) ay) (by simpa using bq) a3
   refine aj (((ac _ _ (ae (fun _ am=>(p mv (p au (nl ?_))))))))
   exact tn (am _ _ (ext (te _ (be (tn (⟨_,by omega,I,j,C,J,wp,d4,(by omega),aY,((fun R h1 h2=>by obtain ⟨h3,h4⟩:=aZ R h1 h2; exact al R (Go.Sort.permIn_trans _ _ _ c j ay h3) h4)),bW,(Md.trans aN (Md.trans (ad.mono (fun _ _ h=>h.elim)) bP)),rfl,rfl,rfl,rfl,rfl,rfl,rfl⟩))))))
   exact aE (tn (⟨(aJ Y ad),(Md.trans aN (ad.mono (fun _ _ h=>h.elim))),rfl,rfl,rfl,rfl,rfl,rfl,rfl,rfl⟩))
   refine aX 3 rfl (by kernel_rfl) rfl rfl rfl rfl hS17 ?_
   refine aX 4 rfl (by kernel_rfl) rfl rfl rfl rfl hS17 ?_
   refine aX 5 rfl (by kernel_rfl) rfl rfl rfl rfl hS17 ?_
   refine aX 6 rfl (by kernel_rfl) rfl rfl rfl rfl hS17 ?_
   refine aX 7 rfl (by kernel_rfl) rfl rfl rfl rfl hS17 ?_
   refine aX 8 rfl (by kernel_rfl) rfl rfl rfl rfl hS17 ?_
   refine aX 9 rfl (by kernel_rfl) rfl rfl rfl rfl hS17 ?_
   refine aX 10 rfl (by kernel_rfl) rfl rfl rfl rfl hS17 ?_
   refine aX 11 rfl (by kernel_rfl) rfl rfl rfl rfl hS17 ?_
   refine aX 12 rfl (by kernel_rfl) rfl rfl rfl rfl hS17 ?_
   refine aX 13 rfl (by kernel_rfl) rfl rfl rfl rfl hS17 ?_
   exact aM 14 rfl (fun _ _=>bc rfl) hS17 (hn (by kernel_rfl) (tn (G _ _ (cf rfl (aE (tn (⟨(aJ Y (Md.refl _ _).drew),aN.drew,rfl,rfl,rfl,rfl,rfl,rfl,rfl,rfl⟩)))))))
   rintro V ba ⟨bo,bk,cY,cZ,c2,c3,c4,c5,c0,c1⟩
   refine fx 0 cY (fx 1 cZ (fx 2 c2 (fx 3 c3 (fx 8 c4 (fx 9 c5 (fx 10 c0 (fx 11 c1 (ae (fun _ G=>(ag (.slice s n cp) (ag (U c) (ag (U j) (ag (U E) (e (cl yQ (EE d3 c j E B n cp s _ bo (by omega) (by omega)) rfl fun dj bw b8=> ?_)))))))))))))))
   obtain ⟨I,ap,d4,a3,rfl,aR,bj⟩:=b8
   have hd3n:=c9 bo
   have hd4n:=c9 aR
   obtain ⟨bf,cm,cn,aY,aZ,co,cq⟩:=Go.Sort.round_part mF (Go.Sort.partition_holds a6) aC.1 aC.2 (by omega) (Go.Sort.Below.perm aL (by omega) ay) a3
   refine p mv (p (xt rfl rfl) (p (xt rfl rfl) (p au (aj (((G _ _ (sq (fun _ ac=> ?_)))))))))
   refine rg rfl (p mv (aj (((ac _ _ (ae (fun _ am=>(p mv ?_))))))))
   refine ag (U c) (p (bQ ((I - c:Nat):Int) rfl rfl (aO (by omega) (by omega))) (ag (U j) (p mv (p (bQ ((j - I:Nat):Int) rfl rfl (aO (by omega) (by omega))) (p au (p au (nl ?_)))))))
   refine tn (am _ _ (ae (fun _ bA=>(ag (U (j - c)) (p (kg (((j - c) / 8:Nat):Int) rfl rfl (by omega) (aO (by omega) (by omega))) (aj (((bA _ _ ?_)))))))))
   refine ae (fun _ bC=>(p mv (p mv (p (lt rfl rfl) (ak ((bC _ _ (cd rfl (fun b9=> ?_) (fun b9=> ?_)))))))))
   refine ae (fun _ aF=>(p mv (p mv (p (ge rfl rfl) (aj (((aF _ _ ?_))))))))
   refine ae (fun _ aH=>(ag (.slice s n cp) (ag (U c) (p mv (ag (U C) (e (cl pj (ih d4 c I C bw aR (by omega) (by omega) (by omega) aY) rfl fun c8 dk bY=> ?_)))))))
   obtain ⟨aq,rfl,a0,a1,aS,aP⟩:=bY
   obtain ⟨aV,aW⟩:=co aq a0 a1
   refine ak ((aH _ _ (rg rfl (p mv (p (bd ((I+1:Nat):Int) rfl rfl (aO (by omega) (by omega))) (p au (nl (bn ?_))))))))
   exact tn (⟨_,by omega,I+1,j,C,decide (((I - c:Nat):Int)≥(((j - c) / 8:Nat):Int)),ap,aq,(by omega),aV,((fun R h1 h2=>by obtain ⟨h3,h4⟩:=aW R h1 h2; exact al R (Go.Sort.permIn_trans _ _ _ c j ay h3) h4)),aS,(Md.trans bk (Md.trans bj aP)),rfl,rfl,rfl,rfl,rfl,rfl,rfl⟩)
   refine ae (fun _ aF=>(p mv (p mv (p (ge rfl rfl) (aj (((aF _ _ ?_))))))))
   refine ae (fun _ aH=>(ag (.slice s n cp) (p mv (p (bd ((I+1:Nat):Int) rfl rfl (aO (by omega) (by omega))) (ag (U j) (ag (U C) (e (cl pj (ih d4 (I+1) j C bw aR (by omega) (by omega) (by omega) aZ) rfl fun da dl bZ=> ?_))))))))
   obtain ⟨aq,rfl,a0,a1,aS,aP⟩:=bZ
   obtain ⟨aV,aW⟩:=cq aq a0 a1
   refine ak ((aH _ _ (rg rfl (p mv (p au (nl (bn (tn ?_))))))))
   exact ⟨_,by omega,c,I,C,decide (((j - I:Nat):Int)≥(((j - c) / 8:Nat):Int)),ap,aq,(by omega),aV,((fun R h1 h2=>by obtain ⟨h3,h4⟩:=aW R h1 h2; exact al R (Go.Sort.permIn_trans _ _ _ c j ay h3) h4)),aS,(Md.trans bk (Md.trans bj aP)),rfl,rfl,rfl,rfl,rfl,rfl,rfl⟩
theorem F5 (d:Array Nat) (B n cp:Nat) (a:Option Addr) (w:World) (j:w.ownsRow B 71 1 (.slice a n cp) n (LE aB d)) (s:n≤255):
 aT Tryz.prog 122 (List.toArray [.slice a n cp]) w (fun v w'=> ∃ d1,v= .tuple #[]∧Go.Sort.PermIn 0 n d d1∧Go.Sort.SortedIn a6 0 n d1∧w'.ownsRow B 71 1 (.slice a n cp) n (LE aB d1)∧Md (fun q=>(Value.slice a n cp).ownBlock=some q) w w'):=by
 refine enter Tryz.func122 rfl Tryz.ntmps122 rfl ?_
 refine ae (fun _ i=>(ag (.slice a n cp) (p (bp gW rfl rfl) (aj (((i _ _ (rg rfl ?_))))))))
 refine ag (.slice a n cp) (p mv (p mv (p (iZ wH lW rfl (jr (by omega))) (e (cl sj (uJ n _ (by omega)) rfl fun v9 w9 hR9=> ?_)))))
 obtain ⟨rfl,c⟩:=hR9
 have hll:=n2 (n:=n) (by omega)
 refine e (cl pj (EH (n+1) d 0 n (fM n) B n cp a _ (aJ j c) (by omega) (by omega) s (by omega) (.inl rfl)) rfl fun v10 w10 hR10=> ?_)
 obtain ⟨d1,rfl,h1,h2,h3,h4⟩:=hR10
 refine nl (f0 rfl ?_)
 exact ⟨d1,rfl,h1,h2,h3,Md.trans (c.mono (fun _ _ h=>h.elim)) h4⟩
end Go.Hb.oX
end
section
set_option maxRecDepth 20000
set_option maxHeartbeats 1000000
namespace Go.Hb.fJ
open Go.Hb.cU
open Go.Proofs
open Go.Hb.gZ Go.Hb.fX Go.Hb.kv Go.Hb.m9 Go.Hb.oX
theorem lS {w:World} {B e n cp i:Nat} {a:Option Addr} {d:Array Nat} (h:w.ownsRow B e 1 (.slice a n cp) n (LE aB d)):ao w.heap (dm a cp i 1) ((LE aB d).drop i):=by
 have :=(aG h).2.drop (cap:=cp) (k:=i) (size:=1) (by rw [mE]; have h1:=c9 h; have h2:=(aG h).1; omega)
 rwa [Nat.mul_one] at this
theorem DR (l:List Nat):l.map aB=LE aB l.toArray:=by simp [LE]
theorem nm (l:List Nat):(l.map aB).all Value.oneCell'=true :=by
 rw [List.all_eq_true]; intro v hv; obtain ⟨x,_,rfl⟩:=List.mem_map.1 hv; rfl
theorem Gt (d:Array Nat) (k:Nat):(LE aB d).take k=(d.toList.take k).map aB:=by simp [LE,List.map_take]
theorem mS (b:UInt8):eJ b=decide ((b.toNat:Int) > 32∧(b.toNat:Int) < 127∧(b.toNat:Int)≠47∧(b.toNat:Int)≠44∧(b.toNat:Int)≠35):=by
 unfold eJ; exact decide_eq_decide.2 (by omega)
theorem Ez {w:World} {B e size n cp:Nat} {a:Option Addr} {xs:List Value} (h:w.ownsRow B e size (.slice a n cp) n xs) (hn:0 < n):a≠none:=by
 rintro rfl
 rcases h.2 with ⟨_,h5⟩ | ⟨g,cap,cur,h4,_⟩
 · omega
 · simp at h4
theorem nB (a:Option Addr) (n c:Nat) (xs:List Value) (w:World) (hC:ao w.heap a xs) (hxl:xs.length=n*1) (ha:a=none→n=0) (h1:xs.all Value.oneCell'=true) (hn:n≤1048576):
 aT Tryz.prog 49 (List.toArray [.slice a n c]) w (fun v w'=>World.ownsRow w' w.heap.size 71 1 v n xs∧Wk w w'):=by
 refine enter Tryz.func49 rfl Tryz.ntmps49 rfl ?_
 refine ae (fun _ s=>(aj (((s _ _ (sq (fun _ A=>ae (fun _ C=> ?_))))))))
 refine ag (.slice a n c) (p (lx gW rfl rfl) (ak ((C _ _ (cb rfl (fun q=> ?_) (fun q=> ?_))))))
 have I:a=none:=by simpa using q
 refine ae (fun _ i=>(aj (((i _ _ (rt (tr (f1 rfl rfl ?_))))))))
 have hn0:=ha I
 subst hn0
 obtain rfl :=List.eq_nil_of_length_eq_zero (show xs.length=0 by omega)
 exact ⟨World.ownsRow_nil _ _ _ _,Md.refl _ _⟩
 refine aE (tn (A _ _ (ae (fun _ i=>(e (j7 oB fun O w5 hb5 j E=> ?_))))))
 have ho5:=E w.heap.size (by omega)
 refine ag (.slice a n c) (e (ap oB (ho5) rfl (by have :=j.size; omega) rfl (hC.wk j.md) (hxl) (h1) (by omega) (by omega) fun M w7 J G hz7 U=> ?_))
 have hE7:=Wk.own j.md ho5 G (Nat.le_refl _)
 refine aj (((i _ _ (rt (f1 rfl rfl ?_)))))
 have hz:World.ownsRow w7 w.heap.size 71 1 M n xs:=by simpa using J
 exact ⟨hz,hE7⟩
theorem Aa (d:Array Nat) (B n cp:Nat) (a:Option Addr) (w:World) (C:w.ownsRow B 71 1 (.slice a n cp) n (LE aB d)) (a5:n≤1048576):
 aT Tryz.prog 123 (List.toArray [.slice a n cp]) w (fun v w'=> ∃ k,v= .slice a k cp∧k=(dT d.toList).length∧World.ownsRow w' B 71 1 (.slice a k cp) k ((dT d.toList).map aB)∧Md (fun q=>(Value.slice a n cp).ownBlock=some q) w w'):=by
 have hdn:=c9 C
 have hcp:=(aG C).1
 refine enter Tryz.func123 rfl Tryz.ntmps123 rfl ?_
 refine ae (fun _ an=>(aj (((an _ _ (sq (fun _ az=>ae (fun _ aC=> ?_))))))))
 refine ag (.slice a n cp) (p (bp gW rfl rfl) (p (lt rfl rfl) (ak ((aC _ _ (cd rfl (fun hc8=> ?_) (fun hc8=> ?_)))))))
 refine ae (fun _ ah=>(ag (.slice a n cp) (p (bD (.slice a n cp) rfl) (ak ((ah _ _ (rt (tr ?_))))))))
 refine f1 rfl rfl ?_
 have hz:dT d.toList=d.toList:=by
  have hlt:d.toList.length < 2:=by rw [lT]; omega
  revert hlt
  generalize d.toList=l
  intro hlt
  match l,hlt with
  | [],_=>rfl
  | [x],_=>rfl
 exact ⟨n,rfl,by rw [hz,lT]; omega,by rw [hz]; exact C,Md.refl _ _⟩
 refine aE (tn (az _ _ (sq (fun _ ah=>ae (fun _ aD=>(aj (((aD _ _ ?_)))))))))
 refine aw (lp (fun O am Z=> ∃ (i:Nat),(1≤i∧i≤n∧2≤n)∧(dT (d.toList.take i)=d.toList.take i)∧(Wk w Z)∧(am 0= .slice a n cp)∧(am 3=U i)∧(n - i=O)) _ ⟨1,(by omega),((by have h1:=oI (d:=d) (i:=0) (by omega); rw [h1]; rfl)),(Md.refl _ _),rfl,rfl,rfl⟩ ?_)
 rintro O am Z ⟨i,hi,V,G,aY,aZ,rfl⟩
 refine fx 0 aY (fx 3 aZ (sq (fun _ aF=>ae (fun _ aH=>(ag (U i) (ag (.slice a n cp) (p (bp gW rfl rfl) (p (lt rfl rfl) ?_))))))))
 refine ak ((aH _ _ (cd rfl (fun aP=> ?_) (fun aP=> ?_))))
 refine aE (tn (aF _ _ (sq (fun _ ai=>aw (sq (fun _ aI=> ?_))))))
 have s:(fun w'=>Wk Z w') Z.drew:=(Md.refl _ _).drew
 refine bI (fun w'=>Wk Z w') rfl wide s (bf 0 rfl (.slice a n cp) s (bf 1 rfl (U i) s (aM 2 rfl (fun _ _=>aK a4 rfl rfl (by omega) (ao.ok ((aG C).2) (a9 (by omega)))) s (aM 3 rfl (fun w' I=>ld bg rfl (Wk.aA I (bB (i:=i) (aG (aJ C G)).2 (by omega)))) s (bf 4 rfl (.slice a n cp) s (bf 5 rfl (U i) s (aM 6 rfl (fun _ _=>bQ ((i - 1:Nat):Int) rfl rfl (aO (by omega) (by omega))) s ?_)))))))
 refine aM 7 rfl (fun _ _=>aK a4 rfl rfl (by omega) (ao.ok ((aG C).2) (a9 (by omega)))) s (aM 8 rfl (fun w' I=>ld bg rfl (Wk.aA I (bB (i:=i - 1) (aG (aJ C G)).2 (by omega)))) s (aM 9 rfl (fun _ _=>bu rfl rfl) s (hn (by kernel_rfl) (tn (aI _ _ (cd rfl (fun aQ=> ?_) (fun aQ=> ?_)))))))
 have heq:d[i - 1]! =d[i]! :=by omega
 refine ae (fun _ ap=>(ag (.slice a n cp) (ag (U i) (p (kj a4 rfl rfl (by omega)) (aj (((ap _ _ ?_))))))))
 refine sq (fun _ aq=>ae (fun _ ar=>(aj (((ar _ _ (aw (lp (fun O aa M=> ∃ (k i2:Nat) (A:Array Nat),(1≤k∧k < i+i2∧1≤i2∧i2≤n - i)∧(A.toList.drop k=d.toList.drop k)∧(A.toList.take k=dT (d.toList.take (i+i2)))∧(M.ownsRow B 71 1 (.slice a n cp) n (LE aB A))∧(Md (fun q=>(Value.slice a n cp).ownBlock=some q) w M)∧(aa 0= .slice a n cp)∧(aa 3=U k)∧(aa 4= .slice (dm a cp i 1) (n - i) (cp - i))∧(aa 5=U i2)∧(n - i2=O)) _ ⟨i,1,d,(by omega),rfl,((by rw [nI (by omega) (by omega),if_pos heq,V])),(aJ C (Md.trans G (Md.refl _ _).drew)),((Md.trans G (Md.refl _ _).drew).mono (fun _ _ h=>h.elim)),rfl,rfl,rfl,rfl,rfl⟩ ?_))))))))
 rintro O aa M ⟨k,i2,A,hk,J,Y,E,al,a0,a1,a2,a3,rfl⟩
 refine fx 0 a0 (fx 3 a1 (fx 4 a2 (fx 5 a3 ?_)))
 have hdcn:=c9 E
 refine sq (fun _ av=>ae (fun _ ax=>(ag (U i2) (ag (.slice (dm a cp i 1) (n - i) (cp - i)) (p (bp gW rfl rfl) (p (lt rfl rfl) (nl ?_)))))))
 refine tn (ax _ _ (cd rfl (fun aR=> ?_) (fun aR=> ?_)))
 refine aE (tn (av _ _ (sq (fun _ ab=>aw (sq (fun _ ac=> ?_))))))
 have c:(fun w'=>Wk M w') M.drew:=(Md.refl _ _).drew
 refine bI (fun w'=>Wk M w') rfl wide c (bf 0 rfl (.slice (dm a cp i 1) (n - i) (cp - i)) c (bf 1 rfl (U i2) c (aM 2 rfl (fun _ _=>aK a4 rfl rfl (by omega) (ao.ok (lS E) (qv (by omega)))) c (aM 3 rfl (fun w' I=>ld bg rfl (Wk.aA I (qu (j:=i2) (lS E) (by omega)))) c (bf 4 rfl (.slice (dm a cp i 1) (n - i) (cp - i)) c (bf 5 rfl (U i2) c (aM 6 rfl (fun _ _=>bQ ((i2 - 1:Nat):Int) rfl rfl (aO (by omega) (by omega))) c ?_)))))))
 refine aM 7 rfl (fun _ _=>aK a4 rfl rfl (by omega) (ao.ok (lS E) (qv (by omega)))) c (aM 8 rfl (fun w' I=>ld bg rfl (Wk.aA I (qu (j:=i2 - 1) (lS E) (by omega)))) c (aM 9 rfl (fun _ _=>dt rfl rfl) c (hn (by kernel_rfl) (tn (ac _ _ (cd rfl (fun aS=> ?_) (fun aS=> ?_)))))))
 have hO2x:=aJ E c
 have g1:=nM J (show k≤i+i2 by omega)
 have g2:=nM J (show k≤i+(i2 - 1) by omega)
 have aV:¬d[i+i2 - 1]! =d[i+i2]! :=by rw [show i+i2 - 1=i+(i2 - 1) by omega,← g1,← g2]; omega
 refine ae (fun _ ay=>(ag (.slice a n cp) (ag (U k) (ag (.slice (dm a cp i 1) (n - i) (cp - i)) (ag (U i2) (p (aK a4 rfl rfl (by omega) (ao.ok (lS hO2x) (qv (by omega)))) (p (ld bg rfl (qu (j:=i2) (lS hO2x) (by omega))) ?_)))))))
 refine p (aK a4 rfl rfl (by omega) (ao.ok ((aG hO2x).2) (a9 (by omega)))) (e (dA (u:=A[i+i2]!) (k) hO2x dq rfl rfl rfl (by omega) fun w12 aL ho12=>ak ((ay _ _ (rg rfl (ag (U k) (p (bd ((k+1:Nat):Int) rfl rfl (aO (by omega) (by omega))) (p au ?_))))))))
 refine nl (bn (tn (ab _ _ (rg rfl (ag (U i2) (p (bd ((i2+1:Nat):Int) rfl rfl (aO (by omega) (by omega))) (p au (nl ?_))))))))
 exact tn (⟨_,by omega,k+1,i2+1,A.setIfInBounds k A[i+i2]!,(by omega),((by rw [set_drop (by omega)]; have h3:=congrArg (List.drop 1) J; rwa [List.drop_drop,List.drop_drop] at h3)),((by rw [qY (by omega),Y,show i+(i2+1)=i+i2+1 from rfl,nI (by omega) (by omega),if_neg aV,g1])),ho12,(Md.trans al (Md.trans (c.mono (fun _ _ h=>h.elim)) aL)),rfl,rfl,rfl,rfl,rfl⟩)
 have g1:=nM J (show k≤i+i2 by omega)
 have g2:=nM J (show k≤i+(i2 - 1) by omega)
 have aU:d[i+i2 - 1]! =d[i+i2]! :=by rw [show i+i2 - 1=i+(i2 - 1) by omega,← g1,← g2]; omega
 refine aE (bn (tn (ab _ _ (rg rfl (ag (U i2) (p (bd ((i2+1:Nat):Int) rfl rfl (aO (by omega) (by omega))) (p au (nl ?_))))))))
 exact tn (⟨_,by omega,k,i2+1,A,(by omega),J,((by rw [Y,show i+(i2+1)=i+i2+1 from rfl,nI (by omega) (by omega),if_pos aU])),(aJ E (Md.refl _ _).drew),al.drew,rfl,rfl,rfl,rfl,rfl⟩)
 refine ext (te _ (te _ (be (tn (aq _ _ (ae (fun _ ab=>(ag (.slice a n cp) ?_))))))))
 refine ag (U k) (p (kj a4 rfl rfl (by omega)) (e (zX (k:=k) gW Hn rfl E rfl rfl (by omega) fun w14 aN aX=>ak ((ab _ _ (ae (fun _ ac=>(ag (.slice a n cp) ?_))))))))
 refine ag (U k) (p (ki a4 rfl rfl (by omega)) (aj (((ac _ _ (rt (br (tr ?_))))))))
 refine tr (br (tr (f1 rfl rfl ?_)))
 have hz:d.toList.take (i+i2)=d.toList:=List.take_of_length_le (by rw [lT]; omega)
 rw [hz] at Y
 have hkl:k=(dT d.toList).length:=by rw [← Y,List.length_take,lT]; omega
 refine ⟨k,rfl,hkl,?_,Md.trans al aN⟩
 have hT:=vt aX (show k≤n by omega) (Ez C (by omega))
 rw [Nat.mul_one,List.take_append,List.take_of_length_le (l:=(LE aB A).take k) (by rw [List.length_take]; omega),List.length_take,mE,show k - min k A.size=0 by omega,List.take_zero,List.append_nil,Gt,Y] at hT
 exact hT
 have aW:¬d[i - 1]! =d[i]! :=by omega
 refine aE (bn (tn (ai _ _ (rg rfl (ag (U i) (p (ad rfl rfl (bC (by omega))) (p au (nl ?_))))))))
 exact tn (⟨_,by omega,i+1,(by omega),((by rw [nI (by omega) (by omega),if_neg aW,V,oI (by omega)])),(Md.trans G (Md.refl _ _).drew),rfl,rfl,rfl⟩)
 refine ext (te _ (te _ (be (tn (ah _ _ (ae (fun _ ai=>(ag (.slice a n cp) ?_))))))))
 refine p (bD (.slice a n cp) rfl) (ak ((ai _ _ (rt (f1 rfl rfl ?_)))))
 rw [show d.toList.take i=d.toList from List.take_of_length_le (by rw [lT]; omega)] at V
 exact ⟨n,rfl,by rw [V,lT]; omega,by rw [V]; exact aJ C G,G.mono (fun _ _ h=>h.elim)⟩
theorem vk (l:List Nat) (a:Option Addr) (c:Nat) (w:World) (hC:ao w.heap a (l.map aB)) (ha:a=none→l.length=0) (hl:l.length≤255):
 aT Tryz.prog 104 (List.toArray [.slice a l.length c]) w (fun v w'=>World.ownsRow w' w.heap.size 71 1 v (gi l).length ((gi l).map aB)∧Wk w w'):=by
 refine enter Tryz.func104 rfl Tryz.ntmps104 rfl ?_
 refine ae (fun _ s=>(aj (((s _ _ (ae (fun _ A=>(ag (.slice a l.length c) ?_))))))))
 refine e (cl ny (nB a l.length c (l.map aB) _ hC (by simp) ha (nm l) (by omega)) rfl fun O w5 hR5=> ?_)
 obtain ⟨ho5,hE5⟩:=hR5
 obtain ⟨i,j,rfl⟩:=cH ho5
 rw [DR] at ho5
 refine aj (((A _ _ (ae (fun _ C=>(ag (.slice i l.length j) (e (cl yx (F5 l.toArray w.heap.size l.length j i _ ho5 hl) rfl fun U w7 hR7=> ?_))))))))
 obtain ⟨d1,rfl,J,M,p,I⟩:=hR7
 refine ak ((C _ _ (ae (fun _ E=>(ag (.slice i l.length j) (e (cl yy (Aa d1 w.heap.size l.length j i _ p (by omega)) rfl fun v9 w9 hR9=> ?_)))))))
 obtain ⟨k,rfl,hk,q,hM9⟩:=hR9
 have G:Wk w w9:=Wk.own (Wk.own hE5 ho5 I (Nat.le_refl _)) p hM9 (Nat.le_refl _)
 refine aj (((E _ _ (rt (f1 rfl rfl ?_)))))
 rw [F4 J M] at hk q
 exact ⟨by rw [← hk]; exact q,G⟩
theorem qZ (b:UInt8) (w:World):
 aT Tryz.prog 133 (List.toArray [.int .u8 b.toNat]) w (fun v w'=>v= .bool (eJ b)∧Wk w w'):=by
 refine enter Tryz.func133 rfl Tryz.ntmps133 rfl ?_
 refine ae (fun _ c=>(aj (((c _ _ (ae (fun _ a=>(ag (.int .u8 b.toNat) ?_))))))))
 refine p (gt rfl rfl) (p mv (gs (t:=5) rfl (fun hg5=> ?_) (fun hg5=> ?_)))
 refine pg rfl rfl rfl (az (.int .u8 b.toNat) rfl) (pg rfl rfl rfl (lt rfl rfl) (p (bz rfl) (p mv (gs (t:=9) rfl (fun hg9=> ?_) (fun hg9=> ?_)))))
 refine pg rfl rfl rfl (az (.int .u8 b.toNat) rfl) (pg rfl rfl rfl (dt rfl rfl) (p (bz rfl) (p mv (gs (t:=13) rfl (fun hg13=> ?_) (fun hg13=> ?_)))))
 refine pg rfl rfl rfl (az (.int .u8 b.toNat) rfl) (pg rfl rfl rfl (dt rfl rfl) (p (bz rfl) (p mv (gs (t:=17) rfl (fun i=> ?_) (fun i=> ?_)))))
 refine pg rfl rfl rfl (az (.int .u8 b.toNat) rfl) (pg rfl rfl rfl (dt rfl rfl) (p (bz rfl) (aj (((a _ _ (rt (f1 rfl rfl ?_))))))))
 exact ⟨by show Value.bool (decide _)=_; rw [mS]; exact bv (by constructor <;> intro h <;> first | exact ⟨by omega,by omega,by omega,by omega,h⟩ | exact h.2.2.2.2),Md.refl _ _⟩
 refine sk rfl rfl rfl rfl (sk rfl rfl rfl rfl (p (bc rfl) (aj (((a _ _ (rt (f1 rfl rfl ?_))))))))
 exact ⟨by show Value.bool false =_; rw [mS,decide_eq_false (by omega)],Md.refl _ _⟩
 refine sk rfl rfl rfl rfl (sk rfl rfl rfl rfl (p (bc rfl) (p mv (sk rfl rfl rfl rfl (sk rfl rfl rfl rfl (p (bc rfl) (p au ?_)))))))
 exact ak ((a _ _ (rt (f1 rfl rfl (⟨by show Value.bool false =_; rw [mS,decide_eq_false (by omega)],Md.refl _ _⟩)))))
 refine sk rfl rfl rfl rfl (sk rfl rfl rfl rfl (p (bc rfl) (p mv (sk rfl rfl rfl rfl (sk rfl rfl rfl rfl (p (bc rfl) (p mv ?_)))))))
 refine sk rfl rfl rfl rfl (sk rfl rfl rfl rfl (p (bc rfl) (aj (((a _ _ (rt (f1 rfl rfl ?_))))))))
 exact ⟨by show Value.bool false =_; rw [mS,decide_eq_false (by omega)],Md.refl _ _⟩
 refine sk rfl rfl rfl rfl (sk rfl rfl rfl rfl (p (bc rfl) (p mv (sk rfl rfl rfl rfl (sk rfl rfl rfl rfl (p (bc rfl) (p mv ?_)))))))
 refine sk rfl rfl rfl rfl (sk rfl rfl rfl rfl (p (bc rfl) (p mv (sk rfl rfl rfl rfl (sk rfl rfl rfl rfl (p (bc rfl) (p au ?_)))))))
 exact ak ((a _ _ (rt (f1 rfl rfl (⟨by show Value.bool false =_; rw [mS,decide_eq_false (by omega)],Md.refl _ _⟩)))))
theorem uD (k:Nat) (w:World):
 aT Tryz.prog 117 (List.toArray [U k]) w (fun v w'=>v= .bool (decide (1≤k∧k≤3))∧Wk w w'):=by
 refine enter Tryz.func117 rfl Tryz.ntmps117 rfl ?_
 refine ae (fun _ c=>(aj (((c _ _ (ae (fun _ a=>(ag (U k) ?_))))))))
 refine p (ge rfl rfl) (p mv (gs (t:=5) rfl (fun hg5=> ?_) (fun hg5=> ?_)))
 refine pg rfl rfl rfl (az (U k) rfl) (pg rfl rfl rfl (le rfl rfl) (p (bz rfl) (aj (((a _ _ (rt (f1 rfl rfl ?_))))))))
 exact ⟨by show Value.bool (decide _)=_; exact bv (by omega),Md.refl _ _⟩
 refine sk rfl rfl rfl rfl (sk rfl rfl rfl rfl (p (bc rfl) (aj (((a _ _ (rt (f1 rfl rfl ?_))))))))
 exact ⟨by show Value.bool false =_; rw [decide_eq_false (by omega)],Md.refl _ _⟩
end Go.Hb.fJ
end
section
set_option maxRecDepth 20000
set_option maxHeartbeats 1000000
namespace Go.Hb.kt
open Go.Hb.cU
open Go.Proofs
open Go.Hb.gZ Go.Hb.fX Go.Hb.kv Go.Hb.m9 Go.Hb.oX Go.Hb.fJ
theorem BT {kind:Nat} {s:List UInt8} (h:kind=1∧s.length=1∧eJ (s.getD 0 0)=true):c8 kind s=(s.getD 0 0).toNat:=by unfold c8; rw [if_pos h.1,if_pos h.2]
theorem BU {kind:Nat} {s:List UInt8} (h:kind=2∧s.length=2∧eJ (s.getD 0 0)=true∧eJ (s.getD 1 0)=true):c8 kind s=256 *(s.getD 0 0).toNat+(s.getD 1 0).toNat:=by unfold c8; rw [if_neg (by omega),if_pos h.1,if_pos h.2]
theorem BV {kind:Nat} {s:List UInt8} (h:kind=3):c8 kind s=(dy s 65535).1:=by unfold c8; rw [if_neg (by omega),if_neg (by omega)]
theorem BS {kind:Nat} {s:List UInt8} (h:kind=1∨kind=2) (h1:¬(kind=1∧s.length=1∧eJ (s.getD 0 0)=true)) (h2:¬(kind=2∧s.length=2∧eJ (s.getD 0 0)=true∧eJ (s.getD 1 0)=true)):c8 kind s=0:=by
 unfold c8
 rcases h with h | h
 · rw [if_pos h,if_neg (fun h3=>h1 ⟨h,h3⟩)]
 · rw [if_neg (by omega),if_pos h,if_neg (fun h3=>h2 ⟨h,h3⟩)]
theorem C8 {c:UInt8} {l:List UInt8} (h:0 < l.count c):¬cO c l < 0:=by
 intro h1
 exact uz h1 (List.idxOf_lt_length_iff.2 (List.count_pos_iff.1 h))
theorem Fo (n:Nat) (x:List UInt8):List.replicate n (str x)=(List.replicate n x).map str:=by rw [List.map_replicate]
theorem vT {dn:List (List UInt8)} {m:Nat} {x:List UInt8} (h:0 < m):((dn++List.replicate m []).map str).set dn.length (str x)=((dn++ [x])++List.replicate (m - 1) []).map str:=by
 obtain ⟨m,rfl⟩:∃ k,m=k+1:=⟨m - 1,by omega⟩
 rw [← List.map_set,List.set_append_right _ _ (Nat.le_refl _),Nat.sub_self,List.replicate_succ,List.set_cons_zero,Nat.add_sub_cancel,List.append_assoc]; rfl
theorem BB {kind:Nat} {ps:List (List UInt8)} {i:Nat} (h:i < ps.length) (h1:¬∃ x∈ps.take i,c8 kind x=0) (h2:c8 kind (ps.getD i [])≠0):¬∃ x∈ps.take (i+1),c8 kind x=0:=by
 rw [im ps i [] h]
 rintro ⟨x,a,h3⟩
 rcases List.mem_append.1 a with a | a
 · exact h1 ⟨x,a,h3⟩
 · rw [List.mem_singleton] at a; subst a; exact h2 h3
theorem ue {α:Type} {l:List α} {i:Nat} {d:α} (h:i < l.length):l.getD i d∈l:=by
 rw [List.getD_eq_getElem?_getD,List.getElem?_eq_getElem h]; exact List.getElem_mem h
theorem tG (kind:Nat) (s:List UInt8) (w:World) (hk:kind=1∨kind=2∨kind=3) (hs:s.length≤1048576):
 aT Tryz.prog 119 (List.toArray [U kind,str s]) w (fun v w'=>v=aB (c8 kind s)∧Wk w w'):=by
 refine enter Tryz.func119 rfl Tryz.ntmps119 rfl ?_
 refine ae (fun _ aa=>(aj (((aa _ _ (sq (fun _ ab=>aw ?_)))))))
 refine cQ (fun A Z=> ∃ (G:Bool),(G=decide (kind=1∧s.length=1∧eJ (s.getD 0 0)=true))∧(Wk w Z)∧(A 0=U kind)∧(A 1=str s)∧(A 7= .bool G)) ?_ ?_
 refine rg rfl (ag (U kind) (p (bu rfl rfl) (p mv (gs (t:=10) rfl (fun hg10=> ?_) (fun hg10=> ?_)))))
 refine pg rfl rfl rfl (az (str s) rfl) (pg rfl rfl rfl (bY u9 rfl rfl) (pg rfl rfl rfl (bu rfl rfl) (p (bz rfl) (p mv (gs (t:=15) rfl (fun ao=> ?_) (fun ao=> ?_))))))
 refine pg rfl rfl rfl (az (str s) rfl) (pg rfl rfl rfl (gw 0 u9 rfl rfl (by omega)) (eg rfl rfl rfl (cl pf (qZ (s.getD 0 0) _) rfl fun aD w18 ai=> ?_)))
 obtain ⟨rfl,ad⟩:=ai
 exact p (bz rfl) (aj (((⟨eJ (s.getD 0 0),((by rw [Bool.eq_iff_iff,decide_eq_true_iff]; exact ⟨fun h=>⟨by omega,by omega,h⟩,fun h=>h.2.2⟩)),ad,rfl,rfl,rfl⟩))))
 exact sk rfl rfl rfl rfl (sk rfl rfl rfl rfl (sk rfl rfl rfl rfl (p (bc rfl) (aj (((⟨false,((decide_eq_false (fun h=>by omega)).symm),(Md.refl _ _),rfl,rfl,rfl⟩)))))))
 refine sk rfl rfl rfl rfl (sk rfl rfl rfl rfl (sk rfl rfl rfl rfl (p (bc rfl) (p mv (sk rfl rfl rfl rfl (sk rfl rfl rfl rfl (sk rfl rfl rfl rfl ?_)))))))
 exact p (bc rfl) (aj (((⟨false,((decide_eq_false (fun h=>by omega)).symm),(Md.refl _ _),rfl,rfl,rfl⟩))))
 rintro A Z ⟨G,Y,c,ar,av,ax⟩
 refine fx 0 ar (fx 1 av (fx 7 ax (cb rfl (fun J=> ?_) (fun J=> ?_))))
 have M:kind=1∧s.length=1∧eJ (s.getD 0 0)=true :=of_decide_eq_true (Y ▸ J)
 refine ae (fun _ i=>(ag (str s) (p (gw 0 u9 rfl rfl (by omega)) (p (iZ oJ mZ rfl (l1 (by have :=UInt8.toNat_lt (s.getD 0 0); omega))) (aj (((i _ _ ?_))))))))
 exact rt (br (tr (f1 rfl rfl (⟨by rw [BT M]; rfl,c⟩))))
 have M:¬(kind=1∧s.length=1∧eJ (s.getD 0 0)=true):=of_decide_eq_false (Y ▸ J)
 refine cQ (fun C j=> ∃ (I:Bool),(I=decide (kind=2∧s.length=2∧eJ (s.getD 0 0)=true∧eJ (s.getD 1 0)=true))∧(Wk w j)∧(C 0=U kind)∧(C 1=str s)∧(C 23= .bool I)) ?_ ?_
 refine rg rfl (ag (U kind) (p (bu rfl rfl) (p mv (gs (t:=26) rfl (fun ap=> ?_) (fun ap=> ?_)))))
 refine pg rfl rfl rfl (az (str s) rfl) (pg rfl rfl rfl (bY u9 rfl rfl) (pg rfl rfl rfl (bu rfl rfl) (p (bz rfl) (p mv (gs (t:=31) rfl (fun aq=> ?_) (fun aq=> ?_))))))
 refine pg rfl rfl rfl (az (str s) rfl) (pg rfl rfl rfl (gw 0 u9 rfl rfl (by omega)) (eg rfl rfl rfl (cl pf (qZ (s.getD 0 0) _) rfl fun aF aI ak=> ?_)))
 obtain ⟨rfl,V⟩:=ak
 refine p (bz rfl) (p mv (gb (t:=36) rfl (fun q=> ?_) (fun q=> ?_)))
 refine pg rfl rfl rfl (az (str s) rfl) (pg rfl rfl rfl (gw 1 u9 rfl rfl (by omega)) (eg rfl rfl rfl (cl pf (qZ (s.getD 1 0) _) rfl fun aG w39 al=> ?_)))
 obtain ⟨rfl,hE39⟩:=al
 exact p (bz rfl) (aj (((⟨eJ (s.getD 1 0),((by rw [Bool.eq_iff_iff,decide_eq_true_iff]; exact ⟨fun h=>⟨by omega,by omega,q,h⟩,fun h=>h.2.2.2⟩)),(Md.trans c (Md.trans V hE39)),rfl,rfl,rfl⟩))))
 exact sk rfl rfl rfl rfl (sk rfl rfl rfl rfl (sk rfl rfl rfl rfl (p (bc rfl) (aj (((⟨false,((decide_eq_false (fun h=>by rw [h.2.2.1] at q; cases q)).symm),(Md.trans c V),rfl,rfl,rfl⟩)))))))
 refine sk rfl rfl rfl rfl (sk rfl rfl rfl rfl (sk rfl rfl rfl rfl (p (bc rfl) (p mv (sk rfl rfl rfl rfl (sk rfl rfl rfl rfl (sk rfl rfl rfl rfl ?_)))))))
 exact p (bc rfl) (aj (((⟨false,((decide_eq_false (fun h=>by omega)).symm),c,rfl,rfl,rfl⟩))))
 refine sk rfl rfl rfl rfl (sk rfl rfl rfl rfl (sk rfl rfl rfl rfl (p (bc rfl) (p mv (sk rfl rfl rfl rfl (sk rfl rfl rfl rfl (sk rfl rfl rfl rfl ?_)))))))
 refine p (bc rfl) (p mv (sk rfl rfl rfl rfl (sk rfl rfl rfl rfl (sk rfl rfl rfl rfl (p (bc rfl) (p au (nl ?_)))))))
 exact tn (⟨false,((decide_eq_false (fun h=>by omega)).symm),c,rfl,rfl,rfl⟩)
 rintro C j ⟨I,hb2,c,ay,aA,aC⟩
 refine fx 0 ay (fx 1 aA (fx 23 aC (cb rfl (fun hc23=> ?_) (fun hc23=> ?_))))
 have O:kind=2∧s.length=2∧eJ (s.getD 0 0)=true∧eJ (s.getD 1 0)=true :=of_decide_eq_true (hb2 ▸ hc23)
 have g0:=UInt8.toNat_lt (s.getD 0 0)
 have g1:=UInt8.toNat_lt (s.getD 1 0)
 refine sq (fun _ i=> ?_)
 have a:(fun w'=>Wk j w') j.drew:=(Md.refl _ _).drew
 refine bI (fun w'=>Wk j w') rfl wide a (bf 0 rfl (str s) a (aM 1 rfl (fun _ _=>gw 0 u9 rfl rfl (by omega)) a (aM 2 rfl (fun _ _=>iZ oJ mZ rfl (l1 (by omega))) a (aM 3 rfl (fun _ _=>shl rfl rfl (by decide) (FT g0)) a (bf 4 rfl (str s) a (aM 5 rfl (fun _ _=>gw 1 u9 rfl rfl (by omega)) a (aM 6 rfl (fun _ _=>iZ oJ mZ rfl (l1 (by omega))) a ?_)))))))
 refine aM 7 rfl (fun _ _=>rY rfl rfl (Ex g0 g1)) a (aM 8 rfl (fun _ _=>au) a (hn (by kernel_rfl) (tn (i _ _ (rt (br (tr (f1 rfl rfl ?_))))))))
 exact ⟨by rw [BU O]; rfl,c.drew⟩
 have O:¬(kind=2∧s.length=2∧eJ (s.getD 0 0)=true∧eJ (s.getD 1 0)=true):=of_decide_eq_false (hb2 ▸ hc23)
 refine ae (fun _ i=>(ag (U kind) (p (bu rfl rfl) (aj (((i _ _ (cd rfl (fun an=> ?_) (fun an=> ?_)))))))))
 refine ae (fun _ E=>(ag (str s) (e (cl nz (og s 65535 _ hs (by decide)) rfl fun aH aJ am=> ?_))))
 obtain ⟨rfl,ah⟩:=am
 have hn5:=Eh s
 refine p mv (p (xt rfl rfl) (p (xt rfl rfl) (p au (aj (((E _ _ (sq (fun _ ac=> ?_)))))))))
 refine rg rfl (p mv (p (iZ oJ lW rfl (l1 (by omega))) (aj (((ac _ _ (rt (br ?_))))))))
 exact tr (f1 rfl rfl (⟨by rw [BV (by omega)]; rfl,Md.trans c ah⟩))
 refine aE (bn (tn (ab _ _ (ae (fun _ E=>(aj (((E _ _ ?_)))))))))
 exact rt (f1 rfl rfl (⟨by rw [BS (by omega) M O]; rfl,c⟩))
theorem Et (kind:Nat) (s:List UInt8) (w:World) (hk:kind=1∨kind=2∨kind=3) (hs:s.length≤1048576):
 aT Tryz.prog 114 (List.toArray [U kind,str s]) w (fun v w'=>v= .tuple #[aB (eS kind s).1,U ((eS kind s).2)]∧Wk w w'):=by
 refine enter Tryz.func114 rfl Tryz.ntmps114 rfl ?_
 refine ae (fun _ i=>(p au (aj (((i _ _ (sq (fun _ j=>sq (fun _ q=> ?_)))))))))
 refine rg rfl (ag (U kind) (e (cl sd (uD kind _) rfl fun J w8 hR8=> ?_)))
 obtain ⟨rfl,c⟩:=hR8
 refine p (no rfl) (ak ((q _ _ (cf ((by rw [decide_eq_true (by omega)]; rfl)) (aE (tn (j _ _ (ae (fun _ A=> ?_)))))))))
 refine ag (U kind) (ag (str s) (e (cl se (tG kind s _ hk hs) rfl fun dw w12 G=> ?_)))
 obtain ⟨rfl,hE12⟩:=G
 refine aj (((A _ _ (sq (fun _ C=>ae (fun _ E=>(p mv (p (bu rfl rfl) ?_))))))))
 refine ak ((E _ _ (cd rfl (fun I=> ?_) (fun I=> ?_))))
 refine ae (fun _ a=>(p au (aj (((a _ _ (rt (tr ?_))))))))
 exact f2 rfl rfl rfl (⟨by unfold eS; rw [if_pos (show c8 kind s=0 by omega)]; rfl,Md.trans c hE12⟩)
 refine aE (tn (C _ _ (ae (fun _ a=>(p mv (p au (p au (nl ?_))))))))
 exact tn (a _ _ (rt (f2 rfl rfl rfl (⟨by unfold eS; rw [if_neg (show ¬c8 kind s=0 by omega)]; rfl,Md.trans c hE12⟩))))
theorem Ai (s:List UInt8) (c:UInt8) (w:World):
 aT Tryz.prog 172 (List.toArray [str s,str [c]]) w (fun v w'=>v=U (s.count c)∧Wk w w'):=by
 refine enter Tryz.func172 rfl Tryz.ntmps172 rfl ?_
 refine ae (fun _ a=>(aj (((a _ _ (sq (fun _ i=>ae (fun _ j=> ?_))))))))
 refine ag (str [c]) (p (bY u9 rfl rfl) (p (bu rfl rfl) (ak ((j _ _ (cd rfl (fun h=>absurd h (by simp)) (fun G=> ?_)))))))
 refine aE (tn (i _ _ (sq (fun _ C=>ae (fun _ q=>(ag (str [c]) (p (bY u9 rfl rfl) (p (bu rfl rfl) ?_))))))))
 refine ak ((q _ _ (cd rfl (fun E=> ?_) (fun h=>absurd rfl h))))
 refine ae (fun _ A=>(ag (str s) (ag (str [c]) (p (gw 0 u9 rfl rfl (by simp)) (p (sS (z8 s c _) rfl) (p au (nl ?_)))))))
 exact tn (A _ _ (rt (tr (f1 rfl rfl (⟨rfl,Md.refl _ _⟩)))))
theorem Cm (s:List UInt8) (w:World) (hs:s.length≤1048576):
 aT Tryz.prog 148 (List.toArray [str s,str [44],.int .i64 0,.int .i64 (-1)]) w (fun v w'=>World.ownsRow w' w.heap.size 9 1 (v) ((ei 44 [] s)).length (((ei 44 [] s)).map str)∧Wk w w'):=by
 have hcl:=List.count_le_length (a:=(44:UInt8)) (l:=s)
 have hsc:=q7 44 s []
 refine enter Tryz.func148 rfl Tryz.ntmps148 rfl ?_
 refine ae (fun _ Z=>(aj (((Z _ _ (sq (fun _ an=>ae (fun _ ap=> ?_))))))))
 refine ag (.int .i64 (-1)) (p (bu rfl rfl) (ak ((ap _ _ (cd rfl (fun h=>absurd h (by decide)) (fun aW=> ?_))))))
 refine aE (tn (an _ _ (sq (fun _ aq=>ae (fun _ ar=>(ag (str [44]) (p (fp rfl rfl) (nl ?_))))))))
 refine tn (ar _ _ (cd rfl (fun h=>absurd h (by simp)) (fun aX=> ?_)))
 refine aE (tn (aq _ _ (sq (fun _ av=>ae (fun _ ax=>(ag (.int .i64 (-1)) (p (lt rfl rfl) (nl ?_))))))))
 refine tn (ax _ _ (cd rfl (fun aY=> ?_) (fun h=>absurd (by decide) h)))
 refine rg rfl (ag (str s) (ag (str [44]) (e (cl yS (Ai s 44 _) rfl fun aZ a1 aD=> ?_))))
 obtain ⟨rfl,V⟩:=aD
 refine p (bd ((s.count 44 +1:Nat):Int) rfl rfl (aO (by omega) (by omega))) (aj (((av _ _ (ae (fun _ ay=>(p mv (ag (str s) ?_))))))))
 refine p (bY u9 rfl rfl) (p (bd ((s.length+1:Nat):Int) rfl rfl (aO (by omega) (by omega))) (p (mn rfl rfl) (aj (((ay _ _ (ae (fun _ az=> ?_))))))))
 refine p mv (e (D6 (n:=s.count 44 +1) (zv:=str []) cw Hh rfl (show Value.int .i64 (min ((s.count 44 +1:Nat):Int) ((s.length+1:Nat):Int))=_ from iv (by omega)) (show Value.int .i64 (min ((s.count 44 +1:Nat):Int) ((s.length+1:Nat):Int))=_ from iv (by omega)) (by omega) (by unfold maxLen; omega) fun C w31 aV aC ho31=> ?_))
 have hO31:=ho31 w.heap.size (by have :=V.size; omega)
 rw [Fo] at hO31
 refine aj (((az _ _ (ae (fun _ aa=>(p mv (p (bQ ((s.count 44:Nat):Int) rfl rfl (aO (by omega) (by omega))) (p au ?_))))))))
 refine ak ((aa _ _ (ae (fun _ ab=>(aj (((ab _ _ (sq (fun _ ac=> ?_))))))))))
 refine aw (lp (fun M q J=> ∃ (i:Nat) (dn:List (List UInt8)) (r:List UInt8),(dn.length=i)∧(r.count 44 +i=s.count 44∧r.length≤s.length)∧(dn++ei 44 [] r=ei 44 [] s)∧(World.ownsRow J w.heap.size 9 1 (.slice (some ⟨C,0,none⟩) (s.count 44 +1) (s.count 44 +1)) (s.count 44 +1) ((dn++List.replicate (s.count 44 +1 - i) []).map str))∧(Wk w J)∧(q 0=str r)∧(q 1=str [44])∧(q 2= .int .i64 0)∧(q 3=U (s.count 44))∧(q 9= .slice (some ⟨C,0,none⟩) (s.count 44 +1) (s.count 44 +1))∧(q 10=U i)∧(r.length=M)) _ ⟨0,[],s,rfl,((by omega)),rfl,hO31,(Md.trans V aC.md),rfl,rfl,rfl,rfl,rfl,rfl,rfl⟩ ?_)
 rintro M q J ⟨i,dn,r,hi,hr,hd,A,O,aN,aP,aR,aS,aU,aQ,rfl⟩
 refine fx 0 aN (fx 1 aP (fx 2 aR (fx 3 aS (fx 9 aU (fx 10 aQ ?_)))))
 have hrl:=List.count_le_length (a:=(44:UInt8)) (l:=r)
 refine sq (fun _ ad=>ae (fun _ ah=>(ag (U i) (ag (U (s.count 44)) (p (lt rfl rfl) (ak ((ah _ _ ?_))))))))
 refine cd rfl (fun aH=> ?_) (fun aH=> ?_)
 refine aE (tn (ad _ _ (aw (ae (fun _ E=>(ag (str r) (ag (str [44]) (e (cl yT (CW r 44 _) rfl fun a0 w39 aF=> ?_)))))))))
 obtain ⟨rfl,hE39⟩:=aF
 refine aj (((E _ _ (sq (fun _ G=>ae (fun _ ai=>(p mv (p (lt rfl rfl) ?_))))))))
 refine ak ((ai _ _ (cd rfl (fun h=>absurd h (C8 (by omega))) (fun aI=> ?_))))
 refine aE (tn (G _ _ (sq (fun _ al=> ?_))))
 have hix:=lF (c:=(44:UInt8)) (l:=r) aI
 have hl1:[(44:UInt8)].length=1:=rfl
 refine rg rfl (ag (.slice (some ⟨C,0,none⟩) (s.count 44 +1) (s.count 44 +1)) (ag (U i) (ag (str r) (p mv (ag (.int .i64 0) (p (bd ((r.idxOf 44:Nat):Int) rfl rfl (aO (by omega) (by omega))) (p (oy u9 rfl rfl (by omega)) ?_)))))))
 refine p (aK bO rfl rfl (by omega) (ao.ok ((aG (aJ A hE39)).2) (bL (by rw [List.length_append,List.length_replicate]; omega)))) (e (lR (j:=i) (u:=str (r.take (r.idxOf 44))) (aJ A hE39) kK rfl rfl rfl (by omega) (by omega) fun w14 aA Y=> ?_))
 have hE14:Wk w w14:=Wk.own (Md.trans O hE39) (aJ A hE39) aA (Nat.le_refl _)
 rw [← hi,vT (by omega),hi] at Y
 refine ak ((al _ _ (ae (fun _ am=>(ag (str r) (p mv (ag (str [44]) (p (bY u9 rfl rfl) ?_))))))))
 refine p (bd ((r.idxOf 44 +1:Nat):Int) rfl rfl (aO (by omega) (by omega))) (p (jS u9 rfl rfl (by omega)) (aj (((am _ _ (rg rfl (ag (U i) (p (bd ((i+1:Nat):Int) rfl rfl (aO (by omega) (by omega))) ?_))))))))
 exact p au (nl (bn (tn (⟨_,by rw [List.length_drop]; omega,i+1,dn++ [r.take (r.idxOf 44)],r.drop (r.idxOf 44 +1),((by rw [List.length_append,hi]; rfl)),((by have :=Av hix.2; rw [List.length_drop]; omega)),((by rw [List.append_assoc,← hd,vZ 44 r [] hix.2]; rfl)),((by rw [show s.count 44 +1 - (i+1)=s.count 44 +1 - i - 1 by omega]; exact Y)),hE14,rfl,rfl,rfl,rfl,rfl,rfl,rfl⟩))))
 refine ext (te _ (te _ (be (tn (ac _ _ (ae (fun _ E=>(ag (.slice (some ⟨C,0,none⟩) (s.count 44 +1) (s.count 44 +1)) ?_))))))))
 refine ag (U i) (ag (str r) (p (aK bO rfl rfl (by omega) (ao.ok ((aG A).2) (bL (by rw [List.length_append,List.length_replicate]; omega)))) (e (lR (j:=i) (u:=str r) A kK rfl rfl rfl (by omega) (by omega) fun w17 aB I=> ?_))))
 have hE17:Wk w w17:=Wk.own O A aB (Nat.le_refl _)
 rw [← hi,vT (by omega),hi] at I
 refine ak ((E _ _ (ae (fun _ G=>(ag (.slice (some ⟨C,0,none⟩) (s.count 44 +1) (s.count 44 +1)) (ag (U i) (p (bd ((i+1:Nat):Int) rfl rfl (aO (by omega) (by omega))) (p (ki bO rfl rfl (by omega)) ?_))))))))
 refine aj (((G _ _ (rt (f1 rfl rfl ?_)))))
 have aM:¬(44:UInt8)∈r:=fun h=>by have :=List.count_pos_iff.2 h; omega
 have aL:dn++ [r]=ei 44 [] s:=by rw [← hd,Gc 44 r [] aM]; rfl
 rw [show s.count 44 +1 - i - 1=0 by omega,List.replicate_zero,List.append_nil,aL] at I
 exact ⟨by rw [hsc,show s.count 44 +1=i+1 by omega] at*; exact I,hE17⟩
theorem Gk (s:List UInt8) (w:World) (hs:s.length≤1048576):
 aT Tryz.prog 132 (List.toArray [str s,str [44]]) w (fun v w'=>World.ownsRow w' w.heap.size 9 1 (v) ((ei 44 [] s)).length (((ei 44 [] s)).map str)∧Wk w w'):=by
 refine enter Tryz.func132 rfl Tryz.ntmps132 rfl ?_
 refine ae (fun _ a=>(aj (((a _ _ (ae (fun _ c=>(ag (str s) ?_))))))))
 exact ag (str [44]) (e (cl yD (Cm s _ hs) rfl fun i w7 hR7=>aj (((c _ _ (rt (f1 rfl rfl (hR7))))))))
theorem ET (kind:Nat) (s:List UInt8) (w:World) (hk:kind=1∨kind=2∨kind=3) (hs:s.length≤1048576):
 aT Tryz.prog 118 (List.toArray [U kind,str s]) w (fun v w'=>World.ownsRow w' w.heap.size 9 1 (v) ((c5 kind s)).length (((c5 kind s)).map str)∧Wk w w'):=by
 refine enter Tryz.func118 rfl Tryz.ntmps118 rfl ?_
 refine ae (fun _ M=>(aj (((M _ _ (sq (fun _ O=>ae (fun _ V=> ?_))))))))
 refine ag (U kind) (p (bu rfl rfl) (ak ((V _ _ (cd rfl (fun hc8=> ?_) (fun hc8=> ?_))))))
 refine ae (fun _ j=>(ag (str s) (e (cl yA (Gk s _ hs) rfl fun v10 w10 hR10=>aj (((j _ _ (rt ?_))))))))
 refine tr (f1 rfl rfl ?_)
 unfold c5; rw [if_pos (by omega)]; exact hR10
 refine aE (tn (O _ _ (ae (fun _ j=>(aj (((j _ _ (sq (fun _ Y=> ?_))))))))))
 refine ae (fun _ Z=>(aj (((Z _ _ (aw (lp (fun E c wI=> ∃ (i:Nat) (dn:List (List UInt8)) (a:Value),(i≤s.length+kind∧dn.length≤i)∧(dn++chunks kind (s.drop i)=chunks kind s)∧(World.ownsRow wI w.heap.size 9 1 (a) (dn).length ((dn).map str))∧(Wk w wI)∧(c 0=U kind)∧(c 1=str s)∧(c 5=a)∧(c 6=U i)∧(s.length - i=E)) _ ⟨0,[],.slice none 0 0,((by simp)),rfl,(World.ownsRow_nil _ _ _ _),(Md.refl _ _),rfl,rfl,rfl,rfl,rfl⟩ ?_)))))))
 rintro E c wI ⟨i,dn,a,hi,hd,C,G,al,am,an,aq,rfl⟩
 refine fx 0 al (fx 1 am (fx 5 an (fx 6 aq (sq (fun _ aa=>ae (fun _ ab=>(ag (U i) (ag (str s) (p (bY u9 rfl rfl) (p (lt rfl rfl) ?_))))))))))
 refine ak ((ab _ _ (cd rfl (fun ah=> ?_) (fun ah=> ?_))))
 have hne:s.drop i≠[]:=fun h=>by have :=congrArg List.length h; rw [List.length_drop,List.length_nil] at this; omega
 refine aE (tn (aa _ _ (sq (fun _ q=>aw (rg rfl (ag (a) (ag (str s) (ag (U i) ?_))))))))
 refine ag (U i) (ag (U kind) (p (bd ((i+kind:Nat):Int) rfl rfl (aO (by omega) (by omega))) (ag (str s) (p (bY u9 rfl rfl) (p (mn rfl rfl) (p (mT u9 rfl rfl rfl (by omega)) (e (gq cw rfl rfl fun av w28 hb28 A ac=> ?_))))))))
 have I:Wk w w28:=Md.trans G A.md
 refine e (ap cw (aJ C A.md) rfl (by have :=I.size; omega) rfl (ao.dz ac) (rfl) (rfl) (by omega) (by omega) fun ar w29 J ad hz29 ax=> ?_)
 have hE29:=Wk.own I (aJ C A.md) ad (Nat.le_refl _)
 rw [zA] at J
 have ho29x:=mM J
 refine p au (nl (bn (tn (q _ _ (rg rfl (ag (U i) (ag (U kind) (p (bd ((i+kind:Nat):Int) rfl rfl (aO (by omega) (by omega))) ?_))))))))
 exact aj (((⟨_,by omega,i+kind,dn++ [(s.drop i).take kind],ar,((by rw [List.length_append,List.length_singleton]; omega)),((by rw [← hd,pC (k:=kind) (by omega) hne,List.append_assoc,List.drop_drop]; rfl)),ho29x,hE29,rfl,rfl,rfl,rfl,rfl⟩)))
 refine ext (te _ (te _ (be (tn (Y _ _ (ae (fun _ q=>(ag (a) ?_))))))))
 refine p (bD (a) rfl) (ak ((q _ _ (rt (f1 rfl rfl ?_)))))
 have ai:dn=c5 kind s:=by unfold c5; rw [if_neg (by omega),← hd,List.drop_eq_nil_of_le (by omega),pD,List.append_nil]
 exact ⟨by rw [← ai]; exact C,G⟩
theorem tY (kind:Nat) (s:List UInt8) (w:World) (hk:kind=1∨kind=2∨kind=3) (hs:s.length≤1048576):
 aT Tryz.prog 101 (List.toArray [U kind,str s]) w (fun v w'=>(∃ a,v= .tuple #[a,U ((dx kind s).2)]∧World.ownsRow w' w.heap.size 71 1 a (dx kind s).1.length ((dx kind s).1.map aB))∧Wk w w'):=by
 refine enter Tryz.func101 rfl Tryz.ntmps101 rfl ?_
 refine ae (fun _ aq=>(p au (aj (((aq _ _ (sq (fun _ az=>sq (fun _ aA=> ?_)))))))))
 refine rg rfl (ag (U kind) (e (cl sd (uD kind _) rfl fun v11 w11 hR11=> ?_)))
 obtain ⟨rfl,ac⟩:=hR11
 refine p (no rfl) (ak ((aA _ _ (cf ((by rw [decide_eq_true (by omega)]; rfl)) (aE (tn (az _ _ (sq (fun _ aC=>sq (fun _ aD=> ?_))))))))))
 refine rg rfl (ag (str s) (p (fp rfl rfl) (ak ((aD _ _ (cd rfl (fun q=> ?_) (fun q=> ?_)))))))
 refine ae (fun _ V=>(p au (aj (((V _ _ (rt (tr ?_))))))))
 exact f2 rfl rfl rfl (⟨⟨.slice none 0 0,by unfold dx; rw [if_pos q]; rfl,by unfold dx; rw [if_pos q]; exact World.ownsRow_nil _ _ _ _⟩,ac⟩)
 refine aE (tn (aC _ _ (ae (fun _ V=>(aj (((V _ _ (sq (fun _ aF=> ?_))))))))))
 refine ae (fun _ aH=>(ag (U kind) (ag (str s) (e (cl yu (ET kind s _ hk hs) rfl fun a9 w17 aQ=> ?_)))))
 obtain ⟨ai,hE17⟩:=aQ
 obtain ⟨aL,aM,rfl⟩:=cH ai
 have hS17:=(aG ai).2
 have hpl:=ER (kind:=kind) (s:=s) (by omega)
 have I:Wk w w17:=Md.trans ac hE17
 refine p (bp ea rfl rfl) (p mv (ak ((aH _ _ (aw (lp (fun ab j wI=> ∃ (i:Nat) (G:Value),(i≤(c5 kind s).length)∧(¬∃ x∈(c5 kind s).take i,c8 kind x=0)∧(World.ownsRow wI w17.heap.size 71 1 G (((c5 kind s).take i).map (c8 kind)).length ((((c5 kind s).take i).map (c8 kind)).map aB))∧(Wk w17 wI)∧(j 0=U kind)∧(j 1=str s)∧(j 6=G)∧(j 17= .slice aL (c5 kind s).length aM)∧(j 18=U ((c5 kind s).length))∧(j 19=U i)∧((c5 kind s).length - i=ab)) _ ⟨0,.slice none 0 0,(by omega),((by rintro ⟨x,a3,_⟩; simp at a3)),(World.ownsRow_nil _ _ _ _),(Md.refl _ _),rfl,rfl,rfl,rfl,rfl,rfl,rfl⟩ ?_))))))
 rintro ab j wI ⟨i,G,hi,hne,C,c,aX,aY,a2,aZ,a0,a1,rfl⟩
 refine fx 0 aX (fx 1 aY (fx 6 a2 (fx 17 aZ (fx 18 a0 (fx 19 a1 ?_)))))
 have hfl:(((c5 kind s).take i).map (c8 kind)).length≤i:=by rw [List.length_map,List.length_take]; omega
 refine ae (fun _ aI=>(p (lt rfl rfl) (ak ((aI _ _ (sq (fun _ ar=>cd rfl (fun aU=> ?_) (fun aU=> ?_))))))))
 refine aE (tn (ar _ _ (sq (fun _ M=>aw (ae (fun _ O=>(p (aK bO rfl rfl (by omega) (ao.ok (hS17.wk c) (bL (by omega)))) (p (ld bW rfl (bh.get (i:=i) (hS17.wk c) (by omega))) ?_))))))))
 refine aj (((O _ _ (ae (fun _ A=>(ag (U kind) (p mv (e (cl se (tG kind ((c5 kind s).getD i []) _ hk (by have :=ES (kind:=kind) (by omega) (ue (d:= []) (show i < (c5 kind s).length by omega)); omega)) rfl fun ba w25 aR=> ?_)))))))))
 obtain ⟨rfl,hE25⟩:=aR
 refine aj (((A _ _ (sq (fun _ av=>ae (fun _ ax=>(p mv (p (bu rfl rfl) ?_))))))))
 refine ak ((ax _ _ (cd rfl (fun aV=> ?_) (fun aV=> ?_))))
 refine ae (fun _ ay=>(p au (aj (((ay _ _ (rt (tr ?_))))))))
 refine br (tr (tr (br (tr (f2 rfl rfl rfl ?_)))))
 have hz:dx kind s=([],31):=by unfold dx; rw [if_neg q,if_pos ⟨_,ue (d:= []) (show i < (c5 kind s).length by omega),by omega⟩]
 exact ⟨⟨.slice none 0 0,by rw [hz]; rfl,by rw [hz]; exact World.ownsRow_nil _ _ _ _⟩,Md.trans I (Md.trans c hE25)⟩
 refine aE (tn (av _ _ (rg rfl (ag (G) (p mv (e (gq oB rfl rfl fun a6 w30 a7 Z aN=> ?_)))))))
 have ah:Wk w17 w30:=Md.trans (Md.trans c hE25) Z.md
 refine e (ap oB (aJ (aJ C hE25) Z.md) rfl (by have :=ah.size; omega) rfl (ao.dz aN) (rfl) (rfl) (by omega) (by omega) fun an w31 ho31 aP hz31 a8=> ?_)
 have hE31:=Wk.own ah (aJ (aJ C hE25) Z.md) aP (Nat.le_refl _)
 have aW:World.ownsRow w31 w17.heap.size 71 1 an (((c5 kind s).take (i+1)).map (c8 kind)).length ((((c5 kind s).take (i+1)).map (c8 kind)).map aB):=by
  rw [im _ i [] (by omega),List.map_append,List.length_append,List.map_append]; exact ho31
 refine p au (nl (bn (tn (M _ _ (rg rfl (p (ad rfl rfl (bC (by omega))) (p mv (nl ?_))))))))
 exact tn (⟨_,by omega,i+1,an,(by omega),(BB (by omega) hne (by omega)),aW,hE31,rfl,rfl,rfl,rfl,rfl,rfl,rfl⟩)
 refine ext (te _ (te _ (be (tn (aF _ _ (sq (fun _ M=>sq (fun _ O=> ?_))))))))
 obtain ⟨E,Y,rfl⟩:=cH C
 have htl:(((c5 kind s).take i).map (c8 kind)).length=(c5 kind s).length:=by rw [List.length_map,List.length_take]; omega
 have J:(c5 kind s).take i=(c5 kind s):=List.take_of_length_le (by omega)
 have hnl:E=none→(((c5 kind s).take i).map (c8 kind)).length=0:=fun h=>by obtain ⟨a5,c2,am,_,_,h3⟩:=Rd.gj C; simp only [Value.slice.injEq] at am; exact h3 (am.1 ▸ h)
 refine rg rfl (ag (.slice E (((c5 kind s).take i).map (c8 kind)).length Y) (p (bp gW rfl rfl) (p (gt rfl rfl) (ak ((O _ _ (cd rfl (fun aa=> ?_) (fun aa=> ?_))))))))
 refine ae (fun _ A=>(p au (aj (((A _ _ (rt (tr ?_))))))))
 refine f2 rfl rfl rfl ?_
 rw [J] at hne htl
 have hz:dx kind s=([],32):=by unfold dx; rw [if_neg q,if_neg hne,if_pos (by rw [J,List.length_map] at aa; omega)]
 exact ⟨⟨.slice none 0 0,by rw [hz]; rfl,by rw [hz]; exact World.ownsRow_nil _ _ _ _⟩,Md.trans I c⟩
 refine aE (tn (M _ _ (ae (fun _ A=>(ag (.slice E (((c5 kind s).take i).map (c8 kind)).length Y) (e (cl r9 (vk (((c5 kind s).take i).map (c8 kind)) E Y _ (aG C).2 hnl (by rw [List.length_map,List.length_take] at*; omega)) rfl fun a4 w37 aS=> ?_)))))))
 obtain ⟨al,aO⟩:=aS
 refine p au (aj (((A _ _ (rt (f2 rfl rfl rfl ?_))))))
 rw [J] at hne al
 have hz:dx kind s=(gi ((c5 kind s).map (c8 kind)),0):=by unfold dx; rw [if_neg q,if_neg hne,if_neg (by rw [J,List.length_map] at aa; omega)]
 exact ⟨⟨a4,by rw [hz]; rfl,by rw [hz]; exact gk al (by have :=I.size; have :=c.size; omega)⟩,Md.trans I (Md.trans c aO)⟩
end Go.Hb.kt
end
section
set_option maxRecDepth 20000
set_option maxHeartbeats 1000000
namespace Go.Hb.fY
open Go.Hb.cU
open Go.Proofs
theorem El {b:UInt8} (h:¬(b.toNat:Int)=10):b≠10:=by rintro rfl; exact h rfl
theorem C5 {b:UInt8} (h:(b.toNat:Int)=10):b=10:=UInt8.toNat_inj.1 (by have :(10:UInt8).toNat=10:=rfl; omega)
theorem C6 {b:UInt8} (h:(b.toNat:Int)=13):b=13:=UInt8.toNat_inj.1 (by have :(13:UInt8).toNat=13:=rfl; omega)
theorem Em {b:UInt8} (h:¬(b.toNat:Int)=13):b≠13:=by rintro rfl; exact h rfl
theorem qf (b:UInt8) (w:World):
 aT Tryz.prog 92 (List.toArray [.int .u8 b.toNat]) w (fun v w'=>v= .bool (kP b)∧Wk w w'):=by
 refine enter Tryz.func92 rfl Tryz.ntmps92 rfl ?_
 refine ae (fun _ c=>(aj (((c _ _ (ae (fun _ a=>(ag (.int .u8 b.toNat) ?_))))))))
 refine p (bu rfl rfl) (p mv (gs (t:=5) rfl (fun hg5=> ?_) (fun hg5=> ?_)))
 refine sk rfl rfl rfl rfl (sk rfl rfl rfl rfl (p (bz rfl) (aj (((a _ _ (rt (f1 rfl rfl ?_))))))))
 exact ⟨by show Value.bool true =_; rw [uc,decide_eq_true (.inl (by omega))],Md.refl _ _⟩
 refine pg rfl rfl rfl (az (.int .u8 b.toNat) rfl) (pg rfl rfl rfl (bu rfl rfl) (p (bc rfl) (aj (((a _ _ (rt (f1 rfl rfl ?_))))))))
 exact ⟨by show Value.bool (decide ((b.toNat:Int)=9))=_; rw [uc]; exact congrArg Value.bool (decide_eq_decide.2 (by omega)),Md.refl _ _⟩
theorem BH (l:List UInt8) (w:World) (hl:l.length≤1048576):
 aT Tryz.prog 57 (List.toArray [str l]) w (fun v w'=>World.ownsRow w' w.heap.size 9 1 v ((bT [] l)).length (((bT [] l)).map str)∧Wk w w'):=by
 refine enter Tryz.func57 rfl Tryz.ntmps57 rfl ?_
 refine ae (fun _ ah=>(aj (((ah _ _ (ae (fun _ ai=>(p au ?_))))))))
 refine ak ((ai _ _ (ae (fun _ al=>(aj (((al _ _ (sq (fun _ am=> ?_))))))))))
 refine ae (fun _ an=>(ag (str l) (p (bY u9 rfl rfl) (p mv (ak ((an _ _ (aw ?_))))))))
 refine lp (fun ab E w1=> ∃ (i:Nat) (a:Int) (G:List UInt8) (dn:List (List UInt8)) (v:Value),(i≤l.length)∧(fN l i a G)∧(dn++bT G (l.drop i)=(bT [] l))∧(Wk w w1)∧(World.ownsRow w1 w.heap.size 9 1 v (dn).length ((dn).map str))∧(E 0=str l)∧(E 3=v)∧(E 4= .int .i64 a)∧(E 7= .int .i64 l.length)∧(E 8= .int .i64 i)∧(l.length - i=ab)) _ ⟨0,-1,[],[],.slice none 0 0,(by omega),fN.no,rfl,(Md.refl _ _),(World.ownsRow_nil _ _ _ _),rfl,rfl,rfl,rfl,rfl,rfl⟩ ?_
 rintro ab E w1 ⟨i,a,G,dn,v,hi,A,hd,I,O,aH,aI,aK,aL,aN,rfl⟩
 refine fx 0 aH (fx 3 aI (fx 4 aK (fx 7 aL (fx 8 aN ?_))))
 have aV:dn.length≤l.length+1:=by have h1:=congrArg List.length hd; have h2:=p5 l []; rw [List.length_append] at h1; omega
 refine ae (fun _ aq=>(p (lt rfl rfl) (ak ((aq _ _ (sq (fun _ ar=>cd rfl (fun aD=> ?_) (fun aD=> ?_))))))))
 refine aE (tn (ar _ _ (sq (fun _ c=>aw (ae (fun _ U=>(ag (.int .i64 i) (p (bD (.int .i64 i) rfl) ?_))))))))
 refine ak ((U _ _ (aw (ae (fun _ C=>(ag (str l) (ag (.int .i64 i) (p (fF u9 rfl rfl (by omega)) ?_))))))))
 refine e (cl pw (qf (l.getD i 0) _) rfl fun a0 w15 aA=> ?_)
 obtain ⟨rfl,ac⟩:=aA
 have hE15x:Wk w w15:=Md.trans I ac
 have hsz15:=hE15x.size
 have ho15:=aJ O ac
 refine p mv (gb (t:=16) rfl (fun q=> ?_) (fun q=> ?_))
 refine pg rfl rfl rfl (az (.int .i64 a) rfl) (pg rfl rfl rfl (ge rfl rfl) (p (bz rfl) (aj (((C _ _ (cd rfl (fun aB=> ?_) (fun aB=> ?_))))))))
 obtain ⟨aM,hp2,aa⟩:=A.pos (by omega)
 refine ae (fun _ s=>(ag (v) (ag (str l) (ag (.int .i64 a) (ag (.int .i64 i) (p (mT u9 rfl rfl rfl (by omega)) (e (gq cw rfl rfl fun aQ w25 aS J av=> ?_))))))))
 refine e (ap cw (aJ ho15 J.md) rfl (by have :=J.size; omega) rfl (ao.dz av) (rfl) (rfl) (by omega) (by omega) fun aO w26 aF ay aY aW=> ?_)
 have hE26:=Wk.own (Md.trans hE15x J.md) (aJ ho15 J.md) ay (Nat.le_refl _)
 have ho26x:=mM aF
 refine aj (((s _ _ (rg rfl (p au (nl (bn (bn ?_))))))))
 exact tn (c _ _ (rg rfl (p (ad rfl rfl (bC (by omega))) (p mv (ak ((⟨_,by omega,i+1,-1,[],dn++ [(l.take i).drop a.toNat],aO,(by omega),fN.no,((by rw [drop_cons 0 (by omega),B5 q aa,hp2] at hd; rw [List.append_assoc]; exact hd)),hE26,ho26x,rfl,rfl,rfl,rfl,rfl,rfl⟩)))))))
 refine ae (fun _ s=>(ag (str l) (ag (.int .i64 i) (p (fF u9 rfl rfl (by omega)) (e (cl pw (qf (l.getD i 0) _) rfl fun aP w31 V=> ?_))))))
 obtain ⟨rfl,hE31⟩:=V
 have hE31x:Wk w w31:=Md.trans hE15x hE31
 have ho31:=aJ ho15 hE31
 refine p (no rfl) (p mv (gb (t:=33) rfl (fun j=> ?_) (fun j=> ?_)))
 refine pg rfl rfl rfl (az (.int .i64 a) rfl) (pg rfl rfl rfl (lt rfl rfl) (p (bz rfl) (aj (((s _ _ (cd rfl (fun Y=> ?_) (fun Y=> ?_))))))))
 refine rg rfl (ag (.int .i64 i) (p (bD (.int .i64 i) rfl) (nl (bn (bn (tn (c _ _ (rg rfl ?_))))))))
 refine p (ad rfl rfl (bC (by omega))) (p mv (nl (tn ?_)))
 rw [q] at j; cases j
 refine aE (bn (bn (tn (c _ _ (rg rfl (p (ad rfl rfl (bC (by omega))) (p mv (nl ?_))))))))
 refine tn ?_
 rw [q] at j; cases j
 refine sk rfl rfl rfl rfl (sk rfl rfl rfl rfl (p (bc rfl) (aj (((s _ _ (cf rfl (aE ?_))))))))
 refine bn (bn (tn (c _ _ (rg rfl (p (ad rfl rfl (bC (by omega))) (p mv (nl (tn ?_))))))))
 exact ⟨_,by omega,i+1,a,G,dn,v,(by omega),((by obtain ⟨h1,h2⟩:=A.neg (by omega); subst h1 h2; exact fN.no)),((by obtain ⟨h1,h2⟩:=A.neg (by omega); subst h2; rw [drop_cons 0 (by omega),B4 q] at hd; exact hd)),hE31x,ho31,rfl,rfl,rfl,rfl,rfl,rfl⟩
 refine sk rfl rfl rfl rfl (sk rfl rfl rfl rfl (p (bc rfl) (aj (((C _ _ (cf rfl (sq (fun _ s=> ?_)))))))))
 refine rg rfl (ag (str l) (ag (.int .i64 i) (p (fF u9 rfl rfl (by omega)) (e (cl pw (qf (l.getD i 0) _) rfl fun aP w31 V=> ?_)))))
 obtain ⟨rfl,hE31⟩:=V
 have hE31x:Wk w w31:=Md.trans hE15x hE31
 have ho31:=aJ ho15 hE31
 refine p (no rfl) (p mv (gb (t:=33) rfl (fun j=> ?_) (fun j=> ?_)))
 refine pg rfl rfl rfl (az (.int .i64 a) rfl) (pg rfl rfl rfl (lt rfl rfl) (p (bz rfl) (aj (((s _ _ (cd rfl (fun Y=> ?_) (fun Y=> ?_))))))))
 refine rg rfl (ag (.int .i64 i) (p (bD (.int .i64 i) rfl) (nl (bn (bn (tn (c _ _ (rg rfl ?_))))))))
 exact p (ad rfl rfl (bC (by omega))) (p mv (ak ((⟨_,by omega,i+1,i,[l.getD i 0],dn,v,(by omega),(fN.begin (by omega)),((by obtain ⟨h1,h2⟩:=A.neg (by omega); subst h2; rw [drop_cons 0 (by omega),tM q] at hd; exact hd)),hE31x,ho31,rfl,rfl,rfl,rfl,rfl,rfl⟩))))
 refine aE (bn (bn (tn (c _ _ (rg rfl (p (ad rfl rfl (bC (by omega))) (p mv (nl ?_))))))))
 exact tn (⟨_,by omega,i+1,a,G++ [l.getD i 0],dn,v,(by omega),(A.more (by omega) (by omega)),((by rw [drop_cons 0 (by omega),tM q] at hd; exact hd)),hE31x,ho31,rfl,rfl,rfl,rfl,rfl,rfl⟩)
 refine sk rfl rfl rfl rfl (sk rfl rfl rfl rfl (p (bc rfl) (aj (((s _ _ (cf rfl (aE ?_))))))))
 refine bn (bn (tn (c _ _ (rg rfl (p (ad rfl rfl (bC (by omega))) (p mv (nl (tn ?_))))))))
 rw [q] at j; cases j
 refine ext (te _ (te _ (be (tn (am _ _ (sq (fun _ c=>ae (fun _ U=> ?_))))))))
 refine ag (.int .i64 a) (p (ge rfl rfl) (ak ((U _ _ (cd rfl (fun aC=> ?_) (fun aC=> ?_))))))
 obtain ⟨aM,hp2,aa⟩:=A.pos (by omega)
 refine rg rfl (ag (v) (ag (str l) (ag (.int .i64 a) (p (jS u9 rfl rfl (by omega)) (e (gq cw rfl rfl fun aR w45 aU M ax=>e (ap cw (aJ O M.md) rfl (by have :=M.size; have :=I.size; omega) rfl (ao.dz ax) (rfl) (rfl) (by omega) (by omega) fun a1 w46 aG hM46 aZ aX=> ?_)))))))
 have hE46:=Wk.own (Md.trans I M.md) (aJ O M.md) hM46 (Nat.le_refl _)
 have ho46x:=mM aG
 refine aj (((c _ _ (ae (fun _ C=>(p mv (p au (nl ?_))))))))
 refine tn (C _ _ (rt (f1 rfl rfl ?_)))
 have Z:dn++ [l.drop a.toNat]=(bT [] l):=by rw [← hd,show l.drop i= [] from List.drop_eq_nil_of_le (by omega),B6 aa,hp2,List.take_of_length_le (by omega)]
 exact ⟨by rw [← Z]; exact ho46x,hE46⟩
 obtain ⟨aM,hp2⟩:=A.neg (by omega)
 refine aE (tn (c _ _ (ae (fun _ C=>(ag (v) (p (bD (v) rfl) (ak ((C _ _ ?_)))))))))
 refine rt (f1 rfl rfl ?_)
 have Z:dn=(bT [] l):=by rw [← hd,List.drop_eq_nil_of_le (by omega),hp2,B7,List.append_nil]
 exact ⟨by rw [← Z]; exact O,I⟩
theorem n7 (s:List UInt8) (w:World):
 aT Tryz.prog 23 (List.toArray [str s]) w (fun v w'=>v= .bool (fS s)∧Wk w w'):=by
 refine enter Tryz.func23 rfl Tryz.ntmps23 rfl ?_
 refine ae (fun _ c=>(aj (((c _ _ (ae (fun _ a=>(ag (str s) ?_))))))))
 refine p (bY u9 rfl rfl) (p (ge rfl rfl) (p mv (gs (t:=6) rfl (fun hg6=> ?_) (fun hg6=> ?_))))
 refine pg rfl rfl rfl (az (str s) rfl) (pg rfl rfl rfl (gw 0 u9 rfl rfl (by omega)) (pg rfl rfl rfl (bu rfl rfl) (p (bz rfl) (p mv (gs (t:=11) rfl (fun hg11=> ?_) (fun hg11=> ?_))))))
 refine pg rfl rfl rfl (az (str s) rfl) (pg rfl rfl rfl (gw 1 u9 rfl rfl (by omega)) (pg rfl rfl rfl (bu rfl rfl) (p (bz rfl) (p mv (gs (t:=16) rfl (fun i=> ?_) (fun i=> ?_))))))
 refine pg rfl rfl rfl (az (str s) rfl) (pg rfl rfl rfl (gw 2 u9 rfl rfl (by omega)) (pg rfl rfl rfl (bu rfl rfl) (p (bz rfl) (aj (((a _ _ (rt ?_))))))))
 exact f1 rfl rfl (⟨by show Value.bool (decide (((s.getD 2 0).toNat:Int)=191))=_; rw [n6]; exact congrArg Value.bool (decide_eq_decide.2 (by omega)),Md.refl _ _⟩)
 refine sk rfl rfl rfl rfl (sk rfl rfl rfl rfl (sk rfl rfl rfl rfl (p (bc rfl) (aj (((a _ _ (rt ?_))))))))
 exact f1 rfl rfl (⟨by show Value.bool false =_; rw [n6,decide_eq_false (by omega)],Md.refl _ _⟩)
 refine sk rfl rfl rfl rfl (sk rfl rfl rfl rfl (sk rfl rfl rfl rfl (p (bc rfl) (p mv (sk rfl rfl rfl rfl (sk rfl rfl rfl rfl (sk rfl rfl rfl rfl ?_)))))))
 exact p (bc rfl) (aj (((a _ _ (rt (f1 rfl rfl (⟨by show Value.bool false =_; rw [n6,decide_eq_false (by omega)],Md.refl _ _⟩)))))))
 refine sk rfl rfl rfl rfl (sk rfl rfl rfl rfl (sk rfl rfl rfl rfl (p (bc rfl) (p mv (sk rfl rfl rfl rfl (sk rfl rfl rfl rfl (sk rfl rfl rfl rfl ?_)))))))
 refine p (bc rfl) (p mv (sk rfl rfl rfl rfl (sk rfl rfl rfl rfl (sk rfl rfl rfl rfl (p (bc rfl) (p au (nl ?_)))))))
 exact tn (a _ _ (rt (f1 rfl rfl (⟨by show Value.bool false =_; rw [n6,decide_eq_false (by omega)],Md.refl _ _⟩))))
theorem th (l:List UInt8) (a:Option Addr) (c:Nat) (w:World) (hC:ao w.heap a (U8 l)) (hl:l.length≤1048576) (hc:l.length≤c):
 aT Tryz.prog 77 (List.toArray [.slice a l.length c]) w (fun v w'=>v=str (ed l)∧Wk w w'):=by
 refine enter Tryz.func77 rfl Tryz.ntmps77 rfl ?_
 refine ae (fun _ s=>(aj (((s _ _ (ae (fun _ A=>(ag (.slice a l.length c) ?_))))))))
 refine p (bp jU rfl rfl) (aj (((A _ _ (sq (fun _ j=>ae (fun _ q=>(p mv ?_))))))))
 refine p (gt rfl rfl) (p mv (gs (t:=8) rfl (fun hg8=> ?_) (fun hg8=> ?_)))
 refine pg rfl rfl rfl (az (.slice a l.length c) rfl) (pg rfl rfl rfl mv (pg rfl rfl rfl (sb rfl rfl (bC (by omega))) (pg rfl rfl rfl (aK jK rfl rfl (by omega) (ao.ok (hC) (oO (by omega)))) (pg rfl rfl rfl (ld ni rfl ((show _=some (Value.int .u8 (l.getD (l.length - 1) 0).toNat) from by rw [show ((l.length:Int) - 1).toNat=l.length - 1 from by omega]; exact oN hC (by omega)))) (pg rfl rfl rfl (bu rfl rfl) (p (bz rfl) (nl ?_)))))))
 refine tn (q _ _ (cd rfl (fun C=> ?_) (fun C=> ?_)))
 refine ae (fun _ i=>(ag (.slice a l.length c) (p mv (p (sb rfl rfl (bC (by omega))) (p (ki jK rfl rfl (by omega)) (p (lj la rfl (GJ hC ((l.length:Int) - 1).toNat) (by rw [List.length_take]; omega)) (p au ?_)))))))
 exact ak ((i _ _ (rt (tr (f1 rfl rfl (⟨by show str (l.take ((l.length:Int) - 1).toNat)=_; rw [pS (by omega) (C6 (by omega)),show ((l.length:Int) - 1).toNat=l.length - 1 from by omega],Md.refl _ _⟩))))))
 refine aE (tn (j _ _ (ae (fun _ i=>(ag (.slice a l.length c) (p (lj la rfl (hC) (rfl)) (p au (nl ?_))))))))
 exact tn (i _ _ (rt (f1 rfl rfl (⟨by show str l=_; rw [pR (fun h=>Em (by omega) h.2)],Md.refl _ _⟩))))
 refine sk rfl rfl rfl rfl (sk rfl rfl rfl rfl (sk rfl rfl rfl rfl (sk rfl rfl rfl rfl (sk rfl rfl rfl rfl (sk rfl rfl rfl rfl (p (bc rfl) (nl ?_)))))))
 refine tn (q _ _ (cf rfl (aE (tn (j _ _ (ae (fun _ i=>(ag (.slice a l.length c) (p (lj la rfl (hC) (rfl)) ?_)))))))))
 exact aj (((i _ _ (rt (f1 rfl rfl (⟨by show str l=_; rw [pR (by omega)],Md.refl _ _⟩))))))
end Go.Hb.fY
end
section
set_option maxRecDepth 20000
set_option maxHeartbeats 1000000
namespace Go.Hb.fg
open Go.Hb.cU
open Go.Proofs
open Go.Hb.eK Go.Hb.jy Go.Hb.gZ Go.Hb.kt Go.Hb.fJ Go.Hb.fY Go.Hb.fX
theorem CQ {l:List Tx} {x:Tx} :∀ {i:Nat},i < l.length→(∀ j,j < i→l.getD j []≠x)→l.getD i []=x→l.idxOf x=i:=by
 induction l with
 | nil=>intro i h; simp at h
 | cons a l ih=>
   intro i hi p c
   cases i with
   | zero=>simp only [List.getD_cons_zero] at c; rw [c,List.idxOf_cons_self]
   | succ i=>
     have h0:=p 0 (by omega)
     simp only [List.getD_cons_zero] at h0
     rw [List.idxOf_cons,show (a==x)=false from by simpa using h0,cond_false,ih (i:=i) (by simpa using hi) (fun j q=>by have :=p (j+1) (by omega); simpa using this) (by simpa using c)]
theorem Bv {a b:List Tx} (h:a.length≠b.length):a≠b:=fun h2=>h (by rw [h2])
theorem Cp {a b:List Tx} {i:Nat} (h:a.getD i []≠b.getD i []):a≠b:=fun h2=>h (by rw [h2])
theorem Cn {a b:List Tx} (hl:a.length=b.length) (h:∀ i,i < a.length→a.getD i []=b.getD i []):a=b:=by
 apply List.ext_getElem hl
 intro i h1 h2
 have :=h i h1
 rw [List.getD_eq_getElem?_getD,List.getD_eq_getElem?_getD,List.getElem?_eq_getElem h1,List.getElem?_eq_getElem h2] at this
 exact this
theorem Gs {s:Tx} {i:Nat} (h:i < s.length):(s.drop i).take 1= [s.getD i 0]:=by
 rw [drop_cons 0 h]; rfl
theorem wY (b:UInt8):jV [b]=eR b:=by
 unfold jV ep
 cases h:eR b <;> simp [h]
theorem vX {s:Tx} {i:Nat} (h:i < s.length):(s.take (i+1)).drop i= [s.getD i 0]:=by
 rw [List.drop_take,show i+1 - i=1 from by omega,Gs h]
theorem tD {s:Tx} (h:s= []∨ep s=false):eV s=21:=if_pos h
theorem BN {s:Tx} (h:s≠[]) (h1:ep s=true) (h2:32 < s.length):eV s=22:=by unfold eV; rw [if_neg (by rw [h1]; simp [h]),if_pos h2]
theorem BO {s:Tx} (h:s≠[]) (h1:ep s=true) (h2:¬32 < s.length):eV s=0:=by unfold eV; rw [if_neg (by rw [h1]; simp [h]),if_neg h2]
theorem EP {s:Tx} (h:s= [48]):dY true s= .ok []:=by unfold dY; rw [if_pos ⟨rfl,h⟩]
theorem vw {s:Tx} (h:s≠[48]):dY true s=dY false s:=by unfold dY; simp [h]
theorem EL {s:Tx} (h:(aY s).2.2.2≠0):dY false s= .error (aY s).2.2.2:=by unfold dY; rw [if_neg (fun h2=>by cases h2.1),if_pos h]
theorem EM {s:Tx} (h:(aY s).2.2.2=0) (h1:(aY s).2.2.1=true):dY false s= .error 114:=by unfold dY; rw [if_neg (fun h2=>by cases h2.1),if_neg (fun h2=>h2 h),if_pos h1]
theorem EN {s:Tx} (h:(aY s).2.2.2=0) (h1:(aY s).2.2.1=false) (h2:eV (aY s).1≠0):dY false s= .error (eV (aY s).1):=by unfold dY; rw [if_neg (fun h2=>by cases h2.1),if_neg (fun h2=>h2 h),if_neg (by rw [h1]; simp),if_pos h2]
theorem EO {s:Tx} (h:(aY s).2.2.2=0) (h1:(aY s).2.2.1=false) (h2:eV (aY s).1=0):dY false s= .ok (aY s).1:=by unfold dY; rw [if_neg (fun h2=>by cases h2.1),if_neg (fun h2=>h2 h),if_neg (by rw [h1]; simp),if_neg (fun h3=>h3 h2)]
theorem oe {s:Tx} {most:Int} (h:(dy s most).2=0):cJ s most= .ok (dy s most).1:=by unfold cJ; rw [if_neg (fun h2=>h2 h)]
theorem od {s:Tx} {most:Int} (h:(dy s most).2≠0):cJ s most= .error 13∧(dy s most).2=13:=by
 refine ⟨by unfold cJ; rw [if_pos h],?_⟩
 rcases uY s most with h1 | ⟨h1,_⟩
 · rw [h1]
 · rw [h1] at h; exact absurd rfl h
theorem uu (l:List Tx) (a:Option Addr) (c:Nat) (x:Tx) (w:World) (hC:bh w.heap a l) (ap:l.length≤1048576):
 aT Tryz.prog 93 (List.toArray [.slice a l.length c,str x]) w (fun v w'=>v= .int .i64 (if x∈l then (l.idxOf x:Nat) else -1:Int)∧w'=w):=by
 refine enter Tryz.func93 rfl Tryz.ntmps93 rfl ?_
 refine ae (fun _ I=>(aj (((I _ _ (sq (fun _ J=>ae (fun _ M=> ?_))))))))
 refine ag (.slice a l.length c) (p (bp ea rfl rfl) (p mv (ak ((M _ _ (aw (lp (fun E q wI=> ∃ (i:Nat),(i≤l.length)∧(∀ j,j < i→l.getD j []≠x)∧(wI=w)∧(q 0= .slice a l.length c)∧(q 1=str x)∧(q 7=U (l.length))∧(q 8=U i)∧(l.length - i=E)) _ ⟨0,(by omega),((fun j G=>by omega)),rfl,rfl,rfl,rfl,rfl,rfl⟩ ?_)))))))
 rintro E q wI ⟨i,hi,C,ab,ah,ai,al,am,rfl⟩
 refine fx 0 ah (fx 1 ai (fx 7 al (fx 8 am ?_)))
 subst ab
 refine ae (fun _ O=>(p (lt rfl rfl) (ak ((O _ _ (sq (fun _ V=>cd rfl (fun ac=> ?_) (fun ac=> ?_))))))))
 refine aE (tn (V _ _ (sq (fun _ A=>aw (ae (fun _ Y=>(ag (U i) (p (bD (U i) rfl) ?_))))))))
 refine ak ((Y _ _ (ae (fun _ Z=>(ag (str x) (ag (.slice a l.length c) (ag (U i) (p (aK bO rfl rfl (by omega) (ao.ok (hC) (bL (by omega)))) ?_))))))))
 refine p (ld bW rfl (bh.get (i:=i) hC (by omega))) (p (fp rfl rfl) (ak ((Z _ _ (cd rfl (fun s=> ?_) (fun s=> ?_))))))
 refine ae (fun _ aa=>(ag (U i) (p (bD (U i) rfl) (ak ((aa _ _ (rt (br ?_))))))))
 exact tr (tr (br (tr (f1 rfl rfl (⟨by rw [if_pos (by rw [s]; exact ee (by omega)),CQ (by omega) C s.symm]; rfl,rfl⟩)))))
 refine aE (bn (tn (A _ _ (rg rfl (p (ad rfl rfl (bC (by omega))) (p mv (nl (tn ?_))))))))
 exact ⟨_,by omega,i+1,(by omega),((fun j G=>by rcases Nat.lt_or_ge j i with h | h <;> first | exact C j h | (rw [show j=i by omega]; exact fun h2=>s h2.symm))),rfl,rfl,rfl,rfl,rfl,rfl⟩
 refine ext (te _ (te _ (be (tn (J _ _ (ae (fun _ A=>(p au ?_))))))))
 exact ak ((A _ _ (rt (f1 rfl rfl (⟨by rw [if_neg (fun h=>by obtain ⟨j,G,an⟩:=mH [] h; exact C j (by omega) an)]; rfl,rfl⟩)))))
theorem Bw (l m:List Tx) (s C:Nat) (a b:Option Addr) (c d:Nat) (w:World) (hC:bh w.heap a l) (V:bh w.heap b m) (hnl:l.length=s) (aC:m.length=C) (aB:s≤1048576):
 aT Tryz.prog 115 (List.toArray [.slice a s c,.slice b C d]) w (fun v w'=>v= .bool (decide (l=m))∧Wk w w'):=by
 refine enter Tryz.func115 rfl Tryz.ntmps115 rfl ?_
 refine ae (fun _ aa=>(aj (((aa _ _ (sq (fun _ ah=>ae (fun _ ai=> ?_))))))))
 refine ag (.slice a s c) (p (bp ea rfl rfl) (ag (.slice b C d) (p (bp ea rfl rfl) (p (dt rfl rfl) (ak ((ai _ _ (cd rfl (fun hc10=> ?_) (fun hc10=> ?_)))))))))
 refine ae (fun _ G=>(aj (((G _ _ (rt (tr (f1 rfl rfl ?_))))))))
 exact ⟨by show Value.bool false =_; rw [decide_eq_false (Bv (by omega))],Md.refl _ _⟩
 have ar:l.length=m.length:=by omega
 refine aE (tn (ah _ _ (sq (fun _ G=>ae (fun _ al=>(ag (.slice a s c) (p (bp ea rfl rfl) (p mv ?_))))))))
 refine ak ((al _ _ (aw (lp (fun O E wI=> ∃ (i:Nat),(i≤s)∧(∀ j,j < i→l.getD j []=m.getD j [])∧(Wk w wI)∧(E 0= .slice a s c)∧(E 1= .slice b C d)∧(E 12=U s)∧(E 13=U i)∧(s - i=O)) _ ⟨0,(by omega),((fun j Y=>by omega)),(Md.refl _ _),rfl,rfl,rfl,rfl,rfl⟩ ?_))))
 rintro O E wI ⟨i,hi,Z,A,av,ax,ay,az,rfl⟩
 refine fx 0 av (fx 1 ax (fx 12 ay (fx 13 az (ae (fun _ am=>(p (lt rfl rfl) (ak ((am _ _ (sq (fun _ an=>cd rfl (fun aq=> ?_) (fun aq=> ?_))))))))))))
 refine aE (tn (an _ _ (sq (fun _ I=>aw (ae (fun _ ap=>(ag (U i) (p (bD (U i) rfl) ?_))))))))
 refine ak ((ap _ _ (sq (fun _ ab=> ?_))))
 have q:(fun w'=>Wk wI w') wI.drew:=(Md.refl _ _).drew
 refine bI (fun w'=>Wk wI w') rfl wide q (bf 0 rfl (.slice a s c) q (bf 1 rfl (U i) q (aM 2 rfl (fun _ _=>aK bO rfl rfl (by omega) (ao.ok (hC.wk A) (bL (by omega)))) q (aM 3 rfl (fun w' J=>ld bW rfl (Wk.aA J (bh.get (i:=i) (hC.wk A) (by omega)))) q (bf 4 rfl (.slice b C d) q (bf 5 rfl (U i) q (aM 6 rfl (fun _ _=>aK bO rfl rfl (by omega) (ao.ok (V.wk A) (bL (by omega)))) q ?_)))))))
 refine aM 7 rfl (fun w' J=>ld bW rfl (Wk.aA J (bh.get (i:=i) (V.wk A) (by omega)))) q (aM 8 rfl (fun _ _=>lJ rfl rfl) q (hn (by kernel_rfl) (tn (ab _ _ (cd rfl (fun M=> ?_) (fun M=> ?_))))))
 refine ae (fun _ ac=>(aj (((ac _ _ (rt (br (tr ?_))))))))
 exact tr (br (tr (f1 rfl rfl (⟨by show Value.bool false =_; rw [decide_eq_false (Cp M)],A.drew⟩))))
 refine aE (bn (tn (I _ _ (rg rfl (p (ad rfl rfl (bC (by omega))) (p mv (nl (tn ?_))))))))
 exact ⟨_,by omega,i+1,(by omega),((fun j Y=>by rcases Nat.lt_or_ge j i with h | h <;> first | exact Z j h | (rw [show j=i by omega]; exact Classical.not_not.1 M))),A.drew,rfl,rfl,rfl,rfl,rfl⟩
 refine ext (te _ (te _ (be (tn (G _ _ (ae (fun _ I=>(p au ?_))))))))
 exact ak ((I _ _ (rt (f1 rfl rfl (⟨by show Value.bool true =_; rw [decide_eq_true (Cn ar (fun j Y=>Z j (by omega)))],A⟩)))))
theorem jg (rb ln:Nat) (e:Int) (w:World) (hln:Hb.aA w.heap rb 2=some (.int .i64 (ln:Nat))):
 cW Tryz.prog 66 (List.toArray [.pointer (some ⟨rb,0,none⟩),.int .i64 e]) w (fun v w'=>v=Value.tuple #[]∧e=0∧w'=w) (fun c w'=>c=eG 25 ln e∧e≠0∧w'=w):=by
 refine fk Tryz.func66 rfl Tryz.ntmps66 rfl ?_
 refine sq (fun i a=>rg rfl (p (az (.int .i64 e) rfl) (p (dt rfl rfl) (nl (tn (a _ _ (cd rfl (fun hc5=> ?_) (fun hc5=> ?_))))))))
 refine rg rfl (p (az (.pointer (some ⟨rb,0,none⟩)) rfl) (p (nc rfl) (p (fa mB rfl) (p (ld dN rfl (hln)) (p (az (.int .i64 e) rfl) (p (cz (ps:= [(0,.int .i64 1),(1,.int .i64 (ln:Nat)),(2,.int .i64 e)]) (L:= [.int .i64 1,.int .i64 (ln:Nat),.int .i64 e]) lQ rfl (rfl)) (p (D5 qB rfl) ?_)))))))
 exact EV rfl (fun q j=>⟨rfl,by omega,rfl⟩)
 refine aE (eW ?_)
 refine f0 rfl ?_
 exact ⟨rfl,by omega,rfl⟩
theorem dX (rb ln:Nat) (b:Bool) (e:Int) (w:World) (hln:Hb.aA w.heap rb 2=some (.int .i64 (ln:Nat))) (he:e≠0):
 cW Tryz.prog 34 (List.toArray [.pointer (some ⟨rb,0,none⟩),.bool b,.int .i64 e]) w (fun v w'=>v=Value.tuple #[]∧b=true∧w'=w) (fun c w'=>c=eG 25 ln e∧b=false∧w'=w):=by
 refine fk Tryz.func34 rfl Tryz.ntmps34 rfl ?_
 refine sq (fun q j=>rg rfl (p (az (.bool b) rfl) (p (no rfl) (nl (tn (j _ _ (cb rfl (fun a=> ?_) (fun a=> ?_))))))))
 refine rg rfl (p (az (.pointer (some ⟨rb,0,none⟩)) rfl) (p (az (.int .i64 e) rfl) (eP rfl (bE iW (jg rb ln e w hln) rfl fun v10 w10 hR10=> ?_) (fun c w' i A s=>⟨i.1,by simpa using a,i.2.2⟩))))
 exact absurd hR10.2.1 he
 refine aE (eW ?_)
 refine f0 rfl ?_
 exact ⟨rfl,by simpa using a,rfl⟩
theorem wm (B:Nat) (H:bj) (F:aH) (R:dM) (n:Nat) (r:List Tx) (rest:List Rw) (ln:Nat) (seen:List Tx) (w:World) (c:bo w B H F R ((n,r)::rest) ln seen):
 aT Tryz.prog 33 (List.toArray [aW H.rb]) w (fun v w'=>(∃ R',bo w' B H F R' rest n seen)∧Tg w' B 9 r.length v (r.map str)∧Md (fun k=>k=H.rb) w w'):=by
 obtain ⟨vr,vs,vn⟩:=R
 obtain ⟨a,cp,hv⟩:=c.rws.slice
 obtain rfl :vr= .slice a (rest.length+1) cp:=hv
 obtain ⟨q,vs,rfl⟩:∃ q vs',vs=q::vs':=by
  cases vs with
  | nil=>exact absurd c.rt.1 (by simp)
  | cons q vs'=>exact ⟨q,vs',rfl⟩
 obtain ⟨q1,q2⟩:=q
 obtain ⟨hq1,hq2⟩:=c.rt.2 0 (q1,q2) (n,r) rfl rfl
 obtain rfl :q1=n:=hq1
 obtain ⟨V,Y,rfl⟩:=hq2.slice
 have hrw:rest.length+1≤cp∧ao w.heap a (gR ((q1,.slice V r.length Y)::vs)):=c.rws.cells
 have hcl:=c.cells
 have hrl:H.rb < w.heap.size:=(Array.getElem?_eq_some_iff.1 hcl).1
 refine enter Tryz.func33 rfl Tryz.ntmps33 rfl ?_
 refine ae (fun _ G=>(aj (((G _ _ (ae (fun _ I=>(ag (aW H.rb) ?_))))))))
 refine p (nc rfl) (p (fa mA rfl) (p (ld k6 rfl ((aU hcl).trans rfl)) (p (aK ly rfl rfl (by omega) (ao.ok (hrw.2) (ou (by simp)))) (p (cR nf rfl (rfl) (ov (i:=0) hrw.2 rfl)) (e (al xl fun ac w3 ad E aa=> ?_))))))
 have hcl3:=E.md.aw hcl
 refine e (bJ sT rfl rfl rfl rfl (aa) (by simp) fun ah s Z=> ?_)
 have hcl4:=s.aw hcl3 (fun h=>by omega)
 refine ak ((I _ _ (ae (fun _ J=>(ag (aW H.rb) (ag (aW H.rb) (p (nc rfl) (p (fa mA rfl) ?_))))))))
 refine p (ld k6 rfl ((aU hcl4).trans rfl)) (p (kj ly rfl rfl (by omega)) (p (nc rfl) (p (fa mA rfl) (e (da sW rfl rfl (v:= .slice (dm a cp 1 2) rest.length (cp - 1)) rfl hcl4 (by show _ < 7; decide) fun w5 A ab=> ?_)))))
 have hb5:=A.B Z (fun h=>by omega)
 refine ak ((J _ _ (ae (fun _ M=>(ag (aW H.rb) (p (fa nT rfl) (p (ld dN rfl ((hb5.aA 0).trans rfl)) (p (nc rfl) ?_))))))))
 refine p (fa mB rfl) (e (da iD rfl rfl (v:=U q1) rfl ab (by show _ < 7; decide) fun w6 C hB6=> ?_))
 have hb6:=C.B hb5 (fun h=>by omega)
 refine ak ((M _ _ (ae (fun _ O=>(p (fa mu rfl) (p (ld kA rfl ((hb6.aA 1).trans rfl)) (p au (nl ?_))))))))
 refine tn (O _ _ (rt (f1 rfl rfl ?_)))
 have j:Md (fun k=>k=H.rb) w w6:=(((E.md.mono fun _ _ h=>h.elim).trans' s (fun k hk h=>by omega)).trans' A (fun _ _ h=>h)).trans' C (fun _ _ h=>h)
 exact ⟨⟨⟨.slice (dm a cp 1 2) rest.length (cp - 1),vs,vn⟩,c.cj (R':=⟨.slice (dm a cp 1 2) rest.length (cp - 1),vs,vn⟩) j hB6 rfl (c.rws.lu (m:=2) ((vO _).trans (by have :=c.rt.1; simp at this; simp [this]))) (eB.tl c.rt)⟩,hq2.md j (eE hcl (by decide)),j⟩
theorem qn (B:Nat) (H:bj) (F:aH) (R:dM) (rows:List Rw) (ln:Nat) (seen:List Tx) (hd:List Tx) (ab j:Nat) (A:Option Addr) (C:Nat) (w:World) (G:bo w B H F R rows ln seen) (ai:Tg w ab 9 j (.slice A j C) (hd.map str)) (I:hd.length=j) (aD:j≤1000) (hrow:∀ q∈rows,q.2.length≤70000):
 cW Tryz.prog 98 (List.toArray [.pointer (some ⟨H.rb,0,none⟩),.slice A j C]) w (fun v w'=> ∃ n r rest,rows=(n,r)::rest∧r.take hd.length=hd∧(∃ R',bo w' B H F R' rest n seen)∧Tg w' B 9 r.length v (r.map str)∧Md (fun k=>k=H.rb) w w') (fun c w'=>((rows= []∧c=eG 25 H.eof 116)∨(∃ n r rest,rows=(n,r)::rest∧r.take hd.length≠hd∧c=eG 25 n 116))∧Md (fun k=>k=H.rb) w w'):=by
 obtain ⟨a,cp,hv⟩:=G.rws.slice
 have hcl:=G.cells
 have hcl0:=G.cells
 unfold mQ at hcl
 rw [hv] at hcl
 refine fk Tryz.func98 rfl Tryz.ntmps98 rfl ?_
 refine sq (fun ax aj=>rg rfl (p au (nl (tn (aj _ _ (sq (fun ay ak=>sq (fun aB al=>rg rfl ?_))))))))
 refine p (az (.pointer (some ⟨H.rb,0,none⟩)) rfl) (p (nc rfl) (p (fa mA rfl) (p (ld k6 rfl ((aU hcl).trans rfl)) (p (bp oK rfl rfl) (p (bu rfl rfl) (nl (tn (al _ _ ?_))))))))
 refine cd rfl (fun Z=> ?_) (fun Z=> ?_)
 obtain rfl :rows= []:=List.eq_nil_of_length_eq_zero (by omega)
 refine sq (fun ac J=>rg rfl (p (az (.pointer (some ⟨H.rb,0,none⟩)) rfl) (p (az (.pointer (some ⟨H.rb,0,none⟩)) rfl) (p (nc rfl) (p (fa Ce rfl) (p (ld dN rfl ((aU hcl0).trans rfl)) (p (nc rfl) ?_)))))))
 refine p (fa mB rfl) (e (da iD rfl rfl (v:= .int .i64 (H.eof:Nat)) rfl hcl0 (by show _ < 7; decide) fun w6 am hB6=>nl (tn (J _ _ (rg rfl (p (az (.pointer (some ⟨H.rb,0,none⟩)) rfl) (eP rfl (bE iW (jg H.rb H.eof 116 w6 ((aU hB6).trans rfl)) rfl fun v20 w20 an=> ?_) (fun c w' i aa V=>⟨.inl ⟨rfl,i.1⟩,i.2.2 ▸ am⟩))))))))
 exact absurd an.2.1 (by decide)
 obtain ⟨q,rest,rfl⟩:∃ q rest,rows=q::rest:=by
  cases rows with
  | nil=>exact absurd rfl Z
  | cons q rest=>exact ⟨q,rest,rfl⟩
 obtain ⟨n,r⟩:=q
 refine aE (tn (ak _ _ (sq (fun ac J=>rg rfl (p (az (.pointer (some ⟨H.rb,0,none⟩)) rfl) (e (cl sy (wm B H F R n r rest ln seen _ G) rfl fun aF aw ap=> ?_)))))))
 obtain ⟨⟨ae,hR2⟩,hT,E⟩:=ap
 obtain ⟨ag,ah,rfl⟩:=hT.slice
 have hTc:=hT.bK
 have hrl:r.length≤70000:=hrow (n,r) (by simp)
 have hH2:=ai.md E (eE hcl0 (by decide))
 have hHc:=hH2.bK
 have hln2:=hR2.cE
 refine p au (nl (tn (J _ _ (sq (fun aC Y=>rg rfl (p (az (.pointer (some ⟨H.rb,0,none⟩)) rfl) (p mv (p (bp ea rfl rfl) ?_))))))))
 refine p (az (.slice A j C) rfl) (p (bp ea rfl rfl) (p (ge rfl rfl) (p mv (gs (t:=29) rfl (fun ar=> ?_) (fun ar=> ?_)))))
 refine pg rfl rfl rfl mv (pg rfl rfl rfl (az (.slice A j C) rfl) (pg rfl rfl rfl (bp ea rfl rfl) (pg rfl rfl rfl (ki bO rfl rfl (by omega)) (pg rfl rfl rfl (az (.slice A j C) rfl) (eg rfl rfl rfl (cl yt (Bw (r.take j) hd _ _ ag A ah C _ (by have :=ao.take hTc.2 j; unfold bh; rw [List.map_take]; exact this) hHc.2 (by rw [List.length_take]; omega) I (by omega)) rfl fun aG w35 aq=> ?_))))))
 obtain ⟨rfl,s⟩:=aq
 refine p (bz rfl) (eP rfl (bE dS (dX H.rb n _ 116 w35 (by first | exact hR2.cE | exact Wk.aA s hR2.cE) (by decide)) rfl fun av w37 O=> ?_) (fun c w' i aa V=>⟨.inr ⟨n,r,rest,rfl,(by rw [I]; first | exact of_decide_eq_false i.2.1 | exact fun h=>by have :=congrArg List.length h; rw [List.length_take] at this; omega),i.1⟩,(by rw [i.2.2]; first | exact E.trans' s (fun _ _ h=>h.elim) | exact E)⟩))
 obtain ⟨rfl,U,rfl⟩:=O
 refine nl (tn (Y _ _ (sq (fun ad M=>rg rfl (p mv (p au (nl (tn (M _ _ ?_)))))))))
 refine rt (eW ?_)
 exact f1 rfl rfl (⟨n,r,rest,rfl,(by rw [I]; exact of_decide_eq_true U),⟨ae,hR2.wk s⟩,hT.wk s,E.trans' s (fun _ _ h=>h.elim)⟩)
 refine sk rfl rfl rfl rfl (sk rfl rfl rfl rfl (sk rfl rfl rfl rfl (sk rfl rfl rfl rfl (sk rfl rfl rfl rfl (sk rfl rfl rfl rfl (p (bc rfl) (eP rfl (bE dS (dX H.rb n _ 116 aw (by first | exact hR2.cE | exact Wk.aA s hR2.cE) (by decide)) rfl fun av w37 O=> ?_) (fun c w' i aa V=>⟨.inr ⟨n,r,rest,rfl,(by rw [I]; first | exact of_decide_eq_false i.2.1 | exact fun h=>by have :=congrArg List.length h; rw [List.length_take] at this; omega),i.1⟩,(by rw [i.2.2]; first | exact E.trans' s (fun _ _ h=>h.elim) | exact E)⟩))))))))
 obtain ⟨rfl,U,rfl⟩:=O
 refine nl (tn (Y _ _ (sq (fun ad M=>rg rfl (p mv (p au (nl (tn (M _ _ ?_)))))))))
 refine rt (eW ?_)
 exact f1 rfl rfl (absurd U (by decide))
theorem oh (rb ln:Nat) (s:Tx) (most:Int) (w:World) (hln:Hb.aA w.heap rb 2=some (.int .i64 (ln:Nat))) (hs:s.length≤1048576) (hm: -9223372036854775808≤most∧most≤9223372036854775807):
 cW Tryz.prog 97 (List.toArray [.pointer (some ⟨rb,0,none⟩),str s,.int .i64 most]) w (fun v w'=> ∃ a,cJ s most= .ok a∧v= .int .i64 (a:Nat)∧Wk w w') (fun c w'=> ∃ e,cJ s most= .error e∧c=eG 25 ln e∧Wk w w'):=by
 refine fk Tryz.func97 rfl Tryz.ntmps97 rfl ?_
 refine sq (fun J j=>rg rfl (p au (nl (tn (j _ _ (sq (fun M q=>rg rfl (p (az (str s) rfl) ?_))))))))
 refine p (az (.int .i64 most) rfl) (e (cl nz (og s most _ hs hm) rfl fun dw w12 E=> ?_))
 obtain ⟨rfl,hE12⟩:=E
 refine p mv (p (xt rfl rfl) (p (xt rfl rfl) (p au (p au (nl (tn (q _ _ (sq (fun O A=> ?_)))))))))
 refine rg rfl (p (az (.pointer (some ⟨rb,0,none⟩)) rfl) (p mv (eP rfl (bE iW (jg rb ln (dy s most).2 w12 (Wk.aA hE12 hln)) rfl fun Y w17 G=> ?_) (fun c w' i Z V=>⟨13,(od i.2.1).1,(by rw [i.1,(od i.2.1).2]; rfl),(by rw [i.2.2]; exact hE12)⟩))))
 obtain ⟨rfl,I,rfl⟩:=G
 refine nl (tn (A _ _ (sq (fun U C=>rg rfl (p mv (p au (nl (tn (C _ _ ?_)))))))))
 refine rt (eW ?_)
 exact f1 rfl rfl (⟨_,oe I,rfl,hE12⟩)
theorem qQ (rb ln:Nat) (s:Tx) (w:World) (hln:Hb.aA w.heap rb 2=some (.int .i64 (ln:Nat))) (hs:s.length≤1048576):
 cW Tryz.prog 94 (List.toArray [.pointer (some ⟨rb,0,none⟩),str s]) w (fun v w'=>v= .tuple #[]∧ep s=true∧Wk w w') (fun c w'=>c=eG 25 ln 21∧ep s=false∧Wk w w'):=by
 refine fk Tryz.func94 rfl Tryz.ntmps94 rfl ?_
 refine sq (fun ah M=>rg rfl (p (az (str s) rfl) (p (bY u9 rfl rfl) (p mv (nl (tn (M _ _ (aw ?_))))))))
 refine lp (fun E a wI=> ∃ (i:Nat),(i≤s.length)∧(∀ j,j < i→eR (s.getD j 0)=true)∧(Wk w wI)∧(a 0= .pointer (some ⟨rb,0,none⟩))∧(a 1=str s)∧(a 6= .int .i64 (s.length:Nat))∧(a 7= .int .i64 (i:Nat))∧(s.length - i=E)) _ ⟨0,(by omega),((fun j G=>by omega)),(Md.refl _ _),rfl,rfl,rfl,rfl,rfl⟩ ?_
 rintro E a wI ⟨i,hi,I,q,ab,ac,ae,ag,rfl⟩
 refine fx 0 ab (fx 1 ac (fx 6 ae (fx 7 ag (sq (fun ai O=>rg rfl (p (lt rfl rfl) (nl (tn (O _ _ (sq (fun aj U=>cd rfl (fun hc8=> ?_) (fun hc8=> ?_))))))))))))
 refine aE (tn (U _ _ (sq (fun ak V=>aw (sq (fun al Y=>rg rfl (p (az (.int .i64 (i:Nat)) rfl) (p (bD (.int .i64 (i:Nat)) rfl) ?_))))))))
 refine nl (tn (Y _ _ (rg rfl (p (az (.pointer (some ⟨rb,0,none⟩)) rfl) (p (az (str s) rfl) (p (az (.int .i64 (i:Nat)) rfl) (p (az (.int .i64 (i:Nat)) rfl) (p (bd ((i+1:Nat):Int) rfl rfl (aO (by omega) (by omega))) ?_))))))))
 refine p (mT u9 rfl rfl rfl (by omega)) (e (cl sF (xb ((s.take (i+1)).drop i) _ (by rw [List.length_drop,List.length_take]; omega)) rfl fun an w16 Z=> ?_))
 obtain ⟨rfl,A⟩:=Z
 refine eP rfl (bE dS (dX rb ln _ 21 w16 (Wk.aA (q.trans A) hln) (by decide)) rfl fun ao w17 aa=> ?_) (fun c w' C ap am=>⟨C.1,nr (i:=i) (by omega) (by have h:=C.2.1; rw [vX (by omega :i < s.length),wY] at h; exact h),(by rw [C.2.2]; exact q.trans A)⟩)
 obtain ⟨rfl,J,rfl⟩:=aa
 rw [vX (by omega :i < s.length),wY] at J
 refine nl (bn (tn (V _ _ (rg rfl (p (ad rfl rfl (bC (by omega))) (p mv (nl (tn ?_))))))))
 exact ⟨_,by omega,i+1,(by omega),((fun j G=>by rcases Nat.lt_or_ge j i with h | h <;> first | exact I j h | (rw [show j=i by omega]; exact J))),(q.trans A),rfl,rfl,rfl,rfl,rfl⟩
 refine ext (te _ (te _ (be (eW ?_))))
 refine f0 rfl ?_
 exact ⟨rfl,nu (fun j G=>I j (by omega)),q⟩
theorem vD (rb ln:Nat) (s:Tx) (w:World) (hln:Hb.aA w.heap rb 2=some (.int .i64 (ln:Nat))) (hs:s.length≤1048576):
 cW Tryz.prog 116 (List.toArray [.pointer (some ⟨rb,0,none⟩),str s]) w (fun v w'=>v=str s∧eV s=0∧Wk w w') (fun c w'=>c=eG 25 ln (eV s:Nat)∧eV s≠0∧Wk w w'):=by
 refine fk Tryz.func116 rfl Tryz.ntmps116 rfl ?_
 refine sq (fun O C=>rg rfl (p au (nl (tn (C _ _ (sq (fun U E=>rg rfl (p (az (.pointer (some ⟨rb,0,none⟩)) rfl) ?_))))))))
 refine p (az (str s) rfl) (eP rfl (bE pz (qQ rb ln s w hln hs) rfl fun ab w7 hR7=> ?_) (fun c w' a A j=>by have h:eV s=21:=tD (.inr a.2.1); exact ⟨by rw [h]; exact a.1,by rw [h]; decide,a.2.2⟩))
 obtain ⟨rfl,q,hE7⟩:=hR7
 refine nl (tn (E _ _ (sq (fun V G=>rg rfl (p (az (.pointer (some ⟨rb,0,none⟩)) rfl) (p (az (str s) rfl) (p (lJ rfl rfl) (eP rfl (bE dS (dX rb ln _ 21 w7 (Wk.aA hE7 hln) (by decide)) rfl fun v11 w11 hR11=> ?_) (fun c w' a A j=>by have h:eV s=21:=tD (.inl (Classical.not_not.1 (of_decide_eq_false a.2.1))); exact ⟨by rw [h]; exact a.1,by rw [h]; decide,by rw [a.2.2]; exact hE7⟩)))))))))
 obtain ⟨rfl,i,rfl⟩:=hR11
 have i:s≠[]:=of_decide_eq_true i
 refine nl (tn (G _ _ (sq (fun Y I=>rg rfl (p (az (.pointer (some ⟨rb,0,none⟩)) rfl) (p (az (str s) rfl) (p (bY u9 rfl rfl) (p (le rfl rfl) ?_))))))))
 refine eP rfl (bE dS (dX rb ln _ 22 w11 (Wk.aA hE7 hln) (by decide)) rfl fun aa w16 M=> ?_) (fun c w' a A j=>by have h0:=of_decide_eq_false a.2.1; have h:eV s=22:=BN i q (by omega); exact ⟨by rw [h]; exact a.1,by rw [h]; decide,by rw [a.2.2]; exact hE7⟩)
 obtain ⟨rfl,hx16,rfl⟩:=M
 have hx16:=of_decide_eq_true hx16
 refine nl (tn (I _ _ (sq (fun Z J=>rg rfl (p (az (str s) rfl) (p (bD (str s) rfl) (nl (tn (J _ _ ?_)))))))))
 refine rt (eW ?_)
 exact f1 rfl rfl (⟨rfl,BO i q (by omega),hE7⟩)
theorem vz (rb ln:Nat) (s:Tx) (w:World) (hln:Hb.aA w.heap rb 2=some (.int .i64 (ln:Nat))) (hs:s.length≤1048576):
 cW Tryz.prog 99 (List.toArray [.pointer (some ⟨rb,0,none⟩),str s]) w (fun v w'=> ∃ a,dY false s= .ok a∧v=str a∧Wk w w') (fun c w'=> ∃ e,dY false s= .error e∧c=eG 25 ln e∧Wk w w'):=by
 refine fk Tryz.func99 rfl Tryz.ntmps99 rfl ?_
 refine sq (fun ab G=>rg rfl (p au (nl (tn (G _ _ (sq (fun ac I=>rg rfl (p (az (str s) rfl) ?_))))))))
 refine e (cl pq (rm s _ hs) rfl fun v11 w11 hR11=> ?_)
 obtain ⟨rfl,j⟩:=hR11
 have hwl:=oS s
 refine p mv (p (xt rfl rfl) (p (xt rfl rfl) (p (xt rfl rfl) (p (xt rfl rfl) (p au (p au (p au ?_)))))))
 refine p au (nl (tn (I _ _ (sq (fun ad J=>rg rfl (p (az (.pointer (some ⟨rb,0,none⟩)) rfl) (p mv (eP rfl (bE iW (jg rb ln ((aY s).2.2.2:Nat) w11 (Wk.aA j hln)) rfl fun ah w18 U=> ?_) (fun c w' i E C=>⟨_,EL (by have :=i.2.1; omega),i.1,by rw [i.2.2]; exact j⟩)))))))))
 obtain ⟨rfl,q,rfl⟩:=U
 have q:(aY s).2.2.2=0:=by omega
 refine nl (tn (J _ _ (sq (fun ae M=>rg rfl (p (az (.pointer (some ⟨rb,0,none⟩)) rfl) (p mv (p (no rfl) (eP rfl (bE dS (dX rb ln _ 114 w18 (Wk.aA j hln) (by decide)) rfl fun ai aa V=> ?_) (fun c w' i E C=>⟨_,EM q (by simpa using i.2.1),i.1,by rw [i.2.2]; exact j⟩)))))))))
 obtain ⟨rfl,A,rfl⟩:=V
 have A:(aY s).2.2.1=false :=by simpa using A
 refine nl (tn (M _ _ (sq (fun ag O=>rg rfl (p (az (.pointer (some ⟨rb,0,none⟩)) rfl) (p mv (eP rfl (bE sc (vD rb ln (aY s).1 aa (Wk.aA j hln) (by omega)) rfl fun aj w25 Y=> ?_) (fun c w' i E C=>⟨_,EN q A i.2.1,i.1,j.trans i.2.2⟩))))))))
 obtain ⟨rfl,Z,hE25⟩:=Y
 refine p au (nl (tn (O _ _ (rt (eW ?_)))))
 exact f1 rfl rfl (⟨_,EO q A Z,rfl,j.trans hE25⟩)
theorem vv (rb ln:Nat) (s:Tx) (w:World) (hln:Hb.aA w.heap rb 2=some (.int .i64 (ln:Nat))) (hs:s.length≤1048576):
 cW Tryz.prog 100 (List.toArray [.pointer (some ⟨rb,0,none⟩),str s]) w (fun v w'=> ∃ a,dY true s= .ok a∧v=str a∧Wk w w') (fun c w'=> ∃ e,dY true s= .error e∧c=eG 25 ln e∧Wk w w'):=by
 refine fk Tryz.func100 rfl Tryz.ntmps100 rfl ?_
 refine sq (fun J C=>rg rfl (p au (nl (tn (C _ _ (sq (fun M E=>sq (fun O G=>rg rfl ?_))))))))
 refine p (az (str s) rfl) (p (fp rfl rfl) (nl (tn (G _ _ (cd rfl (fun i=> ?_) (fun i=> ?_))))))
 refine sq (fun q j=>rg rfl (p au (nl (tn (j _ _ (rt (tr (eW ?_))))))))
 exact f1 rfl rfl (⟨[],EP i,rfl,Md.refl _ _⟩)
 refine aE (tn (E _ _ (sq (fun q j=>rg rfl (p (az (.pointer (some ⟨rb,0,none⟩)) rfl) (p (az (str s) rfl) (eP rfl (bE sK (vz rb ln s w hln hs) rfl fun v9 w9 hR9=> ?_) (fun c w' I V U=>by obtain ⟨e,he,h⟩:=I; exact ⟨e,by rw [vw i]; exact he,h⟩))))))))
 obtain ⟨a,ha,rfl,A⟩:=hR9
 refine p au (nl (tn (j _ _ (rt (eW ?_)))))
 exact f1 rfl rfl (⟨a,by rw [vw i]; exact ha,rfl,A⟩)
end Go.Hb.fg
end
section
set_option maxRecDepth 20000
set_option maxHeartbeats 1000000
namespace Go.Hb.jt
open Go.Hb.cU
open Go.Proofs
open Go.Hb.eK Go.Hb.fg Go.Hb.jy Go.Hb.gZ Go.Hb.kt Go.Hb.fJ Go.Hb.fY Go.Hb.fX
theorem Cg {kind:Nat} {s:Tx} (h:(eS kind s).2=0):(eS kind s).1≠0:=by
 unfold eS at h ⊢
 split
 · rename_i h0; rw [if_pos h0] at h; cases h
 · rename_i h0; exact h0
theorem Ch {F:aH} {s:Tx} (h:(eS F.kind s).2≠0):eX F s= .error (eS F.kind s).2:=if_pos h
theorem Ci {F:aH} {s:Tx} (h:(eS F.kind s).2=0) (h1:cX F (eS F.kind s).1=true):eX F s= .error 115:=by unfold eX; rw [if_neg (fun h2=>h2 h),if_pos h1]
theorem Cj {F:aH} {s:Tx} (h:(eS F.kind s).2=0) (h1:cX F (eS F.kind s).1=false):eX F s= .ok (eS F.kind s).1:=by unfold eX; rw [if_neg (fun h2=>h2 h),if_neg (by rw [h1]; exact Bool.noConfusion)]
theorem F8 {F:aH} {rows:List Rw} {ln e:Nat} {r:List Tx} (h:eX F (r.getD 1 [])= .error e):fU F rows ln r= .error (ln,e):=by unfold fU; rw [h]
theorem F9 {F:aH} {rows:List Rw} {ln x:Nat} {r:List Tx} (h:eX F (r.getD 1 [])= .ok x):fU F rows ln r= .ok ({F with sp:=F.sp.set (dK.idxOf (r.getD 0 [])) x},rows):=by unfold fU; rw [h]
def ji:List Tx:= [fG,fL,fQ,gd,gx,eY,e0,bU]
theorem vo (hs:List Tx):ordered hs=true↔∀ k∈ji,k∉hs:=by
 unfold ordered
 rw [Bool.not_eq_true',List.any_eq_false]
 have hm:∀ k,k∈ji↔(k∈dK∨k=eY∨k=e0∨k=bU):=by
  intro k
  simp only [ji,dK,List.mem_cons,List.not_mem_nil,or_false,or_assoc]
 constructor
 · intro h k hk a
   have :=h k a
   rw [decide_eq_true_iff] at this
   exact this ((hm k).1 hk)
 · intro h x c hd
   rw [decide_eq_true_iff] at hd
   exact h x ((hm x).2 hd) c
theorem FN {F:aH} {rows:List Rw} {ln:Nat} {r:List Tx} (h:ep (r.getD 1 [])=false):jk F rows ln r= .error (ln,21):=if_pos h
theorem FO {F:aH} {rows:List Rw} {ln:Nat} {r:List Tx} (h:ep (r.getD 1 [])=true):jk F rows ln r= .ok ({F with mj:=r.getD 1 []},rows):=if_neg (by rw [h]; exact Bool.noConfusion)
theorem GB {F:aH} {rows:List Rw} {ln:Nat} {r:List Tx} (h:(letE (r.getD 1 [])).2≠0):jl F rows ln r= .error (ln,(letE (r.getD 1 [])).2):=if_pos h
theorem GC {F:aH} {rows:List Rw} {ln:Nat} {r:List Tx} (h:(letE (r.getD 1 [])).2=0):jl F rows ln r= .ok ({F with tr:=(letE (r.getD 1 [])).1},rows):=if_neg (fun h2=>h2 h)
theorem D1 {F:aH} {rows:List Rw} {ln e:Nat} {r:List Tx} (h:cJ (r.getD 1 []) 64= .error e):gA F rows ln r= .error (ln,e):=by unfold gA; rw [h]
theorem D2 {F:aH} {rows:List Rw} {ln n:Nat} {r:List Tx} (h:cJ (r.getD 1 []) 64= .ok n) (h0:n=0):gA F rows ln r= .error (ln,13):=by unfold gA; rw [h]; exact if_pos h0
theorem D3 {F:aH} {rows:List Rw} {ln n:Nat} {r:List Tx} (h:cJ (r.getD 1 []) 64= .ok n) (h0:n≠0):gA F rows ln r= .ok ({F with least:=n},rows):=by unfold gA; rw [h]; exact if_neg h0
theorem Dm {F:aH} {seen:List Tx} {rows:List Rw} {ln:Nat} {r:List Tx} {k:Tx} (hk:k∈ji) (h:k∈seen):gy F seen rows ln r= .error (ln,113):=by
 unfold gy
 rw [if_pos]
 cases ho:ordered seen with
 | false =>rfl
 | true =>exact absurd h ((vo seen).1 ho k hk)
theorem Dn {F:aH} {seen:List Tx} {rows:List Rw} {ln:Nat} {r:List Tx} (h:ordered seen=true) (h0:gh (r.getD 1 [])=0):gy F seen rows ln r= .error (ln,114):=by unfold gy; rw [if_neg (by rw [h]; exact Bool.noConfusion),if_pos h0]
theorem Dp {F:aH} {seen:List Tx} {rows:List Rw} {ln:Nat} {r:List Tx} (h:ordered seen=true) (h0:gh (r.getD 1 [])≠0):gy F seen rows ln r= .ok ({F with kind:=gh (r.getD 1 [])},rows):=by unfold gy; rw [if_neg (by rw [h]; exact Bool.noConfusion),if_neg h0]
def kinds:List Tx:= [qs,qp,qq]
theorem Dk (s:Tx):((if s∈kinds then (kinds.idxOf s:Nat) else -1:Int))=(gh s:Nat) - 1:=by
 unfold gh kinds
 by_cases h1:s=qs
 · subst h1; decide
 · by_cases h2:s=qp
   · subst h2; decide
   · by_cases h3:s=qq
     · subst h3; decide
     · rw [if_neg (by simp [h1,h2,h3]),if_neg h1,if_neg h2,if_neg h3]; rfl
theorem Dl (s:Tx):gh s≤3:=by
 unfold gh
 split
 · omega
 · split
   · omega
   · split <;> omega
theorem qe (B:Nat) (H:bj) (F:aH) (V:db) (R:dM) (rows:List Rw) (ln:Nat) (seen:List Tx) (s:Tx) (w:World) (A:bH w B H.fb H.mc F V) (i:bo w B H F R rows ln seen) (hk:F.kind=1∨F.kind=2∨F.kind=3) (hs:s.length≤1048576):
 cW Tryz.prog 96 (List.toArray [.pointer (some ⟨H.rb,0,none⟩),str s]) w (fun v w'=> ∃ x,eX F s= .ok x∧x≠0∧v=aB x∧cX F x=false∧Wk w w') (fun c w'=> ∃ e,eX F s= .error e∧c=eG 25 ln (e:Nat)∧Wk w w'):=by
 obtain ⟨ai,Y,Z⟩:=i.tm
 refine fk Tryz.func96 rfl Tryz.ntmps96 rfl ?_
 refine sq (fun ac C=>rg rfl (p au (nl (tn (C _ _ (sq (fun ad E=>rg rfl (p (az (.pointer (some ⟨H.rb,0,none⟩)) rfl) ?_))))))))
 refine p (nc rfl) (p (fa dP rfl) (p (ld dC rfl ((aU i.cells).trans rfl)) (p (nc rfl) (p (fa dF rfl) (p (fa lB rfl) (p (ld dN rfl ((aU A.cells).trans rfl)) (p (az (str s) rfl) ?_)))))))
 refine e (cl ys (Et F.kind s _ hk hs) rfl fun aj w17 M=> ?_)
 obtain ⟨rfl,hE17⟩:=M
 refine p mv (p (xt rfl rfl) (p (xt rfl rfl) (p au (p au (nl (tn (E _ _ (sq (fun ae G=> ?_)))))))))
 refine rg rfl (p (az (.pointer (some ⟨H.rb,0,none⟩)) rfl) (p mv (eP rfl (bE iW (jg H.rb ln ((eS F.kind s).2:Nat) w17 (Wk.aA hE17 i.cE)) rfl fun ak aa O=> ?_) (fun c w' a ab A=>⟨_,Ch (by have :=a.2.1; omega),a.1,by rw [a.2.2]; exact hE17⟩))))
 obtain ⟨rfl,q,rfl⟩:=O
 have q:(eS F.kind s).2=0:=by omega
 have hx0:=Cg q
 refine nl (tn (G _ _ (sq (fun ag I=>rg rfl (p (az (.pointer (some ⟨H.rb,0,none⟩)) rfl) (p (az (.pointer (some ⟨H.rb,0,none⟩)) rfl) (p (nc rfl) (p (fa qa rfl) ?_))))))))
 refine p (ld ma rfl (Wk.aA hE17 ((aU i.cells).trans rfl))) (p mv (p (jf dp js kR (Y.wk hE17) rfl rfl (⟨_,rfl⟩) (Z _ hx0)) (p (bu rfl rfl) (eP rfl (bE dS (dX H.rb ln _ 115 aa (Wk.aA hE17 i.cE) (by decide)) rfl fun al w31 U=> ?_) (fun c w' a ab A=>⟨115,Ci q (by have h:=a.2.1; rw [s7] at h; simpa using h),a.1,by rw [a.2.2]; exact hE17⟩)))))
 obtain ⟨rfl,j,rfl⟩:=U
 rw [s7] at j
 have j:cX F (eS F.kind s).1=false :=by simpa using j
 refine nl (tn (I _ _ (sq (fun ah J=>rg rfl (p mv (p au (nl (tn (J _ _ ?_)))))))))
 refine rt (eW ?_)
 exact f1 rfl rfl (⟨_,Cj q j,hx0,rfl,j,hE17⟩)
theorem mU (B:Nat) (H:bj) (F:aH) (rows:List Rw) (ln:Nat) (seen:List Tx) (r:List Tx) (aj:Nat) (E:Option Addr) (I:Nat) (w:World) (G:St w B H F rows ln seen) (hT:Tg w aj 9 r.length (.slice E r.length I) (r.map str)) (hr:r.length=2) (hrl:∀ x∈r,x.length≤70000) (ae:r.getD 0 []∈dK) (ay:F.sp.getD (dK.idxOf (r.getD 0 [])) 0=0):
 cW Tryz.prog 61 (List.toArray [.pointer (some ⟨H.rb,0,none⟩),.slice E r.length I]) w (eN B H seen (fU F rows ln r) w) (eM B H (fU F rows ln r) w):=by
 obtain ⟨V,R,q,A,s⟩:=G
 have hTs:=hT.bK
 have ac:¬(H.rb=H.fb):=fun h=>by have h1:=A.cells; rw [h,q.cells] at h1; cases h1
 have aG:(r.getD 1 []).length≤70000:=hrl _ (ee (by omega))
 have ad:¬(bk E=H.fb):=Tg.mK hT (bL (by omega)) q.cells (by decide)
 obtain ⟨aM,Y,ag⟩:=A.tm
 obtain ⟨aL,aI,aJ⟩:=A.sm
 have hix:dK.idxOf (r.getD 0 []) < 5:=List.idxOf_lt_length_iff.2 ae
 refine fk Tryz.func61 rfl Tryz.ntmps61 rfl ?_
 refine sq (fun aD am=>rg rfl (p (az (.pointer (some ⟨H.rb,0,none⟩)) rfl) (p (az (.slice E r.length I) rfl) (p (aK bO rfl rfl (by omega) (ao.ok (hTs.2) (bL (by omega)))) (p (ld bW rfl (bh.get (i:=1) hTs.2 (by omega))) (eP rfl (bE pA (qe B H F V R rows ln seen (r.getD 1 []) w q A s.kd (by omega)) rfl fun v9 w9 hR9=> ?_) (fun c w' ap aP q=>by obtain ⟨e,he,h,h2⟩:=ap; exact ⟨ln,e,F8 he,h,Wk.mw h2⟩)))))))
 obtain ⟨x,aC,hx0,rfl,ai,j⟩:=hR9
 have hF9:=q.wk j
 have hR9:=A.wk j
 refine p au (nl (tn (am _ _ (sq (fun aE an=>rg rfl (p (az (.pointer (some ⟨H.rb,0,none⟩)) rfl) (p (nc rfl) (p (fa qa rfl) ?_))))))))
 refine p (ld ma rfl (Wk.aA j ((aU A.cells).trans rfl))) (p mv (p (jf dp js kR (Y.wk j) rfl rfl (⟨_,rfl⟩) (show _=Value.int .i64 0 from (ag x hx0).trans (by rw [ai]; rfl))) (p (bd ((1:Nat):Int) rfl rfl (aO (by omega) (by omega))) (e (lV dp kR (Y.wk j) rfl rfl rfl (⟨_,rfl⟩) fun C J aq=> ?_)))))
 have hR1:=hR9.mJ (F':= {F with sp:=F.sp.set (dK.idxOf (r.getD 0 [])) x}) J aq rfl (wo ai ag (AM (by rw [q.fT]; exact hix) ay))
 have hF1:=hF9.mJ hR9 J
 have hT1:=(hT.wk j).md J (fun k hk cur z hg=>by subst hk; exact (Y.wk j).jQ hg)
 have hT1s:=hT1.bK
 refine nl (tn (an _ _ ?_))
 have a:(fun w'=>Md (fun k=>k=H.fb) C w') C.drew:=(Md.refl _ _).drew
 refine bI (fun w'=>Md (fun k=>k=H.fb) C w') rfl wide a (hp 0 rfl (by kernel_rfl) (fun _ _=>az (.pointer (some ⟨H.rb,0,none⟩)) rfl) a (hp 1 rfl (by kernel_rfl) (fun _ _=>nc rfl) a (hp 2 rfl (by kernel_rfl) (fun _ _=>fa dP rfl) a (hp 3 rfl (by kernel_rfl) (fun w' G=>ld dC rfl (Md.aA G ((aU hR1.cells).trans rfl) (by first | exact ac | exact ad))) a (hp 5 rfl (by kernel_rfl) (fun _ _=>az (.slice E r.length I) rfl) a (hp 6 rfl (by kernel_rfl) (fun _ _=>aK bO rfl rfl (by omega) (ao.ok (hT1s.2) (bL (by omega)))) a (hp 7 rfl (by kernel_rfl) (fun w' G=>ld bW rfl (Md.aA G (bh.get (i:=0) hT1s.2 (by omega)) (by first | exact ac | exact ad))) a ?_)))))))
 refine hp 9 rfl (by kernel_rfl) (fun _ _=>mv) a (hp 10 rfl (by kernel_rfl) (fun _ _=>nc rfl) a (hp 11 rfl (by kernel_rfl) (fun _ _=>fa dF rfl) a (hp 12 rfl (by kernel_rfl) (fun _ _=>fa tP rfl) a (he 4 rfl (by kernel_rfl) (g7 (L:=dK.map str) cw rfl rfl rfl rfl fun Z w21 aF O ak=> ?_)))))
 have av:bh w21.heap (some ⟨Z,0,none⟩) dK:=ao.dz ⟨_,ak⟩
 have hE21:=e5 O.md
 have ab:(fun w'=>Md (fun k=>k=H.fb) C w') w21:=a.trans' O.md (fun _ _ h=>h.elim)
 refine ⟨ab,?_⟩
 refine he 8 rfl (by kernel_rfl) (cl sJ (uu dK (some ⟨Z,0,none⟩) 5 (r.getD 0 []) _ av (by decide)) rfl fun aN w25 ar=> ?_)
 obtain ⟨ah,rfl⟩:=ar
 rw [if_pos ae] at ah
 subst ah
 have U:(fun w'=>Md (fun k=>k=H.fb) C w') w25:=ab
 refine ⟨U,?_⟩
 refine hp 13 rfl (by kernel_rfl) (fun _ _=>iH o6 rfl rfl (by omega)) U (he 14 rfl (by kernel_rfl) (da dq rfl rfl (v:=aB x) rfl (O.md.aw hF1.cells) (by show _ < 14; omega) fun w7 M aa=> ?_))
 rw [BQ (i:=dK.idxOf (r.getD 0 [])) q.fT hix (by omega)] at aa
 have ax:(fun w'=>Md (fun k=>k=H.fb) C w') w7:=U.trans' M (fun _ _ h=>h)
 refine ⟨ax,?_⟩
 refine hn (by kernel_rfl) (eW ?_)
 refine f0 rfl ?_
 have hF2:=(hF1.wk hE21).put (F':= {F with sp:=F.sp.set (dK.idxOf (r.getD 0 [])) x}) M aa rfl rfl rfl rfl (by rw [List.length_set]; exact q.fT)
 exact ⟨rfl,_,rows,ln,F9 aC,⟨V,R,hF2,(hR1.wk hE21).fb (hF1.wk hE21) M,⟨s.len,s.sl,s.row,s.kd,s.al⟩⟩,((Wk.mw j).trans (cV.mt hR9 J)).trans ((Wk.mw hE21).trans (cV.fb (hF1.wk hE21) M))⟩
theorem zt (B:Nat) (H:bj) (F:aH) (rows:List Rw) (ln:Nat) (seen:List Tx) (r:List Tx) (O:Nat) (j:Option Addr) (E:Nat) (w:World) (C:St w B H F rows ln seen) (hT:Tg w O 9 r.length (.slice j r.length E) (r.map str)) (hr:r.length=2) (hrl:∀ x∈r,x.length≤70000):
 cW Tryz.prog 59 (List.toArray [.pointer (some ⟨H.rb,0,none⟩),.slice j r.length E]) w (eN B H seen (jk F rows ln r) w) (eM B H (jk F rows ln r) w):=by
 obtain ⟨V,R,s,A,q⟩:=C
 have hTs:=hT.bK
 have J:¬(H.rb=H.fb):=fun h=>by have h1:=A.cells; rw [h,s.cells] at h1; cases h1
 have ac:(r.getD 1 []).length≤70000:=hrl _ (ee (by omega))
 have M:¬(bk j=H.fb):=Tg.mK hT (bL (by omega)) s.cells (by decide)
 obtain ⟨aj,ag,ah⟩:=A.tm
 obtain ⟨ai,ad,ae⟩:=A.sm
 refine fk Tryz.func59 rfl Tryz.ntmps59 rfl ?_
 refine sq (fun ab Y=>rg rfl (p (az (.pointer (some ⟨H.rb,0,none⟩)) rfl) (p (az (.slice j r.length E) rfl) (p (aK bO rfl rfl (by omega) (ao.ok (hTs.2) (bL (by omega)))) (p (ld bW rfl (bh.get (i:=1) hTs.2 (by omega))) (eP rfl (bE pz (qQ H.rb ln (r.getD 1 []) w A.cE (by omega)) rfl fun ak w8 hR8=> ?_) (fun c w' I am s=>⟨ln,21,FN I.2.1,I.1,Wk.mw I.2.2⟩)))))))
 obtain ⟨rfl,aa,G⟩:=hR8
 have hF8:=s.wk G
 have hR8:=A.wk G
 have hT8s:=(hT.wk G).bK
 refine nl (tn (Y _ _ ?_))
 have a:(fun w'=>Md (fun k=>k=H.fb) w8 w') w8.drew:=(Md.refl _ _).drew
 refine bI (fun w'=>Md (fun k=>k=H.fb) w8 w') rfl wide a (hp 0 rfl (by kernel_rfl) (fun _ _=>az (.pointer (some ⟨H.rb,0,none⟩)) rfl) a (hp 1 rfl (by kernel_rfl) (fun _ _=>nc rfl) a (hp 2 rfl (by kernel_rfl) (fun _ _=>fa dP rfl) a (hp 3 rfl (by kernel_rfl) (fun w' C=>ld dC rfl (Md.aA C ((aU hR8.cells).trans rfl) (by first | exact J | exact M))) a (hp 4 rfl (by kernel_rfl) (fun _ _=>az (.slice j r.length E) rfl) a (hp 5 rfl (by kernel_rfl) (fun _ _=>aK bO rfl rfl (by omega) (ao.ok (hT8s.2) (bL (by omega)))) a (hp 6 rfl (by kernel_rfl) (fun w' C=>ld bW rfl (Md.aA C (bh.get (i:=1) hT8s.2 (by omega)) (by first | exact J | exact M))) a ?_)))))))
 refine hp 7 rfl (by kernel_rfl) (fun _ _=>nc rfl) a (hp 8 rfl (by kernel_rfl) (fun _ _=>fa dF rfl) a (hp 9 rfl (by kernel_rfl) (fun _ _=>fa Cc rfl) a (he 10 rfl (by kernel_rfl) (da kK rfl rfl (v:=str (r.getD 1 [])) rfl hF8.cells (by show _ < 14; omega) fun w9 hM9 U=> ?_))))
 have hM9:=e5 hM9
 have Z:(fun w'=>Md (fun k=>k=H.fb) w8 w') w9:=hM9
 refine ⟨Z,?_⟩
 refine hn (by kernel_rfl) (eW ?_)
 refine f0 rfl ?_
 have hF2:=hF8.put (F':= {F with mj:=r.getD 1 []}) hM9 U rfl rfl rfl rfl s.fT
 exact ⟨rfl,_,rows,ln,FO aa,⟨V,R,hF2,(hR8.fb hF8 hM9).congr rfl (fun _=>rfl),⟨q.len,q.sl,q.row,q.kd,q.al⟩⟩,(Wk.mw G).trans (cV.fb hF8 hM9)⟩
theorem GD (B:Nat) (H:bj) (F:aH) (rows:List Rw) (ln:Nat) (seen:List Tx) (r:List Tx) (I:Nat) (q:Option Addr) (C:Nat) (w:World) (Y:St w B H F rows ln seen) (hT:Tg w I 9 r.length (.slice q r.length C) (r.map str)) (hr:r.length=2) (hrl:∀ x∈r,x.length≤70000):
 cW Tryz.prog 60 (List.toArray [.pointer (some ⟨H.rb,0,none⟩),.slice q r.length C]) w (eN B H seen (jl F rows ln r) w) (eM B H (jl F rows ln r) w):=by
 obtain ⟨V,R,j,A,a⟩:=Y
 have hTs:=hT.bK
 have ab:¬(H.rb=H.fb):=fun h=>by have h1:=A.cells; rw [h,j.cells] at h1; cases h1
 have ad:(r.getD 1 []).length≤70000:=hrl _ (ee (by omega))
 have ac:¬(bk q=H.fb):=Tg.mK hT (bL (by omega)) j.cells (by decide)
 obtain ⟨ak,ah,ai⟩:=A.tm
 obtain ⟨aj,ae,ag⟩:=A.sm
 refine fk Tryz.func60 rfl Tryz.ntmps60 rfl ?_
 refine sq (fun Z M=>rg rfl (p (az (.slice q r.length C) rfl) (p (aK bO rfl rfl (by omega) (ao.ok (hTs.2) (bL (by omega)))) (p (ld bW rfl (bh.get (i:=1) hTs.2 (by omega))) (e (cl zp (Dz (r.getD 1 []) _ (by omega)) rfl fun v10 w10 hR10=> ?_))))))
 obtain ⟨rfl,s⟩:=hR10
 have hF8:=j.wk s
 have hR8:=A.wk s
 refine p mv (p (xt rfl rfl) (p (xt rfl rfl) (p au (p au (nl (tn (M _ _ (sq (fun aa O=> ?_)))))))))
 refine rg rfl (p (az (.pointer (some ⟨H.rb,0,none⟩)) rfl) (p mv (eP rfl (bE iW (jg H.rb ln ((letE (r.getD 1 [])).2:Nat) w10 hR8.cE) rfl fun am w15 U=> ?_) (fun c w' E an j=>⟨ln,_,GB (by have :=E.2.1; omega),E.1,by rw [E.2.2]; exact Wk.mw s⟩))))
 obtain ⟨rfl,G,rfl⟩:=U
 have G:(letE (r.getD 1 [])).2=0:=by omega
 refine nl (tn (O _ _ (rg rfl (p (az (.pointer (some ⟨H.rb,0,none⟩)) rfl) (p (nc rfl) (p (fa dP rfl) (p (ld dC rfl ((aU hR8.cells).trans rfl)) (p mv ?_))))))))
 refine p (nc rfl) (p (fa dF rfl) (p (fa Cd rfl) (e (da kK rfl rfl (v:=str (letE (r.getD 1 [])).1) rfl hF8.cells (by show _ < 14; omega) fun w9 hM9 J=>nl (eW ?_)))))
 refine f0 rfl ?_
 have hF2:=hF8.put (F':= {F with tr:=(letE (r.getD 1 [])).1}) hM9 J rfl rfl rfl rfl j.fT
 exact ⟨rfl,_,rows,ln,GC G,⟨V,R,hF2,(hR8.fb hF8 hM9).congr rfl (fun _=>rfl),⟨a.len,a.sl,a.row,a.kd,a.al⟩⟩,(Wk.mw s).trans (cV.fb hF8 hM9)⟩
theorem Dt (B:Nat) (H:bj) (F:aH) (rows:List Rw) (ln:Nat) (seen:List Tx) (r:List Tx) (U:Nat) (G:Option Addr) (I:Nat) (w:World) (C:St w B H F rows ln seen) (hT:Tg w U 9 r.length (.slice G r.length I) (r.map str)) (hr:r.length=2) (hrl:∀ x∈r,x.length≤70000):
 cW Tryz.prog 62 (List.toArray [.pointer (some ⟨H.rb,0,none⟩),.slice G r.length I]) w (eN B H seen (gA F rows ln r) w) (eM B H (gA F rows ln r) w):=by
 obtain ⟨V,R,j,q,s⟩:=C
 have hTs:=hT.bK
 have M:¬(H.rb=H.fb):=fun h=>by have h1:=q.cells; rw [h,j.cells] at h1; cases h1
 have ae:(r.getD 1 []).length≤70000:=hrl _ (ee (by omega))
 have O:¬(bk G=H.fb):=Tg.mK hT (bL (by omega)) j.cells (by decide)
 obtain ⟨am,ai,aj⟩:=q.tm
 obtain ⟨ak,ag,ah⟩:=q.sm
 refine fk Tryz.func62 rfl Tryz.ntmps62 rfl ?_
 refine sq (fun ad Y=> ?_)
 have a:(fun w'=>Md (fun k=>k=H.fb) w w') w.drew:=(Md.refl _ _).drew
 refine bI (fun w'=>Md (fun k=>k=H.fb) w w') rfl wide a (hp 0 rfl (by kernel_rfl) (fun _ _=>az (.pointer (some ⟨H.rb,0,none⟩)) rfl) a (hp 1 rfl (by kernel_rfl) (fun _ _=>nc rfl) a (hp 2 rfl (by kernel_rfl) (fun _ _=>fa dP rfl) a (hp 3 rfl (by kernel_rfl) (fun w' C=>ld dC rfl (Md.aA C ((aU q.cells).trans rfl) (by first | exact M | exact O))) a (hp 4 rfl (by kernel_rfl) (fun _ _=>az (.pointer (some ⟨H.rb,0,none⟩)) rfl) a (hp 5 rfl (by kernel_rfl) (fun _ _=>az (.slice G r.length I) rfl) a (hp 6 rfl (by kernel_rfl) (fun _ _=>aK bO rfl rfl (by omega) (ao.ok (hTs.2) (bL (by omega)))) a ?_)))))))
 refine hp 7 rfl (by kernel_rfl) (fun w' C=>ld bW rfl (Md.aA C (bh.get (i:=1) hTs.2 (by omega)) (by first | exact M | exact O))) a (lE 8 rfl (by kernel_rfl) rfl (bE nA (oh H.rb ln (r.getD 1 []) 64 w.drew q.cE (by omega) (by omega)) rfl fun dw w12 Z=> ?_) (fun c w' A ac j=>by obtain ⟨e,he,h,h2⟩:=A; exact ⟨ln,e,D1 he,h,Wk.mw (e5 h2)⟩))
 obtain ⟨n,hnx,rfl,hE12⟩:=Z
 have hE12:=e5 hE12
 have hF8:=j.wk hE12
 have hR8:=q.wk hE12
 have E:(fun w'=>Md (fun k=>k=H.fb) w w') w12:=Md.mono hE12 (fun _ _ h=>h.elim)
 refine ⟨E,?_⟩
 refine hp 9 rfl (by kernel_rfl) (fun _ _=>nc rfl) E (hp 10 rfl (by kernel_rfl) (fun _ _=>fa dF rfl) E (hp 11 rfl (by kernel_rfl) (fun _ _=>fa p9 rfl) E (he 12 rfl (by kernel_rfl) (da iD rfl rfl (v:= .int .i64 (n:Nat)) rfl hF8.cells (by show _ < 14; omega) fun w9 hM9 J=> ?_))))
 have hR9:=hR8.fb hF8 hM9
 have ab:(fun w'=>Md (fun k=>k=H.fb) w w') w9:=E.trans' hM9 (fun _ _ h=>h)
 refine ⟨ab,?_⟩
 refine hn (by kernel_rfl) (tn (Y _ _ (rg rfl (p (az (.pointer (some ⟨H.rb,0,none⟩)) rfl) (p (az (.pointer (some ⟨H.rb,0,none⟩)) rfl) (p (nc rfl) (p (fa dP rfl) (p (ld dC rfl ((aU hR9.cells).trans rfl)) ?_))))))))
 refine p (nc rfl) (p (fa dF rfl) (p (fa p9 rfl) (p (ld dN rfl ((aU J).trans rfl)) (p (gt rfl rfl) (eP rfl (bE dS (dX H.rb ln _ 13 w9 hR9.cE (by decide)) rfl fun an w26 aa=> ?_) (fun c w' A ac j=>by have h0:=of_decide_eq_false A.2.1; exact ⟨ln,13,D2 hnx (by omega),A.1,by rw [A.2.2]; exact (Wk.mw hE12).trans (cV.fb hF8 hM9)⟩))))))
 obtain ⟨rfl,hx26,rfl⟩:=aa
 have hx26:=of_decide_eq_true hx26
 refine nl (eW ?_)
 refine f0 rfl ?_
 have hF2:=hF8.put (F':= {F with least:=n}) hM9 J rfl rfl rfl rfl j.fT
 exact ⟨rfl,_,rows,ln,D3 hnx (by omega),⟨V,R,hF2,hR9.congr rfl (fun _=>rfl),⟨s.len,s.sl,s.row,s.kd,s.al⟩⟩,(Wk.mw hE12).trans (cV.fb hF8 hM9)⟩
theorem Dq (B:Nat) (H:bj) (F:aH) (rows:List Rw) (ln:Nat) (seen:List Tx) (r:List Tx) (aq:Nat) (G:Option Addr) (J:Nat) (w:World) (I:St w B H F rows ln seen) (hT:Tg w aq 9 r.length (.slice G r.length J) (r.map str)) (hr:r.length=2) (hrl:∀ x∈r,x.length≤70000):
 cW Tryz.prog 58 (List.toArray [.pointer (some ⟨H.rb,0,none⟩),.slice G r.length J]) w (eN B H seen (gy F seen rows ln r) w) (eM B H (gy F seen rows ln r) w):=by
 obtain ⟨V,R,A,O,M⟩:=I
 have hTs:=hT.bK
 have aj:¬(H.rb=H.fb):=fun h=>by have h1:=O.cells; rw [h,A.cells] at h1; cases h1
 have a6:(r.getD 1 []).length≤70000:=hrl _ (ee (by omega))
 have ak:¬(bk G=H.fb):=Tg.mK hT (bL (by omega)) A.cells (by decide)
 obtain ⟨ba,a7,a8⟩:=O.tm
 obtain ⟨a9,aW,aX⟩:=O.sm
 refine fk Tryz.func58 rfl Tryz.ntmps58 rfl ?_
 refine sq (fun aZ ay=>sq (fun a0 aB=>rg rfl (e (g7 (L:=ji.map str) cw rfl rfl rfl rfl fun aa w6 hb6 aG hB6=> ?_))))
 have ah:bh w6.heap (some ⟨aa,0,none⟩) ji:=ao.dz ⟨_,hB6⟩
 have s:Wk w w6:=aG.md
 have hF6:=A.wk s
 have hR6:=O.wk s
 have hT6s:=(hT.wk s).bK
 have hsf6:=aW.wk s
 have a5:ji.length=8:=rfl
 refine p (bp ea rfl rfl) (p mv (nl (tn (aB _ _ (aw (lp (fun ab E wI=> ∃ (i:Nat),(i≤8)∧(∀ j,j < i→ji.getD j []∉seen)∧(wI=w6)∧(E 0= .pointer (some ⟨H.rb,0,none⟩))∧(E 1= .slice G r.length J)∧(E 6= .slice (some ⟨aa,0,none⟩) 8 8)∧(E 7= .int .i64 (8:Nat))∧(E 8= .int .i64 (i:Nat))∧(8 - i=ab)) _ ⟨0,(by omega),((fun j ai=>by omega)),rfl,rfl,rfl,rfl,rfl,rfl,rfl⟩ ?_))))))
 rintro ab E wI ⟨i,hi,am,ax,aQ,aR,aS,aT,aV,rfl⟩
 refine fx 0 aQ (fx 1 aR (fx 6 aS (fx 7 aT (fx 8 aV ?_))))
 subst ax
 refine sq (fun a1 aC=>rg rfl (p (lt rfl rfl) (nl (tn (aC _ _ (sq (fun a2 aD=>cd rfl (fun aP=> ?_) (fun aP=> ?_))))))))
 refine aE (tn (aD _ _ (sq (fun ar U=>aw (sq (fun a3 aF=>rg rfl (p (aK bO rfl rfl (by omega) (ao.ok (ah) (bL (by omega)))) (p (ld bW rfl (bh.get (i:=i) ah (by omega))) ?_))))))))
 refine p au (nl (tn (aF _ _ (rg rfl (p (az (.pointer (some ⟨H.rb,0,none⟩)) rfl) (p (az (.pointer (some ⟨H.rb,0,none⟩)) rfl) (p (nc rfl) (p (fa lD rfl) ?_))))))))
 refine p (ld k8 rfl ((aU hR6.cells).trans rfl)) (p mv (p (jf ko js eu (hsf6) rfl rfl (⟨_,rfl⟩) (aX _)) (p (bu rfl rfl) (eP rfl (bE dS (dX H.rb ln _ 113 wI hR6.cE (by decide)) rfl fun v20 w20 aI=> ?_) (fun c w' q aY A=>⟨ln,113,Dm (k:=ji.getD i []) (ee (by omega)) (by have h:=of_decide_eq_false q.2.1; exact Classical.not_not.1 fun h2=>h (by have :=List.count_eq_zero.2 h2; omega)),q.1,by rw [q.2.2]; exact Wk.mw s⟩)))))
 obtain ⟨rfl,Y,rfl⟩:=aI
 have Y:ji.getD i []∉seen:=List.count_eq_zero.1 (by have :=of_decide_eq_true Y; omega)
 refine nl (bn (tn (U _ _ (rg rfl (p (ad rfl rfl (bC (by omega))) (p mv (nl (tn ?_))))))))
 exact ⟨_,by omega,i+1,(by omega),((fun j ai=>by rcases Nat.lt_or_ge j i with h | h <;> first | exact am j h | (rw [show j=i by omega]; exact Y))),rfl,rfl,rfl,rfl,rfl,rfl,rfl⟩
 refine ext (te _ (te _ (be (tn (ay _ _ (sq (fun ar U=> ?_)))))))
 have an:ordered seen=true :=(vo seen).2 fun k hk=>by obtain ⟨j,ai,rfl⟩:=mH [] hk; exact am j (by omega)
 have a:(fun w'=>Md (fun k=>k=H.fb) wI w') wI.drew:=(Md.refl _ _).drew
 refine bI (fun w'=>Md (fun k=>k=H.fb) wI w') rfl wide a (hp 0 rfl (by kernel_rfl) (fun _ _=>az (.pointer (some ⟨H.rb,0,none⟩)) rfl) a (hp 1 rfl (by kernel_rfl) (fun _ _=>nc rfl) a (hp 2 rfl (by kernel_rfl) (fun _ _=>fa dP rfl) a (hp 3 rfl (by kernel_rfl) (fun w' I=>ld dC rfl (Md.aA I ((aU hR6.cells).trans rfl) (by first | exact aj | exact ak))) a (hp 5 rfl (by kernel_rfl) (fun _ _=>az (.slice G r.length J) rfl) a (hp 6 rfl (by kernel_rfl) (fun _ _=>aK bO rfl rfl (by omega) (ao.ok (hT6s.2) (bL (by omega)))) a (hp 7 rfl (by kernel_rfl) (fun w' I=>ld bW rfl (Md.aA I (bh.get (i:=1) hT6s.2 (by omega)) (by first | exact aj | exact ak))) a ?_)))))))
 refine he 4 rfl (by kernel_rfl) (g7 (L:=kinds.map str) cw rfl rfl rfl rfl fun Z w26 a4 ae av=> ?_)
 have aM:bh w26.heap (some ⟨Z,0,none⟩) kinds:=ao.dz ⟨_,av⟩
 have hE26:=e5 ae.md
 have ag:(fun w'=>Md (fun k=>k=H.fb) wI w') w26:=a.trans' ae.md (fun _ _ h=>h.elim)
 refine ⟨ag,?_⟩
 refine he 8 rfl (by kernel_rfl) (cl sJ (uu kinds (some ⟨Z,0,none⟩) 3 (r.getD 1 []) _ aM (by decide)) rfl fun v30 w30 aJ=> ?_)
 obtain ⟨ap,rfl⟩:=aJ
 rw [Dk] at ap
 subst ap
 have hkl:=Dl (r.getD 1 [])
 have C:(fun w'=>Md (fun k=>k=H.fb) wI w') w30:=ag
 refine ⟨C,?_⟩
 refine hp 9 rfl (by kernel_rfl) (fun _ _=>bd ((gh (r.getD 1 []):Nat):Int) rfl rfl (aO (by omega) (by omega))) C (hp 10 rfl (by kernel_rfl) (fun _ _=>nc rfl) C (hp 11 rfl (by kernel_rfl) (fun _ _=>fa dF rfl) C (hp 12 rfl (by kernel_rfl) (fun _ _=>fa lB rfl) C (he 13 rfl (by kernel_rfl) (da iD rfl rfl (v:= .int .i64 (gh (r.getD 1 []):Nat)) rfl ((hF6.wk hE26).cells) (by show _ < 14; omega) fun w9 hM9 ac=> ?_)))))
 have hF26:=hF6.wk hE26
 have hR9:=(hR6.wk hE26).fb hF26 hM9
 have hMw:=((Wk.mw s).trans (Wk.mw hE26)).trans (cV.fb hF26 hM9)
 have aN:(fun w'=>Md (fun k=>k=H.fb) wI w') w9:=C.trans' hM9 (fun _ _ h=>h)
 refine ⟨aN,?_⟩
 refine hn (by kernel_rfl) (tn (U _ _ (rg rfl (p (az (.pointer (some ⟨H.rb,0,none⟩)) rfl) (p (az (.pointer (some ⟨H.rb,0,none⟩)) rfl) (p (nc rfl) (p (fa dP rfl) (p (ld dC rfl ((aU hR9.cells).trans rfl)) ?_))))))))
 refine p (nc rfl) (p (fa dF rfl) (p (fa lB rfl) (p (ld dN rfl ((aU ac).trans rfl)) (p (gt rfl rfl) (eP rfl (bE dS (dX H.rb ln _ 114 w9 hR9.cE (by decide)) rfl fun bb w45 aL=> ?_) (fun c w' q aY A=>by have h0:=of_decide_eq_false q.2.1; exact ⟨ln,114,Dn an (by omega),q.1,by rw [q.2.2]; exact hMw⟩))))))
 obtain ⟨rfl,hx45,rfl⟩:=aL
 have hx45:=of_decide_eq_true hx45
 refine nl (eW ?_)
 refine f0 rfl ?_
 have hF2:=hF26.put (F':= {F with kind:=gh (r.getD 1 [])}) hM9 ac rfl rfl rfl rfl A.fT
 exact ⟨rfl,_,rows,ln,Dp an (by omega),⟨V,R,hF2,hR9.congr rfl (fun _=>rfl),⟨M.len,M.sl,M.row,(by show gh (r.getD 1 [])=1∨gh (r.getD 1 [])=2∨gh (r.getD 1 [])=3; omega),M.al⟩⟩,hMw⟩
end Go.Hb.jt
end
