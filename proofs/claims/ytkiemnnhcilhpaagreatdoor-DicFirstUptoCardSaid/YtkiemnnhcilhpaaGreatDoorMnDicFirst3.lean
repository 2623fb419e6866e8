/-
  Walks and plain laws that the law rests on, laid together. No conditions but those that each theorem names.
-/
import Derived.Test.YtkiemnnhcilhpaaGreatDoorMnDicFirst2
set_option linter.unusedVariables false
section
set_option maxRecDepth 20000
set_option maxHeartbeats 1000000
namespace Go.Hb.mU
open Go.Hb.cG
open Go.Proofs
open Go.Hb.kg
theorem Gh {n:Nat} {l:List UInt8} (h:n < 256) (hl:∀ k:Fin 256,(l.getD k.val 0).toNat=fD k.val):IntKind.i64.wrap ((l.getD n 0).toNat:Int)=(fD n:Int):=by
 rw [hl ⟨n,h⟩]; have :=nN h; exact bw (by simp only; omega)
theorem Fq {k:Nat} (h:k≤8):IntKind.u64.wrap ((1:Int)*2 ^ min ((k:Nat):Int).toNat IntKind.u64.bits)=((2 ^ k:Nat):Int):=by
 have h2:(IntKind.u64.bits:Nat)=64:=rfl
 rw [Int.toNat_natCast,h2,Nat.min_eq_left (by omega),Int.one_mul]
 have h3:(2:Nat) ^ k≤2 ^ 8:=Nat.pow_le_pow_right (by decide) h
 have h4:((2:Int) ^ k)=((2 ^ k:Nat):Int):=by simp
 rw [h4]
 obtain ⟨m,hm⟩:∃ m:Nat,2 ^ k=m:=⟨_,rfl⟩
 rw [hm] at h3 ⊢; exact je (by omega)
theorem Ep {d d1 d2:Array Nat} {a b i j:Nat} (h:Go.Sort.PermIn a b d d1) (hi:a≤i∧i < b) (c:a≤j∧j < b) (hb:b≤d1.size) (h2:d2=Go.Sort.swp d1 i j):Go.Sort.PermIn a b d d2:=by
 subst h2; exact Go.Sort.permIn_trans _ _ _ a b h (Go.Sort.swp_permIn d1 a b i j hi.1 hi.2 c.1 c.2 hb)
theorem qk (d:Array Nat) (i j s lo hi E:Nat) (B n cp:Nat) (C:Option Addr) (w:World) (c:w.ownsRow B 71 1 (.slice C n cp) n (LE ay d)) (O:a9 w.heap E [U s]) (hbs:(Value.slice C n cp).ownBlock≠some E) (hr:lo≤i∧i < hi∧lo≤j∧j < hi∧hi≤n) (hs:s≤1000) (am:n≤1099511627776):
 aK Tryz.prog 186 (List.toArray [.slice C n cp,U i,U j,aU E]) w (fun v w'=> ∃ J M s1:Nat,v= .tuple #[U J,U M]∧(lo≤J∧J < hi)∧(lo≤M∧M < hi)∧s1≤s+1∧a9 w'.heap E [U s1]∧w'.ownsRow B 71 1 (.slice C n cp) n (LE ay d)∧Md (fun q=>q=E) w w'):=by
 refine enter Tryz.func186 rfl Tryz.ntmps186 rfl ?_
 refine aa (fun _ Y=>(p ak (ae (((Y _ _ (sq (fun _ Z=>sq (fun _ ac=> ?_)))))))))
 have hdn:=cU c
 have a:(fun w'=>Wk w w') w.drew:=(Md.refl _ _).drew
 refine bF (fun w'=>Wk w w') rfl wide a (bp 0 rfl (.slice C n cp) a (bp 1 rfl (U j) a (aQ 2 rfl (fun _ _=>aG aY rfl rfl (by omega) (aj.ok ((aA c).2) (a6 (by omega)))) a (aQ 3 rfl (fun w' I=>ld bc rfl (bo (i:=j) ((aA c).2.wk I) (by omega))) a (bp 4 rfl (.slice C n cp) a (bp 5 rfl (U i) a (aQ 6 rfl (fun _ _=>aG aY rfl rfl (by omega) (aj.ok ((aA c).2) (a6 (by omega)))) a ?_)))))))
 refine aQ 7 rfl (fun w' I=>ld bc rfl (bo (i:=i) ((aA c).2.wk I) (by omega))) a (he 8 rfl (by kernel_rfl) (cl gi (gp d[j]! d[i]! _) rfl fun an w18 al=> ?_))
 obtain ⟨rfl,ai⟩:=al
 have A:(fun w'=>Wk w w') w18:=Md.trans a ai
 refine ⟨A,?_⟩
 refine hn (by kernel_rfl) (tn (ac _ _ (cb rfl (fun hc18=> ?_) (fun hc18=> ?_))))
 have hB18:=A.B O
 have hO18:=aE c A
 refine aa (fun _ G=>(ab (aU E) (p (nc rfl) (p (ld cX rfl (hB18.aw 0)) (p (a8 ((s+1:Nat):Int) rfl rfl (aH (by omega) (by omega))) (p (nc rfl) (e (st iL rfl rfl (rfl) (hB18) (by simp) fun wt2_5 V ah=> ?_))))))))
 refine ag ((G _ _ (aa (fun _ ad=>(ab (U j) (ab (U i) (p (bA (U j) rfl) (p (bA (U i) rfl) ?_))))))))
 exact ag ((ad _ _ (rt (tr (f2 rfl rfl rfl (⟨j,i,s+1,rfl,by omega,by omega,by omega,ah,bu hO18 V (fun k hk h=>hbs (h ▸ hk)),Md.trans (A.mono (fun _ _ h=>h.elim)) V⟩))))))
 refine az (tn (Z _ _ (aa (fun _ G=>(ab (U i) (ab (U j) (p (bA (U i) rfl) (p (bA (U j) rfl) ?_))))))))
 exact ag ((G _ _ (rt (f2 rfl rfl rfl (⟨i,j,s,rfl,by omega,by omega,by omega,A.B O,aE c A,A.mono (fun _ _ h=>h.elim)⟩)))))
theorem ux (d:Array Nat) (i j k s lo hi a:Nat) (B n cp:Nat) (c:Option Addr) (w:World) (ad:w.ownsRow B 71 1 (.slice c n cp) n (LE ay d)) (O:a9 w.heap a [U s]) (hbs:(Value.slice c n cp).ownBlock≠some a) (hr:(lo≤i∧i < hi)∧(lo≤j∧j < hi)∧(lo≤k∧k < hi)∧hi≤n) (hs:s≤900) (A:n≤1099511627776):
 aK Tryz.prog 179 (List.toArray [.slice c n cp,U i,U j,U k,aU a]) w (fun v w'=> ∃ C s1:Nat,v=U C∧(lo≤C∧C < hi)∧s1≤s+3∧a9 w'.heap a [U s1]∧w'.ownsRow B 71 1 (.slice c n cp) n (LE ay d)∧Md (fun q=>q=a) w w'):=by
 refine enter Tryz.func179 rfl Tryz.ntmps179 rfl ?_
 refine aa (fun _ E=>(ae (((E _ _ (aa (fun _ G=>(ab (.slice c n cp) ?_))))))))
 refine ab (U i) (ab (U j) (ab (aU a) (e (cl oR (qk d i j s lo hi a B n cp c _ ad O hbs (by omega) (by omega) A) rfl fun aD w16 aj=> ?_))))
 obtain ⟨i1,ao,s1,rfl,au,aw,hs1,hB1,ag,Y⟩:=aj
 refine p mv (p (xt rfl rfl) (p (xt rfl rfl) (p ak (ae (((G _ _ (sq (fun _ I=> ?_)))))))))
 refine rg rfl (ab (.slice c n cp) (p mv (ab (U k) (ab (aU a) (e (cl oR (qk d ao k s1 lo hi a B n cp c _ ag hB1 hbs (by omega) (by omega) A) rfl fun aE aG al=> ?_))))))
 obtain ⟨ap,aC,s2,rfl,ax,az,aA,hB2,ah,Z⟩:=al
 refine p mv (p (xt rfl rfl) (p (xt rfl rfl) (p ak (ae (((I _ _ (sq (fun _ J=> ?_)))))))))
 refine rg rfl (ab (.slice c n cp) (p mv (p mv (ab (aU a) (e (cl oR (qk d i1 ap s2 lo hi a B n cp c _ ah hB2 hbs (by omega) (by omega) A) rfl fun aF aH am=> ?_))))))
 obtain ⟨i3,aq,ar,rfl,av,an,aB,V,ai,ac⟩:=am
 refine p mv (p (xt rfl rfl) (p (xt rfl rfl) (p ak (ae (((J _ _ (sq (fun _ M=> ?_)))))))))
 exact rg rfl (p mv (ae (((M _ _ (rt (f1 rfl rfl (⟨aq,ar,rfl,an,by omega,V,ai,Md.trans Y (Md.trans Z ac)⟩))))))))
theorem p6 (d:Array Nat) (i s lo hi a:Nat) (B n cp:Nat) (c:Option Addr) (w:World) (G:w.ownsRow B 71 1 (.slice c n cp) n (LE ay d)) (E:a9 w.heap a [U s]) (hbs:(Value.slice c n cp).ownBlock≠some a) (hr:lo+1≤i∧i+1 < hi∧hi≤n) (hs:s≤900) (J:n≤1099511627776):
 aK Tryz.prog 178 (List.toArray [.slice c n cp,U i,aU a]) w (fun v w'=> ∃ j s1:Nat,v=U j∧(lo≤j∧j < hi)∧s1≤s+3∧a9 w'.heap a [U s1]∧w'.ownsRow B 71 1 (.slice c n cp) n (LE ay d)∧Md (fun q=>q=a) w w'):=by
 refine enter Tryz.func178 rfl Tryz.ntmps178 rfl ?_
 refine aa (fun _ A=>(ae (((A _ _ (aa (fun _ C=>(ab (.slice c n cp) ?_))))))))
 refine ab (U i) (p (bI ((i - 1:Nat):Int) rfl rfl (aH (by omega) (by omega))) (ab (U i) (ab (U i) (p (a8 ((i+1:Nat):Int) rfl rfl (aH (by omega) (by omega))) (ab (aU a) (e (cl rR (ux d (i - 1) i (i+1) s lo hi a B n cp c _ G E hbs (by omega) (by omega) J) rfl fun M w14 I=>p ak ?_)))))))
 exact ag ((C _ _ (rt (f1 rfl rfl (I)))))
theorem y9 (d:Array Nat) (a b:Nat) (B n cp:Nat) (c:Option Addr) (w:World) (Z:w.ownsRow B 71 1 (.slice c n cp) n (LE ay d)) (a6:a+12 < b∧b≤n) (C:n≤1099511627776):
 aK Tryz.prog 159 (List.toArray [.slice c n cp,U a,U b]) w (fun v w'=> ∃ (V:Nat) (hv:Int),v= .tuple #[U V,.int .i64 hv]∧(a≤V∧V < b)∧w'.ownsRow B 71 1 (.slice c n cp) n (LE ay d)∧Wk w w'):=by
 refine enter Tryz.func159 rfl Tryz.ntmps159 rfl ?_
 refine aa (fun _ ac=>(p ak (ae (((ac _ _ (aa (fun _ ad=> ?_))))))))
 refine ab (U b) (ab (U a) (p (bI ((b - a:Nat):Int) rfl rfl (aH (by omega) (by omega))) (ae (((ad _ _ (aa (fun _ ah=> ?_))))))))
 refine e (al GK fun b9 w9 hb9 M Y=> ?_)
 have hO9:=aE Z M.md
 have hbs:(Value.slice c n cp).ownBlock≠some b9:=fun h=>by have :=cM Z h; omega
 refine ag ((ah _ _ (aa (fun _ ai=>(ab (U a) (p mv (p (j5 (((b - a) / 4:Nat):Int) rfl rfl (by omega) (aH (by omega) (by omega))) (p (kE (((b - a) / 4:Nat):Int) rfl rfl (aH (by omega) (by omega))) ?_))))))))
 refine p (a8 ((a+(b - a) / 4:Nat):Int) rfl rfl (aH (by omega) (by omega))) (ae (((ai _ _ (aa (fun _ aj=>(ab (U a) (p mv ?_))))))))
 refine p (j5 (((b - a) / 4:Nat):Int) rfl rfl (by omega) (aH (by omega) (by omega))) (p (kE (((b - a) / 4 *2:Nat):Int) rfl rfl (aH (by omega) (by omega))) (p (a8 ((a+(b - a) / 4 *2:Nat):Int) rfl rfl (aH (by omega) (by omega))) (ae (((aj _ _ (aa (fun _ am=> ?_))))))))
 refine ab (U a) (p mv (p (j5 (((b - a) / 4:Nat):Int) rfl rfl (by omega) (aH (by omega) (by omega))) (p (kE (((b - a) / 4 *3:Nat):Int) rfl rfl (aH (by omega) (by omega))) (p (a8 ((a+(b - a) / 4 *3:Nat):Int) rfl rfl (aH (by omega) (by omega))) (ae (((am _ _ ?_))))))))
 refine sq (fun _ an=>aa (fun _ ao=>(p mv (p (ge rfl rfl) (ag ((ao _ _ (cd rfl (fun a7=> ?_) (fun h=>absurd (by omega) h)))))))))
 refine c6 (fun i wC=> ∃ (j q s E:Nat),(a≤j∧j < b)∧(a≤q∧q < b)∧(a≤s∧s < b)∧(E≤9)∧(a9 wC.heap b9 [U E])∧(wC.ownsRow B 71 1 (.slice c n cp) n (LE ay d))∧(Wk w wC)∧(i 0= .slice c n cp)∧(i 1=U a)∧(i 2=U b)∧(i 8=U (b - a))∧(i 9=aU b9)∧(i 10=U j)∧(i 11=U q)∧(i 12=U s)) ?_ ?_
 refine aa (fun _ J=>(p mv (p (ge rfl rfl) (ag ((J _ _ (cd rfl (fun aO=> ?_) (fun aO=> ?_))))))))
 refine aa (fun _ G=>(ab (.slice c n cp) (p mv (e (cl oQ (p6 d (a+(b - a) / 4) 0 a b b9 B n cp c _ hO9 Y hbs (by omega) (by omega) C) rfl fun bk w37 aJ=> ?_)))))
 obtain ⟨i1,s1,rfl,aR,hs1,hB1,aD,ax⟩:=aJ
 refine ae (((G _ _ (aa (fun _ A=>(ab (.slice c n cp) (p mv (e (cl oQ (p6 d (a+(b - a) / 4 *2) s1 a b b9 B n cp c _ aD hB1 hbs (by omega) (by omega) C) rfl fun bl bo aL=> ?_)))))))))
 obtain ⟨a3,s2,rfl,aS,bf,hB2,aF,aA⟩:=aL
 refine ae (((A _ _ (rg rfl (ab (.slice c n cp) (p mv (e (cl oQ (p6 d (a+(b - a) / 4 *3) s2 a b b9 B n cp c _ aF hB2 hbs (by omega) (by omega) C) rfl fun bm w43 aM=> ?_))))))))
 obtain ⟨a4,a5,rfl,aT,bg,ap,aG,aB⟩:=aM
 exact ae (((⟨i1,a3,a4,a5,aR,aS,aT,(by omega),ap,aG,(Md.trans' M.md (Md.trans ax (Md.trans aA aB)) (fun k hk h=>by omega)),rfl,rfl,rfl,rfl,rfl,rfl,rfl,rfl⟩)))
 exact az (tn (⟨a+(b - a) / 4,a+(b - a) / 4 *2,a+(b - a) / 4 *3,0,(by omega),(by omega),(by omega),(by omega),Y,hO9,M.md,rfl,rfl,rfl,rfl,rfl,rfl,rfl,rfl⟩))
 rintro i wC ⟨j,q,s,E,bb,bc,bd,bi,ar,aI,av,aV,aW,a0,a1,a2,aX,aY,aZ⟩
 refine fx 0 aV (fx 1 aW (fx 2 a0 (fx 8 a1 (fx 9 a2 (fx 10 aX (fx 11 aY (fx 12 aZ (rg rfl (ab (.slice c n cp) (ab (U j) (ab (U q) (ab (U s) (e (cl rR (ux d j q s E a b b9 B n cp c _ aI ar hbs (by omega) (by omega) C) rfl fun bn w48 aN=> ?_))))))))))))))
 obtain ⟨q1,bj,rfl,hq1,bh,aq,O,aC⟩:=aN
 have hE4:Wk w w48:=Md.trans' av aC (fun k hk h=>by omega)
 refine ae (((an _ _ (aa (fun _ J=>(p (ld cX rfl (aq.aw 0)) (ag ((J _ _ ?_)))))))))
 refine au (aa (fun _ G=>(p (ba rfl rfl) (ae (((G _ _ (cd rfl (fun aP=> ?_) (fun aP=> ?_)))))))))
 refine aa (fun _ A=>(p mv (p ak (ae (((A _ _ (rt ?_))))))))
 exact br (f2 rfl rfl rfl (⟨q1,_,rfl,hq1,O,hE4⟩))
 refine aa (fun _ A=>(p (ba rfl rfl) (ae (((A _ _ (cd rfl (fun aQ=> ?_) (fun aQ=> ?_))))))))
 refine aa (fun _ I=>(p mv (p ak (ae (((I _ _ (rt ?_))))))))
 exact br (f2 rfl rfl rfl (⟨q1,_,rfl,hq1,O,hE4⟩))
 refine aa (fun _ I=>(p mv (p ak (ae (((I _ _ (rt ?_))))))))
 exact br (f2 rfl rfl rfl (⟨q1,_,rfl,hq1,O,hE4⟩))
theorem DR (a:Nat) (r:Int) (w:World) (C:a9 w.heap a [.int .u64 r]):
 aK Tryz.prog 177 (List.toArray [aU a]) w (fun v w'=> ∃ A:Int,v= .int .u64 A∧0≤A∧A < 18446744073709551616∧a9 w'.heap a [.int .u64 A]∧Md (fun q=>q=a) w w'):=by
 refine enter Tryz.func177 rfl Tryz.ntmps177 rfl ?_
 refine aa (fun _ O=>(ae (((O _ _ (sq (fun _ U=> ?_)))))))
 have i:(fun w'=>Wk w w') w.drew:=(Md.refl _ _).drew
 refine c5 (fun w'=>Wk w w') 9 rfl wide i (lq 0 rfl (by kernel_rfl) (fun _ _=>ao (aU a) rfl) i (lq 1 rfl (by kernel_rfl) (fun _ _=>nc rfl) i (lq 2 rfl (by kernel_rfl) (fun w' c=>ld ki rfl (Wk.aw c (C.aw 0))) i (lq 3 rfl (by kernel_rfl) (fun _ _=>ao (aU a) rfl) i (lq 4 rfl (by kernel_rfl) (fun _ _=>nc rfl) i (lq 5 rfl (by kernel_rfl) (fun w' c=>ld ki rfl (Wk.aw c (C.aw 0))) i (lq 6 rfl (by kernel_rfl) (fun _ _=>shl rfl rfl (by decide) rfl) i ?_)))))))
 refine lq 7 rfl (by kernel_rfl) (fun _ _=>oL rfl rfl rfl) i (lq 8 rfl (by kernel_rfl) (fun _ _=>nc rfl) i (bJ 9 rfl (by kernel_rfl) (by kernel_rfl) (st np rfl rfl (rfl) (i.B C) (by simp) fun I ac E=> ?_)))
 refine c4 (by kernel_rfl) ?_
 refine tn (U _ _ (sq (fun _ V=> ?_)))
 have j:(fun w'=>Wk I w') I.drew:=(Md.refl _ _).drew
 refine c5 (fun w'=>Wk I w') 9 rfl wide j (lq 0 rfl (by kernel_rfl) (fun _ _=>ao (aU a) rfl) j (lq 1 rfl (by kernel_rfl) (fun _ _=>nc rfl) j (lq 2 rfl (by kernel_rfl) (fun w' c=>ld ki rfl (Wk.aw c (E.aw 0))) j (lq 3 rfl (by kernel_rfl) (fun _ _=>ao (aU a) rfl) j (lq 4 rfl (by kernel_rfl) (fun _ _=>nc rfl) j (lq 5 rfl (by kernel_rfl) (fun w' c=>ld ki rfl (Wk.aw c (E.aw 0))) j (lq 6 rfl (by kernel_rfl) (fun _ _=>shr rfl rfl (by decide) rfl) j ?_)))))))
 refine lq 7 rfl (by kernel_rfl) (fun _ _=>oL rfl rfl rfl) j (lq 8 rfl (by kernel_rfl) (fun _ _=>nc rfl) j (bJ 9 rfl (by kernel_rfl) (by kernel_rfl) (st np rfl rfl (rfl) (j.B E) (by simp) fun J ad G=> ?_)))
 refine c4 (by kernel_rfl) ?_
 refine tn (V _ _ (sq (fun _ Y=> ?_)))
 have s:(fun w'=>Wk J w') J.drew:=(Md.refl _ _).drew
 refine c5 (fun w'=>Wk J w') 9 rfl wide s (lq 0 rfl (by kernel_rfl) (fun _ _=>ao (aU a) rfl) s (lq 1 rfl (by kernel_rfl) (fun _ _=>nc rfl) s (lq 2 rfl (by kernel_rfl) (fun w' c=>ld ki rfl (Wk.aw c (G.aw 0))) s (lq 3 rfl (by kernel_rfl) (fun _ _=>ao (aU a) rfl) s (lq 4 rfl (by kernel_rfl) (fun _ _=>nc rfl) s (lq 5 rfl (by kernel_rfl) (fun w' c=>ld ki rfl (Wk.aw c (G.aw 0))) s (lq 6 rfl (by kernel_rfl) (fun _ _=>shl rfl rfl (by decide) rfl) s ?_)))))))
 refine lq 7 rfl (by kernel_rfl) (fun _ _=>oL rfl rfl rfl) s (lq 8 rfl (by kernel_rfl) (fun _ _=>nc rfl) s (bJ 9 rfl (by kernel_rfl) (by kernel_rfl) (st np rfl rfl (rfl) (s.B G) (by simp) fun ah ag M=> ?_)))
 refine c4 (by kernel_rfl) ?_
 refine tn (Y _ _ (aa (fun _ Z=>(ab (aU a) (p (nc rfl) (p (ld ki rfl (M.aw 0)) (p ak (nl ?_))))))))
 refine tn (Z _ _ (rt (f1 rfl rfl ?_)))
 refine ⟨_,rfl,(vR _).1,(vR _).2,M,?_⟩
 exact Md.trans (Md.refl _ _).drew (Md.trans ac (Md.trans (Md.refl _ _).drew (Md.trans ad (Md.trans (Md.refl _ _).drew ag))))
theorem Dc (n:Nat) (w:World) (hn:n < 256):
 aK Tryz.prog 166 (List.toArray [.int .u64 (n:Nat)]) w (fun v w'=>v=U (fD n)∧Wk w w'):=by
 have hll:=nN hn
 refine enter Tryz.func166 rfl Tryz.ntmps166 rfl ?_
 refine aa (fun _ a=>(ae (((a _ _ (sq (fun _ c=>aa (fun _ i=> ?_))))))))
 refine ab (.int .u64 (n:Nat)) (p (ge rfl rfl) (ag ((i _ _ (cd rfl (fun h=>absurd h (by omega)) (fun G=> ?_))))))
 refine az (tn (c _ _ (sq (fun _ j=>aa (fun _ q=>(ab (.int .u64 (n:Nat)) (p (ge rfl rfl) (nl ?_))))))))
 refine tn (q _ _ (cd rfl (fun h=>absurd h (by omega)) (fun hc8=> ?_)))
 refine az (tn (j _ _ (sq (fun _ s=>aa (fun _ A=>(ab (.int .u64 (n:Nat)) (p (ge rfl rfl) (nl ?_))))))))
 refine tn (A _ _ (cd rfl (fun h=>absurd h (by omega)) (fun E=> ?_)))
 refine az (tn (s _ _ (aa (fun _ C=>(ab (.int .i64 0) (ab (.int .u64 (n:Nat)) (p (o6 u5 Gm rfl (qM (by omega))) (p (fp u9 rfl rfl (by have :n < 256:=hn; simpa using this)) ?_))))))))
 exact p (iK u3 mL rfl (Gh hn (by decide+kernel))) (p (a8 ((fD n:Nat):Int) rfl rfl (aH (by omega) (by omega))) (ae (((C _ _ (rt (f1 rfl rfl (⟨rfl,Md.refl _ _⟩))))))))
theorem ui (n:Nat) (w:World) (hn:n < 256):
 aK Tryz.prog 139 (List.toArray [.int .u64 (n:Nat)]) w (fun v w'=>v=U (fD n)∧Wk w w'):=by
 refine enter Tryz.func139 rfl Tryz.ntmps139 rfl ?_
 refine aa (fun _ a=>(ae (((a _ _ (sq (fun _ c=>cf rfl (az ?_))))))))
 refine tn (c _ _ (aa (fun _ i=>(ab (.int .u64 (n:Nat)) (e (cl yt (Dc n _ hn) rfl fun j w7 hR7=>ae (((i _ _ ?_)))))))))
 exact rt (f1 rfl rfl (hR7))
theorem DS (n:Nat) (w:World) (hn:n < 256):
 aK Tryz.prog 176 (List.toArray [U n]) w (fun v w'=>v= .int .u64 (2 ^ fD n:Nat)∧Wk w w'):=by
 refine enter Tryz.func176 rfl Tryz.ntmps176 rfl ?_
 refine aa (fun _ a=>(ae (((a _ _ (aa (fun _ c=>(ab (U n) ?_))))))))
 refine p (iK vQ lJ rfl (je (by omega))) (e (cl rM (ui n _ hn) rfl fun i w5 hR5=> ?_))
 obtain ⟨rfl,hE5⟩:=hR5
 have hll:=nN hn
 exact p (shl rfl rfl (by omega) (Fq hll)) (ae (((c _ _ (rt (f1 rfl rfl (⟨rfl,hE5⟩)))))))
theorem xK (d:Array Nat) (a b:Nat) (B n cp:Nat) (j:Option Addr) (w:World) (ao:w.ownsRow B 71 1 (.slice j n cp) n (LE ay d)) (bm:a+12 < b∧b≤n) (br:n≤255):
 aK Tryz.prog 158 (List.toArray [.slice j n cp,U a,U b]) w (fun v w'=> ∃ d1,v= .tuple #[]∧Go.Sort.PermIn a b d d1∧w'.ownsRow B 71 1 (.slice j n cp) n (LE ay d1)∧Md (fun q=>(Value.slice j n cp).ownBlock=some q) w w'):=by
 refine enter Tryz.func158 rfl Tryz.ntmps158 rfl ?_
 refine aa (fun _ ap=>(ab (U b) (ab (U a) (p (bI ((b - a:Nat):Int) rfl rfl (aH (by omega) (by omega))) (ae (((ap _ _ ?_))))))))
 refine aa (fun _ ar=>(p mv (p (ge rfl rfl) (ag ((ar _ _ (cd rfl (fun bq=> ?_) (fun h=>absurd (by omega) h))))))))
 refine aa (fun _ av=>(p mv (p (iK Gd lJ rfl (je (by omega))) (e (al GJ fun b7 w7 bp aT aL=>e (st np rfl rfl (rfl) (aL) (by simp) fun wt2_3 aO aJ=> ?_))))))
 have am:Wk w wt2_3:=Md.trans' aT.md aO (fun k hk h=>by omega)
 refine ag ((av _ _ (aa (fun _ aw=>(p mv (e (cl yy (DS (b - a) _ (by omega)) rfl fun bz w19 aV=> ?_)))))))
 obtain ⟨rfl,Y⟩:=aV
 have hmr:=Dd (n:=b - a) (by omega) (by omega)
 refine ae (((aw _ _ (aa (fun _ ax=>(ab (U a) (p mv (p (j5 (((b - a) / 4:Nat):Int) rfl rfl (by omega) (aH (by omega) (by omega))) ?_))))))))
 refine p (kE (((b - a) / 4 *2:Nat):Int) rfl rfl (aH (by omega) (by omega))) (p (a8 ((a+(b - a) / 4 *2:Nat):Int) rfl rfl (aH (by omega) (by omega))) (p (bI ((a+(b - a) / 4 *2 - 1:Nat):Int) rfl rfl (aH (by omega) (by omega))) (ae (((ax _ _ (au ?_)))))))
 have M:(Value.slice j n cp).ownBlock≠some b7:=fun h=>by have :=cM ao h; omega
 refine lp (fun ah I V=> ∃ (s:Nat) (r:Int) (C:Array Nat),(a+(b - a) / 4 *2 - 1≤s∧s≤a+(b - a) / 4 *2 +2)∧(Go.Sort.PermIn a b d C)∧(a9 V.heap b7 [.int .u64 r])∧(V.ownsRow B 71 1 (.slice j n cp) n (LE ay C))∧(Md (fun q=>(Value.slice j n cp).ownBlock=some q) w V)∧(I 0= .slice j n cp)∧(I 1=U a)∧(I 6=U (b - a))∧(I 7=aU b7)∧(I 8= .int .u64 (2 ^ fD (b - a):Nat))∧(I 9=U s)∧(a+(b - a) / 4 *2 +3 - s=ah)) _ ⟨a+(b - a) / 4 *2 - 1,(b - a:Nat),d,(by omega),(Go.Sort.permIn_refl d a b),(Y.B aJ),(aE (aE ao am) Y),((Md.trans am Y).mono (fun _ _ h=>h.elim)),rfl,rfl,rfl,rfl,rfl,rfl,rfl⟩ ?_
 rintro ah I V ⟨s,r,C,hix,aQ,aN,ac,Z,a3,a5,a7,ba,bb,bd,rfl⟩
 refine fx 0 a3 (fx 1 a5 (fx 6 a7 (fx 7 ba (fx 8 bb (fx 9 bd (sq (fun _ aB=>aa (fun _ aC=>(ab (U s) (ab (U a) (ab (U (b - a)) (p (j5 (((b - a) / 4:Nat):Int) rfl rfl (by omega) (aH (by omega) (by omega))) ?_))))))))))))
 refine p (kE (((b - a) / 4 *2:Nat):Int) rfl rfl (aH (by omega) (by omega))) (p (a8 ((a+(b - a) / 4 *2:Nat):Int) rfl rfl (aH (by omega) (by omega))) (p (a8 ((a+(b - a) / 4 *2 +1:Nat):Int) rfl rfl (aH (by omega) (by omega))) (p (le rfl rfl) (ag ((aC _ _ (cd rfl (fun aX=> ?_) (fun aX=> ?_))))))))
 refine az (tn (aB _ _ (sq (fun _ aD=>au (aa (fun _ aF=>(e (cl yz (DR b7 r _ aN) rfl fun bA w36 aW=> ?_))))))))
 obtain ⟨ad,rfl,bv,bx,ai,O⟩:=aW
 obtain ⟨o,bs,a2⟩:=xw ad (2 ^ fD (b - a)) (by omega)
 have hne:=M
 refine ab (.int .u64 (2 ^ fD (b - a):Nat)) (p (sb rfl rfl (je (by omega))) (p (m7 rfl rfl a2) (p (o6 u3 Gl rfl (bw (by omega))) (ae (((aF _ _ ?_)))))))
 refine c6 (fun G wC=> ∃ (A:Nat),(A < b - a)∧(a9 wC.heap b7 [.int .u64 ad])∧(wC.ownsRow B 71 1 (.slice j n cp) n (LE ay C))∧(Md (fun q=>(Value.slice j n cp).ownBlock=some q) w wC)∧(G 0= .slice j n cp)∧(G 1=U a)∧(G 6=U (b - a))∧(G 7=aU b7)∧(G 8= .int .u64 (2 ^ fD (b - a):Nat))∧(G 9=U s)∧(G 10=U A)) ?_ ?_
 refine aa (fun _ aq=>(p mv (ab (U (b - a)) (p (ge rfl rfl) (ag ((aq _ _ (cd rfl (fun aZ=> ?_) (fun aZ=> ?_)))))))))
 exact rg rfl (p mv (ab (U (b - a)) (p (bI ((o - (b - a):Nat):Int) rfl rfl (aH (by omega) (by omega))) (ae (((⟨o - (b - a),(by omega),ai,(bu ac O (fun k hk h=>M (h ▸ hk))),(Md.trans' Z O (fun k hk h=>by omega)),rfl,rfl,rfl,rfl,rfl,rfl,rfl⟩)))))))
 exact az (tn (⟨o,(by omega),ai,(bu ac O (fun k hk h=>M (h ▸ hk))),(Md.trans' Z O (fun k hk h=>by omega)),rfl,rfl,rfl,rfl,rfl,rfl,rfl⟩))
 rintro G wC ⟨A,bt,aM,E,aS,bf,bg,bi,bj,bk,bl,bh⟩
 refine fx 0 bf (fx 1 bg (fx 6 bi (fx 7 bj (fx 8 bk (fx 9 bl (fx 10 bh ?_))))))
 have hdcn:=cU E
 have c:(fun w'=>Wk wC w') wC.drew:=(Md.refl _ _).drew
 refine c5 (fun w'=>Wk wC w') 17 rfl wide c (aI 0 rfl (.slice j n cp) c (aI 1 rfl (U s) c (aI 2 rfl (.slice j n cp) c (aI 3 rfl (U a) c (aI 4 rfl (U A) c (a4 5 rfl (fun _=>a8 ((a+A:Nat):Int) rfl rfl (aH (by omega) (by omega))) (fun _=>c) (aI 6 rfl (.slice j n cp) c ?_)))))))
 refine aI 7 rfl (U a) c (aI 8 rfl (U A) c (a4 9 rfl (fun _=>a8 ((a+A:Nat):Int) rfl rfl (aH (by omega) (by omega))) (fun _=>c) (a4 10 rfl (fun _=>aG aY rfl rfl (by omega) (aj.ok ((aA E).2) (a6 (by omega)))) (fun _=>c) (cK 11 rfl (fun w' J=>ld bc rfl (bo (i:=a+A) ((aA E).2.wk J) (by omega))) c (aI 12 rfl (.slice j n cp) c (aI 13 rfl (U s) c (a4 14 rfl (fun _=>aG aY rfl rfl (by omega) (aj.ok ((aA E).2) (a6 (by omega)))) (fun _=>c) ?_)))))))
 refine cK 15 rfl (fun w' J=>ld bc rfl (bo (i:=s) ((aA E).2.wk J) (by omega))) c (a4 16 rfl (fun _=>aG aY rfl rfl (by omega) (aj.ok ((aA E).2) (a6 (by omega)))) (fun _=>c) (bJ 17 rfl (by kernel_rfl) (by kernel_rfl) (dj (u:=C[a+A]!) (s) (aE E c) c8 rfl rfl rfl (by omega) fun bB aP a0=> ?_)))
 refine a4 18 rfl (fun _=>aG aY rfl rfl (by omega) (aj.ok ((aA E).2) (a6 (by omega)))) (fun h=>Bool.noConfusion ((show true =_ from by kernel_rfl).trans h)) (bJ 19 rfl (by kernel_rfl) (by kernel_rfl) (dj (u:=C[s]!) (a+A) a0 c8 rfl rfl rfl (by omega) fun wS2 aR a1=> ?_))
 have J:wS2.ownsRow B 71 1 (.slice j n cp) n (LE ay (Go.Sort.swp C (s) (a+A))):=a1
 have an:Md (fun q=>(Value.slice j n cp).ownBlock=some q) wC wS2:=Md.trans (c.mono (fun _ _ h=>h.elim)) (Md.trans aP aR)
 refine c4 (by kernel_rfl) ?_
 refine bn (tn (aD _ _ (rg rfl (ab (U s) (p (a8 ((s+1:Nat):Int) rfl rfl (aH (by omega) (by omega))) (p ak (nl (tn ?_))))))))
 exact ⟨_,by omega,s+1,ad,Go.Sort.swp C s (a+A),(by omega),(Ep aQ (by omega) (by omega) (by omega) rfl),(an.B aM (fun h=>M h)),J,(Md.trans aS an),rfl,rfl,rfl,rfl,rfl,rfl,rfl⟩
 refine ext (te _ (te _ (be (f0 rfl ?_))))
 exact ⟨C,rfl,aQ,ac,Z⟩
end Go.Hb.mU
end
section
set_option maxRecDepth 20000
set_option maxHeartbeats 1000000
namespace Go.Hb.qV
open Go.Hb.cG
open Go.Proofs
open Go.Hb.kg
theorem Ei {d:Array Nat} {a b c i j:Nat} (h1:Go.Sort.scanUp (fun x=>a3 x (Go.Sort.swp d a c)[a]!) (Go.Sort.swp d a c) (b - 1) (a+1)=i) (h2:Go.Sort.scanDown (fun x=> !a3 x (Go.Sort.swp d a c)[a]!) (Go.Sort.swp d a c) i (b - 1)=j) (h:i > j):
 Go.Sort.partition a3 d a b c=(j,true,Go.Sort.swp (Go.Sort.swp d a c) j a):=by
 unfold Go.Sort.partition; simp only [h1,h2,if_pos h]
theorem Ej {d:Array Nat} {a b c i j p:Nat} {q:Array Nat} (h1:Go.Sort.scanUp (fun x=>a3 x (Go.Sort.swp d a c)[a]!) (Go.Sort.swp d a c) (b - 1) (a+1)=i) (h2:Go.Sort.scanDown (fun x=> !a3 x (Go.Sort.swp d a c)[a]!) (Go.Sort.swp d a c) i (b - 1)=j) (h:¬i > j)
 (h3:Go.Sort.partLoop a3 a (i+1) (j - 1) (Go.Sort.swp (Go.Sort.swp d a c) i j)=(p,q)):
 Go.Sort.partition a3 d a b c=(p,false,Go.Sort.swp q p a):=by
 unfold Go.Sort.partition; simp only [h1,h2,if_neg h,h3]
theorem Ek (d:Array Nat) (a b s:Nat) (B n cp:Nat) (c:Option Addr) (w:World) (aq:w.ownsRow B 71 1 (.slice c n cp) n (LE ay d)) (da:a≤s∧s < b∧b≤n) (dd:n≤1099511627776):
 aK Tryz.prog 164 (List.toArray [.slice c n cp,U a,U b,U s]) w (fun v w'=>v= .tuple #[U ((Go.Sort.partition a3 d a b s).1),.bool (Go.Sort.partition a3 d a b s).2.1]∧w'.ownsRow B 71 1 (.slice c n cp) n (LE ay (Go.Sort.partition a3 d a b s).2.2)∧Md (fun q=>(Value.slice c n cp).ownBlock=some q) w w'):=by
 refine enter Tryz.func164 rfl Tryz.ntmps164 rfl ?_
 refine aa (fun _ bx=>(p ak (ae (((bx _ _ (sq (fun _ bz=> ?_))))))))
 have hdn:=cU aq
 have ad:(fun w'=>Wk w w') w.drew:=(Md.refl _ _).drew
 refine c5 (fun w'=>Wk w w') 13 rfl wide ad (aI 0 rfl (.slice c n cp) ad (aI 1 rfl (U a) ad (aI 2 rfl (.slice c n cp) ad (aI 3 rfl (U s) ad (aI 4 rfl (.slice c n cp) ad (aI 5 rfl (U s) ad (a4 6 rfl (fun _=>aG aY rfl rfl (by omega) (aj.ok ((aA aq).2) (a6 (by omega)))) (fun _=>ad) ?_)))))))
 refine cK 7 rfl (fun w' C=>ld bc rfl (bo (i:=s) ((aA aq).2.wk C) (by omega))) ad (aI 8 rfl (.slice c n cp) ad (aI 9 rfl (U a) ad (a4 10 rfl (fun _=>aG aY rfl rfl (by omega) (aj.ok ((aA aq).2) (a6 (by omega)))) (fun _=>ad) (cK 11 rfl (fun w' C=>ld bc rfl (bo (i:=a) ((aA aq).2.wk C) (by omega))) ad (a4 12 rfl (fun _=>aG aY rfl rfl (by omega) (aj.ok ((aA aq).2) (a6 (by omega)))) (fun _=>ad) (bJ 13 rfl (by kernel_rfl) (by kernel_rfl) (dj (u:=d[s]!) (a) (aE aq ad) c8 rfl rfl rfl (by omega) fun di bL ci=> ?_)))))))
 refine a4 14 rfl (fun _=>aG aY rfl rfl (by omega) (aj.ok ((aA aq).2) (a6 (by omega)))) (fun h=>Bool.noConfusion ((show true =_ from by kernel_rfl).trans h)) (bJ 15 rfl (by kernel_rfl) (by kernel_rfl) (dj (u:=d[a]!) (s) ci c8 rfl rfl rfl (by omega) fun wP12 bM cj=> ?_))
 have b0:wP12.ownsRow B 71 1 (.slice c n cp) n (LE ay (Go.Sort.swp d (a) (s))):=cj
 have bK:Md (fun q=>(Value.slice c n cp).ownBlock=some q) w wP12:=Md.trans (ad.mono (fun _ _ h=>h.elim)) (Md.trans bL bM)
 refine c4 (by kernel_rfl) ?_
 refine tn (bz _ _ (aa (fun _ bB=>(ab (U a) (p (a8 ((a+1:Nat):Int) rfl rfl (aH (by omega) (by omega))) (ab (U b) (p (bI ((b - 1:Nat):Int) rfl rfl (aH (by omega) (by omega))) (p ak ?_))))))))
 refine ae (((bB _ _ ?_)))
 refine c6 (fun aP bk=> ∃ (I:Nat),(a+1≤I∧(I=a+1∨I≤b - 1 +1))∧(Go.Sort.scanUp (fun x=>a3 x (Go.Sort.swp d a s)[a]!) (Go.Sort.swp d a s) (b - 1) (a+1)=I)∧(bk.ownsRow B 71 1 (.slice c n cp) n (LE ay (Go.Sort.swp d a s)))∧(Md (fun q=>(Value.slice c n cp).ownBlock=some q) w bk)∧(aP 0= .slice c n cp)∧(aP 1=U a)∧(aP 10=U I)∧(aP 11=U (b - 1))) ?_ ?_
 refine au (lp (fun am aR aB=> ∃ (q:Nat),(a+1≤q∧(q=a+1∨q≤b - 1 +1))∧(Go.Sort.scanUp (fun x=>a3 x (Go.Sort.swp d a s)[a]!) (Go.Sort.swp d a s) (b - 1) (q)=Go.Sort.scanUp (fun x=>a3 x (Go.Sort.swp d a s)[a]!) (Go.Sort.swp d a s) (b - 1) (a+1))∧(aB.ownsRow B 71 1 (.slice c n cp) n (LE ay (Go.Sort.swp d a s)))∧(Md (fun q=>(Value.slice c n cp).ownBlock=some q) w aB)∧(aR 0= .slice c n cp)∧(aR 1=U a)∧(aR 10=U q)∧(aR 11=U (b - 1))∧(b - 1 +1 - q=am)) _ ⟨a+1,(by omega),rfl,b0,bK,rfl,rfl,rfl,rfl,rfl⟩ ?_)
 rintro am aR aB ⟨q,hq1,hq2,A,al,cy,cz,cA,cB,rfl⟩
 refine fx 0 cy (fx 1 cz (fx 10 cA (fx 11 cB (sq (fun _ aN=>sq (fun _ av=> ?_))))))
 have hdcn:=cU A
 have Y:(fun w'=>Wk aB w') aB.drew:=(Md.refl _ _).drew
 refine bF (fun w'=>Wk aB w') rfl wide Y (bp 0 rfl (U q) Y (bp 1 rfl (U (b - 1)) Y (aQ 2 rfl (fun _ _=>le rfl rfl) Y (aQ 3 rfl (fun _ _=>mv) Y (hZ (t:=33) rfl (fun cg=> ?_) (fun cg=> ?_))))))
 refine aX 4 rfl (by kernel_rfl) rfl rfl rfl (fun _ _=>ao (.slice c n cp) rfl) Y (aX 5 rfl (by kernel_rfl) rfl rfl rfl (fun _ _=>ao (U q) rfl) Y (aX 6 rfl (by kernel_rfl) rfl rfl rfl (fun _ _=>aG aY rfl rfl (by omega) (aj.ok ((aA A).2) (a6 (by omega)))) Y (aX 7 rfl (by kernel_rfl) rfl rfl rfl (fun w' C=>ld bc rfl (bo (i:=q) ((aA A).2.wk C) (by omega))) Y (aX 8 rfl (by kernel_rfl) rfl rfl rfl (fun _ _=>ao (.slice c n cp) rfl) Y (aX 9 rfl (by kernel_rfl) rfl rfl rfl (fun _ _=>ao (U a) rfl) Y (aX 10 rfl (by kernel_rfl) rfl rfl rfl (fun _ _=>aG aY rfl rfl (by omega) (aj.ok ((aA A).2) (a6 (by omega)))) Y (aX 11 rfl (by kernel_rfl) rfl rfl rfl (fun w' C=>ld bc rfl (bo (i:=a) ((aA A).2.wk C) (by omega))) Y ?_)))))))
 refine iR 12 rfl (by kernel_rfl) rfl rfl rfl (cl gi (gp (Go.Sort.swp d a s)[q]! (Go.Sort.swp d a s)[a]! _) rfl fun dg w42 b7=> ?_)
 obtain ⟨rfl,hE42⟩:=b7
 have aL:(fun w'=>Wk aB w') w42:=Md.trans Y hE42
 refine ⟨aL,?_⟩
 refine aQ 13 rfl (fun _ _=>bl rfl) aL (hn (by kernel_rfl) (tn (av _ _ (cb rfl (fun bh=> ?_) (fun bh=> ?_)))))
 refine az (tn (aN _ _ (au (rg rfl (ab (U q) (p (a8 ((q+1:Nat):Int) rfl rfl (aH (by omega) (by omega))) (p ak (nl ?_))))))))
 exact bn (tn (⟨_,by omega,q+1,(by omega),((by rw [← hq2,qH (show q≤b - 1 by omega) (by simpa using bh)])),(aE A aL),(Md.trans al (aL.mono (fun _ _ h=>h.elim))),rfl,rfl,rfl,rfl,rfl⟩))
 exact ext (te _ (te _ (be (tn (⟨q,hq1,((by rw [← hq2,lH (.inr (by simpa using bh))])),(aE A aL),(Md.trans al (aL.mono (fun _ _ h=>h.elim))),rfl,rfl,rfl,rfl⟩)))))
 refine aT 4 rfl (by kernel_rfl) rfl rfl rfl rfl Y ?_
 refine aT 5 rfl (by kernel_rfl) rfl rfl rfl rfl Y ?_
 refine aT 6 rfl (by kernel_rfl) rfl rfl rfl rfl Y ?_
 refine aT 7 rfl (by kernel_rfl) rfl rfl rfl rfl Y ?_
 refine aT 8 rfl (by kernel_rfl) rfl rfl rfl rfl Y ?_
 refine aT 9 rfl (by kernel_rfl) rfl rfl rfl rfl Y ?_
 refine aT 10 rfl (by kernel_rfl) rfl rfl rfl rfl Y ?_
 refine aT 11 rfl (by kernel_rfl) rfl rfl rfl rfl Y ?_
 refine aT 12 rfl (by kernel_rfl) rfl rfl rfl rfl Y ?_
 refine aQ 13 rfl (fun _ _=>a7 rfl) Y (hn (by kernel_rfl) (tn (av _ _ (cf rfl (ext (te _ (te _ (be ?_))))))))
 exact tn (⟨q,hq1,((by rw [← hq2,lH (.inl (by omega))])),(aE A (Md.refl _ _).drew),al.drew,rfl,rfl,rfl,rfl⟩)
 rintro aP bk ⟨I,db,bv,bd,bb,cu,cv,cw,cx⟩
 refine fx 0 cu (fx 1 cv (fx 10 cw (fx 11 cx ?_)))
 refine c6 (fun aS an=> ∃ (J:Nat),(a≤J∧J≤b - 1)∧(Go.Sort.scanDown (fun x=> !a3 x (Go.Sort.swp d a s)[a]!) (Go.Sort.swp d a s) (I) (b - 1)=J)∧(an.ownsRow B 71 1 (.slice c n cp) n (LE ay (Go.Sort.swp d a s)))∧(Md (fun q=>(Value.slice c n cp).ownBlock=some q) w an)∧(aS 0= .slice c n cp)∧(aS 1=U a)∧(aS 10=U I)∧(aS 11=U J)) ?_ ?_
 refine au (lp (fun am aU aD=> ∃ (q:Nat),(a≤q∧q≤b - 1)∧(Go.Sort.scanDown (fun x=> !a3 x (Go.Sort.swp d a s)[a]!) (Go.Sort.swp d a s) (I) (q)=Go.Sort.scanDown (fun x=> !a3 x (Go.Sort.swp d a s)[a]!) (Go.Sort.swp d a s) (I) (b - 1))∧(aD.ownsRow B 71 1 (.slice c n cp) n (LE ay (Go.Sort.swp d a s)))∧(Md (fun q=>(Value.slice c n cp).ownBlock=some q) w aD)∧(aU 0= .slice c n cp)∧(aU 1=U a)∧(aU 10=U I)∧(aU 11=U q)∧(q=am)) _ ⟨b - 1,(by omega),rfl,bd,bb,rfl,rfl,rfl,rfl,rfl⟩ ?_)
 rintro am aU aD ⟨q,hq1,hq2,A,al,cG,cH,cI,cJ,rfl⟩
 refine fx 0 cG (fx 1 cH (fx 10 cI (fx 11 cJ (sq (fun _ aN=>sq (fun _ av=> ?_))))))
 have hdcn:=cU A
 have O:(fun w'=>Wk aD w') aD.drew:=(Md.refl _ _).drew
 refine bF (fun w'=>Wk aD w') rfl wide O (bp 0 rfl (U I) O (bp 1 rfl (U q) O (aQ 2 rfl (fun _ _=>le rfl rfl) O (aQ 3 rfl (fun _ _=>mv) O (hZ (t:=49) rfl (fun ch=> ?_) (fun ch=> ?_))))))
 refine aX 4 rfl (by kernel_rfl) rfl rfl rfl (fun _ _=>ao (.slice c n cp) rfl) O (aX 5 rfl (by kernel_rfl) rfl rfl rfl (fun _ _=>ao (U q) rfl) O (aX 6 rfl (by kernel_rfl) rfl rfl rfl (fun _ _=>aG aY rfl rfl (by omega) (aj.ok ((aA A).2) (a6 (by omega)))) O (aX 7 rfl (by kernel_rfl) rfl rfl rfl (fun w' C=>ld bc rfl (bo (i:=q) ((aA A).2.wk C) (by omega))) O (aX 8 rfl (by kernel_rfl) rfl rfl rfl (fun _ _=>ao (.slice c n cp) rfl) O (aX 9 rfl (by kernel_rfl) rfl rfl rfl (fun _ _=>ao (U a) rfl) O (aX 10 rfl (by kernel_rfl) rfl rfl rfl (fun _ _=>aG aY rfl rfl (by omega) (aj.ok ((aA A).2) (a6 (by omega)))) O (aX 11 rfl (by kernel_rfl) rfl rfl rfl (fun w' C=>ld bc rfl (bo (i:=a) ((aA A).2.wk C) (by omega))) O ?_)))))))
 refine iR 12 rfl (by kernel_rfl) rfl rfl rfl (cl gi (gp (Go.Sort.swp d a s)[q]! (Go.Sort.swp d a s)[a]! _) rfl fun dh w58 b8=> ?_)
 obtain ⟨rfl,hE58⟩:=b8
 have ax:(fun w'=>Wk aD w') w58:=Md.trans O hE58
 refine ⟨ax,?_⟩
 refine aX 13 rfl (by kernel_rfl) rfl rfl rfl (fun _ _=>no rfl) ax (aQ 14 rfl (fun _ _=>bl rfl) ax (hn (by kernel_rfl) (tn (av _ _ (cb rfl (fun bi=> ?_) (fun bi=> ?_))))))
 refine az (tn (aN _ _ (au (rg rfl (ab (U q) (p (bI ((q - 1:Nat):Int) rfl rfl (aH (by omega) (by omega))) (p ak (nl ?_))))))))
 exact bn (tn (⟨_,by omega,q - 1,(by omega),((by rw [← hq2,pf (show 0 < q by omega) (show I≤q by omega) (by simpa using bi)])),(aE A ax),(Md.trans al (ax.mono (fun _ _ h=>h.elim))),rfl,rfl,rfl,rfl,rfl⟩))
 exact ext (te _ (te _ (be (tn (⟨q,hq1,((by rw [← hq2,k5 (.inr (by simpa using bi))])),(aE A ax),(Md.trans al (ax.mono (fun _ _ h=>h.elim))),rfl,rfl,rfl,rfl⟩)))))
 refine aT 4 rfl (by kernel_rfl) rfl rfl rfl rfl O ?_
 refine aT 5 rfl (by kernel_rfl) rfl rfl rfl rfl O ?_
 refine aT 6 rfl (by kernel_rfl) rfl rfl rfl rfl O ?_
 refine aT 7 rfl (by kernel_rfl) rfl rfl rfl rfl O ?_
 refine aT 8 rfl (by kernel_rfl) rfl rfl rfl rfl O ?_
 refine aT 9 rfl (by kernel_rfl) rfl rfl rfl rfl O ?_
 refine aT 10 rfl (by kernel_rfl) rfl rfl rfl rfl O ?_
 refine aT 11 rfl (by kernel_rfl) rfl rfl rfl rfl O ?_
 refine aT 12 rfl (by kernel_rfl) rfl rfl rfl rfl O ?_
 refine aT 13 rfl (by kernel_rfl) rfl rfl rfl rfl O ?_
 refine aQ 14 rfl (fun _ _=>a7 rfl) O (hn (by kernel_rfl) (tn (av _ _ (cf rfl (ext (te _ (te _ (be ?_))))))))
 exact tn (⟨q,hq1,((by rw [← hq2,k5 (.inl (by omega))])),(aE A (Md.refl _ _).drew),al.drew,rfl,rfl,rfl,rfl⟩)
 rintro aS an ⟨J,dc,bq,E,aO,cC,cD,cE,cF⟩
 refine fx 0 cC (fx 1 cD (fx 10 cE (fx 11 cF (sq (fun _ aN=>aa (fun _ av=>(ab (U I) (ab (U J) (p (gt rfl rfl) (nl ?_))))))))))
 refine tn (av _ _ (cd rfl (fun ca=> ?_) (fun ca=> ?_)))
 refine sq (fun _ a9=> ?_)
 have hdcn:=cU E
 have ai:(fun w'=>Wk an w') an.drew:=(Md.refl _ _).drew
 refine c5 (fun w'=>Wk an w') 13 rfl wide ai (aI 0 rfl (.slice c n cp) ai (aI 1 rfl (U J) ai (aI 2 rfl (.slice c n cp) ai (aI 3 rfl (U a) ai (aI 4 rfl (.slice c n cp) ai (aI 5 rfl (U a) ai (a4 6 rfl (fun _=>aG aY rfl rfl (by omega) (aj.ok ((aA E).2) (a6 (by omega)))) (fun _=>ai) ?_)))))))
 refine cK 7 rfl (fun w' C=>ld bc rfl (bo (i:=a) ((aA E).2.wk C) (by omega))) ai (aI 8 rfl (.slice c n cp) ai (aI 9 rfl (U J) ai (a4 10 rfl (fun _=>aG aY rfl rfl (by omega) (aj.ok ((aA E).2) (a6 (by omega)))) (fun _=>ai) (cK 11 rfl (fun w' C=>ld bc rfl (bo (i:=J) ((aA E).2.wk C) (by omega))) ai (a4 12 rfl (fun _=>aG aY rfl rfl (by omega) (aj.ok ((aA E).2) (a6 (by omega)))) (fun _=>ai) (bJ 13 rfl (by kernel_rfl) (by kernel_rfl) (dj (u:=(Go.Sort.swp d a s)[a]!) (J) (aE E ai) c8 rfl rfl rfl (by omega) fun dk bO ck=> ?_)))))))
 refine a4 14 rfl (fun _=>aG aY rfl rfl (by omega) (aj.ok ((aA E).2) (a6 (by omega)))) (fun h=>Bool.noConfusion ((show true =_ from by kernel_rfl).trans h)) (bJ 15 rfl (by kernel_rfl) (by kernel_rfl) (dj (u:=(Go.Sort.swp d a s)[J]!) (a) ck c8 rfl rfl rfl (by omega) fun wP82 bP cm=> ?_))
 have b1:wP82.ownsRow B 71 1 (.slice c n cp) n (LE ay (Go.Sort.swp (Go.Sort.swp d a s) (J) (a))):=cm
 have bN:Md (fun q=>(Value.slice c n cp).ownBlock=some q) an wP82:=Md.trans (ai.mono (fun _ _ h=>h.elim)) (Md.trans bO bP)
 refine c4 (by kernel_rfl) ?_
 refine tn (a9 _ _ (aa (fun _ ba=>(ab (U J) (p (bA (U J) rfl) (ae (((ba _ _ ?_)))))))))
 refine rt (tr (f2 rfl rfl rfl ?_))
 have hz:=Ei bv bq (by omega)
 exact ⟨by rw [hz]; rfl,by rw [hz]; exact b1,Md.trans aO bN⟩
 refine az (tn (aN _ _ (sq (fun _ a9=> ?_))))
 have hdcn:=cU E
 have ag:(fun w'=>Wk an w') an.drew:=(Md.refl _ _).drew
 refine c5 (fun w'=>Wk an w') 13 rfl wide ag (aI 0 rfl (.slice c n cp) ag (aI 1 rfl (U I) ag (aI 2 rfl (.slice c n cp) ag (aI 3 rfl (U J) ag (aI 4 rfl (.slice c n cp) ag (aI 5 rfl (U J) ag (a4 6 rfl (fun _=>aG aY rfl rfl (by omega) (aj.ok ((aA E).2) (a6 (by omega)))) (fun _=>ag) ?_)))))))
 refine cK 7 rfl (fun w' C=>ld bc rfl (bo (i:=J) ((aA E).2.wk C) (by omega))) ag (aI 8 rfl (.slice c n cp) ag (aI 9 rfl (U I) ag (a4 10 rfl (fun _=>aG aY rfl rfl (by omega) (aj.ok ((aA E).2) (a6 (by omega)))) (fun _=>ag) (cK 11 rfl (fun w' C=>ld bc rfl (bo (i:=I) ((aA E).2.wk C) (by omega))) ag (a4 12 rfl (fun _=>aG aY rfl rfl (by omega) (aj.ok ((aA E).2) (a6 (by omega)))) (fun _=>ag) (bJ 13 rfl (by kernel_rfl) (by kernel_rfl) (dj (u:=(Go.Sort.swp d a s)[J]!) (I) (aE E ag) c8 rfl rfl rfl (by omega) fun dl bR cn=> ?_)))))))
 refine a4 14 rfl (fun _=>aG aY rfl rfl (by omega) (aj.ok ((aA E).2) (a6 (by omega)))) (fun h=>Bool.noConfusion ((show true =_ from by kernel_rfl).trans h)) (bJ 15 rfl (by kernel_rfl) (by kernel_rfl) (dj (u:=(Go.Sort.swp d a s)[I]!) (J) cn c8 rfl rfl rfl (by omega) fun wPX2 bS co=> ?_))
 have b2:wPX2.ownsRow B 71 1 (.slice c n cp) n (LE ay (Go.Sort.swp (Go.Sort.swp d a s) (I) (J))):=co
 have bQ:Md (fun q=>(Value.slice c n cp).ownBlock=some q) an wPX2:=Md.trans (ag.mono (fun _ _ h=>h.elim)) (Md.trans bR bS)
 refine c4 (by kernel_rfl) ?_
 refine tn (a9 _ _ (aa (fun _ ba=>(ab (U I) (p (a8 ((I+1:Nat):Int) rfl rfl (aH (by omega) (by omega))) (ae (((ba _ _ ?_)))))))))
 refine aa (fun _ bC=>(ab (U J) (p (bI ((J - 1:Nat):Int) rfl rfl (aH (by omega) (by omega))) (ae (((bC _ _ (sq (fun _ bD=> ?_)))))))))
 refine au (lp (fun am aV bj=> ∃ (i j:Nat) (G:Array Nat),(a+2≤i∧i≤b∧a≤j∧j < b∧i≤j+2)∧(Go.Sort.partLoop a3 a i j G=Go.Sort.partLoop a3 a (I+1) (J - 1) (Go.Sort.swp (Go.Sort.swp d a s) I J))∧(bj.ownsRow B 71 1 (.slice c n cp) n (LE ay G))∧(Md (fun q=>(Value.slice c n cp).ownBlock=some q) w bj)∧(aV 0= .slice c n cp)∧(aV 1=U a)∧(aV 10=U i)∧(aV 11=U j)∧(j+1 - i=am)) _ ⟨I+1,J - 1,Go.Sort.swp (Go.Sort.swp d a s) I J,(by omega),rfl,b2,(Md.trans aO bQ),rfl,rfl,rfl,rfl,rfl⟩ ?_)
 rintro am aV bj ⟨i,j,G,hi,bu,bZ,bH,cL,cM,cN,cO,rfl⟩
 refine fx 0 cL (fx 1 cM (fx 10 cN (fx 11 cO (au ?_))))
 refine c6 (fun aW bm=> ∃ (Z:Nat),(i≤Z∧(Z=i∨Z≤j+1))∧(Go.Sort.scanUp (fun x=>a3 x G[a]!) G (j) (i)=Z)∧(bm.ownsRow B 71 1 (.slice c n cp) n (LE ay G))∧(Md (fun q=>(Value.slice c n cp).ownBlock=some q) w bm)∧(aW 0= .slice c n cp)∧(aW 1=U a)∧(aW 10=U Z)∧(aW 11=U j)) ?_ ?_
 refine au (lp (fun am aZ aC=> ∃ (q:Nat),(i≤q∧(q=i∨q≤j+1))∧(Go.Sort.scanUp (fun x=>a3 x G[a]!) G (j) (q)=Go.Sort.scanUp (fun x=>a3 x G[a]!) G (j) (i))∧(aC.ownsRow B 71 1 (.slice c n cp) n (LE ay G))∧(Md (fun q=>(Value.slice c n cp).ownBlock=some q) w aC)∧(aZ 0= .slice c n cp)∧(aZ 1=U a)∧(aZ 10=U q)∧(aZ 11=U j)∧(j+1 - q=am)) _ ⟨i,(by omega),rfl,bZ,bH,rfl,rfl,rfl,rfl,rfl⟩ ?_)
 rintro am aZ aC ⟨q,hq1,hq2,A,al,cT,cV,cW,cX,rfl⟩
 refine fx 0 cT (fx 1 cV (fx 10 cW (fx 11 cX (sq (fun _ aM=>sq (fun _ ar=> ?_))))))
 have hdcn:=cU A
 have V:(fun w'=>Wk aC w') aC.drew:=(Md.refl _ _).drew
 refine bF (fun w'=>Wk aC w') rfl wide V (bp 0 rfl (U q) V (bp 1 rfl (U j) V (aQ 2 rfl (fun _ _=>le rfl rfl) V (aQ 3 rfl (fun _ _=>mv) V (hZ (t:=102) rfl (fun cc=> ?_) (fun cc=> ?_))))))
 refine aX 4 rfl (by kernel_rfl) rfl rfl rfl (fun _ _=>ao (.slice c n cp) rfl) V (aX 5 rfl (by kernel_rfl) rfl rfl rfl (fun _ _=>ao (U q) rfl) V (aX 6 rfl (by kernel_rfl) rfl rfl rfl (fun _ _=>aG aY rfl rfl (by omega) (aj.ok ((aA A).2) (a6 (by omega)))) V (aX 7 rfl (by kernel_rfl) rfl rfl rfl (fun w' C=>ld bc rfl (bo (i:=q) ((aA A).2.wk C) (by omega))) V (aX 8 rfl (by kernel_rfl) rfl rfl rfl (fun _ _=>ao (.slice c n cp) rfl) V (aX 9 rfl (by kernel_rfl) rfl rfl rfl (fun _ _=>ao (U a) rfl) V (aX 10 rfl (by kernel_rfl) rfl rfl rfl (fun _ _=>aG aY rfl rfl (by omega) (aj.ok ((aA A).2) (a6 (by omega)))) V (aX 11 rfl (by kernel_rfl) rfl rfl rfl (fun w' C=>ld bc rfl (bo (i:=a) ((aA A).2.wk C) (by omega))) V ?_)))))))
 refine iR 12 rfl (by kernel_rfl) rfl rfl rfl (cl gi (gp G[q]! G[a]! _) rfl fun de w111 b5=> ?_)
 obtain ⟨rfl,bE⟩:=b5
 have aJ:(fun w'=>Wk aC w') w111:=Md.trans V bE
 refine ⟨aJ,?_⟩
 refine aQ 13 rfl (fun _ _=>bl rfl) aJ (hn (by kernel_rfl) (tn (ar _ _ (cb rfl (fun bf=> ?_) (fun bf=> ?_)))))
 refine az (tn (aM _ _ (au (rg rfl (ab (U q) (p (a8 ((q+1:Nat):Int) rfl rfl (aH (by omega) (by omega))) (p ak (nl ?_))))))))
 exact bn (tn (⟨_,by omega,q+1,(by omega),((by rw [← hq2,qH (show q≤j by omega) (by simpa using bf)])),(aE A aJ),(Md.trans al (aJ.mono (fun _ _ h=>h.elim))),rfl,rfl,rfl,rfl,rfl⟩))
 exact ext (te _ (te _ (be (tn (⟨q,hq1,((by rw [← hq2,lH (.inr (by simpa using bf))])),(aE A aJ),(Md.trans al (aJ.mono (fun _ _ h=>h.elim))),rfl,rfl,rfl,rfl⟩)))))
 refine aT 4 rfl (by kernel_rfl) rfl rfl rfl rfl V ?_
 refine aT 5 rfl (by kernel_rfl) rfl rfl rfl rfl V ?_
 refine aT 6 rfl (by kernel_rfl) rfl rfl rfl rfl V ?_
 refine aT 7 rfl (by kernel_rfl) rfl rfl rfl rfl V ?_
 refine aT 8 rfl (by kernel_rfl) rfl rfl rfl rfl V ?_
 refine aT 9 rfl (by kernel_rfl) rfl rfl rfl rfl V ?_
 refine aT 10 rfl (by kernel_rfl) rfl rfl rfl rfl V ?_
 refine aT 11 rfl (by kernel_rfl) rfl rfl rfl rfl V ?_
 refine aT 12 rfl (by kernel_rfl) rfl rfl rfl rfl V ?_
 refine aQ 13 rfl (fun _ _=>a7 rfl) V (hn (by kernel_rfl) (tn (ar _ _ (cf rfl (ext (te _ (te _ (be ?_))))))))
 exact tn (⟨q,hq1,((by rw [← hq2,lH (.inl (by omega))])),(aE A (Md.refl _ _).drew),al.drew,rfl,rfl,rfl,rfl⟩)
 rintro aW bm ⟨Z,bs,bw,bd,bb,cP,cQ,cR,cS⟩
 refine fx 0 cP (fx 1 cQ (fx 10 cR (fx 11 cS ?_)))
 refine c6 (fun a0 ap=> ∃ (ac:Nat),(a≤ac∧ac≤j)∧(Go.Sort.scanDown (fun x=> !a3 x G[a]!) G (Z) (j)=ac)∧(ap.ownsRow B 71 1 (.slice c n cp) n (LE ay G))∧(Md (fun q=>(Value.slice c n cp).ownBlock=some q) w ap)∧(a0 0= .slice c n cp)∧(a0 1=U a)∧(a0 10=U Z)∧(a0 11=U ac)) ?_ ?_
 refine au (lp (fun am a1 aF=> ∃ (q:Nat),(a≤q∧q≤j)∧(Go.Sort.scanDown (fun x=> !a3 x G[a]!) G (Z) (q)=Go.Sort.scanDown (fun x=> !a3 x G[a]!) G (Z) (j))∧(aF.ownsRow B 71 1 (.slice c n cp) n (LE ay G))∧(Md (fun q=>(Value.slice c n cp).ownBlock=some q) w aF)∧(a1 0= .slice c n cp)∧(a1 1=U a)∧(a1 10=U Z)∧(a1 11=U q)∧(q=am)) _ ⟨j,(by omega),rfl,bd,bb,rfl,rfl,rfl,rfl,rfl⟩ ?_)
 rintro am a1 aF ⟨q,hq1,hq2,A,al,c2,c3,c7,c9,rfl⟩
 refine fx 0 c2 (fx 1 c3 (fx 10 c7 (fx 11 c9 (sq (fun _ aM=>sq (fun _ ar=> ?_))))))
 have hdcn:=cU A
 have M:(fun w'=>Wk aF w') aF.drew:=(Md.refl _ _).drew
 refine bF (fun w'=>Wk aF w') rfl wide M (bp 0 rfl (U Z) M (bp 1 rfl (U q) M (aQ 2 rfl (fun _ _=>le rfl rfl) M (aQ 3 rfl (fun _ _=>mv) M (hZ (t:=118) rfl (fun ce=> ?_) (fun ce=> ?_))))))
 refine aX 4 rfl (by kernel_rfl) rfl rfl rfl (fun _ _=>ao (.slice c n cp) rfl) M (aX 5 rfl (by kernel_rfl) rfl rfl rfl (fun _ _=>ao (U q) rfl) M (aX 6 rfl (by kernel_rfl) rfl rfl rfl (fun _ _=>aG aY rfl rfl (by omega) (aj.ok ((aA A).2) (a6 (by omega)))) M (aX 7 rfl (by kernel_rfl) rfl rfl rfl (fun w' C=>ld bc rfl (bo (i:=q) ((aA A).2.wk C) (by omega))) M (aX 8 rfl (by kernel_rfl) rfl rfl rfl (fun _ _=>ao (.slice c n cp) rfl) M (aX 9 rfl (by kernel_rfl) rfl rfl rfl (fun _ _=>ao (U a) rfl) M (aX 10 rfl (by kernel_rfl) rfl rfl rfl (fun _ _=>aG aY rfl rfl (by omega) (aj.ok ((aA A).2) (a6 (by omega)))) M (aX 11 rfl (by kernel_rfl) rfl rfl rfl (fun w' C=>ld bc rfl (bo (i:=a) ((aA A).2.wk C) (by omega))) M ?_)))))))
 refine iR 12 rfl (by kernel_rfl) rfl rfl rfl (cl gi (gp G[q]! G[a]! _) rfl fun df w127 b6=> ?_)
 obtain ⟨rfl,bG⟩:=b6
 have aw:(fun w'=>Wk aF w') w127:=Md.trans M bG
 refine ⟨aw,?_⟩
 refine aX 13 rfl (by kernel_rfl) rfl rfl rfl (fun _ _=>no rfl) aw (aQ 14 rfl (fun _ _=>bl rfl) aw (hn (by kernel_rfl) (tn (ar _ _ (cb rfl (fun bg=> ?_) (fun bg=> ?_))))))
 refine az (tn (aM _ _ (au (rg rfl (ab (U q) (p (bI ((q - 1:Nat):Int) rfl rfl (aH (by omega) (by omega))) (p ak (nl ?_))))))))
 exact bn (tn (⟨_,by omega,q - 1,(by omega),((by rw [← hq2,pf (show 0 < q by omega) (show Z≤q by omega) (by simpa using bg)])),(aE A aw),(Md.trans al (aw.mono (fun _ _ h=>h.elim))),rfl,rfl,rfl,rfl,rfl⟩))
 exact ext (te _ (te _ (be (tn (⟨q,hq1,((by rw [← hq2,k5 (.inr (by simpa using bg))])),(aE A aw),(Md.trans al (aw.mono (fun _ _ h=>h.elim))),rfl,rfl,rfl,rfl⟩)))))
 refine aT 4 rfl (by kernel_rfl) rfl rfl rfl rfl M ?_
 refine aT 5 rfl (by kernel_rfl) rfl rfl rfl rfl M ?_
 refine aT 6 rfl (by kernel_rfl) rfl rfl rfl rfl M ?_
 refine aT 7 rfl (by kernel_rfl) rfl rfl rfl rfl M ?_
 refine aT 8 rfl (by kernel_rfl) rfl rfl rfl rfl M ?_
 refine aT 9 rfl (by kernel_rfl) rfl rfl rfl rfl M ?_
 refine aT 10 rfl (by kernel_rfl) rfl rfl rfl rfl M ?_
 refine aT 11 rfl (by kernel_rfl) rfl rfl rfl rfl M ?_
 refine aT 12 rfl (by kernel_rfl) rfl rfl rfl rfl M ?_
 refine aT 13 rfl (by kernel_rfl) rfl rfl rfl rfl M ?_
 refine aQ 14 rfl (fun _ _=>a7 rfl) M (hn (by kernel_rfl) (tn (ar _ _ (cf rfl (ext (te _ (te _ (be ?_))))))))
 exact tn (⟨q,hq1,((by rw [← hq2,k5 (.inl (by omega))])),(aE A (Md.refl _ _).drew),al.drew,rfl,rfl,rfl,rfl⟩)
 rintro a0 ap ⟨ac,bt,br,E,aO,cY,cZ,c0,c1⟩
 refine fx 0 cY (fx 1 cZ (fx 10 c0 (fx 11 c1 (sq (fun _ aM=>aa (fun _ ar=>(ab (U Z) (ab (U ac) (p (gt rfl rfl) (nl ?_))))))))))
 refine tn (ar _ _ (cd rfl (fun b9=> ?_) (fun b9=> ?_)))
 refine ext (te _ (iD (by decide) (te _ (be (tn (bD _ _ (sq (fun _ a2=> ?_))))))))
 have hdcn:=cU E
 have ah:(fun w'=>Wk ap w') ap.drew:=(Md.refl _ _).drew
 refine c5 (fun w'=>Wk ap w') 13 rfl wide ah (aI 0 rfl (.slice c n cp) ah (aI 1 rfl (U ac) ah (aI 2 rfl (.slice c n cp) ah (aI 3 rfl (U a) ah (aI 4 rfl (.slice c n cp) ah (aI 5 rfl (U a) ah (a4 6 rfl (fun _=>aG aY rfl rfl (by omega) (aj.ok ((aA E).2) (a6 (by omega)))) (fun _=>ah) ?_)))))))
 refine cK 7 rfl (fun w' C=>ld bc rfl (bo (i:=a) ((aA E).2.wk C) (by omega))) ah (aI 8 rfl (.slice c n cp) ah (aI 9 rfl (U ac) ah (a4 10 rfl (fun _=>aG aY rfl rfl (by omega) (aj.ok ((aA E).2) (a6 (by omega)))) (fun _=>ah) (cK 11 rfl (fun w' C=>ld bc rfl (bo (i:=ac) ((aA E).2.wk C) (by omega))) ah (a4 12 rfl (fun _=>aG aY rfl rfl (by omega) (aj.ok ((aA E).2) (a6 (by omega)))) (fun _=>ah) (bJ 13 rfl (by kernel_rfl) (by kernel_rfl) (dj (u:=G[a]!) (ac) (aE E ah) c8 rfl rfl rfl (by omega) fun dn bX cs=> ?_)))))))
 refine a4 14 rfl (fun _=>aG aY rfl rfl (by omega) (aj.ok ((aA E).2) (a6 (by omega)))) (fun h=>Bool.noConfusion ((show true =_ from by kernel_rfl).trans h)) (bJ 15 rfl (by kernel_rfl) (by kernel_rfl) (dj (u:=G[ac]!) (a) cs c8 rfl rfl rfl (by omega) fun wPZ2 bY ct=> ?_))
 have b4:wPZ2.ownsRow B 71 1 (.slice c n cp) n (LE ay (Go.Sort.swp G (ac) (a))):=ct
 have bW:Md (fun q=>(Value.slice c n cp).ownBlock=some q) ap wPZ2:=Md.trans (ah.mono (fun _ _ h=>h.elim)) (Md.trans bX bY)
 refine c4 (by kernel_rfl) ?_
 refine tn (a2 _ _ (aa (fun _ a5=>(ab (U ac) (p (bA (U ac) rfl) (ae (((a5 _ _ ?_)))))))))
 refine rt (f2 rfl rfl rfl ?_)
 have hz:=Ej bv bq (by omega) (bu.symm.trans (by rw [uY bw br bs.1 bt.2,if_pos (by omega)]))
 exact ⟨by rw [hz]; rfl,by rw [hz]; exact b4,Md.trans aO bW⟩
 refine az (tn (aM _ _ (sq (fun _ a2=> ?_))))
 have hdcn:=cU E
 have hS18:(fun w'=>Wk ap w') ap.drew:=(Md.refl _ _).drew
 refine c5 (fun w'=>Wk ap w') 13 rfl wide hS18 (aI 0 rfl (.slice c n cp) hS18 (aI 1 rfl (U Z) hS18 (aI 2 rfl (.slice c n cp) hS18 (aI 3 rfl (U ac) hS18 (aI 4 rfl (.slice c n cp) hS18 (aI 5 rfl (U ac) hS18 (a4 6 rfl (fun _=>aG aY rfl rfl (by omega) (aj.ok ((aA E).2) (a6 (by omega)))) (fun _=>hS18) ?_)))))))
 refine cK 7 rfl (fun w' C=>ld bc rfl (bo (i:=ac) ((aA E).2.wk C) (by omega))) hS18 (aI 8 rfl (.slice c n cp) hS18 (aI 9 rfl (U Z) hS18 (a4 10 rfl (fun _=>aG aY rfl rfl (by omega) (aj.ok ((aA E).2) (a6 (by omega)))) (fun _=>hS18) (cK 11 rfl (fun w' C=>ld bc rfl (bo (i:=Z) ((aA E).2.wk C) (by omega))) hS18 (a4 12 rfl (fun _=>aG aY rfl rfl (by omega) (aj.ok ((aA E).2) (a6 (by omega)))) (fun _=>hS18) (bJ 13 rfl (by kernel_rfl) (by kernel_rfl) (dj (u:=G[ac]!) (Z) (aE E hS18) c8 rfl rfl rfl (by omega) fun dm bU cq=> ?_)))))))
 refine a4 14 rfl (fun _=>aG aY rfl rfl (by omega) (aj.ok ((aA E).2) (a6 (by omega)))) (fun h=>Bool.noConfusion ((show true =_ from by kernel_rfl).trans h)) (bJ 15 rfl (by kernel_rfl) (by kernel_rfl) (dj (u:=G[Z]!) (ac) cq c8 rfl rfl rfl (by omega) fun wPY2 bV cr=> ?_))
 have b3:wPY2.ownsRow B 71 1 (.slice c n cp) n (LE ay (Go.Sort.swp G (Z) (ac))):=cr
 have bT:Md (fun q=>(Value.slice c n cp).ownBlock=some q) ap wPY2:=Md.trans (hS18.mono (fun _ _ h=>h.elim)) (Md.trans bU bV)
 refine c4 (by kernel_rfl) ?_
 refine tn (a2 _ _ (aa (fun _ a5=>(ab (U Z) (p (a8 ((Z+1:Nat):Int) rfl rfl (aH (by omega) (by omega))) (ae (((a5 _ _ ?_)))))))))
 exact rg rfl (ab (U ac) (p (bI ((ac - 1:Nat):Int) rfl rfl (aH (by omega) (by omega))) (p ak (nl (bn (tn (⟨_,by omega,Z+1,ac - 1,Go.Sort.swp G Z ac,(by omega),((by rw [← bu,uY bw br bs.1 bt.2,if_neg (by omega),if_pos (by omega)])),b3,(Md.trans aO bT),rfl,rfl,rfl,rfl,rfl⟩)))))))
theorem Em (d:Array Nat) (a b V:Nat) (B n cp:Nat) (c:Option Addr) (w:World) (ac:w.ownsRow B 71 1 (.slice c n cp) n (LE ay d)) (bV:a≤V∧V < b∧b≤n) (bY:n≤1099511627776):
 aK Tryz.prog 163 (List.toArray [.slice c n cp,U a,U b,U V]) w (fun v w'=>v=U ((Go.Sort.partitionEqual a3 d a b V).1)∧w'.ownsRow B 71 1 (.slice c n cp) n (LE ay (Go.Sort.partitionEqual a3 d a b V).2)∧Md (fun q=>(Value.slice c n cp).ownBlock=some q) w w'):=by
 refine enter Tryz.func163 rfl Tryz.ntmps163 rfl ?_
 refine aa (fun _ aR=>(ae (((aR _ _ (sq (fun _ aS=> ?_)))))))
 have hdn:=cU ac
 have I:(fun w'=>Wk w w') w.drew:=(Md.refl _ _).drew
 refine c5 (fun w'=>Wk w w') 13 rfl wide I (aI 0 rfl (.slice c n cp) I (aI 1 rfl (U a) I (aI 2 rfl (.slice c n cp) I (aI 3 rfl (U V) I (aI 4 rfl (.slice c n cp) I (aI 5 rfl (U V) I (a4 6 rfl (fun _=>aG aY rfl rfl (by omega) (aj.ok ((aA ac).2) (a6 (by omega)))) (fun _=>I) ?_)))))))
 refine cK 7 rfl (fun w' O=>ld bc rfl (bo (i:=V) ((aA ac).2.wk O) (by omega))) I (aI 8 rfl (.slice c n cp) I (aI 9 rfl (U a) I (a4 10 rfl (fun _=>aG aY rfl rfl (by omega) (aj.ok ((aA ac).2) (a6 (by omega)))) (fun _=>I) (cK 11 rfl (fun w' O=>ld bc rfl (bo (i:=a) ((aA ac).2.wk O) (by omega))) I (a4 12 rfl (fun _=>aG aY rfl rfl (by omega) (aj.ok ((aA ac).2) (a6 (by omega)))) (fun _=>I) (bJ 13 rfl (by kernel_rfl) (by kernel_rfl) (dj (u:=d[V]!) (a) (aE ac I) c8 rfl rfl rfl (by omega) fun b1 a2 bs=> ?_)))))))
 refine a4 14 rfl (fun _=>aG aY rfl rfl (by omega) (aj.ok ((aA ac).2) (a6 (by omega)))) (fun h=>Bool.noConfusion ((show true =_ from by kernel_rfl).trans h)) (bJ 15 rfl (by kernel_rfl) (by kernel_rfl) (dj (u:=d[a]!) (V) bs c8 rfl rfl rfl (by omega) fun wP12 a5 bt=> ?_))
 have bh:wP12.ownsRow B 71 1 (.slice c n cp) n (LE ay (Go.Sort.swp d (a) (V))):=bt
 have a1:Md (fun q=>(Value.slice c n cp).ownBlock=some q) w wP12:=Md.trans (I.mono (fun _ _ h=>h.elim)) (Md.trans a2 a5)
 refine c4 (by kernel_rfl) ?_
 refine tn (aS _ _ (aa (fun _ aU=>(ab (U a) (p (a8 ((a+1:Nat):Int) rfl rfl (aH (by omega) (by omega))) (ab (U b) (p (bI ((b - 1:Nat):Int) rfl rfl (aH (by omega) (by omega))) (p ak ?_))))))))
 refine ae (((aU _ _ (sq (fun _ aV=>au (lp (fun Z ar aJ=> ∃ (i j:Nat) (s:Array Nat),(a+1≤i∧i≤b∧a≤j∧j < b∧i≤j+2)∧(Go.Sort.partEqLoop a3 a i j s=Go.Sort.partitionEqual a3 d a b V)∧(aJ.ownsRow B 71 1 (.slice c n cp) n (LE ay s))∧(Md (fun q=>(Value.slice c n cp).ownBlock=some q) w aJ)∧(ar 0= .slice c n cp)∧(ar 1=U a)∧(ar 9=U i)∧(ar 10=U j)∧(j+1 - i=Z)) _ ⟨a+1,b - 1,(Go.Sort.swp d a V),(by omega),rfl,bh,a1,rfl,rfl,rfl,rfl,rfl⟩ ?_))))))
 rintro Z ar aJ ⟨i,j,s,hi,aO,bf,a0,bw,bx,bB,bz,rfl⟩
 refine fx 0 bw (fx 1 bx (fx 9 bB (fx 10 bz (au ?_))))
 refine c6 (fun av aL=> ∃ (A:Nat),(i≤A∧(A=i∨A≤j+1))∧(Go.Sort.scanUp (fun x=> !a3 s[a]! x) s (j) (i)=A)∧(aL.ownsRow B 71 1 (.slice c n cp) n (LE ay s))∧(Md (fun q=>(Value.slice c n cp).ownBlock=some q) w aL)∧(av 0= .slice c n cp)∧(av 1=U a)∧(av 9=U A)∧(av 10=U j)) ?_ ?_
 refine au (lp (fun Z aw al=> ∃ (q:Nat),(i≤q∧(q=i∨q≤j+1))∧(Go.Sort.scanUp (fun x=> !a3 s[a]! x) s (j) (q)=Go.Sort.scanUp (fun x=> !a3 s[a]! x) s (j) (i))∧(al.ownsRow B 71 1 (.slice c n cp) n (LE ay s))∧(Md (fun q=>(Value.slice c n cp).ownBlock=some q) w al)∧(aw 0= .slice c n cp)∧(aw 1=U a)∧(aw 9=U q)∧(aw 10=U j)∧(j+1 - q=Z)) _ ⟨i,(by omega),rfl,bf,a0,rfl,rfl,rfl,rfl,rfl⟩ ?_)
 rintro Z aw al ⟨q,hq1,hq2,G,ah,bH,bK,bM,bL,rfl⟩
 refine fx 0 bH (fx 1 bK (fx 9 bM (fx 10 bL (sq (fun _ aq=>sq (fun _ ad=> ?_))))))
 have hdcn:=cU G
 have C:(fun w'=>Wk al w') al.drew:=(Md.refl _ _).drew
 refine bF (fun w'=>Wk al w') rfl wide C (bp 0 rfl (U q) C (bp 1 rfl (U j) C (aQ 2 rfl (fun _ _=>le rfl rfl) C (aQ 3 rfl (fun _ _=>mv) C (hZ (t:=32) rfl (fun bq=> ?_) (fun bq=> ?_))))))
 refine aX 4 rfl (by kernel_rfl) rfl rfl rfl (fun _ _=>ao (.slice c n cp) rfl) C (aX 5 rfl (by kernel_rfl) rfl rfl rfl (fun _ _=>ao (U a) rfl) C (aX 6 rfl (by kernel_rfl) rfl rfl rfl (fun _ _=>aG aY rfl rfl (by omega) (aj.ok ((aA G).2) (a6 (by omega)))) C (aX 7 rfl (by kernel_rfl) rfl rfl rfl (fun w' O=>ld bc rfl (bo (i:=a) ((aA G).2.wk O) (by omega))) C (aX 8 rfl (by kernel_rfl) rfl rfl rfl (fun _ _=>ao (.slice c n cp) rfl) C (aX 9 rfl (by kernel_rfl) rfl rfl rfl (fun _ _=>ao (U q) rfl) C (aX 10 rfl (by kernel_rfl) rfl rfl rfl (fun _ _=>aG aY rfl rfl (by omega) (aj.ok ((aA G).2) (a6 (by omega)))) C (aX 11 rfl (by kernel_rfl) rfl rfl rfl (fun w' O=>ld bc rfl (bo (i:=q) ((aA G).2.wk O) (by omega))) C ?_)))))))
 refine iR 12 rfl (by kernel_rfl) rfl rfl rfl (cl gi (gp s[a]! s[q]! _) rfl fun bZ w41 bj=> ?_)
 obtain ⟨rfl,aZ⟩:=bj
 have ai:(fun w'=>Wk al w') w41:=Md.trans C aZ
 refine ⟨ai,?_⟩
 refine aX 13 rfl (by kernel_rfl) rfl rfl rfl (fun _ _=>no rfl) ai (aQ 14 rfl (fun _ _=>bl rfl) ai (hn (by kernel_rfl) (tn (ad _ _ (cb rfl (fun aD=> ?_) (fun aD=> ?_))))))
 refine az (tn (aq _ _ (au (rg rfl (ab (U q) (p (a8 ((q+1:Nat):Int) rfl rfl (aH (by omega) (by omega))) (p ak (nl ?_))))))))
 exact bn (tn (⟨_,by omega,q+1,(by omega),((by rw [← hq2,qH (show q≤j by omega) (by simpa using aD)])),(aE G ai),(Md.trans ah (ai.mono (fun _ _ h=>h.elim))),rfl,rfl,rfl,rfl,rfl⟩))
 exact ext (te _ (te _ (be (tn (⟨q,hq1,((by rw [← hq2,lH (.inr (by simpa using aD))])),(aE G ai),(Md.trans ah (ai.mono (fun _ _ h=>h.elim))),rfl,rfl,rfl,rfl⟩)))))
 refine aT 4 rfl (by kernel_rfl) rfl rfl rfl rfl C ?_
 refine aT 5 rfl (by kernel_rfl) rfl rfl rfl rfl C ?_
 refine aT 6 rfl (by kernel_rfl) rfl rfl rfl rfl C ?_
 refine aT 7 rfl (by kernel_rfl) rfl rfl rfl rfl C ?_
 refine aT 8 rfl (by kernel_rfl) rfl rfl rfl rfl C ?_
 refine aT 9 rfl (by kernel_rfl) rfl rfl rfl rfl C ?_
 refine aT 10 rfl (by kernel_rfl) rfl rfl rfl rfl C ?_
 refine aT 11 rfl (by kernel_rfl) rfl rfl rfl rfl C ?_
 refine aT 12 rfl (by kernel_rfl) rfl rfl rfl rfl C ?_
 refine aT 13 rfl (by kernel_rfl) rfl rfl rfl rfl C ?_
 refine aQ 14 rfl (fun _ _=>a7 rfl) C (hn (by kernel_rfl) (tn (ad _ _ (cf rfl (ext (te _ (te _ (be ?_))))))))
 exact tn (⟨q,hq1,((by rw [← hq2,lH (.inl (by omega))])),(aE G (Md.refl _ _).drew),ah.drew,rfl,rfl,rfl,rfl⟩)
 rintro av aL ⟨A,bW,aP,bg,bd,bC,bD,bG,bE⟩
 refine fx 0 bC (fx 1 bD (fx 9 bG (fx 10 bE ?_)))
 refine c6 (fun ax an=> ∃ (M:Nat),(a≤M∧M≤j)∧(Go.Sort.scanDown (fun x=>a3 s[a]! x) s (A) (j)=M)∧(an.ownsRow B 71 1 (.slice c n cp) n (LE ay s))∧(Md (fun q=>(Value.slice c n cp).ownBlock=some q) w an)∧(ax 0= .slice c n cp)∧(ax 1=U a)∧(ax 9=U A)∧(ax 10=U M)) ?_ ?_
 refine au (lp (fun Z aB am=> ∃ (q:Nat),(a≤q∧q≤j)∧(Go.Sort.scanDown (fun x=>a3 s[a]! x) s (A) (q)=Go.Sort.scanDown (fun x=>a3 s[a]! x) s (A) (j))∧(am.ownsRow B 71 1 (.slice c n cp) n (LE ay s))∧(Md (fun q=>(Value.slice c n cp).ownBlock=some q) w am)∧(aB 0= .slice c n cp)∧(aB 1=U a)∧(aB 9=U A)∧(aB 10=U q)∧(q=Z)) _ ⟨j,(by omega),rfl,bg,bd,rfl,rfl,rfl,rfl,rfl⟩ ?_)
 rintro Z aB am ⟨q,hq1,hq2,G,ah,bR,bS,bU,bT,rfl⟩
 refine fx 0 bR (fx 1 bS (fx 9 bU (fx 10 bT (sq (fun _ aq=>sq (fun _ ad=> ?_))))))
 have hdcn:=cU G
 have E:(fun w'=>Wk am w') am.drew:=(Md.refl _ _).drew
 refine bF (fun w'=>Wk am w') rfl wide E (bp 0 rfl (U A) E (bp 1 rfl (U q) E (aQ 2 rfl (fun _ _=>le rfl rfl) E (aQ 3 rfl (fun _ _=>mv) E (hZ (t:=49) rfl (fun br=> ?_) (fun br=> ?_))))))
 refine aX 4 rfl (by kernel_rfl) rfl rfl rfl (fun _ _=>ao (.slice c n cp) rfl) E (aX 5 rfl (by kernel_rfl) rfl rfl rfl (fun _ _=>ao (U a) rfl) E (aX 6 rfl (by kernel_rfl) rfl rfl rfl (fun _ _=>aG aY rfl rfl (by omega) (aj.ok ((aA G).2) (a6 (by omega)))) E (aX 7 rfl (by kernel_rfl) rfl rfl rfl (fun w' O=>ld bc rfl (bo (i:=a) ((aA G).2.wk O) (by omega))) E (aX 8 rfl (by kernel_rfl) rfl rfl rfl (fun _ _=>ao (.slice c n cp) rfl) E (aX 9 rfl (by kernel_rfl) rfl rfl rfl (fun _ _=>ao (U q) rfl) E (aX 10 rfl (by kernel_rfl) rfl rfl rfl (fun _ _=>aG aY rfl rfl (by omega) (aj.ok ((aA G).2) (a6 (by omega)))) E (aX 11 rfl (by kernel_rfl) rfl rfl rfl (fun w' O=>ld bc rfl (bo (i:=q) ((aA G).2.wk O) (by omega))) E ?_)))))))
 refine iR 12 rfl (by kernel_rfl) rfl rfl rfl (cl gi (gp s[a]! s[q]! _) rfl fun b0 w58 bk=> ?_)
 obtain ⟨rfl,hE58⟩:=bk
 have ap:(fun w'=>Wk am w') w58:=Md.trans E hE58
 refine ⟨ap,?_⟩
 refine aQ 13 rfl (fun _ _=>bl rfl) ap (hn (by kernel_rfl) (tn (ad _ _ (cb rfl (fun aF=> ?_) (fun aF=> ?_)))))
 refine az (tn (aq _ _ (au (rg rfl (ab (U q) (p (bI ((q - 1:Nat):Int) rfl rfl (aH (by omega) (by omega))) (p ak (nl ?_))))))))
 exact bn (tn (⟨_,by omega,q - 1,(by omega),((by rw [← hq2,pf (show 0 < q by omega) (show A≤q by omega) (by simpa using aF)])),(aE G ap),(Md.trans ah (ap.mono (fun _ _ h=>h.elim))),rfl,rfl,rfl,rfl,rfl⟩))
 exact ext (te _ (te _ (be (tn (⟨q,hq1,((by rw [← hq2,k5 (.inr (by simpa using aF))])),(aE G ap),(Md.trans ah (ap.mono (fun _ _ h=>h.elim))),rfl,rfl,rfl,rfl⟩)))))
 refine aT 4 rfl (by kernel_rfl) rfl rfl rfl rfl E ?_
 refine aT 5 rfl (by kernel_rfl) rfl rfl rfl rfl E ?_
 refine aT 6 rfl (by kernel_rfl) rfl rfl rfl rfl E ?_
 refine aT 7 rfl (by kernel_rfl) rfl rfl rfl rfl E ?_
 refine aT 8 rfl (by kernel_rfl) rfl rfl rfl rfl E ?_
 refine aT 9 rfl (by kernel_rfl) rfl rfl rfl rfl E ?_
 refine aT 10 rfl (by kernel_rfl) rfl rfl rfl rfl E ?_
 refine aT 11 rfl (by kernel_rfl) rfl rfl rfl rfl E ?_
 refine aT 12 rfl (by kernel_rfl) rfl rfl rfl rfl E ?_
 refine aQ 13 rfl (fun _ _=>a7 rfl) E (hn (by kernel_rfl) (tn (ad _ _ (cf rfl (ext (te _ (te _ (be ?_))))))))
 exact tn (⟨q,hq1,((by rw [← hq2,k5 (.inl (by omega))])),(aE G (Md.refl _ _).drew),ah.drew,rfl,rfl,rfl,rfl⟩)
 rintro ax an ⟨M,bX,aN,Y,aM,bN,bO,bQ,bP⟩
 refine fx 0 bN (fx 1 bO (fx 9 bQ (fx 10 bP (sq (fun _ aq=>aa (fun _ ad=>(ab (U A) (ab (U M) (p (gt rfl rfl) (nl ?_))))))))))
 refine tn (ad _ _ (cd rfl (fun bm=> ?_) (fun bm=> ?_)))
 refine ext (te _ (iD (by decide) (te _ (be (tn (aV _ _ (aa (fun _ aC=> ?_))))))))
 refine ab (U A) (p (bA (U A) rfl) (ag ((aC _ _ (rt (f1 rfl rfl ?_))))))
 have hz:Go.Sort.partitionEqual a3 d a b V=(A,s):=by rw [← aO,uU aP aN,if_pos (by omega)]
 exact ⟨by rw [hz]; rfl,by rw [hz]; exact Y,aM⟩
 refine az (tn (aq _ _ (sq (fun _ aC=> ?_))))
 have hdcn:=cU Y
 have J:(fun w'=>Wk an w') an.drew:=(Md.refl _ _).drew
 refine c5 (fun w'=>Wk an w') 13 rfl wide J (aI 0 rfl (.slice c n cp) J (aI 1 rfl (U A) J (aI 2 rfl (.slice c n cp) J (aI 3 rfl (U M) J (aI 4 rfl (.slice c n cp) J (aI 5 rfl (U M) J (a4 6 rfl (fun _=>aG aY rfl rfl (by omega) (aj.ok ((aA Y).2) (a6 (by omega)))) (fun _=>J) ?_)))))))
 refine cK 7 rfl (fun w' O=>ld bc rfl (bo (i:=M) ((aA Y).2.wk O) (by omega))) J (aI 8 rfl (.slice c n cp) J (aI 9 rfl (U A) J (a4 10 rfl (fun _=>aG aY rfl rfl (by omega) (aj.ok ((aA Y).2) (a6 (by omega)))) (fun _=>J) (cK 11 rfl (fun w' O=>ld bc rfl (bo (i:=A) ((aA Y).2.wk O) (by omega))) J (a4 12 rfl (fun _=>aG aY rfl rfl (by omega) (aj.ok ((aA Y).2) (a6 (by omega)))) (fun _=>J) (bJ 13 rfl (by kernel_rfl) (by kernel_rfl) (dj (u:=s[M]!) (A) (aE Y J) c8 rfl rfl rfl (by omega) fun b2 ba bu=> ?_)))))))
 refine a4 14 rfl (fun _=>aG aY rfl rfl (by omega) (aj.ok ((aA Y).2) (a6 (by omega)))) (fun h=>Bool.noConfusion ((show true =_ from by kernel_rfl).trans h)) (bJ 15 rfl (by kernel_rfl) (by kernel_rfl) (dj (u:=s[A]!) (M) bu c8 rfl rfl rfl (by omega) fun wPY2 bb bv=> ?_))
 have bi:wPY2.ownsRow B 71 1 (.slice c n cp) n (LE ay (Go.Sort.swp s (A) (M))):=bv
 have a9:Md (fun q=>(Value.slice c n cp).ownBlock=some q) an wPY2:=Md.trans (J.mono (fun _ _ h=>h.elim)) (Md.trans ba bb)
 refine c4 (by kernel_rfl) ?_
 refine tn (aC _ _ (aa (fun _ aW=>(ab (U A) (p (a8 ((A+1:Nat):Int) rfl rfl (aH (by omega) (by omega))) (ae (((aW _ _ ?_)))))))))
 exact rg rfl (ab (U M) (p (bI ((M - 1:Nat):Int) rfl rfl (aH (by omega) (by omega))) (p ak (nl (bn (tn (⟨_,by omega,A+1,M - 1,Go.Sort.swp s A M,(by omega),((by rw [← aO,uU aP aN,if_neg (by omega),if_pos (by omega)])),bi,(Md.trans aM a9),rfl,rfl,rfl,rfl,rfl⟩)))))))
end Go.Hb.qV
end
section
set_option maxRecDepth 20000
set_option maxHeartbeats 1000000
namespace Go.Hb.qW
open Go.Hb.cG
open Go.Proofs
open Go.Hb.kg
theorem Er {d:Array Nat} {a b s i i2:Nat} (h0:0 < s) (h:Go.Sort.scanSorted a3 d b i=i2) (h1:i2=b):Go.Sort.partialIns a3 a b s i d=(d,true):=by
 cases s with
 | zero=>omega
 | succ s=>rw [Go.Sort.partialIns]; simp only [h,if_pos h1]
theorem Es {d:Array Nat} {a b s i i2:Nat} (h0:0 < s) (h:Go.Sort.scanSorted a3 d b i=i2) (h1:¬i2=b) (h2:b - a < 50):Go.Sort.partialIns a3 a b s i d=(d,false):=by
 cases s with
 | zero=>omega
 | succ s=>rw [Go.Sort.partialIns]; simp only [h,if_neg h1,if_pos h2]
theorem qn {d c dh:Array Nat} {a b s i i2:Nat} (h0:0 < s) (h:Go.Sort.scanSorted a3 d b i=i2) (h1:¬i2=b) (h2:¬b - a < 50)
 (hg:c=if i2 - a≥2 then Go.Sort.shiftDown a3 (i2 - 1) (Go.Sort.swp d i2 (i2 - 1)) else Go.Sort.swp d i2 (i2 - 1)) (hh:dh=if b - i2≥2 then Go.Sort.shiftUp a3 b (i2+1) c else c):
 Go.Sort.partialIns a3 a b s i d=Go.Sort.partialIns a3 a b (s - 1) i2 dh:=by
 cases s with
 | zero=>omega
 | succ s=>rw [Go.Sort.partialIns]; simp only [h,if_neg h1,if_neg h2]; rw [← hg,← hh]; rfl
theorem EB (d:Array Nat) (a b:Nat) (B n cp:Nat) (c:Option Addr) (w:World) (bR:w.ownsRow B 71 1 (.slice c n cp) n (LE ay d)) (cN:a < b∧b≤n) (cP:n≤1099511627776):
 aK Tryz.prog 161 (List.toArray [.slice c n cp,U a,U b]) w (fun v w'=>v= .bool (Go.Sort.partialInsertionSort a3 d a b).2∧w'.ownsRow B 71 1 (.slice c n cp) n (LE ay (Go.Sort.partialInsertionSort a3 d a b).1)∧Md (fun q=>(Value.slice c n cp).ownBlock=some q) w w'):=by
 refine enter Tryz.func161 rfl Tryz.ntmps161 rfl ?_
 refine aa (fun _ bv=>(ae (((bv _ _ (aa (fun _ bx=>(ab (U a) ?_))))))))
 refine p (a8 ((a+1:Nat):Int) rfl rfl (aH (by omega) (by omega))) (ae (((bx _ _ (sq (fun _ bz=>aa (fun _ bA=>(p ak ?_))))))))
 refine ag ((bA _ _ (au (lp (fun M ax bj=> ∃ (s i:Nat) (C:Array Nat),(a+1≤i∧i≤b∧s≤5)∧(Go.Sort.partialIns a3 a b (5 - s) i C=(Go.Sort.partialInsertionSort a3 d a b))∧(bj.ownsRow B 71 1 (.slice c n cp) n (LE ay C))∧(Md (fun q=>(Value.slice c n cp).ownBlock=some q) w bj)∧(ax 0= .slice c n cp)∧(ax 1=U a)∧(ax 2=U b)∧(ax 7=U i)∧(ax 8=U s)∧(5 - s=M)) _ ⟨0,a+1,d,(by omega),rfl,bR,(Md.refl _ _),rfl,rfl,rfl,rfl,rfl,rfl⟩ ?_))))
 rintro M ax bj ⟨s,i,C,hi,aw,bs,bk,cc,ce,cg,ch,ci,rfl⟩
 refine fx 0 cc (fx 1 ce (fx 2 cg (fx 7 ch (fx 8 ci (sq (fun _ bB=>aa (fun _ bC=>(ab (U s) (p (lt rfl rfl) (ag ((bC _ _ ?_))))))))))))
 refine cd rfl (fun bY=> ?_) (fun bY=> ?_)
 refine az (tn (bB _ _ (sq (fun _ aF=>au ?_))))
 refine c6 (fun aB wC=> ∃ (i2:Nat),(i≤i2∧i2≤b)∧(Go.Sort.scanSorted a3 C b i=i2)∧(wC.ownsRow B 71 1 (.slice c n cp) n (LE ay C))∧(Md (fun q=>(Value.slice c n cp).ownBlock=some q) w wC)∧(aB 0= .slice c n cp)∧(aB 1=U a)∧(aB 2=U b)∧(aB 7=U i2)∧(aB 8=U s)) ?_ ?_
 refine au (lp (fun M aC an=> ∃ (q:Nat),(i≤q∧q≤b)∧(Go.Sort.scanSorted a3 C b q=Go.Sort.scanSorted a3 C b i)∧(an.ownsRow B 71 1 (.slice c n cp) n (LE ay C))∧(Md (fun q=>(Value.slice c n cp).ownBlock=some q) w an)∧(aC 0= .slice c n cp)∧(aC 1=U a)∧(aC 2=U b)∧(aC 7=U q)∧(aC 8=U s)∧(b - q=M)) _ ⟨i,(by omega),rfl,bs,bk,rfl,rfl,rfl,rfl,rfl,rfl⟩ ?_)
 rintro M aC an ⟨q,hq1,hq2,Z,a1,cq,cr,cs,ct,cu,rfl⟩
 refine fx 0 cq (fx 1 cr (fx 2 cs (fx 7 ct (fx 8 cu (sq (fun _ aZ=>sq (fun _ aJ=> ?_)))))))
 have hdcn:=cU Z
 have j:(fun w'=>Wk an w') an.drew:=(Md.refl _ _).drew
 refine bF (fun w'=>Wk an w') rfl wide j (bp 0 rfl (U q) j (bp 1 rfl (U b) j (aQ 2 rfl (fun _ _=>lt rfl rfl) j (aQ 3 rfl (fun _ _=>mv) j (hZ (t:=20) rfl (fun b4=> ?_) (fun b4=> ?_))))))
 refine aX 4 rfl (by kernel_rfl) rfl rfl rfl (fun _ _=>ao (.slice c n cp) rfl) j (aX 5 rfl (by kernel_rfl) rfl rfl rfl (fun _ _=>ao (U q) rfl) j (aX 6 rfl (by kernel_rfl) rfl rfl rfl (fun _ _=>aG aY rfl rfl (by omega) (aj.ok ((aA Z).2) (a6 (by omega)))) j (aX 7 rfl (by kernel_rfl) rfl rfl rfl (fun w' A=>ld bc rfl (bo (i:=q) ((aA Z).2.wk A) (by omega))) j (aX 8 rfl (by kernel_rfl) rfl rfl rfl (fun _ _=>ao (.slice c n cp) rfl) j (aX 9 rfl (by kernel_rfl) rfl rfl rfl (fun _ _=>ao (U q) rfl) j (aX 10 rfl (by kernel_rfl) rfl rfl rfl (fun _ _=>bI ((q - 1:Nat):Int) rfl rfl (aH (by omega) (by omega))) j (aX 11 rfl (by kernel_rfl) rfl rfl rfl (fun _ _=>aG aY rfl rfl (by omega) (aj.ok ((aA Z).2) (a6 (by omega)))) j ?_)))))))
 refine aX 12 rfl (by kernel_rfl) rfl rfl rfl (fun w' A=>ld bc rfl (bo (i:=q - 1) ((aA Z).2.wk A) (by omega))) j (iR 13 rfl (by kernel_rfl) rfl rfl rfl (cl gi (gp C[q]! C[q - 1]! _) rfl fun v30 w30 bV=> ?_))
 obtain ⟨rfl,bE⟩:=bV
 have ai:(fun w'=>Wk an w') w30:=Md.trans j bE
 refine ⟨ai,?_⟩
 refine aX 14 rfl (by kernel_rfl) rfl rfl rfl (fun _ _=>no rfl) ai (aQ 15 rfl (fun _ _=>bl rfl) ai (hn (by kernel_rfl) (tn (aJ _ _ (cb rfl (fun bb=> ?_) (fun bb=> ?_))))))
 refine az (tn (aZ _ _ (au (rg rfl (ab (U q) (p (a8 ((q+1:Nat):Int) rfl rfl (aH (by omega) (by omega))) (p ak (nl ?_))))))))
 exact bn (tn (⟨_,by omega,q+1,(by omega),((by rw [← hq2,FK (show q < b by omega) (by simpa using bb)])),(aE Z ai),(Md.trans a1 (ai.mono (fun _ _ h=>h.elim))),rfl,rfl,rfl,rfl,rfl,rfl⟩))
 exact ext (te _ (te _ (be (tn (⟨q,(by omega),((by rw [← hq2,vD (.inr (by simpa using bb))])),(aE Z ai),(Md.trans a1 (ai.mono (fun _ _ h=>h.elim))),rfl,rfl,rfl,rfl,rfl⟩)))))
 refine aT 4 rfl (by kernel_rfl) rfl rfl rfl rfl j ?_
 refine aT 5 rfl (by kernel_rfl) rfl rfl rfl rfl j ?_
 refine aT 6 rfl (by kernel_rfl) rfl rfl rfl rfl j ?_
 refine aT 7 rfl (by kernel_rfl) rfl rfl rfl rfl j ?_
 refine aT 8 rfl (by kernel_rfl) rfl rfl rfl rfl j ?_
 refine aT 9 rfl (by kernel_rfl) rfl rfl rfl rfl j ?_
 refine aT 10 rfl (by kernel_rfl) rfl rfl rfl rfl j ?_
 refine aT 11 rfl (by kernel_rfl) rfl rfl rfl rfl j ?_
 refine aT 12 rfl (by kernel_rfl) rfl rfl rfl rfl j ?_
 refine aT 13 rfl (by kernel_rfl) rfl rfl rfl rfl j ?_
 refine aT 14 rfl (by kernel_rfl) rfl rfl rfl rfl j ?_
 refine aQ 15 rfl (fun _ _=>a7 rfl) j (hn (by kernel_rfl) (tn (aJ _ _ (cf rfl (ext (te _ (te _ (be ?_))))))))
 exact tn (⟨q,(by omega),((by rw [← hq2,vD (.inl (by omega))])),(aE Z (Md.refl _ _).drew),a1.drew,rfl,rfl,rfl,rfl,rfl⟩)
 rintro aB wC ⟨i2,cO,hsc,Y,aL,cj,ck,cm,cn,co⟩
 refine fx 0 cj (fx 1 ck (fx 2 cm (fx 7 cn (fx 8 co (sq (fun _ aZ=>aa (fun _ aJ=>(ab (U i2) (ab (U b) (p (ba rfl rfl) (nl ?_)))))))))))
 refine tn (aJ _ _ (cd rfl (fun bZ=> ?_) (fun bZ=> ?_)))
 refine aa (fun _ aM=>(ae (((aM _ _ (rt (tr (br ?_))))))))
 refine tr (tr (br (tr (f1 rfl rfl ?_))))
 have hz:(Go.Sort.partialInsertionSort a3 d a b)=(C,true):=by rw [← aw,Er (show 0 < 5 - s by omega) hsc (by omega)]
 exact ⟨by rw [hz]; rfl,by rw [hz]; exact Y,aL⟩
 have a0:¬i2=b:=by omega
 refine az (tn (aZ _ _ (sq (fun _ aM=>aa (fun _ bw=>(ab (U b) (ab (U a) (p (bI ((b - a:Nat):Int) rfl rfl (aH (by omega) (by omega))) ?_))))))))
 refine p (lt rfl rfl) (ag ((bw _ _ (cd rfl (fun b0=> ?_) (fun b0=> ?_)))))
 refine aa (fun _ aN=>(ae (((aN _ _ (rt (tr (br ?_))))))))
 refine tr (tr (br (tr (f1 rfl rfl ?_))))
 have hz:(Go.Sort.partialInsertionSort a3 d a b)=(C,false):=by rw [← aw,Es (show 0 < 5 - s by omega) hsc (by omega) (by omega)]
 exact ⟨by rw [hz]; rfl,by rw [hz]; exact Y,aL⟩
 refine az (tn (aM _ _ (sq (fun _ aN=> ?_))))
 have hdcn:=cU Y
 have E:(fun w'=>Wk wC w') wC.drew:=(Md.refl _ _).drew
 refine c5 (fun w'=>Wk wC w') 15 rfl wide E (aI 0 rfl (.slice c n cp) E (aI 1 rfl (U i2) E (aI 2 rfl (.slice c n cp) E (aI 3 rfl (U i2) E (a4 4 rfl (fun _=>bI ((i2 - 1:Nat):Int) rfl rfl (aH (by omega) (by omega))) (fun _=>E) (aI 5 rfl (.slice c n cp) E (aI 6 rfl (U i2) E ?_)))))))
 refine a4 7 rfl (fun _=>bI ((i2 - 1:Nat):Int) rfl rfl (aH (by omega) (by omega))) (fun _=>E) (a4 8 rfl (fun _=>aG aY rfl rfl (by omega) (aj.ok ((aA Y).2) (a6 (by omega)))) (fun _=>E) (cK 9 rfl (fun w' A=>ld bc rfl (bo (i:=i2 - 1) ((aA Y).2.wk A) (by omega))) E (aI 10 rfl (.slice c n cp) E (aI 11 rfl (U i2) E (a4 12 rfl (fun _=>aG aY rfl rfl (by omega) (aj.ok ((aA Y).2) (a6 (by omega)))) (fun _=>E) (cK 13 rfl (fun w' A=>ld bc rfl (bo (i:=i2) ((aA Y).2.wk A) (by omega))) E (a4 14 rfl (fun _=>aG aY rfl rfl (by omega) (aj.ok ((aA Y).2) (a6 (by omega)))) (fun _=>E) ?_)))))))
 refine bJ 15 rfl (by kernel_rfl) (by kernel_rfl) (dj (u:=C[i2 - 1]!) (i2) (aE Y E) c8 rfl rfl rfl (by omega) fun cS bH b5=> ?_)
 refine a4 16 rfl (fun _=>aG aY rfl rfl (by omega) (aj.ok ((aA Y).2) (a6 (by omega)))) (fun h=>Bool.noConfusion ((show true =_ from by kernel_rfl).trans h)) (bJ 17 rfl (by kernel_rfl) (by kernel_rfl) (dj (u:=C[i2]!) (i2 - 1) b5 c8 rfl rfl rfl (by omega) fun wP12 bK b6=> ?_))
 have bu:wP12.ownsRow B 71 1 (.slice c n cp) n (LE ay (Go.Sort.swp C (i2) (i2 - 1))):=b6
 have bm:Md (fun q=>(Value.slice c n cp).ownBlock=some q) wC wP12:=Md.trans (E.mono (fun _ _ h=>h.elim)) (Md.trans bH bK)
 refine c4 (by kernel_rfl) ?_
 refine tn (aN _ _ ?_)
 refine c6 (fun aD bi=> ∃ (ah:Array Nat),(ah=if i2 - a≥2 then Go.Sort.shiftDown a3 (i2 - 1) (Go.Sort.swp C i2 (i2 - 1)) else (Go.Sort.swp C i2 (i2 - 1)))∧(bi.ownsRow B 71 1 (.slice c n cp) n (LE ay ah))∧(Md (fun q=>(Value.slice c n cp).ownBlock=some q) w bi)∧(aD 0= .slice c n cp)∧(aD 1=U a)∧(aD 2=U b)∧(aD 7=U i2)∧(aD 8=U s)) ?_ ?_
 refine aa (fun _ aO=>(ab (U i2) (ab (U a) (p (bI ((i2 - a:Nat):Int) rfl rfl (aH (by omega) (by omega))) (p (ge rfl rfl) (ag ((aO _ _ ?_))))))))
 refine cd rfl (fun b1=> ?_) (fun b1=> ?_)
 refine aa (fun _ aP=>(ab (U i2) (p (bI ((i2 - 1:Nat):Int) rfl rfl (aH (by omega) (by omega))) (ae (((aP _ _ (au ?_))))))))
 refine lp (fun M ap al=> ∃ (q:Nat) (J:Array Nat),(q≤i2 - 1)∧(Go.Sort.shiftDown a3 q J=Go.Sort.shiftDown a3 (i2 - 1) (Go.Sort.swp C i2 (i2 - 1)))∧(al.ownsRow B 71 1 (.slice c n cp) n (LE ay J))∧(Md (fun q=>(Value.slice c n cp).ownBlock=some q) w al)∧(ap 0= .slice c n cp)∧(ap 1=U a)∧(ap 2=U b)∧(ap 7=U i2)∧(ap 8=U s)∧(ap 9=U q)∧(q=M)) _ ⟨i2 - 1,(Go.Sort.swp C i2 (i2 - 1)),(by omega),rfl,bu,(Md.trans aL bm),rfl,rfl,rfl,rfl,rfl,rfl,rfl⟩ ?_
 rintro M ap al ⟨q,J,hq1,bg,ac,a2,cA,cB,cC,cD,cE,cF,rfl⟩
 refine fx 0 cA (fx 1 cB (fx 2 cC (fx 7 cD (fx 8 cE (fx 9 cF (sq (fun _ aR=>aa (fun _ aS=>(ab (U q) (p (ge rfl rfl) (ag ((aS _ _ ?_)))))))))))))
 refine cd rfl (fun b2=> ?_) (fun b2=> ?_)
 refine az (tn (aR _ _ (sq (fun _ aU=>au (sq (fun _ aV=>sq (fun _ aW=> ?_)))))))
 have hdfn:=cU ac
 have O:(fun w'=>Wk al w') al.drew:=(Md.refl _ _).drew
 refine bF (fun w'=>Wk al w') rfl wide O (bp 0 rfl (.slice c n cp) O (bp 1 rfl (U q) O (aQ 2 rfl (fun _ _=>aG aY rfl rfl (by omega) (aj.ok ((aA ac).2) (a6 (by omega)))) O (aQ 3 rfl (fun w' A=>ld bc rfl (bo (i:=q) ((aA ac).2.wk A) (by omega))) O (bp 4 rfl (.slice c n cp) O (bp 5 rfl (U q) O (aQ 6 rfl (fun _ _=>bI ((q - 1:Nat):Int) rfl rfl (aH (by omega) (by omega))) O ?_)))))))
 refine aQ 7 rfl (fun _ _=>aG aY rfl rfl (by omega) (aj.ok ((aA ac).2) (a6 (by omega)))) O (aQ 8 rfl (fun w' A=>ld bc rfl (bo (i:=q - 1) ((aA ac).2.wk A) (by omega))) O (he 9 rfl (by kernel_rfl) (cl gi (gp J[q]! J[q - 1]! _) rfl fun cR w77 bW=> ?_)))
 obtain ⟨rfl,bG⟩:=bW
 have ar:(fun w'=>Wk al w') w77:=Md.trans O bG
 refine ⟨ar,?_⟩
 refine aQ 10 rfl (fun _ _=>no rfl) ar (hn (by kernel_rfl) (tn (aW _ _ (cb rfl (fun bd=> ?_) (fun bd=> ?_)))))
 exact ext (te _ (iD (by decide) (te _ (te _ (be (tn (⟨J,((by rw [if_pos (by omega),← bg,vo (.inr (by simpa using bd))])),(aE ac ar),(Md.trans a2 (ar.mono (fun _ _ h=>h.elim))),rfl,rfl,rfl,rfl,rfl⟩)))))))
 refine az (tn (aV _ _ ?_))
 have hO7:=aE ac ar
 have hS17:(fun w'=>Wk w77 w') w77.drew:=(Md.refl _ _).drew
 refine c5 (fun w'=>Wk w77 w') 15 rfl wide hS17 (aI 0 rfl (.slice c n cp) hS17 (aI 1 rfl (U q) hS17 (aI 2 rfl (.slice c n cp) hS17 (aI 3 rfl (U q) hS17 (a4 4 rfl (fun _=>bI ((q - 1:Nat):Int) rfl rfl (aH (by omega) (by omega))) (fun _=>hS17) (aI 5 rfl (.slice c n cp) hS17 (aI 6 rfl (U q) hS17 ?_)))))))
 refine a4 7 rfl (fun _=>bI ((q - 1:Nat):Int) rfl rfl (aH (by omega) (by omega))) (fun _=>hS17) (a4 8 rfl (fun _=>aG aY rfl rfl (by omega) (aj.ok ((aA hO7).2) (a6 (by omega)))) (fun _=>hS17) (cK 9 rfl (fun w' A=>ld bc rfl (bo (i:=q - 1) ((aA hO7).2.wk A) (by omega))) hS17 (aI 10 rfl (.slice c n cp) hS17 (aI 11 rfl (U q) hS17 (a4 12 rfl (fun _=>aG aY rfl rfl (by omega) (aj.ok ((aA hO7).2) (a6 (by omega)))) (fun _=>hS17) (cK 13 rfl (fun w' A=>ld bc rfl (bo (i:=q) ((aA hO7).2.wk A) (by omega))) hS17 (a4 14 rfl (fun _=>aG aY rfl rfl (by omega) (aj.ok ((aA hO7).2) (a6 (by omega)))) (fun _=>hS17) ?_)))))))
 refine bJ 15 rfl (by kernel_rfl) (by kernel_rfl) (dj (u:=J[q - 1]!) (q) (aE hO7 hS17) c8 rfl rfl rfl (by omega) fun cT bM b7=> ?_)
 refine a4 16 rfl (fun _=>aG aY rfl rfl (by omega) (aj.ok ((aA hO7).2) (a6 (by omega)))) (fun h=>Bool.noConfusion ((show true =_ from by kernel_rfl).trans h)) (bJ 17 rfl (by kernel_rfl) (by kernel_rfl) (dj (u:=J[q]!) (q - 1) b7 c8 rfl rfl rfl (by omega) fun wP22 bN b8=> ?_))
 have bS:wP22.ownsRow B 71 1 (.slice c n cp) n (LE ay (Go.Sort.swp J (q) (q - 1))):=b8
 have bL:Md (fun q=>(Value.slice c n cp).ownBlock=some q) w77 wP22:=Md.trans (hS17.mono (fun _ _ h=>h.elim)) (Md.trans bM bN)
 refine c4 (by kernel_rfl) ?_
 refine bn (tn (aU _ _ (rg rfl (ab (U q) (p (bI ((q - 1:Nat):Int) rfl rfl (aH (by omega) (by omega))) (p ak (nl (tn ?_))))))))
 exact ⟨_,by omega,q - 1,Go.Sort.swp J q (q - 1),(by omega),((by rw [← bg,Fh (show 0 < q by omega) (by simpa using bd)])),bS,(Md.trans a2 (Md.trans (ar.mono (fun _ _ h=>h.elim)) bL)),rfl,rfl,rfl,rfl,rfl,rfl,rfl⟩
 exact ext (te _ (te _ (be (tn (⟨J,((by rw [if_pos (by omega),← bg,vo (.inl (by omega))])),ac,a2,rfl,rfl,rfl,rfl,rfl⟩)))))
 exact az (tn (⟨(Go.Sort.swp C i2 (i2 - 1)),((by rw [if_neg (by omega)])),bu,(Md.trans aL bm),rfl,rfl,rfl,rfl,rfl⟩))
 rintro aD bi ⟨ah,bf,bt,bq,cv,cw,cx,cy,cz⟩
 refine fx 0 cv (fx 1 cw (fx 2 cx (fx 7 cy (fx 8 cz (aa (fun _ aO=>(ab (U b) (ab (U i2) (p (bI ((b - i2:Nat):Int) rfl rfl (aH (by omega) (by omega))) (p (ge rfl rfl) (nl ?_)))))))))))
 refine tn (aO _ _ (cd rfl (fun b3=> ?_) (fun b3=> ?_)))
 refine aa (fun _ aP=>(ab (U i2) (p (a8 ((i2+1:Nat):Int) rfl rfl (aH (by omega) (by omega))) (ae (((aP _ _ (au ?_))))))))
 refine lp (fun M aq am=> ∃ (q:Nat) (I:Array Nat),(i2+1≤q∧q≤b)∧(Go.Sort.shiftUp a3 b q I=Go.Sort.shiftUp a3 b (i2+1) ah)∧(am.ownsRow B 71 1 (.slice c n cp) n (LE ay I))∧(Md (fun q=>(Value.slice c n cp).ownBlock=some q) w am)∧(aq 0= .slice c n cp)∧(aq 1=U a)∧(aq 2=U b)∧(aq 7=U i2)∧(aq 8=U s)∧(aq 10=U q)∧(b - q=M)) _ ⟨i2+1,ah,(by omega),rfl,bt,bq,rfl,rfl,rfl,rfl,rfl,rfl,rfl⟩ ?_
 rintro M aq am ⟨q,I,hq1,bh,ad,a5,cG,cH,cJ,cL,cM,cI,rfl⟩
 refine fx 0 cG (fx 1 cH (fx 2 cJ (fx 7 cL (fx 8 cM (fx 10 cI (sq (fun _ aR=>aa (fun _ aS=>(ab (U q) (ab (U b) (p (lt rfl rfl) (nl ?_))))))))))))
 refine tn (aS _ _ (cd rfl (fun bX=> ?_) (fun bX=> ?_)))
 refine az (tn (aR _ _ (sq (fun _ aU=>au (sq (fun _ aV=>sq (fun _ aW=> ?_)))))))
 have hdkn:=cU ad
 have V:(fun w'=>Wk am w') am.drew:=(Md.refl _ _).drew
 refine bF (fun w'=>Wk am w') rfl wide V (bp 0 rfl (.slice c n cp) V (bp 1 rfl (U q) V (aQ 2 rfl (fun _ _=>aG aY rfl rfl (by omega) (aj.ok ((aA ad).2) (a6 (by omega)))) V (aQ 3 rfl (fun w' A=>ld bc rfl (bo (i:=q) ((aA ad).2.wk A) (by omega))) V (bp 4 rfl (.slice c n cp) V (bp 5 rfl (U q) V (aQ 6 rfl (fun _ _=>bI ((q - 1:Nat):Int) rfl rfl (aH (by omega) (by omega))) V ?_)))))))
 refine aQ 7 rfl (fun _ _=>aG aY rfl rfl (by omega) (aj.ok ((aA ad).2) (a6 (by omega)))) V (aQ 8 rfl (fun w' A=>ld bc rfl (bo (i:=q - 1) ((aA ad).2.wk A) (by omega))) V (he 9 rfl (by kernel_rfl) (cl gi (gp I[q]! I[q - 1]! _) rfl fun cQ w115 bU=> ?_)))
 obtain ⟨rfl,bD⟩:=bU
 have av:(fun w'=>Wk am w') w115:=Md.trans V bD
 refine ⟨av,?_⟩
 refine aQ 10 rfl (fun _ _=>no rfl) av (hn (by kernel_rfl) (tn (aW _ _ (cb rfl (fun a9=> ?_) (fun a9=> ?_)))))
 refine ext (te _ (iD (by decide) (te _ (te _ (be (bn (tn (aF _ _ ?_))))))))
 exact rg rfl (ab (U s) (p (a8 ((s+1:Nat):Int) rfl rfl (aH (by omega) (by omega))) (ae (((⟨_,by omega,s+1,i2,I,(by omega),((by rw [← aw,qn (show 0 < 5 - s by omega) hsc a0 (by omega) bf (show I=_ by rw [if_pos (by omega),← bh,vG (.inr (by simpa using a9))])]; rfl)),(aE ad av),(Md.trans a5 (av.mono (fun _ _ h=>h.elim))),rfl,rfl,rfl,rfl,rfl,rfl⟩))))))
 refine az (tn (aV _ _ ?_))
 have hO8:=aE ad av
 have G:(fun w'=>Wk w115 w') w115.drew:=(Md.refl _ _).drew
 refine c5 (fun w'=>Wk w115 w') 15 rfl wide G (aI 0 rfl (.slice c n cp) G (aI 1 rfl (U q) G (aI 2 rfl (.slice c n cp) G (aI 3 rfl (U q) G (a4 4 rfl (fun _=>bI ((q - 1:Nat):Int) rfl rfl (aH (by omega) (by omega))) (fun _=>G) (aI 5 rfl (.slice c n cp) G (aI 6 rfl (U q) G ?_)))))))
 refine a4 7 rfl (fun _=>bI ((q - 1:Nat):Int) rfl rfl (aH (by omega) (by omega))) (fun _=>G) (a4 8 rfl (fun _=>aG aY rfl rfl (by omega) (aj.ok ((aA hO8).2) (a6 (by omega)))) (fun _=>G) (cK 9 rfl (fun w' A=>ld bc rfl (bo (i:=q - 1) ((aA hO8).2.wk A) (by omega))) G (aI 10 rfl (.slice c n cp) G (aI 11 rfl (U q) G (a4 12 rfl (fun _=>aG aY rfl rfl (by omega) (aj.ok ((aA hO8).2) (a6 (by omega)))) (fun _=>G) (cK 13 rfl (fun w' A=>ld bc rfl (bo (i:=q) ((aA hO8).2.wk A) (by omega))) G (a4 14 rfl (fun _=>aG aY rfl rfl (by omega) (aj.ok ((aA hO8).2) (a6 (by omega)))) (fun _=>G) ?_)))))))
 refine bJ 15 rfl (by kernel_rfl) (by kernel_rfl) (dj (u:=I[q - 1]!) (q) (aE hO8 G) c8 rfl rfl rfl (by omega) fun cV bP b9=> ?_)
 refine a4 16 rfl (fun _=>aG aY rfl rfl (by omega) (aj.ok ((aA hO8).2) (a6 (by omega)))) (fun h=>Bool.noConfusion ((show true =_ from by kernel_rfl).trans h)) (bJ 17 rfl (by kernel_rfl) (by kernel_rfl) (dj (u:=I[q]!) (q - 1) b9 c8 rfl rfl rfl (by omega) fun wP32 bQ ca=> ?_))
 have bT:wP32.ownsRow B 71 1 (.slice c n cp) n (LE ay (Go.Sort.swp I (q) (q - 1))):=ca
 have bO:Md (fun q=>(Value.slice c n cp).ownBlock=some q) w115 wP32:=Md.trans (G.mono (fun _ _ h=>h.elim)) (Md.trans bP bQ)
 refine c4 (by kernel_rfl) ?_
 refine bn (tn (aU _ _ (rg rfl (ab (U q) (p (a8 ((q+1:Nat):Int) rfl rfl (aH (by omega) (by omega))) (p ak (nl (tn ?_))))))))
 exact ⟨_,by omega,q+1,Go.Sort.swp I q (q - 1),(by omega),((by rw [← bh,FT (show q < b by omega) (by simpa using a9)])),bT,(Md.trans a5 (Md.trans (av.mono (fun _ _ h=>h.elim)) bO)),rfl,rfl,rfl,rfl,rfl,rfl,rfl⟩
 refine ext (te _ (te _ (be (bn (tn (aF _ _ (rg rfl (ab (U s) ?_))))))))
 exact p (a8 ((s+1:Nat):Int) rfl rfl (aH (by omega) (by omega))) (ae (((⟨_,by omega,s+1,i2,I,(by omega),((by rw [← aw,qn (show 0 < 5 - s by omega) hsc a0 (by omega) bf (show I=_ by rw [if_pos (by omega),← bh,vG (.inl (by omega))])]; rfl)),ad,a5,rfl,rfl,rfl,rfl,rfl,rfl⟩))))
 refine az (bn (tn (aF _ _ (rg rfl (ab (U s) (p (a8 ((s+1:Nat):Int) rfl rfl (aH (by omega) (by omega))) (p ak (nl ?_))))))))
 exact tn (⟨_,by omega,s+1,i2,ah,(by omega),((by rw [← aw,qn (show 0 < 5 - s by omega) hsc a0 (by omega) bf (show ah=_ by rw [if_neg (by omega)])]; rfl)),bt,bq,rfl,rfl,rfl,rfl,rfl,rfl⟩)
 refine ext (te _ (te _ (be (tn (bz _ _ (aa (fun _ aF=>(p ak ?_))))))))
 refine ag ((aF _ _ (rt (f1 rfl rfl ?_))))
 have hz:(Go.Sort.partialInsertionSort a3 d a b)=(C,false):=by rw [← aw,show 5 - s=0 by omega]; rfl
 exact ⟨by rw [hz]; rfl,by rw [hz]; exact bs,bk⟩
end Go.Hb.qW
end
section
set_option maxRecDepth 20000
set_option maxHeartbeats 1000000
namespace Go.Hb.oC
open Go.Hb.cG
open Go.Proofs
open Go.Hb.kg Go.Hb.qV Go.Hb.qW Go.Hb.mU
theorem El (d:Array Nat) (a b i:Nat) (B n cp:Nat) (c:Option Addr) (w:World) (p:w.ownsRow B 71 1 (.slice c n cp) n (LE ay d)) (s:a≤i∧i < b∧b≤n) (A:n≤1099511627776):aK Tryz.prog 164 (List.toArray [.slice c n cp,.int .i64 (a:Nat),.int .i64 (b:Nat),.int .i64 (i:Nat)]) w
 (fun v w'=> ∃ j ap d4,Go.Sort.partition a3 d a b i=(j,ap,d4)∧v= .tuple #[.int .i64 (j:Nat),.bool ap]∧w'.ownsRow B 71 1 (.slice c n cp) n (LE ay d4)∧Md (fun q=>(Value.slice c n cp).ownBlock=some q) w w'):=
 (Ek d a b i B n cp c w p s A).mono fun _ _ h=>⟨_,_,_,rfl,h⟩
theorem En (d:Array Nat) (a b i:Nat) (B n cp:Nat) (c:Option Addr) (w:World) (p:w.ownsRow B 71 1 (.slice c n cp) n (LE ay d)) (s:a≤i∧i < b∧b≤n) (A:n≤1099511627776):aK Tryz.prog 163 (List.toArray [.slice c n cp,.int .i64 (a:Nat),.int .i64 (b:Nat),.int .i64 (i:Nat)]) w
 (fun v w'=> ∃ j d4,Go.Sort.partitionEqual a3 d a b i=(j,d4)∧v= .int .i64 (j:Nat)∧w'.ownsRow B 71 1 (.slice c n cp) n (LE ay d4)∧Md (fun q=>(Value.slice c n cp).ownBlock=some q) w w'):=
 (Em d a b i B n cp c w p s A).mono fun _ _ h=>⟨_,_,rfl,h⟩
theorem Eo (m:Nat) (d:Array Nat) (a b Z:Nat) (B n cp:Nat) (s:Option Addr) (w:World) (bm:w.ownsRow B 71 1 (.slice s n cp) n (LE ay d)) (hm:b - a < m) (c7:a≤b∧b≤n) (cr:n≤255) (hl:Z≤64) (bK:Go.Sort.Below a3 a b d):
 aK Tryz.prog 138 (List.toArray [.slice s n cp,U a,U b,U Z]) w (fun v w'=> ∃ d1,v= .tuple #[]∧Go.Sort.PermIn a b d d1∧Go.Sort.SortedIn a3 a b d1∧w'.ownsRow B 71 1 (.slice s n cp) n (LE ay d1)∧Md (fun q=>(Value.slice s n cp).ownBlock=some q) w w'):=by
 have bx:True:=trivial
 induction m generalizing d a b Z w with
 | zero=>omega
 | succ m bx=>
   have ih:∀ (d:Array Nat) (a b Z:Nat) (w:World),w.ownsRow B 71 1 (.slice s n cp) n (LE ay d)→b - a < m→(a≤b∧b≤n)→Z≤64→Go.Sort.Below a3 a b d→_:=fun d a b Z w h1 h2 h3 h4 h5=>bx d a b Z w h1 h2 h3 h4 h5
   have hdn:=cU bm
   refine enter Tryz.func138 rfl Tryz.ntmps138 rfl ?_
   refine aa (fun _ bA=>(ae (((bA _ _ (aa (fun _ bD=>(p ak ?_))))))))
   refine ag ((bD _ _ (au (lp (fun bh am bg=> ∃ (c j ac:Nat) (J wp:Bool) (A:Array Nat),(a≤c∧c≤j∧j≤b∧ac≤64)∧(Go.Sort.Below a3 c j A)∧(∀ R,Go.Sort.PermIn c j A R→Go.Sort.SortedIn a3 c j R→Go.Sort.PermIn a b d R∧Go.Sort.SortedIn a3 a b R)∧(bg.ownsRow B 71 1 (.slice s n cp) n (LE ay A))∧(Md (fun q=>(Value.slice s n cp).ownBlock=some q) w bg)∧(am 0= .slice s n cp)∧(am 1=U c)∧(am 2=U j)∧(am 3=U ac)∧(am 8= .bool J)∧(am 9= .bool wp)∧(j - c=bh)) _ ⟨a,b,Z,true,true,d,(by omega),bK,(fun R h1 h2=>⟨h1,h2⟩),bm,(Md.refl _ _),rfl,rfl,rfl,rfl,rfl,rfl,rfl⟩ ?_))))
   rintro bh am bg ⟨c,j,ac,J,wp,A,hr,aN,an,ax,aD,ct,cu,cv,cw,cx,cy,rfl⟩
   refine fx 0 ct (fx 1 cu (fx 2 cv (fx 3 cw (fx 8 cx (fx 9 cy ?_)))))
   have hdcn:=cU ax
   refine au (aa (fun _ bE=>(ab (U j) (ab (U c) (p (bI ((j - c:Nat):Int) rfl rfl (aH (by omega) (by omega))) (p ak (nl ?_)))))))
   refine tn (bE _ _ (sq (fun _ bG=>aa (fun _ bH=>(p mv (p (le rfl rfl) (ag ((bH _ _ ?_)))))))))
   refine cd rfl (fun hc23=> ?_) (fun hc23=> ?_)
   refine aa (fun _ aM=>(ab (.slice s n cp) (ab (U c) (ab (U j) (e (cl yj (CJ A c j B n cp s _ ax (by omega) (by omega)) rfl fun db dm b0=> ?_))))))
   obtain ⟨rfl,bS,bM⟩:=b0
   refine ag ((aM _ _ (rt (tr (br (tr (br (nA rfl ?_))))))))
   obtain ⟨h1,h2⟩:=Go.Sort.insertionSort_holds mh A c j (by omega) (by omega)
   obtain ⟨hz1,hz2⟩:=an _ (h1) (h2)
   exact ⟨_,rfl,hz1,hz2,bS,Md.trans aD bM⟩
   refine az (tn (bG _ _ (sq (fun _ aM=>aa (fun _ bJ=>(ab (U ac) (p (ba rfl rfl) (nl ?_))))))))
   refine tn (bJ _ _ (cd rfl (fun ca=> ?_) (fun ca=> ?_)))
   refine aa (fun _ ar=>(ab (.slice s n cp) (ab (U c) (ab (U j) (e (cl yl (Cs A c j B n cp s _ ax (by omega) (by omega)) rfl fun dc w33 b1=> ?_))))))
   obtain ⟨rfl,bT,bN⟩:=b1
   refine ag ((ar _ _ (rt (tr (br (tr (br (nA rfl ?_))))))))
   obtain ⟨h1,h2⟩:=Go.Sort.heapSort_holds mh A c j (by omega) (by omega)
   obtain ⟨hz1,hz2⟩:=an _ (h1) (h2)
   exact ⟨_,rfl,hz1,hz2,bT,Md.trans aD bN⟩
   refine az (tn (aM _ _ ?_))
   refine c6 (fun ad bb=> ∃ (C:Nat) (d1:Array Nat),(C≤64)∧(Go.Sort.PermIn c j A d1)∧(bb.ownsRow B 71 1 (.slice s n cp) n (LE ay d1))∧(Md (fun q=>(Value.slice s n cp).ownBlock=some q) w bb)∧(ad 0= .slice s n cp)∧(ad 1=U c)∧(ad 2=U j)∧(ad 3=U C)∧(ad 8= .bool J)∧(ad 9= .bool wp)∧(ad 10=U (j - c))) ?_ ?_
   refine aa (fun _ ar=>(ab (.bool J) (p (no rfl) (ag ((ar _ _ (cb rfl (fun cc=> ?_) (fun cc=> ?_))))))))
   refine aa (fun _ G=>(ab (.slice s n cp) (ab (U c) (ab (U j) (e (cl ym (xK A c j B n cp s _ ax (by omega) cr) rfl fun dd w39 b2=> ?_))))))
   obtain ⟨d1,rfl,cs,bU,bO⟩:=b2
   refine ag ((G _ _ (rg rfl (ab (U ac) (p (bI ((ac - 1:Nat):Int) rfl rfl (aH (by omega) (by omega))) (p ak (nl (tn ?_))))))))
   exact ⟨ac - 1,d1,(by omega),cs,bU,(Md.trans aD bO),rfl,rfl,rfl,rfl,rfl,rfl,rfl⟩
   exact az (tn (⟨ac,A,(by omega),(Go.Sort.permIn_refl A c j),ax,aD,rfl,rfl,rfl,rfl,rfl,rfl,rfl⟩))
   rintro ad bb ⟨C,d1,hl2,bw,bX,bR,cz,cA,cC,cD,cE,cF,cB⟩
   refine fx 0 cz (fx 1 cA (fx 2 cC (fx 3 cD (fx 8 cE (fx 9 cF (fx 10 cB (aa (fun _ ar=>(ab (.slice s n cp) (ab (U c) (ab (U j) (e (cl yn (y9 d1 c j B n cp s _ bX (by omega) (by omega)) rfl fun de w46 b3=> ?_)))))))))))))
   obtain ⟨aI,hv,rfl,c8,aR,hE46⟩:=b3
   have hM46:=Md.trans bR (hE46.mono (fun _ _ h=>h.elim))
   refine p mv (p (xt rfl rfl) (p (xt rfl rfl) (p ak (ae (((ar _ _ ?_)))))))
   refine c6 (fun M bd=> ∃ (E:Nat) (a5:Int) (d2:Array Nat),(c≤E∧E < j)∧(Go.Sort.PermIn c j A d2)∧(bd.ownsRow B 71 1 (.slice s n cp) n (LE ay d2))∧(Md (fun q=>(Value.slice s n cp).ownBlock=some q) w bd)∧(M 0= .slice s n cp)∧(M 1=U c)∧(M 2=U j)∧(M 3=U C)∧(M 8= .bool J)∧(M 9= .bool wp)∧(M 10=U (j - c))∧(M 11=U E)∧(M 12= .int .i64 a5)) ?_ ?_
   refine aa (fun _ G=>(p mv (p (ba rfl rfl) (ag ((G _ _ (cd rfl (fun ce=> ?_) (fun ce=> ?_))))))))
   refine aa (fun _ ah=>(ab (.slice s n cp) (ab (U c) (ab (U j) (e (cl yp (E2 d1 c j B n cp s _ aR (by omega) (by omega)) rfl fun df dn b4=> ?_))))))
   obtain ⟨rfl,bV,bP⟩:=b4
   have hd1n:=cU aR
   refine ag ((ah _ _ (aa (fun _ aq=>(ab (U j) (p (bI ((j - 1:Nat):Int) rfl rfl (aH (by omega) (by omega))) (p mv (ab (U c) ?_))))))))
   refine p (bI ((aI - c:Nat):Int) rfl rfl (aH (by omega) (by omega))) (p (bI ((j - 1 - (aI - c):Nat):Int) rfl rfl (aH (by omega) (by omega))) (ae (((aq _ _ (rg rfl (p ak (nl ?_))))))))
   exact tn (⟨j - 1 - (aI - c),1,Go.Sort.reverseRange d1 c j,(by omega),(Go.Sort.permIn_trans _ _ _ c j bw (Go.Sort.reverseRange_holds d1 c j (by omega) (by omega))),bV,(Md.trans hM46 bP),rfl,rfl,rfl,rfl,rfl,rfl,rfl,rfl,rfl⟩)
   exact az (tn (⟨aI,hv,d1,(by omega),bw,aR,hM46,rfl,rfl,rfl,rfl,rfl,rfl,rfl,rfl,rfl⟩))
   rintro M bd ⟨E,a5,d2,aF,hp2,aB,aw,cG,cH,cL,cM,cN,cO,cI,cJ,cK⟩
   refine fx 0 cG (fx 1 cH (fx 2 cL (fx 3 cM (fx 8 cN (fx 9 cO (fx 10 cI (fx 11 cJ (fx 12 cK ?_))))))))
   refine c6 (fun O al=> ∃ (d3:Array Nat),(Go.Sort.PermIn c j A d3)∧(al.ownsRow B 71 1 (.slice s n cp) n (LE ay d3))∧(Md (fun q=>(Value.slice s n cp).ownBlock=some q) w al)∧(O 0= .slice s n cp)∧(O 1=U c)∧(O 2=U j)∧(O 3=U C)∧(O 8= .bool J)∧(O 9= .bool wp)∧(O 10=U (j - c))∧(O 11=U E)) ?_ ?_
   refine aa (fun _ G=>(ab (.bool J) (ab (.bool J) (gb (t:=62) rfl (fun ch=> ?_) (fun ch=> ?_)))))
   refine pg rfl rfl rfl (ao (.bool wp) rfl) (p (bl rfl) (p mv (gb (t:=65) rfl (fun ci=> ?_) (fun ci=> ?_))))
   refine pg rfl rfl rfl (ao (.int .i64 a5) rfl) (pg rfl rfl rfl (ba rfl rfl) (p (bl rfl) (ag ((G _ _ (cd rfl (fun cg=> ?_) (fun cg=> ?_)))))))
   refine aa (fun _ ah=>(ab (.slice s n cp) (ab (U c) (ab (U j) (e (cl yq (EB d2 c j B n cp s _ aB (by omega) (by omega)) rfl fun dg dp b5=> ?_))))))
   obtain ⟨rfl,bq,bi⟩:=b5
   have hd2n:=cU aB
   obtain ⟨bv,ck⟩:=Go.Sort.partialInsertionSort_holds mh d2 c j (by omega) (by omega) (Go.Sort.Below.perm aN (by omega) hp2)
   refine ag ((ah _ _ (cb rfl (fun bt=> ?_) (fun bt=> ?_))))
   have hsT:=ck bt
   refine rt (tr (br (tr (br (nA rfl ?_)))))
   obtain ⟨hz1,hz2⟩:=an _ (Go.Sort.permIn_trans _ _ _ c j hp2 bv) (hsT)
   exact ⟨_,rfl,hz1,hz2,bq,Md.trans aw bi⟩
   exact az (tn (⟨_,(Go.Sort.permIn_trans _ _ _ c j hp2 bv),bq,(Md.trans aw bi),rfl,rfl,rfl,rfl,rfl,rfl,rfl,rfl⟩))
   exact az (tn (⟨d2,hp2,aB,aw,rfl,rfl,rfl,rfl,rfl,rfl,rfl,rfl⟩))
   refine sk rfl rfl rfl rfl (sk rfl rfl rfl rfl (p (a7 rfl) (ag ((G _ _ (cf rfl (az (tn ?_))))))))
   exact ⟨d2,hp2,aB,aw,rfl,rfl,rfl,rfl,rfl,rfl,rfl,rfl⟩
   refine sk rfl rfl rfl rfl (p (a7 rfl) (p mv (sk rfl rfl rfl rfl (sk rfl rfl rfl rfl (p (a7 rfl) (ag ((G _ _ ?_))))))))
   exact cf rfl (az (tn (⟨d2,hp2,aB,aw,rfl,rfl,rfl,rfl,rfl,rfl,rfl,rfl⟩)))
   rintro O al ⟨d3,aC,Y,aO,cP,cQ,cT,cV,cW,cX,cR,cS⟩
   refine fx 0 cP (fx 1 cQ (fx 2 cT (fx 3 cV (fx 8 cW (fx 9 cX (fx 10 cR (fx 11 cS ?_)))))))
   refine c6 (fun V bf=>(bf.ownsRow B 71 1 (.slice s n cp) n (LE ay d3))∧(Md (fun q=>(Value.slice s n cp).ownBlock=some q) w bf)∧(V 0= .slice s n cp)∧(V 1=U c)∧(V 2=U j)∧(V 3=U C)∧(V 8= .bool J)∧(V 9= .bool wp)∧(V 10=U (j - c))∧(V 11=U E)) ?_ ?_
   refine sq (fun _ G=> ?_)
   have hd3n:=cU Y
   have hS17:(fun w'=>Wk al w') al.drew:=(Md.refl _ _).drew
   refine bF (fun w'=>Wk al w') rfl wide hS17 (bp 0 rfl (U c) hS17 (aQ 1 rfl (fun _ _=>gt rfl rfl) hS17 (aQ 2 rfl (fun _ _=>mv) hS17 (hZ (t:=75) rfl (fun cj=> ?_) (fun cj=> ?_)))))
   refine aX 3 rfl (by kernel_rfl) rfl rfl rfl (fun _ _=>ao (.slice s n cp) rfl) hS17 (aX 4 rfl (by kernel_rfl) rfl rfl rfl (fun _ _=>ao (U c) rfl) hS17 (aX 5 rfl (by kernel_rfl) rfl rfl rfl (fun _ _=>bI ((c - 1:Nat):Int) rfl rfl (aH (by omega) (by omega))) hS17 (aX 6 rfl (by kernel_rfl) rfl rfl rfl (fun _ _=>aG aY rfl rfl (by omega) (aj.ok ((aA Y).2) (a6 (by omega)))) hS17 (aX 7 rfl (by kernel_rfl) rfl rfl rfl (fun w' aV=>ld bc rfl (bo (i:=c - 1) ((aA Y).2.wk aV) (by omega))) hS17 (aX 8 rfl (by kernel_rfl) rfl rfl rfl (fun _ _=>ao (.slice s n cp) rfl) hS17 (aX 9 rfl (by kernel_rfl) rfl rfl rfl (fun _ _=>ao (U E) rfl) hS17 (aX 10 rfl (by kernel_rfl) rfl rfl rfl (fun _ _=>aG aY rfl rfl (by omega) (aj.ok ((aA Y).2) (a6 (by omega)))) hS17 ?_)))))))
   refine aX 11 rfl (by kernel_rfl) rfl rfl rfl (fun w' aV=>ld bc rfl (bo (i:=E) ((aA Y).2.wk aV) (by omega))) hS17 (iR 12 rfl (by kernel_rfl) rfl rfl rfl (cl gi (gp d3[c - 1]! d3[E]! _) rfl fun dh w85 b6=> ?_))
   obtain ⟨rfl,bL⟩:=b6
   have ai:(fun w'=>Wk al w') w85:=Md.trans hS17 bL
   refine ⟨ai,?_⟩
   refine aX 13 rfl (by kernel_rfl) rfl rfl rfl (fun _ _=>no rfl) ai (aQ 14 rfl (fun _ _=>bl rfl) ai (hn (by kernel_rfl) (tn (G _ _ (cb rfl (fun bu=> ?_) (fun bu=> ?_))))))
   refine aa (fun _ ah=>(ab (.slice s n cp) (ab (U c) (ab (U j) (ab (U E) (e (cl yr (En d3 c j E B n cp s _ (aE Y ai) (by omega) (by omega)) rfl fun di dq b7=> ?_)))))))
   obtain ⟨I,d4,a9,rfl,bW,bQ⟩:=b7
   obtain ⟨bp,cm,cn,a0,a1⟩:=Go.Sort.round_eq mh (Go.Sort.partitionEqual_holds a3) (show 0 < c by omega) aF.1 aF.2 (by omega) (Go.Sort.Below.perm aN (by omega) aC) (by simpa using bu) a9
   refine ae (((ah _ _ (aa (fun _ aq=>(p mv (p ak (nl ?_))))))))
   exact tn (aq _ _ (ext (te _ (be (tn (⟨_,by omega,I,j,C,J,wp,d4,(by omega),a0,((fun R h1 h2=>by obtain ⟨h3,h4⟩:=a1 R h1 h2; exact an R (Go.Sort.permIn_trans _ _ _ c j aC h3) h4)),bW,(Md.trans aO (Md.trans (ai.mono (fun _ _ h=>h.elim)) bQ)),rfl,rfl,rfl,rfl,rfl,rfl,rfl⟩))))))
   exact az (tn (⟨(aE Y ai),(Md.trans aO (ai.mono (fun _ _ h=>h.elim))),rfl,rfl,rfl,rfl,rfl,rfl,rfl,rfl⟩))
   refine aT 3 rfl (by kernel_rfl) rfl rfl rfl rfl hS17 ?_
   refine aT 4 rfl (by kernel_rfl) rfl rfl rfl rfl hS17 ?_
   refine aT 5 rfl (by kernel_rfl) rfl rfl rfl rfl hS17 ?_
   refine aT 6 rfl (by kernel_rfl) rfl rfl rfl rfl hS17 ?_
   refine aT 7 rfl (by kernel_rfl) rfl rfl rfl rfl hS17 ?_
   refine aT 8 rfl (by kernel_rfl) rfl rfl rfl rfl hS17 ?_
   refine aT 9 rfl (by kernel_rfl) rfl rfl rfl rfl hS17 ?_
   refine aT 10 rfl (by kernel_rfl) rfl rfl rfl rfl hS17 ?_
   refine aT 11 rfl (by kernel_rfl) rfl rfl rfl rfl hS17 ?_
   refine aT 12 rfl (by kernel_rfl) rfl rfl rfl rfl hS17 ?_
   refine aT 13 rfl (by kernel_rfl) rfl rfl rfl rfl hS17 ?_
   exact aQ 14 rfl (fun _ _=>a7 rfl) hS17 (hn (by kernel_rfl) (tn (G _ _ (cf rfl (az (tn (⟨(aE Y (Md.refl _ _).drew),aO.drew,rfl,rfl,rfl,rfl,rfl,rfl,rfl,rfl⟩)))))))
   rintro V bf ⟨bs,bk,cY,cZ,c2,c3,c4,c5,c0,c1⟩
   refine fx 0 cY (fx 1 cZ (fx 2 c2 (fx 3 c3 (fx 8 c4 (fx 9 c5 (fx 10 c0 (fx 11 c1 (aa (fun _ G=>(ab (.slice s n cp) (ab (U c) (ab (U j) (ab (U E) (e (cl ys (El d3 c j E B n cp s _ bs (by omega) (by omega)) rfl fun dj bz b8=> ?_)))))))))))))))
   obtain ⟨I,ap,d4,a9,rfl,aS,bj⟩:=b8
   have hd3n:=cU bs
   have hd4n:=cU aS
   obtain ⟨bp,cm,cn,a0,a1,co,cq⟩:=Go.Sort.round_part mh (Go.Sort.partition_holds a3) aF.1 aF.2 (by omega) (Go.Sort.Below.perm aN (by omega) aC) a9
   refine p mv (p (xt rfl rfl) (p (xt rfl rfl) (p ak (ae (((G _ _ (sq (fun _ ah=> ?_)))))))))
   refine rg rfl (p mv (ae (((ah _ _ (aa (fun _ aq=>(p mv ?_))))))))
   refine ab (U c) (p (bI ((I - c:Nat):Int) rfl rfl (aH (by omega) (by omega))) (ab (U j) (p mv (p (bI ((j - I:Nat):Int) rfl rfl (aH (by omega) (by omega))) (p ak (p ak (nl ?_)))))))
   refine tn (aq _ _ (aa (fun _ bB=>(ab (U (j - c)) (p (j5 (((j - c) / 8:Nat):Int) rfl rfl (by omega) (aH (by omega) (by omega))) (ae (((bB _ _ ?_)))))))))
   refine aa (fun _ bC=>(p mv (p mv (p (lt rfl rfl) (ag ((bC _ _ (cd rfl (fun b9=> ?_) (fun b9=> ?_)))))))))
   refine aa (fun _ aJ=>(p mv (p mv (p (ge rfl rfl) (ae (((aJ _ _ ?_))))))))
   refine aa (fun _ aL=>(ab (.slice s n cp) (ab (U c) (p mv (ab (U C) (e (cl oP (ih d4 c I C bz aS (by omega) (by omega) (by omega) a0) rfl fun c9 dk bY=> ?_)))))))
   obtain ⟨av,rfl,a2,a4,aU,aP⟩:=bY
   obtain ⟨aW,aZ⟩:=co av a2 a4
   refine ag ((aL _ _ (rg rfl (p mv (p (a8 ((I+1:Nat):Int) rfl rfl (aH (by omega) (by omega))) (p ak (nl (bn ?_))))))))
   exact tn (⟨_,by omega,I+1,j,C,decide (((I - c:Nat):Int)≥(((j - c) / 8:Nat):Int)),ap,av,(by omega),aW,((fun R h1 h2=>by obtain ⟨h3,h4⟩:=aZ R h1 h2; exact an R (Go.Sort.permIn_trans _ _ _ c j aC h3) h4)),aU,(Md.trans bk (Md.trans bj aP)),rfl,rfl,rfl,rfl,rfl,rfl,rfl⟩)
   refine aa (fun _ aJ=>(p mv (p mv (p (ge rfl rfl) (ae (((aJ _ _ ?_))))))))
   refine aa (fun _ aL=>(ab (.slice s n cp) (p mv (p (a8 ((I+1:Nat):Int) rfl rfl (aH (by omega) (by omega))) (ab (U j) (ab (U C) (e (cl oP (ih d4 (I+1) j C bz aS (by omega) (by omega) (by omega) a1) rfl fun da dl bZ=> ?_))))))))
   obtain ⟨av,rfl,a2,a4,aU,aP⟩:=bZ
   obtain ⟨aW,aZ⟩:=cq av a2 a4
   refine ag ((aL _ _ (rg rfl (p mv (p ak (nl (bn (tn ?_))))))))
   exact ⟨_,by omega,c,I,C,decide (((j - I:Nat):Int)≥(((j - c) / 8:Nat):Int)),ap,av,(by omega),aW,((fun R h1 h2=>by obtain ⟨h3,h4⟩:=aZ R h1 h2; exact an R (Go.Sort.permIn_trans _ _ _ c j aC h3) h4)),aU,(Md.trans bk (Md.trans bj aP)),rfl,rfl,rfl,rfl,rfl,rfl,rfl⟩
theorem FC (d:Array Nat) (B n cp:Nat) (a:Option Addr) (w:World) (j:w.ownsRow B 71 1 (.slice a n cp) n (LE ay d)) (s:n≤255):
 aK Tryz.prog 122 (List.toArray [.slice a n cp]) w (fun v w'=> ∃ d1,v= .tuple #[]∧Go.Sort.PermIn 0 n d d1∧Go.Sort.SortedIn a3 0 n d1∧w'.ownsRow B 71 1 (.slice a n cp) n (LE ay d1)∧Md (fun q=>(Value.slice a n cp).ownBlock=some q) w w'):=by
 refine enter Tryz.func122 rfl Tryz.ntmps122 rfl ?_
 refine aa (fun _ i=>(ab (.slice a n cp) (p (bm iZ rfl rfl) (ae (((i _ _ (rg rfl ?_))))))))
 refine ab (.slice a n cp) (p mv (p mv (p (iK vQ lJ rfl (je (by omega))) (e (cl rM (ui n _ (by omega)) rfl fun v9 w9 hR9=> ?_)))))
 obtain ⟨rfl,c⟩:=hR9
 have hll:=nN (n:=n) (by omega)
 refine e (cl oP (Eo (n+1) d 0 n (fD n) B n cp a _ (aE j c) (by omega) (by omega) s (by omega) (.inl rfl)) rfl fun v10 w10 hR10=> ?_)
 obtain ⟨d1,rfl,h1,h2,h3,h4⟩:=hR10
 refine nl (f0 rfl ?_)
 exact ⟨d1,rfl,h1,h2,h3,Md.trans (c.mono (fun _ _ h=>h.elim)) h4⟩
end Go.Hb.oC
end
section
set_option maxRecDepth 20000
set_option maxHeartbeats 1000000
namespace Go.Hb.fG
open Go.Hb.cG
open Go.Proofs
open Go.Hb.gP Go.Hb.fN Go.Hb.kg Go.Hb.mU Go.Hb.oC
theorem lE {w:World} {B e n cp i:Nat} {a:Option Addr} {d:Array Nat} (h:w.ownsRow B e 1 (.slice a n cp) n (LE ay d)):aj w.heap (dd a cp i 1) ((LE ay d).drop i):=by
 have :=(aA h).2.drop (cap:=cp) (k:=i) (size:=1) (by rw [mg]; have h1:=cU h; have h2:=(aA h).1; omega)
 rwa [Nat.mul_one] at this
theorem Dx (l:List Nat):l.map ay=LE ay l.toArray:=by simp [LE]
theorem m6 (l:List Nat):(l.map ay).all Value.oneCell'=true :=by
 rw [List.all_eq_true]; intro v hv; obtain ⟨x,_,rfl⟩:=List.mem_map.1 hv; rfl
theorem F1 (d:Array Nat) (k:Nat):(LE ay d).take k=(d.toList.take k).map ay:=by simp [LE,List.map_take]
theorem mC (b:UInt8):eA b=decide ((b.toNat:Int) > 32∧(b.toNat:Int) < 127∧(b.toNat:Int)≠47∧(b.toNat:Int)≠44∧(b.toNat:Int)≠35):=by
 unfold eA; exact decide_eq_decide.2 (by omega)
theorem Eg {w:World} {B e size n cp:Nat} {a:Option Addr} {xs:List Value} (h:w.ownsRow B e size (.slice a n cp) n xs) (hn:0 < n):a≠none:=by
 rintro rfl
 rcases h.2 with ⟨_,h5⟩ | ⟨g,cap,cur,h4,_⟩
 · omega
 · simp at h4
theorem nj (a:Option Addr) (n c:Nat) (xs:List Value) (w:World) (hC:aj w.heap a xs) (hxl:xs.length=n*1) (ha:a=none→n=0) (h1:xs.all Value.oneCell'=true) (hn:n≤1048576):
 aK Tryz.prog 49 (List.toArray [.slice a n c]) w (fun v w'=>World.ownsRow w' w.heap.size 71 1 v n xs∧Wk w w'):=by
 refine enter Tryz.func49 rfl Tryz.ntmps49 rfl ?_
 refine aa (fun _ s=>(ae (((s _ _ (sq (fun _ A=>aa (fun _ C=> ?_))))))))
 refine ab (.slice a n c) (p (k9 iZ rfl rfl) (ag ((C _ _ (cb rfl (fun q=> ?_) (fun q=> ?_))))))
 have I:a=none:=by simpa using q
 refine aa (fun _ i=>(ae (((i _ _ (rt (tr (f1 rfl rfl ?_))))))))
 have hn0:=ha I
 subst hn0
 obtain rfl :=List.eq_nil_of_length_eq_zero (show xs.length=0 by omega)
 exact ⟨World.ownsRow_nil _ _ _ _,Md.refl _ _⟩
 refine az (tn (A _ _ (aa (fun _ i=>(e (jT n9 fun O w5 hb5 j E=> ?_))))))
 have ho5:=E w.heap.size (by omega)
 refine ab (.slice a n c) (e (ap n9 (ho5) rfl (by have :=j.size; omega) rfl (hC.wk j.md) (hxl) (h1) (by omega) (by omega) fun M w7 J G hz7 U=> ?_))
 have hE7:=Wk.own j.md ho5 G (Nat.le_refl _)
 refine ae (((i _ _ (rt (f1 rfl rfl ?_)))))
 have hz:World.ownsRow w7 w.heap.size 71 1 M n xs:=by simpa using J
 exact ⟨hz,hE7⟩
theorem zL (d:Array Nat) (B n cp:Nat) (a:Option Addr) (w:World) (C:w.ownsRow B 71 1 (.slice a n cp) n (LE ay d)) (a5:n≤1048576):
 aK Tryz.prog 123 (List.toArray [.slice a n cp]) w (fun v w'=> ∃ k,v= .slice a k cp∧k=(dM d.toList).length∧World.ownsRow w' B 71 1 (.slice a k cp) k ((dM d.toList).map ay)∧Md (fun q=>(Value.slice a n cp).ownBlock=some q) w w'):=by
 have hdn:=cU C
 have hcp:=(aA C).1
 refine enter Tryz.func123 rfl Tryz.ntmps123 rfl ?_
 refine aa (fun _ ap=>(ae (((ap _ _ (sq (fun _ aD=>aa (fun _ aF=> ?_))))))))
 refine ab (.slice a n cp) (p (bm iZ rfl rfl) (p (lt rfl rfl) (ag ((aF _ _ (cd rfl (fun hc8=> ?_) (fun hc8=> ?_)))))))
 refine aa (fun _ al=>(ab (.slice a n cp) (p (bA (.slice a n cp) rfl) (ag ((al _ _ (rt (tr ?_))))))))
 refine f1 rfl rfl ?_
 have hz:dM d.toList=d.toList:=by
  have hlt:d.toList.length < 2:=by rw [lF]; omega
  revert hlt
  generalize d.toList=l
  intro hlt
  match l,hlt with
  | [],_=>rfl
  | [x],_=>rfl
 exact ⟨n,rfl,by rw [hz,lF]; omega,by rw [hz]; exact C,Md.refl _ _⟩
 refine az (tn (aD _ _ (sq (fun _ al=>aa (fun _ aI=>(ae (((aI _ _ ?_)))))))))
 refine au (lp (fun O ao Z=> ∃ (i:Nat),(1≤i∧i≤n∧2≤n)∧(dM (d.toList.take i)=d.toList.take i)∧(Wk w Z)∧(ao 0= .slice a n cp)∧(ao 3=U i)∧(n - i=O)) _ ⟨1,(by omega),((by have h1:=om (d:=d) (i:=0) (by omega); rw [h1]; rfl)),(Md.refl _ _),rfl,rfl,rfl⟩ ?_)
 rintro O ao Z ⟨i,hi,V,G,aZ,a0,rfl⟩
 refine fx 0 aZ (fx 3 a0 (sq (fun _ aJ=>aa (fun _ aL=>(ab (U i) (ab (.slice a n cp) (p (bm iZ rfl rfl) (p (lt rfl rfl) ?_))))))))
 refine ag ((aL _ _ (cd rfl (fun aP=> ?_) (fun aP=> ?_))))
 refine az (tn (aJ _ _ (sq (fun _ am=>au (sq (fun _ aM=> ?_))))))
 have s:(fun w'=>Wk Z w') Z.drew:=(Md.refl _ _).drew
 refine bF (fun w'=>Wk Z w') rfl wide s (bp 0 rfl (.slice a n cp) s (bp 1 rfl (U i) s (aQ 2 rfl (fun _ _=>aG aY rfl rfl (by omega) (aj.ok ((aA C).2) (a6 (by omega)))) s (aQ 3 rfl (fun w' I=>ld bc rfl (Wk.aw I (bo (i:=i) (aA (aE C G)).2 (by omega)))) s (bp 4 rfl (.slice a n cp) s (bp 5 rfl (U i) s (aQ 6 rfl (fun _ _=>bI ((i - 1:Nat):Int) rfl rfl (aH (by omega) (by omega))) s ?_)))))))
 refine aQ 7 rfl (fun _ _=>aG aY rfl rfl (by omega) (aj.ok ((aA C).2) (a6 (by omega)))) s (aQ 8 rfl (fun w' I=>ld bc rfl (Wk.aw I (bo (i:=i - 1) (aA (aE C G)).2 (by omega)))) s (aQ 9 rfl (fun _ _=>ba rfl rfl) s (hn (by kernel_rfl) (tn (aM _ _ (cd rfl (fun aR=> ?_) (fun aR=> ?_)))))))
 have heq:d[i - 1]! =d[i]! :=by omega
 refine aa (fun _ aq=>(ab (.slice a n cp) (ab (U i) (p (mD aY rfl rfl (by omega)) (ae (((aq _ _ ?_))))))))
 refine sq (fun _ ar=>aa (fun _ av=>(ae (((av _ _ (au (lp (fun O ac M=> ∃ (k i2:Nat) (A:Array Nat),(1≤k∧k < i+i2∧1≤i2∧i2≤n - i)∧(A.toList.drop k=d.toList.drop k)∧(A.toList.take k=dM (d.toList.take (i+i2)))∧(M.ownsRow B 71 1 (.slice a n cp) n (LE ay A))∧(Md (fun q=>(Value.slice a n cp).ownBlock=some q) w M)∧(ac 0= .slice a n cp)∧(ac 3=U k)∧(ac 4= .slice (dd a cp i 1) (n - i) (cp - i))∧(ac 5=U i2)∧(n - i2=O)) _ ⟨i,1,d,(by omega),rfl,((by rw [nr (by omega) (by omega),if_pos heq,V])),(aE C (Md.trans G (Md.refl _ _).drew)),((Md.trans G (Md.refl _ _).drew).mono (fun _ _ h=>h.elim)),rfl,rfl,rfl,rfl,rfl⟩ ?_))))))))
 rintro O ac M ⟨k,i2,A,hk,J,Y,E,an,a1,a2,a3,a4,rfl⟩
 refine fx 0 a1 (fx 3 a2 (fx 4 a3 (fx 5 a4 ?_)))
 have hdcn:=cU E
 refine sq (fun _ ax=>aa (fun _ aB=>(ab (U i2) (ab (.slice (dd a cp i 1) (n - i) (cp - i)) (p (bm iZ rfl rfl) (p (lt rfl rfl) (nl ?_)))))))
 refine tn (aB _ _ (cd rfl (fun aS=> ?_) (fun aS=> ?_)))
 refine az (tn (ax _ _ (sq (fun _ ah=>au (sq (fun _ ai=> ?_))))))
 have c:(fun w'=>Wk M w') M.drew:=(Md.refl _ _).drew
 refine bF (fun w'=>Wk M w') rfl wide c (bp 0 rfl (.slice (dd a cp i 1) (n - i) (cp - i)) c (bp 1 rfl (U i2) c (aQ 2 rfl (fun _ _=>aG aY rfl rfl (by omega) (aj.ok (lE E) (pY (by omega)))) c (aQ 3 rfl (fun w' I=>ld bc rfl (Wk.aw I (pX (j:=i2) (lE E) (by omega)))) c (bp 4 rfl (.slice (dd a cp i 1) (n - i) (cp - i)) c (bp 5 rfl (U i2) c (aQ 6 rfl (fun _ _=>bI ((i2 - 1:Nat):Int) rfl rfl (aH (by omega) (by omega))) c ?_)))))))
 refine aQ 7 rfl (fun _ _=>aG aY rfl rfl (by omega) (aj.ok (lE E) (pY (by omega)))) c (aQ 8 rfl (fun w' I=>ld bc rfl (Wk.aw I (pX (j:=i2 - 1) (lE E) (by omega)))) c (aQ 9 rfl (fun _ _=>dF rfl rfl) c (hn (by kernel_rfl) (tn (ai _ _ (cd rfl (fun aT=> ?_) (fun aT=> ?_)))))))
 have hO2x:=aE E c
 have g1:=nv J (show k≤i+i2 by omega)
 have g2:=nv J (show k≤i+(i2 - 1) by omega)
 have aV:¬d[i+i2 - 1]! =d[i+i2]! :=by rw [show i+i2 - 1=i+(i2 - 1) by omega,← g1,← g2]; omega
 refine aa (fun _ aC=>(ab (.slice a n cp) (ab (U k) (ab (.slice (dd a cp i 1) (n - i) (cp - i)) (ab (U i2) (p (aG aY rfl rfl (by omega) (aj.ok (lE hO2x) (pY (by omega)))) (p (ld bc rfl (pX (j:=i2) (lE hO2x) (by omega))) ?_)))))))
 refine p (aG aY rfl rfl (by omega) (aj.ok ((aA hO2x).2) (a6 (by omega)))) (e (dj (u:=A[i+i2]!) (k) hO2x c8 rfl rfl rfl (by omega) fun w12 aN ho12=>ag ((aC _ _ (rg rfl (ab (U k) (p (a8 ((k+1:Nat):Int) rfl rfl (aH (by omega) (by omega))) (p ak ?_))))))))
 refine nl (bn (tn (ah _ _ (rg rfl (ab (U i2) (p (a8 ((i2+1:Nat):Int) rfl rfl (aH (by omega) (by omega))) (p ak (nl ?_))))))))
 exact tn (⟨_,by omega,k+1,i2+1,A.setIfInBounds k A[i+i2]!,(by omega),((by rw [set_drop (by omega)]; have h3:=congrArg (List.drop 1) J; rwa [List.drop_drop,List.drop_drop] at h3)),((by rw [qv (by omega),Y,show i+(i2+1)=i+i2+1 from rfl,nr (by omega) (by omega),if_neg aV,g1])),ho12,(Md.trans an (Md.trans (c.mono (fun _ _ h=>h.elim)) aN)),rfl,rfl,rfl,rfl,rfl⟩)
 have g1:=nv J (show k≤i+i2 by omega)
 have g2:=nv J (show k≤i+(i2 - 1) by omega)
 have aU:d[i+i2 - 1]! =d[i+i2]! :=by rw [show i+i2 - 1=i+(i2 - 1) by omega,← g1,← g2]; omega
 refine az (bn (tn (ah _ _ (rg rfl (ab (U i2) (p (a8 ((i2+1:Nat):Int) rfl rfl (aH (by omega) (by omega))) (p ak (nl ?_))))))))
 exact tn (⟨_,by omega,k,i2+1,A,(by omega),J,((by rw [Y,show i+(i2+1)=i+i2+1 from rfl,nr (by omega) (by omega),if_pos aU])),(aE E (Md.refl _ _).drew),an.drew,rfl,rfl,rfl,rfl,rfl⟩)
 refine ext (te _ (te _ (be (tn (ar _ _ (aa (fun _ ah=>(ab (.slice a n cp) ?_))))))))
 refine ab (U k) (p (mD aY rfl rfl (by omega)) (e (zx (k:=k) iZ GV rfl E rfl rfl (by omega) fun w14 aO aX=>ag ((ah _ _ (aa (fun _ ai=>(ab (.slice a n cp) ?_))))))))
 refine ab (U k) (p (kI aY rfl rfl (by omega)) (ae (((ai _ _ (rt (br (tr ?_))))))))
 refine tr (br (tr (f1 rfl rfl ?_)))
 have hz:d.toList.take (i+i2)=d.toList:=List.take_of_length_le (by rw [lF]; omega)
 rw [hz] at Y
 have hkl:k=(dM d.toList).length:=by rw [← Y,List.length_take,lF]; omega
 refine ⟨k,rfl,hkl,?_,Md.trans an aO⟩
 have hT:=uT aX (show k≤n by omega) (Eg C (by omega))
 rw [Nat.mul_one,List.take_append,List.take_of_length_le (l:=(LE ay A).take k) (by rw [List.length_take]; omega),List.length_take,mg,show k - min k A.size=0 by omega,List.take_zero,List.append_nil,F1,Y] at hT
 exact hT
 have aW:¬d[i - 1]! =d[i]! :=by omega
 refine az (bn (tn (am _ _ (rg rfl (ab (U i) (p (ad rfl rfl (bw (by omega))) (p ak (nl ?_))))))))
 exact tn (⟨_,by omega,i+1,(by omega),((by rw [nr (by omega) (by omega),if_neg aW,V,om (by omega)])),(Md.trans G (Md.refl _ _).drew),rfl,rfl,rfl⟩)
 refine ext (te _ (te _ (be (tn (al _ _ (aa (fun _ am=>(ab (.slice a n cp) ?_))))))))
 refine p (bA (.slice a n cp) rfl) (ag ((am _ _ (rt (f1 rfl rfl ?_)))))
 rw [show d.toList.take i=d.toList from List.take_of_length_le (by rw [lF]; omega)] at V
 exact ⟨n,rfl,by rw [V,lF]; omega,by rw [V]; exact aE C G,G.mono (fun _ _ h=>h.elim)⟩
theorem uO (l:List Nat) (a:Option Addr) (c:Nat) (w:World) (hC:aj w.heap a (l.map ay)) (ha:a=none→l.length=0) (hl:l.length≤255):
 aK Tryz.prog 104 (List.toArray [.slice a l.length c]) w (fun v w'=>World.ownsRow w' w.heap.size 71 1 v (fT l).length ((fT l).map ay)∧Wk w w'):=by
 refine enter Tryz.func104 rfl Tryz.ntmps104 rfl ?_
 refine aa (fun _ s=>(ae (((s _ _ (aa (fun _ A=>(ab (.slice a l.length c) ?_))))))))
 refine e (cl nf (nj a l.length c (l.map ay) _ hC (by simp) ha (m6 l) (by omega)) rfl fun O w5 hR5=> ?_)
 obtain ⟨ho5,hE5⟩:=hR5
 obtain ⟨i,j,rfl⟩:=db ho5
 rw [Dx] at ho5
 refine ae (((A _ _ (aa (fun _ C=>(ab (.slice i l.length j) (e (cl x7 (FC l.toArray w.heap.size l.length j i _ ho5 hl) rfl fun U w7 hR7=> ?_))))))))
 obtain ⟨d1,rfl,J,M,p,I⟩:=hR7
 refine ag ((C _ _ (aa (fun _ E=>(ab (.slice i l.length j) (e (cl x8 (zL d1 w.heap.size l.length j i _ p (by omega)) rfl fun v9 w9 hR9=> ?_)))))))
 obtain ⟨k,rfl,hk,q,hM9⟩:=hR9
 have G:Wk w w9:=Wk.own (Wk.own hE5 ho5 I (Nat.le_refl _)) p hM9 (Nat.le_refl _)
 refine ae (((E _ _ (rt (f1 rfl rfl ?_)))))
 rw [FB J M] at hk q
 exact ⟨by rw [← hk]; exact q,G⟩
theorem qw (b:UInt8) (w:World):
 aK Tryz.prog 133 (List.toArray [.int .u8 b.toNat]) w (fun v w'=>v= .bool (eA b)∧Wk w w'):=by
 refine enter Tryz.func133 rfl Tryz.ntmps133 rfl ?_
 refine aa (fun _ c=>(ae (((c _ _ (aa (fun _ a=>(ab (.int .u8 b.toNat) ?_))))))))
 refine p (gt rfl rfl) (p mv (gs (t:=5) rfl (fun hg5=> ?_) (fun hg5=> ?_)))
 refine pg rfl rfl rfl (ao (.int .u8 b.toNat) rfl) (pg rfl rfl rfl (lt rfl rfl) (p (bl rfl) (p mv (gs (t:=9) rfl (fun hg9=> ?_) (fun hg9=> ?_)))))
 refine pg rfl rfl rfl (ao (.int .u8 b.toNat) rfl) (pg rfl rfl rfl (dF rfl rfl) (p (bl rfl) (p mv (gs (t:=13) rfl (fun hg13=> ?_) (fun hg13=> ?_)))))
 refine pg rfl rfl rfl (ao (.int .u8 b.toNat) rfl) (pg rfl rfl rfl (dF rfl rfl) (p (bl rfl) (p mv (gs (t:=17) rfl (fun i=> ?_) (fun i=> ?_)))))
 refine pg rfl rfl rfl (ao (.int .u8 b.toNat) rfl) (pg rfl rfl rfl (dF rfl rfl) (p (bl rfl) (ae (((a _ _ (rt (f1 rfl rfl ?_))))))))
 exact ⟨by show Value.bool (decide _)=_; rw [mC]; exact bv (by constructor <;> intro h <;> first | exact ⟨by omega,by omega,by omega,by omega,h⟩ | exact h.2.2.2.2),Md.refl _ _⟩
 refine sk rfl rfl rfl rfl (sk rfl rfl rfl rfl (p (a7 rfl) (ae (((a _ _ (rt (f1 rfl rfl ?_))))))))
 exact ⟨by show Value.bool false =_; rw [mC,decide_eq_false (by omega)],Md.refl _ _⟩
 refine sk rfl rfl rfl rfl (sk rfl rfl rfl rfl (p (a7 rfl) (p mv (sk rfl rfl rfl rfl (sk rfl rfl rfl rfl (p (a7 rfl) (p ak ?_)))))))
 exact ag ((a _ _ (rt (f1 rfl rfl (⟨by show Value.bool false =_; rw [mC,decide_eq_false (by omega)],Md.refl _ _⟩)))))
 refine sk rfl rfl rfl rfl (sk rfl rfl rfl rfl (p (a7 rfl) (p mv (sk rfl rfl rfl rfl (sk rfl rfl rfl rfl (p (a7 rfl) (p mv ?_)))))))
 refine sk rfl rfl rfl rfl (sk rfl rfl rfl rfl (p (a7 rfl) (ae (((a _ _ (rt (f1 rfl rfl ?_))))))))
 exact ⟨by show Value.bool false =_; rw [mC,decide_eq_false (by omega)],Md.refl _ _⟩
 refine sk rfl rfl rfl rfl (sk rfl rfl rfl rfl (p (a7 rfl) (p mv (sk rfl rfl rfl rfl (sk rfl rfl rfl rfl (p (a7 rfl) (p mv ?_)))))))
 refine sk rfl rfl rfl rfl (sk rfl rfl rfl rfl (p (a7 rfl) (p mv (sk rfl rfl rfl rfl (sk rfl rfl rfl rfl (p (a7 rfl) (p ak ?_)))))))
 exact ag ((a _ _ (rt (f1 rfl rfl (⟨by show Value.bool false =_; rw [mC,decide_eq_false (by omega)],Md.refl _ _⟩)))))
theorem uc (k:Nat) (w:World):
 aK Tryz.prog 117 (List.toArray [U k]) w (fun v w'=>v= .bool (decide (1≤k∧k≤3))∧Wk w w'):=by
 refine enter Tryz.func117 rfl Tryz.ntmps117 rfl ?_
 refine aa (fun _ c=>(ae (((c _ _ (aa (fun _ a=>(ab (U k) ?_))))))))
 refine p (ge rfl rfl) (p mv (gs (t:=5) rfl (fun hg5=> ?_) (fun hg5=> ?_)))
 refine pg rfl rfl rfl (ao (U k) rfl) (pg rfl rfl rfl (le rfl rfl) (p (bl rfl) (ae (((a _ _ (rt (f1 rfl rfl ?_))))))))
 exact ⟨by show Value.bool (decide _)=_; exact bv (by omega),Md.refl _ _⟩
 refine sk rfl rfl rfl rfl (sk rfl rfl rfl rfl (p (a7 rfl) (ae (((a _ _ (rt (f1 rfl rfl ?_))))))))
 exact ⟨by show Value.bool false =_; rw [decide_eq_false (by omega)],Md.refl _ _⟩
end Go.Hb.fG
end
section
set_option maxRecDepth 20000
set_option maxHeartbeats 1000000
namespace Go.Hb.ke
open Go.Hb.cG
open Go.Proofs
open Go.Hb.gP Go.Hb.fN Go.Hb.kg Go.Hb.mU Go.Hb.oC Go.Hb.fG
theorem By {kind:Nat} {s:List UInt8} (h:kind=1∧s.length=1∧eA (s.getD 0 0)=true):cY kind s=(s.getD 0 0).toNat:=by unfold cY; rw [if_pos h.1,if_pos h.2]
theorem Bz {kind:Nat} {s:List UInt8} (h:kind=2∧s.length=2∧eA (s.getD 0 0)=true∧eA (s.getD 1 0)=true):cY kind s=256 *(s.getD 0 0).toNat+(s.getD 1 0).toNat:=by unfold cY; rw [if_neg (by omega),if_pos h.1,if_pos h.2]
theorem BA {kind:Nat} {s:List UInt8} (h:kind=3):cY kind s=(dp s 65535).1:=by unfold cY; rw [if_neg (by omega),if_neg (by omega)]
theorem Bx {kind:Nat} {s:List UInt8} (h:kind=1∨kind=2) (h1:¬(kind=1∧s.length=1∧eA (s.getD 0 0)=true)) (h2:¬(kind=2∧s.length=2∧eA (s.getD 0 0)=true∧eA (s.getD 1 0)=true)):cY kind s=0:=by
 unfold cY
 rcases h with h | h
 · rw [if_pos h,if_neg (fun h3=>h1 ⟨h,h3⟩)]
 · rw [if_neg (by omega),if_pos h,if_neg (fun h3=>h2 ⟨h,h3⟩)]
theorem CN {c:UInt8} {l:List UInt8} (h:0 < l.count c):¬cD c l < 0:=by
 intro h1
 exact tX h1 (List.idxOf_lt_length_iff.2 (List.count_pos_iff.1 h))
theorem EV (n:Nat) (x:List UInt8):List.replicate n (str x)=(List.replicate n x).map str:=by rw [List.map_replicate]
theorem vu {dn:List (List UInt8)} {m:Nat} {x:List UInt8} (h:0 < m):((dn++List.replicate m []).map str).set dn.length (str x)=((dn++ [x])++List.replicate (m - 1) []).map str:=by
 obtain ⟨m,rfl⟩:∃ k,m=k+1:=⟨m - 1,by omega⟩
 rw [← List.map_set,List.set_append_right _ _ (Nat.le_refl _),Nat.sub_self,List.replicate_succ,List.set_cons_zero,Nat.add_sub_cancel,List.append_assoc]; rfl
theorem A7 {kind:Nat} {ps:List (List UInt8)} {i:Nat} (h:i < ps.length) (h1:¬∃ x∈ps.take i,cY kind x=0) (h2:cY kind (ps.getD i [])≠0):¬∃ x∈ps.take (i+1),cY kind x=0:=by
 rw [g3 ps i [] h]
 rintro ⟨x,a,h3⟩
 rcases List.mem_append.1 a with a | a
 · exact h1 ⟨x,a,h3⟩
 · rw [List.mem_singleton] at a; subst a; exact h2 h3
theorem tF {α:Type} {l:List α} {i:Nat} {d:α} (h:i < l.length):l.getD i d∈l:=by
 rw [List.getD_eq_getElem?_getD,List.getElem?_eq_getElem h]; exact List.getElem_mem h
theorem s9 (kind:Nat) (s:List UInt8) (w:World) (hk:kind=1∨kind=2∨kind=3) (hs:s.length≤1048576):
 aK Tryz.prog 119 (List.toArray [U kind,str s]) w (fun v w'=>v=ay (cY kind s)∧Wk w w'):=by
 refine enter Tryz.func119 rfl Tryz.ntmps119 rfl ?_
 refine aa (fun _ ac=>(ae (((ac _ _ (sq (fun _ ad=>au ?_)))))))
 refine c6 (fun A Z=> ∃ (G:Bool),(G=decide (kind=1∧s.length=1∧eA (s.getD 0 0)=true))∧(Wk w Z)∧(A 0=U kind)∧(A 1=str s)∧(A 7= .bool G)) ?_ ?_
 refine rg rfl (ab (U kind) (p (ba rfl rfl) (p mv (gs (t:=10) rfl (fun hg10=> ?_) (fun hg10=> ?_)))))
 refine pg rfl rfl rfl (ao (str s) rfl) (pg rfl rfl rfl (bR u9 rfl rfl) (pg rfl rfl rfl (ba rfl rfl) (p (bl rfl) (p mv (gs (t:=15) rfl (fun aq=> ?_) (fun aq=> ?_))))))
 refine pg rfl rfl rfl (ao (str s) rfl) (pg rfl rfl rfl (gl 0 u9 rfl rfl (by omega)) (eg rfl rfl rfl (cl oN (qw (s.getD 0 0) _) rfl fun aE w18 aj=> ?_)))
 obtain ⟨rfl,ah⟩:=aj
 exact p (bl rfl) (ae (((⟨eA (s.getD 0 0),((by rw [Bool.eq_iff_iff,decide_eq_true_iff]; exact ⟨fun h=>⟨by omega,by omega,h⟩,fun h=>h.2.2⟩)),ah,rfl,rfl,rfl⟩))))
 exact sk rfl rfl rfl rfl (sk rfl rfl rfl rfl (sk rfl rfl rfl rfl (p (a7 rfl) (ae (((⟨false,((decide_eq_false (fun h=>by omega)).symm),(Md.refl _ _),rfl,rfl,rfl⟩)))))))
 refine sk rfl rfl rfl rfl (sk rfl rfl rfl rfl (sk rfl rfl rfl rfl (p (a7 rfl) (p mv (sk rfl rfl rfl rfl (sk rfl rfl rfl rfl (sk rfl rfl rfl rfl ?_)))))))
 exact p (a7 rfl) (ae (((⟨false,((decide_eq_false (fun h=>by omega)).symm),(Md.refl _ _),rfl,rfl,rfl⟩))))
 rintro A Z ⟨G,Y,c,aw,ax,aA⟩
 refine fx 0 aw (fx 1 ax (fx 7 aA (cb rfl (fun J=> ?_) (fun J=> ?_))))
 have M:kind=1∧s.length=1∧eA (s.getD 0 0)=true :=of_decide_eq_true (Y ▸ J)
 refine aa (fun _ i=>(ab (str s) (p (gl 0 u9 rfl rfl (by omega)) (p (iK oo mL rfl (lO (by have :=UInt8.toNat_lt (s.getD 0 0); omega))) (ae (((i _ _ ?_))))))))
 exact rt (br (tr (f1 rfl rfl (⟨by rw [By M]; rfl,c⟩))))
 have M:¬(kind=1∧s.length=1∧eA (s.getD 0 0)=true):=of_decide_eq_false (Y ▸ J)
 refine c6 (fun C j=> ∃ (I:Bool),(I=decide (kind=2∧s.length=2∧eA (s.getD 0 0)=true∧eA (s.getD 1 0)=true))∧(Wk w j)∧(C 0=U kind)∧(C 1=str s)∧(C 23= .bool I)) ?_ ?_
 refine rg rfl (ab (U kind) (p (ba rfl rfl) (p mv (gs (t:=26) rfl (fun ar=> ?_) (fun ar=> ?_)))))
 refine pg rfl rfl rfl (ao (str s) rfl) (pg rfl rfl rfl (bR u9 rfl rfl) (pg rfl rfl rfl (ba rfl rfl) (p (bl rfl) (p mv (gs (t:=31) rfl (fun av=> ?_) (fun av=> ?_))))))
 refine pg rfl rfl rfl (ao (str s) rfl) (pg rfl rfl rfl (gl 0 u9 rfl rfl (by omega)) (eg rfl rfl rfl (cl oN (qw (s.getD 0 0) _) rfl fun aF aI al=> ?_)))
 obtain ⟨rfl,V⟩:=al
 refine p (bl rfl) (p mv (gb (t:=36) rfl (fun q=> ?_) (fun q=> ?_)))
 refine pg rfl rfl rfl (ao (str s) rfl) (pg rfl rfl rfl (gl 1 u9 rfl rfl (by omega)) (eg rfl rfl rfl (cl oN (qw (s.getD 1 0) _) rfl fun aG w39 am=> ?_)))
 obtain ⟨rfl,hE39⟩:=am
 exact p (bl rfl) (ae (((⟨eA (s.getD 1 0),((by rw [Bool.eq_iff_iff,decide_eq_true_iff]; exact ⟨fun h=>⟨by omega,by omega,q,h⟩,fun h=>h.2.2.2⟩)),(Md.trans c (Md.trans V hE39)),rfl,rfl,rfl⟩))))
 exact sk rfl rfl rfl rfl (sk rfl rfl rfl rfl (sk rfl rfl rfl rfl (p (a7 rfl) (ae (((⟨false,((decide_eq_false (fun h=>by rw [h.2.2.1] at q; cases q)).symm),(Md.trans c V),rfl,rfl,rfl⟩)))))))
 refine sk rfl rfl rfl rfl (sk rfl rfl rfl rfl (sk rfl rfl rfl rfl (p (a7 rfl) (p mv (sk rfl rfl rfl rfl (sk rfl rfl rfl rfl (sk rfl rfl rfl rfl ?_)))))))
 exact p (a7 rfl) (ae (((⟨false,((decide_eq_false (fun h=>by omega)).symm),c,rfl,rfl,rfl⟩))))
 refine sk rfl rfl rfl rfl (sk rfl rfl rfl rfl (sk rfl rfl rfl rfl (p (a7 rfl) (p mv (sk rfl rfl rfl rfl (sk rfl rfl rfl rfl (sk rfl rfl rfl rfl ?_)))))))
 refine p (a7 rfl) (p mv (sk rfl rfl rfl rfl (sk rfl rfl rfl rfl (sk rfl rfl rfl rfl (p (a7 rfl) (p ak (nl ?_)))))))
 exact tn (⟨false,((decide_eq_false (fun h=>by omega)).symm),c,rfl,rfl,rfl⟩)
 rintro C j ⟨I,hb2,c,aB,aC,aD⟩
 refine fx 0 aB (fx 1 aC (fx 23 aD (cb rfl (fun hc23=> ?_) (fun hc23=> ?_))))
 have O:kind=2∧s.length=2∧eA (s.getD 0 0)=true∧eA (s.getD 1 0)=true :=of_decide_eq_true (hb2 ▸ hc23)
 have g0:=UInt8.toNat_lt (s.getD 0 0)
 have g1:=UInt8.toNat_lt (s.getD 1 0)
 refine sq (fun _ i=> ?_)
 have a:(fun w'=>Wk j w') j.drew:=(Md.refl _ _).drew
 refine bF (fun w'=>Wk j w') rfl wide a (bp 0 rfl (str s) a (aQ 1 rfl (fun _ _=>gl 0 u9 rfl rfl (by omega)) a (aQ 2 rfl (fun _ _=>iK oo mL rfl (lO (by omega))) a (aQ 3 rfl (fun _ _=>shl rfl rfl (by decide) (Fp g0)) a (bp 4 rfl (str s) a (aQ 5 rfl (fun _ _=>gl 1 u9 rfl rfl (by omega)) a (aQ 6 rfl (fun _ _=>iK oo mL rfl (lO (by omega))) a ?_)))))))
 refine aQ 7 rfl (fun _ _=>rv rfl rfl (Ee g0 g1)) a (aQ 8 rfl (fun _ _=>ak) a (hn (by kernel_rfl) (tn (i _ _ (rt (br (tr (f1 rfl rfl ?_))))))))
 exact ⟨by rw [Bz O]; rfl,c.drew⟩
 have O:¬(kind=2∧s.length=2∧eA (s.getD 0 0)=true∧eA (s.getD 1 0)=true):=of_decide_eq_false (hb2 ▸ hc23)
 refine aa (fun _ i=>(ab (U kind) (p (ba rfl rfl) (ae (((i _ _ (cd rfl (fun ap=> ?_) (fun ap=> ?_)))))))))
 refine aa (fun _ E=>(ab (str s) (e (cl ng (nV s 65535 _ hs (by decide)) rfl fun aH aJ an=> ?_))))
 obtain ⟨rfl,ai⟩:=an
 have hn5:=DY s
 refine p mv (p (xt rfl rfl) (p (xt rfl rfl) (p ak (ae (((E _ _ (sq (fun _ ag=> ?_)))))))))
 refine rg rfl (p mv (p (iK oo lJ rfl (lO (by omega))) (ae (((ag _ _ (rt (br ?_))))))))
 exact tr (f1 rfl rfl (⟨by rw [BA (by omega)]; rfl,Md.trans c ai⟩))
 refine az (bn (tn (ad _ _ (aa (fun _ E=>(ae (((E _ _ ?_)))))))))
 exact rt (f1 rfl rfl (⟨by rw [Bx (by omega) M O]; rfl,c⟩))
theorem Eb (kind:Nat) (s:List UInt8) (w:World) (hk:kind=1∨kind=2∨kind=3) (hs:s.length≤1048576):
 aK Tryz.prog 114 (List.toArray [U kind,str s]) w (fun v w'=>v= .tuple #[ay (eG kind s).1,U ((eG kind s).2)]∧Wk w w'):=by
 refine enter Tryz.func114 rfl Tryz.ntmps114 rfl ?_
 refine aa (fun _ i=>(p ak (ae (((i _ _ (sq (fun _ j=>sq (fun _ q=> ?_)))))))))
 refine rg rfl (ab (U kind) (e (cl rH (uc kind _) rfl fun J w8 hR8=> ?_)))
 obtain ⟨rfl,c⟩:=hR8
 refine p (no rfl) (ag ((q _ _ (cf ((by rw [decide_eq_true (by omega)]; rfl)) (az (tn (j _ _ (aa (fun _ A=> ?_)))))))))
 refine ab (U kind) (ab (str s) (e (cl rI (s9 kind s _ hk hs) rfl fun di w12 G=> ?_)))
 obtain ⟨rfl,hE12⟩:=G
 refine ae (((A _ _ (sq (fun _ C=>aa (fun _ E=>(p mv (p (ba rfl rfl) ?_))))))))
 refine ag ((E _ _ (cd rfl (fun I=> ?_) (fun I=> ?_))))
 refine aa (fun _ a=>(p ak (ae (((a _ _ (rt (tr ?_))))))))
 exact f2 rfl rfl rfl (⟨by unfold eG; rw [if_pos (show cY kind s=0 by omega)]; rfl,Md.trans c hE12⟩)
 refine az (tn (C _ _ (aa (fun _ a=>(p mv (p ak (p ak (nl ?_))))))))
 exact tn (a _ _ (rt (f2 rfl rfl rfl (⟨by unfold eG; rw [if_neg (show ¬cY kind s=0 by omega)]; rfl,Md.trans c hE12⟩))))
theorem zT (s:List UInt8) (c:UInt8) (w:World):
 aK Tryz.prog 172 (List.toArray [str s,str [c]]) w (fun v w'=>v=U (s.count c)∧Wk w w'):=by
 refine enter Tryz.func172 rfl Tryz.ntmps172 rfl ?_
 refine aa (fun _ a=>(ae (((a _ _ (sq (fun _ i=>aa (fun _ j=> ?_))))))))
 refine ab (str [c]) (p (bR u9 rfl rfl) (p (ba rfl rfl) (ag ((j _ _ (cd rfl (fun h=>absurd h (by simp)) (fun G=> ?_)))))))
 refine az (tn (i _ _ (sq (fun _ C=>aa (fun _ q=>(ab (str [c]) (p (bR u9 rfl rfl) (p (ba rfl rfl) ?_))))))))
 refine ag ((q _ _ (cd rfl (fun E=> ?_) (fun h=>absurd rfl h))))
 refine aa (fun _ A=>(ab (str s) (ab (str [c]) (p (gl 0 u9 rfl rfl (by simp)) (p (si (zJ s c _) rfl) (p ak (nl ?_)))))))
 exact tn (A _ _ (rt (tr (f1 rfl rfl (⟨rfl,Md.refl _ _⟩)))))
theorem B2 (s:List UInt8) (w:World) (hs:s.length≤1048576):
 aK Tryz.prog 148 (List.toArray [str s,str [44],.int .i64 0,.int .i64 (-1)]) w (fun v w'=>World.ownsRow w' w.heap.size 9 1 (v) ((ea 44 [] s)).length (((ea 44 [] s)).map str)∧Wk w w'):=by
 have hcl:=List.count_le_length (a:=(44:UInt8)) (l:=s)
 have hsc:=qB 44 s []
 refine enter Tryz.func148 rfl Tryz.ntmps148 rfl ?_
 refine aa (fun _ Z=>(ae (((Z _ _ (sq (fun _ ap=>aa (fun _ aq=> ?_))))))))
 refine ab (.int .i64 (-1)) (p (ba rfl rfl) (ag ((aq _ _ (cd rfl (fun h=>absurd h (by decide)) (fun aW=> ?_))))))
 refine az (tn (ap _ _ (sq (fun _ ar=>aa (fun _ av=>(ab (str [44]) (p (e5 rfl rfl) (nl ?_))))))))
 refine tn (av _ _ (cd rfl (fun h=>absurd h (by simp)) (fun aX=> ?_)))
 refine az (tn (ar _ _ (sq (fun _ aw=>aa (fun _ ax=>(ab (.int .i64 (-1)) (p (lt rfl rfl) (nl ?_))))))))
 refine tn (ax _ _ (cd rfl (fun aY=> ?_) (fun h=>absurd (by decide) h)))
 refine rg rfl (ab (str s) (ab (str [44]) (e (cl yv (zT s 44 _) rfl fun aZ a1 aI=> ?_))))
 obtain ⟨rfl,V⟩:=aI
 refine p (a8 ((s.count 44 +1:Nat):Int) rfl rfl (aH (by omega) (by omega))) (ae (((aw _ _ (aa (fun _ ay=>(p mv (ab (str s) ?_))))))))
 refine p (bR u9 rfl rfl) (p (a8 ((s.length+1:Nat):Int) rfl rfl (aH (by omega) (by omega))) (p (mn rfl rfl) (ae (((ay _ _ (aa (fun _ aB=> ?_))))))))
 refine p mv (e (DN (n:=s.count 44 +1) (zv:=str []) fc GO rfl (show Value.int .i64 (min ((s.count 44 +1:Nat):Int) ((s.length+1:Nat):Int))=_ from iv (by omega)) (show Value.int .i64 (min ((s.count 44 +1:Nat):Int) ((s.length+1:Nat):Int))=_ from iv (by omega)) (by omega) (by unfold maxLen; omega) fun C w31 aV aF ho31=> ?_))
 have hO31:=ho31 w.heap.size (by have :=V.size; omega)
 rw [EV] at hO31
 refine ae (((aB _ _ (aa (fun _ ac=>(p mv (p (bI ((s.count 44:Nat):Int) rfl rfl (aH (by omega) (by omega))) (p ak ?_))))))))
 refine ag ((ac _ _ (aa (fun _ ad=>(ae (((ad _ _ (sq (fun _ ah=> ?_))))))))))
 refine au (lp (fun M q J=> ∃ (i:Nat) (dn:List (List UInt8)) (r:List UInt8),(dn.length=i)∧(r.count 44 +i=s.count 44∧r.length≤s.length)∧(dn++ea 44 [] r=ea 44 [] s)∧(World.ownsRow J w.heap.size 9 1 (.slice (some ⟨C,0,none⟩) (s.count 44 +1) (s.count 44 +1)) (s.count 44 +1) ((dn++List.replicate (s.count 44 +1 - i) []).map str))∧(Wk w J)∧(q 0=str r)∧(q 1=str [44])∧(q 2= .int .i64 0)∧(q 3=U (s.count 44))∧(q 9= .slice (some ⟨C,0,none⟩) (s.count 44 +1) (s.count 44 +1))∧(q 10=U i)∧(r.length=M)) _ ⟨0,[],s,rfl,((by omega)),rfl,hO31,(Md.trans V aF.md),rfl,rfl,rfl,rfl,rfl,rfl,rfl⟩ ?_)
 rintro M q J ⟨i,dn,r,hi,hr,hd,A,O,aP,aQ,aS,aT,aU,aR,rfl⟩
 refine fx 0 aP (fx 1 aQ (fx 2 aS (fx 3 aT (fx 9 aU (fx 10 aR ?_)))))
 have hrl:=List.count_le_length (a:=(44:UInt8)) (l:=r)
 refine sq (fun _ ai=>aa (fun _ al=>(ab (U i) (ab (U (s.count 44)) (p (lt rfl rfl) (ag ((al _ _ ?_))))))))
 refine cd rfl (fun aL=> ?_) (fun aL=> ?_)
 refine az (tn (ai _ _ (au (aa (fun _ E=>(ab (str r) (ab (str [44]) (e (cl yw (CB r 44 _) rfl fun a0 w39 aJ=> ?_)))))))))
 obtain ⟨rfl,hE39⟩:=aJ
 refine ae (((E _ _ (sq (fun _ G=>aa (fun _ am=>(p mv (p (lt rfl rfl) ?_))))))))
 refine ag ((am _ _ (cd rfl (fun h=>absurd h (CN (by omega))) (fun aM=> ?_))))
 refine az (tn (G _ _ (sq (fun _ an=> ?_))))
 have hix:=lr (c:=(44:UInt8)) (l:=r) aM
 have hl1:[(44:UInt8)].length=1:=rfl
 refine rg rfl (ab (.slice (some ⟨C,0,none⟩) (s.count 44 +1) (s.count 44 +1)) (ab (U i) (ab (str r) (p mv (ab (.int .i64 0) (p (a8 ((r.idxOf 44:Nat):Int) rfl rfl (aH (by omega) (by omega))) (p (n6 u9 rfl rfl (by omega)) ?_)))))))
 refine p (aG bU rfl rfl (by omega) (aj.ok ((aA (aE A hE39)).2) (bN (by rw [List.length_append,List.length_replicate]; omega)))) (e (lD (j:=i) (u:=str (r.take (r.idxOf 44))) (aE A hE39) ku rfl rfl rfl (by omega) (by omega) fun w14 aC Y=> ?_))
 have hE14:Wk w w14:=Wk.own (Md.trans O hE39) (aE A hE39) aC (Nat.le_refl _)
 rw [← hi,vu (by omega),hi] at Y
 refine ag ((an _ _ (aa (fun _ ao=>(ab (str r) (p mv (ab (str [44]) (p (bR u9 rfl rfl) ?_))))))))
 refine p (a8 ((r.idxOf 44 +1:Nat):Int) rfl rfl (aH (by omega) (by omega))) (p (jD u9 rfl rfl (by omega)) (ae (((ao _ _ (rg rfl (ab (U i) (p (a8 ((i+1:Nat):Int) rfl rfl (aH (by omega) (by omega))) ?_))))))))
 exact p ak (nl (bn (tn (⟨_,by rw [List.length_drop]; omega,i+1,dn++ [r.take (r.idxOf 44)],r.drop (r.idxOf 44 +1),((by rw [List.length_append,hi]; rfl)),((by have :=z7 hix.2; rw [List.length_drop]; omega)),((by rw [List.append_assoc,← hd,vB 44 r [] hix.2]; rfl)),((by rw [show s.count 44 +1 - (i+1)=s.count 44 +1 - i - 1 by omega]; exact Y)),hE14,rfl,rfl,rfl,rfl,rfl,rfl,rfl⟩))))
 refine ext (te _ (te _ (be (tn (ah _ _ (aa (fun _ E=>(ab (.slice (some ⟨C,0,none⟩) (s.count 44 +1) (s.count 44 +1)) ?_))))))))
 refine ab (U i) (ab (str r) (p (aG bU rfl rfl (by omega) (aj.ok ((aA A).2) (bN (by rw [List.length_append,List.length_replicate]; omega)))) (e (lD (j:=i) (u:=str r) A ku rfl rfl rfl (by omega) (by omega) fun w17 aD I=> ?_))))
 have hE17:Wk w w17:=Wk.own O A aD (Nat.le_refl _)
 rw [← hi,vu (by omega),hi] at I
 refine ag ((E _ _ (aa (fun _ G=>(ab (.slice (some ⟨C,0,none⟩) (s.count 44 +1) (s.count 44 +1)) (ab (U i) (p (a8 ((i+1:Nat):Int) rfl rfl (aH (by omega) (by omega))) (p (kI bU rfl rfl (by omega)) ?_))))))))
 refine ae (((G _ _ (rt (f1 rfl rfl ?_)))))
 have aO:¬(44:UInt8)∈r:=fun h=>by have :=List.count_pos_iff.2 h; omega
 have aN:dn++ [r]=ea 44 [] s:=by rw [← hd,FJ 44 r [] aO]; rfl
 rw [show s.count 44 +1 - i - 1=0 by omega,List.replicate_zero,List.append_nil,aN] at I
 exact ⟨by rw [hsc,show s.count 44 +1=i+1 by omega] at*; exact I,hE17⟩
theorem FR (s:List UInt8) (w:World) (hs:s.length≤1048576):
 aK Tryz.prog 132 (List.toArray [str s,str [44]]) w (fun v w'=>World.ownsRow w' w.heap.size 9 1 (v) ((ea 44 [] s)).length (((ea 44 [] s)).map str)∧Wk w w'):=by
 refine enter Tryz.func132 rfl Tryz.ntmps132 rfl ?_
 refine aa (fun _ a=>(ae (((a _ _ (aa (fun _ c=>(ab (str s) ?_))))))))
 exact ab (str [44]) (e (cl yd (B2 s _ hs) rfl fun i w7 hR7=>ae (((c _ _ (rt (f1 rfl rfl (hR7))))))))
theorem EA (kind:Nat) (s:List UInt8) (w:World) (hk:kind=1∨kind=2∨kind=3) (hs:s.length≤1048576):
 aK Tryz.prog 118 (List.toArray [U kind,str s]) w (fun v w'=>World.ownsRow w' w.heap.size 9 1 (v) ((cO kind s)).length (((cO kind s)).map str)∧Wk w w'):=by
 refine enter Tryz.func118 rfl Tryz.ntmps118 rfl ?_
 refine aa (fun _ M=>(ae (((M _ _ (sq (fun _ O=>aa (fun _ V=> ?_))))))))
 refine ab (U kind) (p (ba rfl rfl) (ag ((V _ _ (cd rfl (fun hc8=> ?_) (fun hc8=> ?_))))))
 refine aa (fun _ j=>(ab (str s) (e (cl ya (FR s _ hs) rfl fun v10 w10 hR10=>ae (((j _ _ (rt ?_))))))))
 refine tr (f1 rfl rfl ?_)
 unfold cO; rw [if_pos (by omega)]; exact hR10
 refine az (tn (O _ _ (aa (fun _ j=>(ae (((j _ _ (sq (fun _ Y=> ?_))))))))))
 refine aa (fun _ Z=>(ae (((Z _ _ (au (lp (fun E c wI=> ∃ (i:Nat) (dn:List (List UInt8)) (a:Value),(i≤s.length+kind∧dn.length≤i)∧(dn++chunks kind (s.drop i)=chunks kind s)∧(World.ownsRow wI w.heap.size 9 1 (a) (dn).length ((dn).map str))∧(Wk w wI)∧(c 0=U kind)∧(c 1=str s)∧(c 5=a)∧(c 6=U i)∧(s.length - i=E)) _ ⟨0,[],.slice none 0 0,((by simp)),rfl,(World.ownsRow_nil _ _ _ _),(Md.refl _ _),rfl,rfl,rfl,rfl,rfl⟩ ?_)))))))
 rintro E c wI ⟨i,dn,a,hi,hd,C,G,an,ao,aq,ar,rfl⟩
 refine fx 0 an (fx 1 ao (fx 5 aq (fx 6 ar (sq (fun _ ac=>aa (fun _ ad=>(ab (U i) (ab (str s) (p (bR u9 rfl rfl) (p (lt rfl rfl) ?_))))))))))
 refine ag ((ad _ _ (cd rfl (fun al=> ?_) (fun al=> ?_))))
 have hne:s.drop i≠[]:=fun h=>by have :=congrArg List.length h; rw [List.length_drop,List.length_nil] at this; omega
 refine az (tn (ac _ _ (sq (fun _ q=>au (rg rfl (ab (a) (ab (str s) (ab (U i) ?_))))))))
 refine ab (U i) (ab (U kind) (p (a8 ((i+kind:Nat):Int) rfl rfl (aH (by omega) (by omega))) (ab (str s) (p (bR u9 rfl rfl) (p (mn rfl rfl) (p (mE u9 rfl rfl rfl (by omega)) (e (gh fc rfl rfl fun aw w28 hb28 A ah=> ?_))))))))
 have I:Wk w w28:=Md.trans G A.md
 refine e (ap fc (aE C A.md) rfl (by have :=I.size; omega) rfl (aj.dZ ah) (rfl) (rfl) (by omega) (by omega) fun av w29 J ai hz29 ax=> ?_)
 have hE29:=Wk.own I (aE C A.md) ai (Nat.le_refl _)
 rw [za] at J
 have ho29x:=mr J
 refine p ak (nl (bn (tn (q _ _ (rg rfl (ab (U i) (ab (U kind) (p (a8 ((i+kind:Nat):Int) rfl rfl (aH (by omega) (by omega))) ?_))))))))
 exact ae (((⟨_,by omega,i+kind,dn++ [(s.drop i).take kind],av,((by rw [List.length_append,List.length_singleton]; omega)),((by rw [← hd,oY (k:=kind) (by omega) hne,List.append_assoc,List.drop_drop]; rfl)),ho29x,hE29,rfl,rfl,rfl,rfl,rfl⟩)))
 refine ext (te _ (te _ (be (tn (Y _ _ (aa (fun _ q=>(ab (a) ?_))))))))
 refine p (bA (a) rfl) (ag ((q _ _ (rt (f1 rfl rfl ?_)))))
 have am:dn=cO kind s:=by unfold cO; rw [if_neg (by omega),← hd,List.drop_eq_nil_of_le (by omega),oZ,List.append_nil]
 exact ⟨by rw [← am]; exact C,G⟩
theorem tB (kind:Nat) (s:List UInt8) (w:World) (hk:kind=1∨kind=2∨kind=3) (hs:s.length≤1048576):
 aK Tryz.prog 101 (List.toArray [U kind,str s]) w (fun v w'=>(∃ a,v= .tuple #[a,U ((dm kind s).2)]∧World.ownsRow w' w.heap.size 71 1 a (dm kind s).1.length ((dm kind s).1.map ay))∧Wk w w'):=by
 refine enter Tryz.func101 rfl Tryz.ntmps101 rfl ?_
 refine aa (fun _ ar=>(p ak (ae (((ar _ _ (sq (fun _ aC=>sq (fun _ aD=> ?_)))))))))
 refine rg rfl (ab (U kind) (e (cl rH (uc kind _) rfl fun v11 w11 hR11=> ?_)))
 obtain ⟨rfl,ai⟩:=hR11
 refine p (no rfl) (ag ((aD _ _ (cf ((by rw [decide_eq_true (by omega)]; rfl)) (az (tn (aC _ _ (sq (fun _ aF=>sq (fun _ aH=> ?_))))))))))
 refine rg rfl (ab (str s) (p (e5 rfl rfl) (ag ((aH _ _ (cd rfl (fun q=> ?_) (fun q=> ?_)))))))
 refine aa (fun _ V=>(p ak (ae (((V _ _ (rt (tr ?_))))))))
 exact f2 rfl rfl rfl (⟨⟨.slice none 0 0,by unfold dm; rw [if_pos q]; rfl,by unfold dm; rw [if_pos q]; exact World.ownsRow_nil _ _ _ _⟩,ai⟩)
 refine az (tn (aF _ _ (aa (fun _ V=>(ae (((V _ _ (sq (fun _ aI=> ?_))))))))))
 refine aa (fun _ aJ=>(ab (U kind) (ab (str s) (e (cl x4 (EA kind s _ hk hs) rfl fun a9 w17 aR=> ?_)))))
 obtain ⟨am,hE17⟩:=aR
 obtain ⟨aM,aN,rfl⟩:=db am
 have hS17:=(aA am).2
 have hpl:=Ey (kind:=kind) (s:=s) (by omega)
 have I:Wk w w17:=Md.trans ai hE17
 refine p (bm dI rfl rfl) (p mv (ag ((aJ _ _ (au (lp (fun ah j wI=> ∃ (i:Nat) (G:Value),(i≤(cO kind s).length)∧(¬∃ x∈(cO kind s).take i,cY kind x=0)∧(World.ownsRow wI w17.heap.size 71 1 G (((cO kind s).take i).map (cY kind)).length ((((cO kind s).take i).map (cY kind)).map ay))∧(Wk w17 wI)∧(j 0=U kind)∧(j 1=str s)∧(j 6=G)∧(j 17= .slice aM (cO kind s).length aN)∧(j 18=U ((cO kind s).length))∧(j 19=U i)∧((cO kind s).length - i=ah)) _ ⟨0,.slice none 0 0,(by omega),((by rintro ⟨x,a3,_⟩; simp at a3)),(World.ownsRow_nil _ _ _ _),(Md.refl _ _),rfl,rfl,rfl,rfl,rfl,rfl,rfl⟩ ?_))))))
 rintro ah j wI ⟨i,G,hi,hne,C,c,aX,aY,a2,aZ,a0,a1,rfl⟩
 refine fx 0 aX (fx 1 aY (fx 6 a2 (fx 17 aZ (fx 18 a0 (fx 19 a1 ?_)))))
 have hfl:(((cO kind s).take i).map (cY kind)).length≤i:=by rw [List.length_map,List.length_take]; omega
 refine aa (fun _ aL=>(p (lt rfl rfl) (ag ((aL _ _ (sq (fun _ av=>cd rfl (fun aU=> ?_) (fun aU=> ?_))))))))
 refine az (tn (av _ _ (sq (fun _ M=>au (aa (fun _ O=>(p (aG bU rfl rfl (by omega) (aj.ok (hS17.wk c) (bN (by omega)))) (p (ld bY rfl (bB.get (i:=i) (hS17.wk c) (by omega))) ?_))))))))
 refine ae (((O _ _ (aa (fun _ A=>(ab (U kind) (p mv (e (cl rI (s9 kind ((cO kind s).getD i []) _ hk (by have :=Ez (kind:=kind) (by omega) (tF (d:= []) (show i < (cO kind s).length by omega)); omega)) rfl fun bb w25 aS=> ?_)))))))))
 obtain ⟨rfl,hE25⟩:=aS
 refine ae (((A _ _ (sq (fun _ aw=>aa (fun _ ax=>(p mv (p (ba rfl rfl) ?_))))))))
 refine ag ((ax _ _ (cd rfl (fun aV=> ?_) (fun aV=> ?_))))
 refine aa (fun _ aB=>(p ak (ae (((aB _ _ (rt (tr ?_))))))))
 refine br (tr (tr (br (tr (f2 rfl rfl rfl ?_)))))
 have hz:dm kind s=([],31):=by unfold dm; rw [if_neg q,if_pos ⟨_,tF (d:= []) (show i < (cO kind s).length by omega),by omega⟩]
 exact ⟨⟨.slice none 0 0,by rw [hz]; rfl,by rw [hz]; exact World.ownsRow_nil _ _ _ _⟩,Md.trans I (Md.trans c hE25)⟩
 refine az (tn (aw _ _ (rg rfl (ab (G) (p mv (e (gh n9 rfl rfl fun a6 w30 a7 Z aO=> ?_)))))))
 have al:Wk w17 w30:=Md.trans (Md.trans c hE25) Z.md
 refine e (ap n9 (aE (aE C hE25) Z.md) rfl (by have :=al.size; omega) rfl (aj.dZ aO) (rfl) (rfl) (by omega) (by omega) fun aq w31 ho31 aQ hz31 a8=> ?_)
 have hE31:=Wk.own al (aE (aE C hE25) Z.md) aQ (Nat.le_refl _)
 have aW:World.ownsRow w31 w17.heap.size 71 1 aq (((cO kind s).take (i+1)).map (cY kind)).length ((((cO kind s).take (i+1)).map (cY kind)).map ay):=by
  rw [g3 _ i [] (by omega),List.map_append,List.length_append,List.map_append]; exact ho31
 refine p ak (nl (bn (tn (M _ _ (rg rfl (p (ad rfl rfl (bw (by omega))) (p mv (nl ?_))))))))
 exact tn (⟨_,by omega,i+1,aq,(by omega),(A7 (by omega) hne (by omega)),aW,hE31,rfl,rfl,rfl,rfl,rfl,rfl,rfl⟩)
 refine ext (te _ (te _ (be (tn (aI _ _ (sq (fun _ M=>sq (fun _ O=> ?_))))))))
 obtain ⟨E,Y,rfl⟩:=db C
 have htl:(((cO kind s).take i).map (cY kind)).length=(cO kind s).length:=by rw [List.length_map,List.length_take]; omega
 have J:(cO kind s).take i=(cO kind s):=List.take_of_length_le (by omega)
 have hnl:E=none→(((cO kind s).take i).map (cY kind)).length=0:=fun h=>by obtain ⟨a5,c2,ao,_,_,h3⟩:=Rd.fU C; simp only [Value.slice.injEq] at ao; exact h3 (ao.1 ▸ h)
 refine rg rfl (ab (.slice E (((cO kind s).take i).map (cY kind)).length Y) (p (bm iZ rfl rfl) (p (gt rfl rfl) (ag ((O _ _ (cd rfl (fun ac=> ?_) (fun ac=> ?_))))))))
 refine aa (fun _ A=>(p ak (ae (((A _ _ (rt (tr ?_))))))))
 refine f2 rfl rfl rfl ?_
 rw [J] at hne htl
 have hz:dm kind s=([],32):=by unfold dm; rw [if_neg q,if_neg hne,if_pos (by rw [J,List.length_map] at ac; omega)]
 exact ⟨⟨.slice none 0 0,by rw [hz]; rfl,by rw [hz]; exact World.ownsRow_nil _ _ _ _⟩,Md.trans I c⟩
 refine az (tn (M _ _ (aa (fun _ A=>(ab (.slice E (((cO kind s).take i).map (cY kind)).length Y) (e (cl rF (uO (((cO kind s).take i).map (cY kind)) E Y _ (aA C).2 hnl (by rw [List.length_map,List.length_take] at*; omega)) rfl fun a4 w37 aT=> ?_)))))))
 obtain ⟨an,aP⟩:=aT
 refine p ak (ae (((A _ _ (rt (f2 rfl rfl rfl ?_))))))
 rw [J] at hne an
 have hz:dm kind s=(fT ((cO kind s).map (cY kind)),0):=by unfold dm; rw [if_neg q,if_neg hne,if_neg (by rw [J,List.length_map] at ac; omega)]
 exact ⟨⟨a4,by rw [hz]; rfl,by rw [hz]; exact fV an (by have :=I.size; have :=c.size; omega)⟩,Md.trans I (Md.trans c aP)⟩
end Go.Hb.ke
end
section
set_option maxRecDepth 20000
set_option maxHeartbeats 1000000
namespace Go.Hb.fZ
open Go.Hb.cG
open Go.Proofs
theorem D3 {b:UInt8} (h:¬(b.toNat:Int)=10):b≠10:=by rintro rfl; exact h rfl
theorem CK {b:UInt8} (h:(b.toNat:Int)=10):b=10:=UInt8.toNat_inj.1 (by have :(10:UInt8).toNat=10:=rfl; omega)
theorem CL {b:UInt8} (h:(b.toNat:Int)=13):b=13:=UInt8.toNat_inj.1 (by have :(13:UInt8).toNat=13:=rfl; omega)
theorem D4 {b:UInt8} (h:¬(b.toNat:Int)=13):b≠13:=by rintro rfl; exact h rfl
theorem pM (b:UInt8) (w:World):
 aK Tryz.prog 92 (List.toArray [.int .u8 b.toNat]) w (fun v w'=>v= .bool (kz b)∧Wk w w'):=by
 refine enter Tryz.func92 rfl Tryz.ntmps92 rfl ?_
 refine aa (fun _ c=>(ae (((c _ _ (aa (fun _ a=>(ab (.int .u8 b.toNat) ?_))))))))
 refine p (ba rfl rfl) (p mv (gs (t:=5) rfl (fun hg5=> ?_) (fun hg5=> ?_)))
 refine sk rfl rfl rfl rfl (sk rfl rfl rfl rfl (p (bl rfl) (ae (((a _ _ (rt (f1 rfl rfl ?_))))))))
 exact ⟨by show Value.bool true =_; rw [tD,decide_eq_true (.inl (by omega))],Md.refl _ _⟩
 refine pg rfl rfl rfl (ao (.int .u8 b.toNat) rfl) (pg rfl rfl rfl (ba rfl rfl) (p (a7 rfl) (ae (((a _ _ (rt (f1 rfl rfl ?_))))))))
 exact ⟨by show Value.bool (decide ((b.toNat:Int)=9))=_; rw [tD]; exact congrArg Value.bool (decide_eq_decide.2 (by omega)),Md.refl _ _⟩
theorem Bc (l:List UInt8) (w:World) (hl:l.length≤1048576):
 aK Tryz.prog 57 (List.toArray [str l]) w (fun v w'=>World.ownsRow w' w.heap.size 9 1 v ((bQ [] l)).length (((bQ [] l)).map str)∧Wk w w'):=by
 refine enter Tryz.func57 rfl Tryz.ntmps57 rfl ?_
 refine aa (fun _ al=>(ae (((al _ _ (aa (fun _ am=>(p ak ?_))))))))
 refine ag ((am _ _ (aa (fun _ an=>(ae (((an _ _ (sq (fun _ aq=> ?_))))))))))
 refine aa (fun _ ar=>(ab (str l) (p (bR u9 rfl rfl) (p mv (ag ((ar _ _ (au ?_))))))))
 refine lp (fun ah E w1=> ∃ (i:Nat) (a:Int) (G:List UInt8) (dn:List (List UInt8)) (v:Value),(i≤l.length)∧(fF l i a G)∧(dn++bQ G (l.drop i)=(bQ [] l))∧(Wk w w1)∧(World.ownsRow w1 w.heap.size 9 1 v (dn).length ((dn).map str))∧(E 0=str l)∧(E 3=v)∧(E 4= .int .i64 a)∧(E 7= .int .i64 l.length)∧(E 8= .int .i64 i)∧(l.length - i=ah)) _ ⟨0,-1,[],[],.slice none 0 0,(by omega),fF.no,rfl,(Md.refl _ _),(World.ownsRow_nil _ _ _ _),rfl,rfl,rfl,rfl,rfl,rfl⟩ ?_
 rintro ah E w1 ⟨i,a,G,dn,v,hi,A,hd,I,O,aI,aJ,aL,aM,aN,rfl⟩
 refine fx 0 aI (fx 3 aJ (fx 4 aL (fx 7 aM (fx 8 aN ?_))))
 have aV:dn.length≤l.length+1:=by have h1:=congrArg List.length hd; have h2:=pD l []; rw [List.length_append] at h1; omega
 refine aa (fun _ av=>(p (lt rfl rfl) (ag ((av _ _ (sq (fun _ aw=>cd rfl (fun aF=> ?_) (fun aF=> ?_))))))))
 refine az (tn (aw _ _ (sq (fun _ c=>au (aa (fun _ U=>(ab (.int .i64 i) (p (bA (.int .i64 i) rfl) ?_))))))))
 refine ag ((U _ _ (au (aa (fun _ C=>(ab (str l) (ab (.int .i64 i) (p (fp u9 rfl rfl (by omega)) ?_))))))))
 refine e (cl oU (pM (l.getD i 0) _) rfl fun a0 w15 aB=> ?_)
 obtain ⟨rfl,ai⟩:=aB
 have hE15x:Wk w w15:=Md.trans I ai
 have hsz15:=hE15x.size
 have ho15:=aE O ai
 refine p mv (gb (t:=16) rfl (fun q=> ?_) (fun q=> ?_))
 refine pg rfl rfl rfl (ao (.int .i64 a) rfl) (pg rfl rfl rfl (ge rfl rfl) (p (bl rfl) (ae (((C _ _ (cd rfl (fun aC=> ?_) (fun aC=> ?_))))))))
 obtain ⟨aQ,hp2,ac⟩:=A.pos (by omega)
 refine aa (fun _ s=>(ab (v) (ab (str l) (ab (.int .i64 a) (ab (.int .i64 i) (p (mE u9 rfl rfl rfl (by omega)) (e (gh fc rfl rfl fun aR w25 aT J ax=> ?_))))))))
 refine e (ap fc (aE ho15 J.md) rfl (by have :=J.size; omega) rfl (aj.dZ ax) (rfl) (rfl) (by omega) (by omega) fun aO w26 aG aA aY aW=> ?_)
 have hE26:=Wk.own (Md.trans hE15x J.md) (aE ho15 J.md) aA (Nat.le_refl _)
 have ho26x:=mr aG
 refine ae (((s _ _ (rg rfl (p ak (nl (bn (bn ?_))))))))
 exact tn (c _ _ (rg rfl (p (ad rfl rfl (bw (by omega))) (p mv (ag ((⟨_,by omega,i+1,-1,[],dn++ [(l.take i).drop a.toNat],aO,(by omega),fF.no,((by rw [drop_cons 0 (by omega),BI q ac,hp2] at hd; rw [List.append_assoc]; exact hd)),hE26,ho26x,rfl,rfl,rfl,rfl,rfl,rfl⟩)))))))
 refine aa (fun _ s=>(ab (str l) (ab (.int .i64 i) (p (fp u9 rfl rfl (by omega)) (e (cl oU (pM (l.getD i 0) _) rfl fun aP w31 V=> ?_))))))
 obtain ⟨rfl,hE31⟩:=V
 have hE31x:Wk w w31:=Md.trans hE15x hE31
 have ho31:=aE ho15 hE31
 refine p (no rfl) (p mv (gb (t:=33) rfl (fun j=> ?_) (fun j=> ?_)))
 refine pg rfl rfl rfl (ao (.int .i64 a) rfl) (pg rfl rfl rfl (lt rfl rfl) (p (bl rfl) (ae (((s _ _ (cd rfl (fun Y=> ?_) (fun Y=> ?_))))))))
 refine rg rfl (ab (.int .i64 i) (p (bA (.int .i64 i) rfl) (nl (bn (bn (tn (c _ _ (rg rfl ?_))))))))
 refine p (ad rfl rfl (bw (by omega))) (p mv (nl (tn ?_)))
 rw [q] at j; cases j
 refine az (bn (bn (tn (c _ _ (rg rfl (p (ad rfl rfl (bw (by omega))) (p mv (nl ?_))))))))
 refine tn ?_
 rw [q] at j; cases j
 refine sk rfl rfl rfl rfl (sk rfl rfl rfl rfl (p (a7 rfl) (ae (((s _ _ (cf rfl (az ?_))))))))
 refine bn (bn (tn (c _ _ (rg rfl (p (ad rfl rfl (bw (by omega))) (p mv (nl (tn ?_))))))))
 exact ⟨_,by omega,i+1,a,G,dn,v,(by omega),((by obtain ⟨h1,h2⟩:=A.neg (by omega); subst h1 h2; exact fF.no)),((by obtain ⟨h1,h2⟩:=A.neg (by omega); subst h2; rw [drop_cons 0 (by omega),BH q] at hd; exact hd)),hE31x,ho31,rfl,rfl,rfl,rfl,rfl,rfl⟩
 refine sk rfl rfl rfl rfl (sk rfl rfl rfl rfl (p (a7 rfl) (ae (((C _ _ (cf rfl (sq (fun _ s=> ?_)))))))))
 refine rg rfl (ab (str l) (ab (.int .i64 i) (p (fp u9 rfl rfl (by omega)) (e (cl oU (pM (l.getD i 0) _) rfl fun aP w31 V=> ?_)))))
 obtain ⟨rfl,hE31⟩:=V
 have hE31x:Wk w w31:=Md.trans hE15x hE31
 have ho31:=aE ho15 hE31
 refine p (no rfl) (p mv (gb (t:=33) rfl (fun j=> ?_) (fun j=> ?_)))
 refine pg rfl rfl rfl (ao (.int .i64 a) rfl) (pg rfl rfl rfl (lt rfl rfl) (p (bl rfl) (ae (((s _ _ (cd rfl (fun Y=> ?_) (fun Y=> ?_))))))))
 refine rg rfl (ab (.int .i64 i) (p (bA (.int .i64 i) rfl) (nl (bn (bn (tn (c _ _ (rg rfl ?_))))))))
 exact p (ad rfl rfl (bw (by omega))) (p mv (ag ((⟨_,by omega,i+1,i,[l.getD i 0],dn,v,(by omega),(fF.begin (by omega)),((by obtain ⟨h1,h2⟩:=A.neg (by omega); subst h2; rw [drop_cons 0 (by omega),tj q] at hd; exact hd)),hE31x,ho31,rfl,rfl,rfl,rfl,rfl,rfl⟩))))
 refine az (bn (bn (tn (c _ _ (rg rfl (p (ad rfl rfl (bw (by omega))) (p mv (nl ?_))))))))
 exact tn (⟨_,by omega,i+1,a,G++ [l.getD i 0],dn,v,(by omega),(A.more (by omega) (by omega)),((by rw [drop_cons 0 (by omega),tj q] at hd; exact hd)),hE31x,ho31,rfl,rfl,rfl,rfl,rfl,rfl⟩)
 refine sk rfl rfl rfl rfl (sk rfl rfl rfl rfl (p (a7 rfl) (ae (((s _ _ (cf rfl (az ?_))))))))
 refine bn (bn (tn (c _ _ (rg rfl (p (ad rfl rfl (bw (by omega))) (p mv (nl (tn ?_))))))))
 rw [q] at j; cases j
 refine ext (te _ (te _ (be (tn (aq _ _ (sq (fun _ c=>aa (fun _ U=> ?_))))))))
 refine ab (.int .i64 a) (p (ge rfl rfl) (ag ((U _ _ (cd rfl (fun aD=> ?_) (fun aD=> ?_))))))
 obtain ⟨aQ,hp2,ac⟩:=A.pos (by omega)
 refine rg rfl (ab (v) (ab (str l) (ab (.int .i64 a) (p (jD u9 rfl rfl (by omega)) (e (gh fc rfl rfl fun aS w45 aU M ay=>e (ap fc (aE O M.md) rfl (by have :=M.size; have :=I.size; omega) rfl (aj.dZ ay) (rfl) (rfl) (by omega) (by omega) fun a1 w46 aH hM46 aZ aX=> ?_)))))))
 have hE46:=Wk.own (Md.trans I M.md) (aE O M.md) hM46 (Nat.le_refl _)
 have ho46x:=mr aH
 refine ae (((c _ _ (aa (fun _ C=>(p mv (p ak (nl ?_))))))))
 refine tn (C _ _ (rt (f1 rfl rfl ?_)))
 have Z:dn++ [l.drop a.toNat]=(bQ [] l):=by rw [← hd,show l.drop i= [] from List.drop_eq_nil_of_le (by omega),BJ ac,hp2,List.take_of_length_le (by omega)]
 exact ⟨by rw [← Z]; exact ho46x,hE46⟩
 obtain ⟨aQ,hp2⟩:=A.neg (by omega)
 refine az (tn (c _ _ (aa (fun _ C=>(ab (v) (p (bA (v) rfl) (ag ((C _ _ ?_)))))))))
 refine rt (f1 rfl rfl ?_)
 have Z:dn=(bQ [] l):=by rw [← hd,List.drop_eq_nil_of_le (by omega),hp2,BK,List.append_nil]
 exact ⟨by rw [← Z]; exact O,I⟩
theorem lx (s:List UInt8) (w:World):
 aK Tryz.prog 23 (List.toArray [str s]) w (fun v w'=>v= .bool (e8 s)∧Wk w w'):=by
 refine enter Tryz.func23 rfl Tryz.ntmps23 rfl ?_
 refine aa (fun _ c=>(ae (((c _ _ (aa (fun _ a=>(ab (str s) ?_))))))))
 refine p (bR u9 rfl rfl) (p (ge rfl rfl) (p mv (gs (t:=6) rfl (fun hg6=> ?_) (fun hg6=> ?_))))
 refine pg rfl rfl rfl (ao (str s) rfl) (pg rfl rfl rfl (gl 0 u9 rfl rfl (by omega)) (pg rfl rfl rfl (ba rfl rfl) (p (bl rfl) (p mv (gs (t:=11) rfl (fun hg11=> ?_) (fun hg11=> ?_))))))
 refine pg rfl rfl rfl (ao (str s) rfl) (pg rfl rfl rfl (gl 1 u9 rfl rfl (by omega)) (pg rfl rfl rfl (ba rfl rfl) (p (bl rfl) (p mv (gs (t:=16) rfl (fun i=> ?_) (fun i=> ?_))))))
 refine pg rfl rfl rfl (ao (str s) rfl) (pg rfl rfl rfl (gl 2 u9 rfl rfl (by omega)) (pg rfl rfl rfl (ba rfl rfl) (p (bl rfl) (ae (((a _ _ (rt ?_))))))))
 exact f1 rfl rfl (⟨by show Value.bool (decide (((s.getD 2 0).toNat:Int)=191))=_; rw [nR]; exact congrArg Value.bool (decide_eq_decide.2 (by omega)),Md.refl _ _⟩)
 refine sk rfl rfl rfl rfl (sk rfl rfl rfl rfl (sk rfl rfl rfl rfl (p (a7 rfl) (ae (((a _ _ (rt ?_))))))))
 exact f1 rfl rfl (⟨by show Value.bool false =_; rw [nR,decide_eq_false (by omega)],Md.refl _ _⟩)
 refine sk rfl rfl rfl rfl (sk rfl rfl rfl rfl (sk rfl rfl rfl rfl (p (a7 rfl) (p mv (sk rfl rfl rfl rfl (sk rfl rfl rfl rfl (sk rfl rfl rfl rfl ?_)))))))
 exact p (a7 rfl) (ae (((a _ _ (rt (f1 rfl rfl (⟨by show Value.bool false =_; rw [nR,decide_eq_false (by omega)],Md.refl _ _⟩)))))))
 refine sk rfl rfl rfl rfl (sk rfl rfl rfl rfl (sk rfl rfl rfl rfl (p (a7 rfl) (p mv (sk rfl rfl rfl rfl (sk rfl rfl rfl rfl (sk rfl rfl rfl rfl ?_)))))))
 refine p (a7 rfl) (p mv (sk rfl rfl rfl rfl (sk rfl rfl rfl rfl (sk rfl rfl rfl rfl (p (a7 rfl) (p ak (nl ?_)))))))
 exact tn (a _ _ (rt (f1 rfl rfl (⟨by show Value.bool false =_; rw [nR,decide_eq_false (by omega)],Md.refl _ _⟩))))
theorem sL (l:List UInt8) (a:Option Addr) (c:Nat) (w:World) (hC:aj w.heap a (U8 l)) (hl:l.length≤1048576) (hc:l.length≤c):
 aK Tryz.prog 77 (List.toArray [.slice a l.length c]) w (fun v w'=>v=str (dU l)∧Wk w w'):=by
 refine enter Tryz.func77 rfl Tryz.ntmps77 rfl ?_
 refine aa (fun _ s=>(ae (((s _ _ (aa (fun _ A=>(ab (.slice a l.length c) ?_))))))))
 refine p (bm jH rfl rfl) (ae (((A _ _ (sq (fun _ j=>aa (fun _ q=>(p mv ?_))))))))
 refine p (gt rfl rfl) (p mv (gs (t:=8) rfl (fun hg8=> ?_) (fun hg8=> ?_)))
 refine pg rfl rfl rfl (ao (.slice a l.length c) rfl) (pg rfl rfl rfl mv (pg rfl rfl rfl (sb rfl rfl (bw (by omega))) (pg rfl rfl rfl (aG js rfl rfl (by omega) (aj.ok (hC) (ow (by omega)))) (pg rfl rfl rfl (ld m3 rfl ((show _=some (Value.int .u8 (l.getD (l.length - 1) 0).toNat) from by rw [show ((l.length:Int) - 1).toNat=l.length - 1 from by omega]; exact ov hC (by omega)))) (pg rfl rfl rfl (ba rfl rfl) (p (bl rfl) (nl ?_)))))))
 refine tn (q _ _ (cd rfl (fun C=> ?_) (fun C=> ?_)))
 refine aa (fun _ i=>(ab (.slice a l.length c) (p mv (p (sb rfl rfl (bw (by omega))) (p (kI js rfl rfl (by omega)) (p (k0 kX rfl (Gg hC ((l.length:Int) - 1).toNat) (by rw [List.length_take]; omega)) (p ak ?_)))))))
 exact ag ((i _ _ (rt (tr (f1 rfl rfl (⟨by show str (l.take ((l.length:Int) - 1).toNat)=_; rw [pk (by omega) (CL (by omega)),show ((l.length:Int) - 1).toNat=l.length - 1 from by omega],Md.refl _ _⟩))))))
 refine az (tn (j _ _ (aa (fun _ i=>(ab (.slice a l.length c) (p (k0 kX rfl (hC) (rfl)) (p ak (nl ?_))))))))
 exact tn (i _ _ (rt (f1 rfl rfl (⟨by show str l=_; rw [pj (fun h=>D4 (by omega) h.2)],Md.refl _ _⟩))))
 refine sk rfl rfl rfl rfl (sk rfl rfl rfl rfl (sk rfl rfl rfl rfl (sk rfl rfl rfl rfl (sk rfl rfl rfl rfl (sk rfl rfl rfl rfl (p (a7 rfl) (nl ?_)))))))
 refine tn (q _ _ (cf rfl (az (tn (j _ _ (aa (fun _ i=>(ab (.slice a l.length c) (p (k0 kX rfl (hC) (rfl)) ?_)))))))))
 exact ae (((i _ _ (rt (f1 rfl rfl (⟨by show str l=_; rw [pj (by omega)],Md.refl _ _⟩))))))
end Go.Hb.fZ
end
section
set_option maxRecDepth 20000
set_option maxHeartbeats 1000000
namespace Go.Hb.fg
open Go.Hb.cG
open Go.Proofs
open Go.Hb.eJ Go.Hb.jj Go.Hb.gP Go.Hb.ke Go.Hb.fG Go.Hb.fZ Go.Hb.fN
theorem Cv {l:List Tx} {x:Tx} :∀ {i:Nat},i < l.length→(∀ j,j < i→l.getD j []≠x)→l.getD i []=x→l.idxOf x=i:=by
 induction l with
 | nil=>intro i h; simp at h
 | cons a l ih=>
   intro i hi p c
   cases i with
   | zero=>simp only [List.getD_cons_zero] at c; rw [c,List.idxOf_cons_self]
   | succ i=>
     have h0:=p 0 (by omega)
     simp only [List.getD_cons_zero] at h0
     rw [List.idxOf_cons,show (a==x)=false from by simpa using h0,cond_false,ih (i:=i) (by simpa using hi) (fun j q=>by have :=p (j+1) (by omega); simpa using this) (by simpa using c)]
theorem A1 {a b:List Tx} (h:a.length≠b.length):a≠b:=fun h2=>h (by rw [h2])
theorem B5 {a b:List Tx} {i:Nat} (h:a.getD i []≠b.getD i []):a≠b:=fun h2=>h (by rw [h2])
theorem B3 {a b:List Tx} (hl:a.length=b.length) (h:∀ i,i < a.length→a.getD i []=b.getD i []):a=b:=by
 apply List.ext_getElem hl
 intro i h1 h2
 have :=h i h1
 rw [List.getD_eq_getElem?_getD,List.getD_eq_getElem?_getD,List.getElem?_eq_getElem h1,List.getElem?_eq_getElem h2] at this
 exact this
theorem FZ {s:Tx} {i:Nat} (h:i < s.length):(s.drop i).take 1= [s.getD i 0]:=by
 rw [drop_cons 0 h]; rfl
theorem vZ (b:UInt8):jJ [b]=eF b:=by
 unfold jJ ed
 cases h:eF b <;> simp [h]
theorem vz {s:Tx} {i:Nat} (h:i < s.length):(s.take (i+1)).drop i= [s.getD i 0]:=by
 rw [List.drop_take,show i+1 - i=1 from by omega,FZ h]
theorem s6 {s:Tx} (h:s= []∨ed s=false):eL s=21:=if_pos h
theorem Bt {s:Tx} (h:s≠[]) (h1:ed s=true) (h2:32 < s.length):eL s=22:=by unfold eL; rw [if_neg (by rw [h1]; simp [h]),if_pos h2]
theorem Bu {s:Tx} (h:s≠[]) (h1:ed s=true) (h2:¬32 < s.length):eL s=0:=by unfold eL; rw [if_neg (by rw [h1]; simp [h]),if_neg h2]
theorem Ex {s:Tx} (h:s= [48]):dQ true s= .ok []:=by unfold dQ; rw [if_pos ⟨rfl,h⟩]
theorem uW {s:Tx} (h:s≠[48]):dQ true s=dQ false s:=by unfold dQ; simp [h]
theorem Et {s:Tx} (h:(aV s).2.2.2≠0):dQ false s= .error (aV s).2.2.2:=by unfold dQ; rw [if_neg (fun h2=>by cases h2.1),if_pos h]
theorem Eu {s:Tx} (h:(aV s).2.2.2=0) (h1:(aV s).2.2.1=true):dQ false s= .error 114:=by unfold dQ; rw [if_neg (fun h2=>by cases h2.1),if_neg (fun h2=>h2 h),if_pos h1]
theorem Ev {s:Tx} (h:(aV s).2.2.2=0) (h1:(aV s).2.2.1=false) (h2:eL (aV s).1≠0):dQ false s= .error (eL (aV s).1):=by unfold dQ; rw [if_neg (fun h2=>by cases h2.1),if_neg (fun h2=>h2 h),if_neg (by rw [h1]; simp),if_pos h2]
theorem Ew {s:Tx} (h:(aV s).2.2.2=0) (h1:(aV s).2.2.1=false) (h2:eL (aV s).1=0):dQ false s= .ok (aV s).1:=by unfold dQ; rw [if_neg (fun h2=>by cases h2.1),if_neg (fun h2=>h2 h),if_neg (by rw [h1]; simp),if_neg (fun h3=>h3 h2)]
theorem nU {s:Tx} {most:Int} (h:(dp s most).2=0):cA s most= .ok (dp s most).1:=by unfold cA; rw [if_neg (fun h2=>h2 h)]
theorem nT {s:Tx} {most:Int} (h:(dp s most).2≠0):cA s most= .error 13∧(dp s most).2=13:=by
 refine ⟨by unfold cA; rw [if_pos h],?_⟩
 rcases uE s most with h1 | ⟨h1,_⟩
 · rw [h1]
 · rw [h1] at h; exact absurd rfl h
theorem tS (l:List Tx) (a:Option Addr) (c:Nat) (x:Tx) (w:World) (hC:bB w.heap a l) (aq:l.length≤1048576):
 aK Tryz.prog 93 (List.toArray [.slice a l.length c,str x]) w (fun v w'=>v= .int .i64 (if x∈l then (l.idxOf x:Nat) else -1:Int)∧w'=w):=by
 refine enter Tryz.func93 rfl Tryz.ntmps93 rfl ?_
 refine aa (fun _ I=>(ae (((I _ _ (sq (fun _ J=>aa (fun _ M=> ?_))))))))
 refine ab (.slice a l.length c) (p (bm dI rfl rfl) (p mv (ag ((M _ _ (au (lp (fun E q wI=> ∃ (i:Nat),(i≤l.length)∧(∀ j,j < i→l.getD j []≠x)∧(wI=w)∧(q 0= .slice a l.length c)∧(q 1=str x)∧(q 7=U (l.length))∧(q 8=U i)∧(l.length - i=E)) _ ⟨0,(by omega),((fun j G=>by omega)),rfl,rfl,rfl,rfl,rfl,rfl⟩ ?_)))))))
 rintro E q wI ⟨i,hi,C,ah,al,am,an,ao,rfl⟩
 refine fx 0 al (fx 1 am (fx 7 an (fx 8 ao ?_)))
 subst ah
 refine aa (fun _ O=>(p (lt rfl rfl) (ag ((O _ _ (sq (fun _ V=>cd rfl (fun ai=> ?_) (fun ai=> ?_))))))))
 refine az (tn (V _ _ (sq (fun _ A=>au (aa (fun _ Y=>(ab (U i) (p (bA (U i) rfl) ?_))))))))
 refine ag ((Y _ _ (aa (fun _ Z=>(ab (str x) (ab (.slice a l.length c) (ab (U i) (p (aG bU rfl rfl (by omega) (aj.ok (hC) (bN (by omega)))) ?_))))))))
 refine p (ld bY rfl (bB.get (i:=i) hC (by omega))) (p (e5 rfl rfl) (ag ((Z _ _ (cd rfl (fun s=> ?_) (fun s=> ?_))))))
 refine aa (fun _ ac=>(ab (U i) (p (bA (U i) rfl) (ag ((ac _ _ (rt (br ?_))))))))
 exact tr (tr (br (tr (f1 rfl rfl (⟨by rw [if_pos (by rw [s]; exact dW (by omega)),Cv (by omega) C s.symm]; rfl,rfl⟩)))))
 refine az (bn (tn (A _ _ (rg rfl (p (ad rfl rfl (bw (by omega))) (p mv (nl (tn ?_))))))))
 exact ⟨_,by omega,i+1,(by omega),((fun j G=>by rcases Nat.lt_or_ge j i with h | h <;> first | exact C j h | (rw [show j=i by omega]; exact fun h2=>s h2.symm))),rfl,rfl,rfl,rfl,rfl,rfl⟩
 refine ext (te _ (te _ (be (tn (J _ _ (aa (fun _ A=>(p ak ?_))))))))
 exact ag ((A _ _ (rt (f1 rfl rfl (⟨by rw [if_neg (fun h=>by obtain ⟨j,G,ap⟩:=mi [] h; exact C j (by omega) ap)]; rfl,rfl⟩)))))
theorem A2 (l m:List Tx) (s C:Nat) (a b:Option Addr) (c d:Nat) (w:World) (hC:bB w.heap a l) (V:bB w.heap b m) (hnl:l.length=s) (aD:m.length=C) (aC:s≤1048576):
 aK Tryz.prog 115 (List.toArray [.slice a s c,.slice b C d]) w (fun v w'=>v= .bool (decide (l=m))∧Wk w w'):=by
 refine enter Tryz.func115 rfl Tryz.ntmps115 rfl ?_
 refine aa (fun _ ac=>(ae (((ac _ _ (sq (fun _ al=>aa (fun _ am=> ?_))))))))
 refine ab (.slice a s c) (p (bm dI rfl rfl) (ab (.slice b C d) (p (bm dI rfl rfl) (p (dF rfl rfl) (ag ((am _ _ (cd rfl (fun hc10=> ?_) (fun hc10=> ?_)))))))))
 refine aa (fun _ G=>(ae (((G _ _ (rt (tr (f1 rfl rfl ?_))))))))
 exact ⟨by show Value.bool false =_; rw [decide_eq_false (A1 (by omega))],Md.refl _ _⟩
 have av:l.length=m.length:=by omega
 refine az (tn (al _ _ (sq (fun _ G=>aa (fun _ an=>(ab (.slice a s c) (p (bm dI rfl rfl) (p mv ?_))))))))
 refine ag ((an _ _ (au (lp (fun O E wI=> ∃ (i:Nat),(i≤s)∧(∀ j,j < i→l.getD j []=m.getD j [])∧(Wk w wI)∧(E 0= .slice a s c)∧(E 1= .slice b C d)∧(E 12=U s)∧(E 13=U i)∧(s - i=O)) _ ⟨0,(by omega),((fun j Y=>by omega)),(Md.refl _ _),rfl,rfl,rfl,rfl,rfl⟩ ?_))))
 rintro O E wI ⟨i,hi,Z,A,ax,ay,aA,aB,rfl⟩
 refine fx 0 ax (fx 1 ay (fx 12 aA (fx 13 aB (aa (fun _ ao=>(p (lt rfl rfl) (ag ((ao _ _ (sq (fun _ ap=>cd rfl (fun ar=> ?_) (fun ar=> ?_))))))))))))
 refine az (tn (ap _ _ (sq (fun _ I=>au (aa (fun _ aq=>(ab (U i) (p (bA (U i) rfl) ?_))))))))
 refine ag ((aq _ _ (sq (fun _ ah=> ?_))))
 have q:(fun w'=>Wk wI w') wI.drew:=(Md.refl _ _).drew
 refine bF (fun w'=>Wk wI w') rfl wide q (bp 0 rfl (.slice a s c) q (bp 1 rfl (U i) q (aQ 2 rfl (fun _ _=>aG bU rfl rfl (by omega) (aj.ok (hC.wk A) (bN (by omega)))) q (aQ 3 rfl (fun w' J=>ld bY rfl (Wk.aw J (bB.get (i:=i) (hC.wk A) (by omega)))) q (bp 4 rfl (.slice b C d) q (bp 5 rfl (U i) q (aQ 6 rfl (fun _ _=>aG bU rfl rfl (by omega) (aj.ok (V.wk A) (bN (by omega)))) q ?_)))))))
 refine aQ 7 rfl (fun w' J=>ld bY rfl (Wk.aw J (bB.get (i:=i) (V.wk A) (by omega)))) q (aQ 8 rfl (fun _ _=>mo rfl rfl) q (hn (by kernel_rfl) (tn (ah _ _ (cd rfl (fun M=> ?_) (fun M=> ?_))))))
 refine aa (fun _ ai=>(ae (((ai _ _ (rt (br (tr ?_))))))))
 exact tr (br (tr (f1 rfl rfl (⟨by show Value.bool false =_; rw [decide_eq_false (B5 M)],A.drew⟩))))
 refine az (bn (tn (I _ _ (rg rfl (p (ad rfl rfl (bw (by omega))) (p mv (nl (tn ?_))))))))
 exact ⟨_,by omega,i+1,(by omega),((fun j Y=>by rcases Nat.lt_or_ge j i with h | h <;> first | exact Z j h | (rw [show j=i by omega]; exact Classical.not_not.1 M))),A.drew,rfl,rfl,rfl,rfl,rfl⟩
 refine ext (te _ (te _ (be (tn (G _ _ (aa (fun _ I=>(p ak ?_))))))))
 exact ag ((I _ _ (rt (f1 rfl rfl (⟨by show Value.bool true =_; rw [decide_eq_true (B3 av (fun j Y=>Z j (by omega)))],A⟩)))))
theorem iU (rb ln:Nat) (e:Int) (w:World) (hln:Hb.aw w.heap rb 2=some (.int .i64 (ln:Nat))):
 cI Tryz.prog 66 (List.toArray [.pointer (some ⟨rb,0,none⟩),.int .i64 e]) w (fun v w'=>v=Value.tuple #[]∧e=0∧w'=w) (fun c w'=>c=eu 25 ln e∧e≠0∧w'=w):=by
 refine e4 Tryz.func66 rfl Tryz.ntmps66 rfl ?_
 refine sq (fun i a=>rg rfl (p (ao (.int .i64 e) rfl) (p (dF rfl rfl) (nl (tn (a _ _ (cd rfl (fun hc5=> ?_) (fun hc5=> ?_))))))))
 refine rg rfl (p (ao (.pointer (some ⟨rb,0,none⟩)) rfl) (p (nc rfl) (p (fa l9 rfl) (p (ld cX rfl (hln)) (p (ao (.int .i64 e) rfl) (p (bZ (ps:= [(0,.int .i64 1),(1,.int .i64 (ln:Nat)),(2,.int .i64 e)]) (L:= [.int .i64 1,.int .i64 (ln:Nat),.int .i64 e]) kJ rfl (rfl)) (p (DM p7 rfl) ?_)))))))
 exact EC rfl (fun q j=>⟨rfl,by omega,rfl⟩)
 refine az (eM ?_)
 refine f0 rfl ?_
 exact ⟨rfl,by omega,rfl⟩
theorem dP (rb ln:Nat) (b:Bool) (e:Int) (w:World) (hln:Hb.aw w.heap rb 2=some (.int .i64 (ln:Nat))) (he:e≠0):
 cI Tryz.prog 34 (List.toArray [.pointer (some ⟨rb,0,none⟩),.bool b,.int .i64 e]) w (fun v w'=>v=Value.tuple #[]∧b=true∧w'=w) (fun c w'=>c=eu 25 ln e∧b=false∧w'=w):=by
 refine e4 Tryz.func34 rfl Tryz.ntmps34 rfl ?_
 refine sq (fun q j=>rg rfl (p (ao (.bool b) rfl) (p (no rfl) (nl (tn (j _ _ (cb rfl (fun a=> ?_) (fun a=> ?_))))))))
 refine rg rfl (p (ao (.pointer (some ⟨rb,0,none⟩)) rfl) (p (ao (.int .i64 e) rfl) (eP rfl (bq iG (iU rb ln e w hln) rfl fun v10 w10 hR10=> ?_) (fun c w' i A s=>⟨i.1,by simpa using a,i.2.2⟩))))
 exact absurd hR10.2.1 he
 refine az (eM ?_)
 refine f0 rfl ?_
 exact ⟨rfl,by simpa using a,rfl⟩
theorem vI (B:Nat) (H:bd) (F:aB) (R:dD) (n:Nat) (r:List Tx) (rest:List Rw) (ln:Nat) (seen:List Tx) (w:World) (c:bg w B H F R ((n,r)::rest) ln seen):
 aK Tryz.prog 33 (List.toArray [aU H.rb]) w (fun v w'=>(∃ R',bg w' B H F R' rest n seen)∧Tg w' B 9 r.length v (r.map str)∧Md (fun k=>k=H.rb) w w'):=by
 obtain ⟨vr,vs,vn⟩:=R
 obtain ⟨a,cp,hv⟩:=c.rws.slice
 obtain rfl :vr= .slice a (rest.length+1) cp:=hv
 obtain ⟨q,vs,rfl⟩:∃ q vs',vs=q::vs':=by
  cases vs with
  | nil=>exact absurd c.rt.1 (by simp)
  | cons q vs'=>exact ⟨q,vs',rfl⟩
 obtain ⟨q1,q2⟩:=q
 obtain ⟨hq1,hq2⟩:=c.rt.2 0 (q1,q2) (n,r) rfl rfl
 obtain rfl :q1=n:=hq1
 obtain ⟨V,Y,rfl⟩:=hq2.slice
 have hrw:rest.length+1≤cp∧aj w.heap a (gJ ((q1,.slice V r.length Y)::vs)):=c.rws.cells
 have hcl:=c.cells
 have hrl:H.rb < w.heap.size:=(Array.getElem?_eq_some_iff.1 hcl).1
 refine enter Tryz.func33 rfl Tryz.ntmps33 rfl ?_
 refine aa (fun _ G=>(ae (((G _ _ (aa (fun _ I=>(ab (aU H.rb) ?_))))))))
 refine p (nc rfl) (p (fa l8 rfl) (p (ld kT rfl ((aM hcl).trans rfl)) (p (aG lf rfl rfl (by omega) (aj.ok (hrw.2) (n2 (by simp)))) (p (da mY rfl (rfl) (n3 (i:=0) hrw.2 rfl)) (e (al wx fun ah w3 ai E ac=> ?_))))))
 have hcl3:=E.md.au hcl
 refine e (bC sj rfl rfl rfl rfl (ac) (by simp) fun wt1_7 s Z=> ?_)
 have hcl4:=s.au hcl3 (fun h=>by omega)
 refine ag ((I _ _ (aa (fun _ J=>(ab (aU H.rb) (ab (aU H.rb) (p (nc rfl) (p (fa l8 rfl) ?_))))))))
 refine p (ld kT rfl ((aM hcl4).trans rfl)) (p (mD lf rfl rfl (by omega)) (p (nc rfl) (p (fa l8 rfl) (e (cV ss rfl rfl (v:= .slice (dd a cp 1 2) rest.length (cp - 1)) rfl hcl4 (by show _ < 7; decide) fun w5 A ad=> ?_)))))
 have hb5:=A.B Z (fun h=>by omega)
 refine ag ((J _ _ (aa (fun _ M=>(ab (aU H.rb) (p (fa nD rfl) (p (ld cX rfl ((hb5.aw 0).trans rfl)) (p (nc rfl) ?_))))))))
 refine p (fa l9 rfl) (e (cV iL rfl rfl (v:=U q1) rfl ad (by show _ < 7; decide) fun w6 C hB6=> ?_))
 have hb6:=C.B hb5 (fun h=>by omega)
 refine ag ((M _ _ (aa (fun _ O=>(p (fa l6 rfl) (p (ld kj rfl ((hb6.aw 1).trans rfl)) (p ak (nl ?_))))))))
 refine tn (O _ _ (rt (f1 rfl rfl ?_)))
 have j:Md (fun k=>k=H.rb) w w6:=(((E.md.mono fun _ _ h=>h.elim).trans' s (fun k hk h=>by omega)).trans' A (fun _ _ h=>h)).trans' C (fun _ _ h=>h)
 exact ⟨⟨⟨.slice (dd a cp 1 2) rest.length (cp - 1),vs,vn⟩,c.bX (R':=⟨.slice (dd a cp 1 2) rest.length (cp - 1),vs,vn⟩) j hB6 rfl (c.rws.k6 (m:=2) ((vm _).trans (by have :=c.rt.1; simp at this; simp [this]))) (ej.tl c.rt)⟩,hq2.md j (ep hcl (by decide)),j⟩
theorem pR (B:Nat) (H:bd) (F:aB) (R:dD) (rows:List Rw) (ln:Nat) (seen:List Tx) (hd:List Tx) (ab j:Nat) (A:Option Addr) (C:Nat) (w:World) (G:bg w B H F R rows ln seen) (ai:Tg w ab 9 j (.slice A j C) (hd.map str)) (I:hd.length=j) (aF:j≤1000) (hrow:∀ q∈rows,q.2.length≤70000):
 cI Tryz.prog 98 (List.toArray [.pointer (some ⟨H.rb,0,none⟩),.slice A j C]) w (fun v w'=> ∃ n r rest,rows=(n,r)::rest∧r.take hd.length=hd∧(∃ R',bg w' B H F R' rest n seen)∧Tg w' B 9 r.length v (r.map str)∧Md (fun k=>k=H.rb) w w') (fun c w'=>((rows= []∧c=eu 25 H.eof 116)∨(∃ n r rest,rows=(n,r)::rest∧r.take hd.length≠hd∧c=eu 25 n 116))∧Md (fun k=>k=H.rb) w w'):=by
 obtain ⟨a,cp,hv⟩:=G.rws.slice
 have hcl:=G.cells
 have hcl0:=G.cells
 unfold mz at hcl
 rw [hv] at hcl
 refine e4 Tryz.func98 rfl Tryz.ntmps98 rfl ?_
 refine sq (fun aA al=>rg rfl (p ak (nl (tn (al _ _ (sq (fun aC am=>sq (fun aD an=>rg rfl ?_))))))))
 refine p (ao (.pointer (some ⟨H.rb,0,none⟩)) rfl) (p (nc rfl) (p (fa l8 rfl) (p (ld kT rfl ((aM hcl).trans rfl)) (p (bm oq rfl rfl) (p (ba rfl rfl) (nl (tn (an _ _ ?_))))))))
 refine cd rfl (fun Z=> ?_) (fun Z=> ?_)
 obtain rfl :rows= []:=List.eq_nil_of_length_eq_zero (by omega)
 refine sq (fun ac J=>rg rfl (p (ao (.pointer (some ⟨H.rb,0,none⟩)) rfl) (p (ao (.pointer (some ⟨H.rb,0,none⟩)) rfl) (p (nc rfl) (p (fa BR rfl) (p (ld cX rfl ((aM hcl0).trans rfl)) (p (nc rfl) ?_)))))))
 refine p (fa l9 rfl) (e (cV iL rfl rfl (v:= .int .i64 (H.eof:Nat)) rfl hcl0 (by show _ < 7; decide) fun w6 ap hB6=>nl (tn (J _ _ (rg rfl (p (ao (.pointer (some ⟨H.rb,0,none⟩)) rfl) (eP rfl (bq iG (iU H.rb H.eof 116 w6 ((aM hB6).trans rfl)) rfl fun v20 w20 aq=> ?_) (fun c w' i aa V=>⟨.inl ⟨rfl,i.1⟩,i.2.2 ▸ ap⟩))))))))
 exact absurd aq.2.1 (by decide)
 obtain ⟨q,rest,rfl⟩:∃ q rest,rows=q::rest:=by
  cases rows with
  | nil=>exact absurd rfl Z
  | cons q rest=>exact ⟨q,rest,rfl⟩
 obtain ⟨n,r⟩:=q
 refine az (tn (am _ _ (sq (fun ac J=>rg rfl (p (ao (.pointer (some ⟨H.rb,0,none⟩)) rfl) (e (cl iF (vI B H F R n r rest ln seen _ G) rfl fun aG ay ar=> ?_)))))))
 obtain ⟨⟨ae,hR2⟩,hT,E⟩:=ar
 obtain ⟨ag,ah,rfl⟩:=hT.slice
 have hTc:=hT.bL
 have hrl:r.length≤70000:=hrow (n,r) (by simp)
 have hH2:=ai.md E (ep hcl0 (by decide))
 have hHc:=hH2.bL
 have hln2:=hR2.cw
 refine p ak (nl (tn (J _ _ (sq (fun aE Y=>rg rfl (p (ao (.pointer (some ⟨H.rb,0,none⟩)) rfl) (p mv (p (bm dI rfl rfl) ?_))))))))
 refine p (ao (.slice A j C) rfl) (p (bm dI rfl rfl) (p (ge rfl rfl) (p mv (gs (t:=29) rfl (fun av=> ?_) (fun av=> ?_)))))
 refine pg rfl rfl rfl mv (pg rfl rfl rfl (ao (.slice A j C) rfl) (pg rfl rfl rfl (bm dI rfl rfl) (pg rfl rfl rfl (kI bU rfl rfl (by omega)) (pg rfl rfl rfl (ao (.slice A j C) rfl) (eg rfl rfl rfl (cl x3 (A2 (r.take j) hd _ _ ag A ah C _ (by have :=aj.take hTc.2 j; unfold bB; rw [List.map_take]; exact this) hHc.2 (by rw [List.length_take]; omega) I (by omega)) rfl fun aH w35 au=> ?_))))))
 obtain ⟨rfl,s⟩:=au
 refine p (bl rfl) (eP rfl (bq dK (dP H.rb n _ 116 w35 (by first | exact hR2.cw | exact Wk.aw s hR2.cw) (by decide)) rfl fun ax w37 O=> ?_) (fun c w' i aa V=>⟨.inr ⟨n,r,rest,rfl,(by rw [I]; first | exact of_decide_eq_false i.2.1 | exact fun h=>by have :=congrArg List.length h; rw [List.length_take] at this; omega),i.1⟩,(by rw [i.2.2]; first | exact E.trans' s (fun _ _ h=>h.elim) | exact E)⟩))
 obtain ⟨rfl,U,rfl⟩:=O
 refine nl (tn (Y _ _ (sq (fun ad M=>rg rfl (p mv (p ak (nl (tn (M _ _ ?_)))))))))
 refine rt (eM ?_)
 exact f1 rfl rfl (⟨n,r,rest,rfl,(by rw [I]; exact of_decide_eq_true U),⟨ae,hR2.wk s⟩,hT.wk s,E.trans' s (fun _ _ h=>h.elim)⟩)
 refine sk rfl rfl rfl rfl (sk rfl rfl rfl rfl (sk rfl rfl rfl rfl (sk rfl rfl rfl rfl (sk rfl rfl rfl rfl (sk rfl rfl rfl rfl (p (a7 rfl) (eP rfl (bq dK (dP H.rb n _ 116 ay (by first | exact hR2.cw | exact Wk.aw s hR2.cw) (by decide)) rfl fun ax w37 O=> ?_) (fun c w' i aa V=>⟨.inr ⟨n,r,rest,rfl,(by rw [I]; first | exact of_decide_eq_false i.2.1 | exact fun h=>by have :=congrArg List.length h; rw [List.length_take] at this; omega),i.1⟩,(by rw [i.2.2]; first | exact E.trans' s (fun _ _ h=>h.elim) | exact E)⟩))))))))
 obtain ⟨rfl,U,rfl⟩:=O
 refine nl (tn (Y _ _ (sq (fun ad M=>rg rfl (p mv (p ak (nl (tn (M _ _ ?_)))))))))
 refine rt (eM ?_)
 exact f1 rfl rfl (absurd U (by decide))
theorem nW (rb ln:Nat) (s:Tx) (most:Int) (w:World) (hln:Hb.aw w.heap rb 2=some (.int .i64 (ln:Nat))) (hs:s.length≤1048576) (hm: -9223372036854775808≤most∧most≤9223372036854775807):
 cI Tryz.prog 97 (List.toArray [.pointer (some ⟨rb,0,none⟩),str s,.int .i64 most]) w (fun v w'=> ∃ a,cA s most= .ok a∧v= .int .i64 (a:Nat)∧Wk w w') (fun c w'=> ∃ e,cA s most= .error e∧c=eu 25 ln e∧Wk w w'):=by
 refine e4 Tryz.func97 rfl Tryz.ntmps97 rfl ?_
 refine sq (fun J j=>rg rfl (p ak (nl (tn (j _ _ (sq (fun M q=>rg rfl (p (ao (str s) rfl) ?_))))))))
 refine p (ao (.int .i64 most) rfl) (e (cl ng (nV s most _ hs hm) rfl fun di w12 E=> ?_))
 obtain ⟨rfl,hE12⟩:=E
 refine p mv (p (xt rfl rfl) (p (xt rfl rfl) (p ak (p ak (nl (tn (q _ _ (sq (fun O A=> ?_)))))))))
 refine rg rfl (p (ao (.pointer (some ⟨rb,0,none⟩)) rfl) (p mv (eP rfl (bq iG (iU rb ln (dp s most).2 w12 (Wk.aw hE12 hln)) rfl fun Y w17 G=> ?_) (fun c w' i Z V=>⟨13,(nT i.2.1).1,(by rw [i.1,(nT i.2.1).2]; rfl),(by rw [i.2.2]; exact hE12)⟩))))
 obtain ⟨rfl,I,rfl⟩:=G
 refine nl (tn (A _ _ (sq (fun U C=>rg rfl (p mv (p ak (nl (tn (C _ _ ?_)))))))))
 refine rt (eM ?_)
 exact f1 rfl rfl (⟨_,nU I,rfl,hE12⟩)
theorem qo (rb ln:Nat) (s:Tx) (w:World) (hln:Hb.aw w.heap rb 2=some (.int .i64 (ln:Nat))) (hs:s.length≤1048576):
 cI Tryz.prog 94 (List.toArray [.pointer (some ⟨rb,0,none⟩),str s]) w (fun v w'=>v= .tuple #[]∧ed s=true∧Wk w w') (fun c w'=>c=eu 25 ln 21∧ed s=false∧Wk w w'):=by
 refine e4 Tryz.func94 rfl Tryz.ntmps94 rfl ?_
 refine sq (fun ah M=>rg rfl (p (ao (str s) rfl) (p (bR u9 rfl rfl) (p mv (nl (tn (M _ _ (au ?_))))))))
 refine lp (fun E a wI=> ∃ (i:Nat),(i≤s.length)∧(∀ j,j < i→eF (s.getD j 0)=true)∧(Wk w wI)∧(a 0= .pointer (some ⟨rb,0,none⟩))∧(a 1=str s)∧(a 6= .int .i64 (s.length:Nat))∧(a 7= .int .i64 (i:Nat))∧(s.length - i=E)) _ ⟨0,(by omega),((fun j G=>by omega)),(Md.refl _ _),rfl,rfl,rfl,rfl,rfl⟩ ?_
 rintro E a wI ⟨i,hi,I,q,ab,ac,ae,ag,rfl⟩
 refine fx 0 ab (fx 1 ac (fx 6 ae (fx 7 ag (sq (fun ai O=>rg rfl (p (lt rfl rfl) (nl (tn (O _ _ (sq (fun aj U=>cd rfl (fun hc8=> ?_) (fun hc8=> ?_))))))))))))
 refine az (tn (U _ _ (sq (fun ak V=>au (sq (fun al Y=>rg rfl (p (ao (.int .i64 (i:Nat)) rfl) (p (bA (.int .i64 (i:Nat)) rfl) ?_))))))))
 refine nl (tn (Y _ _ (rg rfl (p (ao (.pointer (some ⟨rb,0,none⟩)) rfl) (p (ao (str s) rfl) (p (ao (.int .i64 (i:Nat)) rfl) (p (ao (.int .i64 (i:Nat)) rfl) (p (a8 ((i+1:Nat):Int) rfl rfl (aH (by omega) (by omega))) ?_))))))))
 refine p (mE u9 rfl rfl rfl (by omega)) (e (cl rZ (wc ((s.take (i+1)).drop i) _ (by rw [List.length_drop,List.length_take]; omega)) rfl fun an w16 Z=> ?_))
 obtain ⟨rfl,A⟩:=Z
 refine eP rfl (bq dK (dP rb ln _ 21 w16 (Wk.aw (q.trans A) hln) (by decide)) rfl fun ap w17 aa=> ?_) (fun c w' C aq am=>⟨C.1,na (i:=i) (by omega) (by have h:=C.2.1; rw [vz (by omega :i < s.length),vZ] at h; exact h),(by rw [C.2.2]; exact q.trans A)⟩)
 obtain ⟨rfl,J,rfl⟩:=aa
 rw [vz (by omega :i < s.length),vZ] at J
 refine nl (bn (tn (V _ _ (rg rfl (p (ad rfl rfl (bw (by omega))) (p mv (nl (tn ?_))))))))
 exact ⟨_,by omega,i+1,(by omega),((fun j G=>by rcases Nat.lt_or_ge j i with h | h <;> first | exact I j h | (rw [show j=i by omega]; exact J))),(q.trans A),rfl,rfl,rfl,rfl,rfl⟩
 refine ext (te _ (te _ (be (eM ?_))))
 refine f0 rfl ?_
 exact ⟨rfl,nb (fun j G=>I j (by omega)),q⟩
theorem u6 (rb ln:Nat) (s:Tx) (w:World) (hln:Hb.aw w.heap rb 2=some (.int .i64 (ln:Nat))) (hs:s.length≤1048576):
 cI Tryz.prog 116 (List.toArray [.pointer (some ⟨rb,0,none⟩),str s]) w (fun v w'=>v=str s∧eL s=0∧Wk w w') (fun c w'=>c=eu 25 ln (eL s:Nat)∧eL s≠0∧Wk w w'):=by
 refine e4 Tryz.func116 rfl Tryz.ntmps116 rfl ?_
 refine sq (fun O C=>rg rfl (p ak (nl (tn (C _ _ (sq (fun U E=>rg rfl (p (ao (.pointer (some ⟨rb,0,none⟩)) rfl) ?_))))))))
 refine p (ao (str s) rfl) (eP rfl (bq oV (qo rb ln s w hln hs) rfl fun ab w7 hR7=> ?_) (fun c w' a A j=>by have h:eL s=21:=s6 (.inr a.2.1); exact ⟨by rw [h]; exact a.1,by rw [h]; decide,a.2.2⟩))
 obtain ⟨rfl,q,hE7⟩:=hR7
 refine nl (tn (E _ _ (sq (fun V G=>rg rfl (p (ao (.pointer (some ⟨rb,0,none⟩)) rfl) (p (ao (str s) rfl) (p (mo rfl rfl) (eP rfl (bq dK (dP rb ln _ 21 w7 (Wk.aw hE7 hln) (by decide)) rfl fun v11 w11 hR11=> ?_) (fun c w' a A j=>by have h:eL s=21:=s6 (.inl (Classical.not_not.1 (of_decide_eq_false a.2.1))); exact ⟨by rw [h]; exact a.1,by rw [h]; decide,by rw [a.2.2]; exact hE7⟩)))))))))
 obtain ⟨rfl,i,rfl⟩:=hR11
 have i:s≠[]:=of_decide_eq_true i
 refine nl (tn (G _ _ (sq (fun Y I=>rg rfl (p (ao (.pointer (some ⟨rb,0,none⟩)) rfl) (p (ao (str s) rfl) (p (bR u9 rfl rfl) (p (le rfl rfl) ?_))))))))
 refine eP rfl (bq dK (dP rb ln _ 22 w11 (Wk.aw hE7 hln) (by decide)) rfl fun aa w16 M=> ?_) (fun c w' a A j=>by have h0:=of_decide_eq_false a.2.1; have h:eL s=22:=Bt i q (by omega); exact ⟨by rw [h]; exact a.1,by rw [h]; decide,by rw [a.2.2]; exact hE7⟩)
 obtain ⟨rfl,hx16,rfl⟩:=M
 have hx16:=of_decide_eq_true hx16
 refine nl (tn (I _ _ (sq (fun Z J=>rg rfl (p (ao (str s) rfl) (p (bA (str s) rfl) (nl (tn (J _ _ ?_)))))))))
 refine rt (eM ?_)
 exact f1 rfl rfl (⟨rfl,Bu i q (by omega),hE7⟩)
theorem uX (rb ln:Nat) (s:Tx) (w:World) (hln:Hb.aw w.heap rb 2=some (.int .i64 (ln:Nat))) (hs:s.length≤1048576):
 cI Tryz.prog 99 (List.toArray [.pointer (some ⟨rb,0,none⟩),str s]) w (fun v w'=> ∃ a,dQ false s= .ok a∧v=str a∧Wk w w') (fun c w'=> ∃ e,dQ false s= .error e∧c=eu 25 ln e∧Wk w w'):=by
 refine e4 Tryz.func99 rfl Tryz.ntmps99 rfl ?_
 refine sq (fun ab G=>rg rfl (p ak (nl (tn (G _ _ (sq (fun ac I=>rg rfl (p (ao (str s) rfl) ?_))))))))
 refine e (cl oT (qL s _ hs) rfl fun v11 w11 hR11=> ?_)
 obtain ⟨rfl,j⟩:=hR11
 have hwl:=oA s
 refine p mv (p (xt rfl rfl) (p (xt rfl rfl) (p (xt rfl rfl) (p (xt rfl rfl) (p ak (p ak (p ak ?_)))))))
 refine p ak (nl (tn (I _ _ (sq (fun ad J=>rg rfl (p (ao (.pointer (some ⟨rb,0,none⟩)) rfl) (p mv (eP rfl (bq iG (iU rb ln ((aV s).2.2.2:Nat) w11 (Wk.aw j hln)) rfl fun ah w18 U=> ?_) (fun c w' i E C=>⟨_,Et (by have :=i.2.1; omega),i.1,by rw [i.2.2]; exact j⟩)))))))))
 obtain ⟨rfl,q,rfl⟩:=U
 have q:(aV s).2.2.2=0:=by omega
 refine nl (tn (J _ _ (sq (fun ae M=>rg rfl (p (ao (.pointer (some ⟨rb,0,none⟩)) rfl) (p mv (p (no rfl) (eP rfl (bq dK (dP rb ln _ 114 w18 (Wk.aw j hln) (by decide)) rfl fun ai aa V=> ?_) (fun c w' i E C=>⟨_,Eu q (by simpa using i.2.1),i.1,by rw [i.2.2]; exact j⟩)))))))))
 obtain ⟨rfl,A,rfl⟩:=V
 have A:(aV s).2.2.1=false :=by simpa using A
 refine nl (tn (M _ _ (sq (fun ag O=>rg rfl (p (ao (.pointer (some ⟨rb,0,none⟩)) rfl) (p mv (eP rfl (bq rG (u6 rb ln (aV s).1 aa (Wk.aw j hln) (by omega)) rfl fun aj w25 Y=> ?_) (fun c w' i E C=>⟨_,Ev q A i.2.1,i.1,j.trans i.2.2⟩))))))))
 obtain ⟨rfl,Z,hE25⟩:=Y
 refine p ak (nl (tn (O _ _ (rt (eM ?_)))))
 exact f1 rfl rfl (⟨_,Ew q A Z,rfl,j.trans hE25⟩)
theorem uV (rb ln:Nat) (s:Tx) (w:World) (hln:Hb.aw w.heap rb 2=some (.int .i64 (ln:Nat))) (hs:s.length≤1048576):
 cI Tryz.prog 100 (List.toArray [.pointer (some ⟨rb,0,none⟩),str s]) w (fun v w'=> ∃ a,dQ true s= .ok a∧v=str a∧Wk w w') (fun c w'=> ∃ e,dQ true s= .error e∧c=eu 25 ln e∧Wk w w'):=by
 refine e4 Tryz.func100 rfl Tryz.ntmps100 rfl ?_
 refine sq (fun J C=>rg rfl (p ak (nl (tn (C _ _ (sq (fun M E=>sq (fun O G=>rg rfl ?_))))))))
 refine p (ao (str s) rfl) (p (e5 rfl rfl) (nl (tn (G _ _ (cd rfl (fun i=> ?_) (fun i=> ?_))))))
 refine sq (fun q j=>rg rfl (p ak (nl (tn (j _ _ (rt (tr (eM ?_))))))))
 exact f1 rfl rfl (⟨[],Ex i,rfl,Md.refl _ _⟩)
 refine az (tn (E _ _ (sq (fun q j=>rg rfl (p (ao (.pointer (some ⟨rb,0,none⟩)) rfl) (p (ao (str s) rfl) (eP rfl (bq r7 (uX rb ln s w hln hs) rfl fun v9 w9 hR9=> ?_) (fun c w' I V U=>by obtain ⟨e,he,h⟩:=I; exact ⟨e,by rw [uW i]; exact he,h⟩))))))))
 obtain ⟨a,ha,rfl,A⟩:=hR9
 refine p ak (nl (tn (j _ _ (rt (eM ?_)))))
 exact f1 rfl rfl (⟨a,by rw [uW i]; exact ha,rfl,A⟩)
end Go.Hb.fg
end
section
set_option maxRecDepth 20000
set_option maxHeartbeats 1000000
namespace Go.Hb.jg
open Go.Hb.cG
open Go.Proofs
open Go.Hb.eJ Go.Hb.fg Go.Hb.jj Go.Hb.gP Go.Hb.ke Go.Hb.fG Go.Hb.fZ Go.Hb.fN
theorem BT {kind:Nat} {s:Tx} (h:(eG kind s).2=0):(eG kind s).1≠0:=by
 unfold eG at h ⊢
 split
 · rename_i h0; rw [if_pos h0] at h; cases h
 · rename_i h0; exact h0
theorem BV {F:aB} {s:Tx} (h:(eG F.kind s).2≠0):eN F s= .error (eG F.kind s).2:=if_pos h
theorem BW {F:aB} {s:Tx} (h:(eG F.kind s).2=0) (h1:cJ F (eG F.kind s).1=true):eN F s= .error 115:=by unfold eN; rw [if_neg (fun h2=>h2 h),if_pos h1]
theorem BX {F:aB} {s:Tx} (h:(eG F.kind s).2=0) (h1:cJ F (eG F.kind s).1=false):eN F s= .ok (eG F.kind s).1:=by unfold eN; rw [if_neg (fun h2=>h2 h),if_neg (by rw [h1]; exact Bool.noConfusion)]
theorem FF {F:aB} {rows:List Rw} {ln e:Nat} {r:List Tx} (h:eN F (r.getD 1 [])= .error e):fX F rows ln r= .error (ln,e):=by unfold fX; rw [h]
theorem FG {F:aB} {rows:List Rw} {ln x:Nat} {r:List Tx} (h:eN F (r.getD 1 [])= .ok x):fX F rows ln r= .ok ({F with sp:=F.sp.set (dC.idxOf (r.getD 0 [])) x},rows):=by unfold fX; rw [h]
def iW:List Tx:= [fq,fC,fJ,fR,gn,eO,eR,bM]
theorem uQ (hs:List Tx):ordered hs=true↔∀ k∈iW,k∉hs:=by
 unfold ordered
 rw [Bool.not_eq_true',List.any_eq_false]
 have hm:∀ k,k∈iW↔(k∈dC∨k=eO∨k=eR∨k=bM):=by
  intro k
  simp only [iW,dC,List.mem_cons,List.not_mem_nil,or_false,or_assoc]
 constructor
 · intro h k hk a
   have :=h k a
   rw [decide_eq_true_iff] at this
   exact this ((hm k).1 hk)
 · intro h x c hd
   rw [decide_eq_true_iff] at hd
   exact h x ((hm x).2 hd) c
theorem Fi {F:aB} {rows:List Rw} {ln:Nat} {r:List Tx} (h:ed (r.getD 1 [])=false):jz F rows ln r= .error (ln,21):=if_pos h
theorem Fj {F:aB} {rows:List Rw} {ln:Nat} {r:List Tx} (h:ed (r.getD 1 [])=true):jz F rows ln r= .ok ({F with lY:=r.getD 1 []},rows):=if_neg (by rw [h]; exact Bool.noConfusion)
theorem F9 {F:aB} {rows:List Rw} {ln:Nat} {r:List Tx} (h:(letE (r.getD 1 [])).2≠0):jG F rows ln r= .error (ln,(letE (r.getD 1 [])).2):=if_pos h
theorem Ga {F:aB} {rows:List Rw} {ln:Nat} {r:List Tx} (h:(letE (r.getD 1 [])).2=0):jG F rows ln r= .ok ({F with tr:=(letE (r.getD 1 [])).1},rows):=if_neg (fun h2=>h2 h)
theorem DI {F:aB} {rows:List Rw} {ln e:Nat} {r:List Tx} (h:cA (r.getD 1 []) 64= .error e):gF F rows ln r= .error (ln,e):=by unfold gF; rw [h]
theorem DJ {F:aB} {rows:List Rw} {ln n:Nat} {r:List Tx} (h:cA (r.getD 1 []) 64= .ok n) (h0:n=0):gF F rows ln r= .error (ln,13):=by unfold gF; rw [h]; exact if_pos h0
theorem DK {F:aB} {rows:List Rw} {ln n:Nat} {r:List Tx} (h:cA (r.getD 1 []) 64= .ok n) (h0:n≠0):gF F rows ln r= .ok ({F with least:=n},rows):=by unfold gF; rw [h]; exact if_neg h0
theorem C3 {F:aB} {seen:List Tx} {rows:List Rw} {ln:Nat} {r:List Tx} {k:Tx} (hk:k∈iW) (h:k∈seen):gE F seen rows ln r= .error (ln,113):=by
 unfold gE
 rw [if_pos]
 cases ho:ordered seen with
 | false =>rfl
 | true =>exact absurd h ((uQ seen).1 ho k hk)
theorem C4 {F:aB} {seen:List Tx} {rows:List Rw} {ln:Nat} {r:List Tx} (h:ordered seen=true) (h0:fS (r.getD 1 [])=0):gE F seen rows ln r= .error (ln,114):=by unfold gE; rw [if_neg (by rw [h]; exact Bool.noConfusion),if_pos h0]
theorem C5 {F:aB} {seen:List Tx} {rows:List Rw} {ln:Nat} {r:List Tx} (h:ordered seen=true) (h0:fS (r.getD 1 [])≠0):gE F seen rows ln r= .ok ({F with kind:=fS (r.getD 1 [])},rows):=by unfold gE; rw [if_neg (by rw [h]; exact Bool.noConfusion),if_neg h0]
def kinds:List Tx:= [pV,pT,pU]
theorem C1 (s:Tx):((if s∈kinds then (kinds.idxOf s:Nat) else -1:Int))=(fS s:Nat) - 1:=by
 unfold fS kinds
 by_cases h1:s=pV
 · subst h1; decide
 · by_cases h2:s=pT
   · subst h2; decide
   · by_cases h3:s=pU
     · subst h3; decide
     · rw [if_neg (by simp [h1,h2,h3]),if_neg h1,if_neg h2,if_neg h3]; rfl
theorem C2 (s:Tx):fS s≤3:=by
 unfold fS
 split
 · omega
 · split
   · omega
   · split <;> omega
theorem pL (B:Nat) (H:bd) (F:aB) (V:cR) (R:dD) (rows:List Rw) (ln:Nat) (seen:List Tx) (s:Tx) (w:World) (A:bz w B H.fb H.mc F V) (i:bg w B H F R rows ln seen) (hk:F.kind=1∨F.kind=2∨F.kind=3) (hs:s.length≤1048576):
 cI Tryz.prog 96 (List.toArray [.pointer (some ⟨H.rb,0,none⟩),str s]) w (fun v w'=> ∃ x,eN F s= .ok x∧x≠0∧v=ay x∧cJ F x=false∧Wk w w') (fun c w'=> ∃ e,eN F s= .error e∧c=eu 25 ln (e:Nat)∧Wk w w'):=by
 obtain ⟨ai,Y,Z⟩:=i.tm
 refine e4 Tryz.func96 rfl Tryz.ntmps96 rfl ?_
 refine sq (fun ac C=>rg rfl (p ak (nl (tn (C _ _ (sq (fun ad E=>rg rfl (p (ao (.pointer (some ⟨H.rb,0,none⟩)) rfl) ?_))))))))
 refine p (nc rfl) (p (fa dE rfl) (p (ld dq rfl ((aM i.cells).trans rfl)) (p (nc rfl) (p (fa dw rfl) (p (fa lh rfl) (p (ld cX rfl ((aM A.cells).trans rfl)) (p (ao (str s) rfl) ?_)))))))
 refine e (cl xZ (Eb F.kind s _ hk hs) rfl fun aj w17 M=> ?_)
 obtain ⟨rfl,hE17⟩:=M
 refine p mv (p (xt rfl rfl) (p (xt rfl rfl) (p ak (p ak (nl (tn (E _ _ (sq (fun ae G=> ?_)))))))))
 refine rg rfl (p (ao (.pointer (some ⟨H.rb,0,none⟩)) rfl) (p mv (eP rfl (bq iG (iU H.rb ln ((eG F.kind s).2:Nat) w17 (Wk.aw hE17 i.cw)) rfl fun al aa O=> ?_) (fun c w' a ab A=>⟨_,BV (by have :=a.2.1; omega),a.1,by rw [a.2.2]; exact hE17⟩))))
 obtain ⟨rfl,q,rfl⟩:=O
 have q:(eG F.kind s).2=0:=by omega
 have hx0:=BT q
 refine nl (tn (G _ _ (sq (fun ag I=>rg rfl (p (ao (.pointer (some ⟨H.rb,0,none⟩)) rfl) (p (ao (.pointer (some ⟨H.rb,0,none⟩)) rfl) (p (nc rfl) (p (fa pI rfl) ?_))))))))
 refine p (ld lT rfl (Wk.aw hE17 ((aM i.cells).trans rfl))) (p mv (p (iT c7 jf kB (Y.wk hE17) rfl rfl (⟨_,rfl⟩) (Z _ hx0)) (p (ba rfl rfl) (eP rfl (bq dK (dP H.rb ln _ 115 aa (Wk.aw hE17 i.cw) (by decide)) rfl fun am w31 U=> ?_) (fun c w' a ab A=>⟨115,BW q (by have h:=a.2.1; rw [sB] at h; simpa using h),a.1,by rw [a.2.2]; exact hE17⟩)))))
 obtain ⟨rfl,j,rfl⟩:=U
 rw [sB] at j
 have j:cJ F (eG F.kind s).1=false :=by simpa using j
 refine nl (tn (I _ _ (sq (fun ah J=>rg rfl (p mv (p ak (nl (tn (J _ _ ?_)))))))))
 refine rt (eM ?_)
 exact f1 rfl rfl (⟨_,BX q j,hx0,rfl,j,hE17⟩)
theorem mF (B:Nat) (H:bd) (F:aB) (rows:List Rw) (ln:Nat) (seen:List Tx) (r:List Tx) (am:Nat) (E:Option Addr) (I:Nat) (w:World) (G:St w B H F rows ln seen) (hT:Tg w am 9 r.length (.slice E r.length I) (r.map str)) (hr:r.length=2) (hrl:∀ x∈r,x.length≤70000) (ae:r.getD 0 []∈dC) (aC:F.sp.getD (dC.idxOf (r.getD 0 [])) 0=0):
 cI Tryz.prog 61 (List.toArray [.pointer (some ⟨H.rb,0,none⟩),.slice E r.length I]) w (eD B H seen (fX F rows ln r) w) (eC B H (fX F rows ln r) w):=by
 obtain ⟨V,R,q,A,s⟩:=G
 have hTs:=hT.bL
 have ac:¬(H.rb=H.fb):=fun h=>by have h1:=A.cells; rw [h,q.cells] at h1; cases h1
 have aJ:(r.getD 1 []).length≤70000:=hrl _ (dW (by omega))
 have ad:¬(bk E=H.fb):=Tg.mm hT (bN (by omega)) q.cells (by decide)
 obtain ⟨aO,Y,ag⟩:=A.tm
 obtain ⟨aN,aK,aL⟩:=A.sm
 have hix:dC.idxOf (r.getD 0 []) < 5:=List.idxOf_lt_length_iff.2 ae
 refine e4 Tryz.func61 rfl Tryz.ntmps61 rfl ?_
 refine sq (fun aE ap=>rg rfl (p (ao (.pointer (some ⟨H.rb,0,none⟩)) rfl) (p (ao (.slice E r.length I) rfl) (p (aG bU rfl rfl (by omega) (aj.ok (hTs.2) (bN (by omega)))) (p (ld bY rfl (bB.get (i:=1) hTs.2 (by omega))) (eP rfl (bq oW (pL B H F V R rows ln seen (r.getD 1 []) w q A s.kd (by omega)) rfl fun v9 w9 hR9=> ?_) (fun c w' ar aQ q=>by obtain ⟨e,he,h,h2⟩:=ar; exact ⟨ln,e,FF he,h,Wk.mw h2⟩)))))))
 obtain ⟨x,aD,hx0,rfl,ai,j⟩:=hR9
 have hF9:=q.wk j
 have hR9:=A.wk j
 refine p ak (nl (tn (ap _ _ (sq (fun aF aq=>rg rfl (p (ao (.pointer (some ⟨H.rb,0,none⟩)) rfl) (p (nc rfl) (p (fa pI rfl) ?_))))))))
 refine p (ld lT rfl (Wk.aw j ((aM A.cells).trans rfl))) (p mv (p (iT c7 jf kB (Y.wk j) rfl rfl (⟨_,rfl⟩) (show _=Value.int .i64 0 from (ag x hx0).trans (by rw [ai]; rfl))) (p (a8 ((1:Nat):Int) rfl rfl (aH (by omega) (by omega))) (e (lI c7 kB (Y.wk j) rfl rfl rfl (⟨_,rfl⟩) fun C J av=> ?_)))))
 have hR1:=hR9.ml (F':= {F with sp:=F.sp.set (dC.idxOf (r.getD 0 [])) x}) J av rfl (vJ ai ag (An (by rw [q.fL]; exact hix) aC))
 have hF1:=hF9.ml hR9 J
 have hT1:=(hT.wk j).md J (fun k hk cur z hg=>by subst hk; exact (Y.wk j).jy hg)
 have hT1s:=hT1.bL
 refine nl (tn (aq _ _ ?_))
 have a:(fun w'=>Md (fun k=>k=H.fb) C w') C.drew:=(Md.refl _ _).drew
 refine bF (fun w'=>Md (fun k=>k=H.fb) C w') rfl wide a (hp 0 rfl (by kernel_rfl) (fun _ _=>ao (.pointer (some ⟨H.rb,0,none⟩)) rfl) a (hp 1 rfl (by kernel_rfl) (fun _ _=>nc rfl) a (hp 2 rfl (by kernel_rfl) (fun _ _=>fa dE rfl) a (hp 3 rfl (by kernel_rfl) (fun w' G=>ld dq rfl (Md.aw G ((aM hR1.cells).trans rfl) (by first | exact ac | exact ad))) a (hp 5 rfl (by kernel_rfl) (fun _ _=>ao (.slice E r.length I) rfl) a (hp 6 rfl (by kernel_rfl) (fun _ _=>aG bU rfl rfl (by omega) (aj.ok (hT1s.2) (bN (by omega)))) a (hp 7 rfl (by kernel_rfl) (fun w' G=>ld bY rfl (Md.aw G (bB.get (i:=0) hT1s.2 (by omega)) (by first | exact ac | exact ad))) a ?_)))))))
 refine hp 9 rfl (by kernel_rfl) (fun _ _=>mv) a (hp 10 rfl (by kernel_rfl) (fun _ _=>nc rfl) a (hp 11 rfl (by kernel_rfl) (fun _ _=>fa dw rfl) a (hp 12 rfl (by kernel_rfl) (fun _ _=>fa tq rfl) a (he 4 rfl (by kernel_rfl) (kW (L:=dC.map str) fc rfl rfl rfl rfl fun Z w21 aI O an=> ?_)))))
 have az:bB w21.heap (some ⟨Z,0,none⟩) dC:=aj.dZ ⟨_,an⟩
 have hE21:=eS O.md
 have ab:(fun w'=>Md (fun k=>k=H.fb) C w') w21:=a.trans' O.md (fun _ _ h=>h.elim)
 refine ⟨ab,?_⟩
 refine he 8 rfl (by kernel_rfl) (cl r6 (tS dC (some ⟨Z,0,none⟩) 5 (r.getD 0 []) _ az (by decide)) rfl fun aP w25 ax=> ?_)
 obtain ⟨ah,rfl⟩:=ax
 rw [if_pos ae] at ah
 subst ah
 have U:(fun w'=>Md (fun k=>k=H.fb) C w') w25:=ab
 refine ⟨U,?_⟩
 refine hp 13 rfl (by kernel_rfl) (fun _ _=>h8 oI rfl rfl (by omega)) U (he 14 rfl (by kernel_rfl) (cV c8 rfl rfl (v:=ay x) rfl (O.md.au hF1.cells) (by show _ < 14; omega) fun w7 M aa=> ?_))
 rw [Bw (i:=dC.idxOf (r.getD 0 [])) q.fL hix (by omega)] at aa
 have aA:(fun w'=>Md (fun k=>k=H.fb) C w') w7:=U.trans' M (fun _ _ h=>h)
 refine ⟨aA,?_⟩
 refine hn (by kernel_rfl) (eM ?_)
 refine f0 rfl ?_
 have hF2:=(hF1.wk hE21).put (F':= {F with sp:=F.sp.set (dC.idxOf (r.getD 0 [])) x}) M aa rfl rfl rfl rfl (by rw [List.length_set]; exact q.fL)
 exact ⟨rfl,_,rows,ln,FG aD,⟨V,R,hF2,(hR1.wk hE21).fb (hF1.wk hE21) M,⟨s.len,s.sl,s.row,s.kd,s.al⟩⟩,((Wk.mw j).trans (cH.mt hR9 J)).trans ((Wk.mw hE21).trans (cH.fb (hF1.wk hE21) M))⟩
theorem y4 (B:Nat) (H:bd) (F:aB) (rows:List Rw) (ln:Nat) (seen:List Tx) (r:List Tx) (O:Nat) (j:Option Addr) (E:Nat) (w:World) (C:St w B H F rows ln seen) (hT:Tg w O 9 r.length (.slice j r.length E) (r.map str)) (hr:r.length=2) (hrl:∀ x∈r,x.length≤70000):
 cI Tryz.prog 59 (List.toArray [.pointer (some ⟨H.rb,0,none⟩),.slice j r.length E]) w (eD B H seen (jz F rows ln r) w) (eC B H (jz F rows ln r) w):=by
 obtain ⟨V,R,s,A,q⟩:=C
 have hTs:=hT.bL
 have J:¬(H.rb=H.fb):=fun h=>by have h1:=A.cells; rw [h,s.cells] at h1; cases h1
 have ac:(r.getD 1 []).length≤70000:=hrl _ (dW (by omega))
 have M:¬(bk j=H.fb):=Tg.mm hT (bN (by omega)) s.cells (by decide)
 obtain ⟨ak,ag,ah⟩:=A.tm
 obtain ⟨ai,ad,ae⟩:=A.sm
 refine e4 Tryz.func59 rfl Tryz.ntmps59 rfl ?_
 refine sq (fun ab Y=>rg rfl (p (ao (.pointer (some ⟨H.rb,0,none⟩)) rfl) (p (ao (.slice j r.length E) rfl) (p (aG bU rfl rfl (by omega) (aj.ok (hTs.2) (bN (by omega)))) (p (ld bY rfl (bB.get (i:=1) hTs.2 (by omega))) (eP rfl (bq oV (qo H.rb ln (r.getD 1 []) w A.cw (by omega)) rfl fun am w8 hR8=> ?_) (fun c w' I an s=>⟨ln,21,Fi I.2.1,I.1,Wk.mw I.2.2⟩)))))))
 obtain ⟨rfl,aa,G⟩:=hR8
 have hF8:=s.wk G
 have hR8:=A.wk G
 have hT8s:=(hT.wk G).bL
 refine nl (tn (Y _ _ ?_))
 have a:(fun w'=>Md (fun k=>k=H.fb) w8 w') w8.drew:=(Md.refl _ _).drew
 refine bF (fun w'=>Md (fun k=>k=H.fb) w8 w') rfl wide a (hp 0 rfl (by kernel_rfl) (fun _ _=>ao (.pointer (some ⟨H.rb,0,none⟩)) rfl) a (hp 1 rfl (by kernel_rfl) (fun _ _=>nc rfl) a (hp 2 rfl (by kernel_rfl) (fun _ _=>fa dE rfl) a (hp 3 rfl (by kernel_rfl) (fun w' C=>ld dq rfl (Md.aw C ((aM hR8.cells).trans rfl) (by first | exact J | exact M))) a (hp 4 rfl (by kernel_rfl) (fun _ _=>ao (.slice j r.length E) rfl) a (hp 5 rfl (by kernel_rfl) (fun _ _=>aG bU rfl rfl (by omega) (aj.ok (hT8s.2) (bN (by omega)))) a (hp 6 rfl (by kernel_rfl) (fun w' C=>ld bY rfl (Md.aw C (bB.get (i:=1) hT8s.2 (by omega)) (by first | exact J | exact M))) a ?_)))))))
 refine hp 7 rfl (by kernel_rfl) (fun _ _=>nc rfl) a (hp 8 rfl (by kernel_rfl) (fun _ _=>fa dw rfl) a (hp 9 rfl (by kernel_rfl) (fun _ _=>fa BP rfl) a (he 10 rfl (by kernel_rfl) (cV ku rfl rfl (v:=str (r.getD 1 [])) rfl hF8.cells (by show _ < 14; omega) fun w9 hM9 U=> ?_))))
 have hM9:=eS hM9
 have Z:(fun w'=>Md (fun k=>k=H.fb) w8 w') w9:=hM9
 refine ⟨Z,?_⟩
 refine hn (by kernel_rfl) (eM ?_)
 refine f0 rfl ?_
 have hF2:=hF8.put (F':= {F with lY:=r.getD 1 []}) hM9 U rfl rfl rfl rfl s.fL
 exact ⟨rfl,_,rows,ln,Fj aa,⟨V,R,hF2,(hR8.fb hF8 hM9).congr rfl (fun _=>rfl),⟨q.len,q.sl,q.row,q.kd,q.al⟩⟩,(Wk.mw G).trans (cH.fb hF8 hM9)⟩
theorem Gb (B:Nat) (H:bd) (F:aB) (rows:List Rw) (ln:Nat) (seen:List Tx) (r:List Tx) (I:Nat) (q:Option Addr) (C:Nat) (w:World) (Y:St w B H F rows ln seen) (hT:Tg w I 9 r.length (.slice q r.length C) (r.map str)) (hr:r.length=2) (hrl:∀ x∈r,x.length≤70000):
 cI Tryz.prog 60 (List.toArray [.pointer (some ⟨H.rb,0,none⟩),.slice q r.length C]) w (eD B H seen (jG F rows ln r) w) (eC B H (jG F rows ln r) w):=by
 obtain ⟨V,R,j,A,a⟩:=Y
 have hTs:=hT.bL
 have ab:¬(H.rb=H.fb):=fun h=>by have h1:=A.cells; rw [h,j.cells] at h1; cases h1
 have ad:(r.getD 1 []).length≤70000:=hrl _ (dW (by omega))
 have ac:¬(bk q=H.fb):=Tg.mm hT (bN (by omega)) j.cells (by decide)
 obtain ⟨an,ah,ai⟩:=A.tm
 obtain ⟨am,ae,ag⟩:=A.sm
 refine e4 Tryz.func60 rfl Tryz.ntmps60 rfl ?_
 refine sq (fun Z M=>rg rfl (p (ao (.slice q r.length C) rfl) (p (aG bU rfl rfl (by omega) (aj.ok (hTs.2) (bN (by omega)))) (p (ld bY rfl (bB.get (i:=1) hTs.2 (by omega))) (e (cl y1 (Df (r.getD 1 []) _ (by omega)) rfl fun v10 w10 hR10=> ?_))))))
 obtain ⟨rfl,s⟩:=hR10
 have hF8:=j.wk s
 have hR8:=A.wk s
 refine p mv (p (xt rfl rfl) (p (xt rfl rfl) (p ak (p ak (nl (tn (M _ _ (sq (fun aa O=> ?_)))))))))
 refine rg rfl (p (ao (.pointer (some ⟨H.rb,0,none⟩)) rfl) (p mv (eP rfl (bq iG (iU H.rb ln ((letE (r.getD 1 [])).2:Nat) w10 hR8.cw) rfl fun ap w15 U=> ?_) (fun c w' E aq j=>⟨ln,_,F9 (by have :=E.2.1; omega),E.1,by rw [E.2.2]; exact Wk.mw s⟩))))
 obtain ⟨rfl,G,rfl⟩:=U
 have G:(letE (r.getD 1 [])).2=0:=by omega
 refine nl (tn (O _ _ (rg rfl (p (ao (.pointer (some ⟨H.rb,0,none⟩)) rfl) (p (nc rfl) (p (fa dE rfl) (p (ld dq rfl ((aM hR8.cells).trans rfl)) (p mv ?_))))))))
 refine p (nc rfl) (p (fa dw rfl) (p (fa BQ rfl) (e (cV ku rfl rfl (v:=str (letE (r.getD 1 [])).1) rfl hF8.cells (by show _ < 14; omega) fun w9 hM9 J=>nl (eM ?_)))))
 refine f0 rfl ?_
 have hF2:=hF8.put (F':= {F with tr:=(letE (r.getD 1 [])).1}) hM9 J rfl rfl rfl rfl j.fL
 exact ⟨rfl,_,rows,ln,Ga G,⟨V,R,hF2,(hR8.fb hF8 hM9).congr rfl (fun _=>rfl),⟨a.len,a.sl,a.row,a.kd,a.al⟩⟩,(Wk.mw s).trans (cH.fb hF8 hM9)⟩
theorem C9 (B:Nat) (H:bd) (F:aB) (rows:List Rw) (ln:Nat) (seen:List Tx) (r:List Tx) (U:Nat) (G:Option Addr) (I:Nat) (w:World) (C:St w B H F rows ln seen) (hT:Tg w U 9 r.length (.slice G r.length I) (r.map str)) (hr:r.length=2) (hrl:∀ x∈r,x.length≤70000):
 cI Tryz.prog 62 (List.toArray [.pointer (some ⟨H.rb,0,none⟩),.slice G r.length I]) w (eD B H seen (gF F rows ln r) w) (eC B H (gF F rows ln r) w):=by
 obtain ⟨V,R,j,q,s⟩:=C
 have hTs:=hT.bL
 have M:¬(H.rb=H.fb):=fun h=>by have h1:=q.cells; rw [h,j.cells] at h1; cases h1
 have ae:(r.getD 1 []).length≤70000:=hrl _ (dW (by omega))
 have O:¬(bk G=H.fb):=Tg.mm hT (bN (by omega)) j.cells (by decide)
 obtain ⟨an,ai,ak⟩:=q.tm
 obtain ⟨am,ag,ah⟩:=q.sm
 refine e4 Tryz.func62 rfl Tryz.ntmps62 rfl ?_
 refine sq (fun ad Y=> ?_)
 have a:(fun w'=>Md (fun k=>k=H.fb) w w') w.drew:=(Md.refl _ _).drew
 refine bF (fun w'=>Md (fun k=>k=H.fb) w w') rfl wide a (hp 0 rfl (by kernel_rfl) (fun _ _=>ao (.pointer (some ⟨H.rb,0,none⟩)) rfl) a (hp 1 rfl (by kernel_rfl) (fun _ _=>nc rfl) a (hp 2 rfl (by kernel_rfl) (fun _ _=>fa dE rfl) a (hp 3 rfl (by kernel_rfl) (fun w' C=>ld dq rfl (Md.aw C ((aM q.cells).trans rfl) (by first | exact M | exact O))) a (hp 4 rfl (by kernel_rfl) (fun _ _=>ao (.pointer (some ⟨H.rb,0,none⟩)) rfl) a (hp 5 rfl (by kernel_rfl) (fun _ _=>ao (.slice G r.length I) rfl) a (hp 6 rfl (by kernel_rfl) (fun _ _=>aG bU rfl rfl (by omega) (aj.ok (hTs.2) (bN (by omega)))) a ?_)))))))
 refine hp 7 rfl (by kernel_rfl) (fun w' C=>ld bY rfl (Md.aw C (bB.get (i:=1) hTs.2 (by omega)) (by first | exact M | exact O))) a (ll 8 rfl (by kernel_rfl) rfl (bq ni (nW H.rb ln (r.getD 1 []) 64 w.drew q.cw (by omega) (by omega)) rfl fun di w12 Z=> ?_) (fun c w' A ac j=>by obtain ⟨e,he,h,h2⟩:=A; exact ⟨ln,e,DI he,h,Wk.mw (eS h2)⟩))
 obtain ⟨n,hnx,rfl,hE12⟩:=Z
 have hE12:=eS hE12
 have hF8:=j.wk hE12
 have hR8:=q.wk hE12
 have E:(fun w'=>Md (fun k=>k=H.fb) w w') w12:=Md.mono hE12 (fun _ _ h=>h.elim)
 refine ⟨E,?_⟩
 refine hp 9 rfl (by kernel_rfl) (fun _ _=>nc rfl) E (hp 10 rfl (by kernel_rfl) (fun _ _=>fa dw rfl) E (hp 11 rfl (by kernel_rfl) (fun _ _=>fa pH rfl) E (he 12 rfl (by kernel_rfl) (cV iL rfl rfl (v:= .int .i64 (n:Nat)) rfl hF8.cells (by show _ < 14; omega) fun w9 hM9 J=> ?_))))
 have hR9:=hR8.fb hF8 hM9
 have ab:(fun w'=>Md (fun k=>k=H.fb) w w') w9:=E.trans' hM9 (fun _ _ h=>h)
 refine ⟨ab,?_⟩
 refine hn (by kernel_rfl) (tn (Y _ _ (rg rfl (p (ao (.pointer (some ⟨H.rb,0,none⟩)) rfl) (p (ao (.pointer (some ⟨H.rb,0,none⟩)) rfl) (p (nc rfl) (p (fa dE rfl) (p (ld dq rfl ((aM hR9.cells).trans rfl)) ?_))))))))
 refine p (nc rfl) (p (fa dw rfl) (p (fa pH rfl) (p (ld cX rfl ((aM J).trans rfl)) (p (gt rfl rfl) (eP rfl (bq dK (dP H.rb ln _ 13 w9 hR9.cw (by decide)) rfl fun ap w26 aa=> ?_) (fun c w' A ac j=>by have h0:=of_decide_eq_false A.2.1; exact ⟨ln,13,DJ hnx (by omega),A.1,by rw [A.2.2]; exact (Wk.mw hE12).trans (cH.fb hF8 hM9)⟩))))))
 obtain ⟨rfl,hx26,rfl⟩:=aa
 have hx26:=of_decide_eq_true hx26
 refine nl (eM ?_)
 refine f0 rfl ?_
 have hF2:=hF8.put (F':= {F with least:=n}) hM9 J rfl rfl rfl rfl j.fL
 exact ⟨rfl,_,rows,ln,DK hnx (by omega),⟨V,R,hF2,hR9.congr rfl (fun _=>rfl),⟨s.len,s.sl,s.row,s.kd,s.al⟩⟩,(Wk.mw hE12).trans (cH.fb hF8 hM9)⟩
theorem C6 (B:Nat) (H:bd) (F:aB) (rows:List Rw) (ln:Nat) (seen:List Tx) (r:List Tx) (av:Nat) (G:Option Addr) (J:Nat) (w:World) (I:St w B H F rows ln seen) (hT:Tg w av 9 r.length (.slice G r.length J) (r.map str)) (hr:r.length=2) (hrl:∀ x∈r,x.length≤70000):
 cI Tryz.prog 58 (List.toArray [.pointer (some ⟨H.rb,0,none⟩),.slice G r.length J]) w (eD B H seen (gE F seen rows ln r) w) (eC B H (gE F seen rows ln r) w):=by
 obtain ⟨V,R,A,O,M⟩:=I
 have hTs:=hT.bL
 have am:¬(H.rb=H.fb):=fun h=>by have h1:=O.cells; rw [h,A.cells] at h1; cases h1
 have a6:(r.getD 1 []).length≤70000:=hrl _ (dW (by omega))
 have an:¬(bk G=H.fb):=Tg.mm hT (bN (by omega)) A.cells (by decide)
 obtain ⟨bc,a7,a9⟩:=O.tm
 obtain ⟨bb,aW,aX⟩:=O.sm
 refine e4 Tryz.func58 rfl Tryz.ntmps58 rfl ?_
 refine sq (fun aZ aC=>sq (fun a0 aD=>rg rfl (e (kW (L:=iW.map str) fc rfl rfl rfl rfl fun aa w6 hb6 aJ hB6=> ?_))))
 have ah:bB w6.heap (some ⟨aa,0,none⟩) iW:=aj.dZ ⟨_,hB6⟩
 have s:Wk w w6:=aJ.md
 have hF6:=A.wk s
 have hR6:=O.wk s
 have hT6s:=(hT.wk s).bL
 have hsf6:=aW.wk s
 have a5:iW.length=8:=rfl
 refine p (bm dI rfl rfl) (p mv (nl (tn (aD _ _ (au (lp (fun ab E wI=> ∃ (i:Nat),(i≤8)∧(∀ j,j < i→iW.getD j []∉seen)∧(wI=w6)∧(E 0= .pointer (some ⟨H.rb,0,none⟩))∧(E 1= .slice G r.length J)∧(E 6= .slice (some ⟨aa,0,none⟩) 8 8)∧(E 7= .int .i64 (8:Nat))∧(E 8= .int .i64 (i:Nat))∧(8 - i=ab)) _ ⟨0,(by omega),((fun j ai=>by omega)),rfl,rfl,rfl,rfl,rfl,rfl,rfl⟩ ?_))))))
 rintro ab E wI ⟨i,hi,ap,aA,aR,aS,aT,aU,aV,rfl⟩
 refine fx 0 aR (fx 1 aS (fx 6 aT (fx 7 aU (fx 8 aV ?_))))
 subst aA
 refine sq (fun a1 aE=>rg rfl (p (lt rfl rfl) (nl (tn (aE _ _ (sq (fun a2 aF=>cd rfl (fun aQ=> ?_) (fun aQ=> ?_))))))))
 refine az (tn (aF _ _ (sq (fun ax U=>au (sq (fun a3 aI=>rg rfl (p (aG bU rfl rfl (by omega) (aj.ok (ah) (bN (by omega)))) (p (ld bY rfl (bB.get (i:=i) ah (by omega))) ?_))))))))
 refine p ak (nl (tn (aI _ _ (rg rfl (p (ao (.pointer (some ⟨H.rb,0,none⟩)) rfl) (p (ao (.pointer (some ⟨H.rb,0,none⟩)) rfl) (p (nc rfl) (p (fa lk rfl) ?_))))))))
 refine p (ld kU rfl ((aM hR6.cells).trans rfl)) (p mv (p (iT j7 jf ef (hsf6) rfl rfl (⟨_,rfl⟩) (aX _)) (p (ba rfl rfl) (eP rfl (bq dK (dP H.rb ln _ 113 wI hR6.cw (by decide)) rfl fun v20 w20 aK=> ?_) (fun c w' q aY A=>⟨ln,113,C3 (k:=iW.getD i []) (dW (by omega)) (by have h:=of_decide_eq_false q.2.1; exact Classical.not_not.1 fun h2=>h (by have :=List.count_eq_zero.2 h2; omega)),q.1,by rw [q.2.2]; exact Wk.mw s⟩)))))
 obtain ⟨rfl,Y,rfl⟩:=aK
 have Y:iW.getD i []∉seen:=List.count_eq_zero.1 (by have :=of_decide_eq_true Y; omega)
 refine nl (bn (tn (U _ _ (rg rfl (p (ad rfl rfl (bw (by omega))) (p mv (nl (tn ?_))))))))
 exact ⟨_,by omega,i+1,(by omega),((fun j ai=>by rcases Nat.lt_or_ge j i with h | h <;> first | exact ap j h | (rw [show j=i by omega]; exact Y))),rfl,rfl,rfl,rfl,rfl,rfl,rfl⟩
 refine ext (te _ (te _ (be (tn (aC _ _ (sq (fun ax U=> ?_)))))))
 have aq:ordered seen=true :=(uQ seen).2 fun k hk=>by obtain ⟨j,ai,rfl⟩:=mi [] hk; exact ap j (by omega)
 have a:(fun w'=>Md (fun k=>k=H.fb) wI w') wI.drew:=(Md.refl _ _).drew
 refine bF (fun w'=>Md (fun k=>k=H.fb) wI w') rfl wide a (hp 0 rfl (by kernel_rfl) (fun _ _=>ao (.pointer (some ⟨H.rb,0,none⟩)) rfl) a (hp 1 rfl (by kernel_rfl) (fun _ _=>nc rfl) a (hp 2 rfl (by kernel_rfl) (fun _ _=>fa dE rfl) a (hp 3 rfl (by kernel_rfl) (fun w' I=>ld dq rfl (Md.aw I ((aM hR6.cells).trans rfl) (by first | exact am | exact an))) a (hp 5 rfl (by kernel_rfl) (fun _ _=>ao (.slice G r.length J) rfl) a (hp 6 rfl (by kernel_rfl) (fun _ _=>aG bU rfl rfl (by omega) (aj.ok (hT6s.2) (bN (by omega)))) a (hp 7 rfl (by kernel_rfl) (fun w' I=>ld bY rfl (Md.aw I (bB.get (i:=1) hT6s.2 (by omega)) (by first | exact am | exact an))) a ?_)))))))
 refine he 4 rfl (by kernel_rfl) (kW (L:=kinds.map str) fc rfl rfl rfl rfl fun Z w26 a4 ae ay=> ?_)
 have aO:bB w26.heap (some ⟨Z,0,none⟩) kinds:=aj.dZ ⟨_,ay⟩
 have hE26:=eS ae.md
 have ag:(fun w'=>Md (fun k=>k=H.fb) wI w') w26:=a.trans' ae.md (fun _ _ h=>h.elim)
 refine ⟨ag,?_⟩
 refine he 8 rfl (by kernel_rfl) (cl r6 (tS kinds (some ⟨Z,0,none⟩) 3 (r.getD 1 []) _ aO (by decide)) rfl fun v30 w30 aL=> ?_)
 obtain ⟨ar,rfl⟩:=aL
 rw [C1] at ar
 subst ar
 have hkl:=C2 (r.getD 1 [])
 have C:(fun w'=>Md (fun k=>k=H.fb) wI w') w30:=ag
 refine ⟨C,?_⟩
 refine hp 9 rfl (by kernel_rfl) (fun _ _=>a8 ((fS (r.getD 1 []):Nat):Int) rfl rfl (aH (by omega) (by omega))) C (hp 10 rfl (by kernel_rfl) (fun _ _=>nc rfl) C (hp 11 rfl (by kernel_rfl) (fun _ _=>fa dw rfl) C (hp 12 rfl (by kernel_rfl) (fun _ _=>fa lh rfl) C (he 13 rfl (by kernel_rfl) (cV iL rfl rfl (v:= .int .i64 (fS (r.getD 1 []):Nat)) rfl ((hF6.wk hE26).cells) (by show _ < 14; omega) fun w9 hM9 ac=> ?_)))))
 have hF26:=hF6.wk hE26
 have hR9:=(hR6.wk hE26).fb hF26 hM9
 have hMw:=((Wk.mw s).trans (Wk.mw hE26)).trans (cH.fb hF26 hM9)
 have aP:(fun w'=>Md (fun k=>k=H.fb) wI w') w9:=C.trans' hM9 (fun _ _ h=>h)
 refine ⟨aP,?_⟩
 refine hn (by kernel_rfl) (tn (U _ _ (rg rfl (p (ao (.pointer (some ⟨H.rb,0,none⟩)) rfl) (p (ao (.pointer (some ⟨H.rb,0,none⟩)) rfl) (p (nc rfl) (p (fa dE rfl) (p (ld dq rfl ((aM hR9.cells).trans rfl)) ?_))))))))
 refine p (nc rfl) (p (fa dw rfl) (p (fa lh rfl) (p (ld cX rfl ((aM ac).trans rfl)) (p (gt rfl rfl) (eP rfl (bq dK (dP H.rb ln _ 114 w9 hR9.cw (by decide)) rfl fun bf w45 aN=> ?_) (fun c w' q aY A=>by have h0:=of_decide_eq_false q.2.1; exact ⟨ln,114,C4 aq (by omega),q.1,by rw [q.2.2]; exact hMw⟩))))))
 obtain ⟨rfl,hx45,rfl⟩:=aN
 have hx45:=of_decide_eq_true hx45
 refine nl (eM ?_)
 refine f0 rfl ?_
 have hF2:=hF26.put (F':= {F with kind:=fS (r.getD 1 [])}) hM9 ac rfl rfl rfl rfl A.fL
 exact ⟨rfl,_,rows,ln,C5 aq (by omega),⟨V,R,hF2,hR9.congr rfl (fun _=>rfl),⟨M.len,M.sl,M.row,(by show fS (r.getD 1 [])=1∨fS (r.getD 1 [])=2∨fS (r.getD 1 [])=3; omega),M.al⟩⟩,hMw⟩
end Go.Hb.jg
end
