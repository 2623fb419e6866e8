/-
  Walks and plain laws that the law rests on, laid together. No conditions but those that each theorem names.
-/
import Derived.Test.YtkiemnnhcilhpaaGreatDoorMnDicKeeps6
set_option linter.unusedVariables false
section
set_option maxRecDepth 20000
set_option maxHeartbeats 1000000
namespace Go.Hb.nY
open Go.Hb.di
open Go.Proofs
open Go.Hb.km Go.Hb.m4 Go.Hb.rS Go.Hb.vP Go.Hb.lF Go.Hb.eX Go.Hb.fH Go.Hb.iV Go.Hb.fP Go.Hb.iG Go.Hb.jP Go.Hb.kQ Go.Hb.gY Go.Hb.mq Go.Hb.gr Go.Hb.fS
theorem Tg.blt {w:World} {B e n cp:Nat} {a:Option Addr} {xs:List Value} (h:Tg w B e n (.slice a n cp) xs) (i:xs≠[]):bk a < w.heap.size:=by
 obtain ⟨j,c',hv,_,hh⟩:=h
 cases hv
 rcases hh with rfl | ⟨p,cur,q,rfl,_,hg,_⟩
 · exact absurd rfl i
 · exact (Array.getElem?_eq_some_iff.1 hg).1
def Cu (w':World) (B:Nat) (F:aI) (v:Value):Prop := ∃ B1 fb V,B≤B1∧v= .tuple #[.pointer (some ⟨fb,0,none⟩),.int .i64 0,.int .i64 0]∧dz w' B1 0 fb F V∧(∃ seen,kg F [] seen)∧Nx F
def Ct (e:Nat×Nat) (v:Value):Prop :=v= .tuple #[.pointer none,.int .i64 (e.1:Nat),.int .i64 (e.2:Nat)]
theorem qG {l:List (eK×Value)} {i:Nat} {q:eK×Value} (h:l[i]? =some q):jD l≠[]:=fun h2=>by
 have h3:(jD l).length=l.length*8:=kD (f:=lf) (m:=8) (fun _=>rfl) _
 have h4:=(List.getElem?_eq_some_iff.1 h).1
 rw [h2] at h3
 have h5:0=l.length*8:=h3
 omega
def iZ (s:Tx) (w:World) (v:Value) (w':World):Prop :=(match eM s with | .ok F=>Cu w' w.heap.size F v | .error e=>Ct e v)∧Wk w w'
theorem iZ.no {s:Tx} {w w':World} {l e:Nat} (h:eM s= .error (l,e)) (hm:Wk w w'):iZ s w (.tuple #[.pointer none,.int .i64 (l:Nat),.int .i64 (e:Nat)]) w':=by
 unfold iZ; rw [h]; exact ⟨rfl,hm⟩
theorem uN (s:Tx) (w:World) (hs:s.length≤1048576):
 aU Tryz.prog 12 (List.toArray [str s]) w (iZ s w):=by
 refine enter Tryz.func12 rfl Tryz.ntmps12 rfl ?_
 refine U (fun _ ch=>(p ak (p ak (aj (((ch _ _ (sq (fun _ ci=> ?_)))))))))
 refine rg rfl (ag (str s) (e (cl xw (A4 s _ hs) rfl fun v20 w20 cN=> ?_)))
 obtain ⟨⟨dM,rfl,hcs⟩,hE20⟩:=cN
 refine p mv (p (xt rfl rfl) (p (xt rfl rfl) (p ak (aj (((ci _ _ (sq (fun _ ck=> ?_)))))))))
 refine U (fun _ cm=>(p mv (p (bB rfl rfl) (au ((cm _ _ (cd rfl (fun bM=> ?_) (fun bM=> ?_))))))))
 have b4:65536 < s.length:=Classical.byContradiction fun h=>bM (by rw [if_neg h])
 refine U (fun _ bs=>(p mv (p ak (p ak (aj (((bs _ _ ?_))))))))
 refine rt (tr (f3 rfl rfl rfl rfl ?_))
 have h:=iZ.no (vW b4) hE20
 show iZ s w (.tuple #[.pointer none,.int .i64 0,.int .i64 (if 65536 < s.length then 10 else 0)]) w20
 rw [if_pos b4]
 exact h
 have hsm:¬65536 < s.length:=fun h=>bM (by rw [if_pos h]; decide)
 rw [if_neg hsm] at hcs
 obtain ⟨vs,b9,dm⟩:=hcs
 obtain ⟨E,G,rfl⟩:=bW b9
 refine az (tn (ck _ _ (U (fun _ bs=>(ag (str s) (e (cl sv (uR s _ hs) rfl fun d2 J cP=> ?_)))))))
 obtain ⟨dk,hE27⟩:=cP
 obtain ⟨d0,dP,rfl⟩:=bW dk
 have hE27x:=hE20.trans hE27
 have hll:=j6 s
 have hrl:=q6 s
 refine aj (((bs _ _ (U (fun _ cn=>(p (bZ (ps:= [(0,.int .i64 1),(4,.int .i64 3)]) (L:= [.int .i64 1,.string ⟨⟨[]⟩⟩,.string ⟨⟨[]⟩⟩,.int .i64 0,.int .i64 0,.int .i64 0,.int .i64 0,.int .i64 0,.int .i64 3,.slice none 0 0,.slice none 0 0,.slice none 0 0,.slice none 0 0]) Ls rfl (rfl)) (e (od rfl fun A w29 dS b1 cA=> ?_))))))))
 have hz29:=b1.size
 refine p mv (p mv (p (ba dx rfl rfl) (p (bc (((a7 s).length+1:Nat):Int) rfl rfl (aR (by omega) (by omega))) (p (bZ (ps:= [(0,aH A),(1,.slice E (bh s).length G),(3,ae ((a7 s).length+1))]) (L:= [aH A,.slice E (bh s).length G,.int .i64 0,ae ((a7 s).length+1),.slice none 0 0,.int .i64 0]) Lt rfl (rfl)) (e (od rfl fun a w35 dT bC cC=> ?_))))))
 have hz35:=bC.size
 have cH:Wk J w35:=b1.md.trans bC.md
 have bX:GS J (⟨a,A,(a7 s).length+1,.slice E (bh s).length G,vs,bh s⟩:eb):=⟨w.heap.size,(Tg.fY b9).wk hE27,dm.wk hE27,by show (bh s).length≤70000; omega⟩
 have cI:dz w35 J.heap.size 0 A fJ ⟨.slice none 0 0,.slice none 0 0,.slice none 0 0,.slice none 0 0,[],[]⟩:=⟨Wk.aA bC.md cA,World.ownsRow_nil _ _ _ _,World.ownsRow_nil _ _ _ _,eY.nil _ _ _,World.ownsRow_nil _ _ _ _,World.ownsRow_nil _ _ _ _,eY.nil _ _ _,by omega,rfl⟩
 have hR0:eJ w35 J.heap.size (⟨a,A,(a7 s).length+1,.slice E (bh s).length G,vs,bh s⟩:eb) 0 0 [] (.slice none 0 0):=⟨cC,World.ownsRow_nil _ _ _ _,by show J.heap.size≤a; omega⟩
 have cY:iY J w35 (⟨a,A,(a7 s).length+1,.slice E (bh s).length G,vs,bh s⟩:eb) fJ 0 0 []:=⟨_,_,cI,hR0,⟨by show 0 +0 +0 +0 +(bh s).length≤70000; omega,by show 0 +(bh s).length≤70000; omega,fun q hq=>by have h:=q7 (show q∈bh s from hq); exact ⟨h.2.2.1,by omega,fun x dE=>by have :=(h.2.2.2.2 x dE).2; omega⟩,.inl rfl⟩,cH,Nat.zero_le _⟩
 have dj:Nx fJ:=⟨fun l hl=>(by cases hl),fun l hl=>(by cases hl)⟩
 refine aj (((cn _ _ (sq (fun _ co=>aA (lp (fun ab bS wI=> ∃ (aZ:Nat) (F:aI) (k ln:Nat) (seen:List Tx),(eH (⟨a,A,(a7 s).length+1,.slice E (bh s).length G,vs,bh s⟩:eb).eof aZ F seen ((bh s).drop k)=eH ((a7 s).length+1) (bh s).length fJ [] (bh s))∧(((bh s).drop k).length≤aZ)∧(iY J wI (⟨a,A,(a7 s).length+1,.slice E (bh s).length G,vs,bh s⟩:eb) F k ln seen)∧(Nx F)∧(bS 5= .slice E (bh s).length G)∧(bS 8=aH a)∧(((bh s).drop k).length=ab)) _ ⟨(bh s).length,fJ,0,0,[],rfl,(Nat.le_refl _),cY,dj,rfl,rfl,rfl⟩ ?_))))))
 rintro ab bS wI ⟨aZ,F,k,ln,seen,hX,an,I,hnx,dn,dp,rfl⟩
 refine fx 5 dn (fx 8 dp ?_)
 obtain ⟨V,vh,hF,Z,hB,aN,hkl⟩:=I
 have hkl:k≤(bh s).length:=hkl
 refine sq (fun _ cp=>U (fun _ cq=>(ag (aH a) (p (nc rfl) (p (fa kE rfl) (p (ld bT rfl ((aQ Z.cells).trans rfl)) (ag (.slice E (bh s).length G) ?_)))))))
 refine p (ba rD rfl rfl) (p (lt rfl rfl) (au ((cq _ _ (cd rfl (fun c8=> ?_) (fun c8=> ?_))))))
 obtain ⟨n,r,ar,cr1,cr,c',am,dB,hCr,aY,⟨cg,hT1⟩,hvl⟩:=bX.get aN (k:=k) (by show k < (bh s).length; omega)
 have cc:Value.slice E (bh s).length G= .slice cr (bh s).length c':=dB
 simp only [Value.slice.injEq,true_and] at cc
 obtain ⟨rfl,rfl⟩:=cc
 have hCr:aw wI.heap E (gN vs):=hCr
 have aY:vs[k]? =some (n,.slice ar r.length cr1):=aY
 have hvl:vs.length=(bh s).length:=hvl
 have am:(bh s).drop k=(n,r)::(bh s).drop (k+1):=am
 have hB:kg F ((bh s).drop k) seen:=hB
 rw [am] at hX an hB
 have hrow:=hB.row (n,r) (List.mem_cons_self ..)
 have dX:0 < r.length:=List.length_pos_iff.2 hrow.1
 have hbl:=hB.len
 have hbs:=hB.sl
 simp only [List.length_cons] at hbl hbs an
 have hB1:=kg.k4 hB
 have ax:∀ w,Wk J w→bu w.heap ar r:=fun w h=>(hT1.wk h).bH.2
 refine az (tn (cp _ _ (aA (U (fun _ a8=>(ag (.slice E (bh s).length G) (ag (aH a) (p (nc rfl) ?_))))))))
 refine p (fa kE rfl) (p (ld bT rfl ((aQ Z.cells).trans rfl)) (p (aJ jX rfl rfl (by omega) (aw.ok (hCr) (iD (by omega)))) (p (fa oC rfl) (p (ld gl rfl (iF hCr aY 1 (by decide))) (aj (((a8 _ _ ?_))))))))
 refine U (fun _ a9=>(ag (aH a) (ag (.slice E (bh s).length G) (ag (aH a) (p (nc rfl) (p (fa kE rfl) (p (ld bT rfl ((aQ Z.cells).trans rfl)) ?_)))))))
 refine p (aJ jX rfl rfl (by omega) (aw.ok (hCr) (iD (by omega)))) (p (fa nr rfl) (p (ld bT rfl (iF hCr aY 0 (by decide))) (p (nc rfl) (p (fa k8 rfl) (e (cj fV rfl rfl (v:=ae n) rfl Z.cells (by show _ < 6; omega) fun w8 bx cD=> ?_))))))
 have hR8:=Z.cW (k':=k) (ln':=n) bx cD
 have hF8:=hF.rb Z bx
 have c2:Wk J w8:=aN.trans' bx (fun q hq h=>by have :=Z.lo; omega)
 refine au ((a9 _ _ (U (fun _ bb=>(ag (aH a) (ag (aH a) (p (nc rfl) (p (fa kE rfl) ?_))))))))
 refine p (ld bT rfl ((aQ hR8.cells).trans rfl)) (p (bc ((k+1:Nat):Int) rfl rfl (aR (by omega) (by omega))) (p (nc rfl) (p (fa kE rfl) (e (cj fV rfl rfl (v:=(ae (k+1))) rfl hR8.cells (by show _ < 6; omega) fun w9 hM9 cF=> ?_)))))
 have hR9:=hR8.cW (k':=k+1) (ln':=n) hM9 cF
 have hF9:=hF8.rb hR8 hM9
 have bK:Wk J w9:=c2.trans' hM9 (fun q hq h=>by have :=Z.lo; omega)
 refine au ((bb _ _ (U (fun _ bi=>(p mv (p (aJ bE rfl rfl (by omega) (aw.ok (ax _ bK) (bp (by omega)))) (p (ld bz rfl (bu.get (i:=0) (ax _ bK) (by omega))) (e (cl D4 (HC (r.getD 0 []) w9) rfl fun d3 ao cR=> ?_)))))))))
 obtain ⟨rfl,bv⟩:=cR
 have hW73:=bK.trans bv
 have hR73x:=hR9.wk bv
 have hF73:=hF9.wk bv
 refine aj (((bi _ _ (sq (fun _ bj=>U (fun _ aC=>(p mv (p (bf rfl rfl) ?_))))))))
 refine au ((aC _ _ (cd rfl (fun c9=> ?_) (fun c9=> ?_))))
 have h0:width (r.getD 0 [])=0:=by omega
 refine sq (fun _ aD=> ?_)
 have aa:(fun w'=>Wk ao w') ao.drew:=(Md.refl _ _).drew
 refine bD (fun w'=>Wk ao w') rfl wide aa (bd 0 rfl (aH a) aa (aB 1 rfl (fun _ _=>nc rfl) aa (aB 2 rfl (fun _ _=>fa k8 rfl) aa (aB 3 rfl (fun w' I=>ld bT rfl (Wk.aE I ((aQ hR73x.cells).trans rfl))) aa (aB 4 rfl (fun _ _=>ak) aa (aB 5 rfl (fun _ _=>ak) aa (aB 6 rfl (fun _ _=>ak) aa ?_)))))))
 refine hn (by kernel_rfl) (tn (aD _ _ (rt (tr (br (tr (br (tr ?_))))))))
 exact f3 rfl rfl rfl rfl (iZ.no (kp hsm (AU hX an h0)) (hE27x.trans (hW73.trans aa)))
 have h0:width (r.getD 0 [])≠0:=by omega
 refine az (tn (bj _ _ (sq (fun _ aD=>U (fun _ bk=>(p mv (p (ba dx rfl rfl) (p mv ?_))))))))
 refine p (bB rfl rfl) (au ((bk _ _ (cd rfl (fun da=> ?_) (fun da=> ?_)))))
 refine sq (fun _ aF=> ?_)
 have hS14:(fun w'=>Wk ao w') ao.drew:=(Md.refl _ _).drew
 refine bD (fun w'=>Wk ao w') rfl wide hS14 (bd 0 rfl (aH a) hS14 (aB 1 rfl (fun _ _=>nc rfl) hS14 (aB 2 rfl (fun _ _=>fa k8 rfl) hS14 (aB 3 rfl (fun w' I=>ld bT rfl (Wk.aE I ((aQ hR73x.cells).trans rfl))) hS14 (aB 4 rfl (fun _ _=>ak) hS14 (aB 5 rfl (fun _ _=>ak) hS14 (aB 6 rfl (fun _ _=>ak) hS14 ?_)))))))
 refine hn (by kernel_rfl) (tn (aF _ _ (rt (tr (br (tr (br (tr ?_))))))))
 exact f3 rfl rfl rfl rfl (iZ.no (kp hsm (AV hX an h0 (by omega))) (hE27x.trans (hW73.trans hS14)))
 have h1:r.length=width (r.getD 0 []):=by omega
 refine az (tn (aD _ _ (U (fun _ aF=>(ag (aH a) (p mv (p (aJ bE rfl rfl (by omega) (aw.ok (ax _ hW73) (bp (by omega)))) (p (ld bz rfl (bu.get (i:=0) (ax _ hW73) (by omega))) ?_))))))))
 refine e (cl sw (tR J.heap.size (⟨a,A,(a7 s).length+1,.slice E (bh s).length G,vs,bh s⟩:eb) (k+1) n seen vh (r.getD 0 []) ao hR73x (by omega)) rfl fun d4 a0 cS=> ?_)
 obtain ⟨rfl,dD⟩:=cS
 subst dD
 refine aj (((aF _ _ ?_)))
 refine c7 (fun a1 bQ=>(width (r.getD 0 [])=2→r.getD 0 []∉seen)∧(bQ=a0)∧(a1 5= .slice E (bh s).length G)∧(a1 8=aH a)∧(a1 9= .slice ar r.length cr1)) ?_ ?_
 refine U (fun _ ah=>(p mv (p (bf rfl rfl) (p mv (gs (t:=95) rfl (fun dc=> ?_) (fun dc=> ?_))))))
 refine pg rfl rfl rfl mv (p (bg rfl) (au ((ah _ _ (cb rfl (fun bN=> ?_) (fun bN=> ?_))))))
 refine sq (fun _ aK=> ?_)
 have hS17:(fun w'=>Wk a0 w') a0.drew:=(Md.refl _ _).drew
 refine bD (fun w'=>Wk a0 w') rfl wide hS17 (bd 0 rfl (aH a) hS17 (aB 1 rfl (fun _ _=>nc rfl) hS17 (aB 2 rfl (fun _ _=>fa k8 rfl) hS17 (aB 3 rfl (fun w' I=>ld bT rfl (Wk.aE I ((aQ hR73x.cells).trans rfl))) hS17 (aB 4 rfl (fun _ _=>ak) hS17 (aB 5 rfl (fun _ _=>ak) hS17 (aB 6 rfl (fun _ _=>ak) hS17 ?_)))))))
 refine hn (by kernel_rfl) (tn (aK _ _ (rt (tr (br (tr (br (tr ?_))))))))
 exact f3 rfl rfl rfl rfl (iZ.no (kp hsm (uO hX an h0 h1 (by omega) (of_decide_eq_true bN))) (hE27x.trans (hW73.trans hS17)))
 exact az (tn (⟨((fun _=>of_decide_eq_false bN)),rfl,rfl,rfl,rfl⟩))
 exact sk rfl rfl rfl rfl (p (a5 rfl) (au ((ah _ _ (cf rfl (az (tn (⟨((fun h=>absurd h (by omega))),rfl,rfl,rfl,rfl⟩))))))))
 rintro a1 bQ ⟨b7,dC,dq,dr,ds⟩
 refine fx 5 dq (fx 8 dr (fx 9 ds ?_))
 subst dC
 refine U (fun _ ah=>(ag (aH a) (ag (.slice ar r.length cr1) (e (cl D5 (Hv J (⟨a,A,(a7 s).length+1,.slice E (bh s).length G,vs,bh s⟩:eb) F (k+1) n seen r cg ar cr1 bQ bX ⟨V,vh,hF73,hR73x,hB1,hW73,by show k+1≤(bh s).length; omega⟩ hT1 hrow.2.2 (by show _+((bh s).drop (k+1)).length < 70000; omega) h1 h0) rfl fun dJ Y cL=> ?_)))))
 obtain ⟨de,c0⟩:=cL
 obtain ⟨dQ,rfl,b5⟩:∃ e:Nat,dJ=ae e∧((e=0∧∃ F' k' ln',bA (⟨a,A,(a7 s).length+1,.slice E (bh s).length G,vs,bh s⟩:eb).eof F seen ((bh s).drop (k+1)) n r= .ok (F',(bh s).drop k')∧iY J Y (⟨a,A,(a7 s).length+1,.slice E (bh s).length G,vs,bh s⟩:eb) F' k' ln' seen)∨(e≠0∧∃ l:Nat,bA (⟨a,A,(a7 s).length+1,.slice E (bh s).length G,vs,bh s⟩:eb).eof F seen ((bh s).drop (k+1)) n r= .error (l,e)∧Hb.aE Y.heap a 5=some (ae l))):=by
  rcases de with ⟨F',k',ln',h1,h2,h3⟩ | ⟨l,e,h1,h2,h3,h4⟩
  exact ⟨0,h2,.inl ⟨rfl,F',k',ln',h1,h3⟩⟩
  exact ⟨e,h3,.inr ⟨h2,l,h1,h4⟩⟩
 refine aj (((ah _ _ (sq (fun _ aK=>U (fun _ bl=>(p mv (p (bB rfl rfl) ?_))))))))
 refine au ((bl _ _ (cd rfl (fun c3=> ?_) (fun c3=> ?_))))
 obtain ⟨hne,dZ,dd,dh⟩:=b5.resolve_left (fun h=>by omega)
 refine sq (fun _ aL=> ?_)
 have O:(fun w'=>Wk Y w') Y.drew:=(Md.refl _ _).drew
 refine bD (fun w'=>Wk Y w') rfl wide O (bd 0 rfl (aH a) O (aB 1 rfl (fun _ _=>nc rfl) O (aB 2 rfl (fun _ _=>fa k8 rfl) O (aB 3 rfl (fun w' I=>ld bT rfl (Wk.aE I (dh))) O (aB 4 rfl (fun _ _=>mv) O (aB 5 rfl (fun _ _=>ak) O (aB 6 rfl (fun _ _=>ak) O ?_)))))))
 refine aB 7 rfl (fun _ _=>ak) O (hn (by kernel_rfl) (tn (aL _ _ (rt (tr (br (tr (br ?_))))))))
 exact tr (f3 rfl rfl rfl rfl (iZ.no (kp hsm (uP hX an h0 h1 b7 dd)) (hE27x.trans (c0.trans O))))
 obtain ⟨_,F',k',ln',aT,cX⟩:=b5.resolve_right (fun h=>by omega)
 have hXn:=uQ hX an h0 h1 b7 aT
 obtain ⟨dL,d5,hF2,hR2,bt,hW2,dg⟩:=cX
 obtain ⟨aq,av,rfl⟩:=bW hR2.hd
 have di:¬((Value.slice aq seen.length av).ownBlock=some a):=cw hR2.hd hR2.cells (by decide)
 refine az (tn (aK _ _ ?_))
 have hS21:(fun w'=>Md (fun q=>(Value.slice aq seen.length av).ownBlock=some q) Y w') Y.drew:=(Md.refl _ _).drew
 refine dH (fun w'=>Md (fun q=>(Value.slice aq seen.length av).ownBlock=some q) Y w') 12 rfl wide hS21 (a4 0 rfl (aH a) hS21 (a4 1 rfl (aH a) hS21 (a6 2 rfl (fun _=>nc rfl) (fun _=>hS21) (a6 3 rfl (fun _=>fa k6 rfl) (fun _=>hS21) (cT 4 rfl (fun w' I=>ld gl rfl (Md.aE I ((aQ hR2.cells).trans rfl) di)) hS21 (a4 5 rfl (.slice ar r.length cr1) hS21 (a6 6 rfl (fun _=>aJ bE rfl rfl (by omega) (aw.ok (ax _ hW2) (bp (by omega)))) (fun _=>hS21) ?_)))))))
 refine cT 7 rfl (fun w' I=>ld bz rfl (bu.get (i:=0) (aw.md (ax _ hW2) I (fun hne h=>by have h1:=Tg.blt hT1 hne; have h2:=(cG hR2.hd h).1; omega)) (by omega))) hS21 (fE 8 rfl (by kernel_rfl) (ec dV rfl rfl fun dN w120 dR cK cy=> ?_))
 have hE120:=ff cK.md
 have hR20x:=hR2.wk hE120
 have b2:(fun w'=>Md (fun q=>(Value.slice aq seen.length av).ownBlock=some q) Y w') w120:=Md.mono hE120 (fun _ _ h=>h.elim)
 refine ⟨b2,?_⟩
 refine fE 9 rfl (by kernel_rfl) (ap dV (hR20x.hd) rfl (by have :=hW2.size; have :=hE120.size; omega) rfl (aw.cU cy) (rfl) (rfl) (by omega) (by omega) fun v121 w121 b8 aS dY dW=> ?_)
 have hc121:=aS.aA hR20x.cells (cw hR20x.hd hR20x.cells (by decide))
 have ho121x:=jl b8
 have bG:(fun w'=>Md (fun q=>(Value.slice aq seen.length av).ownBlock=some q) Y w') w121:=b2.trans' aS (fun _ _ h=>h)
 refine ⟨bG,?_⟩
 refine a6 10 rfl (fun _=>nc rfl) (fun _=>bG) (a6 11 rfl (fun _=>fa k6 rfl) (fun _=>bG) (cE 12 rfl (by kernel_rfl) (by kernel_rfl) (cj x9 rfl rfl (v:=v121) (dU b8) hc121 (by show _ < 6; omega) fun w11 bw cx=> ?_)))
 have hF20:=hF2.wk hE120
 have cZ:TF w120 [11] (fun q=>(Value.slice aq seen.length av).ownBlock=some q):=TF.own hR20x.hd (by decide)
 have hF21:=hF20.md aS cZ (by decide)
 have b3:TF w121 [124] (fun q=>q=a):=TF.eq (cV hc121) (by decide)
 have hF22:=hF21.md bw b3 (by decide)
 have cO:eJ w11 J.heap.size (⟨a,A,(a7 s).length+1,.slice E (bh s).length G,vs,bh s⟩:eb) k' ln' (seen++ [r.getD 0 []]) v121:=⟨cx,bI ho121x bw b3 (by decide),hR2.lo⟩
 have c1:Wk J w11:=((hW2.trans hE120).trans' aS (fun q hq h=>by have :=(cG hR20x.hd h).1; omega)).trans' bw (fun q hq h=>by omega)
 have hrw:=l0 aT
 have hS21:iY J w11 (⟨a,A,(a7 s).length+1,.slice E (bh s).length G,vs,bh s⟩:eb) F' k' ln' (seen++ [r.getD 0 []]):=⟨_,_,hF22,cO,⟨bt.len,by rw [List.length_append,List.length_singleton]; show seen.length+1 +((bh s).drop k').length≤70000; omega,bt.row,bt.kd⟩,c1,dg⟩
 have hnx21:=qI hnx aT
 refine dG (by kernel_rfl) ?_
 exact bn (tn (⟨_,by rw [am]; have :=l0 aT; simp only [List.length_cons]; omega,aZ - 1,F',k',ln',seen++ [r.getD 0 []],hXn.1,hXn.2,hS21,hnx21,rfl,rfl,rfl⟩))
 have am:(bh s).drop k= []:=List.drop_eq_nil_of_le (by omega)
 rw [am,nI] at hX
 refine ext (te _ (te _ (be (tn (co _ _ (U (fun _ a8=>(ag (aH a) ?_))))))))
 refine p (nc rfl) (p (fa iu rfl) (p (ld il rfl ((aQ Z.cells).trans rfl)) (aj (((a8 _ _ (sq (fun _ a9=>sq (fun _ bb=> ?_)))))))))
 refine rg rfl (aj (((bb _ _ (aA ?_)))))
 obtain ⟨cs,gx,ca⟩:=bW hF.cQ
 have ho12:=hF.cQ
 rw [ca] at ho12
 have aV:Hb.aE wI.heap A 12=some (.slice cs F.rules.length gx):=by rw [← ca]; exact (aQ hF.cells).trans rfl
 have hblz:=hB.len
 refine lp (fun ab bU ce=> ∃ (i:Nat),(i≤F.rules.length)∧(∀ j q,j < i→F.rules[j]? =some q→jT F q=false)∧(Wk wI ce)∧(bU 12=aH A)∧(bU 13=ae i)∧(F.rules.length - i=ab)) _ ⟨0,(by omega),((fun j q b6=>by omega)),(Md.refl _ _),rfl,rfl,rfl⟩ ?_
 rintro ab bU ce ⟨i,hi,aX,aP,dt,du,rfl⟩
 refine fx 12 dt (fx 13 du (sq (fun _ bi=>sq (fun _ bj=> ?_))))
 have hc12x:=Wk.aE aP aV
 refine rg rfl (ag (ae i) (ag (aH A) (p (nc rfl) (p (fa jZ rfl) (p (ld kU rfl (hc12x)) (p (ba vo rfl rfl) (p (lt rfl rfl) ?_)))))))
 refine au ((bj _ _ (cd rfl (fun c4=> ?_) (fun c4=> ?_))))
 refine az (tn (bi _ _ (sq (fun _ aC=>aA (sq (fun _ aD=> ?_))))))
 have hil:i < F.rules.length:=by omega
 obtain ⟨vn,dA,bJ⟩:=eY.get hF.nx (i:=i) (by rw [List.length_map]; exact hil)
 obtain ⟨q,ay⟩:∃ q,F.rules[i]? =some q:=⟨_,List.getElem?_eq_getElem hil⟩
 have dl:(F.rules.map (·.next)).getD i []=q.next:=by rw [List.getD_eq_getElem?_getD,List.getElem?_map,ay]; rfl
 rw [dl] at bJ
 have hqnl:=hnx.2 q (List.mem_of_getElem? ay)
 obtain ⟨cu,cv,rfl⟩:=bJ.slice
 have ac:(F.rules.zip V.rn)[i]? =some (q,.slice cu q.next.length cv):=by rw [List.getElem?_zip_eq_some]; exact ⟨ay,dA⟩
 refine rg rfl (aj (((aD _ _ (aA (lp (fun ab a2 bR=> ∃ (j:Nat),(j≤q.next.length)∧(∀ aO,aO < j→jk F (q.next.getD aO 0)=true)∧(Wk wI bR)∧(a2 12=aH A)∧(a2 13=ae i)∧(a2 14=ae j)∧(q.next.length - j=ab)) _ ⟨0,(by omega),((fun aO df=>by omega)),aP,rfl,rfl,rfl,rfl⟩ ?_))))))
 rintro ab a2 bR ⟨j,b6,bO,ai,dv,dw,dy,rfl⟩
 refine fx 12 dv (fx 13 dw (fx 14 dy (sq (fun _ bk=>sq (fun _ aF=> ?_)))))
 have hc12y:=Wk.aE ai aV
 have ho12J:=aG ho12 ai
 refine rg rfl (ag (ae j) (ag (aH A) (p (nc rfl) (p (fa jZ rfl) (p (ld kU rfl (hc12y)) (ag (ae i) (p (aJ qj rfl rfl (by omega) (aw.ok ((aM ho12J).2) (qG ac))) ?_)))))))
 refine p (fa tx rfl) (p (ld m8 rfl (eQ (f:=lf) (m:=8) (fun _=>rfl) (aM ho12J).2 ac 6 (by decide))) (p (ba u64 rfl rfl) (p (lt rfl rfl) (au ((aF _ _ (cd rfl (fun c5=> ?_) (fun c5=> ?_))))))))
 refine az (tn (bk _ _ (sq (fun _ ah=>aA (sq (fun _ aK=> ?_))))))
 have hTJ:=bJ.wk ai
 have dF:(q.next.map bq)[j]? =some (bq (q.next.getD j 0)):=by rw [List.getElem?_map,List.getD_eq_getElem?_getD,List.getElem?_eq_getElem (by omega :j < q.next.length)]; rfl
 refine rg rfl (ag (aH A) (p (nc rfl) (p (fa jZ rfl) (p (ld kU rfl (hc12y)) (ag (ae i) (p (aJ qj rfl rfl (by omega) (aw.ok ((aM ho12J).2) (qG ac))) (p (fa tx rfl) ?_)))))))
 refine p (ld m8 rfl (eQ (f:=lf) (m:=8) (fun _=>rfl) (aM ho12J).2 ac 6 (by decide))) (ag (ae j) (p (aJ jY rfl rfl (by omega) (aw.ok (hTJ.bH.2) (bp (by omega)))) (p (ld bT rfl (aw.gv hTJ.bH.2 dF)) (aj (((aK _ _ (sq (fun _ bl=> ?_)))))))))
 refine rg rfl (ag (aH A) (p mv (e (cl sx (tJ J.heap.size 0 A F V (q.next.getD j 0) bR (hF.wk ai) (by omega)) rfl fun d1 d6 cM=> ?_))))
 obtain ⟨rfl,bV⟩:=cM
 have hz164:=bV.size
 refine p mv (p (xt rfl rfl) (p (xt rfl rfl) (e (al mW fun dO w16 hb16 b0 cz=>e (bY lU rfl rfl rfl rfl (cz) (by simp) fun wt30_7 cJ cB=> ?_)))))
 have M:Wk wI wt30_7:=(ai.trans (bV.trans b0.md)).trans' cJ (fun q hq h=>by have :=ai.size; omega)
 have hz16:=b0.size
 refine aj (((bl _ _ (U (fun _ aL=>(p mv (ag (aH A) (p (nc rfl) ?_))))))))
 refine p (fa qu rfl) (p (iw pL rfl rfl (by omega)) (p (ld bT rfl ((aQ (hF.wk M).cells).trans rfl)) (p (bB rfl rfl) (p mv (gs (t:=174) rfl (fun db=> ?_) (fun db=> ?_))))))
 refine pg rfl rfl rfl mv (pg rfl rfl rfl (no rfl) (pg rfl rfl rfl mv (gb (t:=177) rfl (fun aW=> ?_) (fun aW=> ?_))))
 refine sk rfl rfl rfl rfl (sk rfl rfl rfl rfl (sk rfl rfl rfl rfl (pg rfl rfl rfl (bg rfl) (p (bg rfl) (au ((aL _ _ (ct rfl ?_))))))))
 refine sq (fun _ bo=> ?_)
 have C:(fun w'=>Wk wt30_7 w') wt30_7.drew:=(Md.refl _ _).drew
 refine bD (fun w'=>Wk wt30_7 w') rfl wide C (bd 0 rfl (aH A) C (aB 1 rfl (fun _ _=>nc rfl) C (aB 2 rfl (fun _ _=>fa jZ rfl) C (aB 3 rfl (fun w' I=>ld kU rfl (Wk.aE I (Wk.aE M aV))) C (bd 4 rfl (ae i) C (aB 5 rfl (fun _ _=>aJ qj rfl rfl (by omega) (aw.ok ((aM (aG ho12 M)).2) (qG ac))) C (aB 6 rfl (fun _ _=>fa y9 rfl) C ?_)))))))
 refine aB 7 rfl (fun w' I=>ld bT rfl (Wk.aE I (eQ (f:=lf) (m:=8) (fun _=>rfl) (aM (aG ho12 M)).2 ac 7 (by decide)))) C (aB 8 rfl (fun _ _=>ak) C (aB 9 rfl (fun _ _=>ak) C (aB 10 rfl (fun _ _=>ak) C (hn (by kernel_rfl) (tn (bo _ _ (rt (br ?_))))))))
 refine tr (tr (br (br (tr (tr (br (tr ?_)))))))
 refine f3 rfl rfl rfl rfl ?_
 have bL:eM s= .error (q.line,118):=rT hsm hX.symm (lW aX ay (lQ (j:=j) (by omega) (qY (by omega) (by simpa using aW))))
 exact iZ.no bL (hE27x.trans (aN.trans (M.trans C)))
 refine pg rfl rfl rfl (fa qv rfl) (pg rfl rfl rfl (ld bT rfl ((cB.aE 1).trans rfl)) (pg rfl rfl rfl (bB rfl rfl) (pg rfl rfl rfl (a5 rfl) (p (bg rfl) (au ((aL _ _ (cd rfl (fun c6=> ?_) (fun c6=> ?_)))))))))
 refine sq (fun _ bo=> ?_)
 have C:(fun w'=>Wk wt30_7 w') wt30_7.drew:=(Md.refl _ _).drew
 refine bD (fun w'=>Wk wt30_7 w') rfl wide C (bd 0 rfl (aH A) C (aB 1 rfl (fun _ _=>nc rfl) C (aB 2 rfl (fun _ _=>fa jZ rfl) C (aB 3 rfl (fun w' I=>ld kU rfl (Wk.aE I (Wk.aE M aV))) C (bd 4 rfl (ae i) C (aB 5 rfl (fun _ _=>aJ qj rfl rfl (by omega) (aw.ok ((aM (aG ho12 M)).2) (qG ac))) C (aB 6 rfl (fun _ _=>fa y9 rfl) C ?_)))))))
 refine aB 7 rfl (fun w' I=>ld bT rfl (Wk.aE I (eQ (f:=lf) (m:=8) (fun _=>rfl) (aM (aG ho12 M)).2 ac 7 (by decide)))) C (aB 8 rfl (fun _ _=>ak) C (aB 9 rfl (fun _ _=>ak) C (aB 10 rfl (fun _ _=>ak) C (hn (by kernel_rfl) (tn (bo _ _ (rt (br ?_))))))))
 refine tr (tr (br (br (tr (tr (br (tr ?_)))))))
 refine f3 rfl rfl rfl rfl ?_
 have bL:eM s= .error (q.line,118):=rT hsm hX.symm (lW aX ay (lQ (j:=j) (by omega) (qX (by omega) (by simpa using aW) (by show ((dK F.a3 (q.next.getD j 0)).getD jV).kind≠2; omega))))
 exact iZ.no bL (hE27x.trans (aN.trans (M.trans C)))
 refine az (bn (tn (ah _ _ (rg rfl (ag (ae j) (p (ad rfl rfl (bm (by omega))) (p ak (nl ?_))))))))
 exact tn (⟨_,by omega,j+1,(by omega),((fun k hk=>by rcases Nat.lt_or_ge k j with h | h <;> first | exact bO k h | (rw [show k=j by omega]; exact AA (by simpa using aW) (by show ((dK F.a3 (q.next.getD j 0)).getD jV).kind=2; omega)))),M,rfl,rfl,rfl,rfl⟩)
 refine sk rfl rfl rfl rfl (sk rfl rfl rfl rfl (sk rfl rfl rfl rfl (eu rfl rfl rfl (eu rfl rfl rfl (eu rfl rfl rfl (sk rfl rfl rfl rfl (p (a5 rfl) ?_)))))))
 refine au ((aL _ _ (cf rfl (az (bn (tn (ah _ _ (rg rfl (ag (ae j) ?_)))))))))
 exact p (ad rfl rfl (bm (by omega))) (aj (((⟨_,by omega,j+1,(by omega),((fun k hk=>by rcases Nat.lt_or_ge k j with h | h <;> first | exact bO k h | (rw [show k=j by omega]; exact Az (by omega)))),M,rfl,rfl,rfl,rfl⟩))))
 refine ext (te _ (te _ (be (bn (tn (aC _ _ (rg rfl (ag (ae i) ?_))))))))
 exact p (ad rfl rfl (bm (by omega))) (aj (((⟨_,by omega,i+1,(by omega),((fun k dI hk bP=>by rcases Nat.lt_or_ge k i with h | h <;> first | exact aX k dI h bP | (rw [show k=i by omega,ay] at bP; cases bP; exact wO (fun aO df=>bO aO (by omega))))),ai,rfl,rfl,rfl⟩))))
 refine ext (te _ (te _ (be (tn (a9 _ _ (U (fun _ aC=>(ag (aH A) ?_))))))))
 refine p (bF (aH A) rfl) (p ak (aj (((aC _ _ (rt (f3 rfl rfl rfl rfl ?_)))))))
 unfold iZ
 rw [vX hsm hX.symm (yR (fun j q b6 hq=>aX j q (by omega) hq))]
 exact ⟨⟨J.heap.size,A,V,by have :=hE27x.size; omega,rfl,hF.wk aP,⟨seen,by have hB:=hB; rw [show (eb.rows (⟨a,A,(a7 s).length+1,.slice E (bh s).length G,vs,bh s⟩:eb)).drop k= [] from am] at hB; exact hB⟩,hnx⟩,hE27x.trans (aN.trans aP)⟩
end Go.Hb.nY
end
section
set_option maxRecDepth 20000
set_option maxHeartbeats 1000000
namespace Go.Hb.nX
open Go.Hb.di
open Go.Proofs
open Go.Hb.km Go.Hb.m4 Go.Hb.nY Go.Hb.eX Go.Hb.fH Go.Hb.fP Go.Hb.kf Go.Hb.gY Go.Hb.m5 Go.Hb.gF Go.Hb.mq Go.Hb.gr Go.Hb.fS Go.Hb.kh Go.Hb.lI Go.Hb.ml Go.Hb.mZ
def Cq (w':World) (X:Except Nat cR) (v:Value):Prop :=(∃ x a,X= .ok x∧v= .tuple #[.agg [str x.1,a].toArray,.int .i64 (0:Nat)]∧a.oneCell'=true∧Tg w' 0 3 x.2.length a (x.2.map bq))∨(∃ e,X= .error e∧e≠0∧v= .tuple #[.agg [str [],.slice none 0 0].toArray,.int .i64 (e:Nat)])
theorem vk (w:World) (B e:Nat):Tg w B e 0 (.slice none 0 0) []:=Tg.fY (size:=1) (World.ownsRow_nil _ _ _ _)
def Cv (w:World) (B:Nat) (v:Value) (xs:List cR):Prop := ∃ vs,World.ownsRow w B 68 2 v xs.length (ej (xs.zip vs))∧eY w 0 3 vs (xs.map (·.2))
def iH (F:aI) (t:Tx) (w:World) (v:Value) (w':World):Prop :=(match eO F t with | .ok xs=> ∃ a,v= .tuple #[a,.int .i64 0,.int .i64 0]∧Cv w' w.heap.size a xs | .error e=>v= .tuple #[.slice none 0 0,.int .i64 (e.1:Nat),.int .i64 (e.2:Nat)])∧Wk w w'
theorem iH.no {F:aI} {t:Tx} {w w':World} {l e:Nat} (h:eO F t= .error (l,e)) (hm:Wk w w'):iH F t w (.tuple #[.slice none 0 0,.int .i64 (l:Nat),.int .i64 (e:Nat)]) w':=by
 unfold iH; rw [h]; exact ⟨rfl,hm⟩
theorem Hz (B fb:Nat) (F:aI) (V:fp) (x:Nat) (w:World) (hF:dz w B 0 fb F V) (am:F.a3.length≤70000):
 aU Tryz.prog 86 (List.toArray [aH fb,bq x]) w (fun v w'=>v= .bool (dw F x)∧Wk w w'):=by
 have hsp5:=hF.ef
 refine enter Tryz.func86 rfl Tryz.ntmps86 rfl ?_
 refine U (fun _ I=>(aj (((I _ _ (sq (fun _ J=>U (fun _ M=> ?_))))))))
 refine aj (((M _ _ (aA (lp (fun A a wI=> ∃ (i:Nat),(i≤5)∧(∀ j,j < i→F.sp.getD j 0≠x)∧(wI=w)∧(a 0=aH fb)∧(a 1=bq x)∧(a 5=ae i)∧(5 - i=A)) _ ⟨0,(by omega),((fun j E=>by omega)),rfl,rfl,rfl,rfl,rfl⟩ ?_)))))
 rintro A a wI ⟨i,hi,G,aa,an,ao,ap,rfl⟩
 refine fx 0 an (fx 1 ao (fx 5 ap ?_))
 subst aa
 refine sq (fun _ O=>U (fun _ Y=>(ag (ae i) (p (lt rfl rfl) (au ((Y _ _ (cd rfl (fun ai=> ?_) (fun ai=> ?_)))))))))
 refine az (tn (O _ _ (sq (fun _ q=>aA (U (fun _ s=>(ag (aH fb) (ag (ae i) ?_))))))))
 refine p (nc rfl) (p (fa qu rfl) (p (iw pL rfl rfl (by omega)) (p (ld bT rfl ((aQ hF.cells).trans (zx (i:=i) (by omega)))) (ag (bq x) (p (bf rfl rfl) (au ((s _ _ ?_))))))))
 refine cd rfl (fun C=> ?_) (fun C=> ?_)
 refine U (fun _ Z=>(aj (((Z _ _ (rt (br (tr ?_))))))))
 exact tr (br (tr (f1 rfl rfl (⟨by rw [yj (show x∈F.sp from by obtain rfl :F.sp.getD i 0=x:=(by omega); exact c6 (by omega))]; rfl,Md.refl _ _⟩))))
 refine az (bn (tn (q _ _ (rg rfl (ag (ae i) (p (ad rfl rfl (bm (by omega))) (p ak (nl ?_))))))))
 exact tn (⟨_,by omega,i+1,(by omega),((fun j E=>by rcases Nat.lt_or_ge j i with h | h <;> first | exact G j h | (rw [show j=i by omega]; exact fun h2=>C (by rw [h2])))),rfl,rfl,rfl,rfl,rfl⟩)
 refine ext (te _ (te _ (be (tn (J _ _ (U (fun _ q=>(ag (aH fb) ?_))))))))
 refine ag (bq x) (e (cl sx (tJ B 0 fb F V x wI hF am) rfl fun av w23 ah=> ?_))
 obtain ⟨rfl,hE23⟩:=ah
 have hz23:=hE23.size
 refine p mv (p (xt rfl rfl) (p (xt rfl rfl) (e (al mW fun aq w6 hb6 ac hB6=>e (bY lU rfl rfl rfl rfl (hB6) (by simp) fun aw ab ar=>aj (((q _ _ ?_))))))))
 refine U (fun _ s=>(p mv (aj (((s _ _ (rt (f1 rfl rfl ?_))))))))
 exact ⟨by rw [yl (Aj (fun j E=>G j (by omega)))]; rfl,(hE23.trans ac.md).trans' ab (fun k hk h=>by omega)⟩
theorem Hj (B fb:Nat) (F:aI) (V:fp) (r:List Tx) (aP:Nat) (Z:Option Addr) (aa:Nat) (w:World) (aK:dz w B 0 fb F V) (bk:∃ seen,kg F [] seen) (hnx:Nx F) (bI:Tg w aP 9 r.length (.slice Z r.length aa) (r.map str)) (hrl:∀ x∈r,x.length≤70000) (hr:r.length≤70000):
 aU Tryz.prog 46 (List.toArray [aH fb,.slice Z r.length aa]) w (fun v w'=>Cq w' (et F r) v∧Wk w w'):=by
 obtain ⟨seen,aG⟩:=bk
 have hbl:=aG.len
 have hwl:=mV (r.getD 0 [])
 refine enter Tryz.func46 rfl Tryz.ntmps46 rfl ?_
 refine U (fun _ aQ=>(e (fT Ci fun aC w4 b0 J aF=> ?_)))
 have hz4:=J.size
 have hT:=bI.wk J.md
 have hF4:=aK.wk J.md
 have hb4x:bG w4.heap aC [str [],.slice none 0 0]:=⟨_,aF⟩
 refine aj (((aQ _ _ (sq (fun _ aZ=>U (fun _ a4=>(ag (.slice Z r.length aa) (p (ba dx rfl rfl) ?_))))))))
 refine p (bB rfl rfl) (au ((a4 _ _ (cd rfl (fun bJ=> ?_) (fun bJ=> ?_)))))
 refine U (fun _ am=>(p (bZ (ps:= []) (L:= [.string ⟨⟨[]⟩⟩,.slice none 0 0]) lx rfl (rfl)) (e (bY ky rfl rfl rfl rfl (hb4x) (by simp) fun ce bw bi=>aj (((am _ _ (rt ?_))))))))
 exact tr (dP rfl (c9 (cs:= [str [],.slice none 0 0]) rfl kr rfl (fun j a=>bi.c8 j)) dF (⟨.inr ⟨111,yC (by omega),by decide,rfl⟩,J.md.trans' bw (fun q hq h=>by omega)⟩))
 have hr1:r.length=1:=by omega
 have b2:(r.getD 0 []).length≤70000:=hrl _ (c6 (by omega))
 refine az (tn (aZ _ _ (U (fun _ am=>(ag (.slice Z r.length aa) (p (aJ bE rfl rfl (by omega) (aw.ok (hT.bH.2) (bp (by omega)))) (p (ld bz rfl (bu.get (i:=0) hT.bH.2 (by omega))) (e (cl pU (ra (r.getD 0 []) w4 (by omega)) rfl fun b3 bU bA=> ?_)))))))))
 obtain ⟨rfl,hE22⟩:=bA
 have hE22x:=J.md.trans hE22
 have hz22:=hE22.size
 refine p mv (p (xt rfl rfl) (p (xt rfl rfl) (p (xt rfl rfl) (p (xt rfl rfl) (p ak (p ak (p ak ?_)))))))
 refine aj (((am _ _ (sq (fun _ a6=>U (fun _ a7=>(p mv (p (bB rfl rfl) ?_))))))))
 refine au ((a7 _ _ (cd rfl (fun bL=> ?_) (fun bL=> ?_))))
 refine U (fun _ an=>(p (bZ (ps:= []) (L:= [.string ⟨⟨[]⟩⟩,.slice none 0 0]) lx rfl (rfl)) (p mv (e (bY ky rfl rfl rfl rfl (Wk.B hE22 hb4x) (by simp) fun cf bx bj=>aj (((an _ _ ?_))))))))
 exact rt (tr (dP rfl (c9 (cs:= [str [],.slice none 0 0]) rfl kr rfl (fun j a=>bj.c8 j)) dF (⟨.inr ⟨_,qg hr1 (by omega),(by omega),rfl⟩,hE22x.trans' bx (fun q hq h=>by omega)⟩)))
 have E:(aW (r.getD 0 [])).2.2.2=0:=by omega
 refine az (tn (a6 _ _ (U (fun _ an=>(p mv (e (cl om (oT (aW (r.getD 0 [])).1 bU (by omega)) rfl fun b4 bV bC=> ?_)))))))
 obtain ⟨rfl,hE32⟩:=bC
 have hE32x:=hE22x.trans hE32
 have hb32:=Wk.B (hE22.trans hE32) hb4x
 have hz32:=hE32.size
 refine aj (((an _ _ (sq (fun _ a8=>U (fun _ aB=>(p mv (p (bK u9 rfl rfl) ?_))))))))
 refine p (bf rfl rfl) (p mv (gs (t:=36) rfl (fun aO=> ?_) (fun aO=> ?_)))
 have aq:ei (aW (r.getD 0 [])).1=false∨(aW (r.getD 0 [])).1= []:= .inr (List.eq_nil_of_length_eq_zero (by omega))
 refine sk rfl rfl rfl rfl (sk rfl rfl rfl rfl (p (bg rfl) (au ((aB _ _ (ct rfl (U (fun _ I=> ?_))))))))
 refine p (bZ (ps:= []) (L:= [.string ⟨⟨[]⟩⟩,.slice none 0 0]) lx rfl (rfl)) (e (bY ky rfl rfl rfl rfl (hb32) (by simp) fun bW ap ao=>aj (((I _ _ (rt (tr (dP rfl (c9 (cs:= [str [],.slice none 0 0]) rfl kr rfl (fun j a=>ao.c8 j)) dF ?_))))))))
 exact ⟨.inr ⟨21,qh hr1 E aq,by decide,rfl⟩,hE32x.trans' ap (fun q hq h=>by omega)⟩
 refine pg rfl rfl rfl mv (pg rfl rfl rfl (no rfl) (p (a5 rfl) (au ((aB _ _ (cb rfl (fun ar=> ?_) (fun ar=> ?_)))))))
 have aq:ei (aW (r.getD 0 [])).1=false∨(aW (r.getD 0 [])).1= []:=by
  first
   | exact .inl (by simpa using ar)
   | exact .inr (List.eq_nil_of_length_eq_zero (by omega))
 refine U (fun _ I=>(p (bZ (ps:= []) (L:= [.string ⟨⟨[]⟩⟩,.slice none 0 0]) lx rfl (rfl)) (e (bY ky rfl rfl rfl rfl (hb32) (by simp) fun bW ap ao=>aj (((I _ _ (rt ?_))))))))
 exact tr (dP rfl (c9 (cs:= [str [],.slice none 0 0]) rfl kr rfl (fun j a=>ao.c8 j)) dF (⟨.inr ⟨21,qh hr1 E aq,by decide,rfl⟩,hE32x.trans' ap (fun q hq h=>by omega)⟩))
 have Y:(aW (r.getD 0 [])).1≠[]:=fun h=>aO (by rw [h]; rfl)
 have hby:ei (aW (r.getD 0 [])).1=true :=by simpa using ar
 refine az (tn (a8 _ _ (sq (fun _ I=>U (fun _ aR=>(p mv (p (bK u9 rfl rfl) (p (gt rfl rfl) ?_))))))))
 refine au ((aR _ _ (cd rfl (fun bM=> ?_) (fun bM=> ?_))))
 refine U (fun _ ac=>(p (bZ (ps:= []) (L:= [.string ⟨⟨[]⟩⟩,.slice none 0 0]) lx rfl (rfl)) (e (bY ky rfl rfl rfl rfl (hb32) (by simp) fun b8 bo a9=>aj (((ac _ _ (rt ?_))))))))
 exact tr (dP rfl (c9 (cs:= [str [],.slice none 0 0]) rfl kr rfl (fun j a=>a9.c8 j)) dF (⟨.inr ⟨22,yD hr1 E hby Y (by omega),by decide,rfl⟩,hE32x.trans' bo (fun q hq h=>by omega)⟩))
 refine az (tn (I _ _ (sq (fun _ ac=>U (fun _ aS=>(p mv (p (no rfl) (nl ?_))))))))
 refine tn (aS _ _ (cb rfl (fun M=> ?_) (fun M=> ?_)))
 refine U (fun _ ah=>(p mv (p (bZ (ps:= [(0,str (aW (r.getD 0 [])).1)]) (L:= [str (aW (r.getD 0 [])).1,.slice none 0 0]) lx rfl (rfl)) (e (bY ky rfl rfl rfl rfl (hb32) (by simp) fun wt12_2 bs bb=>aj (((ah _ _ ?_))))))))
 exact rt (tr (dP rfl (c9 (cs:= [str (aW (r.getD 0 [])).1,.slice none 0 0]) rfl kr rfl (fun j a=>bb.c8 j)) dF (⟨.inl ⟨_,.slice none 0 0,s6 hr1 E hby Y (by omega) (by simpa using M),rfl,rfl,vk _ _ _⟩,hE32x.trans' bs (fun q hq h=>by omega)⟩)))
 refine az (tn (ac _ _ (U (fun _ ah=>(ag (aH fb) (p mv (e (cl xM (zu B fb F V (aW (r.getD 0 [])).2.1 bV (hF4.wk (hE22.trans hE32)).r aG.kd (by omega) (by omega)) rfl fun b5 w52 bD=> ?_))))))))
 obtain ⟨⟨bX,aD,rfl,b1,hcs⟩,hE52⟩:=bD
 have hE52x:=hE32x.trans hE52
 have hb52:=Wk.B hE52 hb32
 have hz52:=hE52.size
 refine p mv (p (xt rfl rfl) (p (xt rfl rfl) (p ak (aj (((ah _ _ (sq (fun _ aT=> ?_)))))))))
 refine U (fun _ aV=>(p mv (p (bB rfl rfl) (au ((aV _ _ (cd rfl (fun aN=> ?_) (fun aN=> ?_))))))))
 have ax:aD≠0:=fun h0=>aN (by rw [h0]; rfl)
 rcases hcs with ⟨l,h,_⟩ | ⟨hne,O⟩
 exact absurd h ax
 refine U (fun _ ai=>(p (bZ (ps:= []) (L:= [.string ⟨⟨[]⟩⟩,.slice none 0 0]) lx rfl (rfl)) (p mv (e (bY ky rfl rfl rfl rfl (hb52) (by simp) fun b9 bt bc=>aj (((ai _ _ ?_))))))))
 exact rt (tr (dP rfl (c9 (cs:= [str [],.slice none 0 0]) rfl kr rfl (fun j a=>bc.c8 j)) dF (⟨.inr ⟨_,yE hr1 E hby Y (by omega) (by simpa using M) O,hne,rfl⟩,hE52x.trans' bt (fun q hq h=>by omega)⟩)))
 have ax:aD=0:=by omega
 have hcs2:=hcs.resolve_right (fun h=>h.1 ax)
 obtain ⟨set,_,O,ab⟩:=hcs2
 have hsx:=ab.slice
 obtain ⟨s,A,hq⟩:=hsx
 subst hq
 have hsl:=qo hnx.1 O
 refine az (tn (aT _ _ (sq (fun _ ai=>U (fun _ aX=>(aj (((aX _ _ ?_)))))))))
 refine aA (lp (fun aE G ay=> ∃ (j:Nat),(j≤set.length)∧(∀ q,q < j→dw F (set.getD q 0)=true)∧(Wk w52 ay)∧(G 0=aH fb)∧(G 4=aH aC)∧(G 6=str (aW (r.getD 0 [])).1)∧(G 11= .slice s set.length A)∧(G 12=ae j)∧(set.length - j=aE)) _ ⟨0,(by omega),((fun q hq=>by omega)),(Md.refl _ _),rfl,rfl,rfl,rfl,rfl,rfl⟩ ?_)
 rintro aE G ay ⟨j,a,aM,C,bO,bR,bS,bP,bQ,rfl⟩
 refine fx 0 bO (fx 4 bR (fx 6 bS (fx 11 bP (fx 12 bQ (sq (fun _ aY=>U (fun _ a0=>(ag (ae j) (ag (.slice s set.length A) (p (ba u64 rfl rfl) (p (lt rfl rfl) ?_)))))))))))
 refine au ((a0 _ _ (cd rfl (fun bN=> ?_) (fun bN=> ?_))))
 refine az (tn (aY _ _ (sq (fun _ al=>aA (U (fun _ a1=>(ag (aH fb) (ag (.slice s set.length A) ?_))))))))
 refine ag (ae j) (p (aJ jY rfl rfl (by omega) (aw.ok ((ab.wk C).bH.2) (bp (by omega)))) (p (ld bT rfl (aw.gv (ab.wk C).bH.2 (show (set.map bq)[j]? =some (bq (set.getD j 0)) by rw [List.getElem?_map,List.getD_eq_getElem?_getD,List.getElem?_eq_getElem (by omega :j < set.length)]; rfl))) ?_))
 refine e (cl Ep (Hz B fb F V (set.getD j 0) ay (aK.wk (hE52x.trans C)) (by omega)) rfl fun b6 b7 bF=> ?_)
 obtain ⟨rfl,bl⟩:=bF
 have hE70x:=C.trans bl
 have hz70:=hE70x.size
 refine aj (((a1 _ _ (U (fun _ a2=>(p mv (p (no rfl) (nl ?_))))))))
 refine tn (a2 _ _ (cb rfl (fun av=> ?_) (fun av=> ?_)))
 refine U (fun _ a3=>(p (bZ (ps:= []) (L:= [.string ⟨⟨[]⟩⟩,.slice none 0 0]) lx rfl (rfl)) (e (bY ky rfl rfl rfl rfl (Wk.B hE70x hb52) (by simp) fun ca bv bd=>aj (((a3 _ _ (rt ?_))))))))
 exact br (tr (tr (br (tr (dP rfl (c9 (cs:= [str [],.slice none 0 0]) rfl kr rfl (fun j a=>bd.c8 j)) dF (⟨.inr ⟨120,yF hr1 E hby Y (by omega) (by simpa using M) O (i:=j) (by omega) (by simpa using av),by decide,rfl⟩,(hE52x.trans hE70x).trans' bv (fun q hq h=>by omega)⟩))))))
 refine az (bn (tn (al _ _ (rg rfl (ag (ae j) (p (ad rfl rfl (bm (by omega))) (p ak (nl ?_))))))))
 exact tn (⟨_,by omega,j+1,(by omega),((fun q hq=>by rcases Nat.lt_or_ge q j with h | h <;> first | exact aM q h | (rw [show q=j by omega]; simpa using av))),hE70x,rfl,rfl,rfl,rfl,rfl,rfl⟩)
 refine ext (te _ (te _ (be (tn (ai _ _ (U (fun _ al=>(ag (str (aW (r.getD 0 [])).1) ?_))))))))
 refine ag (.slice s set.length A) (p (bZ (ps:= [(0,str (aW (r.getD 0 [])).1),(1,.slice s set.length A)]) (L:= [str (aW (r.getD 0 [])).1,.slice s set.length A]) lx rfl (rfl)) (e (bY ky rfl rfl rfl rfl (Wk.B C hb52) (by simp) fun cc aL bh=>aj (((al _ _ (rt (dP rfl (c9 (cs:= [str (aW (r.getD 0 [])).1,.slice s set.length A]) rfl kr rfl (fun j a=>bh.c8 j)) dF ?_))))))))
 exact ⟨.inl ⟨((aW (r.getD 0 [])).1,set),.slice s set.length A,s7 hr1 E hby Y (by omega) (by simpa using M) O (fun j a=>aM j (by omega)),rfl,rfl,(ab.wk C).md aL (dM (Wk.aA ((hE22.trans (hE32.trans hE52)).trans C) aF) (by decide))⟩,(hE52x.trans C).trans' aL (fun q hq h=>by omega)⟩
theorem HB (a:Option Addr) (c:Nat) (xs:List cR) (vs:List Value) (s:Tx) (w:World) (hC:aw w.heap a (ej (xs.zip vs))) (hvl:vs.length=xs.length) (aC:xs.length≤70000):
 aU Tryz.prog 26 (List.toArray [.slice a xs.length c,str s]) w (fun v w'=>World.ownsRow w' w.heap.size 3 1 v (idxs s xs).length ((idxs s xs).map bq)∧Wk w w'):=by
 refine enter Tryz.func26 rfl Tryz.ntmps26 rfl ?_
 refine U (fun _ V=>(aj (((V _ _ (U (fun _ Y=>(p ak ?_))))))))
 refine au ((Y _ _ (sq (fun _ Z=>U (fun _ aa=>(aj (((aa _ _ ?_)))))))))
 refine aA (lp (fun I A wI=> ∃ (i:Nat) (v:Value),(i≤xs.length)∧(World.ownsRow wI w.heap.size 3 1 v (idxs s (xs.take i)).length ((idxs s (xs.take i)).map bq))∧(Wk w wI)∧(A 0= .slice a xs.length c)∧(A 1=str s)∧(A 5=v)∧(A 6=ae i)∧(xs.length - i=I)) _ ⟨0,.slice none 0 0,(by omega),(World.ownsRow_nil _ _ _ _),(Md.refl _ _),rfl,rfl,rfl,rfl,rfl⟩ ?_)
 rintro I A wI ⟨i,v,hi,q,j,am,an,ao,aq,rfl⟩
 refine fx 0 am (fx 1 an (fx 5 ao (fx 6 aq (sq (fun _ ab=>U (fun _ ac=>(ag (ae i) (ag (.slice a xs.length c) (p (ba o6 rfl rfl) (p (lt rfl rfl) ?_))))))))))
 refine au ((ac _ _ (cd rfl (fun hc10=> ?_) (fun hc10=> ?_))))
 refine az (tn (ab _ _ (sq (fun _ C=>aA (sq (fun _ ah=> ?_))))))
 obtain ⟨x,M⟩:∃ x,xs[i]? =some x:=⟨_,List.getElem?_eq_getElem (by omega)⟩
 obtain ⟨u,ar⟩:∃ u,vs[i]? =some u:=⟨_,List.getElem?_eq_getElem (by omega)⟩
 have J:(xs.zip vs)[i]? =some (x,u):=List.getElem?_zip_eq_some.2 ⟨M,ar⟩
 have O:xs.getD i ([],[])=x:=by rw [List.getD_eq_getElem?_getD,M]; rfl
 refine rg rfl (ag (.slice a xs.length c) (ag (ae i) (p (aJ nk rfl rfl (by omega) (aw.ok (hC.wk j) (g7 J))) (p (fa oD rfl) (p (ld bz rfl (eQ (f:=fW) (m:=2) (fun _=>rfl) (hC.wk j) J 0 (by decide))) (ag (str s) (p (cI rfl rfl) ?_)))))))
 refine au ((ah _ _ (cd rfl (fun G=> ?_) (fun G=> ?_))))
 refine rg rfl (ag (v) (ag (ae i) (e (ec jM rfl rfl fun ax aD ay E ai=> ?_))))
 have hE22:=j.trans E.md
 refine e (ap jM (aG q E.md) rfl (by have :=hE22.size; omega) rfl (aw.cU ai) (rfl) (rfl) (by have :=mJ s (xs.take i); rw [List.length_take] at this; omega) (by have :=mJ s (xs.take i); rw [List.length_take] at this; omega) fun av w23 ho23 al hz23 aB=> ?_)
 have hE23:=Wk.own hE22 (aG q E.md) al (Nat.le_refl _)
 refine p ak (nl (bn (tn (C _ _ (rg rfl (ag (ae i) (p (ad rfl rfl (bm (by omega))) (p ak ?_))))))))
 exact au ((⟨_,by omega,i+1,av,(by omega),((by rw [zR (by omega),O,if_pos G,List.map_append,List.length_append]; exact ho23)),hE23,rfl,rfl,rfl,rfl,rfl⟩))
 refine az (bn (tn (C _ _ (rg rfl (ag (ae i) (p (ad rfl rfl (bm (by omega))) (p ak (nl ?_))))))))
 exact tn (⟨_,by omega,i+1,v,(by omega),((by rw [zR (by omega),O,if_neg G,List.append_nil]; exact q)),j,rfl,rfl,rfl,rfl,rfl⟩)
 refine ext (te _ (te _ (be (tn (Z _ _ (U (fun _ C=>(ag (v) ?_))))))))
 refine p (bF (v) rfl) (au ((C _ _ (rt (f1 rfl rfl ?_)))))
 rw [List.take_of_length_le (by omega)] at q
 exact ⟨q,j⟩
end Go.Hb.nX
end
section
set_option maxRecDepth 20000
set_option maxHeartbeats 1000000
namespace Go.Hb.rP
open Go.Hb.di
open Go.Proofs
open Go.Hb.km Go.Hb.m4 Go.Hb.nY Go.Hb.eX Go.Hb.fH Go.Hb.fP Go.Hb.kf Go.Hb.gY Go.Hb.m5 Go.Hb.gF Go.Hb.mq Go.Hb.gr Go.Hb.fS Go.Hb.kh Go.Hb.lI Go.Hb.ml Go.Hb.mZ Go.Hb.nX
theorem zK {r:List Tx} (h:r.length≠1):hY r=(0,111):=if_pos h
theorem HX {r:List Tx} (h:r.length=1):hY r=cJ (r.getD 0 []) 8192:=if_neg (fun h2=>h2 h)
theorem zq (B fb:Nat) (F:aI) (V:fp) (t:Tx) (w:World) (b2:dz w B 0 fb F V) (b0:∃ seen,kg F [] seen) (hnx:Nx F) (hs:t.length≤1048576):
 aU Tryz.prog 14 (List.toArray [aH fb,str t]) w (iH F t w):=by
 refine enter Tryz.func14 rfl Tryz.ntmps14 rfl ?_
 refine U (fun _ bw=>(p ak (p ak (aj (((bw _ _ (sq (fun _ bL=> ?_)))))))))
 refine rg rfl (ag (str t) (e (cl xw (A4 t _ hs) rfl fun cI w17 b3=> ?_)))
 obtain ⟨⟨cz,rfl,hcs⟩,hE17⟩:=b3
 refine p mv (p (xt rfl rfl) (p (xt rfl rfl) (p ak (aj (((bL _ _ (sq (fun _ bP=> ?_)))))))))
 refine U (fun _ bQ=>(p mv (p (bB rfl rfl) (au ((bQ _ _ (cd rfl (fun aN=> ?_) (fun aN=> ?_))))))))
 have a3:65536 < t.length:=Classical.byContradiction fun h=>aN (by rw [if_neg h])
 refine U (fun _ ay=>(p mv (p ak (p ak (aj (((ay _ _ ?_))))))))
 refine rt (tr (f3 rfl rfl rfl rfl ?_))
 have h:=iH.no (F:=F) (yr a3) hE17
 show iH F t w (.tuple #[.slice none 0 0,.int .i64 0,.int .i64 (if 65536 < t.length then 10 else 0)]) _
 rw [if_pos a3]
 exact h
 have hsm:¬65536 < t.length:=fun h=>aN (by rw [if_pos h]; decide)
 rw [if_neg hsm] at hcs
 obtain ⟨vs,bl,aP⟩:=hcs
 obtain ⟨ac,ah,rfl⟩:=bW bl
 have hrl:=q6 t
 have hCr0:=(aM bl).2
 have hvl:=aP.1
 refine az (tn (bP _ _ (U (fun _ ay=>(ag (str t) (e (cl sv (uR t _ hs) rfl fun cK J b4=> ?_)))))))
 obtain ⟨ci,hE24⟩:=b4
 obtain ⟨bs,og,rfl⟩:=bW ci
 have hE24x:=hE17.trans hE24
 have hll:=j6 t
 have hCr:=hCr0.wk hE24
 refine aj (((ay _ _ (sq (fun _ bR=>U (fun _ bS=>(p mv (p (ba rD rfl rfl) ?_))))))))
 refine p (bf rfl rfl) (au ((bS _ _ (cd rfl (fun aO=> ?_) (fun aO=> ?_)))))
 have hnil:bh t= []:=List.eq_nil_of_length_eq_zero (by omega)
 refine U (fun _ aC=>(p mv (p (ba dx rfl rfl) (p (bc (((a7 t).length+1:Nat):Int) rfl rfl (aR (by omega) (by omega))) (p ak (p ak (p ak ?_)))))))
 exact au ((aC _ _ (rt (tr (f3 rfl rfl rfl rfl (iH.no (yt hsm hnil) hE24x))))))
 obtain ⟨⟨ln0,s⟩,rest,hrw⟩:∃ q rest,bh t=q::rest:=by
  cases h:bh t with
  | nil=>rw [h] at aO; exact absurd rfl aO
  | cons q rest=>exact ⟨q,rest,rfl⟩
 have bo:(bh t)[0]? =some (ln0,s):=by rw [hrw]; rfl
 obtain ⟨bt,ai⟩:∃ p,vs[0]? =some p:=⟨_,List.getElem?_eq_getElem (by omega)⟩
 obtain ⟨aD,aT⟩:=aP.2 0 bt (ln0,s) ai bo
 obtain ⟨p1,cv⟩:=bt
 obtain rfl :ln0=p1:=aD.symm
 obtain ⟨aQ,c0,hp2⟩:=aT.slice
 obtain rfl :cv= .slice aQ s.length c0:=hp2
 have a2:Tg J w.heap.size 9 s.length (.slice aQ s.length c0) (s.map str):=aT.wk hE24
 have bg:∀ q∈bh t,q.2.length≤70000∧∀ x∈q.2,x.length≤70000:=fun q hq=>by
  have h:=q7 hq
  exact ⟨by omega,fun x cu=>by have :=(h.2.2.2.2 x cu).2; omega⟩
 have hm0:s.length≤70000∧∀ x∈s,x.length≤70000:=bg (ln0,s) (List.mem_of_getElem? bo)
 refine az (tn (bR _ _ (sq (fun _ aC=>U (fun _ bU=>(p mv (p (aJ jX rfl rfl (by omega) (aw.ok (hCr) (iD (by omega)))) (p (fa oC rfl) ?_))))))))
 refine p (ld gl rfl (iF (i:=0) hCr ai 1 (by decide))) (p (ba dx rfl rfl) (p (bB rfl rfl) (au ((bU _ _ (cd rfl (fun a4=> ?_) (fun a4=> ?_)))))))
 have bi:s.length≠1:=by omega
 obtain ⟨e36,a9,b9⟩:=sU (F:=F) hsm hrw (by rw [zK bi]; decide)
 rw [zK bi] at a9
 obtain rfl :e36=111:=by have h:(111:Int)=e36:=a9; omega
 refine sq (fun _ ao=> ?_)
 have I:(fun w'=>Wk J w') J.drew:=(Md.refl _ _).drew
 refine bD (fun w'=>Wk J w') rfl wide I (aB 0 rfl (fun _ _=>mv) I (aB 1 rfl (fun _ _=>aJ jX rfl rfl (by omega) (aw.ok (hCr) (iD (by omega)))) I (aB 2 rfl (fun _ _=>fa nr rfl) I (aB 3 rfl (fun w' O=>ld bT rfl (Wk.aE O (iF (i:=0) hCr ai 0 (by decide)))) I (aB 4 rfl (fun _ _=>ak) I (aB 5 rfl (fun _ _=>ak) I (aB 6 rfl (fun _ _=>ak) I ?_)))))))
 exact hn (by kernel_rfl) (tn (ao _ _ (rt (tr (f3 rfl rfl rfl rfl (iH.no b9 (hE24x.trans I)))))))
 have hr1:s.length=1:=by have h:¬((s.length:Nat):Int)≠1:=a4; omega
 refine az (tn (aC _ _ (U (fun _ ao=>(p mv (p (aJ jX rfl rfl (by omega) (aw.ok (hCr) (iD (by omega)))) (p (fa oC rfl) (p (ld gl rfl (iF (i:=0) hCr ai 1 (by decide))) ?_))))))))
 refine p (aJ bE rfl rfl (by omega) (aw.ok (a2.bH.2) (bp (by omega)))) (p (ld bz rfl (bu.get (i:=0) a2.bH.2 (by omega))) (e (cl mB (mR (s.getD 0 []) 8192 J (by have :=hm0.2 _ (c6 (d:= []) (show 0 < s.length by omega)); omega) (by omega)) rfl fun cL w48 b5=> ?_)))
 obtain ⟨rfl,hE48⟩:=b5
 have hE48x:=hE24x.trans hE48
 have hnum:=HX (show s.length=1 by omega)
 refine p mv (p (xt rfl rfl) (p (xt rfl rfl) (p ak (aj (((ao _ _ (sq (fun _ bx=> ?_)))))))))
 refine U (fun _ bA=>(p mv (p (bB rfl rfl) (au ((bA _ _ (cd rfl (fun a5=> ?_) (fun a5=> ?_))))))))
 obtain ⟨cB,bb,aL⟩:=sU (F:=F) hsm hrw (by rw [hnum]; exact a5)
 rw [hnum] at bb
 refine sq (fun _ aq=> ?_)
 have E:(fun w'=>Wk w48 w') w48.drew:=(Md.refl _ _).drew
 refine bD (fun w'=>Wk w48 w') rfl wide E (aB 0 rfl (fun _ _=>mv) E (aB 1 rfl (fun _ _=>aJ jX rfl rfl (by omega) (aw.ok ((hCr.wk hE48)) (iD (by omega)))) E (aB 2 rfl (fun _ _=>fa nr rfl) E (aB 3 rfl (fun w' O=>ld bT rfl (Wk.aE O (iF (i:=0) (hCr.wk hE48) ai 0 (by decide)))) E (aB 4 rfl (fun _ _=>mv) E (aB 5 rfl (fun _ _=>ak) E (aB 6 rfl (fun _ _=>ak) E ?_)))))))
 refine aB 7 rfl (fun _ _=>ak) E (hn (by kernel_rfl) (tn (aq _ _ (rt (tr (f3 rfl rfl rfl rfl ?_))))))
 have h:=iH.no aL (hE48x.trans E)
 show iH F t w (.tuple #[.slice none 0 0,ae ln0,.int .i64 (cJ (s.getD 0 []) 8192).2]) _
 rw [bb]
 exact h
 obtain ⟨n,hn0,cG,aL⟩:=yo (F:=F) hsm hrw (by rw [hnum]; omega)
 rw [hnum] at hn0
 have b8:fk F ((a7 t).length+1) (eO F t) [] (n - 0) ((bh t).drop (0 +1)):=by rw [aL,hrw]; exact fk.start
 obtain ⟨seen,bZ⟩:=b0
 refine az (tn (bx _ _ (U (fun _ aq=>(aj (((aq _ _ (sq (fun _ bC=> ?_))))))))))
 refine U (fun _ bI=>(aj (((bI _ _ (aA (lp (fun aV Y wI=> ∃ (i:Nat) (xs:List cR) (vx:List Value) (M:Option Addr) (co:Nat),(i+1≤(bh t).length∧i≤n)∧(xs.length=i)∧(fk F ((a7 t).length+1) (eO F t) xs (n - i) ((bh t).drop (i+1)))∧(World.ownsRow wI J.heap.size 68 2 (.slice M xs.length co) xs.length (ej (xs.zip vx)))∧(eY wI 0 3 vx (xs.map (·.2)))∧(Wk J wI)∧(Y 0=aH fb)∧(Y 7= .slice ac (bh t).length ah)∧(Y 9= .slice bs (a7 t).length og)∧(Y 10=ae n)∧(Y 11= .slice M xs.length co)∧(Y 12=ae (i+1))∧((bh t).length - i=aV)) _ ⟨0,[],[],none,0,(by omega),rfl,b8,(World.ownsRow_nil _ _ _ _),(eY.nil _ _ _),hE48,rfl,rfl,rfl,(by first | rfl | (rw [← hn0]; rfl)),rfl,rfl,rfl⟩ ?_)))))))
 rintro aV Y wI ⟨i,xs,vx,M,co,hi,hxl,G,a1,hal,A,cm,cr,cs,cn,cp,cq,rfl⟩
 refine fx 0 cm (fx 7 cr (fx 9 cs (fx 10 cn (fx 11 cp (fx 12 cq (sq (fun _ bJ=>U (fun _ bK=>(ag (ae (i+1)) (ag (.slice ac (bh t).length ah) (p (ba rD rfl rfl) (p (lt rfl rfl) ?_))))))))))))
 refine au ((bK _ _ (cd rfl (fun cc=> ?_) (fun cc=> ?_))))
 refine az (tn (bJ _ _ (sq (fun _ ar=>aA (sq (fun _ av=>sq (fun _ aa=> ?_)))))))
 obtain ⟨⟨ln,r⟩,hri⟩:∃ q,(bh t)[i+1]? =some q:=⟨_,List.getElem?_eq_getElem (by omega)⟩
 have cg:(bh t).drop (i+1)=(ln,r)::(bh t).drop (i+2):=by rw [List.drop_eq_getElem_cons (by omega)]; rw [List.getElem?_eq_getElem (by omega)] at hri; rw [Option.some.inj hri]
 obtain ⟨p,am⟩:∃ p,vs[i+1]? =some p:=⟨_,List.getElem?_eq_getElem (by omega)⟩
 obtain ⟨aD,al⟩:=aP.2 (i+1) p (ln,r) am hri
 obtain ⟨pn,cw⟩:=p
 obtain rfl :ln=pn:=aD.symm
 obtain ⟨a,c,ck⟩:=al.slice
 obtain rfl :cw= .slice a r.length c:=ck
 have al:Tg w17 w.heap.size 9 r.length (.slice a r.length c) (r.map str):=al
 have hmr:r.length≤70000∧∀ x∈r,x.length≤70000:=bg (ln,r) (List.mem_of_getElem? hri)
 rw [cg] at G
 refine rg rfl (ag (ae (i+1)) (ag (ae n) (p (gt rfl rfl) (au ((aa _ _ (cd rfl (fun ce=> ?_) (fun ce=> ?_))))))))
 refine sq (fun _ ax=> ?_)
 have hS17:(fun w'=>Wk wI w') wI.drew:=(Md.refl _ _).drew
 refine bD (fun w'=>Wk wI w') rfl wide hS17 (bd 0 rfl (.slice ac (bh t).length ah) hS17 (bd 1 rfl (ae (i+1)) hS17 (aB 2 rfl (fun _ _=>aJ jX rfl rfl (by omega) (aw.ok ((hCr.wk A)) (iD (by omega)))) hS17 (aB 3 rfl (fun _ _=>fa nr rfl) hS17 (aB 4 rfl (fun w' O=>ld bT rfl (Wk.aE O (iF (hCr.wk A) am 0 (by decide)))) hS17 (aB 5 rfl (fun _ _=>ak) hS17 (aB 6 rfl (fun _ _=>ak) hS17 ?_)))))))
 refine aB 7 rfl (fun _ _=>ak) hS17 (hn (by kernel_rfl) (tn (ax _ _ (rt (tr (br (tr (tr ?_))))))))
 refine br (tr (f3 rfl rfl rfl rfl ?_))
 rw [show n - i=0 by omega] at G
 exact iH.no G.more (hE24x.trans (A.trans hS17))
 refine az (tn (av _ _ (U (fun _ ax=>(ag (aH fb) (ag (.slice ac (bh t).length ah) (ag (ae (i+1)) (p (aJ jX rfl rfl (by omega) (aw.ok ((hCr.wk A)) (iD (by omega)))) ?_))))))))
 refine p (fa oC rfl) (p (ld gl rfl (iF (hCr.wk A) am 1 (by decide))) (e (cl D6 (Hj B fb F V r w.heap.size a c wI (b2.wk (hE24x.trans A)) ⟨seen,bZ⟩ hnx ((al.wk hE24).wk A) hmr.2 hmr.1) rfl fun cx w79 b6=> ?_)))
 obtain ⟨b1,aY⟩:=b6
 obtain ⟨Z,ab,bX,rfl,bk,a8⟩:∃ (u:Tx) (a:Value) (e:Nat),cx= .tuple #[.agg [str u,a].toArray,ae e]∧a.oneCell'=true∧((e=0∧∃ l,et F r= .ok (u,l)∧Tg w79 0 3 l.length a (l.map bq))∨(e≠0∧et F r= .error e)):=by
  rcases b1 with ⟨x,a,h1,h2,h3,h4⟩ | ⟨e,h1,h2,h3⟩
  exact ⟨x.1,a,0,h2,h3,.inl ⟨rfl,x.2,h1,h4⟩⟩
  exact ⟨_,_,e,h3,rfl,.inr ⟨h2,h1⟩⟩
 have hz79:=aY.size
 refine p mv (p (xt rfl rfl) (p (xt rfl rfl) (e (fT Ci fun aS w13 cC aK aW=> ?_))))
 have hz13:=aK.size
 refine e (gj ky rfl rfl rfl (rC bk) aW (by decide) fun w18 aZ hB18=> ?_)
 have aX:Wk wI w18:=(aY.trans aK.md).trans' aZ (fun q hq h=>by omega)
 have cb:w18.heap[aS]? =some (.cells [str Z,ab].toArray 68 (0,0)):=hB18
 have hEc:=A.trans aX
 refine aj (((ax _ _ (sq (fun _ bM=>U (fun _ bN=>(p mv (p (bB rfl rfl) ?_))))))))
 refine au ((bN _ _ (cd rfl (fun a6=> ?_) (fun a6=> ?_))))
 have hq83:=a8.resolve_left (fun h=>a6 (by rw [h.1]; rfl))
 obtain ⟨hne,hex⟩:=hq83
 refine sq (fun _ bO=> ?_)
 have C:(fun w'=>Wk w18 w') w18.drew:=(Md.refl _ _).drew
 refine bD (fun w'=>Wk w18 w') rfl wide C (bd 0 rfl (.slice ac (bh t).length ah) C (bd 1 rfl (ae (i+1)) C (aB 2 rfl (fun _ _=>aJ jX rfl rfl (by omega) (aw.ok ((hCr.wk hEc)) (iD (by omega)))) C (aB 3 rfl (fun _ _=>fa nr rfl) C (aB 4 rfl (fun w' O=>ld bT rfl (Wk.aE O (iF (hCr.wk hEc) am 0 (by decide)))) C (aB 5 rfl (fun _ _=>mv) C (aB 6 rfl (fun _ _=>ak) C ?_)))))))
 refine aB 7 rfl (fun _ _=>ak) C (aB 8 rfl (fun _ _=>ak) C (hn (by kernel_rfl) (tn (bO _ _ (rt (tr (br (tr ?_))))))))
 exact tr (br (tr (f3 rfl rfl rfl rfl (iH.no (G.bad (by omega) hex) (hE24x.trans (hEc.trans C))))))
 have ch:bX=0:=by omega
 have hq83:=a8.resolve_right (fun h=>h.1 ch)
 obtain ⟨_,an,hex,b7⟩:=hq83
 refine az (tn (bM _ _ (rg rfl (ag (.slice M xs.length co) (p (dB kr rfl (rfl) (show ∀ j,j < 2→Hb.aE w18.heap aS (0 +j)= [str Z,ab][j]? from fun j cF=>bG.c8 ⟨_,cb⟩ j)) (e (im Bv rfl rfl rfl fun cA cM cD a0 bY=> ?_)))))))
 have hE92:=aX.trans a0.md
 have ho92:=aG a1 hE92
 have hz92:=hE92.size
 refine e (ap Bv (ho92) rfl (by have :=A.size; omega) rfl (aw.cU bY) (rfl) (rC bk) (by omega) (by omega) fun cy bv cj aF cH cE=> ?_)
 have hE93:=Wk.own (A.trans hE92) ho92 aF (Nat.le_refl _)
 have bj:World.ownsRow bv J.heap.size 68 2 cy (xs++ [(Z,an)]).length (ej ((xs++ [(Z,an)]).zip (vx++ [ab]))):=by
  have hl:xs.length=vx.length:=by have :=hal.1; rw [List.length_map] at this; omega
  rw [List.zip_append hl,List.zip_cons_cons,List.zip_nil_right,yA,List.length_append]; exact cj
 have ca:eY bv 0 3 (vx++ [ab]) ((xs++ [(Z,an)]).map (·.2)):=by
  rw [List.map_append]
  exact (((hal.wk hE92).md aF (eT ho92 (by decide))).snoc (((b7.wk aK.md).md aZ (dM aW (by decide))).wk a0.md |>.md aF (eT ho92 (by decide))))
 obtain ⟨bV,pV,ct⟩:=bW bj
 subst ct
 refine p ak (nl (bn (tn (ar _ _ (rg rfl (ag (ae (i+1)) (p (ad rfl rfl (bm (by omega))) (p ak ?_))))))))
 exact au ((⟨_,by omega,i+1,xs++ [(Z,an)],vx++ [ab],bV,pV,(by omega),((by rw [List.length_append,hxl]; rfl)),((by rw [show n - (i+1)=n - i - 1 by omega]; exact G.step (by omega) hex)),bj,ca,hE93,rfl,rfl,rfl,(by first | rfl | (rw [← hn0]; rfl)),rfl,rfl,rfl⟩))
 refine ext (te _ (te _ (be (tn (bC _ _ (sq (fun _ ar=>U (fun _ av=> ?_))))))))
 refine ag (.slice M xs.length co) (p (ba o6 rfl rfl) (ag (ae n) (p (lt rfl rfl) (au ((av _ _ (cd rfl (fun cf=> ?_) (fun cf=> ?_))))))))
 refine U (fun _ aa=>(ag (.slice bs (a7 t).length og) (p (ba dx rfl rfl) (p (bc (((a7 t).length+1:Nat):Int) rfl rfl (aR (by omega) (by omega))) (p ak (p ak (p ak ?_)))))))
 refine au ((aa _ _ (rt (tr (f3 rfl rfl rfl rfl ?_)))))
 rw [List.drop_eq_nil_of_le (by omega)] at G
 exact iH.no (G.ends (by omega)) (hE24x.trans A)
 refine az (tn (ar _ _ (U (fun _ aa=>(ag (.slice M xs.length co) (p (bF (.slice M xs.length co) rfl) (p ak (p ak ?_))))))))
 refine au ((aa _ _ (rt (f3 rfl rfl rfl rfl ?_))))
 rw [List.drop_eq_nil_of_le (by omega),show n - i=0 by omega] at G
 have hX:=G.done
 unfold iH
 rw [hX]
 exact ⟨⟨_,rfl,⟨vx,gi a1 hE24x.size,hal⟩⟩,hE24x.trans A⟩
end Go.Hb.rP
end
section
set_option maxRecDepth 20000
set_option maxHeartbeats 1000000
namespace Go.Hb.pd
open Go.Proofs
open Go.Hb.fP Go.Hb.iG Go.Hb.gY Go.Hb.lF
def Ny (F:aI):Prop := ∀ l∈F.aliases,∀ x∈l,x < 65536
theorem zk {kind:Nat} {s:Tx} {l:List Nat} (h:iP kind s= .ok l):∀ x∈l,x < 65536:=by
 unfold iP at h
 split at h
 · cases h
 · cases h
   intro x a
   unfold cX at a
   repeat' split at a
   all_goals first
    | (cases a; done)
    | (rw [Aw] at a
       obtain ⟨y,_,rfl⟩:=List.mem_map.1 a
       exact yV _ _)
theorem CJ {kind ln:Nat} {row:List Tx} {l:List Nat} (h:gR kind ln row= .ok l):∀ x∈l,x < 65536:=by
 unfold gR at h
 split at h
 · cases h
 · exact zk h
theorem GR {kind:Nat} {al:List (List Nat)} {s:Tx} {l:List Nat} (hal:∀ l∈al,∀ x∈l,x < 65536) (h:ed kind al s= .ok l):∀ x∈l,x < 65536:=by
 unfold ed at h
 split at h
 · exact zk h
 · split at h
   · cases h
   · split at h
     · cases h
     · cases h
       rename_i n _ _
       rw [List.getD_eq_getElem?_getD]
       cases hg:al[n - 1]? with
       | none=>simp
       | some y=>exact hal y (List.mem_of_getElem? hg)
theorem H2 {eof ln:Nat} {F F':aI} {hs:List Tx} {rows rows':List Rw} {row:List Tx} (h:Ny F) (a:bA eof F hs rows ln row= .ok (F',rows')):Ny F':=by
 unfold bA at a
 repeat' split at a
 · unfold gO at a; repeat' split at a
   all_goals first | (cases a; done) | (cases a; exact h)
 · unfold gT at a; repeat' split at a
   all_goals first | (cases a; done) | (cases a; exact h)
 · unfold jK at a; repeat' split at a
   all_goals first | (cases a; done) | (cases a; exact h)
 · unfold jO at a; repeat' split at a
   all_goals first | (cases a; done) | (cases a; exact h)
 · unfold ib at a; repeat' split at a
   all_goals first | (cases a; done) | (cases a; exact h)
 · unfold gM at a; repeat' split at a
   all_goals first | (cases a; done) | (cases a; exact h)
 · unfold gu at a
   split at a
   · cases a
   · split at a
     · cases a
     · split at a
       · cases a
       · rename_i r hg
         cases a
         intro l hl
         rcases List.mem_append.1 hl with hl | hl
         · exact h l hl
         · obtain ⟨_,_,h2⟩:=tO _ _ _ hg l hl
           exact CJ h2
 · unfold eN at a; repeat' split at a
   all_goals first | (cases a; done) | (cases a; exact h)
theorem Kn {eof:Nat} :∀ (k:Nat) (F F':aI) (hs:List Tx) (rows:List Rw),Ny F→eH eof k F hs rows= .ok F'→Ny F':=by
 intro k
 induction k with
 | zero=>intro F F' hs rows h a; rw [eH] at a; split at a <;> cases a; exact h
 | succ k ih=>
   intro F F' hs rows h a
   cases rows with
   | nil=>rw [nI] at a; cases a; exact h
   | cons q rows=>
     rw [eH] at a
     split at a
     · cases a
     · split at a
       · cases a
       · split at a
         · cases a
         · split at a
           · cases a
           · rename_i r hr
             exact ih _ _ _ _ (H2 (rows':=r.2) h hr) a
theorem CF {s:Tx} {F:aI} (h:eM s= .ok F):Ny F:=by
 unfold eM at h
 split at h
 · cases h
 · split at h
   · cases h
   · rename_i f hf
     split at h
     · cases h
     · cases h
       exact Kn _ _ _ _ _ (fun l hl=>by cases hl) hf
def m3 (x:cR):Prop :=x.1.length≤64∧x.2.length≤64∧(∀ y∈x.2,y < 65536)
theorem qg {F:aI} {row:List Tx} {x:cR} (h1:Nx F) (h2:Ny F) (h:et F row= .ok x):m3 x:=by
 unfold et at h
 split at h
 · cases h
 · split at h
   · cases h
   · split at h
     · cases h
     · split at h
       · cases h
       · split at h
         · cases h; exact ⟨by simp only; omega,by simp,fun y hy=>by cases hy⟩
         · split at h
           · cases h
           · rename_i hf
             split at h
             · cases h
               exact ⟨by simp only; omega,qo h1.1 hf,GR h2 hf⟩
             · cases h
theorem Gk {F:aI} {eof:Nat} (h1:Nx F) (h2:Ny F):∀ {n:Nat} {rows:List Rw} {r:List cR},ek F eof n rows= .ok r→∀ x∈r,m3 x:=by
 intro n
 induction n with
 | zero=>
   intro rows r h
   cases rows with
   | nil=>rw [ek] at h; cases h; intro x a; cases a
   | cons q rows=>rw [ek] at h; cases h
 | succ n ih=>
   intro rows r h
   cases rows with
   | nil=>rw [ek] at h; cases h
   | cons q rows=>
     rw [ek] at h
     split at h
     · cases h
     · rename_i he
       split at h
       · cases h
       · rename_i hr
         cases h
         intro x a
         rcases List.mem_cons.1 a with rfl | a
         · exact qg h1 h2 he
         · exact ih hr x a
theorem F6 {F:aI} {t:Tx} {xs:List cR} (h1:Nx F) (h2:Ny F) (h:eO F t= .ok xs):(∀ x∈xs,m3 x)∧xs.length≤8192:=by
 unfold eO at h
 split at h
 · cases h
 · split at h
   · cases h
   · split at h
     · cases h
     · split at h
       · cases h
       · rename_i hn
         refine ⟨Gk h1 h2 h,?_⟩
         have hl:=(Gl h).1
         unfold dy at hn
         split at hn
         · cases hn
         · cases hn
           rename_i h0
           have :=l7 _ 8192 (Classical.not_not.1 h0)
           omega
theorem lX {F:aI} {s:Tx} {e:Nat} (h:eF F s= .error e):e≠0:=by
 unfold eF at h; repeat' split at h
 all_goals first | (cases h; done) | (cases h; decide) | (cases h; assumption)
theorem zj {k:Nat} {s:Tx} {e:Nat} (h:iP k s= .error e):e≠0:=by
 unfold iP at h; repeat' split at h
 all_goals first | (cases h; done) | (cases h; assumption)
theorem ll {s:Tx} {m:Int} {e:Nat} (h:dy s m= .error e):e≠0:=by
 unfold dy at h; repeat' split at h
 all_goals first | (cases h; done) | (cases h; decide)
theorem y0 {k:Nat} {al:List (List Nat)} {s:Tx} {e:Nat} (h:ed k al s= .error e):e≠0:=by
 unfold ed at h; repeat' split at h
 all_goals first | exact zj h | (cases h; done) | (cases h; decide)
theorem AJ {b:Bool} {s:Tx} {e:Nat} (h:dq b s= .error e):e≠0:=by
 unfold dq at h; repeat' split at h
 all_goals first | (cases h; done) | (cases h; decide) | (cases h; assumption)
theorem CA {r:iJ} {e:Nat} (h:gQ r= .error e):e≠0:=by
 unfold gQ at h; repeat' split at h
 all_goals first | (cases h; done) | (cases h; assumption)
theorem Jo {k a:Nat} {al:List (List Nat)} {r:iJ} {e:Nat} (h:ic k al a r= .error e):e≠0:=by
 unfold ic at h; repeat' split at h
 all_goals first | exact y0 h | (cases h; done) | (cases h; decide)
theorem Fh {r:List Tx} {e:Nat} (h:iq r= .error e):e≠0:=by
 unfold iq at h; repeat' split at h
 all_goals first | (cases h; done) | (cases h; decide) | (cases h; assumption)
theorem mg {k ln:Nat} {al:List (List Nat)} {c:bX} {r:List Tx} {e:Nat} (h:eC k al c ln r= .error e):e≠0:=by
 unfold eC at h; repeat' split at h
 all_goals first
  | (cases h; done)
  | (cases h; decide)
  | (cases h; exact AJ (by assumption))
  | (cases h; exact CA (by assumption))
  | (cases h; exact Jo (by assumption))
  | (cases h; exact Fh (by assumption))
theorem me {ln:Nat} {r:List Tx} {e:Nat} (h:gL ln r= .error e):e≠0:=by
 unfold gL at h; repeat' split at h
 all_goals first
  | (cases h; done)
  | (cases h; decide)
  | (cases h; exact AJ (by assumption))
theorem lO {k ln:Nat} {r:List Tx} {e:Nat} (h:gR k ln r= .error e):e≠0:=by
 unfold gR at h; repeat' split at h
 all_goals first | exact zj h | (cases h; decide)
theorem fC {α:Type} {hd:List Tx} {rd:Nat→List Tx→Except Nat α} {eof:Nat} (hr:∀ l r e,rd l r= .error e→e≠0):∀ {n:Nat} {rows:List Rw} {l e:Nat},group hd rd eof n rows= .error (l,e)→e≠0:=by
 intro n
 induction n with
 | zero=>intro rows l e h; rw [group] at h; cases h
 | succ n ih=>
   intro rows l e h
   cases rows with
   | nil=>rw [group] at h; cases h; decide
   | cons q rows=>
     rw [group] at h
     split at h
     · cases h; decide
     · split at h
       · rename_i he; cases h; exact hr _ _ _ he
       · split at h
         · rename_i he; cases h; exact ih he
         · cases h
theorem H0 {eof ln l e:Nat} {F:aI} {hs:List Tx} {rows:List Rw} {row:List Tx} (h:bA eof F hs rows ln row= .error (l,e)):e≠0:=by
 unfold bA at h
 repeat' split at h
 · unfold gO at h; repeat' split at h
   all_goals first
    | (cases h; done)
    | (cases h; decide)
    | (cases h; assumption)
    | (cases h; exact lX (by assumption))
    | (cases h; exact ll (by assumption))
    | (cases h; exact fC (fun _ _ _ h=>me h) (by assumption))
    | (cases h; exact fC (fun _ _ _ h=>lO h) (by assumption))
    | (cases h; exact fC (fun _ _ _ h=>mg h) (by assumption))
 · unfold gT at h; repeat' split at h
   all_goals first
    | (cases h; done)
    | (cases h; decide)
    | (cases h; assumption)
    | (cases h; exact lX (by assumption))
    | (cases h; exact ll (by assumption))
    | (cases h; exact fC (fun _ _ _ h=>me h) (by assumption))
    | (cases h; exact fC (fun _ _ _ h=>lO h) (by assumption))
    | (cases h; exact fC (fun _ _ _ h=>mg h) (by assumption))
 · unfold jK at h; repeat' split at h
   all_goals first
    | (cases h; done)
    | (cases h; decide)
    | (cases h; assumption)
    | (cases h; exact lX (by assumption))
    | (cases h; exact ll (by assumption))
    | (cases h; exact fC (fun _ _ _ h=>me h) (by assumption))
    | (cases h; exact fC (fun _ _ _ h=>lO h) (by assumption))
    | (cases h; exact fC (fun _ _ _ h=>mg h) (by assumption))
 · unfold jO at h; repeat' split at h
   all_goals first
    | (cases h; done)
    | (cases h; decide)
    | (cases h; assumption)
    | (cases h; exact lX (by assumption))
    | (cases h; exact ll (by assumption))
    | (cases h; exact fC (fun _ _ _ h=>me h) (by assumption))
    | (cases h; exact fC (fun _ _ _ h=>lO h) (by assumption))
    | (cases h; exact fC (fun _ _ _ h=>mg h) (by assumption))
 · unfold ib at h; repeat' split at h
   all_goals first
    | (cases h; done)
    | (cases h; decide)
    | (cases h; assumption)
    | (cases h; exact lX (by assumption))
    | (cases h; exact ll (by assumption))
    | (cases h; exact fC (fun _ _ _ h=>me h) (by assumption))
    | (cases h; exact fC (fun _ _ _ h=>lO h) (by assumption))
    | (cases h; exact fC (fun _ _ _ h=>mg h) (by assumption))
 · unfold gM at h; repeat' split at h
   all_goals first
    | (cases h; done)
    | (cases h; decide)
    | (cases h; assumption)
    | (cases h; exact lX (by assumption))
    | (cases h; exact ll (by assumption))
    | (cases h; exact fC (fun _ _ _ h=>me h) (by assumption))
    | (cases h; exact fC (fun _ _ _ h=>lO h) (by assumption))
    | (cases h; exact fC (fun _ _ _ h=>mg h) (by assumption))
 · unfold gu at h; repeat' split at h
   all_goals first
    | (cases h; done)
    | (cases h; decide)
    | (cases h; assumption)
    | (cases h; exact lX (by assumption))
    | (cases h; exact ll (by assumption))
    | (cases h; exact fC (fun _ _ _ h=>me h) (by assumption))
    | (cases h; exact fC (fun _ _ _ h=>lO h) (by assumption))
    | (cases h; exact fC (fun _ _ _ h=>mg h) (by assumption))
 · unfold eN at h; repeat' split at h
   all_goals first
    | (cases h; done)
    | (cases h; decide)
    | (cases h; assumption)
    | (cases h; exact lX (by assumption))
    | (cases h; exact ll (by assumption))
    | (cases h; exact fC (fun _ _ _ h=>me h) (by assumption))
    | (cases h; exact fC (fun _ _ _ h=>lO h) (by assumption))
    | (cases h; exact fC (fun _ _ _ h=>mg h) (by assumption))
theorem Km {eof:Nat} :∀ (k:Nat) (F:aI) (hs:List Tx) (rows:List Rw) (l e:Nat),rows.length≤k→eH eof k F hs rows= .error (l,e)→e≠0:=by
 intro k
 induction k with
 | zero=>
   intro F hs rows l e hk a
   obtain rfl :=List.eq_nil_of_length_eq_zero (Nat.le_zero.1 hk)
   rw [nI] at a; cases a
 | succ k ih=>
   intro F hs rows l e hk a
   cases rows with
   | nil=>rw [nI] at a; cases a
   | cons q rows=>
     rw [eH] at a
     split at a
     · cases a; decide
     · split at a
       · cases a; decide
       · split at a
         · cases a; decide
         · split at a
           · rename_i he; cases a; exact H0 he
           · rename_i r hr
             have h1:=l0 (rows':=r.2) hr
             simp only [List.length_cons] at hk
             exact ih _ _ _ _ _ (by omega) a
theorem CD {s:Tx} {l e:Nat} (h:eM s= .error (l,e)):e≠0:=by
 unfold eM at h
 split at h
 · cases h; decide
 · split at h
   · rename_i he; cases h; exact Km _ _ _ _ _ _ (Nat.le_refl _) he
   · split at h
     · cases h; decide
     · cases h
theorem Gf {F:aI} {row:List Tx} {e:Nat} (h:et F row= .error e):e≠0:=by
 unfold et at h
 repeat' split at h
 all_goals first
  | (cases h; done)
  | (cases h; decide)
  | (cases h; assumption)
  | (cases h; exact y0 (by assumption))
theorem Gm {F:aI} {eof l e:Nat} :∀ {n:Nat} {rows:List Rw},ek F eof n rows= .error (l,e)→e≠0:=by
 intro n
 induction n with
 | zero=>
   intro rows h
   cases rows with
   | nil=>rw [ek] at h; cases h
   | cons q rows=>rw [ek] at h; cases h; decide
 | succ n ih=>
   intro rows h
   cases rows with
   | nil=>rw [ek] at h; cases h; decide
   | cons q rows=>
     rw [ek] at h
     split at h
     · rename_i he; cases h; exact Gf he
     · split at h
       · rename_i he; cases h; exact ih he
       · cases h
theorem F8 {F:aI} {t:Tx} {l e:Nat} (h:eO F t= .error (l,e)):e≠0:=by
 unfold eO at h
 split at h
 · cases h; decide
 · split at h
   · cases h; decide
   · split at h
     · cases h; decide
     · split at h
       · rename_i he; cases h; exact ll he
       · exact Gm h
end Go.Hb.pd
end
section
set_option maxRecDepth 20000
set_option maxHeartbeats 1000000
namespace Go.Hb.rQ
open Go.Hb.di
open Go.Proofs
open Go.Hb.eX Go.Hb.fH Go.Hb.fP Go.Hb.kf Go.Hb.gY Go.Hb.lF Go.Hb.g4 Go.Hb.kh Go.Hb.lI Go.Hb.ml Go.Hb.mZ Go.Hb.nX Go.Hb.pd Go.Hb.km
theorem Gn (a b c i j c':Int) (w:World):(binOp .eql 25 (.agg [.int .i64 a,.int .i64 b,.int .i64 c].toArray) (.agg [.int .i64 i,.int .i64 j,.int .i64 c'].toArray)).run Tryz.prog w= .ok (.bool (decide (a=i∧b=j∧c=c'))) w:=by
 have u1:=Tryz.underlying3
 have u2:=Tryz.underlying3
 have u3:=Tryz.underlying23
 have p:Tryz.prog.underlying 25=some (.struct (Tryz.prog.fieldsOf 25)):=by kernel_rfl
 have hp:Tryz.prog.stoodInHeld 25=false :=by kernel_rfl
 rw [run_eql_struct,show (10000:Nat)=9999 +1 from rfl,run_equalIn_agg w 9999 25 _ _ p hp]
 simp only [Program.fieldsOf,Tryz.underlying25]
 go_simp
 by_cases h1:a=i <;> by_cases h2:b=j <;> by_cases h3:c=c' <;> simp [h1,h2,h3]
section
variable {N:Fm} {σ:Nat→Value} {w:World} {dst:Option Nat} {ty:TypeId} {pos :String} {af:Array Edge} {g:Option (Nat×Bool)} {x y:Operand}
theorem Jm {s:TypeId} {a b c i j c':Int} (p:ev N σ x= .agg [.int .i64 a,.int .i64 b,.int .i64 c].toArray) (hy:ev N σ y= .agg [.int .i64 i,.int .i64 j,.int .i64 c'].toArray):
 (execOp (ev N σ) ⟨dst,.binOp .neq 25 x y s,ty,pos,af,g⟩).run Tryz.prog w= .ok (.value (.bool (decide (¬(a=i∧b=j∧c=c'))))) w:=by
 have hm:Tryz.prog.eqGuardType Tryz.prog.depth 25=false :=by kernel_rfl
 have hg:=run_eqGuard_agg w .neq 25 x y [.int .i64 a,.int .i64 b,.int .i64 c].toArray [.int .i64 i,.int .i64 j,.int .i64 c'].toArray hm
 have he:(binOp .neq 25 (.agg [.int .i64 a,.int .i64 b,.int .i64 c].toArray) (.agg [.int .i64 i,.int .i64 j,.int .i64 c'].toArray)).run Tryz.prog w= .ok (.bool (decide (¬(a=i∧b=j∧c=c')))) w:=by
  have h:=Gn a b c i j c' w
  simp only [binOp,Sem.run_bind] at h ⊢
  generalize ((Op.equal 25 (.agg [.int .i64 a,.int .i64 b,.int .i64 c].toArray) (.agg [.int .i64 i,.int .i64 j,.int .i64 c'].toArray)).run Tryz.prog w)=r at h ⊢
  cases r with
  | ok q A=>
    simp only [Result.andThen_ok,Sem.run_pure,Result.ok.injEq,Value.bool.injEq] at h ⊢
    rw [h.1]
    exact ⟨(decide_not).symm,h.2⟩
  | halt q A=>simp [Result.andThen] at h
 simp only [execOp,p,hy,Sem.run_bind,hg,he,Result.andThen_ok,Sem.run_pure]
end
theorem Jz (a b:Option Addr) (c d:Nat) (l:List Nat) (w:World) (G:aw w.heap a (l.map bq)) (hB:aw w.heap b (l.map bq)) (hl:l.length≤1048576):
 aU Tryz.prog 24 (List.toArray [.slice a l.length c,.slice b l.length d]) w (fun v w'=>v= .bool true∧Wk w w'):=by
 refine enter Tryz.func24 rfl Tryz.ntmps24 rfl ?_
 refine U (fun _ I=>(aj (((I _ _ (sq (fun _ M=>U (fun _ O=> ?_))))))))
 refine ag (.slice a l.length c) (p (ba u64 rfl rfl) (ag (.slice b l.length d) (p (ba u64 rfl rfl) (p (bB rfl rfl) (au ((O _ _ (cd rfl (fun h=>absurd h (fun h=>h rfl)) (fun hc10=> ?_)))))))))
 refine az (tn (M _ _ (sq (fun _ V=>U (fun _ Y=>(ag (.slice a l.length c) (p (ba u64 rfl rfl) (p mv ?_))))))))
 refine au ((Y _ _ (aA (lp (fun E s wI=> ∃ (i:Nat),(i≤l.length)∧(Wk w wI)∧(s 0= .slice a l.length c)∧(s 1= .slice b l.length d)∧(s 12=ae (l.length))∧(s 13=ae i)∧(l.length - i=E)) _ ⟨0,(by omega),(Md.refl _ _),rfl,rfl,rfl,rfl,rfl⟩ ?_))))
 rintro E s wI ⟨i,hi,q,ah,ai,al,am,rfl⟩
 refine fx 0 ah (fx 1 ai (fx 12 al (fx 13 am (U (fun _ Z=>(p (lt rfl rfl) (au ((Z _ _ (sq (fun _ aa=>cd rfl (fun ac=> ?_) (fun ac=> ?_))))))))))))
 refine az (tn (aa _ _ (sq (fun _ A=>aA (U (fun _ ab=>(ag (ae i) (p (bF (ae i) rfl) ?_))))))))
 refine au ((ab _ _ (sq (fun _ J=> ?_))))
 have j:(fun w'=>Wk wI w') wI.drew:=(Md.refl _ _).drew
 refine bD (fun w'=>Wk wI w') rfl wide j (bd 0 rfl (.slice a l.length c) j (bd 1 rfl (ae i) j (aB 2 rfl (fun _ _=>aJ jY rfl rfl (by omega) (aw.ok (G.wk q) (bp (by omega)))) j (aB 3 rfl (fun w' C=>ld bT rfl (Wk.aE C (aw.gv (G.wk q) (show (l.map bq)[i]? =some (bq (l.getD i 0)) by rw [List.getElem?_map,List.getD_eq_getElem?_getD,List.getElem?_eq_getElem (by omega :i < l.length)]; rfl)))) j ?_))))
 refine bd 4 rfl (.slice b l.length d) j (bd 5 rfl (ae i) j (aB 6 rfl (fun _ _=>aJ jY rfl rfl (by omega) (aw.ok (hB.wk q) (bp (by omega)))) j (aB 7 rfl (fun w' C=>ld bT rfl (Wk.aE C (aw.gv (hB.wk q) (show (l.map bq)[i]? =some (bq (l.getD i 0)) by rw [List.getElem?_map,List.getD_eq_getElem?_getD,List.getElem?_eq_getElem (by omega :i < l.length)]; rfl)))) j ?_)))
 refine aB 8 rfl (fun _ _=>bB rfl rfl) j (hn (by kernel_rfl) (tn (J _ _ (cd rfl (fun h=>absurd h (fun h=>h rfl)) (fun an=> ?_)))))
 refine az (bn (tn (A _ _ (rg rfl (p (ad rfl rfl (bm (by omega))) (p mv (nl (tn ?_))))))))
 exact ⟨_,by omega,i+1,(by omega),(q.trans j),rfl,rfl,rfl,rfl,rfl⟩
 refine ext (te _ (te _ (be (tn (V _ _ (U (fun _ A=>(p ak ?_))))))))
 exact au ((A _ _ (rt (f1 rfl rfl (⟨rfl,q⟩)))))
theorem GQ (a b:Option Addr) (c d:Nat) (l:List Nat) (w:World) (G:aw w.heap a (l.map aO)) (hB:aw w.heap b (l.map bq)) (hl:l.length≤1048576) (hb:∀ x∈l,x < 65536):
 aU Tryz.prog 47 (List.toArray [.slice a l.length c,.slice b l.length d]) w (fun v w'=>v= .bool true∧Wk w w'):=by
 refine enter Tryz.func47 rfl Tryz.ntmps47 rfl ?_
 refine U (fun _ I=>(aj (((I _ _ (sq (fun _ M=>U (fun _ O=> ?_))))))))
 refine ag (.slice a l.length c) (p (ba js rfl rfl) (ag (.slice b l.length d) (p (ba u64 rfl rfl) (p (bB rfl rfl) (au ((O _ _ (cd rfl (fun h=>absurd h (fun h=>h rfl)) (fun hc10=> ?_)))))))))
 refine az (tn (M _ _ (sq (fun _ V=>U (fun _ Y=>(ag (.slice a l.length c) (p (ba js rfl rfl) (p mv ?_))))))))
 refine au ((Y _ _ (aA (lp (fun E s wI=> ∃ (i:Nat),(i≤l.length)∧(Wk w wI)∧(s 0= .slice a l.length c)∧(s 1= .slice b l.length d)∧(s 12=ae (l.length))∧(s 13=ae i)∧(l.length - i=E)) _ ⟨0,(by omega),(Md.refl _ _),rfl,rfl,rfl,rfl,rfl⟩ ?_))))
 rintro E s wI ⟨i,hi,q,ah,ai,al,am,rfl⟩
 refine fx 0 ah (fx 1 ai (fx 12 al (fx 13 am (U (fun _ Z=>(p (lt rfl rfl) (au ((Z _ _ (sq (fun _ aa=>cd rfl (fun ac=> ?_) (fun ac=> ?_))))))))))))
 refine az (tn (aa _ _ (sq (fun _ A=>aA (U (fun _ ab=>(ag (ae i) (p (bF (ae i) rfl) ?_))))))))
 refine au ((ab _ _ (sq (fun _ J=> ?_))))
 have hbi:=hb _ (c6 (d:=0) (show i < l.length by omega))
 have j:(fun w'=>Wk wI w') wI.drew:=(Md.refl _ _).drew
 refine bD (fun w'=>Wk wI w') rfl wide j (bd 0 rfl (.slice a l.length c) j (bd 1 rfl (ae i) j (aB 2 rfl (fun _ _=>aJ bl rfl rfl (by omega) (aw.ok (G.wk q) (bp (by omega)))) j (aB 3 rfl (fun w' C=>ld bL rfl (Wk.aE C (aw.gv (G.wk q) (show (l.map aO)[i]? =some (aO (l.getD i 0)) by rw [List.getElem?_map,List.getD_eq_getElem?_getD,List.getElem?_eq_getElem (by omega :i < l.length)]; rfl)))) j ?_))))
 refine aB 4 rfl (fun _ _=>ot u3 Ma rfl (bm (by omega))) j (bd 5 rfl (.slice b l.length d) j (bd 6 rfl (ae i) j (aB 7 rfl (fun _ _=>aJ jY rfl rfl (by omega) (aw.ok (hB.wk q) (bp (by omega)))) j (aB 8 rfl (fun w' C=>ld bT rfl (Wk.aE C (aw.gv (hB.wk q) (show (l.map bq)[i]? =some (bq (l.getD i 0)) by rw [List.getElem?_map,List.getD_eq_getElem?_getD,List.getElem?_eq_getElem (by omega :i < l.length)]; rfl)))) j ?_))))
 refine aB 9 rfl (fun _ _=>bB rfl rfl) j (hn (by kernel_rfl) (tn (J _ _ (cd rfl (fun h=>absurd h (fun h=>h rfl)) (fun an=> ?_)))))
 refine az (bn (tn (A _ _ (rg rfl (p (ad rfl rfl (bm (by omega))) (p mv (nl (tn ?_))))))))
 exact ⟨_,by omega,i+1,(by omega),(q.trans j),rfl,rfl,rfl,rfl,rfl⟩
 refine ext (te _ (te _ (be (tn (V _ _ (U (fun _ A=>(p ak ?_))))))))
 exact au ((A _ _ (rt (f1 rfl rfl (⟨rfl,q⟩)))))
theorem Ba (a b:Option Addr) (c d B al:Nat) (xs:List cR) (O V:List Value) (w:World) (C:aw w.heap a (ej (xs.zip O))) (hB:aw w.heap b (ej (xs.zip V))) (aD:c4 w B 71 O (xs.map (·.2))) (aF:eY w al 3 V (xs.map (·.2))) (aT:xs.length≤70000) (hb:∀ x∈xs,m3 x):
 aU Tryz.prog 15 (List.toArray [.slice a xs.length c,.slice b xs.length d]) w (fun v w'=>v= .bool true∧Wk w w'):=by
 refine enter Tryz.func15 rfl Tryz.ntmps15 rfl ?_
 refine U (fun _ am=>(aj (((am _ _ (sq (fun _ ao=>U (fun _ ap=> ?_))))))))
 refine ag (.slice a xs.length c) (p (ba kb rfl rfl) (ag (.slice b xs.length d) (p (ba o6 rfl rfl) (p (bB rfl rfl) (au ((ap _ _ (cd rfl (fun h=>absurd h (fun h=>h rfl)) (fun hc10=> ?_)))))))))
 refine az (tn (ao _ _ (sq (fun _ aq=>U (fun _ ar=>(ag (.slice a xs.length c) (p (ba kb rfl rfl) (p mv ?_))))))))
 refine au ((ar _ _ (aA (lp (fun ab A wI=> ∃ (i:Nat),(i≤xs.length)∧(Wk w wI)∧(A 0= .slice a xs.length c)∧(A 1= .slice b xs.length d)∧(A 12=ae (xs.length))∧(A 13=ae i)∧(xs.length - i=ab)) _ ⟨0,(by omega),(Md.refl _ _),rfl,rfl,rfl,rfl,rfl⟩ ?_))))
 rintro ab A wI ⟨i,hi,q,aI,aK,aL,aM,rfl⟩
 refine fx 0 aI (fx 1 aK (fx 12 aL (fx 13 aM (U (fun _ av=>(p (lt rfl rfl) (au ((av _ _ (sq (fun _ ax=>cd rfl (fun aH=> ?_) (fun aH=> ?_))))))))))))
 refine az (tn (ax _ _ (sq (fun _ J=>aA (U (fun _ ay=>(ag (ae i) (p (bF (ae i) rfl) ?_))))))))
 refine au ((ay _ _ (sq (fun _ an=> ?_))))
 obtain ⟨x,I⟩:∃ x,xs[i]? =some x:=⟨_,List.getElem?_eq_getElem (by omega)⟩
 obtain ⟨aV,aN,ah⟩:=c4.get aD (show i < (xs.map (·.2)).length by rw [List.length_map]; omega)
 obtain ⟨aW,aP,ai⟩:=eY.get aF (show i < (xs.map (·.2)).length by rw [List.length_map]; omega)
 have hsa:=ah.slice
 have hsb:=ai.slice
 obtain ⟨Y,aa,aO⟩:=hsa
 obtain ⟨Z,cb,aQ⟩:=hsb
 subst aO aQ
 have E:(xs.zip O)[i]? =some (x,.slice Y ((xs.map (·.2)).getD i []).length aa):=List.getElem?_zip_eq_some.2 ⟨I,aN⟩
 have G:(xs.zip V)[i]? =some (x,.slice Z ((xs.map (·.2)).getD i []).length cb):=List.getElem?_zip_eq_some.2 ⟨I,aP⟩
 have aR:(xs.map (·.2)).getD i []=x.2:=by rw [List.getD_eq_getElem?_getD,List.getElem?_map,I]; rfl
 have hxb:=hb x (List.mem_of_getElem? I)
 unfold m3 at hxb
 rw [← aR] at hxb
 have j:(fun w'=>Wk wI w') wI.drew:=(Md.refl _ _).drew
 refine bD (fun w'=>Wk wI w') rfl wide j (bd 0 rfl (.slice a xs.length c) j (bd 1 rfl (ae i) j (aB 2 rfl (fun _ _=>aJ kz rfl rfl (by omega) (aw.ok (C.wk q) (g7 E))) j (aB 3 rfl (fun _ _=>fa nu rfl) j (aB 4 rfl (fun w' s=>ld bz rfl (Wk.aE s (eQ (f:=fW) (m:=2) (fun _=>rfl) (C.wk q) E 0 (by decide)))) j (bd 5 rfl (.slice b xs.length d) j (bd 6 rfl (ae i) j ?_)))))))
 refine aB 7 rfl (fun _ _=>aJ nk rfl rfl (by omega) (aw.ok (hB.wk q) (g7 G))) j (aB 8 rfl (fun _ _=>fa oD rfl) j (aB 9 rfl (fun w' s=>ld bz rfl (Wk.aE s (eQ (f:=fW) (m:=2) (fun _=>rfl) (hB.wk q) G 0 (by decide)))) j (aB 10 rfl (fun _ _=>j8 rfl rfl) j (aB 11 rfl (fun _ _=>mv) j (iQ (t:=27) rfl (fun h=>absurd h (fun h=>h rfl)) (fun aS=> ?_))))))
 refine a8 12 rfl (by kernel_rfl) rfl rfl rfl (fun _ _=>aC (.slice a xs.length c) rfl) j (a8 13 rfl (by kernel_rfl) rfl rfl rfl (fun _ _=>aC (ae i) rfl) j (a8 14 rfl (by kernel_rfl) rfl rfl rfl (fun _ _=>aJ kz rfl rfl (by omega) (aw.ok (C.wk q) (g7 E))) j (a8 15 rfl (by kernel_rfl) rfl rfl rfl (fun _ _=>fa nv rfl) j (a8 16 rfl (by kernel_rfl) rfl rfl rfl (fun w' s=>ld kW rfl (Wk.aE s (eQ (f:=fW) (m:=2) (fun _=>rfl) (C.wk q) E 1 (by decide)))) j (a8 17 rfl (by kernel_rfl) rfl rfl rfl (fun _ _=>aC (.slice b xs.length d) rfl) j (a8 18 rfl (by kernel_rfl) rfl rfl rfl (fun _ _=>aC (ae i) rfl) j (a8 19 rfl (by kernel_rfl) rfl rfl rfl (fun _ _=>aJ nk rfl rfl (by omega) (aw.ok (hB.wk q) (g7 G))) j ?_)))))))
 refine a8 20 rfl (by kernel_rfl) rfl rfl rfl (fun _ _=>fa G7 rfl) j (a8 21 rfl (by kernel_rfl) rfl rfl rfl (fun w' s=>ld m8 rfl (Wk.aE s (eQ (f:=fW) (m:=2) (fun _=>rfl) (hB.wk q) G 1 (by decide)))) j (j4 22 rfl (by kernel_rfl) rfl rfl rfl (cl D7 (GQ Y Z aa cb ((xs.map (·.2)).getD i []) wI.drew (aw.wk (ah.wk q).bH.2 j) (aw.wk (ai.wk q).bH.2 j) (by omega) hxb.2.2) rfl fun aX w38 aG=> ?_)))
 obtain ⟨rfl,ac⟩:=aG
 have M:(fun w'=>Wk wI w') w38:=j.trans ac
 refine ⟨M,?_⟩
 refine a8 23 rfl (by kernel_rfl) rfl rfl rfl (fun _ _=>no rfl) M (aB 24 rfl (fun _ _=>a5 rfl) M (hn (by kernel_rfl) (tn (an _ _ (cf (rfl) (az (bn (tn (J _ _ ?_)))))))))
 exact rg rfl (p (ad rfl rfl (bm (by omega))) (p mv (au ((⟨_,by omega,i+1,(by omega),(q.trans (j.trans ac)),rfl,rfl,rfl,rfl,rfl⟩)))))
 refine ext (te _ (te _ (be (tn (aq _ _ (U (fun _ J=>(p ak ?_))))))))
 exact au ((J _ _ (rt (f1 rfl rfl (⟨rfl,q⟩)))))
end Go.Hb.rQ
end
section
set_option maxRecDepth 20000
set_option maxHeartbeats 1000000
namespace Go.Hb.vL
open Go.Hb.di
open Go.Proofs
open Go.Hb.eX Go.Hb.fH Go.Hb.fP Go.Hb.kf Go.Hb.gY Go.Hb.lF Go.Hb.g4 Go.Hb.kh Go.Hb.lI Go.Hb.ml Go.Hb.mZ Go.Hb.nX Go.Hb.rP Go.Hb.pd Go.Hb.rQ Go.Hb.km Go.Hb.nY
theorem vv (w:World):
 aU Tryz.prog 13 (List.toArray []) w (fun v w'=>v= .bool true∧Wk w w'):=by
 refine enter Tryz.func13 rfl Tryz.ntmps13 rfl ?_
 refine U (fun _ ac=>(aj (((ac _ _ (U (fun _ ae=>(e (cl gH (pB rK w (by decide)) rfl fun a4 w7 hR7=> ?_)))))))))
 obtain ⟨M,hE7⟩:=hR7
 rw [Mg] at M
 obtain ⟨fb,mc,V,aH,hF7,aq,ax⟩:=M
 subst aH
 refine p mv (p (xt rfl rfl) (p (xt rfl rfl) (e (al iU fun aN a6 hb2 G hB2=> ?_))))
 have hz2:=G.size
 have hz7:=hE7.size
 refine p ak (e (bY fU rfl rfl rfl rfl (hB2) (by simp) fun wt1_6 E aQ=> ?_))
 have A:Wk w7 wt1_6:=G.md.trans' E (fun q hq h=>by omega)
 have hz1:=E.size
 refine au ((ae _ _ (U (fun _ ag=>(p mv (e (cl gn (sZ w.heap.size fb mc nS V vw wt1_6 (hF7.wk A) aq ax (by decide)) rfl fun cC w12 ay=> ?_)))))))
 obtain ⟨hm12,hE12⟩:=ay
 rw [Mh] at hm12
 obtain ⟨B,ab,Y,Z,vs,hB12,aG,aC,_⟩:=hm12
 subst aG
 refine p mv (p (xt rfl rfl) (p (xt rfl rfl) (e (al iU fun aO w4 aR I ap=> ?_))))
 have hz4:=I.size
 have hz12:=hE12.size
 refine p ak (e (bY fU rfl rfl rfl rfl (ap) (by simp) fun wt2_7 av ao=> ?_))
 have C:Wk w12 wt2_7:=I.md.trans' av (fun q hq h=>by omega)
 have hW2:=aC.wk C
 refine au ((ag _ _ (sq (fun _ ah=>U (fun _ ai=>(p mv (p (g8 lz rfl rfl) (p mv ?_))))))))
 refine gb (t:=17) rfl (fun h=>absurd (h.symm.trans (rfl)) Bool.noConfusion) (fun aT=> ?_)
 refine pg rfl rfl rfl (dB jd rfl (rfl) (fun j a0=>ao.c8 j)) (pg rfl rfl rfl (bZ (ps:= []) (L:= [.int .i64 0,.int .i64 0,.int .i64 0]) nL rfl (rfl)) (pg rfl rfl rfl (Jm rfl rfl) (p (a5 rfl) (p mv (gs (t:=22) rfl (fun h=>absurd h (fun h=>h ⟨rfl,rfl,rfl⟩)) (fun aV=> ?_))))))
 refine pg rfl rfl rfl mv (eg rfl rfl rfl (cl pQ (Ga B ab Y Z vs mU wt2_7 hW2 (by decide)) rfl fun a2 aa aA=> ?_))
 obtain ⟨rfl,hE24⟩:=aA
 have hW24:=hW2.wk hE24
 refine pg rfl rfl rfl (bB rfl rfl) (p (a5 rfl) (au ((ai _ _ (cd rfl (fun h=>absurd h (fun h=>h rfl)) (fun aS=> ?_))))))
 refine az (tn (ah _ _ (U (fun _ am=>(p mv (e (cl mz (qa B ab Y Z vs mU aa hW24 (by decide) (by decide)) rfl fun a3 w28 aB=> ?_)))))))
 obtain ⟨aD,ar⟩:=aB
 obtain ⟨vx,O,J,_⟩:=aD
 have hsl:=bW O
 obtain ⟨aL,aP,aI⟩:=hsl
 subst aI
 obtain ⟨a1,aE,a⟩:=c4.get J (show 0 < (mU.map (·.2)).length by decide)
 obtain ⟨u1,aF,hT1⟩:=c4.get J (show 1 < (mU.map (·.2)).length by decide)
 have hs0:=a.slice
 obtain ⟨s,c0,aK⟩:=hs0
 subst aK
 have a:Tg w28 aa.heap.size 71 1 (.slice s 1 c0) [.int .u16 (65:Nat)]:=a
 have hC:=(aM O).2
 have hq0:(mU.zip vx)[0]? =some (([102,108,121],[65]),.slice s 1 c0):=List.getElem?_zip_eq_some.2 ⟨rfl,aE⟩
 have hq1:(mU.zip vx)[1]? =some (([105,110,47,111,117,116],[]),u1):=List.getElem?_zip_eq_some.2 ⟨rfl,aF⟩
 refine aj (((am _ _ (U (fun _ an=>(p mv (p (ba kb rfl rfl) (p (bf rfl rfl) ?_))))))))
 refine p mv (gs (t:=32) rfl (fun aW=> ?_) (fun h=>absurd rfl h))
 refine pg rfl rfl rfl mv (pg rfl rfl rfl (aJ kz rfl rfl (by decide) (aw.ok (hC) (g7 hq0))) (pg rfl rfl rfl (fa nu rfl) (pg rfl rfl rfl (ld bz rfl (eQ (f:=fW) (m:=2) (i:=0) (fun _=>rfl) hC hq0 0 (by decide))) (pg rfl rfl rfl (cI rfl rfl) (p (bg rfl) (p mv (gs (t:=39) rfl (fun aX=> ?_) (fun h=>absurd rfl h))))))))
 refine pg rfl rfl rfl mv (pg rfl rfl rfl (aJ kz rfl rfl (by decide) (aw.ok (hC) (g7 hq0))) (pg rfl rfl rfl (fa nv rfl) (pg rfl rfl rfl (ld kW rfl (eQ (f:=fW) (m:=2) (i:=0) (fun _=>rfl) hC hq0 1 (by decide))) (pg rfl rfl rfl (ba js rfl rfl) (pg rfl rfl rfl (bf rfl rfl) (p (bg rfl) (p mv ?_)))))))
 refine gs (t:=47) rfl (fun aY=> ?_) (fun h=>absurd rfl h)
 refine pg rfl rfl rfl mv (pg rfl rfl rfl (aJ kz rfl rfl (by decide) (aw.ok (hC) (g7 hq0))) (pg rfl rfl rfl (fa nv rfl) (pg rfl rfl rfl (ld kW rfl (eQ (f:=fW) (m:=2) (i:=0) (fun _=>rfl) hC hq0 1 (by decide))) (pg rfl rfl rfl (aJ bl rfl rfl (by decide) (aw.ok (a.bH.2) (by simp))) (pg rfl rfl rfl (ld bL rfl (aw.gv (i:=0) a.bH.2 rfl)) (pg rfl rfl rfl (bf rfl rfl) (p (bg rfl) ?_)))))))
 refine p mv (gs (t:=56) rfl (fun aZ=> ?_) (fun h=>absurd rfl h))
 refine pg rfl rfl rfl mv (pg rfl rfl rfl (aJ kz rfl rfl (by decide) (aw.ok (hC) (g7 hq1))) (pg rfl rfl rfl (fa nu rfl) (pg rfl rfl rfl (ld bz rfl (eQ (f:=fW) (m:=2) (i:=1) (fun _=>rfl) hC hq1 0 (by decide))) (pg rfl rfl rfl (cI rfl rfl) (p (bg rfl) (p ak (nl ?_)))))))
 exact tn (an _ _ (rt (f1 rfl rfl (⟨congrArg Value.bool (decide_eq_true rfl),hE7.trans (A.trans (hE12.trans (C.trans (hE24.trans ar))))⟩))))
theorem CE {s:Tx} {F:aI} (h:eM s= .ok F):Nx F:=by
 unfold eM at h
 split at h
 · cases h
 · split at h
   · cases h
   · rename_i f hf
     split at h
     · cases h
     · cases h
       have key:∀ (k:Nat) (F F':aI) (hs:List Tx) (rows:List Rw) (eof:Nat),Nx F→eH eof k F hs rows= .ok F'→Nx F':=by
        intro k
        induction k with
        | zero=>intro F F' hs rows eof h a; rw [eH] at a; split at a <;> cases a; exact h
        | succ k ih=>
          intro F F' hs rows eof h a
          cases rows with
          | nil=>rw [nI] at a; cases a; exact h
          | cons q rows=>
            rw [eH] at a
            split at a
            · cases a
            · split at a
              · cases a
              · split at a
                · cases a
                · split at a
                  · cases a
                  · rename_i r hr
                    exact ih _ _ _ _ _ (qI (rows':=r.2) h hr) a
       exact key _ _ _ _ _ _ ⟨fun l hl=>(by cases hl),fun l hl=>(by cases hl)⟩ hf
end Go.Hb.vL
end
section
set_option maxRecDepth 20000
set_option maxHeartbeats 1000000
namespace Go.Hb.vM
open Go.Hb.di
open Go.Proofs
open Go.Hb.eX Go.Hb.fH Go.Hb.fP Go.Hb.kf Go.Hb.gY Go.Hb.lF Go.Hb.g4 Go.Hb.kh Go.Hb.lI Go.Hb.ml Go.Hb.mZ Go.Hb.nX Go.Hb.rP Go.Hb.pd Go.Hb.rQ Go.Hb.vL Go.Hb.km Go.Hb.nY
theorem JQ {w w':World} {B a e n j:Nat} {v v':Value} {xs E G:List Value} (h:World.ownsRow w B e 1 v n xs) (hi:World.ownsRow w a e 1 v' j E) (hm:Md (fun k=>v'.ownBlock=some k) w w') (A:World.ownsRow w' a e 1 v' j G):∃ xs2,World.ownsRow w' B e 1 v n xs2:=by
 by_cases hk:∃ k,v.ownBlock=some k∧v'.ownBlock=some k
 · obtain ⟨k,h1,h2⟩:=hk
   rcases h.2 with ⟨rfl,_⟩ | ⟨g,cap,cur,rfl,hb,hg,C,s,hsz,Y⟩
   · cases h1
   · rcases hi.2 with ⟨rfl,_⟩ | ⟨g2,I,M,rfl,_,hg2,_,_,U,_⟩
     · cases h2
     · rcases A.2 with ⟨h0,_⟩ | ⟨O,J,i,h0,_,hg3,_,_,V,_⟩
       · simp at h0
       · simp only [Value.slice.injEq,Option.some.injEq,Addr.mk.injEq,and_true,true_and] at h0
         obtain ⟨rfl,rfl⟩:=h0
         have p:g=k:=by simpa [Value.ownBlock] using h1
         have q:g2=k:=by simpa [Value.ownBlock] using h2
         subst p q
         rw [hg] at hg2
         cases hg2
         refine ⟨i.toList.take (n*1),?_,.inr ⟨g2,cap,i,rfl,hb,hg3,C,s,by omega,rfl⟩⟩
         rw [List.length_take,Array.length_toList,Nat.mul_one]; omega
 · exact ⟨xs,bS h hm (fun k h1 h2=>hk ⟨k,h1,h2⟩)⟩
theorem Ge {w w':World} {B:Nat} {v:Value} {xs:List cR} {vs:List Value} (h:World.ownsRow w B 56 2 v xs.length (ej (xs.zip vs))∧jQ w B vs (xs.map (·.2))) (hm:Md (fun k=>k < B) w w'):World.ownsRow w' B 56 2 v xs.length (ej (xs.zip vs))∧jQ w' B vs (xs.map (·.2)):=
 ⟨bS h.1 hm (fun k hk hg=>by have :=(cG h.1 hk).1; omega),h.2.1,fun i v l h1 h2=>bS (h.2.2 i v l h1 h2) hm (fun k hk hg=>by have :=(cG (h.2.2 i v l h1 h2) hk).1; omega)⟩
theorem Gi {xs:List cR} {vs:List Value} {i:Nat} {u:Tx} (hi:i < xs.length) (hv:i < vs.length):(ej (xs.zip vs)).set (i*2) (str u)=ej ((xs.set i (u,[])).zip vs):=by
 obtain ⟨x,s⟩:∃ x,xs[i]? =some x:=⟨_,List.getElem?_eq_getElem hi⟩
 obtain ⟨v,p⟩:∃ v,vs[i]? =some v:=⟨_,List.getElem?_eq_getElem hv⟩
 have hz:(xs.zip vs)[i]? =some (x,v):=List.getElem?_zip_eq_some.2 ⟨s,p⟩
 have hz2:(xs.set i (u,[])).zip vs=(xs.zip vs).set i ((u,[]),v):=by
  apply List.ext_getElem?
  intro j
  rw [List.getElem?_set]
  by_cases a:i=j
  · subst a
    rw [if_pos rfl,if_pos (List.getElem?_eq_some_iff.1 hz).1]
    exact List.getElem?_zip_eq_some.2 ⟨by simp [hi],p⟩
  · rw [if_neg a]
    cases h1:(xs.zip vs)[j]? with
    | none=>
      rw [List.getElem?_eq_none_iff,List.length_zip] at h1 ⊢
      rw [List.length_set]; exact h1
    | some q=>
      have h2:=List.getElem?_zip_eq_some.1 h1
      exact List.getElem?_zip_eq_some.2 ⟨by rw [List.getElem?_set,if_neg a]; exact h2.1,h2.2⟩
 have hl:(xs.zip vs).length=min xs.length vs.length:=List.length_zip
 have hc:=yB (xs.zip vs)
 rw [hz2,show ej ((xs.zip vs).set i ((u,[]),v))=(ej (xs.zip vs)).take (i*2)++fW ((u,[]),v)++(ej (xs.zip vs)).drop (i*2 +2) from tk (f:=fW) (m:=2) (fun _=>rfl) _ (by omega)]
 have h1:(ej (xs.zip vs))[i*2 +1]? =some v:=qq (f:=fW) (m:=2) (fun _=>rfl) (c:=1) hz (by decide)
 apply List.ext_getElem?
 intro j
 have htl:((ej (xs.zip vs)).take (i*2)).length=i*2:=by rw [List.length_take]; omega
 rw [List.getElem?_set,List.append_assoc]
 by_cases a:j < i*2
 · rw [if_neg (by omega),List.getElem?_append_left (by omega),List.getElem?_take,if_pos a]
 · rw [List.getElem?_append_right (by omega),htl]
   by_cases h2:j=i*2
   · subst h2; rw [if_pos rfl,if_pos (by omega),Nat.sub_self]; rfl
   · by_cases h3:j=i*2 +1
     · subst h3; rw [if_neg (by omega),h1,show i*2 +1 - i*2=1 by omega]; rfl
     · rw [if_neg (by omega),List.getElem?_append_right (by show 2≤_; omega),List.getElem?_drop]
       congr 1
       show j=i*2 +2 +(j - i*2 - 2)
       omega
theorem IA (a t:Tx) (w:World) (hs:a.length≤1048576) (aP:t.length≤1048576) (ln er:Nat) (i:eM a= .error (ln,er)):
 aU Tryz.prog 8 (List.toArray [str a,str t]) w (fun v w'=>v= .bool true∧Wk w w'):=by
 refine enter Tryz.func8 rfl Tryz.ntmps8 rfl ?_
 refine U (fun _ G=>(aj (((G _ _ (U (fun _ J=>(p ak ?_))))))))
 refine au ((J _ _ (sq (fun _ M=>U (fun _ O=>(e (cl se (vv w) rfl fun aQ w23 an=> ?_)))))))
 obtain ⟨rfl,hE23⟩:=an
 refine p (no rfl) (p mv (gb (t:=25) rfl (fun h=>absurd (h.symm.trans (rfl)) Bool.noConfusion) (fun aL=> ?_)))
 refine pg rfl rfl rfl mv (eg rfl rfl rfl (cl pQ (sX w23) rfl fun aR aC ao=> ?_))
 obtain ⟨rfl,hE27⟩:=ao
 refine pg rfl rfl rfl (bB rfl rfl) (p (a5 rfl) (p mv (gs (t:=30) rfl (fun h=>absurd h (fun h=>h rfl)) (fun aM=> ?_))))
 refine pg rfl rfl rfl mv (eg rfl rfl rfl (cl mz (sS aC) rfl fun aS aD ap=> ?_))
 obtain ⟨rfl,hE32⟩:=ap
 refine pg rfl rfl rfl (ba kb rfl rfl) (pg rfl rfl rfl (bB rfl rfl) (p (a5 rfl) (p mv (gs (t:=36) rfl (fun h=>absurd h (fun h=>h rfl)) (fun aN=> ?_)))))
 refine pg rfl rfl rfl mv (eg rfl rfl rfl (cl oh (sT [102,108,121] aD) rfl fun aT w38 aq=> ?_))
 obtain ⟨rfl,ac⟩:=aq
 refine pg rfl rfl rfl (ba u64 rfl rfl) (pg rfl rfl rfl (bB rfl rfl) (p (a5 rfl) (au ((O _ _ (cd rfl (fun h=>absurd h (fun h=>h rfl)) (fun aJ=> ?_)))))))
 refine az (tn (M _ _ (U (fun _ V=>(ag (str a) (e (cl gH (pB a w38 (by omega)) rfl fun aA w44 ar=> ?_)))))))
 obtain ⟨C,j⟩:=ar
 rw [i] at C
 have ax:aA=_:=C
 subst ax
 refine p mv (p (xt rfl rfl) (p (xt rfl rfl) (e (al iU fun b7 w7 aI A ab=> ?_))))
 have hz7:=A.size
 have hz44:=j.size
 refine p ak (e (bY fU rfl rfl rfl rfl (ab) (by simp) fun wt4_7 ai aG=> ?_))
 have hE4:Wk w44 wt4_7:=A.md.trans' ai (fun q hq h=>by omega)
 have hE4x:=hE23.trans (hE27.trans (hE32.trans (ac.trans (j.trans hE4))))
 refine au ((V _ _ (U (fun _ Y=>(ag (str a) (e (cl gx (uN a wt4_7 hs) rfl fun aB w49 av=> ?_)))))))
 obtain ⟨E,ae⟩:=av
 rw [i] at E
 have ay:aB=_:=E
 subst ay
 refine p mv (p (xt rfl rfl) (p (xt rfl rfl) (p (xt rfl rfl) (p ak (p ak (p ak (nl ?_)))))))
 refine tn (Y _ _ (U (fun _ Z=>(p mv (ag (str t) (e (cl gn (Gc t w49) rfl fun aV w56 aw=> ?_)))))))
 obtain ⟨rfl,hE56⟩:=aw
 refine p mv (p (xt rfl rfl) (p (xt rfl rfl) (e (al iU fun aF w12 hb12 s hB12=> ?_))))
 have hz12:=s.size
 have hz56:=hE56.size
 refine p ak (e (bY fU rfl rfl rfl rfl (hB12) (by simp) fun wt6_8 am aH=> ?_))
 have ah:Wk w56 wt6_8:=s.md.trans' am (fun q hq h=>by omega)
 have hE6x:=hE4x.trans (ae.trans (hE56.trans ah))
 refine au ((Z _ _ (sq (fun _ aE=>U (fun _ aa=>(p mv (p (bB rfl rfl) (nl ?_))))))))
 refine tn (aa _ _ (cd rfl (fun aK=> ?_) (fun h=>absurd (by have :=CD i; omega) h)))
 refine U (fun _ I=>(p mv (p (g8 nO rfl rfl) (p mv (gb (t:=63) rfl (fun aO=> ?_) (fun h=>absurd ((rfl).symm.trans h) Bool.noConfusion))))))
 refine pg rfl rfl rfl mv (pg rfl rfl rfl (g8 lz rfl rfl) (p (bg rfl) (aj (((I _ _ (rt (tr ?_))))))))
 exact f1 rfl rfl (⟨rfl,hE6x⟩)
theorem Iz (a t:Tx) (w:World) (hs:a.length≤1048576) (M:t.length≤1048576) (F:aI) (ln er:Nat) (O:eM a= .ok F) (hd:eO F t= .error (ln,er)):
 aU Tryz.prog 8 (List.toArray [str a,str t]) w (fun v w'=>v= .bool true∧Wk w w'):=by
 refine enter Tryz.func8 rfl Tryz.ntmps8 rfl ?_
 refine U (fun _ Y=>(aj (((Y _ _ (U (fun _ ac=>(p ak ?_))))))))
 refine au ((ac _ _ (sq (fun _ ae=>U (fun _ ah=>(e (cl se (vv w) rfl fun bc w23 aH=> ?_)))))))
 obtain ⟨rfl,hE23⟩:=aH
 refine p (no rfl) (p mv (gb (t:=25) rfl (fun h=>absurd (h.symm.trans (rfl)) Bool.noConfusion) (fun a8=> ?_)))
 refine pg rfl rfl rfl mv (eg rfl rfl rfl (cl pQ (sX w23) rfl fun bd aX aJ=> ?_))
 obtain ⟨rfl,hE27⟩:=aJ
 refine pg rfl rfl rfl (bB rfl rfl) (p (a5 rfl) (p mv (gs (t:=30) rfl (fun h=>absurd h (fun h=>h rfl)) (fun a9=> ?_))))
 refine pg rfl rfl rfl mv (eg rfl rfl rfl (cl mz (sS aX) rfl fun bf aY aK=> ?_))
 obtain ⟨rfl,hE32⟩:=aK
 refine pg rfl rfl rfl (ba kb rfl rfl) (pg rfl rfl rfl (bB rfl rfl) (p (a5 rfl) (p mv (gs (t:=36) rfl (fun h=>absurd h (fun h=>h rfl)) (fun bb=> ?_)))))
 refine pg rfl rfl rfl mv (eg rfl rfl rfl (cl oh (sT [102,108,121] aY) rfl fun bg w38 aL=> ?_))
 obtain ⟨rfl,ay⟩:=aL
 refine pg rfl rfl rfl (ba u64 rfl rfl) (pg rfl rfl rfl (bB rfl rfl) (p (a5 rfl) (au ((ah _ _ (cd rfl (fun h=>absurd h (fun h=>h rfl)) (fun a4=> ?_)))))))
 refine az (tn (ae _ _ (U (fun _ ai=>(ag (str a) (e (cl gH (pB a w38 (by omega)) rfl fun bh w44 aM=> ?_)))))))
 obtain ⟨E,i⟩:=aM
 rw [O] at E
 obtain ⟨fb,mc,V,aQ,aB,av,aF⟩:=E
 subst aQ
 refine p mv (p (xt rfl rfl) (p (xt rfl rfl) (e (al iU fun b7 w7 a3 C aw=> ?_))))
 have hz7:=C.size
 have hz44:=i.size
 refine p ak (e (bY fU rfl rfl rfl rfl (aw) (by simp) fun wt4_7 aD a1=> ?_))
 have hE4:Wk w44 wt4_7:=C.md.trans' aD (fun q hq h=>by omega)
 have hE4x:=hE23.trans (hE27.trans (hE32.trans (ay.trans (i.trans hE4))))
 refine au ((ai _ _ (U (fun _ am=>(ag (str a) (e (cl gx (uN a wt4_7 hs) rfl fun bi w49 aN=> ?_)))))))
 obtain ⟨G,j⟩:=aN
 rw [O] at G
 obtain ⟨B1,ar,aq,hB1,aR,aC,ax,aG⟩:=G
 subst aR
 refine p mv (p (xt rfl rfl) (p (xt rfl rfl) (p (xt rfl rfl) (p ak (p ak (p ak (nl ?_)))))))
 refine tn (am _ _ (U (fun _ an=>(p mv (ag (str t) (e (cl gn (sZ _ fb mc F V t w49 (aB.wk (hE4.trans j)) av aF M) rfl fun aV w56 aO=> ?_)))))))
 obtain ⟨I,hE56⟩:=aO
 rw [hd] at I
 have aS:aV=_:=I
 subst aS
 refine p mv (p (xt rfl rfl) (p (xt rfl rfl) (e (al iU fun a0 w12 hb12 A hB12=> ?_))))
 have hz12:=A.size
 have hz56:=hE56.size
 refine p ak (e (bY fU rfl rfl rfl rfl (hB12) (by simp) fun wt6_8 aE a2=> ?_))
 have s:Wk w56 wt6_8:=A.md.trans' aE (fun q hq h=>by omega)
 have hE6x:=hE4x.trans (j.trans (hE56.trans s))
 refine au ((an _ _ (sq (fun _ ao=>U (fun _ ap=>(p mv (p (bB rfl rfl) (nl ?_))))))))
 refine tn (ap _ _ (cd rfl (fun h=>absurd h (fun h=>h rfl)) (fun a6=> ?_)))
 refine az (tn (ao _ _ (U (fun _ Z=>(p mv (ag (str t) (e (cl xp (zq B1 ar F aq t wt6_8 (aC.wk (hE56.trans s)) ax aG M) rfl fun aW bj aP=> ?_))))))))
 obtain ⟨J,aA⟩:=aP
 rw [hd] at J
 have aT:aW=_:=J
 subst aT
 refine p mv (p (xt rfl rfl) (p (xt rfl rfl) (p (xt rfl rfl) (p ak (p ak (p ak (nl ?_)))))))
 refine tn (Z _ _ (sq (fun _ aZ=>U (fun _ aa=>(p mv (p (bB rfl rfl) (au ((aa _ _ ?_)))))))))
 refine cd rfl (fun a7=> ?_) (fun h=>absurd (by have :=F8 hd; omega) h)
 refine U (fun _ ab=>(p mv (p (g8 lz rfl rfl) (aj (((ab _ _ (rt ?_))))))))
 exact tr (f1 rfl rfl (⟨rfl,hE6x.trans aA⟩))
set_option maxHeartbeats 4000000 in
theorem IB (a t:Tx) (w:World) (hs:a.length≤1048576) (b4:t.length≤1048576) (F:aI) (xs:List cR) (ah:eM a= .ok F) (hd:eO F t= .ok xs):
 aU Tryz.prog 8 (List.toArray [str a,str t]) w (fun v w'=>v= .bool true∧Wk w w'):=by
 obtain ⟨ay,hxl⟩:(∀ x∈xs,m3 x)∧xs.length≤8192:=F6 (CE ah) (CF ah) hd
 refine enter Tryz.func8 rfl Tryz.ntmps8 rfl ?_
 refine U (fun _ b5=>(aj (((b5 _ _ (U (fun _ ch=>(p ak ?_))))))))
 refine au ((ch _ _ (sq (fun _ cn=>U (fun _ cp=>(e (cl se (vv w) rfl fun eJ w23 c0=> ?_)))))))
 obtain ⟨rfl,hE23⟩:=c0
 refine p (no rfl) (p mv (gb (t:=25) rfl (fun h=>absurd (h.symm.trans (rfl)) Bool.noConfusion) (fun ey=> ?_)))
 refine pg rfl rfl rfl mv (eg rfl rfl rfl (cl pQ (sX w23) rfl fun eK bv c1=> ?_))
 obtain ⟨rfl,hE27⟩:=c1
 refine pg rfl rfl rfl (bB rfl rfl) (p (a5 rfl) (p mv (gs (t:=30) rfl (fun h=>absurd h (fun h=>h rfl)) (fun ez=> ?_))))
 refine pg rfl rfl rfl mv (eg rfl rfl rfl (cl mz (sS bv) rfl fun eL en c2=> ?_))
 obtain ⟨rfl,hE32⟩:=c2
 refine pg rfl rfl rfl (ba kb rfl rfl) (pg rfl rfl rfl (bB rfl rfl) (p (a5 rfl) (p mv (gs (t:=36) rfl (fun h=>absurd h (fun h=>h rfl)) (fun eA=> ?_)))))
 refine pg rfl rfl rfl mv (eg rfl rfl rfl (cl oh (sT [102,108,121] en) rfl fun eN w38 c3=> ?_))
 obtain ⟨rfl,cF⟩:=c3
 refine pg rfl rfl rfl (ba u64 rfl rfl) (pg rfl rfl rfl (bB rfl rfl) (p (a5 rfl) (au ((cp _ _ (cd rfl (fun h=>absurd h (fun h=>h rfl)) (fun ev=> ?_)))))))
 refine az (tn (cn _ _ (U (fun _ cq=>(ag (str a) (e (cl gH (pB a w38 (by omega)) rfl fun eP w44 c4=> ?_)))))))
 obtain ⟨bO,bx⟩:=c4
 rw [ah] at bO
 obtain ⟨fb,mc,V,d2,cH,cB,cS⟩:=bO
 subst d2
 refine p mv (p (xt rfl rfl) (p (xt rfl rfl) (e (al iU fun b7 w7 eu bM cC=> ?_))))
 have hz7:=bM.size
 have hz44:=bx.size
 refine p ak (e (bY fU rfl rfl rfl rfl (cC) (by simp) fun wt4_7 cP er=> ?_))
 have hE4:Wk w44 wt4_7:=bM.md.trans' cP (fun q hq h=>by omega)
 have hE4x:=hE23.trans (hE27.trans (hE32.trans (cF.trans (bx.trans hE4))))
 refine au ((cq _ _ (U (fun _ cr=>(ag (str a) (e (cl gx (uN a wt4_7 hs) rfl fun eR w49 c5=> ?_)))))))
 obtain ⟨bP,bA⟩:=c5
 rw [ah] at bP
 obtain ⟨B1,cA,cv,hB1,d3,cO,cD,cT⟩:=bP
 subst d3
 refine p mv (p (xt rfl rfl) (p (xt rfl rfl) (p (xt rfl rfl) (p ak (p ak (p ak (nl ?_)))))))
 refine tn (cr _ _ (U (fun _ cs=>(p mv (ag (str t) (e (cl gn (sZ _ fb mc F V t w49 (cH.wk (hE4.trans bA)) cB cS b4) rfl fun eS w56 c6=> ?_)))))))
 obtain ⟨bQ,hE56⟩:=c6
 rw [hd] at bQ
 obtain ⟨B,O,aQ,aR,vs,es,d4,hW56,_⟩:=bQ
 subst d4
 refine p mv (p (xt rfl rfl) (p (xt rfl rfl) (e (al iU fun eq w12 hb12 bL hB12=> ?_))))
 have hz12:=bL.size
 have hz56:=hE56.size
 refine p ak (e (bY fU rfl rfl rfl rfl (hB12) (by simp) fun wt6_8 cQ et=> ?_))
 have bc:Wk w56 wt6_8:=bL.md.trans' cQ (fun q hq h=>by omega)
 have hE6x:=hE4x.trans (bA.trans (hE56.trans bc))
 refine au ((cs _ _ (sq (fun _ ct=>U (fun _ cu=>(p mv (p (bB rfl rfl) (nl ?_))))))))
 refine tn (cu _ _ (cd rfl (fun h=>absurd h (fun h=>h rfl)) (fun ew=> ?_)))
 refine az (tn (ct _ _ (U (fun _ b6=>(p mv (ag (str t) (e (cl xp (zq B1 cA F cv t wt6_8 (cO.wk (hE56.trans bc)) cD cT b4) rfl fun eT E c7=> ?_))))))))
 obtain ⟨bR,bC⟩:=c7
 rw [hd] at bR
 obtain ⟨ep,d5,dj⟩:=bR
 subst d5
 obtain ⟨an,bZ,bk⟩:=dj
 have hsl:=bW bZ
 obtain ⟨G,I,bt⟩:=hsl
 subst bt
 have hvl:an.length=xs.length:=by have :=bk.1; rwa [List.length_map] at this
 have hC0:=(aM bZ).2
 have hW70:=hW56.wk (bc.trans bC)
 have hE70x:=hE6x.trans bC
 refine p mv (p (xt rfl rfl) (p (xt rfl rfl) (p (xt rfl rfl) (p ak (p ak (p ak (nl ?_)))))))
 refine tn (b6 _ _ (sq (fun _ b8=>U (fun _ b9=>(p mv (p (bB rfl rfl) (au ((b9 _ _ ?_)))))))))
 refine cd rfl (fun h=>absurd h (fun h=>h rfl)) (fun ex=> ?_)
 refine az (tn (b8 _ _ (U (fun _ ca=>(p mv (e (cl mz (qa B O aQ aR vs xs E hW70 (by omega) (fun x ah=>(ay x ah).2.1)) rfl fun eU w79 c8=> ?_)))))))
 obtain ⟨⟨J,br,_,aX⟩,hE79⟩:=c8
 have hseA:=bW br
 obtain ⟨ab,ac,d7⟩:=hseA
 subst d7
 have hz79:=hE79.size
 refine p mv (e (cl mz (qa B O aQ aR vs xs w79 (hW70.wk hE79) (by omega) (fun x ah=>(ay x ah).2.1)) rfl fun eV a1 c9=> ?_))
 obtain ⟨⟨ei,b1,_,dd⟩,hE81⟩:=c9
 have hseB:=bW b1
 obtain ⟨ga,ax,d8⟩:=hseB
 subst d8
 have hz81:=hE81.size
 have eC:J.length=xs.length:=by have :=aX.1; rwa [List.length_map] at this
 have hoA0:=aG br hE81
 have cJ:∀ (j:Nat) v l,J[j]? =some v→(xs.map (·.2))[j]? =some l→∃ us,World.ownsRow a1 E.heap.size 71 1 v l.length us:=fun j v l h1 h2=>⟨_,aG (aX.2 j v l h1 h2) hE81⟩
 have dk:∀ k,(Value.slice ab xs.length ac).ownBlock=some k→k < w79.heap.size:=fun k hk=>(cG br hk).2
 have dl:∀ (j:Nat) v l,J[j]? =some v→(xs.map (·.2))[j]? =some l→∀ k,v.ownBlock=some k→k < w79.heap.size:=fun j v l h1 h2 k hk=>(cG (aX.2 j v l h1 h2) hk).2
 refine p ak (aj (((ca _ _ (sq (fun _ cb=>U (fun _ cc=>(p mv ?_))))))))
 refine p (ba kb rfl rfl) (p mv (au ((cc _ _ (aA (lp (fun aa ar wI=> ∃ (i:Nat) (ao:List cR),(i≤xs.length)∧(ao.length=xs.length)∧(World.ownsRow wI E.heap.size 56 2 (.slice ab xs.length ac) xs.length (ej (ao.zip J)))∧(∀ (j:Nat) v l,J[j]? =some v→(xs.map (·.2))[j]? =some l→∃ us,World.ownsRow wI E.heap.size 71 1 v l.length us)∧(Wk E wI)∧(Md (fun k=>k < w79.heap.size) a1 wI)∧(ar 11=aH O)∧(ar 13= .slice G xs.length I)∧(ar 15= .slice ab xs.length ac)∧(ar 16= .slice ga xs.length ax)∧(ar 83=ae (xs.length))∧(ar 84=ae i)∧(xs.length - i=aa)) _ ⟨0,xs,(by omega),rfl,hoA0,cJ,(hE79.trans hE81),(Md.refl _ _),rfl,rfl,rfl,rfl,rfl,rfl,rfl⟩ ?_))))))
 rintro aa ar wI ⟨i,ao,hi,ec,bp,cI,C,bi,dp,dq,dr,ds,dt,du,rfl⟩
 refine fx 11 dp (fx 13 dq (fx 15 dr (fx 16 ds (fx 83 dt (fx 84 du (U (fun _ ce=>(p (lt rfl rfl) (au ((ce _ _ (sq (fun _ cg=>cd rfl (fun di=> ?_) (fun di=> ?_))))))))))))))
 refine az (tn (cg _ _ (sq (fun _ a2=>aA (sq (fun _ a3=> ?_))))))
 obtain ⟨x,bu⟩:∃ x,xs[i]? =some x:=⟨_,List.getElem?_eq_getElem (by omega)⟩
 obtain ⟨eo,ea⟩:∃ y,ao[i]? =some y:=⟨_,List.getElem?_eq_getElem (by omega)⟩
 obtain ⟨ed,aZ⟩:∃ u,J[i]? =some u:=⟨_,List.getElem?_eq_getElem (by omega)⟩
 obtain ⟨ef,bt⟩:∃ u,an[i]? =some u:=⟨_,List.getElem?_eq_getElem (by omega)⟩
 have bo:(xs.map (·.2))[i]? =some x.2:=by rw [List.getElem?_map,bu]; rfl
 have hsm:=bW (aX.2 i ed x.2 aZ bo)
 obtain ⟨am,cm,dZ⟩:=hsm
 subst dZ
 have b3:(xs.zip an)[i]? =some (x,ef):=List.getElem?_zip_eq_some.2 ⟨bu,bt⟩
 have bs:(ao.zip J)[i]? =some (eo,.slice am x.2.length cm):=List.getElem?_zip_eq_some.2 ⟨ea,aZ⟩
 have hxb:=(ay x (List.mem_of_getElem? bu)).2.1
 have hil:=mJ x.1 xs
 refine rg rfl (ag (ae i) (p (bF (ae i) rfl) (au ((a3 _ _ (sq (fun _ a4=> ?_)))))))
 have s:(fun w'=>Wk wI w') wI.drew:=(Md.refl _ _).drew
 refine bD (fun w'=>Wk wI w') rfl wide s (bd 0 rfl (aH O) s (bd 1 rfl (.slice G xs.length I) s (bd 2 rfl (ae i) s (bd 3 rfl (.slice G xs.length I) s (aB 4 rfl (fun _ _=>ba o6 rfl rfl) s (aB 5 rfl (fun _ _=>sb rfl rfl (bm (by omega))) s (aB 6 rfl (fun _ _=>mn rfl rfl) s ?_)))))))
 refine aB 7 rfl (fun _ _=>aJ nk rfl rfl (by omega) (aw.ok (hC0.wk C) (g7 b3))) s (aB 8 rfl (fun _ _=>fa oD rfl) s (aB 9 rfl (fun w' ap=>ld bz rfl (Wk.aE ap (by rw [show (min (i:Int) (((xs.length:Nat):Int) - 1)).toNat=i by omega]; exact eQ (f:=fW) (m:=2) (fun _=>rfl) (hC0.wk C) b3 0 (by decide)))) s (bd 11 rfl (.slice ab xs.length ac) s (bd 12 rfl (ae i) s (aB 13 rfl (fun _ _=>aJ kz rfl rfl (by omega) (aw.ok ((aM bp).2) (g7 bs))) s (aB 14 rfl (fun _ _=>fa nv rfl) s (aB 15 rfl (fun w' ap=>ld kW rfl (Wk.aE ap (eQ (f:=fW) (m:=2) (fun _=>rfl) (aM bp).2 bs 1 (by decide)))) s ?_)))))))
 refine he 10 rfl (by kernel_rfl) (cl oh (yn B O aQ aR vs xs wI.drew (hW70.wk (C.trans s)) (by omega) x.1) rfl fun eW w97 da=> ?_)
 obtain ⟨b0,bE⟩:=da
 have hs97:=bW b0
 obtain ⟨aS,kX,d6⟩:=hs97
 subst d6
 have aP:Wk wI w97:=s.trans bE
 have hz97:=aP.size
 have hwI:=C.size
 have hwI2:=bi.size
 have hoA7:=aG bp aP
 have cN:∀ (j:Nat) v l,J[j]? =some v→(xs.map (·.2))[j]? =some l→∃ us,World.ownsRow w97 E.heap.size 71 1 v l.length us:=fun j v l h1 h2=>by
  have hq:=cI j v l h1 h2
  obtain ⟨us,h⟩:=hq
  exact ⟨us,aG h aP⟩
 have hEw7:=C.trans aP
 have hMb7:=bi.trans' aP (fun _ _ h=>h.elim)
 have bj:(fun w'=>Wk wI w') w97:=s.trans bE
 refine ⟨bj,?_⟩
 refine aB 16 rfl (fun _ _=>ak) bj (aB 17 rfl (fun _ _=>ak) bj (hn (by kernel_rfl) (tn (a4 _ _ (sq (fun _ a6=>U (fun _ aN=>(p mv ?_))))))))
 refine p (ba u64 rfl rfl) (p mv (au ((aN _ _ (aA (lp (fun aa Y aK=> ∃ (k:Nat) (us:List Value),(k≤(idxs x.1 xs).length)∧(World.ownsRow aK wI.heap.size 3 1 (.slice aS (idxs x.1 xs).length kX) (idxs x.1 xs).length us)∧(World.ownsRow aK E.heap.size 56 2 (.slice ab xs.length ac) xs.length (ej (ao.zip J)))∧(∀ (j:Nat) v l,J[j]? =some v→(xs.map (·.2))[j]? =some l→∃ us,World.ownsRow aK E.heap.size 71 1 v l.length us)∧(Wk E aK)∧(Md (fun k=>k < w79.heap.size) a1 aK)∧(Y 11=aH O)∧(Y 13= .slice G xs.length I)∧(Y 15= .slice ab xs.length ac)∧(Y 16= .slice ga xs.length ax)∧(Y 17=ae i)∧(Y 18= .slice aS (idxs x.1 xs).length kX)∧(Y 19= .slice am x.2.length cm)∧(Y 83=ae (xs.length))∧(Y 84=ae i)∧(Y 104=ae ((idxs x.1 xs).length))∧(Y 105=ae k)∧((idxs x.1 xs).length - k=aa)) _ ⟨0,_,(by omega),b0,hoA7,cN,hEw7,hMb7,rfl,rfl,rfl,rfl,rfl,rfl,rfl,rfl,rfl,rfl,rfl,rfl⟩ ?_))))))
 rintro aa Y aK ⟨k,us,hk,aq,bq,bf,bG,bJ,dx,dy,dz,dA,dB,dC,dD,dE,dF,dv,dw,rfl⟩
 refine fx 11 dx (fx 13 dy (fx 15 dz (fx 16 dA (fx 17 dB (fx 18 dC (fx 19 dD (fx 83 dE (fx 84 dF (fx 104 dv (fx 105 dw (U (fun _ a7=>(p (lt rfl rfl) (au ((a7 _ _ (sq (fun _ a8=>cd rfl (fun df=> ?_) (fun df=> ?_)))))))))))))))))))
 refine az (tn (a8 _ _ (sq (fun _ a9=>aA (U (fun _ bb=>(ag (ae k) (p (bF (ae k) rfl) ?_))))))))
 refine au ((bb _ _ (rg rfl (ag (.slice aS (idxs x.1 xs).length kX) (ag (ae k) (p (aJ jY rfl rfl (by omega) (aw.ok ((aM aq).2) (fun h=>by have h2:=aq.1; rw [h] at h2; have h3:0=(idxs x.1 xs).length*1:=h2; omega))) (e (ly (j:=k) (u:= .int .i64 (-1)) aq fV rfl rfl rfl (by rw [Int.toNat_natCast,Nat.mul_one]) (by omega) fun w20 aV dm=> ?_))))))))
 have hoA20:=bS bq aV (fun q hq=>gV bq aq (by decide) hq)
 have cK:∀ (j:Nat) v l,J[j]? =some v→(xs.map (·.2))[j]? =some l→∃ us,World.ownsRow w20 E.heap.size 71 1 v l.length us:=fun j v l h1 h2=>by
  have hq:=bf j v l h1 h2
  obtain ⟨a0,h⟩:=hq
  exact ⟨a0,bS h aV (fun q hq=>gV h aq (by decide) hq)⟩
 have hEw20:=bG.trans' aV (fun q hq h=>by have :=(cG aq h).1; omega)
 have hMb20:=bJ.trans' aV (fun q hq h=>by have :=(cG aq h).1; omega)
 refine nl (bn (tn (a9 _ _ (rg rfl (p (ad rfl rfl (bm (by omega))) (p mv (nl (tn ?_))))))))
 exact ⟨_,by omega,k+1,us.set k (.int .i64 (-1)),(by omega),dm,hoA20,cK,hEw20,hMb20,rfl,rfl,rfl,rfl,rfl,rfl,rfl,rfl,rfl,rfl,rfl,rfl⟩
 refine ext (te _ (te _ (be (tn (a6 _ _ (sq (fun _ a9=>U (fun _ bb=> ?_))))))))
 refine ag (.slice am x.2.length cm) (p (ba js rfl rfl) (p mv (au ((bb _ _ (aA ?_))))))
 have hqM:=bf i _ _ aZ bo
 obtain ⟨ee,dn⟩:=hqM
 refine lp (fun aa Z aL=> ∃ (k:Nat) (us:List Value),(k≤x.2.length)∧(World.ownsRow aL E.heap.size 71 1 (.slice am x.2.length cm) x.2.length us)∧(World.ownsRow aL E.heap.size 56 2 (.slice ab xs.length ac) xs.length (ej (ao.zip J)))∧(∀ (j:Nat) v l,J[j]? =some v→(xs.map (·.2))[j]? =some l→∃ us,World.ownsRow aL E.heap.size 71 1 v l.length us)∧(Wk E aL)∧(Md (fun k=>k < w79.heap.size) a1 aL)∧(Z 11=aH O)∧(Z 13= .slice G xs.length I)∧(Z 15= .slice ab xs.length ac)∧(Z 16= .slice ga xs.length ax)∧(Z 17=ae i)∧(Z 18= .slice aS (idxs x.1 xs).length kX)∧(Z 19= .slice am x.2.length cm)∧(Z 83=ae (xs.length))∧(Z 84=ae i)∧(Z 113=ae (x.2.length))∧(Z 114=ae k)∧(x.2.length - k=aa)) _ ⟨0,ee,(by omega),dn,bq,bf,bG,bJ,rfl,rfl,rfl,rfl,rfl,rfl,rfl,rfl,rfl,rfl,rfl,rfl⟩ ?_
 rintro aa Z aL ⟨k,us,hk,aF,aD,bI,bH,bK,dG,dJ,dK,dL,dM,dN,dO,dP,dQ,dH,dI,rfl⟩
 refine fx 11 dG (fx 13 dJ (fx 15 dK (fx 16 dL (fx 17 dM (fx 18 dN (fx 19 dO (fx 83 dP (fx 84 dQ (fx 113 dH (fx 114 dI (U (fun _ ci=>(p (lt rfl rfl) (au ((ci _ _ (sq (fun _ cj=>cd rfl (fun dg=> ?_) (fun dg=> ?_)))))))))))))))))))
 refine az (tn (cj _ _ (sq (fun _ ck=>aA (U (fun _ co=>(ag (ae k) (p (bF (ae k) rfl) ?_))))))))
 refine au ((co _ _ (rg rfl (ag (.slice am x.2.length cm) (ag (ae k) (p (aJ bl rfl rfl (by omega) (aw.ok ((aM aF).2) (fun h=>by have h2:=aF.1; rw [h] at h2; have h3:0=x.2.length*1:=h2; omega))) (e (ly (j:=k) (u:= .int .u16 50001) aF dY rfl rfl rfl (by rw [Int.toNat_natCast,Nat.mul_one]) (by omega) fun w25 aW bV=> ?_))))))))
 have hoA25:=bS aD aW (fun q hq=>gV aD aF (by decide) hq)
 have cL:∀ (j:Nat) v l,J[j]? =some v→(xs.map (·.2))[j]? =some l→∃ us,World.ownsRow w25 E.heap.size 71 1 v l.length us:=fun j v l h1 h2=>by
  have hq:=bI j v l h1 h2
  obtain ⟨a0,h⟩:=hq
  exact JQ h aF aW bV
 have hEw25:=bH.trans' aW (fun q hq h=>by have :=(cG aF h).1; omega)
 have hMb25:=bK.trans' aW (fun q hq h=>dl i _ _ aZ bo q h)
 refine nl (bn (tn (ck _ _ (rg rfl (p (ad rfl rfl (bm (by omega))) (p mv (nl (tn ?_))))))))
 exact ⟨_,by omega,k+1,us.set k (.int .u16 50001),(by omega),bV,hoA25,cL,hEw25,hMb25,rfl,rfl,rfl,rfl,rfl,rfl,rfl,rfl,rfl,rfl,rfl,rfl⟩
 refine ext (te _ (te _ (be (tn (a9 _ _ (rg rfl (ag (.slice ab xs.length ac) (ag (ae i) ?_))))))))
 refine p (aJ kz rfl rfl (by omega) (aw.ok ((aM aD).2) (g7 bs))) (p (fa nu rfl) (e (ly (j:=i*2) (u:=str [109,97,114,107]) aD iN rfl rfl rfl (by rw [Int.toNat_natCast]; rfl) (by omega) fun bv bh bX=> ?_)))
 rw [Gi (by omega) (by omega)] at bX
 have cM:∀ (j:Nat) v l,J[j]? =some v→(xs.map (·.2))[j]? =some l→∃ us,World.ownsRow bv E.heap.size 71 1 v l.length us:=fun j v l h1 h2=>by
  have hq:=bI j v l h1 h2
  obtain ⟨a0,h⟩:=hq
  exact ⟨a0,bS h bh (fun q hq=>gV h aD (by decide) hq)⟩
 have hEw27:=bH.trans' bh (fun q hq h=>by have :=(cG aD h).1; omega)
 have hMb27:=bK.trans' bh (fun q hq h=>dk q h)
 refine nl (bn (tn (a2 _ _ (rg rfl (p (ad rfl rfl (bm (by omega))) (p mv (nl (tn ?_))))))))
 exact ⟨_,by omega,i+1,ao.set i ([109,97,114,107],[]),(by omega),((by rw [List.length_set]; exact ec)),bX,cM,hEw27,hMb27,rfl,rfl,rfl,rfl,rfl,rfl,rfl⟩
 refine ext (te _ (te _ (be (tn (cb _ _ (sq (fun _ a2=>U (fun _ a3=> ?_))))))))
 refine ag (.slice G xs.length I) (p (ba o6 rfl rfl) (p mv (au ((a3 _ _ (aA (lp (fun aa av ai=> ∃ (j:Nat),(j≤xs.length)∧(Wk wI ai)∧(av 11=aH O)∧(av 13= .slice G xs.length I)∧(av 15= .slice ab xs.length ac)∧(av 16= .slice ga xs.length ax)∧(av 127=ae (xs.length))∧(av 128=ae j)∧(xs.length - j=aa)) _ ⟨0,(by omega),(Md.refl _ _),rfl,rfl,rfl,rfl,rfl,rfl,rfl⟩ ?_)))))))
 rintro aa av ai ⟨j,eB,M,dR,dU,dV,dW,dS,dT,rfl⟩
 refine fx 11 dR (fx 13 dU (fx 15 dV (fx 16 dW (fx 127 dS (fx 128 dT (U (fun _ a4=>(p (lt rfl rfl) (au ((a4 _ _ (sq (fun _ a6=>cd rfl (fun dh=> ?_) (fun dh=> ?_))))))))))))))
 refine az (tn (a6 _ _ (sq (fun _ aN=>aA (sq (fun _ a7=> ?_))))))
 obtain ⟨y,eb⟩:∃ y,xs[j]? =some y:=⟨_,List.getElem?_eq_getElem (by omega)⟩
 obtain ⟨eh,dX⟩:∃ u,an[j]? =some u:=⟨_,List.getElem?_eq_getElem (by omega)⟩
 have aY:(xs.zip an)[j]? =some (y,eh):=List.getElem?_zip_eq_some.2 ⟨eb,dX⟩
 refine rg rfl (ag (ae j) (p (bF (ae j) rfl) (au ((a7 _ _ (sq (fun _ a8=> ?_)))))))
 have A:(fun w'=>Wk ai w') ai.drew:=(Md.refl _ _).drew
 refine bD (fun w'=>Wk ai w') rfl wide A (bd 0 rfl (aH O) A (bd 1 rfl (.slice G xs.length I) A (bd 2 rfl (ae j) A (aB 3 rfl (fun _ _=>aJ nk rfl rfl (by omega) (aw.ok (hC0.wk (C.trans M)) (g7 aY))) A (aB 4 rfl (fun _ _=>fa oD rfl) A (aB 5 rfl (fun w' ap=>ld bz rfl (Wk.aE ap (eQ (f:=fW) (m:=2) (fun _=>rfl) (hC0.wk (C.trans M)) aY 0 (by decide)))) A (bd 7 rfl (.slice G xs.length I) A ?_)))))))
 refine bd 8 rfl (.slice G xs.length I) A (bd 9 rfl (ae j) A (aB 10 rfl (fun _ _=>aJ nk rfl rfl (by omega) (aw.ok (hC0.wk (C.trans M)) (g7 aY))) A (aB 11 rfl (fun _ _=>fa oD rfl) A (aB 12 rfl (fun w' ap=>ld bz rfl (Wk.aE ap (eQ (f:=fW) (m:=2) (fun _=>rfl) (hC0.wk (C.trans M)) aY 0 (by decide)))) A (he 6 rfl (by kernel_rfl) (cl oh (yn B O aQ aR vs xs ai.drew (hW70.wk ((C.trans M).trans A)) (by omega) y.1) rfl fun eD w137 cU=> ?_))))))
 obtain ⟨bT,aO⟩:=cU
 have hs137:=bW bT
 obtain ⟨cw,si,d0⟩:=hs137
 subst d0
 have hE137x:=(C.trans M).trans (A.trans aO)
 have dc:(fun w'=>Wk ai w') w137:=A.trans aO
 refine ⟨dc,?_⟩
 refine he 13 rfl (by kernel_rfl) (cl DX (HB G I xs an y.1 w137 (hC0.wk hE137x) hvl (by omega)) rfl fun eE w144 cV=> ?_)
 obtain ⟨bU,hE144⟩:=cV
 have hs144:=bW bU
 obtain ⟨cx,pP,d1⟩:=hs144
 subst d1
 have db:(fun w'=>Wk ai w') w144:=(A.trans aO).trans hE144
 refine ⟨db,?_⟩
 refine he 14 rfl (by kernel_rfl) (cl og (Jz cw cx si pP (idxs y.1 xs) w144 (aw.wk (aM bT).2 hE144) (aM bU).2 (by have :=mJ y.1 xs; omega)) rfl fun eF w145 cW=> ?_)
 obtain ⟨rfl,bw⟩:=cW
 have bN:(fun w'=>Wk ai w') w145:=(A.trans aO).trans (hE144.trans bw)
 refine ⟨bN,?_⟩
 refine aB 15 rfl (fun _ _=>no rfl) bN (hn (by kernel_rfl) (tn (a8 _ _ (cf (rfl) (az (bn (tn (aN _ _ (rg rfl ?_)))))))))
 exact p (ad rfl rfl (bm (by omega))) (p mv (au ((⟨_,by omega,j+1,(by omega),(M.trans ((A.trans aO).trans (hE144.trans bw))),rfl,rfl,rfl,rfl,rfl,rfl,rfl⟩))))
 refine ext (te _ (te _ (be (tn (a2 _ _ (sq (fun _ aN=> ?_)))))))
 have hbB:=Ge ⟨b1,dd⟩ (bi.trans' M (fun _ _ h=>h.elim))
 refine rg rfl (ag (.slice ga xs.length ax) (ag (.slice G xs.length I) (e (cl ng (Ba ga G ax I _ 0 xs ei an ai (aM hbB.1).2 (hC0.wk (C.trans M)) hbB.2.t (bk.wk (C.trans M)) (by omega) ay) rfl fun eG el cX=> ?_))))
 obtain ⟨rfl,aT⟩:=cX
 refine p mv (pg rfl rfl rfl (aC (aH O) rfl) (eg rfl rfl rfl (cl mz (qa B O aQ aR vs xs el (hW70.wk ((C.trans M).trans aT)) (by omega) (fun x ah=>(ay x ah).2.1)) rfl fun eH em cY=> ?_)))
 obtain ⟨⟨ek,b2,_,de⟩,hE153⟩:=cY
 have hseD:=bW b2
 obtain ⟨cy,cz,d9⟩:=hseD
 subst d9
 have hz153:=hE153.size
 refine pg rfl rfl rfl (aC (.slice G xs.length I) rfl) (eg rfl rfl rfl (cl ng (Ba cy G cz I _ 0 xs ek an em (aM b2).2 (hC0.wk ((C.trans M).trans (aT.trans hE153))) de.t (bk.wk ((C.trans M).trans (aT.trans hE153))) (by omega) ay) rfl fun eI eX cZ=> ?_))
 obtain ⟨rfl,cE⟩:=cZ
 exact p (bg rfl) (aj (((aN _ _ (rt (f1 rfl rfl (⟨rfl,hE70x.trans ((C.trans M).trans (aT.trans (hE153.trans cE)))⟩)))))))
theorem F5 (a t:Tx) (w:World) (hs:a.length≤1048576) (i:t.length≤1048576):aU Tryz.prog 8 [str a,str t].toArray w (fun v w'=>v= .bool true∧Wk w w'):=by
 cases hx:eM a with
 | error e=>exact IA a t w hs i e.1 e.2 hx
 | ok F=>cases hd:eO F t with
   | error e=>exact Iz a t w hs i F e.1 e.2 hx hd
   | ok xs=>exact IB a t w hs i F xs hx hd
end Go.Hb.vM
end
