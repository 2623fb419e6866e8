/-
  Walks and plain laws that the law rests on, laid together. No conditions but those that each theorem names.
-/
import Derived.Test.YtkiemnnhcilhpaaGreatDoorMnDicFinds6
set_option linter.unusedVariables false
section
set_option maxRecDepth 20000
set_option maxHeartbeats 1000000
namespace Go.Hb.nP
open Go.Hb.di
open Go.Proofs
open Go.Hb.ke Go.Hb.mV Go.Hb.rP Go.Hb.vJ Go.Hb.lr Go.Hb.eS Go.Hb.fE Go.Hb.iQ Go.Hb.fN Go.Hb.iw Go.Hb.jN Go.Hb.kK Go.Hb.gU Go.Hb.mi Go.Hb.gl Go.Hb.fQ
theorem Tg.blt {w:World} {B e n cp:Nat} {a:Option Addr} {xs:List Value} (h:Tg w B e n (.slice a n cp) xs) (i:xs≠[]):bk a < w.heap.size:=by
 obtain ⟨j,c',hv,_,hh⟩:=h
 cases hv
 rcases hh with rfl | ⟨p,cur,q,rfl,_,hg,_⟩
 · exact absurd rfl i
 · exact (Array.getElem?_eq_some_iff.1 hg).1
def Cq (w':World) (B:Nat) (F:aH) (v:Value):Prop := ∃ B1 fb V,B≤B1∧v= .tuple #[.pointer (some ⟨fb,0,none⟩),.int .i64 0,.int .i64 0]∧dz w' B1 0 fb F V∧(∃ seen,j8 F [] seen)∧Nx F
def Cp (e:Nat×Nat) (v:Value):Prop :=v= .tuple #[.pointer none,.int .i64 (e.1:Nat),.int .i64 (e.2:Nat)]
theorem qD {l:List (eH×Value)} {i:Nat} {q:eH×Value} (h:l[i]? =some q):jy l≠[]:=fun h2=>by
 have h3:(jy l).length=l.length*8:=kq (f:=k3) (m:=8) (fun _=>rfl) _
 have h4:=(List.getElem?_eq_some_iff.1 h).1
 rw [h2] at h3
 have h5:0=l.length*8:=h3
 omega
def iU (s:Tx) (w:World) (v:Value) (w':World):Prop :=(match eJ s with | .ok F=>Cq w' w.heap.size F v | .error e=>Cp e v)∧Wk w w'
theorem iU.no {s:Tx} {w w':World} {l e:Nat} (h:eJ s= .error (l,e)) (hm:Wk w w'):iU s w (.tuple #[.pointer none,.int .i64 (l:Nat),.int .i64 (e:Nat)]) w':=by
 unfold iU; rw [h]; exact ⟨rfl,hm⟩
theorem uH (s:Tx) (w:World) (hs:s.length≤1048576):
 aU Tryz.prog 12 (List.toArray [str s]) w (iU s w):=by
 refine enter Tryz.func12 rfl Tryz.ntmps12 rfl ?_
 refine U (fun _ cm=>(p aj (p aj (ae (((cm _ _ (sq (fun _ cn=> ?_)))))))))
 refine rg rfl (ab (str s) (e (cl xq (A2 s _ hs) rfl fun v20 w20 cS=> ?_)))
 obtain ⟨⟨dO,rfl,hcs⟩,hE20⟩:=cS
 refine p mv (p (xt rfl rfl) (p (xt rfl rfl) (p aj (ae (((cn _ _ (sq (fun _ co=> ?_)))))))))
 refine U (fun _ cp=>(p mv (p (bP rfl rfl) (ag ((cp _ _ (cd rfl (fun bN=> ?_) (fun bN=> ?_))))))))
 have b6:65536 < s.length:=Classical.byContradiction fun h=>bN (by rw [if_neg h])
 refine U (fun _ bv=>(p mv (p aj (p aj (ae (((bv _ _ ?_))))))))
 refine rt (tr (f3 rfl rfl rfl rfl ?_))
 have h:=iU.no (vQ b6) hE20
 show iU s w (.tuple #[.pointer none,.int .i64 0,.int .i64 (if 65536 < s.length then 10 else 0)]) w20
 rw [if_pos b6]
 exact h
 have an:¬65536 < s.length:=fun h=>bN (by rw [if_pos h]; decide)
 rw [if_neg an] at hcs
 obtain ⟨vs,ce,dq⟩:=hcs
 obtain ⟨E,G,rfl⟩:=bU ce
 refine au (tn (co _ _ (U (fun _ bv=>(ab (str s) (e (cl sn (uL s _ hs) rfl fun d5 J cV=> ?_)))))))
 obtain ⟨dn,hE27⟩:=cV
 obtain ⟨d3,dR,rfl⟩:=bU dn
 have hE27x:=hE20.trans hE27
 have hll:=jZ s
 have hrl:=q4 s
 refine ae (((bv _ _ (U (fun _ cq=>(p (bY (ps:= [(0,.int .i64 1),(4,.int .i64 3)]) (L:= [.int .i64 1,.string ⟨⟨[]⟩⟩,.string ⟨⟨[]⟩⟩,.int .i64 0,.int .i64 0,.int .i64 0,.int .i64 0,.int .i64 0,.int .i64 3,.slice none 0 0,.slice none 0 0,.slice none 0 0,.slice none 0 0]) Li rfl (rfl)) (e (nX rfl fun A w29 dW b3 cC=> ?_))))))))
 have hz29:=b3.size
 refine p mv (p mv (p (ba c9 rfl rfl) (p (a9 (((a6 s).length+1:Nat):Int) rfl rfl (aQ (by omega) (by omega))) (p (bY (ps:= [(0,aG A),(1,.slice E (bd s).length G),(3,aa ((a6 s).length+1))]) (L:= [aG A,.slice E (bd s).length G,.int .i64 0,aa ((a6 s).length+1),.slice none 0 0,.int .i64 0]) Lj rfl (rfl)) (e (nX rfl fun a w35 dX bI cF=> ?_))))))
 have hz35:=bI.size
 have cI:Wk J w35:=b3.md.trans bI.md
 have b1:GS J (⟨a,A,(a6 s).length+1,.slice E (bd s).length G,vs,bd s⟩:dZ):=⟨w.heap.size,(Tg.fT ce).wk hE27,dq.wk hE27,by show (bd s).length≤70000; omega⟩
 have cJ:dz w35 J.heap.size 0 A fG ⟨.slice none 0 0,.slice none 0 0,.slice none 0 0,.slice none 0 0,[],[]⟩:=⟨Wk.az bI.md cC,World.ownsRow_nil _ _ _ _,World.ownsRow_nil _ _ _ _,e9.nil _ _ _,World.ownsRow_nil _ _ _ _,World.ownsRow_nil _ _ _ _,e9.nil _ _ _,by omega,rfl⟩
 have hR0:eG w35 J.heap.size (⟨a,A,(a6 s).length+1,.slice E (bd s).length G,vs,bd s⟩:dZ) 0 0 [] (.slice none 0 0):=⟨cF,World.ownsRow_nil _ _ _ _,by show J.heap.size≤a; omega⟩
 have c0:iT J w35 (⟨a,A,(a6 s).length+1,.slice E (bd s).length G,vs,bd s⟩:dZ) fG 0 0 []:=⟨_,_,cJ,hR0,⟨by show 0 +0 +0 +0 +(bd s).length≤70000; omega,by show 0 +(bd s).length≤70000; omega,fun q ai=>by have h:=q5 (show q∈bd s from ai); exact ⟨h.2.2.1,by omega,fun x dI=>by have :=(h.2.2.2.2 x dI).2; omega⟩,.inl rfl⟩,cI,Nat.zero_le _⟩
 have dm:Nx fG:=⟨fun l hl=>(by cases hl),fun l hl=>(by cases hl)⟩
 refine ae (((cq _ _ (sq (fun _ cr=>az (lp (fun ah bW wI=> ∃ (a2:Nat) (F:aH) (k ln:Nat) (seen:List Tx),(eE (⟨a,A,(a6 s).length+1,.slice E (bd s).length G,vs,bd s⟩:dZ).eof a2 F seen ((bd s).drop k)=eE ((a6 s).length+1) (bd s).length fG [] (bd s))∧(((bd s).drop k).length≤a2)∧(iT J wI (⟨a,A,(a6 s).length+1,.slice E (bd s).length G,vs,bd s⟩:dZ) F k ln seen)∧(Nx F)∧(bW 5= .slice E (bd s).length G)∧(bW 8=aG a)∧(((bd s).drop k).length=ah)) _ ⟨(bd s).length,fG,0,0,[],rfl,(Nat.le_refl _),c0,dm,rfl,rfl,rfl⟩ ?_))))))
 rintro ah bW wI ⟨a2,F,k,ln,seen,hX,av,I,hnx,dr,ds,rfl⟩
 refine fx 5 dr (fx 8 ds ?_)
 obtain ⟨V,vh,hF,Z,hB,aR,hkl⟩:=I
 have hkl:k≤(bd s).length:=hkl
 refine sq (fun _ cs=>U (fun _ cu=>(ab (aG a) (p (nc rfl) (p (fa kr rfl) (p (ld bQ rfl ((aO Z.cells).trans rfl)) (ab (.slice E (bd s).length G) ?_)))))))
 refine p (ba rA rfl rfl) (p (lt rfl rfl) (ag ((cu _ _ (cd rfl (fun db=> ?_) (fun db=> ?_))))))
 obtain ⟨n,r,ay,cr1,cv,c',ar,dD,hCr,a1,⟨ck,hT1⟩,hvl⟩:=b1.get aR (k:=k) (by show k < (bd s).length; omega)
 have ci:Value.slice E (bd s).length G= .slice cv (bd s).length c':=dD
 simp only [Value.slice.injEq,true_and] at ci
 obtain ⟨rfl,rfl⟩:=ci
 have hCr:ak wI.heap E (gJ vs):=hCr
 have a1:vs[k]? =some (n,.slice ay r.length cr1):=a1
 have hvl:vs.length=(bd s).length:=hvl
 have ar:(bd s).drop k=(n,r)::(bd s).drop (k+1):=ar
 have hB:j8 F ((bd s).drop k) seen:=hB
 rw [ar] at hX av hB
 have hrow:=hB.row (n,r) (List.mem_cons_self ..)
 have d0:0 < r.length:=List.length_pos_iff.2 hrow.1
 have hbl:=hB.len
 have hbs:=hB.sl
 simp only [List.length_cons] at hbl hbs av
 have hB1:=j8.kV hB
 have aD:∀ w,Wk J w→bh w.heap ay r:=fun w h=>(hT1.wk h).bH.2
 refine au (tn (cs _ _ (az (U (fun _ bg=>(ab (.slice E (bd s).length G) (ab (aG a) (p (nc rfl) ?_))))))))
 refine p (fa kr rfl) (p (ld bQ rfl ((aO Z.cells).trans rfl)) (p (aJ jV rfl rfl (by omega) (ak.ok (hCr) (ir (by omega)))) (p (fa om rfl) (p (ld gd rfl (iu hCr a1 1 (by decide))) (ae (((bg _ _ ?_))))))))
 refine U (fun _ bi=>(ab (aG a) (ab (.slice E (bd s).length G) (ab (aG a) (p (nc rfl) (p (fa kr rfl) (p (ld bQ rfl ((aO Z.cells).trans rfl)) ?_)))))))
 refine p (aJ jV rfl rfl (by omega) (ak.ok (hCr) (ir (by omega)))) (p (fa nf rfl) (p (ld bQ rfl (iu hCr a1 0 (by decide))) (p (nc rfl) (p (fa kY rfl) (e (ca fW rfl rfl (v:=aa n) rfl Z.cells (by show _ < 6; omega) fun w8 bF cG=> ?_))))))
 have hR8:=Z.cT (k':=k) (ln':=n) bF cG
 have hF8:=hF.rb Z bF
 have c4:Wk J w8:=aR.trans' bF (fun q ai h=>by have :=Z.lo; omega)
 refine ag ((bi _ _ (U (fun _ bj=>(ab (aG a) (ab (aG a) (p (nc rfl) (p (fa kr rfl) ?_))))))))
 refine p (ld bQ rfl ((aO hR8.cells).trans rfl)) (p (a9 ((k+1:Nat):Int) rfl rfl (aQ (by omega) (by omega))) (p (nc rfl) (p (fa kr rfl) (e (ca fW rfl rfl (v:=(aa (k+1))) rfl hR8.cells (by show _ < 6; omega) fun w9 hM9 cH=> ?_)))))
 have hR9:=hR8.cT (k':=k+1) (ln':=n) hM9 cH
 have hF9:=hF8.rb hR8 hM9
 have bL:Wk J w9:=c4.trans' hM9 (fun q ai h=>by have :=Z.lo; omega)
 refine ag ((bj _ _ (U (fun _ bk=>(p mv (p (aJ bA rfl rfl (by omega) (ak.ok (aD _ bL) (bl (by omega)))) (p (ld bw rfl (bh.get (i:=0) (aD _ bL) (by omega))) (e (cl D1 (Hu (r.getD 0 []) w9) rfl fun d6 aw cW=> ?_)))))))))
 obtain ⟨rfl,bB⟩:=cW
 have hW73:=bL.trans bB
 have hR73x:=hR9.wk bB
 have hF73:=hF9.wk bB
 refine ae (((bk _ _ (sq (fun _ bm=>U (fun _ aK=>(p mv (p (a8 rfl rfl) ?_))))))))
 refine ag ((aK _ _ (cd rfl (fun dc=> ?_) (fun dc=> ?_))))
 have h0:width (r.getD 0 [])=0:=by omega
 refine sq (fun _ aL=> ?_)
 have ac:(fun w'=>Wk aw w') aw.drew:=(Md.refl _ _).drew
 refine bC (fun w'=>Wk aw w') rfl wide ac (bo 0 rfl (aG a) ac (aA 1 rfl (fun _ _=>nc rfl) ac (aA 2 rfl (fun _ _=>fa kY rfl) ac (aA 3 rfl (fun w' I=>ld bQ rfl (Wk.aC I ((aO hR73x.cells).trans rfl))) ac (aA 4 rfl (fun _ _=>aj) ac (aA 5 rfl (fun _ _=>aj) ac (aA 6 rfl (fun _ _=>aj) ac ?_)))))))
 refine hn (by kernel_rfl) (tn (aL _ _ (rt (tr (br (tr (br (tr ?_))))))))
 exact f3 rfl rfl rfl rfl (iU.no (kh an (AS hX av h0)) (hE27x.trans (hW73.trans ac)))
 have h0:width (r.getD 0 [])≠0:=by omega
 refine au (tn (bm _ _ (sq (fun _ aL=>U (fun _ bs=>(p mv (p (ba c9 rfl rfl) (p mv ?_))))))))
 refine p (bP rfl rfl) (ag ((bs _ _ (cd rfl (fun dd=> ?_) (fun dd=> ?_)))))
 refine sq (fun _ aM=> ?_)
 have hS14:(fun w'=>Wk aw w') aw.drew:=(Md.refl _ _).drew
 refine bC (fun w'=>Wk aw w') rfl wide hS14 (bo 0 rfl (aG a) hS14 (aA 1 rfl (fun _ _=>nc rfl) hS14 (aA 2 rfl (fun _ _=>fa kY rfl) hS14 (aA 3 rfl (fun w' I=>ld bQ rfl (Wk.aC I ((aO hR73x.cells).trans rfl))) hS14 (aA 4 rfl (fun _ _=>aj) hS14 (aA 5 rfl (fun _ _=>aj) hS14 (aA 6 rfl (fun _ _=>aj) hS14 ?_)))))))
 refine hn (by kernel_rfl) (tn (aM _ _ (rt (tr (br (tr (br (tr ?_))))))))
 exact f3 rfl rfl rfl rfl (iU.no (kh an (AT hX av h0 (by omega))) (hE27x.trans (hW73.trans hS14)))
 have h1:r.length=width (r.getD 0 []):=by omega
 refine au (tn (aL _ _ (U (fun _ aM=>(ab (aG a) (p mv (p (aJ bA rfl rfl (by omega) (ak.ok (aD _ hW73) (bl (by omega)))) (p (ld bw rfl (bh.get (i:=0) (aD _ hW73) (by omega))) ?_))))))))
 refine e (cl sr (tO J.heap.size (⟨a,A,(a6 s).length+1,.slice E (bd s).length G,vs,bd s⟩:dZ) (k+1) n seen vh (r.getD 0 []) aw hR73x (by omega)) rfl fun d7 a7 cY=> ?_)
 obtain ⟨rfl,dH⟩:=cY
 subst dH
 refine ae (((aM _ _ ?_)))
 refine cX (fun bb bT=>(width (r.getD 0 [])=2→r.getD 0 []∉seen)∧(bT=a7)∧(bb 5= .slice E (bd s).length G)∧(bb 8=aG a)∧(bb 9= .slice ay r.length cr1)) ?_ ?_
 refine U (fun _ ao=>(p mv (p (a8 rfl rfl) (p mv (gs (t:=95) rfl (fun df=> ?_) (fun df=> ?_))))))
 refine pg rfl rfl rfl mv (p (bf rfl) (ag ((ao _ _ (cb rfl (fun bO=> ?_) (fun bO=> ?_))))))
 refine sq (fun _ aN=> ?_)
 have hS17:(fun w'=>Wk a7 w') a7.drew:=(Md.refl _ _).drew
 refine bC (fun w'=>Wk a7 w') rfl wide hS17 (bo 0 rfl (aG a) hS17 (aA 1 rfl (fun _ _=>nc rfl) hS17 (aA 2 rfl (fun _ _=>fa kY rfl) hS17 (aA 3 rfl (fun w' I=>ld bQ rfl (Wk.aC I ((aO hR73x.cells).trans rfl))) hS17 (aA 4 rfl (fun _ _=>aj) hS17 (aA 5 rfl (fun _ _=>aj) hS17 (aA 6 rfl (fun _ _=>aj) hS17 ?_)))))))
 refine hn (by kernel_rfl) (tn (aN _ _ (rt (tr (br (tr (br (tr ?_))))))))
 exact f3 rfl rfl rfl rfl (iU.no (kh an (uI hX av h0 h1 (by omega) (of_decide_eq_true bO))) (hE27x.trans (hW73.trans hS17)))
 exact au (tn (⟨((fun _=>of_decide_eq_false bO)),rfl,rfl,rfl,rfl⟩))
 exact sk rfl rfl rfl rfl (p (a4 rfl) (ag ((ao _ _ (cf rfl (au (tn (⟨((fun h=>absurd h (by omega))),rfl,rfl,rfl,rfl⟩))))))))
 rintro bb bT ⟨b9,dE,dt,du,dv⟩
 refine fx 5 dt (fx 8 du (fx 9 dv ?_))
 subst dE
 refine U (fun _ ao=>(ab (aG a) (ab (.slice ay r.length cr1) (e (cl D2 (Ho J (⟨a,A,(a6 s).length+1,.slice E (bd s).length G,vs,bd s⟩:dZ) F (k+1) n seen r ck ay cr1 bT b1 ⟨V,vh,hF73,hR73x,hB1,hW73,by show k+1≤(bd s).length; omega⟩ hT1 hrow.2.2 (by show _+((bd s).drop (k+1)).length < 70000; omega) h1 h0) rfl fun dM Y cN=> ?_)))))
 obtain ⟨dh,c2⟩:=cN
 obtain ⟨dS,rfl,b8⟩:∃ e:Nat,dM=aa e∧((e=0∧∃ F' k' ln',bz (⟨a,A,(a6 s).length+1,.slice E (bd s).length G,vs,bd s⟩:dZ).eof F seen ((bd s).drop (k+1)) n r= .ok (F',(bd s).drop k')∧iT J Y (⟨a,A,(a6 s).length+1,.slice E (bd s).length G,vs,bd s⟩:dZ) F' k' ln' seen)∨(e≠0∧∃ l:Nat,bz (⟨a,A,(a6 s).length+1,.slice E (bd s).length G,vs,bd s⟩:dZ).eof F seen ((bd s).drop (k+1)) n r= .error (l,e)∧Hb.aC Y.heap a 5=some (aa l))):=by
  rcases dh with ⟨F',k',ln',h1,h2,h3⟩ | ⟨l,e,h1,h2,h3,h4⟩
  exact ⟨0,h2,.inl ⟨rfl,F',k',ln',h1,h3⟩⟩
  exact ⟨e,h3,.inr ⟨h2,l,h1,h4⟩⟩
 refine ae (((ao _ _ (sq (fun _ aN=>U (fun _ bt=>(p mv (p (bP rfl rfl) ?_))))))))
 refine ag ((bt _ _ (cd rfl (fun c5=> ?_) (fun c5=> ?_))))
 obtain ⟨hne,d2,dg,dk⟩:=b8.resolve_left (fun h=>by omega)
 refine sq (fun _ aP=> ?_)
 have O:(fun w'=>Wk Y w') Y.drew:=(Md.refl _ _).drew
 refine bC (fun w'=>Wk Y w') rfl wide O (bo 0 rfl (aG a) O (aA 1 rfl (fun _ _=>nc rfl) O (aA 2 rfl (fun _ _=>fa kY rfl) O (aA 3 rfl (fun w' I=>ld bQ rfl (Wk.aC I (dk))) O (aA 4 rfl (fun _ _=>mv) O (aA 5 rfl (fun _ _=>aj) O (aA 6 rfl (fun _ _=>aj) O ?_)))))))
 refine aA 7 rfl (fun _ _=>aj) O (hn (by kernel_rfl) (tn (aP _ _ (rt (tr (br (tr (br ?_))))))))
 exact tr (f3 rfl rfl rfl rfl (iU.no (kh an (uJ hX av h0 h1 b9 dg)) (hE27x.trans (c2.trans O))))
 obtain ⟨_,F',k',ln',aW,cZ⟩:=b8.resolve_right (fun h=>by omega)
 have hXn:=uK hX av h0 h1 b9 aW
 obtain ⟨dN,d8,hF2,hR2,bx,hW2,dj⟩:=cZ
 obtain ⟨ax,aB,rfl⟩:=bU hR2.hd
 have dl:¬((Value.slice ax seen.length aB).ownBlock=some a):=cg hR2.hd hR2.cells (by decide)
 refine au (tn (aN _ _ ?_))
 have hS21:(fun w'=>Md (fun q=>(Value.slice ax seen.length aB).ownBlock=some q) Y w') Y.drew:=(Md.refl _ _).drew
 refine dG (fun w'=>Md (fun q=>(Value.slice ax seen.length aB).ownBlock=some q) Y w') 12 rfl wide hS21 (a3 0 rfl (aG a) hS21 (a3 1 rfl (aG a) hS21 (a5 2 rfl (fun _=>nc rfl) (fun _=>hS21) (a5 3 rfl (fun _=>fa kX rfl) (fun _=>hS21) (cO 4 rfl (fun w' I=>ld gd rfl (Md.aC I ((aO hR2.cells).trans rfl) dl)) hS21 (a3 5 rfl (.slice ay r.length cr1) hS21 (a5 6 rfl (fun _=>aJ bA rfl rfl (by omega) (ak.ok (aD _ hW2) (bl (by omega)))) (fun _=>hS21) ?_)))))))
 refine cO 7 rfl (fun w' I=>ld bw rfl (bh.get (i:=0) (ak.md (aD _ hW2) I (fun hne h=>by have h1:=Tg.blt hT1 hne; have h2:=(c7 hR2.hd h).1; omega)) (by omega))) hS21 (fA 8 rfl (by kernel_rfl) (ea dU rfl rfl fun dP w120 dV cL cA=> ?_))
 have hE120:=e6 cL.md
 have hR20x:=hR2.wk hE120
 have b4:(fun w'=>Md (fun q=>(Value.slice ax seen.length aB).ownBlock=some q) Y w') w120:=Md.mono hE120 (fun _ _ h=>h.elim)
 refine ⟨b4,?_⟩
 refine fA 9 rfl (by kernel_rfl) (ap dU (hR20x.hd) rfl (by have :=hW2.size; have :=hE120.size; omega) rfl (ak.cQ cA) (rfl) (rfl) (by omega) (by omega) fun v121 w121 cc aV d1 dY=> ?_)
 have hc121:=aV.az hR20x.cells (cg hR20x.hd hR20x.cells (by decide))
 have ho121x:=ji cc
 have bJ:(fun w'=>Md (fun q=>(Value.slice ax seen.length aB).ownBlock=some q) Y w') w121:=b4.trans' aV (fun _ _ h=>h)
 refine ⟨bJ,?_⟩
 refine a5 10 rfl (fun _=>nc rfl) (fun _=>bJ) (a5 11 rfl (fun _=>fa kX rfl) (fun _=>bJ) (cD 12 rfl (by kernel_rfl) (by kernel_rfl) (ca x4 rfl rfl (v:=v121) (dT cc) hc121 (by show _ < 6; omega) fun w11 bD cz=> ?_)))
 have hF20:=hF2.wk hE120
 have c1:TF w120 [11] (fun q=>(Value.slice ax seen.length aB).ownBlock=some q):=TF.own hR20x.hd (by decide)
 have hF21:=hF20.md aV c1 (by decide)
 have b5:TF w121 [124] (fun q=>q=a):=TF.eq (cR hc121) (by decide)
 have hF22:=hF21.md bD b5 (by decide)
 have cU:eG w11 J.heap.size (⟨a,A,(a6 s).length+1,.slice E (bd s).length G,vs,bd s⟩:dZ) k' ln' (seen++ [r.getD 0 []]) v121:=⟨cz,bE ho121x bD b5 (by decide),hR2.lo⟩
 have c3:Wk J w11:=((hW2.trans hE120).trans' aV (fun q ai h=>by have :=(c7 hR20x.hd h).1; omega)).trans' bD (fun q ai h=>by omega)
 have hrw:=lS aW
 have hS21:iT J w11 (⟨a,A,(a6 s).length+1,.slice E (bd s).length G,vs,bd s⟩:dZ) F' k' ln' (seen++ [r.getD 0 []]):=⟨_,_,hF22,cU,⟨bx.len,by rw [List.length_append,List.length_singleton]; show seen.length+1 +((bd s).drop k').length≤70000; omega,bx.row,bx.kd⟩,c3,dj⟩
 have hnx21:=qF hnx aW
 refine dF (by kernel_rfl) ?_
 exact bn (tn (⟨_,by rw [ar]; have :=lS aW; simp only [List.length_cons]; omega,a2 - 1,F',k',ln',seen++ [r.getD 0 []],hXn.1,hXn.2,hS21,hnx21,rfl,rfl,rfl⟩))
 have ar:(bd s).drop k= []:=List.drop_eq_nil_of_le (by omega)
 rw [ar,nw] at hX
 refine ext (te _ (te _ (be (tn (cr _ _ (U (fun _ bg=>(ab (aG a) ?_))))))))
 refine p (nc rfl) (p (fa ik rfl) (p (ld h8 rfl ((aO Z.cells).trans rfl)) (ae (((bg _ _ (sq (fun _ bi=>sq (fun _ bj=> ?_)))))))))
 refine rg rfl (ae (((bj _ _ (az ?_)))))
 obtain ⟨cw,gq,ch⟩:=bU hF.cM
 have ho12:=hF.cM
 rw [ch] at ho12
 have aY:Hb.aC wI.heap A 12=some (.slice cw F.rules.length gq):=by rw [← ch]; exact (aO hF.cells).trans rfl
 have hblz:=hB.len
 refine lp (fun ah bZ cj=> ∃ (i:Nat),(i≤F.rules.length)∧(∀ j q,j < i→F.rules[j]? =some q→jR F q=false)∧(Wk wI cj)∧(bZ 12=aG A)∧(bZ 13=aa i)∧(F.rules.length - i=ah)) _ ⟨0,(by omega),((fun j q hj=>by omega)),(Md.refl _ _),rfl,rfl,rfl⟩ ?_
 rintro ah bZ cj ⟨i,hi,a0,aT,dw,dx,rfl⟩
 refine fx 12 dw (fx 13 dx (sq (fun _ bk=>sq (fun _ bm=> ?_))))
 have hc12x:=Wk.aC aT aY
 refine rg rfl (ab (aa i) (ab (aG A) (p (nc rfl) (p (fa jW rfl) (p (ld kP rfl (hc12x)) (p (ba ve rfl rfl) (p (lt rfl rfl) ?_)))))))
 refine ag ((bm _ _ (cd rfl (fun c6=> ?_) (fun c6=> ?_))))
 refine au (tn (bk _ _ (sq (fun _ aK=>az (sq (fun _ aL=> ?_))))))
 have b7:i < F.rules.length:=by omega
 obtain ⟨vn,dC,bK⟩:=e9.get hF.nx (i:=i) (by rw [List.length_map]; exact b7)
 obtain ⟨q,aF⟩:∃ q,F.rules[i]? =some q:=⟨_,List.getElem?_eq_getElem b7⟩
 have dp:(F.rules.map (·.next)).getD i []=q.next:=by rw [List.getD_eq_getElem?_getD,List.getElem?_map,aF]; rfl
 rw [dp] at bK
 have hqnl:=hnx.2 q (List.mem_of_getElem? aF)
 obtain ⟨cx,cy,rfl⟩:=bK.slice
 have am:(F.rules.zip V.rn)[i]? =some (q,.slice cx q.next.length cy):=by rw [List.getElem?_zip_eq_some]; exact ⟨aF,dC⟩
 refine rg rfl (ae (((aL _ _ (az (lp (fun ah bc bV=> ∃ (j:Nat),(j≤q.next.length)∧(∀ aS,aS < j→jg F (q.next.getD aS 0)=true)∧(Wk wI bV)∧(bc 12=aG A)∧(bc 13=aa i)∧(bc 14=aa j)∧(q.next.length - j=ah)) _ ⟨0,(by omega),((fun aS di=>by omega)),aT,rfl,rfl,rfl,rfl⟩ ?_))))))
 rintro ah bc bV ⟨j,hj,bR,aq,dy,dA,dB,rfl⟩
 refine fx 12 dy (fx 13 dA (fx 14 dB (sq (fun _ bs=>sq (fun _ aM=> ?_)))))
 have hc12y:=Wk.aC aq aY
 have ho12J:=aE ho12 aq
 refine rg rfl (ab (aa j) (ab (aG A) (p (nc rfl) (p (fa jW rfl) (p (ld kP rfl (hc12y)) (ab (aa i) (p (aJ qe rfl rfl (by omega) (ak.ok ((aI ho12J).2) (qD am))) ?_)))))))
 refine p (fa tt rfl) (p (ld nT rfl (gi (f:=k3) (m:=8) (fun _=>rfl) (aI ho12J).2 am 6 (by decide))) (p (ba u64 rfl rfl) (p (lt rfl rfl) (ag ((aM _ _ (cd rfl (fun c8=> ?_) (fun c8=> ?_))))))))
 refine au (tn (bs _ _ (sq (fun _ ao=>az (sq (fun _ aN=> ?_))))))
 have hTJ:=bK.wk aq
 have dK:(q.next.map bq)[j]? =some (bq (q.next.getD j 0)):=by rw [List.getElem?_map,List.getD_eq_getElem?_getD,List.getElem?_eq_getElem (by omega :j < q.next.length)]; rfl
 refine rg rfl (ab (aG A) (p (nc rfl) (p (fa jW rfl) (p (ld kP rfl (hc12y)) (ab (aa i) (p (aJ qe rfl rfl (by omega) (ak.ok ((aI ho12J).2) (qD am))) (p (fa tt rfl) ?_)))))))
 refine p (ld nT rfl (gi (f:=k3) (m:=8) (fun _=>rfl) (aI ho12J).2 am 6 (by decide))) (ab (aa j) (p (aJ kn rfl rfl (by omega) (ak.ok (hTJ.bH.2) (bl (by omega)))) (p (ld bQ rfl (ak.gC hTJ.bH.2 dK)) (ae (((aN _ _ (sq (fun _ bt=> ?_)))))))))
 refine rg rfl (ab (aG A) (p mv (e (cl su (tG J.heap.size 0 A F V (q.next.getD j 0) bV (hF.wk aq) (by omega)) rfl fun d4 d9 cP=> ?_))))
 obtain ⟨rfl,b0⟩:=cP
 have hz164:=b0.size
 refine p mv (p (xt rfl rfl) (p (xt rfl rfl) (e (al mR fun dQ w16 hb16 b2 cB=>e (bX lL rfl rfl rfl rfl (cB) (by simp) fun wt30_7 cK cE=> ?_)))))
 have M:Wk wI wt30_7:=(aq.trans (b0.trans b2.md)).trans' cK (fun q ai h=>by have :=aq.size; omega)
 have hz16:=b2.size
 refine ae (((bt _ _ (U (fun _ aP=>(p mv (ab (aG A) (p (nc rfl) ?_))))))))
 refine p (fa qn rfl) (p (il pC rfl rfl (by omega)) (p (ld bQ rfl ((aO (hF.wk M).cells).trans rfl)) (p (bP rfl rfl) (p mv (gs (t:=174) rfl (fun de=> ?_) (fun de=> ?_))))))
 refine pg rfl rfl rfl mv (pg rfl rfl rfl (no rfl) (pg rfl rfl rfl mv (gb (t:=177) rfl (fun aZ=> ?_) (fun aZ=> ?_))))
 refine sk rfl rfl rfl rfl (sk rfl rfl rfl rfl (sk rfl rfl rfl rfl (pg rfl rfl rfl (bf rfl) (p (bf rfl) (ag ((aP _ _ (ct rfl ?_))))))))
 refine sq (fun _ bu=> ?_)
 have C:(fun w'=>Wk wt30_7 w') wt30_7.drew:=(Md.refl _ _).drew
 refine bC (fun w'=>Wk wt30_7 w') rfl wide C (bo 0 rfl (aG A) C (aA 1 rfl (fun _ _=>nc rfl) C (aA 2 rfl (fun _ _=>fa jW rfl) C (aA 3 rfl (fun w' I=>ld kP rfl (Wk.aC I (Wk.aC M aY))) C (bo 4 rfl (aa i) C (aA 5 rfl (fun _ _=>aJ qe rfl rfl (by omega) (ak.ok ((aI (aE ho12 M)).2) (qD am))) C (aA 6 rfl (fun _ _=>fa y7 rfl) C ?_)))))))
 refine aA 7 rfl (fun w' I=>ld bQ rfl (Wk.aC I (gi (f:=k3) (m:=8) (fun _=>rfl) (aI (aE ho12 M)).2 am 7 (by decide)))) C (aA 8 rfl (fun _ _=>aj) C (aA 9 rfl (fun _ _=>aj) C (aA 10 rfl (fun _ _=>aj) C (hn (by kernel_rfl) (tn (bu _ _ (rt (br ?_))))))))
 refine tr (tr (br (br (tr (tr (br (tr ?_)))))))
 refine f3 rfl rfl rfl rfl ?_
 have bM:eJ s= .error (q.line,118):=rQ an hX.symm (lO a0 aF (lG (j:=j) (by omega) (qW (by omega) (by simpa using aZ))))
 exact iU.no bM (hE27x.trans (aR.trans (M.trans C)))
 refine pg rfl rfl rfl (fa qo rfl) (pg rfl rfl rfl (ld bQ rfl ((cE.aC 1).trans rfl)) (pg rfl rfl rfl (bP rfl rfl) (pg rfl rfl rfl (a4 rfl) (p (bf rfl) (ag ((aP _ _ (cd rfl (fun da=> ?_) (fun da=> ?_)))))))))
 refine sq (fun _ bu=> ?_)
 have C:(fun w'=>Wk wt30_7 w') wt30_7.drew:=(Md.refl _ _).drew
 refine bC (fun w'=>Wk wt30_7 w') rfl wide C (bo 0 rfl (aG A) C (aA 1 rfl (fun _ _=>nc rfl) C (aA 2 rfl (fun _ _=>fa jW rfl) C (aA 3 rfl (fun w' I=>ld kP rfl (Wk.aC I (Wk.aC M aY))) C (bo 4 rfl (aa i) C (aA 5 rfl (fun _ _=>aJ qe rfl rfl (by omega) (ak.ok ((aI (aE ho12 M)).2) (qD am))) C (aA 6 rfl (fun _ _=>fa y7 rfl) C ?_)))))))
 refine aA 7 rfl (fun w' I=>ld bQ rfl (Wk.aC I (gi (f:=k3) (m:=8) (fun _=>rfl) (aI (aE ho12 M)).2 am 7 (by decide)))) C (aA 8 rfl (fun _ _=>aj) C (aA 9 rfl (fun _ _=>aj) C (aA 10 rfl (fun _ _=>aj) C (hn (by kernel_rfl) (tn (bu _ _ (rt (br ?_))))))))
 refine tr (tr (br (br (tr (tr (br (tr ?_)))))))
 refine f3 rfl rfl rfl rfl ?_
 have bM:eJ s= .error (q.line,118):=rQ an hX.symm (lO a0 aF (lG (j:=j) (by omega) (qV (by omega) (by simpa using aZ) (by show ((dJ F.aX (q.next.getD j 0)).getD jS).kind≠2; omega))))
 exact iU.no bM (hE27x.trans (aR.trans (M.trans C)))
 refine au (bn (tn (ao _ _ (rg rfl (ab (aa j) (p (ad rfl rfl (bp (by omega))) (p aj (nl ?_))))))))
 exact tn (⟨_,by omega,j+1,(by omega),((fun k hk=>by rcases Nat.lt_or_ge k j with h | h <;> first | exact bR k h | (rw [show k=j by omega]; exact Ay (by simpa using aZ) (by show ((dJ F.aX (q.next.getD j 0)).getD jS).kind=2; omega)))),M,rfl,rfl,rfl,rfl⟩)
 refine sk rfl rfl rfl rfl (sk rfl rfl rfl rfl (sk rfl rfl rfl rfl (ek rfl rfl rfl (ek rfl rfl rfl (ek rfl rfl rfl (sk rfl rfl rfl rfl (p (a4 rfl) ?_)))))))
 refine ag ((aP _ _ (cf rfl (au (bn (tn (ao _ _ (rg rfl (ab (aa j) ?_)))))))))
 exact p (ad rfl rfl (bp (by omega))) (ae (((⟨_,by omega,j+1,(by omega),((fun k hk=>by rcases Nat.lt_or_ge k j with h | h <;> first | exact bR k h | (rw [show k=j by omega]; exact Ax (by omega)))),M,rfl,rfl,rfl,rfl⟩))))
 refine ext (te _ (te _ (be (bn (tn (aK _ _ (rg rfl (ab (aa i) ?_))))))))
 exact p (ad rfl rfl (bp (by omega))) (ae (((⟨_,by omega,i+1,(by omega),((fun k dL hk bS=>by rcases Nat.lt_or_ge k i with h | h <;> first | exact a0 k dL h bS | (rw [show k=i by omega,aF] at bS; cases bS; exact wv (fun aS di=>bR aS (by omega))))),aq,rfl,rfl,rfl⟩))))
 refine ext (te _ (te _ (be (tn (bi _ _ (U (fun _ aK=>(ab (aG A) ?_))))))))
 refine p (bG (aG A) rfl) (p aj (ae (((aK _ _ (rt (f3 rfl rfl rfl rfl ?_)))))))
 unfold iU
 rw [vS an hX.symm (yP (fun j q hj ai=>a0 j q (by omega) ai))]
 exact ⟨⟨J.heap.size,A,V,by have :=hE27x.size; omega,rfl,hF.wk aT,⟨seen,by have hB:=hB; rw [show (dZ.rows (⟨a,A,(a6 s).length+1,.slice E (bd s).length G,vs,bd s⟩:dZ)).drop k= [] from ar] at hB; exact hB⟩,hnx⟩,hE27x.trans (aR.trans aT)⟩
end Go.Hb.nP
end
section
set_option maxRecDepth 20000
set_option maxHeartbeats 1000000
namespace Go.Hb.nO
open Go.Hb.di
open Go.Proofs
open Go.Hb.ke Go.Hb.mV Go.Hb.nP Go.Hb.eS Go.Hb.fE Go.Hb.fN Go.Hb.j7 Go.Hb.gU Go.Hb.mW Go.Hb.gA Go.Hb.mi Go.Hb.gl Go.Hb.fQ Go.Hb.j9 Go.Hb.ly Go.Hb.me Go.Hb.mU
def Cm (w':World) (X:Except Nat cV) (v:Value):Prop :=(∃ x a,X= .ok x∧v= .tuple #[.agg [str x.1,a].toArray,.int .i64 (0:Nat)]∧a.oneCell'=true∧Tg w' 0 3 x.2.length a (x.2.map bq))∨(∃ e,X= .error e∧e≠0∧v= .tuple #[.agg [str [],.slice none 0 0].toArray,.int .i64 (e:Nat)])
theorem vb (w:World) (B e:Nat):Tg w B e 0 (.slice none 0 0) []:=Tg.fT (size:=1) (World.ownsRow_nil _ _ _ _)
def Cr (w:World) (B:Nat) (v:Value) (xs:List cV):Prop := ∃ vs,World.ownsRow w B 68 2 v xs.length (gO (xs.zip vs))∧e9 w 0 3 vs (xs.map (·.2))
def iy (F:aH) (t:Tx) (w:World) (v:Value) (w':World):Prop :=(match fi F t with | .ok xs=> ∃ a,v= .tuple #[a,.int .i64 0,.int .i64 0]∧Cr w' w.heap.size a xs | .error e=>v= .tuple #[.slice none 0 0,.int .i64 (e.1:Nat),.int .i64 (e.2:Nat)])∧Wk w w'
theorem iy.no {F:aH} {t:Tx} {w w':World} {l e:Nat} (h:fi F t= .error (l,e)) (hm:Wk w w'):iy F t w (.tuple #[.slice none 0 0,.int .i64 (l:Nat),.int .i64 (e:Nat)]) w':=by
 unfold iy; rw [h]; exact ⟨rfl,hm⟩
theorem Hs (B fb:Nat) (F:aH) (V:ff) (x:Nat) (w:World) (hF:dz w B 0 fb F V) (am:F.aX.length≤70000):
 aU Tryz.prog 86 (List.toArray [aG fb,bq x]) w (fun v w'=>v= .bool (dw F x)∧Wk w w'):=by
 have hsp5:=hF.ee
 refine enter Tryz.func86 rfl Tryz.ntmps86 rfl ?_
 refine U (fun _ G=>(ae (((G _ _ (sq (fun _ I=>U (fun _ J=> ?_))))))))
 refine ae (((J _ _ (az (lp (fun A a wI=> ∃ (i:Nat),(i≤5)∧(∀ j,j < i→F.sp.getD j 0≠x)∧(wI=w)∧(a 0=aG fb)∧(a 1=bq x)∧(a 5=aa i)∧(5 - i=A)) _ ⟨0,(by omega),((fun j hj=>by omega)),rfl,rfl,rfl,rfl,rfl⟩ ?_)))))
 rintro A a wI ⟨i,hi,E,Z,an,ao,ap,rfl⟩
 refine fx 0 an (fx 1 ao (fx 5 ap ?_))
 subst Z
 refine sq (fun _ M=>U (fun _ O=>(ab (aa i) (p (lt rfl rfl) (ag ((O _ _ (cd rfl (fun ak=> ?_) (fun ak=> ?_)))))))))
 refine au (tn (M _ _ (sq (fun _ q=>az (U (fun _ s=>(ab (aG fb) (ab (aa i) ?_))))))))
 refine p (nc rfl) (p (fa qn rfl) (p (il pC rfl rfl (by omega)) (p (ld bQ rfl ((aO hF.cells).trans (zu (i:=i) (by omega)))) (ab (bq x) (p (a8 rfl rfl) (ag ((s _ _ ?_))))))))
 refine cd rfl (fun C=> ?_) (fun C=> ?_)
 refine U (fun _ Y=>(ae (((Y _ _ (rt (br (tr ?_))))))))
 exact tr (br (tr (f1 rfl rfl (⟨by rw [ye (show x∈F.sp from by obtain rfl :F.sp.getD i 0=x:=(by omega); exact c6 (by omega))]; rfl,Md.refl _ _⟩))))
 refine au (bn (tn (q _ _ (rg rfl (ab (aa i) (p (ad rfl rfl (bp (by omega))) (p aj (nl ?_))))))))
 exact tn (⟨_,by omega,i+1,(by omega),((fun j hj=>by rcases Nat.lt_or_ge j i with h | h <;> first | exact E j h | (rw [show j=i by omega]; exact fun h2=>C (by rw [h2])))),rfl,rfl,rfl,rfl,rfl⟩)
 refine ext (te _ (te _ (be (tn (I _ _ (U (fun _ q=>(ab (aG fb) ?_))))))))
 refine ab (bq x) (e (cl su (tG B 0 fb F V x wI hF am) rfl fun av w23 ai=> ?_))
 obtain ⟨rfl,hE23⟩:=ai
 have hz23:=hE23.size
 refine p mv (p (xt rfl rfl) (p (xt rfl rfl) (e (al mR fun aq w6 hb6 ah hB6=>e (bX lL rfl rfl rfl rfl (hB6) (by simp) fun aw ac ar=>ae (((q _ _ ?_))))))))
 refine U (fun _ s=>(p mv (ae (((s _ _ (rt (f1 rfl rfl ?_))))))))
 exact ⟨by rw [yf (Ah (fun j hj=>E j (by omega)))]; rfl,(hE23.trans ah.md).trans' ac (fun k hk h=>by omega)⟩
theorem Hc (B fb:Nat) (F:aH) (V:ff) (r:List Tx) (aP:Nat) (Z:Option Addr) (ac:Nat) (w:World) (aK:dz w B 0 fb F V) (bm:∃ seen,j8 F [] seen) (hnx:Nx F) (bG:Tg w aP 9 r.length (.slice Z r.length ac) (r.map str)) (hrl:∀ x∈r,x.length≤70000) (hr:r.length≤70000):
 aU Tryz.prog 46 (List.toArray [aG fb,.slice Z r.length ac]) w (fun v w'=>Cm w' (eA F r) v∧Wk w w'):=by
 obtain ⟨seen,aI⟩:=bm
 have hbl:=aI.len
 have hwl:=mQ (r.getD 0 [])
 refine enter Tryz.func46 rfl Tryz.ntmps46 rfl ?_
 refine U (fun _ aQ=>(e (fH vA fun aC w4 b0 J aF=> ?_)))
 have hz4:=J.size
 have hT:=bG.wk J.md
 have hF4:=aK.wk J.md
 have hb4x:bD w4.heap aC [str [],.slice none 0 0]:=⟨_,aF⟩
 refine ae (((aQ _ _ (sq (fun _ aZ=>U (fun _ a5=>(ab (.slice Z r.length ac) (p (ba c9 rfl rfl) ?_))))))))
 refine p (bP rfl rfl) (ag ((a5 _ _ (cd rfl (fun bJ=> ?_) (fun bJ=> ?_)))))
 refine U (fun _ ao=>(p (bY (ps:= []) (L:= [.string ⟨⟨[]⟩⟩,.slice none 0 0]) lf rfl (rfl)) (e (bX jU rfl rfl rfl rfl (hb4x) (by simp) fun ce bx bj=>ae (((ao _ _ (rt ?_))))))))
 exact tr (dO rfl (c8 (cs:= [str [],.slice none 0 0]) rfl jQ rfl (fun j hj=>bj.c5 j)) dE (⟨.inr ⟨111,yy (by omega),by decide,rfl⟩,J.md.trans' bx (fun q a h=>by omega)⟩))
 have hr1:r.length=1:=by omega
 have b2:(r.getD 0 []).length≤70000:=hrl _ (c6 (by omega))
 refine au (tn (aZ _ _ (U (fun _ ao=>(ab (.slice Z r.length ac) (p (aJ bA rfl rfl (by omega) (ak.ok (hT.bH.2) (bl (by omega)))) (p (ld bw rfl (bh.get (i:=0) hT.bH.2 (by omega))) (e (cl pN (q8 (r.getD 0 []) w4 (by omega)) rfl fun b3 bU bB=> ?_)))))))))
 obtain ⟨rfl,hE22⟩:=bB
 have hE22x:=J.md.trans hE22
 have hz22:=hE22.size
 refine p mv (p (xt rfl rfl) (p (xt rfl rfl) (p (xt rfl rfl) (p (xt rfl rfl) (p aj (p aj (p aj ?_)))))))
 refine ae (((ao _ _ (sq (fun _ a6=>U (fun _ a7=>(p mv (p (bP rfl rfl) ?_))))))))
 refine ag ((a7 _ _ (cd rfl (fun bK=> ?_) (fun bK=> ?_))))
 refine U (fun _ ap=>(p (bY (ps:= []) (L:= [.string ⟨⟨[]⟩⟩,.slice none 0 0]) lf rfl (rfl)) (p mv (e (bX jU rfl rfl rfl rfl (Wk.B hE22 hb4x) (by simp) fun cf bz bk=>ae (((ap _ _ ?_))))))))
 exact rt (tr (dO rfl (c8 (cs:= [str [],.slice none 0 0]) rfl jQ rfl (fun j hj=>bk.c5 j)) dE (⟨.inr ⟨_,qa hr1 (by omega),(by omega),rfl⟩,hE22x.trans' bz (fun q a h=>by omega)⟩)))
 have E:(aV (r.getD 0 [])).2.2.2=0:=by omega
 refine au (tn (a6 _ _ (U (fun _ ap=>(p mv (e (cl nZ (oH (aV (r.getD 0 [])).1 bU (by omega)) rfl fun b4 bV bC=> ?_)))))))
 obtain ⟨rfl,hE32⟩:=bC
 have hE32x:=hE22x.trans hE32
 have hb32:=Wk.B (hE22.trans hE32) hb4x
 have hz32:=hE32.size
 refine ae (((ap _ _ (sq (fun _ a9=>U (fun _ aB=>(p mv (p (bI u9 rfl rfl) ?_))))))))
 refine p (a8 rfl rfl) (p mv (gs (t:=36) rfl (fun aO=> ?_) (fun aO=> ?_)))
 have av:eh (aV (r.getD 0 [])).1=false∨(aV (r.getD 0 [])).1= []:= .inr (List.eq_nil_of_length_eq_zero (by omega))
 refine sk rfl rfl rfl rfl (sk rfl rfl rfl rfl (p (bf rfl) (ag ((aB _ _ (ct rfl (U (fun _ I=> ?_))))))))
 refine p (bY (ps:= []) (L:= [.string ⟨⟨[]⟩⟩,.slice none 0 0]) lf rfl (rfl)) (e (bX jU rfl rfl rfl rfl (hb32) (by simp) fun bW ar aq=>ae (((I _ _ (rt (tr (dO rfl (c8 (cs:= [str [],.slice none 0 0]) rfl jQ rfl (fun j hj=>aq.c5 j)) dE ?_))))))))
 exact ⟨.inr ⟨21,qc hr1 E av,by decide,rfl⟩,hE32x.trans' ar (fun q a h=>by omega)⟩
 refine pg rfl rfl rfl mv (pg rfl rfl rfl (no rfl) (p (a4 rfl) (ag ((aB _ _ (cb rfl (fun aw=> ?_) (fun aw=> ?_)))))))
 have av:eh (aV (r.getD 0 [])).1=false∨(aV (r.getD 0 [])).1= []:=by
  first
   | exact .inl (by simpa using aw)
   | exact .inr (List.eq_nil_of_length_eq_zero (by omega))
 refine U (fun _ I=>(p (bY (ps:= []) (L:= [.string ⟨⟨[]⟩⟩,.slice none 0 0]) lf rfl (rfl)) (e (bX jU rfl rfl rfl rfl (hb32) (by simp) fun bW ar aq=>ae (((I _ _ (rt ?_))))))))
 exact tr (dO rfl (c8 (cs:= [str [],.slice none 0 0]) rfl jQ rfl (fun j hj=>aq.c5 j)) dE (⟨.inr ⟨21,qc hr1 E av,by decide,rfl⟩,hE32x.trans' ar (fun q a h=>by omega)⟩))
 have Y:(aV (r.getD 0 [])).1≠[]:=fun h=>aO (by rw [h]; rfl)
 have hby:eh (aV (r.getD 0 [])).1=true :=by simpa using aw
 refine au (tn (a9 _ _ (sq (fun _ I=>U (fun _ aR=>(p mv (p (bI u9 rfl rfl) (p (gt rfl rfl) ?_))))))))
 refine ag ((aR _ _ (cd rfl (fun bL=> ?_) (fun bL=> ?_))))
 refine U (fun _ ai=>(p (bY (ps:= []) (L:= [.string ⟨⟨[]⟩⟩,.slice none 0 0]) lf rfl (rfl)) (e (bX jU rfl rfl rfl rfl (hb32) (by simp) fun b8 bs bb=>ae (((ai _ _ (rt ?_))))))))
 exact tr (dO rfl (c8 (cs:= [str [],.slice none 0 0]) rfl jQ rfl (fun j hj=>bb.c5 j)) dE (⟨.inr ⟨22,yz hr1 E hby Y (by omega),by decide,rfl⟩,hE32x.trans' bs (fun q a h=>by omega)⟩))
 refine au (tn (I _ _ (sq (fun _ ai=>U (fun _ aS=>(p mv (p (no rfl) (nl ?_))))))))
 refine tn (aS _ _ (cb rfl (fun M=> ?_) (fun M=> ?_)))
 refine U (fun _ al=>(p mv (p (bY (ps:= [(0,str (aV (r.getD 0 [])).1)]) (L:= [str (aV (r.getD 0 [])).1,.slice none 0 0]) lf rfl (rfl)) (e (bX jU rfl rfl rfl rfl (hb32) (by simp) fun wt12_2 bt bc=>ae (((al _ _ ?_))))))))
 exact rt (tr (dO rfl (c8 (cs:= [str (aV (r.getD 0 [])).1,.slice none 0 0]) rfl jQ rfl (fun j hj=>bc.c5 j)) dE (⟨.inl ⟨_,.slice none 0 0,sY hr1 E hby Y (by omega) (by simpa using M),rfl,rfl,vb _ _ _⟩,hE32x.trans' bt (fun q a h=>by omega)⟩)))
 refine au (tn (ai _ _ (U (fun _ al=>(ab (aG fb) (p mv (e (cl pO (zr B fb F V (aV (r.getD 0 [])).2.1 bV (hF4.wk (hE22.trans hE32)).r aI.kd (by omega) (by omega)) rfl fun b5 w52 bE=> ?_))))))))
 obtain ⟨⟨bZ,aD,rfl,b1,hcs⟩,hE52⟩:=bE
 have hE52x:=hE32x.trans hE52
 have hb52:=Wk.B hE52 hb32
 have hz52:=hE52.size
 refine p mv (p (xt rfl rfl) (p (xt rfl rfl) (p aj (ae (((al _ _ (sq (fun _ aT=> ?_)))))))))
 refine U (fun _ aW=>(p mv (p (bP rfl rfl) (ag ((aW _ _ (cd rfl (fun aN=> ?_) (fun aN=> ?_))))))))
 have ay:aD≠0:=fun h0=>aN (by rw [h0]; rfl)
 rcases hcs with ⟨l,h,_⟩ | ⟨hne,O⟩
 exact absurd h ay
 refine U (fun _ am=>(p (bY (ps:= []) (L:= [.string ⟨⟨[]⟩⟩,.slice none 0 0]) lf rfl (rfl)) (p mv (e (bX jU rfl rfl rfl rfl (hb52) (by simp) fun b9 bu bd=>ae (((am _ _ ?_))))))))
 exact rt (tr (dO rfl (c8 (cs:= [str [],.slice none 0 0]) rfl jQ rfl (fun j hj=>bd.c5 j)) dE (⟨.inr ⟨_,yA hr1 E hby Y (by omega) (by simpa using M) O,hne,rfl⟩,hE52x.trans' bu (fun q a h=>by omega)⟩)))
 have ay:aD=0:=by omega
 have hcs2:=hcs.resolve_right (fun h=>h.1 ay)
 obtain ⟨set,_,O,ah⟩:=hcs2
 have hsx:=ah.slice
 obtain ⟨s,A,a⟩:=hsx
 subst a
 have hsl:=qj hnx.1 O
 refine au (tn (aT _ _ (sq (fun _ am=>U (fun _ aX=>(ae (((aX _ _ ?_)))))))))
 refine az (lp (fun aE G aA=> ∃ (j:Nat),(j≤set.length)∧(∀ q,q < j→dw F (set.getD q 0)=true)∧(Wk w52 aA)∧(G 0=aG fb)∧(G 4=aG aC)∧(G 6=str (aV (r.getD 0 [])).1)∧(G 11= .slice s set.length A)∧(G 12=aa j)∧(set.length - j=aE)) _ ⟨0,(by omega),((fun q a=>by omega)),(Md.refl _ _),rfl,rfl,rfl,rfl,rfl,rfl⟩ ?_)
 rintro aE G aA ⟨j,hj,aM,C,bN,bS,bT,bO,bR,rfl⟩
 refine fx 0 bN (fx 4 bS (fx 6 bT (fx 11 bO (fx 12 bR (sq (fun _ aY=>U (fun _ a0=>(ab (aa j) (ab (.slice s set.length A) (p (ba u64 rfl rfl) (p (lt rfl rfl) ?_)))))))))))
 refine ag ((a0 _ _ (cd rfl (fun bM=> ?_) (fun bM=> ?_))))
 refine au (tn (aY _ _ (sq (fun _ an=>az (U (fun _ a1=>(ab (aG fb) (ab (.slice s set.length A) ?_))))))))
 refine ab (aa j) (p (aJ kn rfl rfl (by omega) (ak.ok ((ah.wk C).bH.2) (bl (by omega)))) (p (ld bQ rfl (ak.gC (ah.wk C).bH.2 (show (set.map bq)[j]? =some (bq (set.getD j 0)) by rw [List.getElem?_map,List.getD_eq_getElem?_getD,List.getElem?_eq_getElem (by omega :j < set.length)]; rfl))) ?_))
 refine e (cl Ej (Hs B fb F V (set.getD j 0) aA (aK.wk (hE52x.trans C)) (by omega)) rfl fun b6 b7 bF=> ?_)
 obtain ⟨rfl,bo⟩:=bF
 have hE70x:=C.trans bo
 have hz70:=hE70x.size
 refine ae (((a1 _ _ (U (fun _ a2=>(p mv (p (no rfl) (nl ?_))))))))
 refine tn (a2 _ _ (cb rfl (fun ax=> ?_) (fun ax=> ?_)))
 refine U (fun _ a3=>(p (bY (ps:= []) (L:= [.string ⟨⟨[]⟩⟩,.slice none 0 0]) lf rfl (rfl)) (e (bX jU rfl rfl rfl rfl (Wk.B hE70x hb52) (by simp) fun ca bv bg=>ae (((a3 _ _ (rt ?_))))))))
 exact br (tr (tr (br (tr (dO rfl (c8 (cs:= [str [],.slice none 0 0]) rfl jQ rfl (fun j hj=>bg.c5 j)) dE (⟨.inr ⟨120,yB hr1 E hby Y (by omega) (by simpa using M) O (i:=j) (by omega) (by simpa using ax),by decide,rfl⟩,(hE52x.trans hE70x).trans' bv (fun q a h=>by omega)⟩))))))
 refine au (bn (tn (an _ _ (rg rfl (ab (aa j) (p (ad rfl rfl (bp (by omega))) (p aj (nl ?_))))))))
 exact tn (⟨_,by omega,j+1,(by omega),((fun q a=>by rcases Nat.lt_or_ge q j with h | h <;> first | exact aM q h | (rw [show q=j by omega]; simpa using ax))),hE70x,rfl,rfl,rfl,rfl,rfl,rfl⟩)
 refine ext (te _ (te _ (be (tn (am _ _ (U (fun _ an=>(ab (str (aV (r.getD 0 [])).1) ?_))))))))
 refine ab (.slice s set.length A) (p (bY (ps:= [(0,str (aV (r.getD 0 [])).1),(1,.slice s set.length A)]) (L:= [str (aV (r.getD 0 [])).1,.slice s set.length A]) lf rfl (rfl)) (e (bX jU rfl rfl rfl rfl (Wk.B C hb52) (by simp) fun cc aL bi=>ae (((an _ _ (rt (dO rfl (c8 (cs:= [str (aV (r.getD 0 [])).1,.slice s set.length A]) rfl jQ rfl (fun j hj=>bi.c5 j)) dE ?_))))))))
 exact ⟨.inl ⟨((aV (r.getD 0 [])).1,set),.slice s set.length A,sZ hr1 E hby Y (by omega) (by simpa using M) O (fun j hj=>aM j (by omega)),rfl,rfl,(ah.wk C).md aL (dK (Wk.az ((hE22.trans (hE32.trans hE52)).trans C) aF) (by decide))⟩,(hE52x.trans C).trans' aL (fun q a h=>by omega)⟩
theorem qC (a:Option Addr) (c:Nat) (xs:List cV) (vs:List Value) (s:Tx) (w:World) (hC:ak w.heap a (gO (xs.zip vs))) (hvl:vs.length=xs.length) (aC:xs.length≤70000):
 aU Tryz.prog 26 (List.toArray [.slice a xs.length c,str s]) w (fun v w'=>World.ownsRow w' w.heap.size 3 1 v (idxs s xs).length ((idxs s xs).map bq)∧Wk w w'):=by
 refine enter Tryz.func26 rfl Tryz.ntmps26 rfl ?_
 refine U (fun _ V=>(ae (((V _ _ (U (fun _ Y=>(p aj ?_))))))))
 refine ag ((Y _ _ (sq (fun _ Z=>U (fun _ ac=>(ae (((ac _ _ ?_)))))))))
 refine az (lp (fun I A wI=> ∃ (i:Nat) (v:Value),(i≤xs.length)∧(World.ownsRow wI w.heap.size 3 1 v (idxs s (xs.take i)).length ((idxs s (xs.take i)).map bq))∧(Wk w wI)∧(A 0= .slice a xs.length c)∧(A 1=str s)∧(A 5=v)∧(A 6=aa i)∧(xs.length - i=I)) _ ⟨0,.slice none 0 0,(by omega),(World.ownsRow_nil _ _ _ _),(Md.refl _ _),rfl,rfl,rfl,rfl,rfl⟩ ?_)
 rintro I A wI ⟨i,v,hi,q,j,ao,aq,ar,av,rfl⟩
 refine fx 0 ao (fx 1 aq (fx 5 ar (fx 6 av (sq (fun _ ah=>U (fun _ ai=>(ab (aa i) (ab (.slice a xs.length c) (p (ba l7 rfl rfl) (p (lt rfl rfl) ?_))))))))))
 refine ag ((ai _ _ (cd rfl (fun hc10=> ?_) (fun hc10=> ?_))))
 refine au (tn (ah _ _ (sq (fun _ C=>az (sq (fun _ al=> ?_))))))
 obtain ⟨x,M⟩:∃ x,xs[i]? =some x:=⟨_,List.getElem?_eq_getElem (by omega)⟩
 obtain ⟨u,aw⟩:∃ u,vs[i]? =some u:=⟨_,List.getElem?_eq_getElem (by omega)⟩
 have J:(xs.zip vs)[i]? =some (x,u):=List.getElem?_zip_eq_some.2 ⟨M,aw⟩
 have O:xs.getD i ([],[])=x:=by rw [List.getD_eq_getElem?_getD,M]; rfl
 refine rg rfl (ab (.slice a xs.length c) (ab (aa i) (p (aJ yE rfl rfl (by omega) (ak.ok (hC.wk j) (lN J))) (p (fa tz rfl) (p (ld bw rfl (gi (f:=jv) (m:=2) (fun _=>rfl) (hC.wk j) J 0 (by decide))) (ab (str s) (p (cG rfl rfl) ?_)))))))
 refine ag ((al _ _ (cd rfl (fun G=> ?_) (fun G=> ?_))))
 refine rg rfl (ab (v) (ab (aa i) (e (ea jK rfl rfl fun ay aD aA E am=> ?_))))
 have hE22:=j.trans E.md
 refine e (ap jK (aE q E.md) rfl (by have :=hE22.size; omega) rfl (ak.cQ am) (rfl) (rfl) (by have :=mE s (xs.take i); rw [List.length_take] at this; omega) (by have :=mE s (xs.take i); rw [List.length_take] at this; omega) fun ax w23 ho23 an hz23 aB=> ?_)
 have hE23:=Wk.own hE22 (aE q E.md) an (Nat.le_refl _)
 refine p aj (nl (bn (tn (C _ _ (rg rfl (ab (aa i) (p (ad rfl rfl (bp (by omega))) (p aj ?_))))))))
 exact ag ((⟨_,by omega,i+1,ax,(by omega),((by rw [zP (by omega),O,if_pos G,List.map_append,List.length_append]; exact ho23)),hE23,rfl,rfl,rfl,rfl,rfl⟩))
 refine au (bn (tn (C _ _ (rg rfl (ab (aa i) (p (ad rfl rfl (bp (by omega))) (p aj (nl ?_))))))))
 exact tn (⟨_,by omega,i+1,v,(by omega),((by rw [zP (by omega),O,if_neg G,List.append_nil]; exact q)),j,rfl,rfl,rfl,rfl,rfl⟩)
 refine ext (te _ (te _ (be (tn (Z _ _ (U (fun _ C=>(ab (v) ?_))))))))
 refine p (bG (v) rfl) (ag ((C _ _ (rt (f1 rfl rfl ?_)))))
 rw [List.take_of_length_le (by omega)] at q
 exact ⟨q,j⟩
end Go.Hb.nO
end
section
set_option maxRecDepth 20000
set_option maxHeartbeats 1000000
namespace Go.Hb.rM
open Go.Hb.di
open Go.Proofs
open Go.Hb.ke Go.Hb.mV Go.Hb.nP Go.Hb.eS Go.Hb.fE Go.Hb.fN Go.Hb.j7 Go.Hb.gU Go.Hb.mW Go.Hb.gA Go.Hb.mi Go.Hb.gl Go.Hb.fQ Go.Hb.j9 Go.Hb.ly Go.Hb.me Go.Hb.mU Go.Hb.nO
theorem zI {r:List Tx} (h:r.length≠1):g5 r=(0,111):=if_pos h
theorem HP {r:List Tx} (h:r.length=1):g5 r=cH (r.getD 0 []) 8192:=if_neg (fun h2=>h2 h)
theorem zo (B fb:Nat) (F:aH) (V:ff) (t:Tx) (w:World) (b4:dz w B 0 fb F V) (b2:∃ seen,j8 F [] seen) (hnx:Nx F) (hs:t.length≤1048576):
 aU Tryz.prog 14 (List.toArray [aG fb,str t]) w (iy F t w):=by
 refine enter Tryz.func14 rfl Tryz.ntmps14 rfl ?_
 refine U (fun _ bB=>(p aj (p aj (ae (((bB _ _ (sq (fun _ bM=> ?_)))))))))
 refine rg rfl (ab (str t) (e (cl xq (A2 t _ hs) rfl fun cK w17 b5=> ?_)))
 obtain ⟨⟨cB,rfl,hcs⟩,hE17⟩:=b5
 refine p mv (p (xt rfl rfl) (p (xt rfl rfl) (p aj (ae (((bM _ _ (sq (fun _ bS=> ?_)))))))))
 refine U (fun _ bT=>(p mv (p (bP rfl rfl) (ag ((bT _ _ (cd rfl (fun aO=> ?_) (fun aO=> ?_))))))))
 have a4:65536 < t.length:=Classical.byContradiction fun h=>aO (by rw [if_neg h])
 refine U (fun _ aD=>(p mv (p aj (p aj (ae (((aD _ _ ?_))))))))
 refine rt (tr (f3 rfl rfl rfl rfl ?_))
 have h:=iy.no (F:=F) (ym a4) hE17
 show iy F t w (.tuple #[.slice none 0 0,.int .i64 0,.int .i64 (if 65536 < t.length then 10 else 0)]) _
 rw [if_pos a4]
 exact h
 have am:¬65536 < t.length:=fun h=>aO (by rw [if_pos h]; decide)
 rw [if_neg am] at hcs
 obtain ⟨vs,bs,aR⟩:=hcs
 obtain ⟨ai,al,rfl⟩:=bU bs
 have hrl:=q4 t
 have hCr0:=(aI bs).2
 have hvl:=aR.1
 refine au (tn (bS _ _ (U (fun _ aD=>(ab (str t) (e (cl sn (uL t _ hs) rfl fun cL J b6=> ?_)))))))
 obtain ⟨ck,hE24⟩:=b6
 obtain ⟨bv,lK,rfl⟩:=bU ck
 have hE24x:=hE17.trans hE24
 have hll:=jZ t
 have hCr:=hCr0.wk hE24
 refine ae (((aD _ _ (sq (fun _ bV=>U (fun _ bW=>(p mv (p (ba rA rfl rfl) ?_))))))))
 refine p (a8 rfl rfl) (ag ((bW _ _ (cd rfl (fun aP=> ?_) (fun aP=> ?_)))))
 have hnil:bd t= []:=List.eq_nil_of_length_eq_zero (by omega)
 refine U (fun _ aF=>(p mv (p (ba c9 rfl rfl) (p (a9 (((a6 t).length+1:Nat):Int) rfl rfl (aQ (by omega) (by omega))) (p aj (p aj (p aj ?_)))))))
 exact ag ((aF _ _ (rt (tr (f3 rfl rfl rfl rfl (iy.no (yn am hnil) hE24x))))))
 obtain ⟨⟨ln0,s⟩,rest,hrw⟩:∃ q rest,bd t=q::rest:=by
  cases h:bd t with
  | nil=>rw [h] at aP; exact absurd rfl aP
  | cons q rest=>exact ⟨q,rest,rfl⟩
 have bu:(bd t)[0]? =some (ln0,s):=by rw [hrw]; rfl
 obtain ⟨bx,an⟩:∃ p,vs[0]? =some p:=⟨_,List.getElem?_eq_getElem (by omega)⟩
 obtain ⟨aK,aV⟩:=aR.2 0 bx (ln0,s) an bu
 obtain ⟨p1,cx⟩:=bx
 obtain rfl :ln0=p1:=aK.symm
 obtain ⟨aS,c0,hp2⟩:=aV.slice
 obtain rfl :cx= .slice aS s.length c0:=hp2
 have a3:Tg J w.heap.size 9 s.length (.slice aS s.length c0) (s.map str):=aV.wk hE24
 have bi:∀ q∈bd t,q.2.length≤70000∧∀ x∈q.2,x.length≤70000:=fun q bt=>by
  have h:=q5 bt
  exact ⟨by omega,fun x cw=>by have :=(h.2.2.2.2 x cw).2; omega⟩
 have hm0:s.length≤70000∧∀ x∈s,x.length≤70000:=bi (ln0,s) (List.mem_of_getElem? bu)
 refine au (tn (bV _ _ (sq (fun _ aF=>U (fun _ bX=>(p mv (p (aJ jV rfl rfl (by omega) (ak.ok (hCr) (ir (by omega)))) (p (fa om rfl) ?_))))))))
 refine p (ld gd rfl (iu (i:=0) hCr an 1 (by decide))) (p (ba c9 rfl rfl) (p (bP rfl rfl) (ag ((bX _ _ (cd rfl (fun a5=> ?_) (fun a5=> ?_)))))))
 have bj:s.length≠1:=by omega
 obtain ⟨e36,bf,cb⟩:=sR (F:=F) am hrw (by rw [zI bj]; decide)
 rw [zI bj] at bf
 obtain rfl :e36=111:=by have h:(111:Int)=e36:=bf; omega
 refine sq (fun _ av=> ?_)
 have I:(fun w'=>Wk J w') J.drew:=(Md.refl _ _).drew
 refine bC (fun w'=>Wk J w') rfl wide I (aA 0 rfl (fun _ _=>mv) I (aA 1 rfl (fun _ _=>aJ jV rfl rfl (by omega) (ak.ok (hCr) (ir (by omega)))) I (aA 2 rfl (fun _ _=>fa nf rfl) I (aA 3 rfl (fun w' O=>ld bQ rfl (Wk.aC O (iu (i:=0) hCr an 0 (by decide)))) I (aA 4 rfl (fun _ _=>aj) I (aA 5 rfl (fun _ _=>aj) I (aA 6 rfl (fun _ _=>aj) I ?_)))))))
 exact hn (by kernel_rfl) (tn (av _ _ (rt (tr (f3 rfl rfl rfl rfl (iy.no cb (hE24x.trans I)))))))
 have hr1:s.length=1:=by have h:¬((s.length:Nat):Int)≠1:=a5; omega
 refine au (tn (aF _ _ (U (fun _ av=>(p mv (p (aJ jV rfl rfl (by omega) (ak.ok (hCr) (ir (by omega)))) (p (fa om rfl) (p (ld gd rfl (iu (i:=0) hCr an 1 (by decide))) ?_))))))))
 refine p (aJ bA rfl rfl (by omega) (ak.ok (a3.bH.2) (bl (by omega)))) (p (ld bw rfl (bh.get (i:=0) a3.bH.2 (by omega))) (e (cl mu (mM (s.getD 0 []) 8192 J (by have :=hm0.2 _ (c6 (d:= []) (show 0 < s.length by omega)); omega) (by omega)) rfl fun cM w48 b7=> ?_)))
 obtain ⟨rfl,hE48⟩:=b7
 have hE48x:=hE24x.trans hE48
 have hnum:=HP (show s.length=1 by omega)
 refine p mv (p (xt rfl rfl) (p (xt rfl rfl) (p aj (ae (((av _ _ (sq (fun _ bE=> ?_)))))))))
 refine U (fun _ bF=>(p mv (p (bP rfl rfl) (ag ((bF _ _ (cd rfl (fun a7=> ?_) (fun a7=> ?_))))))))
 obtain ⟨cD,bg,aN⟩:=sR (F:=F) am hrw (by rw [hnum]; exact a7)
 rw [hnum] at bg
 refine sq (fun _ aw=> ?_)
 have E:(fun w'=>Wk w48 w') w48.drew:=(Md.refl _ _).drew
 refine bC (fun w'=>Wk w48 w') rfl wide E (aA 0 rfl (fun _ _=>mv) E (aA 1 rfl (fun _ _=>aJ jV rfl rfl (by omega) (ak.ok ((hCr.wk hE48)) (ir (by omega)))) E (aA 2 rfl (fun _ _=>fa nf rfl) E (aA 3 rfl (fun w' O=>ld bQ rfl (Wk.aC O (iu (i:=0) (hCr.wk hE48) an 0 (by decide)))) E (aA 4 rfl (fun _ _=>mv) E (aA 5 rfl (fun _ _=>aj) E (aA 6 rfl (fun _ _=>aj) E ?_)))))))
 refine aA 7 rfl (fun _ _=>aj) E (hn (by kernel_rfl) (tn (aw _ _ (rt (tr (f3 rfl rfl rfl rfl ?_))))))
 have h:=iy.no aN (hE48x.trans E)
 show iy F t w (.tuple #[.slice none 0 0,aa ln0,.int .i64 (cH (s.getD 0 []) 8192).2]) _
 rw [bg]
 exact h
 obtain ⟨n,hn0,cI,aN⟩:=yj (F:=F) am hrw (by rw [hnum]; omega)
 rw [hnum] at hn0
 have ca:fc F ((a6 t).length+1) (fi F t) [] (n - 0) ((bd t).drop (0 +1)):=by rw [aN,hrw]; exact fc.start
 obtain ⟨seen,b1⟩:=b2
 refine au (tn (bE _ _ (U (fun _ aw=>(ae (((aw _ _ (sq (fun _ bI=> ?_))))))))))
 refine U (fun _ bJ=>(ae (((bJ _ _ (az (lp (fun aW Y wI=> ∃ (i:Nat) (xs:List cV) (vx:List Value) (M:Option Addr) (co:Nat),(i+1≤(bd t).length∧i≤n)∧(xs.length=i)∧(fc F ((a6 t).length+1) (fi F t) xs (n - i) ((bd t).drop (i+1)))∧(World.ownsRow wI J.heap.size 68 2 (.slice M xs.length co) xs.length (gO (xs.zip vx)))∧(e9 wI 0 3 vx (xs.map (·.2)))∧(Wk J wI)∧(Y 0=aG fb)∧(Y 7= .slice ai (bd t).length al)∧(Y 9= .slice bv (a6 t).length lK)∧(Y 10=aa n)∧(Y 11= .slice M xs.length co)∧(Y 12=aa (i+1))∧((bd t).length - i=aW)) _ ⟨0,[],[],none,0,(by omega),rfl,ca,(World.ownsRow_nil _ _ _ _),(e9.nil _ _ _),hE48,rfl,rfl,rfl,(by first | rfl | (rw [← hn0]; rfl)),rfl,rfl,rfl⟩ ?_)))))))
 rintro aW Y wI ⟨i,xs,vx,M,co,hi,hxl,G,a2,hal,A,cp,ct,cu,cq,cr,cs,rfl⟩
 refine fx 0 cp (fx 7 ct (fx 9 cu (fx 10 cq (fx 11 cr (fx 12 cs (sq (fun _ bK=>U (fun _ bL=>(ab (aa (i+1)) (ab (.slice ai (bd t).length al) (p (ba rA rfl rfl) (p (lt rfl rfl) ?_))))))))))))
 refine ag ((bL _ _ (cd rfl (fun cf=> ?_) (fun cf=> ?_))))
 refine au (tn (bK _ _ (sq (fun _ ax=>az (sq (fun _ ay=>sq (fun _ ac=> ?_)))))))
 obtain ⟨⟨ln,r⟩,hri⟩:∃ q,(bd t)[i+1]? =some q:=⟨_,List.getElem?_eq_getElem (by omega)⟩
 have ci:(bd t).drop (i+1)=(ln,r)::(bd t).drop (i+2):=by rw [List.drop_eq_getElem_cons (by omega)]; rw [List.getElem?_eq_getElem (by omega)] at hri; rw [Option.some.inj hri]
 obtain ⟨p,aq⟩:∃ p,vs[i+1]? =some p:=⟨_,List.getElem?_eq_getElem (by omega)⟩
 obtain ⟨aK,ao⟩:=aR.2 (i+1) p (ln,r) aq hri
 obtain ⟨pn,cy⟩:=p
 obtain rfl :ln=pn:=aK.symm
 obtain ⟨a,c,cn⟩:=ao.slice
 obtain rfl :cy= .slice a r.length c:=cn
 have ao:Tg w17 w.heap.size 9 r.length (.slice a r.length c) (r.map str):=ao
 have hmr:r.length≤70000∧∀ x∈r,x.length≤70000:=bi (ln,r) (List.mem_of_getElem? hri)
 rw [ci] at G
 refine rg rfl (ab (aa (i+1)) (ab (aa n) (p (gt rfl rfl) (ag ((ac _ _ (cd rfl (fun cg=> ?_) (fun cg=> ?_))))))))
 refine sq (fun _ aB=> ?_)
 have hS17:(fun w'=>Wk wI w') wI.drew:=(Md.refl _ _).drew
 refine bC (fun w'=>Wk wI w') rfl wide hS17 (bo 0 rfl (.slice ai (bd t).length al) hS17 (bo 1 rfl (aa (i+1)) hS17 (aA 2 rfl (fun _ _=>aJ jV rfl rfl (by omega) (ak.ok ((hCr.wk A)) (ir (by omega)))) hS17 (aA 3 rfl (fun _ _=>fa nf rfl) hS17 (aA 4 rfl (fun w' O=>ld bQ rfl (Wk.aC O (iu (hCr.wk A) aq 0 (by decide)))) hS17 (aA 5 rfl (fun _ _=>aj) hS17 (aA 6 rfl (fun _ _=>aj) hS17 ?_)))))))
 refine aA 7 rfl (fun _ _=>aj) hS17 (hn (by kernel_rfl) (tn (aB _ _ (rt (tr (br (tr (tr ?_))))))))
 refine br (tr (f3 rfl rfl rfl rfl ?_))
 rw [show n - i=0 by omega] at G
 exact iy.no G.more (hE24x.trans (A.trans hS17))
 refine au (tn (ay _ _ (U (fun _ aB=>(ab (aG fb) (ab (.slice ai (bd t).length al) (ab (aa (i+1)) (p (aJ jV rfl rfl (by omega) (ak.ok ((hCr.wk A)) (ir (by omega)))) ?_))))))))
 refine p (fa om rfl) (p (ld gd rfl (iu (hCr.wk A) aq 1 (by decide))) (e (cl D3 (Hc B fb F V r w.heap.size a c wI (b4.wk (hE24x.trans A)) ⟨seen,b1⟩ hnx ((ao.wk hE24).wk A) hmr.2 hmr.1) rfl fun cz w79 b8=> ?_)))
 obtain ⟨b3,aZ⟩:=b8
 obtain ⟨Z,ah,bZ,rfl,bm,bc⟩:∃ (u:Tx) (a:Value) (e:Nat),cz= .tuple #[.agg [str u,a].toArray,aa e]∧a.oneCell'=true∧((e=0∧∃ l,eA F r= .ok (u,l)∧Tg w79 0 3 l.length a (l.map bq))∨(e≠0∧eA F r= .error e)):=by
  rcases b3 with ⟨x,a,h1,h2,h3,h4⟩ | ⟨e,h1,h2,h3⟩
  exact ⟨x.1,a,0,h2,h3,.inl ⟨rfl,x.2,h1,h4⟩⟩
  exact ⟨_,_,e,h3,rfl,.inr ⟨h2,h1⟩⟩
 have hz79:=aZ.size
 refine p mv (p (xt rfl rfl) (p (xt rfl rfl) (e (fH vA fun aT w13 cE aM aX=> ?_))))
 have hz13:=aM.size
 refine e (fV jU rfl rfl rfl (oS bm) aX (by decide) fun w18 a0 hB18=> ?_)
 have aY:Wk wI w18:=(aZ.trans aM.md).trans' a0 (fun q bt h=>by omega)
 have ce:w18.heap[aT]? =some (.cells [str Z,ah].toArray 68 (0,0)):=hB18
 have hEc:=A.trans aY
 refine ae (((aB _ _ (sq (fun _ bN=>U (fun _ bO=>(p mv (p (bP rfl rfl) ?_))))))))
 refine ag ((bO _ _ (cd rfl (fun bb=> ?_) (fun bb=> ?_))))
 have hq83:=bc.resolve_left (fun h=>bb (by rw [h.1]; rfl))
 obtain ⟨hne,hex⟩:=hq83
 refine sq (fun _ bR=> ?_)
 have C:(fun w'=>Wk w18 w') w18.drew:=(Md.refl _ _).drew
 refine bC (fun w'=>Wk w18 w') rfl wide C (bo 0 rfl (.slice ai (bd t).length al) C (bo 1 rfl (aa (i+1)) C (aA 2 rfl (fun _ _=>aJ jV rfl rfl (by omega) (ak.ok ((hCr.wk hEc)) (ir (by omega)))) C (aA 3 rfl (fun _ _=>fa nf rfl) C (aA 4 rfl (fun w' O=>ld bQ rfl (Wk.aC O (iu (hCr.wk hEc) aq 0 (by decide)))) C (aA 5 rfl (fun _ _=>mv) C (aA 6 rfl (fun _ _=>aj) C ?_)))))))
 refine aA 7 rfl (fun _ _=>aj) C (aA 8 rfl (fun _ _=>aj) C (hn (by kernel_rfl) (tn (bR _ _ (rt (tr (br (tr ?_))))))))
 exact tr (br (tr (f3 rfl rfl rfl rfl (iy.no (G.bad (by omega) hex) (hE24x.trans (hEc.trans C))))))
 have cj:bZ=0:=by omega
 have hq83:=bc.resolve_right (fun h=>h.1 cj)
 obtain ⟨_,ar,hex,b9⟩:=hq83
 refine au (tn (bN _ _ (rg rfl (ab (.slice M xs.length co) (p (dx jQ rfl (rfl) (show ∀ j,j < 2→Hb.aC w18.heap aT (0 +j)= [str Z,ah][j]? from fun j hj=>bD.c5 ⟨_,ce⟩ j)) (e (ib Bs rfl rfl rfl fun cC cN cF a1 b0=> ?_)))))))
 have hE92:=aY.trans a1.md
 have ho92:=aE a2 hE92
 have hz92:=hE92.size
 refine e (ap Bs (ho92) rfl (by have :=A.size; omega) rfl (ak.cQ b0) (rfl) (oS bm) (by omega) (by omega) fun cA bz cm aL cJ cG=> ?_)
 have hE93:=Wk.own (A.trans hE92) ho92 aL (Nat.le_refl _)
 have bk:World.ownsRow bz J.heap.size 68 2 cA (xs++ [(Z,ar)]).length (gO ((xs++ [(Z,ar)]).zip (vx++ [ah]))):=by
  have hl:xs.length=vx.length:=by have :=hal.1; rw [List.length_map] at this; omega
  rw [List.zip_append hl,List.zip_cons_cons,List.zip_nil_right,yx,List.length_append]; exact cm
 have cc:e9 bz 0 3 (vx++ [ah]) ((xs++ [(Z,ar)]).map (·.2)):=by
  rw [List.map_append]
  exact (((hal.wk hE92).md aL (eN ho92 (by decide))).snoc (((b9.wk aM.md).md a0 (dK aX (by decide))).wk a1.md |>.md aL (eN ho92 (by decide))))
 obtain ⟨bY,pP,cv⟩:=bU bk
 subst cv
 refine p aj (nl (bn (tn (ax _ _ (rg rfl (ab (aa (i+1)) (p (ad rfl rfl (bp (by omega))) (p aj ?_))))))))
 exact ag ((⟨_,by omega,i+1,xs++ [(Z,ar)],vx++ [ah],bY,pP,(by omega),((by rw [List.length_append,hxl]; rfl)),((by rw [show n - (i+1)=n - i - 1 by omega]; exact G.step (by omega) hex)),bk,cc,hE93,rfl,rfl,rfl,(by first | rfl | (rw [← hn0]; rfl)),rfl,rfl,rfl⟩))
 refine ext (te _ (te _ (be (tn (bI _ _ (sq (fun _ ax=>U (fun _ ay=> ?_))))))))
 refine ab (.slice M xs.length co) (p (ba l7 rfl rfl) (ab (aa n) (p (lt rfl rfl) (ag ((ay _ _ (cd rfl (fun ch=> ?_) (fun ch=> ?_))))))))
 refine U (fun _ ac=>(ab (.slice bv (a6 t).length lK) (p (ba c9 rfl rfl) (p (a9 (((a6 t).length+1:Nat):Int) rfl rfl (aQ (by omega) (by omega))) (p aj (p aj (p aj ?_)))))))
 refine ag ((ac _ _ (rt (tr (f3 rfl rfl rfl rfl ?_)))))
 rw [List.drop_eq_nil_of_le (by omega)] at G
 exact iy.no (G.ends (by omega)) (hE24x.trans A)
 refine au (tn (ax _ _ (U (fun _ ac=>(ab (.slice M xs.length co) (p (bG (.slice M xs.length co) rfl) (p aj (p aj ?_))))))))
 refine ag ((ac _ _ (rt (f3 rfl rfl rfl rfl ?_))))
 rw [List.drop_eq_nil_of_le (by omega),show n - i=0 by omega] at G
 have hX:=G.done
 unfold iy
 rw [hX]
 exact ⟨⟨_,rfl,⟨vx,fZ a2 hE24x.size,hal⟩⟩,hE24x.trans A⟩
end Go.Hb.rM
end
section
set_option maxRecDepth 20000
set_option maxHeartbeats 1000000
namespace Go.Hb.oY
open Go.Proofs
open Go.Hb.fN Go.Hb.iw Go.Hb.gU Go.Hb.lr
def Ny (F:aH):Prop := ∀ l∈F.aliases,∀ x∈l,x < 65536
theorem zi {kind:Nat} {s:Tx} {l:List Nat} (h:iL kind s= .ok l):∀ x∈l,x < 65536:=by
 unfold iL at h
 split at h
 · cases h
 · cases h
   intro x a
   unfold cU at a
   repeat' split at a
   all_goals first
    | (cases a; done)
    | (rw [Au] at a
       obtain ⟨y,_,rfl⟩:=List.mem_map.1 a
       exact yT _ _)
theorem CE {kind ln:Nat} {row:List Tx} {l:List Nat} (h:gN kind ln row= .ok l):∀ x∈l,x < 65536:=by
 unfold gN at h
 split at h
 · cases h
 · exact zi h
theorem GL {kind:Nat} {al:List (List Nat)} {s:Tx} {l:List Nat} (hal:∀ l∈al,∀ x∈l,x < 65536) (h:ec kind al s= .ok l):∀ x∈l,x < 65536:=by
 unfold ec at h
 split at h
 · exact zi h
 · split at h
   · cases h
   · split at h
     · cases h
     · cases h
       rename_i n _ _
       rw [List.getD_eq_getElem?_getD]
       cases hg:al[n - 1]? with
       | none=>simp
       | some y=>exact hal y (List.mem_of_getElem? hg)
theorem HT {eof ln:Nat} {F F':aH} {hs:List Tx} {rows rows':List Rw} {row:List Tx} (h:Ny F) (a:bz eof F hs rows ln row= .ok (F',rows')):Ny F':=by
 unfold bz at a
 repeat' split at a
 · unfold gK at a; repeat' split at a
   all_goals first | (cases a; done) | (cases a; exact h)
 · unfold gQ at a; repeat' split at a
   all_goals first | (cases a; done) | (cases a; exact h)
 · unfold jH at a; repeat' split at a
   all_goals first | (cases a; done) | (cases a; exact h)
 · unfold jM at a; repeat' split at a
   all_goals first | (cases a; done) | (cases a; exact h)
 · unfold g8 at a; repeat' split at a
   all_goals first | (cases a; done) | (cases a; exact h)
 · unfold gI at a; repeat' split at a
   all_goals first | (cases a; done) | (cases a; exact h)
 · unfold gn at a
   split at a
   · cases a
   · split at a
     · cases a
     · split at a
       · cases a
       · rename_i r hg
         cases a
         intro l hl
         rcases List.mem_append.1 hl with hl | hl
         · exact h l hl
         · obtain ⟨_,_,h2⟩:=tL _ _ _ hg l hl
           exact CE h2
 · unfold eK at a; repeat' split at a
   all_goals first | (cases a; done) | (cases a; exact h)
theorem Kd {eof:Nat} :∀ (k:Nat) (F F':aH) (hs:List Tx) (rows:List Rw),Ny F→eE eof k F hs rows= .ok F'→Ny F':=by
 intro k
 induction k with
 | zero=>intro F F' hs rows h a; rw [eE] at a; split at a <;> cases a; exact h
 | succ k ih=>
   intro F F' hs rows h a
   cases rows with
   | nil=>rw [nw] at a; cases a; exact h
   | cons q rows=>
     rw [eE] at a
     split at a
     · cases a
     · split at a
       · cases a
       · split at a
         · cases a
         · split at a
           · cases a
           · rename_i r hr
             exact ih _ _ _ _ (HT (rows':=r.2) h hr) a
theorem CA {s:Tx} {F:aH} (h:eJ s= .ok F):Ny F:=by
 unfold eJ at h
 split at h
 · cases h
 · split at h
   · cases h
   · rename_i f hf
     split at h
     · cases h
     · cases h
       exact Kd _ _ _ _ _ (fun l hl=>by cases hl) hf
def o0 (x:cV):Prop :=x.1.length≤64∧x.2.length≤64∧(∀ y∈x.2,y < 65536)
theorem qa {F:aH} {row:List Tx} {x:cV} (h1:Nx F) (h2:Ny F) (h:eA F row= .ok x):o0 x:=by
 unfold eA at h
 split at h
 · cases h
 · split at h
   · cases h
   · split at h
     · cases h
     · split at h
       · cases h
       · split at h
         · cases h; exact ⟨by simp only; omega,by simp,fun y hy=>by cases hy⟩
         · split at h
           · cases h
           · rename_i hf
             split at h
             · cases h
               exact ⟨by simp only; omega,qj h1.1 hf,GL h2 hf⟩
             · cases h
theorem Gd {F:aH} {eof:Nat} (h1:Nx F) (h2:Ny F):∀ {n:Nat} {rows:List Rw} {r:List cV},eW F eof n rows= .ok r→∀ x∈r,o0 x:=by
 intro n
 induction n with
 | zero=>
   intro rows r h
   cases rows with
   | nil=>rw [eW] at h; cases h; intro x a; cases a
   | cons q rows=>rw [eW] at h; cases h
 | succ n ih=>
   intro rows r h
   cases rows with
   | nil=>rw [eW] at h; cases h
   | cons q rows=>
     rw [eW] at h
     split at h
     · cases h
     · rename_i he
       split at h
       · cases h
       · rename_i hr
         cases h
         intro x a
         rcases List.mem_cons.1 a with rfl | a
         · exact qa h1 h2 he
         · exact ih hr x a
theorem F3 {F:aH} {t:Tx} {xs:List cV} (h1:Nx F) (h2:Ny F) (h:fi F t= .ok xs):(∀ x∈xs,o0 x)∧xs.length≤8192:=by
 unfold fi at h
 split at h
 · cases h
 · split at h
   · cases h
   · split at h
     · cases h
     · split at h
       · cases h
       · rename_i hn
         refine ⟨Gd h1 h2 h,?_⟩
         have hl:=(Ge h).1
         unfold dy at hn
         split at hn
         · cases hn
         · cases hn
           rename_i h0
           have :=lY _ 8192 (Classical.not_not.1 h0)
           omega
theorem lP {F:aH} {s:Tx} {e:Nat} (h:eC F s= .error e):e≠0:=by
 unfold eC at h; repeat' split at h
 all_goals first | (cases h; done) | (cases h; decide) | (cases h; assumption)
theorem zh {k:Nat} {s:Tx} {e:Nat} (h:iL k s= .error e):e≠0:=by
 unfold iL at h; repeat' split at h
 all_goals first | (cases h; done) | (cases h; assumption)
theorem lZ {s:Tx} {m:Int} {e:Nat} (h:dy s m= .error e):e≠0:=by
 unfold dy at h; repeat' split at h
 all_goals first | (cases h; done) | (cases h; decide)
theorem GK {k:Nat} {al:List (List Nat)} {s:Tx} {e:Nat} (h:ec k al s= .error e):e≠0:=by
 unfold ec at h; repeat' split at h
 all_goals first | exact zh h | (cases h; done) | (cases h; decide)
theorem AH {b:Bool} {s:Tx} {e:Nat} (h:dq b s= .error e):e≠0:=by
 unfold dq at h; repeat' split at h
 all_goals first | (cases h; done) | (cases h; decide) | (cases h; assumption)
theorem Cw {r:iz} {e:Nat} (h:gM r= .error e):e≠0:=by
 unfold gM at h; repeat' split at h
 all_goals first | (cases h; done) | (cases h; assumption)
theorem Jf {k a:Nat} {al:List (List Nat)} {r:iz} {e:Nat} (h:g9 k al a r= .error e):e≠0:=by
 unfold g9 at h; repeat' split at h
 all_goals first | exact GK h | (cases h; done) | (cases h; decide)
theorem Fc {r:List Tx} {e:Nat} (h:ic r= .error e):e≠0:=by
 unfold ic at h; repeat' split at h
 all_goals first | (cases h; done) | (cases h; decide) | (cases h; assumption)
theorem l5 {k ln:Nat} {al:List (List Nat)} {c:bV} {r:List Tx} {e:Nat} (h:ew k al c ln r= .error e):e≠0:=by
 unfold ew at h; repeat' split at h
 all_goals first
  | (cases h; done)
  | (cases h; decide)
  | (cases h; exact AH (by assumption))
  | (cases h; exact Cw (by assumption))
  | (cases h; exact Jf (by assumption))
  | (cases h; exact Fc (by assumption))
theorem l3 {ln:Nat} {r:List Tx} {e:Nat} (h:gH ln r= .error e):e≠0:=by
 unfold gH at h; repeat' split at h
 all_goals first
  | (cases h; done)
  | (cases h; decide)
  | (cases h; exact AH (by assumption))
theorem lE {k ln:Nat} {r:List Tx} {e:Nat} (h:gN k ln r= .error e):e≠0:=by
 unfold gN at h; repeat' split at h
 all_goals first | exact zh h | (cases h; decide)
theorem fy {α:Type} {hd:List Tx} {rd:Nat→List Tx→Except Nat α} {eof:Nat} (hr:∀ l r e,rd l r= .error e→e≠0):∀ {n:Nat} {rows:List Rw} {l e:Nat},group hd rd eof n rows= .error (l,e)→e≠0:=by
 intro n
 induction n with
 | zero=>intro rows l e h; rw [group] at h; cases h
 | succ n ih=>
   intro rows l e h
   cases rows with
   | nil=>rw [group] at h; cases h; decide
   | cons q rows=>
     rw [group] at h
     split at h
     · cases h; decide
     · split at h
       · rename_i he; cases h; exact hr _ _ _ he
       · split at h
         · rename_i he; cases h; exact ih he
         · cases h
theorem HS {eof ln l e:Nat} {F:aH} {hs:List Tx} {rows:List Rw} {row:List Tx} (h:bz eof F hs rows ln row= .error (l,e)):e≠0:=by
 unfold bz at h
 repeat' split at h
 · unfold gK at h; repeat' split at h
   all_goals first
    | (cases h; done)
    | (cases h; decide)
    | (cases h; assumption)
    | (cases h; exact lP (by assumption))
    | (cases h; exact lZ (by assumption))
    | (cases h; exact fy (fun _ _ _ h=>l3 h) (by assumption))
    | (cases h; exact fy (fun _ _ _ h=>lE h) (by assumption))
    | (cases h; exact fy (fun _ _ _ h=>l5 h) (by assumption))
 · unfold gQ at h; repeat' split at h
   all_goals first
    | (cases h; done)
    | (cases h; decide)
    | (cases h; assumption)
    | (cases h; exact lP (by assumption))
    | (cases h; exact lZ (by assumption))
    | (cases h; exact fy (fun _ _ _ h=>l3 h) (by assumption))
    | (cases h; exact fy (fun _ _ _ h=>lE h) (by assumption))
    | (cases h; exact fy (fun _ _ _ h=>l5 h) (by assumption))
 · unfold jH at h; repeat' split at h
   all_goals first
    | (cases h; done)
    | (cases h; decide)
    | (cases h; assumption)
    | (cases h; exact lP (by assumption))
    | (cases h; exact lZ (by assumption))
    | (cases h; exact fy (fun _ _ _ h=>l3 h) (by assumption))
    | (cases h; exact fy (fun _ _ _ h=>lE h) (by assumption))
    | (cases h; exact fy (fun _ _ _ h=>l5 h) (by assumption))
 · unfold jM at h; repeat' split at h
   all_goals first
    | (cases h; done)
    | (cases h; decide)
    | (cases h; assumption)
    | (cases h; exact lP (by assumption))
    | (cases h; exact lZ (by assumption))
    | (cases h; exact fy (fun _ _ _ h=>l3 h) (by assumption))
    | (cases h; exact fy (fun _ _ _ h=>lE h) (by assumption))
    | (cases h; exact fy (fun _ _ _ h=>l5 h) (by assumption))
 · unfold g8 at h; repeat' split at h
   all_goals first
    | (cases h; done)
    | (cases h; decide)
    | (cases h; assumption)
    | (cases h; exact lP (by assumption))
    | (cases h; exact lZ (by assumption))
    | (cases h; exact fy (fun _ _ _ h=>l3 h) (by assumption))
    | (cases h; exact fy (fun _ _ _ h=>lE h) (by assumption))
    | (cases h; exact fy (fun _ _ _ h=>l5 h) (by assumption))
 · unfold gI at h; repeat' split at h
   all_goals first
    | (cases h; done)
    | (cases h; decide)
    | (cases h; assumption)
    | (cases h; exact lP (by assumption))
    | (cases h; exact lZ (by assumption))
    | (cases h; exact fy (fun _ _ _ h=>l3 h) (by assumption))
    | (cases h; exact fy (fun _ _ _ h=>lE h) (by assumption))
    | (cases h; exact fy (fun _ _ _ h=>l5 h) (by assumption))
 · unfold gn at h; repeat' split at h
   all_goals first
    | (cases h; done)
    | (cases h; decide)
    | (cases h; assumption)
    | (cases h; exact lP (by assumption))
    | (cases h; exact lZ (by assumption))
    | (cases h; exact fy (fun _ _ _ h=>l3 h) (by assumption))
    | (cases h; exact fy (fun _ _ _ h=>lE h) (by assumption))
    | (cases h; exact fy (fun _ _ _ h=>l5 h) (by assumption))
 · unfold eK at h; repeat' split at h
   all_goals first
    | (cases h; done)
    | (cases h; decide)
    | (cases h; assumption)
    | (cases h; exact lP (by assumption))
    | (cases h; exact lZ (by assumption))
    | (cases h; exact fy (fun _ _ _ h=>l3 h) (by assumption))
    | (cases h; exact fy (fun _ _ _ h=>lE h) (by assumption))
    | (cases h; exact fy (fun _ _ _ h=>l5 h) (by assumption))
theorem Kc {eof:Nat} :∀ (k:Nat) (F:aH) (hs:List Tx) (rows:List Rw) (l e:Nat),rows.length≤k→eE eof k F hs rows= .error (l,e)→e≠0:=by
 intro k
 induction k with
 | zero=>
   intro F hs rows l e hk a
   obtain rfl :=List.eq_nil_of_length_eq_zero (Nat.le_zero.1 hk)
   rw [nw] at a; cases a
 | succ k ih=>
   intro F hs rows l e hk a
   cases rows with
   | nil=>rw [nw] at a; cases a
   | cons q rows=>
     rw [eE] at a
     split at a
     · cases a; decide
     · split at a
       · cases a; decide
       · split at a
         · cases a; decide
         · split at a
           · rename_i he; cases a; exact HS he
           · rename_i r hr
             have h1:=lS (rows':=r.2) hr
             simp only [List.length_cons] at hk
             exact ih _ _ _ _ _ (by omega) a
theorem vR {s:Tx} {l e:Nat} (h:eJ s= .error (l,e)):e≠0:=by
 unfold eJ at h
 split at h
 · cases h; decide
 · split at h
   · rename_i he; cases h; exact Kc _ _ _ _ _ _ (Nat.le_refl _) he
   · split at h
     · cases h; decide
     · cases h
end Go.Hb.oY
end
section
set_option maxRecDepth 20000
set_option maxHeartbeats 1000000
namespace Go.Hb.rN
open Go.Hb.di
open Go.Proofs
open Go.Hb.eS Go.Hb.fE Go.Hb.fN Go.Hb.j7 Go.Hb.gU Go.Hb.lr Go.Hb.gW Go.Hb.j9 Go.Hb.ly Go.Hb.me Go.Hb.mU Go.Hb.nO Go.Hb.oY Go.Hb.ke
theorem Gf (a b c i j c':Int) (w:World):(binOp .eql 25 (.agg [.int .i64 a,.int .i64 b,.int .i64 c].toArray) (.agg [.int .i64 i,.int .i64 j,.int .i64 c'].toArray)).run Tryz.prog w= .ok (.bool (decide (a=i∧b=j∧c=c'))) w:=by
 have u1:=Tryz.underlying3
 have u2:=Tryz.underlying3
 have u3:=Tryz.underlying23
 have p:Tryz.prog.underlying 25=some (.struct (Tryz.prog.fieldsOf 25)):=by kernel_rfl
 have hp:Tryz.prog.stoodInHeld 25=false :=by kernel_rfl
 rw [run_eql_struct,show (10000:Nat)=9999 +1 from rfl,run_equalIn_agg w 9999 25 _ _ p hp]
 simp only [Program.fieldsOf,Tryz.underlying25]
 go_simp
 by_cases h1:a=i <;> by_cases h2:b=j <;> by_cases h3:c=c' <;> simp [h1,h2,h3]
section
variable {N:Fm} {σ:Nat→Value} {w:World} {dst:Option Nat} {ty:TypeId} {pos :String} {af:Array Edge} {g:Option (Nat×Bool)} {x y:Operand}
theorem Jd {s:TypeId} {a b c i j c':Int} (p:ev N σ x= .agg [.int .i64 a,.int .i64 b,.int .i64 c].toArray) (hy:ev N σ y= .agg [.int .i64 i,.int .i64 j,.int .i64 c'].toArray):
 (execOp (ev N σ) ⟨dst,.binOp .neq 25 x y s,ty,pos,af,g⟩).run Tryz.prog w= .ok (.value (.bool (decide (¬(a=i∧b=j∧c=c'))))) w:=by
 have hm:Tryz.prog.eqGuardType Tryz.prog.depth 25=false :=by kernel_rfl
 have hg:=run_eqGuard_agg w .neq 25 x y [.int .i64 a,.int .i64 b,.int .i64 c].toArray [.int .i64 i,.int .i64 j,.int .i64 c'].toArray hm
 have he:(binOp .neq 25 (.agg [.int .i64 a,.int .i64 b,.int .i64 c].toArray) (.agg [.int .i64 i,.int .i64 j,.int .i64 c'].toArray)).run Tryz.prog w= .ok (.bool (decide (¬(a=i∧b=j∧c=c')))) w:=by
  have h:=Gf a b c i j c' w
  simp only [binOp,Sem.run_bind] at h ⊢
  generalize ((Op.equal 25 (.agg [.int .i64 a,.int .i64 b,.int .i64 c].toArray) (.agg [.int .i64 i,.int .i64 j,.int .i64 c'].toArray)).run Tryz.prog w)=r at h ⊢
  cases r with
  | ok q A=>
    simp only [Result.andThen_ok,Sem.run_pure,Result.ok.injEq,Value.bool.injEq] at h ⊢
    rw [h.1]
    exact ⟨(decide_not).symm,h.2⟩
  | halt q A=>simp [Result.andThen] at h
 simp only [execOp,p,hy,Sem.run_bind,hg,he,Result.andThen_ok,Sem.run_pure]
end
theorem qT (a b:Option Addr) (c d:Nat) (l:List Nat) (w:World) (G:ak w.heap a (l.map bq)) (hB:ak w.heap b (l.map bq)) (hl:l.length≤1048576):
 aU Tryz.prog 24 (List.toArray [.slice a l.length c,.slice b l.length d]) w (fun v w'=>v= .bool true∧Wk w w'):=by
 refine enter Tryz.func24 rfl Tryz.ntmps24 rfl ?_
 refine U (fun _ I=>(ae (((I _ _ (sq (fun _ M=>U (fun _ O=> ?_))))))))
 refine ab (.slice a l.length c) (p (ba u64 rfl rfl) (ab (.slice b l.length d) (p (ba u64 rfl rfl) (p (bP rfl rfl) (ag ((O _ _ (cd rfl (fun h=>absurd h (fun h=>h rfl)) (fun hc10=> ?_)))))))))
 refine au (tn (M _ _ (sq (fun _ V=>U (fun _ Y=>(ab (.slice a l.length c) (p (ba u64 rfl rfl) (p mv ?_))))))))
 refine ag ((Y _ _ (az (lp (fun E s wI=> ∃ (i:Nat),(i≤l.length)∧(Wk w wI)∧(s 0= .slice a l.length c)∧(s 1= .slice b l.length d)∧(s 12=aa (l.length))∧(s 13=aa i)∧(l.length - i=E)) _ ⟨0,(by omega),(Md.refl _ _),rfl,rfl,rfl,rfl,rfl⟩ ?_))))
 rintro E s wI ⟨i,hi,q,al,am,an,ao,rfl⟩
 refine fx 0 al (fx 1 am (fx 12 an (fx 13 ao (U (fun _ Z=>(p (lt rfl rfl) (ag ((Z _ _ (sq (fun _ ac=>cd rfl (fun ai=> ?_) (fun ai=> ?_))))))))))))
 refine au (tn (ac _ _ (sq (fun _ A=>az (U (fun _ ah=>(ab (aa i) (p (bG (aa i) rfl) ?_))))))))
 refine ag ((ah _ _ (sq (fun _ J=> ?_))))
 have j:(fun w'=>Wk wI w') wI.drew:=(Md.refl _ _).drew
 refine bC (fun w'=>Wk wI w') rfl wide j (bo 0 rfl (.slice a l.length c) j (bo 1 rfl (aa i) j (aA 2 rfl (fun _ _=>aJ kn rfl rfl (by omega) (ak.ok (G.wk q) (bl (by omega)))) j (aA 3 rfl (fun w' C=>ld bQ rfl (Wk.aC C (ak.gC (G.wk q) (show (l.map bq)[i]? =some (bq (l.getD i 0)) by rw [List.getElem?_map,List.getD_eq_getElem?_getD,List.getElem?_eq_getElem (by omega :i < l.length)]; rfl)))) j ?_))))
 refine bo 4 rfl (.slice b l.length d) j (bo 5 rfl (aa i) j (aA 6 rfl (fun _ _=>aJ kn rfl rfl (by omega) (ak.ok (hB.wk q) (bl (by omega)))) j (aA 7 rfl (fun w' C=>ld bQ rfl (Wk.aC C (ak.gC (hB.wk q) (show (l.map bq)[i]? =some (bq (l.getD i 0)) by rw [List.getElem?_map,List.getD_eq_getElem?_getD,List.getElem?_eq_getElem (by omega :i < l.length)]; rfl)))) j ?_)))
 refine aA 8 rfl (fun _ _=>bP rfl rfl) j (hn (by kernel_rfl) (tn (J _ _ (cd rfl (fun h=>absurd h (fun h=>h rfl)) (fun ap=> ?_)))))
 refine au (bn (tn (A _ _ (rg rfl (p (ad rfl rfl (bp (by omega))) (p mv (nl (tn ?_))))))))
 exact ⟨_,by omega,i+1,(by omega),(q.trans j),rfl,rfl,rfl,rfl,rfl⟩
 refine ext (te _ (te _ (be (tn (V _ _ (U (fun _ A=>(p aj ?_))))))))
 exact ag ((A _ _ (rt (f1 rfl rfl (⟨rfl,q⟩)))))
end Go.Hb.rN
end
section
set_option maxRecDepth 20000
set_option maxHeartbeats 1000000
namespace Go.Hb.vF
open Go.Hb.di
open Go.Proofs
open Go.Hb.eS Go.Hb.fE Go.Hb.fN Go.Hb.j7 Go.Hb.gU Go.Hb.lr Go.Hb.gW Go.Hb.j9 Go.Hb.ly Go.Hb.me Go.Hb.mU Go.Hb.nO Go.Hb.rM Go.Hb.oY Go.Hb.rN Go.Hb.ke Go.Hb.nP
theorem vl (w:World):
 aU Tryz.prog 13 (List.toArray []) w (fun v w'=>v= .bool true∧Wk w w'):=by
 refine enter Tryz.func13 rfl Tryz.ntmps13 rfl ?_
 refine U (fun _ ac=>(ae (((ac _ _ (U (fun _ ah=>(e (cl gD (pf rH w (by decide)) rfl fun a5 w7 hR7=> ?_)))))))))
 obtain ⟨M,hE7⟩:=hR7
 rw [L2] at M
 obtain ⟨fb,mc,V,aK,hF7,av,ay⟩:=M
 subst aK
 refine p mv (p (xt rfl rfl) (p (xt rfl rfl) (e (al iP fun aO a6 hb2 G hB2=> ?_))))
 have hz2:=G.size
 have hz7:=hE7.size
 refine p aj (e (bX fR rfl rfl rfl rfl (hB2) (by simp) fun wt1_6 E aR=> ?_))
 have A:Wk w7 wt1_6:=G.md.trans' E (fun q aE h=>by omega)
 have hz1:=E.size
 refine ag ((ah _ _ (U (fun _ ai=>(p mv (e (cl gh (sV w.heap.size fb mc nJ V vm wt1_6 (hF7.wk A) av ay (by decide)) rfl fun cB w12 az=> ?_)))))))
 obtain ⟨hm12,hE12⟩:=az
 rw [L4] at hm12
 obtain ⟨B,ab,Y,Z,vs,hB12,aH,aC,_⟩:=hm12
 subst aH
 refine p mv (p (xt rfl rfl) (p (xt rfl rfl) (e (al iP fun aP w4 aS I ar=> ?_))))
 have hz4:=I.size
 have hz12:=hE12.size
 refine p aj (e (bX fR rfl rfl rfl rfl (ar) (by simp) fun wt2_7 ax aq=> ?_))
 have C:Wk w12 wt2_7:=I.md.trans' ax (fun q aE h=>by omega)
 have hW2:=aC.wk C
 refine ag ((ai _ _ (sq (fun _ am=>U (fun _ an=>(p mv (p (ij nE rfl rfl) (p mv ?_))))))))
 refine gb (t:=17) rfl (fun h=>absurd (h.symm.trans (rfl)) Bool.noConfusion) (fun aV=> ?_)
 refine pg rfl rfl rfl (dx iX rfl (rfl) (fun j hj=>aq.c5 j)) (pg rfl rfl rfl (bY (ps:= []) (L:= [.int .i64 0,.int .i64 0,.int .i64 0]) nA rfl (rfl)) (pg rfl rfl rfl (Jd rfl rfl) (p (a4 rfl) (p mv (gs (t:=22) rfl (fun h=>absurd h (fun h=>h ⟨rfl,rfl,rfl⟩)) (fun aW=> ?_))))))
 refine pg rfl rfl rfl mv (eg rfl rfl rfl (cl pH (yp B ab Y Z vs mP wt2_7 hW2 (by decide)) rfl fun a2 aa aA=> ?_))
 obtain ⟨rfl,hE24⟩:=aA
 have hW24:=hW2.wk hE24
 refine pg rfl rfl rfl (bP rfl rfl) (p (a4 rfl) (ag ((an _ _ (cd rfl (fun h=>absurd h (fun h=>h rfl)) (fun aT=> ?_))))))
 refine au (tn (am _ _ (U (fun _ ao=>(p mv (e (cl DG (FV B ab Y Z vs mP aa hW24 (by decide) (by decide)) rfl fun a3 w28 aB=> ?_)))))))
 obtain ⟨aD,aw⟩:=aB
 obtain ⟨vx,O,J,_⟩:=aD
 have hsl:=bU O
 obtain ⟨aN,aQ,aL⟩:=hsl
 subst aL
 obtain ⟨a1,aF,a⟩:=c4.get J (show 0 < (mP.map (·.2)).length by decide)
 obtain ⟨u1,aG,hT1⟩:=c4.get J (show 1 < (mP.map (·.2)).length by decide)
 have hs0:=a.slice
 obtain ⟨s,c0,aM⟩:=hs0
 subst aM
 have a:Tg w28 aa.heap.size 71 1 (.slice s 1 c0) [.int .u16 (65:Nat)]:=a
 have hC:=(aI O).2
 have hq0:(mP.zip vx)[0]? =some (([102,108,121],[65]),.slice s 1 c0):=List.getElem?_zip_eq_some.2 ⟨rfl,aF⟩
 have hq1:(mP.zip vx)[1]? =some (([105,110,47,111,117,116],[]),u1):=List.getElem?_zip_eq_some.2 ⟨rfl,aG⟩
 refine ae (((ao _ _ (U (fun _ ap=>(p mv (p (ba oT rfl rfl) (p (a8 rfl rfl) ?_))))))))
 refine p mv (gs (t:=32) rfl (fun aX=> ?_) (fun h=>absurd rfl h))
 refine pg rfl rfl rfl mv (pg rfl rfl rfl (aJ m9 rfl rfl (by decide) (ak.ok (hC) (lN hq0))) (pg rfl rfl rfl (fa qt rfl) (pg rfl rfl rfl (ld bw rfl (gi (f:=jv) (m:=2) (i:=0) (fun _=>rfl) hC hq0 0 (by decide))) (pg rfl rfl rfl (cG rfl rfl) (p (bf rfl) (p mv (gs (t:=39) rfl (fun aY=> ?_) (fun h=>absurd rfl h))))))))
 refine pg rfl rfl rfl mv (pg rfl rfl rfl (aJ m9 rfl rfl (by decide) (ak.ok (hC) (lN hq0))) (pg rfl rfl rfl (fa qu rfl) (pg rfl rfl rfl (ld ml rfl (gi (f:=jv) (m:=2) (i:=0) (fun _=>rfl) hC hq0 1 (by decide))) (pg rfl rfl rfl (ba kD rfl rfl) (pg rfl rfl rfl (a8 rfl rfl) (p (bf rfl) (p mv ?_)))))))
 refine gs (t:=47) rfl (fun aZ=> ?_) (fun h=>absurd rfl h)
 refine pg rfl rfl rfl mv (pg rfl rfl rfl (aJ m9 rfl rfl (by decide) (ak.ok (hC) (lN hq0))) (pg rfl rfl rfl (fa qu rfl) (pg rfl rfl rfl (ld ml rfl (gi (f:=jv) (m:=2) (i:=0) (fun _=>rfl) hC hq0 1 (by decide))) (pg rfl rfl rfl (aJ bj rfl rfl (by decide) (ak.ok (a.bH.2) (by simp))) (pg rfl rfl rfl (ld bJ rfl (ak.gC (i:=0) a.bH.2 rfl)) (pg rfl rfl rfl (a8 rfl rfl) (p (bf rfl) ?_)))))))
 refine p mv (gs (t:=56) rfl (fun a0=> ?_) (fun h=>absurd rfl h))
 refine pg rfl rfl rfl mv (pg rfl rfl rfl (aJ m9 rfl rfl (by decide) (ak.ok (hC) (lN hq1))) (pg rfl rfl rfl (fa qt rfl) (pg rfl rfl rfl (ld bw rfl (gi (f:=jv) (m:=2) (i:=1) (fun _=>rfl) hC hq1 0 (by decide))) (pg rfl rfl rfl (cG rfl rfl) (p (bf rfl) (p aj (nl ?_)))))))
 exact tn (ap _ _ (rt (f1 rfl rfl (⟨congrArg Value.bool (decide_eq_true rfl),hE7.trans (A.trans (hE12.trans (C.trans (hE24.trans aw))))⟩))))
theorem Cz {s:Tx} {F:aH} (h:eJ s= .ok F):Nx F:=by
 unfold eJ at h
 split at h
 · cases h
 · split at h
   · cases h
   · rename_i f hf
     split at h
     · cases h
     · cases h
       have key:∀ (k:Nat) (F F':aH) (hs:List Tx) (rows:List Rw) (eof:Nat),Nx F→eE eof k F hs rows= .ok F'→Nx F':=by
        intro k
        induction k with
        | zero=>intro F F' hs rows eof h a; rw [eE] at a; split at a <;> cases a; exact h
        | succ k ih=>
          intro F F' hs rows eof h a
          cases rows with
          | nil=>rw [nw] at a; cases a; exact h
          | cons q rows=>
            rw [eE] at a
            split at a
            · cases a
            · split at a
              · cases a
              · split at a
                · cases a
                · split at a
                  · cases a
                  · rename_i r hr
                    exact ih _ _ _ _ _ (qF (rows':=r.2) h hr) a
       exact key _ _ _ _ _ _ ⟨fun l hl=>(by cases hl),fun l hl=>(by cases hl)⟩ hf
end Go.Hb.vF
end
section
set_option maxRecDepth 20000
set_option maxHeartbeats 1000000
namespace Go.Hb.vG
open Go.Hb.di
open Go.Proofs
open Go.Hb.eS Go.Hb.fE Go.Hb.fN Go.Hb.j7 Go.Hb.gU Go.Hb.lr Go.Hb.gW Go.Hb.j9 Go.Hb.ly Go.Hb.me Go.Hb.mU Go.Hb.nO Go.Hb.rM Go.Hb.oY Go.Hb.rN Go.Hb.vF Go.Hb.ke Go.Hb.nP
theorem H3 {xs:List cV} {i:Nat} (h:i < xs.length):i∈idxs (xs.getD i ([],[])).1 xs:=by
 unfold idxs; rw [List.mem_filter]; exact ⟨List.mem_range.2 h,decide_eq_true rfl⟩
theorem H2 {s:Tx} {xs:List cV} {i:Nat} (h:i∈idxs s xs):0 < (idxs s xs).length∧(idxs s xs).getD 0 0≤i:=by
 have hp:(idxs s xs).Pairwise (· < ·):=by unfold idxs; exact List.pairwise_lt_range.filter _
 cases hl:idxs s xs with
 | nil=>rw [hl] at h; cases h
 | cons j l=>
   rw [hl] at h hp
   refine ⟨by simp,?_⟩
   rcases List.mem_cons.1 h with rfl | h
   · exact Nat.le_refl _
   · exact Nat.le_of_lt ((List.pairwise_cons.1 hp).1 i h)
theorem GG (a t:Tx) (w:World) (ws:List Tx) (E:Option Addr) (O:Nat) (hS0:bh w.heap E ws) (hs:a.length≤1048576) (bF:t.length≤1048576) (hw:ws.length≤1048576) (ln er:Nat) (G:eJ a= .error (ln,er)):
 aU Tryz.prog 7 (List.toArray [str a,str t,.slice E ws.length O]) w (fun v w'=>v= .bool true∧Wk w w'):=by
 refine enter Tryz.func7 rfl Tryz.ntmps7 rfl ?_
 refine U (fun _ aq=>(ae (((aq _ _ (U (fun _ aA=>(ab (str a) ?_))))))))
 refine e (cl gD (pf a w (by omega)) rfl fun bk bo aS=> ?_)
 obtain ⟨ao,hE22⟩:=aS
 rw [G] at ao
 have bg:bk=_:=ao
 subst bg
 refine p mv (p (xt rfl rfl) (p (xt rfl rfl) (e (al iP fun b8 w8 hb8 an aM=> ?_))))
 have hz8:=an.size
 have hz22:=hE22.size
 refine p aj (e (bX fR rfl rfl rfl rfl (aM) (by simp) fun wt1_7 ai bv=> ?_))
 have aN:Wk bo wt1_7:=an.md.trans' ai (fun q a1 h=>by omega)
 have hz1:=ai.size
 refine ag ((aA _ _ (U (fun _ aB=>(ab (str a) (e (cl gq (uH a wt1_7 hs) rfl fun bm bq aT=> ?_)))))))
 obtain ⟨hm27,hE27⟩:=aT
 rw [G] at hm27
 have bi:bm=_:=hm27
 subst bi
 refine p mv (p (xt rfl rfl) (p (xt rfl rfl) (p (xt rfl rfl) (p aj (p aj (p aj (nl ?_)))))))
 refine tn (aB _ _ (sq (fun _ aC=>U (fun _ aD=>(e (cl r9 (vl bq) rfl fun bH w31 aV=> ?_))))))
 obtain ⟨rfl,hE31⟩:=aV
 refine p (no rfl) (p mv (gb (t:=33) rfl (fun h=>absurd (h.symm.trans (rfl)) Bool.noConfusion) (fun bE=> ?_)))
 refine pg rfl rfl rfl mv (pg rfl rfl rfl (ij l6 rfl rfl) (pg rfl rfl rfl mv (pg rfl rfl rfl (bP rfl rfl) (pg rfl rfl rfl (uf u4 rfl rfl) (p (a4 rfl) (ag ((aD _ _ ?_))))))))
 refine cd rfl (fun h=>absurd h (fun h=>h (decide_eq_true (show ((er:Nat):Int)≠0 by have :=vR G; omega)).symm)) (fun bB=> ?_)
 refine au (tn (aC _ _ (U (fun _ aE=>(p mv (ab (str t) (e (cl gh (F7 t w31) rfl fun bI w43 aW=> ?_))))))))
 obtain ⟨rfl,hE43⟩:=aW
 refine p mv (p (xt rfl rfl) (p (xt rfl rfl) (e (al iP fun bu w13 bz am aL=> ?_))))
 have hz13:=am.size
 have hz43:=hE43.size
 refine p aj (e (bX fR rfl rfl rfl rfl (aL) (by simp) fun wt5_8 aQ bx=> ?_))
 have hE5:Wk w43 wt5_8:=am.md.trans' aQ (fun q a1 h=>by omega)
 have hE5x:=hE22.trans (aN.trans (hE27.trans (hE31.trans (hE43.trans hE5))))
 refine ag ((aE _ _ (U (fun _ aF=>(ae (((aF _ _ (sq (fun _ aG=> ?_))))))))))
 refine U (fun _ aH=>(p mv (p (a8 rfl rfl) (ag ((aH _ _ (cd rfl (fun h=>absurd h (by have :=vR G; omega)) (fun bC=> ?_))))))))
 refine au (tn (aG _ _ (sq (fun _ ar=>U (fun _ av=>(ab (.slice E ws.length O) (p (ba c9 rfl rfl) (p mv ?_))))))))
 refine ag ((av _ _ (az (lp (fun C s wI=> ∃ (i:Nat),(i≤ws.length)∧(Wk wt5_8 wI)∧(Wk w wI)∧(s 12= .pointer none)∧(s 14= .slice none 0 0)∧(s 55= .slice E ws.length O)∧(s 56=aa (ws.length))∧(s 57=aa i)∧(ws.length - i=C)) _ ⟨0,(by omega),(Md.refl _ _),hE5x,rfl,rfl,rfl,rfl,rfl,rfl⟩ ?_))))
 rintro C s wI ⟨i,hi,ah,V,a2,a3,a5,a6,a7,rfl⟩
 refine fx 12 a2 (fx 14 a3 (fx 55 a5 (fx 56 a6 (fx 57 a7 (U (fun _ aw=>(p (lt rfl rfl) (ag ((aw _ _ (sq (fun _ ax=>cd rfl (fun a0=> ?_) (fun a0=> ?_)))))))))))))
 refine au (tn (ax _ _ (sq (fun _ I=>az (U (fun _ J=>(p (aJ bA rfl rfl (by omega) (ak.ok (hS0.wk V) (bl (by omega)))) (p (ld bw rfl (bh.get (i:=i) (hS0.wk V) (by omega))) ?_))))))))
 refine ae (((J _ _ (U (fun _ M=>(ab (.pointer none) (p mv (e (cl pI (yh (ws.getD i []) wI) rfl fun bJ br aX=> ?_)))))))))
 obtain ⟨rfl,Z⟩:=aX
 refine ab (.slice none 0 0) (p mv (e (cl pJ (qC none 0 [] [] (ws.getD i []) br (ak.nil _ _) rfl (by decide)) rfl fun bK bs aY=> ?_)))
 obtain ⟨ap,ac⟩:=aY
 have hs66:=bU ap
 obtain ⟨aK,gZ,bj⟩:=hs66
 subst bj
 refine e (cl lK (qT none aK 0 gZ [] bs (ak.nil _ _) (aI ap).2 (by decide)) rfl fun bL w67 aZ=> ?_)
 obtain ⟨rfl,hE67⟩:=aZ
 refine p (no rfl) (ag ((M _ _ (cf (rfl) (au (bn (tn (I _ _ (rg rfl ?_)))))))))
 exact p (ad rfl rfl (bp (by omega))) (p mv (ag ((⟨_,by omega,i+1,(by omega),(ah.trans (Z.trans (ac.trans hE67))),(V.trans (Z.trans (ac.trans hE67))),rfl,rfl,rfl,rfl,rfl,rfl⟩))))
 refine ext (te _ (te _ (be (tn (ar _ _ (sq (fun _ I=>U (fun _ J=> ?_))))))))
 refine ab (.slice none 0 0) (p (ba l7 rfl rfl) (p mv (ag ((J _ _ (az (lp (fun C A Y=> ∃ (j:Nat),(j=0)∧(Wk wt5_8 Y)∧(A 12= .pointer none)∧(A 14= .slice none 0 0)∧(A 70= .slice none 0 0)∧(A 71= .int .i64 0)∧(A 72=aa j)∧(0 - j=C)) _ ⟨0,(by omega),ah,rfl,rfl,rfl,rfl,rfl,rfl⟩ ?_)))))))
 rintro C A Y ⟨j,hj,aP,a9,bb,bc,bd,bf,rfl⟩
 refine fx 12 a9 (fx 14 bb (fx 70 bc (fx 71 bd (fx 72 bf (U (fun _ M=>(p (lt rfl rfl) (ag ((M _ _ (sq (fun _ bt=>cd rfl (fun h=>absurd h (by omega)) (fun bD=> ?_)))))))))))))
 refine ext (te _ (te _ (be (tn (I _ _ (U (fun _ ay=>(ab (.pointer none) ?_))))))))
 refine e (cl pH (yo Y) rfl fun bG bM aR=> ?_)
 obtain ⟨rfl,aO⟩:=aR
 refine ab (.slice none 0 0) (p (ba l7 rfl rfl) (p (a8 rfl rfl) (ae (((ay _ _ (rt (f1 rfl rfl ?_))))))))
 exact ⟨congrArg Value.bool (decide_eq_true rfl),hE5x.trans (aP.trans aO)⟩
theorem GF (a t:Tx) (w:World) (ws:List Tx) (E:Option Addr) (M:Nat) (hS0:bh w.heap E ws) (hs:a.length≤1048576) (aw:t.length≤1048576) (hw:ws.length≤1048576) (F:aH) (ln er:Nat) (ax:eJ a= .ok F) (hd:fi F t= .error (ln,er)):
 aU Tryz.prog 7 (List.toArray [str a,str t,.slice E ws.length M]) w (fun v w'=>v= .bool true∧Wk w w'):=by
 refine enter Tryz.func7 rfl Tryz.ntmps7 rfl ?_
 refine U (fun _ ay=>(ae (((ay _ _ (U (fun _ aF=>(ab (str a) ?_))))))))
 refine e (cl gD (pf a w (by omega)) rfl fun bY bH a6=> ?_)
 obtain ⟨ap,hE22⟩:=a6
 rw [ax] at ap
 obtain ⟨fb,mc,V,bz,hF22,aV,a2⟩:=ap
 subst bz
 refine p mv (p (xt rfl rfl) (p (xt rfl rfl) (e (al iP fun b8 w8 hb8 ao aW=> ?_))))
 have hz8:=ao.size
 have hz22:=hE22.size
 refine p aj (e (bX fR rfl rfl rfl rfl (aW) (by simp) fun wt1_7 am bN=> ?_))
 have Z:Wk bH wt1_7:=ao.md.trans' am (fun q bj h=>by omega)
 have hz1:=am.size
 refine ag ((aF _ _ (U (fun _ aG=>(ab (str a) (e (cl gq (uH a wt1_7 hs) rfl fun bZ bI a7=> ?_)))))))
 obtain ⟨hm27,hE27⟩:=a7
 rw [ax] at hm27
 obtain ⟨B1,aS,aQ,hB1,bB,a0,aX,a3⟩:=hm27
 subst bB
 refine p mv (p (xt rfl rfl) (p (xt rfl rfl) (p (xt rfl rfl) (p aj (p aj (p aj (nl ?_)))))))
 refine tn (aG _ _ (sq (fun _ aK=>U (fun _ aL=>(e (cl r9 (vl bI) rfl fun b0 w31 a9=> ?_))))))
 obtain ⟨rfl,hE31⟩:=a9
 refine p (no rfl) (p mv (gb (t:=33) rfl (fun h=>absurd (h.symm.trans (rfl)) Bool.noConfusion) (fun bV=> ?_)))
 refine pg rfl rfl rfl mv (pg rfl rfl rfl (ij l6 rfl rfl) (pg rfl rfl rfl mv (pg rfl rfl rfl (bP rfl rfl) (pg rfl rfl rfl (uf u4 rfl rfl) (p (a4 rfl) (ag ((aL _ _ ?_))))))))
 refine cd rfl (fun h=>absurd h (fun h=>h rfl)) (fun bR=> ?_)
 refine au (tn (aK _ _ (U (fun _ aM=>(p mv (ab (str t) (e (cl gh (sV w.heap.size fb mc F V t w31 (hF22.wk (Z.trans (hE27.trans hE31))) aV a2 aw) rfl fun bF w43 bb=> ?_))))))))
 obtain ⟨aq,hE43⟩:=bb
 rw [hd] at aq
 have bC:bF=_:=aq
 subst bC
 refine p mv (p (xt rfl rfl) (p (xt rfl rfl) (e (al iP fun bM w13 bQ an aT=> ?_))))
 have hz13:=an.size
 have hz43:=hE43.size
 refine p aj (e (bX fR rfl rfl rfl rfl (aT) (by simp) fun wt5_8 a1 bO=> ?_))
 have hE5:Wk w43 wt5_8:=an.md.trans' a1 (fun q bj h=>by omega)
 have hE5x:=hE22.trans (Z.trans (hE27.trans (hE31.trans (hE43.trans hE5))))
 refine ag ((aM _ _ (U (fun _ aN=>(ae (((aN _ _ (sq (fun _ aO=> ?_))))))))))
 refine U (fun _ aP=>(p mv (p (a8 rfl rfl) (ag ((aP _ _ (cd rfl (fun bS=> ?_) (fun h=>absurd rfl h))))))))
 refine rg rfl (p mv (ab (str t) (e (cl xk (zo B1 aS F aQ t wt5_8 (a0.wk (hE31.trans (hE43.trans hE5))) aX a3 aw) rfl fun bG w51 bc=> ?_))))
 obtain ⟨ar,hE51⟩:=bc
 rw [hd] at ar
 have bD:bG=_:=ar
 subst bD
 refine p mv (p (xt rfl rfl) (p (xt rfl rfl) (p (xt rfl rfl) (ae (((aO _ _ (sq (fun _ aA=> ?_)))))))))
 refine U (fun _ aB=>(ab (.slice E ws.length M) (p (ba c9 rfl rfl) (p mv (ag ((aB _ _ (az ?_))))))))
 refine lp (fun C s wI=> ∃ (i:Nat),(i≤ws.length)∧(Wk w51 wI)∧(Wk w wI)∧(s 12= .pointer none)∧(s 14= .slice none 0 0)∧(s 55= .slice E ws.length M)∧(s 56=aa (ws.length))∧(s 57=aa i)∧(ws.length - i=C)) _ ⟨0,(by omega),(Md.refl _ _),((hE5x.trans hE51)),rfl,rfl,rfl,rfl,rfl,rfl⟩ ?_
 rintro C s wI ⟨i,hi,ai,O,bk,bm,bo,bq,br,rfl⟩
 refine fx 12 bk (fx 14 bm (fx 55 bo (fx 56 bq (fx 57 br (U (fun _ aC=>(p (lt rfl rfl) (ag ((aC _ _ (sq (fun _ aD=>cd rfl (fun bi=> ?_) (fun bi=> ?_)))))))))))))
 refine au (tn (aD _ _ (sq (fun _ G=>az (U (fun _ I=>(p (aJ bA rfl rfl (by omega) (ak.ok (hS0.wk O) (bl (by omega)))) (p (ld bw rfl (bh.get (i:=i) (hS0.wk O) (by omega))) ?_))))))))
 refine ae (((I _ _ (U (fun _ J=>(ab (.pointer none) (p mv (e (cl pI (yh (ws.getD i []) wI) rfl fun b1 bJ bd=> ?_)))))))))
 obtain ⟨rfl,ac⟩:=bd
 refine ab (.slice none 0 0) (p mv (e (cl pJ (qC none 0 [] [] (ws.getD i []) bJ (ak.nil _ _) rfl (by decide)) rfl fun b2 bK bf=> ?_)))
 obtain ⟨av,ah⟩:=bf
 have hs66:=bU av
 obtain ⟨aR,gZ,bE⟩:=hs66
 subst bE
 refine e (cl lK (qT none aR 0 gZ [] bK (ak.nil _ _) (aI av).2 (by decide)) rfl fun b3 w67 bg=> ?_)
 obtain ⟨rfl,hE67⟩:=bg
 refine p (no rfl) (ag ((J _ _ (cf (rfl) (au (bn (tn (G _ _ (rg rfl ?_)))))))))
 exact p (ad rfl rfl (bp (by omega))) (p mv (ag ((⟨_,by omega,i+1,(by omega),(ai.trans (ac.trans (ah.trans hE67))),(O.trans (ac.trans (ah.trans hE67))),rfl,rfl,rfl,rfl,rfl,rfl⟩))))
 refine ext (te _ (te _ (be (tn (aA _ _ (sq (fun _ G=>U (fun _ I=> ?_))))))))
 refine ab (.slice none 0 0) (p (ba l7 rfl rfl) (p mv (ag ((I _ _ (az (lp (fun C A Y=> ∃ (j:Nat),(j=0)∧(Wk w51 Y)∧(A 12= .pointer none)∧(A 14= .slice none 0 0)∧(A 70= .slice none 0 0)∧(A 71= .int .i64 0)∧(A 72=aa j)∧(0 - j=C)) _ ⟨0,(by omega),ai,rfl,rfl,rfl,rfl,rfl,rfl⟩ ?_)))))))
 rintro C A Y ⟨j,hj,aZ,bs,bt,bu,bv,bx,rfl⟩
 refine fx 12 bs (fx 14 bt (fx 70 bu (fx 71 bv (fx 72 bx (U (fun _ J=>(p (lt rfl rfl) (ag ((J _ _ (sq (fun _ bL=>cd rfl (fun h=>absurd h (by omega)) (fun bT=> ?_)))))))))))))
 refine ext (te _ (te _ (be (tn (G _ _ (U (fun _ aE=>(ab (.pointer none) ?_))))))))
 refine e (cl pH (yo Y) rfl fun bW b4 a5=> ?_)
 obtain ⟨rfl,aY⟩:=a5
 refine ab (.slice none 0 0) (p (ba l7 rfl rfl) (p (a8 rfl rfl) (ae (((aE _ _ (rt (f1 rfl rfl ?_))))))))
 exact ⟨congrArg Value.bool (decide_eq_true rfl),(hE5x.trans hE51).trans (aZ.trans aY)⟩
theorem GH (a t:Tx) (w:World) (ws:List Tx) (M:Option Addr) (ar:Nat) (hS0:bh w.heap M ws) (hs:a.length≤1048576) (aZ:t.length≤1048576) (hw:ws.length≤1048576) (F:aH) (xs:List cV) (ah:eJ a= .ok F) (hd:fi F t= .ok xs):
 aU Tryz.prog 7 (List.toArray [str a,str t,.slice M ws.length ar]) w (fun v w'=>v= .bool true∧Wk w w'):=by
 obtain ⟨cI,hxl⟩:(∀ x∈xs,o0 x)∧xs.length≤8192:=F3 (Cz ah) (CA ah) hd
 refine enter Tryz.func7 rfl Tryz.ntmps7 rfl ?_
 refine U (fun _ a1=>(ae (((a1 _ _ (U (fun _ bb=>(ab (str a) ?_))))))))
 refine e (cl gD (pf a w (by omega)) rfl fun cQ cw bN=> ?_)
 obtain ⟨aQ,hE22⟩:=bN
 rw [ah] at aQ
 obtain ⟨fb,mc,V,cn,hF22,bC,bK⟩:=aQ
 subst cn
 refine p mv (p (xt rfl rfl) (p (xt rfl rfl) (e (al iP fun b8 w8 hb8 aN bD=> ?_))))
 have hz8:=aN.size
 have hz22:=hE22.size
 refine p aj (e (bX fR rfl rfl rfl rfl (bD) (by simp) fun wt1_7 aK cD=> ?_))
 have aF:Wk cw wt1_7:=aN.md.trans' aK (fun q ac h=>by omega)
 have hz1:=aK.size
 refine ag ((bb _ _ (U (fun _ bf=>(ab (str a) (e (cl gq (uH a wt1_7 hs) rfl fun cR cx bO=> ?_)))))))
 obtain ⟨hm27,hE27⟩:=bO
 rw [ah] at hm27
 obtain ⟨B1,bz,br,hB1,co,bH,bE,bL⟩:=hm27
 subst co
 refine p mv (p (xt rfl rfl) (p (xt rfl rfl) (p (xt rfl rfl) (p aj (p aj (p aj (nl ?_)))))))
 refine tn (bf _ _ (sq (fun _ bg=>U (fun _ bi=>(e (cl r9 (vl cx) rfl fun cS w31 bR=> ?_))))))
 obtain ⟨rfl,hE31⟩:=bR
 refine p (no rfl) (p mv (gb (t:=33) rfl (fun h=>absurd (h.symm.trans (rfl)) Bool.noConfusion) (fun cM=> ?_)))
 refine pg rfl rfl rfl mv (pg rfl rfl rfl (ij l6 rfl rfl) (pg rfl rfl rfl mv (pg rfl rfl rfl (bP rfl rfl) (pg rfl rfl rfl (uf u4 rfl rfl) (p (a4 rfl) (ag ((bi _ _ ?_))))))))
 refine cd rfl (fun h=>absurd h (fun h=>h rfl)) (fun cJ=> ?_)
 refine au (tn (bg _ _ (U (fun _ bj=>(p mv (ab (str t) (e (cl gh (sV w.heap.size fb mc F V t w31 (hF22.wk (aF.trans (hE27.trans hE31))) bC bK aZ) rfl fun cT w43 bS=> ?_))))))))
 obtain ⟨aR,hE43⟩:=bS
 rw [hd] at aR
 obtain ⟨B,C,aD,aE,vs,cE,cp,aC,_⟩:=aR
 subst cp
 refine p mv (p (xt rfl rfl) (p (xt rfl rfl) (e (al iP fun cC w13 cG aL bB=> ?_))))
 have hz13:=aL.size
 have hz43:=hE43.size
 refine p aj (e (bX fR rfl rfl rfl rfl (bB) (by simp) fun wt5_8 bJ cF=> ?_))
 have hE5:Wk w43 wt5_8:=aL.md.trans' bJ (fun q ac h=>by omega)
 have hE5x:=hE22.trans (aF.trans (hE27.trans (hE31.trans (hE43.trans hE5))))
 refine ag ((bj _ _ (U (fun _ bk=>(ae (((bk _ _ (sq (fun _ bm=> ?_))))))))))
 refine U (fun _ bo=>(p mv (p (a8 rfl rfl) (ag ((bo _ _ (cd rfl (fun cK=> ?_) (fun h=>absurd rfl h))))))))
 refine rg rfl (p mv (ab (str t) (e (cl xk (zo B1 bz F br t wt5_8 (bH.wk (hE31.trans (hE43.trans hE5))) bE bL aZ) rfl fun cU w51 bT=> ?_))))
 obtain ⟨aS,hE51⟩:=bT
 rw [hd] at aS
 obtain ⟨cB,cq,b5⟩:=aS
 subst cq
 obtain ⟨ai,aT,hal51⟩:=b5
 have hsl:=bU aT
 obtain ⟨s,A,cv⟩:=hsl
 subst cv
 have hvl:ai.length=xs.length:=by have :=hal51.1; rwa [List.length_map] at this
 have hC0:=(aI aT).2
 refine p mv (p (xt rfl rfl) (p (xt rfl rfl) (p (xt rfl rfl) (ae (((bm _ _ (sq (fun _ a2=> ?_)))))))))
 refine U (fun _ a3=>(ab (.slice M ws.length ar) (p (ba c9 rfl rfl) (p mv (ag ((a3 _ _ (az ?_))))))))
 refine lp (fun I E wI=> ∃ (i:Nat),(i≤ws.length)∧(Wk w51 wI)∧(Wk w wI)∧(E 12=aG C)∧(E 14= .slice s xs.length A)∧(E 55= .slice M ws.length ar)∧(E 56=aa (ws.length))∧(E 57=aa i)∧(ws.length - i=I)) _ ⟨0,(by omega),(Md.refl _ _),((hE5x.trans hE51)),rfl,rfl,rfl,rfl,rfl,rfl⟩ ?_
 rintro I E wI ⟨i,hi,Y,av,b9,ca,cb,cc,ce,rfl⟩
 refine fx 12 b9 (fx 14 ca (fx 55 cb (fx 56 cc (fx 57 ce (U (fun _ a5=>(p (lt rfl rfl) (ag ((a5 _ _ (sq (fun _ a6=>cd rfl (fun b3=> ?_) (fun b3=> ?_)))))))))))))
 refine au (tn (a6 _ _ (sq (fun _ an=>az (U (fun _ ao=>(p (aJ bA rfl rfl (by omega) (ak.ok (hS0.wk av) (bl (by omega)))) (p (ld bw rfl (bh.get (i:=i) (hS0.wk av) (by omega))) ?_))))))))
 refine ae (((ao _ _ (U (fun _ ap=>(ab (aG C) (p mv (e (cl pI (yi B C aD aE vs xs wI (aC.wk (hE5.trans (hE51.trans Y))) (by omega) (ws.getD i [])) rfl fun cW cy bV=> ?_)))))))))
 obtain ⟨aV,aw⟩:=bV
 have hs63:=bU aV
 obtain ⟨bs,sw,cr⟩:=hs63
 subst cr
 refine ab (.slice s xs.length A) (p mv (e (cl pJ (qC s A xs ai (ws.getD i []) cy (hC0.wk (Y.trans aw)) hvl (by omega)) rfl fun cX cz bW=> ?_)))
 obtain ⟨aW,ax⟩:=bW
 have hs66:=bU aW
 obtain ⟨bt,gZ,cs⟩:=hs66
 subst cs
 refine e (cl lK (qT bs bt sw gZ (idxs (ws.getD i []) xs) cz (ak.wk (aI aV).2 ax) (aI aW).2 (by have :=mE (ws.getD i []) xs; omega)) rfl fun cY w67 bY=> ?_)
 obtain ⟨rfl,hE67⟩:=bY
 refine p (no rfl) (ag ((ap _ _ (cf (rfl) (au (bn (tn (an _ _ (rg rfl ?_)))))))))
 exact p (ad rfl rfl (bp (by omega))) (p mv (ag ((⟨_,by omega,i+1,(by omega),(Y.trans (aw.trans (ax.trans hE67))),(av.trans (aw.trans (ax.trans hE67))),rfl,rfl,rfl,rfl,rfl,rfl⟩))))
 refine ext (te _ (te _ (be (tn (a2 _ _ (sq (fun _ an=>U (fun _ ao=> ?_))))))))
 refine ab (.slice s xs.length A) (p (ba l7 rfl rfl) (p mv (ag ((ao _ _ (az (lp (fun I G am=> ∃ (j:Nat),(j≤xs.length)∧(Wk w51 am)∧(G 12=aG C)∧(G 14= .slice s xs.length A)∧(G 70= .slice s xs.length A)∧(G 71=aa (xs.length))∧(G 72=aa j)∧(xs.length - j=I)) _ ⟨0,(by omega),Y,rfl,rfl,rfl,rfl,rfl,rfl⟩ ?_)))))))
 rintro I G am ⟨j,hj,J,cg,ch,ci,cj,ck,rfl⟩
 refine fx 12 cg (fx 14 ch (fx 70 ci (fx 71 cj (fx 72 ck (U (fun _ ap=>(p (lt rfl rfl) (ag ((ap _ _ (sq (fun _ a7=>cd rfl (fun b4=> ?_) (fun b4=> ?_)))))))))))))
 refine au (tn (a7 _ _ (sq (fun _ aq=>az (sq (fun _ a9=> ?_))))))
 obtain ⟨x,a0⟩:∃ x,xs[j]? =some x:=⟨_,List.getElem?_eq_getElem (by omega)⟩
 obtain ⟨u,cm,b2⟩:=e9.get hal51 (show j < (xs.map (·.2)).length by rw [List.length_map]; omega)
 have b7:u.oneCell'=true :=by
  have h:=b2.slice
  obtain ⟨q1,q2,ac⟩:=h
  subst ac
  rfl
 have aY:(xs.zip ai)[j]? =some (x,u):=List.getElem?_zip_eq_some.2 ⟨a0,cm⟩
 have b6:0 < (idxs x.1 xs).length∧(idxs x.1 xs).getD 0 0≤j:=by
  have h:=H3 (xs:=xs) (i:=j) (by omega)
  rw [show xs.getD j ([],[])=x by rw [List.getD_eq_getElem?_getD,a0]; rfl] at h
  exact H2 h
 refine rg rfl (ab (aa j) (p (aJ yE rfl rfl (by omega) (ak.ok (hC0.wk J) (lN aY))) (p (dx jQ rfl (rfl) (gi (f:=jv) (m:=2) (fun _=>rfl) (hC0.wk J) aY)) (e (fH vA fun bx w18 cH aM hB18=> ?_)))))
 have hz18:=aM.size
 refine p (bG (aa j) rfl) (e (fV jU rfl rfl rfl (oS b7) hB18 (by decide) fun w17 bI hB17=> ?_))
 have hE17:Wk am w17:=aM.md.trans' bI (fun q ac h=>by omega)
 have aP:w17.heap[bx]? =some (.cells [str x.1,u].toArray 68 (0,0)):=hB17
 have hEJ7:=J.trans hE17
 refine ag ((a9 _ _ (U (fun _ bc=>(ab (aG C) (p (fa tz rfl) (p (ld bw rfl ((aO aP).trans rfl)) (e (cl pI (yi B C aD aE vs xs w17 (aC.wk (hE5.trans (hE51.trans hEJ7))) (by omega) x.1) rfl fun cZ cA bZ=> ?_)))))))))
 obtain ⟨Z,ay⟩:=bZ
 have hs80:=bU Z
 obtain ⟨bu,sA,ct⟩:=hs80
 subst ct
 refine ae (((bc _ _ (U (fun _ bd=>(p mv (ab (.slice s xs.length A) (p (fa tz rfl) ?_))))))))
 refine p (ld bw rfl ((aO (Wk.az ay aP)).trans rfl)) (e (cl pJ (qC s A xs ai x.1 cA (hC0.wk (hEJ7.trans ay)) hvl (by omega)) rfl fun c0 w85 b0=> ?_))
 obtain ⟨aX,O⟩:=b0
 have hs85:=bU aX
 obtain ⟨bv,pO,cu⟩:=hs85
 subst cu
 refine e (cl lK (qT bu bv sA pO (idxs x.1 xs) w85 (ak.wk (aI Z).2 O) (aI aX).2 (by have :=mE x.1 xs; omega)) rfl fun c1 c3 b1=> ?_)
 obtain ⟨rfl,aA⟩:=b1
 refine p (no rfl) (p mv (gb (t:=88) rfl (fun h=>absurd (h.symm.trans (rfl)) Bool.noConfusion) (fun cN=> ?_)))
 refine pg rfl rfl rfl mv (pg rfl rfl rfl (ba u64 rfl rfl) (pg rfl rfl rfl (lt rfl rfl) (p (a4 rfl) (p mv (gs (t:=93) rfl (fun h=>absurd h (by omega)) (fun cO=> ?_))))))
 refine pg rfl rfl rfl mv (pg rfl rfl rfl (aJ kn rfl rfl (by omega) (ak.ok (ak.wk (aI Z).2 (O.trans aA)) (bl (by omega)))) (pg rfl rfl rfl (ld bQ rfl (ak.gC (i:=0) (ak.wk (aI Z).2 (O.trans aA)) (show ((idxs x.1 xs).map bq)[0]? =some (bq ((idxs x.1 xs).getD 0 0)) by rw [List.getElem?_map,List.getD_eq_getElem?_getD,List.getElem?_eq_getElem b6.1]; rfl))) ?_))
 refine pg rfl rfl rfl (aB (aa j) rfl) (pg rfl rfl rfl (gt rfl rfl) (p (a4 rfl) (ag ((bd _ _ (cd rfl (fun h=>absurd h (by omega)) (fun cL=> ?_)))))))
 refine au (bn (tn (aq _ _ (rg rfl (p (ad rfl rfl (bp (by omega))) (p mv (nl (tn ?_))))))))
 exact ⟨_,by omega,j+1,(by omega),(hEJ7.trans (ay.trans (O.trans aA))),rfl,rfl,rfl,rfl,rfl,rfl⟩
 refine ext (te _ (te _ (be (tn (an _ _ (U (fun _ aq=>(ab (aG C) ?_))))))))
 refine e (cl pH (yp B C aD aE vs xs am (aC.wk (hE5.trans (hE51.trans J))) (by omega)) rfl fun cP c2 bM=> ?_)
 obtain ⟨rfl,bF⟩:=bM
 refine ab (.slice s xs.length A) (p (ba l7 rfl rfl) (p (a8 rfl rfl) (ae (((aq _ _ (rt (f1 rfl rfl ?_))))))))
 exact ⟨congrArg Value.bool (decide_eq_true rfl),(hE5x.trans hE51).trans (J.trans bF)⟩
theorem F1 (a t:Tx) (w:World) (ws:List Tx) (i:Option Addr) (j:Nat) (hS0:bh w.heap i ws) (hs:a.length≤1048576) (p:t.length≤1048576) (hw:ws.length≤1048576):aU Tryz.prog 7 [str a,str t,.slice i ws.length j].toArray w (fun v w'=>v= .bool true∧Wk w w'):=by
 cases hx:eJ a with
 | error e=>exact GG a t w ws i j hS0 hs p hw e.1 e.2 hx
 | ok F=>cases hd:fi F t with
   | error e=>exact GF a t w ws i j hS0 hs p hw F e.1 e.2 hx hd
   | ok xs=>exact GH a t w ws i j hS0 hs p hw F xs hx hd
end Go.Hb.vG
end
