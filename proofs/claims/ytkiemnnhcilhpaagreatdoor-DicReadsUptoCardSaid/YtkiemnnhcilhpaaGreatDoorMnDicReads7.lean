/-
  Walks and plain laws that the law rests on, laid together. No conditions but those that each theorem names.
-/
import Derived.Test.YtkiemnnhcilhpaaGreatDoorMnDicReads6
set_option linter.unusedVariables false
section
set_option maxRecDepth 20000
set_option maxHeartbeats 1000000
namespace Go.Hb.o4
open Go.Hb.du
open Go.Proofs
open Go.Hb.kN Go.Hb.mV Go.Hb.rD Go.Hb.vu Go.Hb.ma Go.Hb.ff Go.Hb.fM Go.Hb.iS Go.Hb.fV Go.Hb.iw Go.Hb.jM Go.Hb.kI Go.Hb.hY Go.Hb.mj Go.Hb.gn Go.Hb.fP
theorem Tg.blt {w:World} {B e n cp:Nat} {a:Option Addr} {xs:List Value} (h:Tg w B e n (.slice a n cp) xs) (i:xs≠[]):bk a < w.heap.size:=by
 obtain ⟨j,c',hv,_,hh⟩:=h
 cases hv
 rcases hh with rfl | ⟨p,cur,q,rfl,_,hg,_⟩
 · exact absurd rfl i
 · exact (Array.getElem?_eq_some_iff.1 hg).1
def Cj (w':World) (B:Nat) (F:aH) (v:Value):Prop := ∃ B1 fb V,B≤B1∧v= .tuple #[.pointer (some ⟨fb,0,none⟩),.int .i64 0,.int .i64 0]∧dA w' B1 0 fb F V∧(∃ seen,j6 F [] seen)∧Nx F
def Ci (e:Nat×Nat) (v:Value):Prop :=v= .tuple #[.pointer none,.int .i64 (e.1:Nat),.int .i64 (e.2:Nat)]
theorem qs {l:List (eJ×Value)} {i:Nat} {q:eJ×Value} (h:l[i]? =some q):jx l≠[]:=fun h2=>by
 have h3:(jx l).length=l.length*8:=kp (f:=k3) (m:=8) (fun _=>rfl) _
 have h4:=(List.getElem?_eq_some_iff.1 h).1
 rw [h2] at h3
 have h5:0=l.length*8:=h3
 omega
def iV (s:Tx) (w:World) (v:Value) (w':World):Prop :=(match eL s with | .ok F=>Cj w' w.heap.size F v | .error e=>Ci e v)∧Wk w w'
theorem iV.no {s:Tx} {w w':World} {l e:Nat} (h:eL s= .error (l,e)) (hm:Wk w w'):iV s w (.tuple #[.pointer none,.int .i64 (l:Nat),.int .i64 (e:Nat)]) w':=by
 unfold iV; rw [h]; exact ⟨rfl,hm⟩
theorem ur (s:Tx) (w:World) (hs:s.length≤1048576):
 aV Tryz.prog 12 (List.toArray [str s]) w (iV s w):=by
 refine enter Tryz.func12 rfl Tryz.ntmps12 rfl ?_
 refine U (fun _ cm=>(p ak (p ak (aj (((cm _ _ (sq (fun _ cn=> ?_)))))))))
 refine rg rfl (ag (str s) (e (cl xg (AU s _ hs) rfl fun v20 w20 cS=> ?_)))
 obtain ⟨⟨dP,rfl,hcs⟩,hE20⟩:=cS
 refine p mv (p (xt rfl rfl) (p (xt rfl rfl) (p ak (aj (((cn _ _ (sq (fun _ co=> ?_)))))))))
 refine U (fun _ cp=>(p mv (p (bH rfl rfl) (au ((cp _ _ (cd rfl (fun bO=> ?_) (fun bO=> ?_))))))))
 have b6:65536 < s.length:=Classical.byContradiction fun h=>bO (by rw [if_neg h])
 refine U (fun _ bt=>(p mv (p ak (p ak (aj (((bt _ _ ?_))))))))
 refine rt (tr (f3 rfl rfl rfl rfl ?_))
 have h:=iV.no (vD b6) hE20
 show iV s w (.tuple #[.pointer none,.int .i64 0,.int .i64 (if 65536 < s.length then 10 else 0)]) w20
 rw [if_pos b6]
 exact h
 have ai:¬65536 < s.length:=fun h=>bO (by rw [if_pos h]; decide)
 rw [if_neg ai] at hcs
 obtain ⟨vs,ce,dq⟩:=hcs
 obtain ⟨E,G,rfl⟩:=b0 ce
 refine az (tn (co _ _ (U (fun _ bt=>(ag (str s) (e (cl r4 (ux s _ hs) rfl fun d5 J cW=> ?_)))))))
 obtain ⟨dn,hE27⟩:=cW
 obtain ⟨d3,dS,rfl⟩:=b0 dn
 have hE27x:=hE20.trans hE27
 have hll:=jY s
 have hrl:=qO s
 refine aj (((bt _ _ (U (fun _ cq=>(p (bV (ps:= [(0,.int .i64 1),(4,.int .i64 3)]) (L:= [.int .i64 1,.string ⟨⟨[]⟩⟩,.string ⟨⟨[]⟩⟩,.int .i64 0,.int .i64 0,.int .i64 0,.int .i64 0,.int .i64 0,.int .i64 3,.slice none 0 0,.slice none 0 0,.slice none 0 0,.slice none 0 0]) K0 rfl (rfl)) (e (nV rfl fun A w29 dX b3 cD=> ?_))))))))
 have hz29:=b3.size
 refine p mv (p mv (p (bg dy rfl rfl) (p (ba (((a7 s).length+1:Nat):Int) rfl rfl (aQ (by omega) (by omega))) (p (bV (ps:= [(0,aI A),(1,.slice E (bf s).length G),(3,ae ((a7 s).length+1))]) (L:= [aI A,.slice E (bf s).length G,.int .i64 0,ae ((a7 s).length+1),.slice none 0 0,.int .i64 0]) La rfl (rfl)) (e (nV rfl fun a w35 dY bI cG=> ?_))))))
 have hz35:=bI.size
 have cJ:Wk J w35:=b3.md.trans bI.md
 have b1:GS J (⟨a,A,(a7 s).length+1,.slice E (bf s).length G,vs,bf s⟩:ea):=⟨w.heap.size,(Tg.fZ ce).wk hE27,dq.wk hE27,by show (bf s).length≤70000; omega⟩
 have cK:dA w35 J.heap.size 0 A fG ⟨.slice none 0 0,.slice none 0 0,.slice none 0 0,.slice none 0 0,[],[]⟩:=⟨Wk.aA bI.md cD,World.ownsRow_nil _ _ _ _,World.ownsRow_nil _ _ _ _,eV.nil _ _ _,World.ownsRow_nil _ _ _ _,World.ownsRow_nil _ _ _ _,eV.nil _ _ _,by omega,rfl⟩
 have hR0:eI w35 J.heap.size (⟨a,A,(a7 s).length+1,.slice E (bf s).length G,vs,bf s⟩:ea) 0 0 [] (.slice none 0 0):=⟨cG,World.ownsRow_nil _ _ _ _,by show J.heap.size≤a; omega⟩
 have c0:iU J w35 (⟨a,A,(a7 s).length+1,.slice E (bf s).length G,vs,bf s⟩:ea) fG 0 0 []:=⟨_,_,cK,hR0,⟨by show 0 +0 +0 +0 +(bf s).length≤70000; omega,by show 0 +(bf s).length≤70000; omega,fun q ac=>by have h:=qP (show q∈bf s from ac); exact ⟨h.2.2.1,by omega,fun x dJ=>by have :=(h.2.2.2.2 x dJ).2; omega⟩,.inl rfl⟩,cJ,Nat.zero_le _⟩
 have dm:Nx fG:=⟨fun l hl=>(by cases hl),fun l hl=>(by cases hl)⟩
 refine aj (((cq _ _ (sq (fun _ cr=>aA (lp (fun ab bW wI=> ∃ (a1:Nat) (F:aH) (k ln:Nat) (seen:List Tx),(eG (⟨a,A,(a7 s).length+1,.slice E (bf s).length G,vs,bf s⟩:ea).eof a1 F seen ((bf s).drop k)=eG ((a7 s).length+1) (bf s).length fG [] (bf s))∧(((bf s).drop k).length≤a1)∧(iU J wI (⟨a,A,(a7 s).length+1,.slice E (bf s).length G,vs,bf s⟩:ea) F k ln seen)∧(Nx F)∧(bW 5= .slice E (bf s).length G)∧(bW 8=aI a)∧(((bf s).drop k).length=ab)) _ ⟨(bf s).length,fG,0,0,[],rfl,(Nat.le_refl _),c0,dm,rfl,rfl,rfl⟩ ?_))))))
 rintro ab bW wI ⟨a1,F,k,ln,seen,hX,aq,I,hnx,dr,ds,rfl⟩
 refine fx 5 dr (fx 8 ds ?_)
 obtain ⟨V,vh,hF,Z,hB,aP,hkl⟩:=I
 have hkl:k≤(bf s).length:=hkl
 refine sq (fun _ cs=>U (fun _ cu=>(ag (aI a) (p (nc rfl) (p (fa kq rfl) (p (ld bU rfl ((aR Z.cells).trans rfl)) (ag (.slice E (bf s).length G) ?_)))))))
 refine p (bg ri rfl rfl) (p (lt rfl rfl) (au ((cu _ _ (cd rfl (fun db=> ?_) (fun db=> ?_))))))
 obtain ⟨n,r,ax,cr1,cv,c',ao,dE,hCr,a0,⟨ck,hT1⟩,hvl⟩:=b1.get aP (k:=k) (by show k < (bf s).length; omega)
 have ch:Value.slice E (bf s).length G= .slice cv (bf s).length c':=dE
 simp only [Value.slice.injEq,true_and] at ch
 obtain ⟨rfl,rfl⟩:=ch
 have hCr:aw wI.heap E (gK vs):=hCr
 have a0:vs[k]? =some (n,.slice ax r.length cr1):=a0
 have hvl:vs.length=(bf s).length:=hvl
 have ao:(bf s).drop k=(n,r)::(bf s).drop (k+1):=ao
 have hB:j6 F ((bf s).drop k) seen:=hB
 rw [ao] at hX aq hB
 have hrow:=hB.row (n,r) (List.mem_cons_self ..)
 have d0:0 < r.length:=List.length_pos_iff.2 hrow.1
 have hbl:=hB.len
 have hbs:=hB.sl
 simp only [List.length_cons] at hbl hbs aq
 have hB1:=j6.kV hB
 have aC:∀ w,Wk J w→bp w.heap ax r:=fun w h=>(hT1.wk h).bF.2
 refine az (tn (cs _ _ (aA (U (fun _ bb=>(ag (.slice E (bf s).length G) (ag (aI a) (p (nc rfl) ?_))))))))
 refine p (fa kq rfl) (p (ld bU rfl ((aR Z.cells).trans rfl)) (p (aJ jT rfl rfl (by omega) (aw.ok (hCr) (ir (by omega)))) (p (fa om rfl) (p (ld gi rfl (iu hCr a0 1 (by decide))) (aj (((bb _ _ ?_))))))))
 refine U (fun _ bh=>(ag (aI a) (ag (.slice E (bf s).length G) (ag (aI a) (p (nc rfl) (p (fa kq rfl) (p (ld bU rfl ((aR Z.cells).trans rfl)) ?_)))))))
 refine p (aJ jT rfl rfl (by omega) (aw.ok (hCr) (ir (by omega)))) (p (fa ng rfl) (p (ld bU rfl (iu hCr a0 0 (by decide))) (p (nc rfl) (p (fa kY rfl) (e (cj fW rfl rfl (v:=ae n) rfl Z.cells (by show _ < 6; omega) fun w8 bE cH=> ?_))))))
 have hR8:=Z.cT (k':=k) (ln':=n) bE cH
 have hF8:=hF.rb Z bE
 have c4:Wk J w8:=aP.trans' bE (fun q ac h=>by have :=Z.lo; omega)
 refine au ((bh _ _ (U (fun _ bi=>(ag (aI a) (ag (aI a) (p (nc rfl) (p (fa kq rfl) ?_))))))))
 refine p (ld bU rfl ((aR hR8.cells).trans rfl)) (p (ba ((k+1:Nat):Int) rfl rfl (aQ (by omega) (by omega))) (p (nc rfl) (p (fa kq rfl) (e (cj fW rfl rfl (v:=(ae (k+1))) rfl hR8.cells (by show _ < 6; omega) fun w9 hM9 cI=> ?_)))))
 have hR9:=hR8.cT (k':=k+1) (ln':=n) hM9 cI
 have hF9:=hF8.rb hR8 hM9
 have bM:Wk J w9:=c4.trans' hM9 (fun q ac h=>by have :=Z.lo; omega)
 refine au ((bi _ _ (U (fun _ bj=>(p mv (p (aJ bC rfl rfl (by omega) (aw.ok (aC _ bM) (bo (by omega)))) (p (ld bz rfl (bp.get (i:=0) (aC _ bM) (by omega))) (e (cl DR (Hj (r.getD 0 []) w9) rfl fun d6 ar cX=> ?_)))))))))
 obtain ⟨rfl,bx⟩:=cX
 have hW73:=bM.trans bx
 have hR73x:=hR9.wk bx
 have hF73:=hF9.wk bx
 refine aj (((bj _ _ (sq (fun _ bk=>U (fun _ aF=>(p mv (p (bd rfl rfl) ?_))))))))
 refine au ((aF _ _ (cd rfl (fun dc=> ?_) (fun dc=> ?_))))
 have h0:width (r.getD 0 [])=0:=by omega
 refine sq (fun _ aK=> ?_)
 have aa:(fun w'=>Wk ar w') ar.drew:=(Md.refl _ _).drew
 refine bD (fun w'=>Wk ar w') rfl wide aa (bl 0 rfl (aI a) aa (aB 1 rfl (fun _ _=>nc rfl) aa (aB 2 rfl (fun _ _=>fa kY rfl) aa (aB 3 rfl (fun w' I=>ld bU rfl (Wk.aE I ((aR hR73x.cells).trans rfl))) aa (aB 4 rfl (fun _ _=>ak) aa (aB 5 rfl (fun _ _=>ak) aa (aB 6 rfl (fun _ _=>ak) aa ?_)))))))
 refine hn (by kernel_rfl) (tn (aK _ _ (rt (tr (br (tr (br (tr ?_))))))))
 exact f3 rfl rfl rfl rfl (iV.no (kb ai (AK hX aq h0)) (hE27x.trans (hW73.trans aa)))
 have h0:width (r.getD 0 [])≠0:=by omega
 refine az (tn (bk _ _ (sq (fun _ aK=>U (fun _ bm=>(p mv (p (bg dy rfl rfl) (p mv ?_))))))))
 refine p (bH rfl rfl) (au ((bm _ _ (cd rfl (fun dd=> ?_) (fun dd=> ?_)))))
 refine sq (fun _ aL=> ?_)
 have hS14:(fun w'=>Wk ar w') ar.drew:=(Md.refl _ _).drew
 refine bD (fun w'=>Wk ar w') rfl wide hS14 (bl 0 rfl (aI a) hS14 (aB 1 rfl (fun _ _=>nc rfl) hS14 (aB 2 rfl (fun _ _=>fa kY rfl) hS14 (aB 3 rfl (fun w' I=>ld bU rfl (Wk.aE I ((aR hR73x.cells).trans rfl))) hS14 (aB 4 rfl (fun _ _=>ak) hS14 (aB 5 rfl (fun _ _=>ak) hS14 (aB 6 rfl (fun _ _=>ak) hS14 ?_)))))))
 refine hn (by kernel_rfl) (tn (aL _ _ (rt (tr (br (tr (br (tr ?_))))))))
 exact f3 rfl rfl rfl rfl (iV.no (kb ai (AL hX aq h0 (by omega))) (hE27x.trans (hW73.trans hS14)))
 have h1:r.length=width (r.getD 0 []):=by omega
 refine az (tn (aK _ _ (U (fun _ aL=>(ag (aI a) (p mv (p (aJ bC rfl rfl (by omega) (aw.ok (aC _ hW73) (bo (by omega)))) (p (ld bz rfl (bp.get (i:=0) (aC _ hW73) (by omega))) ?_))))))))
 refine e (cl r5 (tw J.heap.size (⟨a,A,(a7 s).length+1,.slice E (bf s).length G,vs,bf s⟩:ea) (k+1) n seen vh (r.getD 0 []) ar hR73x (by omega)) rfl fun d7 a2 cY=> ?_)
 obtain ⟨rfl,dI⟩:=cY
 subst dI
 refine aj (((aL _ _ ?_)))
 refine c6 (fun a8 bS=>(width (r.getD 0 [])=2→r.getD 0 []∉seen)∧(bS=a2)∧(a8 5= .slice E (bf s).length G)∧(a8 8=aI a)∧(a8 9= .slice ax r.length cr1)) ?_ ?_
 refine U (fun _ am=>(p mv (p (bd rfl rfl) (p mv (gs (t:=95) rfl (fun df=> ?_) (fun df=> ?_))))))
 refine pg rfl rfl rfl mv (p (bc rfl) (au ((am _ _ (cb rfl (fun bP=> ?_) (fun bP=> ?_))))))
 refine sq (fun _ aN=> ?_)
 have hS17:(fun w'=>Wk a2 w') a2.drew:=(Md.refl _ _).drew
 refine bD (fun w'=>Wk a2 w') rfl wide hS17 (bl 0 rfl (aI a) hS17 (aB 1 rfl (fun _ _=>nc rfl) hS17 (aB 2 rfl (fun _ _=>fa kY rfl) hS17 (aB 3 rfl (fun w' I=>ld bU rfl (Wk.aE I ((aR hR73x.cells).trans rfl))) hS17 (aB 4 rfl (fun _ _=>ak) hS17 (aB 5 rfl (fun _ _=>ak) hS17 (aB 6 rfl (fun _ _=>ak) hS17 ?_)))))))
 refine hn (by kernel_rfl) (tn (aN _ _ (rt (tr (br (tr (br (tr ?_))))))))
 exact f3 rfl rfl rfl rfl (iV.no (kb ai (uu hX aq h0 h1 (by omega) (of_decide_eq_true bP))) (hE27x.trans (hW73.trans hS17)))
 exact az (tn (⟨((fun _=>of_decide_eq_false bP)),rfl,rfl,rfl,rfl⟩))
 exact sk rfl rfl rfl rfl (p (a6 rfl) (au ((am _ _ (cf rfl (az (tn (⟨((fun h=>absurd h (by omega))),rfl,rfl,rfl,rfl⟩))))))))
 rintro a8 bS ⟨ca,dF,dt,du,dv⟩
 refine fx 5 dt (fx 8 du (fx 9 dv ?_))
 subst dF
 refine U (fun _ am=>(ag (aI a) (ag (.slice ax r.length cr1) (e (cl DS (Hd J (⟨a,A,(a7 s).length+1,.slice E (bf s).length G,vs,bf s⟩:ea) F (k+1) n seen r ck ax cr1 bS b1 ⟨V,vh,hF73,hR73x,hB1,hW73,by show k+1≤(bf s).length; omega⟩ hT1 hrow.2.2 (by show _+((bf s).drop (k+1)).length < 70000; omega) h1 h0) rfl fun dN Y cN=> ?_)))))
 obtain ⟨dh,c2⟩:=cN
 obtain ⟨dT,rfl,b8⟩:∃ e:Nat,dN=ae e∧((e=0∧∃ F' k' ln',bw (⟨a,A,(a7 s).length+1,.slice E (bf s).length G,vs,bf s⟩:ea).eof F seen ((bf s).drop (k+1)) n r= .ok (F',(bf s).drop k')∧iU J Y (⟨a,A,(a7 s).length+1,.slice E (bf s).length G,vs,bf s⟩:ea) F' k' ln' seen)∨(e≠0∧∃ l:Nat,bw (⟨a,A,(a7 s).length+1,.slice E (bf s).length G,vs,bf s⟩:ea).eof F seen ((bf s).drop (k+1)) n r= .error (l,e)∧Hb.aE Y.heap a 5=some (ae l))):=by
  rcases dh with ⟨F',k',ln',h1,h2,h3⟩ | ⟨l,e,h1,h2,h3,h4⟩
  exact ⟨0,h2,.inl ⟨rfl,F',k',ln',h1,h3⟩⟩
  exact ⟨e,h3,.inr ⟨h2,l,h1,h4⟩⟩
 refine aj (((am _ _ (sq (fun _ aN=>U (fun _ bq=>(p mv (p (bH rfl rfl) ?_))))))))
 refine au ((bq _ _ (cd rfl (fun c5=> ?_) (fun c5=> ?_))))
 obtain ⟨hne,d2,dg,dk⟩:=b8.resolve_left (fun h=>by omega)
 refine sq (fun _ aO=> ?_)
 have O:(fun w'=>Wk Y w') Y.drew:=(Md.refl _ _).drew
 refine bD (fun w'=>Wk Y w') rfl wide O (bl 0 rfl (aI a) O (aB 1 rfl (fun _ _=>nc rfl) O (aB 2 rfl (fun _ _=>fa kY rfl) O (aB 3 rfl (fun w' I=>ld bU rfl (Wk.aE I (dk))) O (aB 4 rfl (fun _ _=>mv) O (aB 5 rfl (fun _ _=>ak) O (aB 6 rfl (fun _ _=>ak) O ?_)))))))
 refine aB 7 rfl (fun _ _=>ak) O (hn (by kernel_rfl) (tn (aO _ _ (rt (tr (br (tr (br ?_))))))))
 exact tr (f3 rfl rfl rfl rfl (iV.no (kb ai (uv hX aq h0 h1 ca dg)) (hE27x.trans (c2.trans O))))
 obtain ⟨_,F',k',ln',aW,cZ⟩:=b8.resolve_right (fun h=>by omega)
 have hXn:=uw hX aq h0 h1 ca aW
 obtain ⟨dO,d8,hF2,hR2,bv,hW2,dj⟩:=cZ
 obtain ⟨av,ay,rfl⟩:=b0 hR2.hd
 have dl:¬((Value.slice av seen.length ay).ownBlock=some a):=cw hR2.hd hR2.cells (by decide)
 refine az (tn (aN _ _ ?_))
 have hS21:(fun w'=>Md (fun q=>(Value.slice av seen.length ay).ownBlock=some q) Y w') Y.drew:=(Md.refl _ _).drew
 refine dH (fun w'=>Md (fun q=>(Value.slice av seen.length ay).ownBlock=some q) Y w') 12 rfl wide hS21 (a4 0 rfl (aI a) hS21 (a4 1 rfl (aI a) hS21 (a5 2 rfl (fun _=>nc rfl) (fun _=>hS21) (a5 3 rfl (fun _=>fa kX rfl) (fun _=>hS21) (cQ 4 rfl (fun w' I=>ld gi rfl (Md.aE I ((aR hR2.cells).trans rfl) dl)) hS21 (a4 5 rfl (.slice ax r.length cr1) hS21 (a5 6 rfl (fun _=>aJ bC rfl rfl (by omega) (aw.ok (aC _ hW2) (bo (by omega)))) (fun _=>hS21) ?_)))))))
 refine cQ 7 rfl (fun w' I=>ld bz rfl (bp.get (i:=0) (aw.md (aC _ hW2) I (fun hne h=>by have h1:=Tg.blt hT1 hne; have h2:=(c7 hR2.hd h).1; omega)) (by omega))) hS21 (fC 8 rfl (by kernel_rfl) (ef dV rfl rfl fun dQ w120 dW cM cB=> ?_))
 have hE120:=e8 cM.md
 have hR20x:=hR2.wk hE120
 have b4:(fun w'=>Md (fun q=>(Value.slice av seen.length ay).ownBlock=some q) Y w') w120:=Md.mono hE120 (fun _ _ h=>h.elim)
 refine ⟨b4,?_⟩
 refine fC 9 rfl (by kernel_rfl) (ap dV (hR20x.hd) rfl (by have :=hW2.size; have :=hE120.size; omega) rfl (aw.cV cB) (rfl) (rfl) (by omega) (by omega) fun v121 w121 cc aU d1 dZ=> ?_)
 have hc121:=aU.aA hR20x.cells (cw hR20x.hd hR20x.cells (by decide))
 have ho121x:=jh cc
 have bK:(fun w'=>Md (fun q=>(Value.slice av seen.length ay).ownBlock=some q) Y w') w121:=b4.trans' aU (fun _ _ h=>h)
 refine ⟨bK,?_⟩
 refine a5 10 rfl (fun _=>nc rfl) (fun _=>bK) (a5 11 rfl (fun _=>fa kX rfl) (fun _=>bK) (cE 12 rfl (by kernel_rfl) (by kernel_rfl) (cj xS rfl rfl (v:=v121) (dU cc) hc121 (by show _ < 6; omega) fun w11 bB cA=> ?_)))
 have hF20:=hF2.wk hE120
 have c1:TF w120 [11] (fun q=>(Value.slice av seen.length ay).ownBlock=some q):=TF.own hR20x.hd (by decide)
 have hF21:=hF20.md aU c1 (by decide)
 have b5:TF w121 [124] (fun q=>q=a):=TF.eq (cR hc121) (by decide)
 have hF22:=hF21.md bB b5 (by decide)
 have cU:eI w11 J.heap.size (⟨a,A,(a7 s).length+1,.slice E (bf s).length G,vs,bf s⟩:ea) k' ln' (seen++ [r.getD 0 []]) v121:=⟨cA,bG ho121x bB b5 (by decide),hR2.lo⟩
 have c3:Wk J w11:=((hW2.trans hE120).trans' aU (fun q ac h=>by have :=(c7 hR20x.hd h).1; omega)).trans' bB (fun q ac h=>by omega)
 have hrw:=lT aW
 have hS21:iU J w11 (⟨a,A,(a7 s).length+1,.slice E (bf s).length G,vs,bf s⟩:ea) F' k' ln' (seen++ [r.getD 0 []]):=⟨_,_,hF22,cU,⟨bv.len,by rw [List.length_append,List.length_singleton]; show seen.length+1 +((bf s).drop k').length≤70000; omega,bv.row,bv.kd⟩,c3,dj⟩
 have hnx21:=qu hnx aW
 refine dG (by kernel_rfl) ?_
 exact bn (tn (⟨_,by rw [ao]; have :=lT aW; simp only [List.length_cons]; omega,a1 - 1,F',k',ln',seen++ [r.getD 0 []],hXn.1,hXn.2,hS21,hnx21,rfl,rfl,rfl⟩))
 have ao:(bf s).drop k= []:=List.drop_eq_nil_of_le (by omega)
 rw [ao,ny] at hX
 refine ext (te _ (te _ (be (tn (cr _ _ (U (fun _ bb=>(ag (aI a) ?_))))))))
 refine p (nc rfl) (p (fa ik rfl) (p (ld ib rfl ((aR Z.cells).trans rfl)) (aj (((bb _ _ (sq (fun _ bh=>sq (fun _ bi=> ?_)))))))))
 refine rg rfl (aj (((bi _ _ (aA ?_)))))
 obtain ⟨cx,gr,cg⟩:=b0 hF.cO
 have ho12:=hF.cO
 rw [cg] at ho12
 have aX:Hb.aE wI.heap A 12=some (.slice cx F.rules.length gr):=by rw [← cg]; exact (aR hF.cells).trans rfl
 have hblz:=hB.len
 refine lp (fun ab bX ci=> ∃ (i:Nat),(i≤F.rules.length)∧(∀ j q,j < i→F.rules[j]? =some q→jP F q=false)∧(Wk wI ci)∧(bX 12=aI A)∧(bX 13=ae i)∧(F.rules.length - i=ab)) _ ⟨0,(by omega),((fun j q b9=>by omega)),(Md.refl _ _),rfl,rfl,rfl⟩ ?_
 rintro ab bX ci ⟨i,hi,aZ,aT,dw,dx,rfl⟩
 refine fx 12 dw (fx 13 dx (sq (fun _ bj=>sq (fun _ bk=> ?_))))
 have hc12x:=Wk.aE aT aX
 refine rg rfl (ag (ae i) (ag (aI A) (p (nc rfl) (p (fa jU rfl) (p (ld kP rfl (hc12x)) (p (bg uQ rfl rfl) (p (lt rfl rfl) ?_)))))))
 refine au ((bk _ _ (cd rfl (fun c8=> ?_) (fun c8=> ?_))))
 refine az (tn (bj _ _ (sq (fun _ aF=>aA (sq (fun _ aK=> ?_))))))
 have b7:i < F.rules.length:=by omega
 obtain ⟨vn,dD,bL⟩:=eV.get hF.nx (i:=i) (by rw [List.length_map]; exact b7)
 obtain ⟨q,aD⟩:∃ q,F.rules[i]? =some q:=⟨_,List.getElem?_eq_getElem b7⟩
 have dp:(F.rules.map (·.next)).getD i []=q.next:=by rw [List.getD_eq_getElem?_getD,List.getElem?_map,aD]; rfl
 rw [dp] at bL
 have hqnl:=hnx.2 q (List.mem_of_getElem? aD)
 obtain ⟨cy,cz,rfl⟩:=bL.slice
 have ah:(F.rules.zip V.rn)[i]? =some (q,.slice cy q.next.length cz):=by rw [List.getElem?_zip_eq_some]; exact ⟨aD,dD⟩
 refine rg rfl (aj (((aK _ _ (aA (lp (fun ab a9 bT=> ∃ (j:Nat),(j≤q.next.length)∧(∀ aS,aS < j→jf F (q.next.getD aS 0)=true)∧(Wk wI bT)∧(a9 12=aI A)∧(a9 13=ae i)∧(a9 14=ae j)∧(q.next.length - j=ab)) _ ⟨0,(by omega),((fun aS di=>by omega)),aT,rfl,rfl,rfl,rfl⟩ ?_))))))
 rintro ab a9 bT ⟨j,b9,bQ,an,dz,dB,dC,rfl⟩
 refine fx 12 dz (fx 13 dB (fx 14 dC (sq (fun _ bm=>sq (fun _ aL=> ?_)))))
 have hc12y:=Wk.aE an aX
 have ho12J:=aG ho12 an
 refine rg rfl (ag (ae j) (ag (aI A) (p (nc rfl) (p (fa jU rfl) (p (ld kP rfl (hc12y)) (ag (ae i) (p (aJ p6 rfl rfl (by omega) (aw.ok ((aM ho12J).2) (qs ah))) ?_)))))))
 refine p (fa s0 rfl) (p (ld mZ rfl (fS (f:=k3) (m:=8) (fun _=>rfl) (aM ho12J).2 ah 6 (by decide))) (p (bg u64 rfl rfl) (p (lt rfl rfl) (au ((aL _ _ (cd rfl (fun c9=> ?_) (fun c9=> ?_))))))))
 refine az (tn (bm _ _ (sq (fun _ am=>aA (sq (fun _ aN=> ?_))))))
 have hTJ:=bL.wk an
 have dL:(q.next.map bA)[j]? =some (bA (q.next.getD j 0)):=by rw [List.getElem?_map,List.getD_eq_getElem?_getD,List.getElem?_eq_getElem (by omega :j < q.next.length)]; rfl
 refine rg rfl (ag (aI A) (p (nc rfl) (p (fa jU rfl) (p (ld kP rfl (hc12y)) (ag (ae i) (p (aJ p6 rfl rfl (by omega) (aw.ok ((aM ho12J).2) (qs ah))) (p (fa s0 rfl) ?_)))))))
 refine p (ld mZ rfl (fS (f:=k3) (m:=8) (fun _=>rfl) (aM ho12J).2 ah 6 (by decide))) (ag (ae j) (p (aJ lO rfl rfl (by omega) (aw.ok (hTJ.bF.2) (bo (by omega)))) (p (ld bU rfl (aw.gP hTJ.bF.2 dL)) (aj (((aN _ _ (sq (fun _ bq=> ?_)))))))))
 refine rg rfl (ag (aI A) (p mv (e (cl r6 (ti J.heap.size 0 A F V (q.next.getD j 0) bT (hF.wk an) (by omega)) rfl fun d4 d9 cP=> ?_))))
 obtain ⟨rfl,bZ⟩:=cP
 have hz164:=bZ.size
 refine p mv (p (xt rfl rfl) (p (xt rfl rfl) (e (al mQ fun dR w16 hb16 b2 cC=>e (bY lL rfl rfl rfl rfl (cC) (by simp) fun wt30_7 cL cF=> ?_)))))
 have M:Wk wI wt30_7:=(an.trans (bZ.trans b2.md)).trans' cL (fun q ac h=>by have :=an.size; omega)
 have hz16:=b2.size
 refine aj (((bq _ _ (U (fun _ aO=>(p mv (ag (aI A) (p (nc rfl) ?_))))))))
 refine p (fa qg rfl) (p (il pB rfl rfl (by omega)) (p (ld bU rfl ((aR (hF.wk M).cells).trans rfl)) (p (bH rfl rfl) (p mv (gs (t:=174) rfl (fun de=> ?_) (fun de=> ?_))))))
 refine pg rfl rfl rfl mv (pg rfl rfl rfl (no rfl) (pg rfl rfl rfl mv (gb (t:=177) rfl (fun aY=> ?_) (fun aY=> ?_))))
 refine sk rfl rfl rfl rfl (sk rfl rfl rfl rfl (sk rfl rfl rfl rfl (pg rfl rfl rfl (bc rfl) (p (bc rfl) (au ((aO _ _ (ct rfl ?_))))))))
 refine sq (fun _ bs=> ?_)
 have C:(fun w'=>Wk wt30_7 w') wt30_7.drew:=(Md.refl _ _).drew
 refine bD (fun w'=>Wk wt30_7 w') rfl wide C (bl 0 rfl (aI A) C (aB 1 rfl (fun _ _=>nc rfl) C (aB 2 rfl (fun _ _=>fa jU rfl) C (aB 3 rfl (fun w' I=>ld kP rfl (Wk.aE I (Wk.aE M aX))) C (bl 4 rfl (ae i) C (aB 5 rfl (fun _ _=>aJ p6 rfl rfl (by omega) (aw.ok ((aM (aG ho12 M)).2) (qs ah))) C (aB 6 rfl (fun _ _=>fa yZ rfl) C ?_)))))))
 refine aB 7 rfl (fun w' I=>ld bU rfl (Wk.aE I (fS (f:=k3) (m:=8) (fun _=>rfl) (aM (aG ho12 M)).2 ah 7 (by decide)))) C (aB 8 rfl (fun _ _=>ak) C (aB 9 rfl (fun _ _=>ak) C (aB 10 rfl (fun _ _=>ak) C (hn (by kernel_rfl) (tn (bs _ _ (rt (br ?_))))))))
 refine tr (tr (br (br (tr (tr (br (tr ?_)))))))
 refine f3 rfl rfl rfl rfl ?_
 have bN:eL s= .error (q.line,118):=rE ai hX.symm (lP aZ aD (lH (j:=j) (by omega) (qK (by omega) (by simpa using aY))))
 exact iV.no bN (hE27x.trans (aP.trans (M.trans C)))
 refine pg rfl rfl rfl (fa qh rfl) (pg rfl rfl rfl (ld bU rfl ((cF.aE 1).trans rfl)) (pg rfl rfl rfl (bH rfl rfl) (pg rfl rfl rfl (a6 rfl) (p (bc rfl) (au ((aO _ _ (cd rfl (fun da=> ?_) (fun da=> ?_)))))))))
 refine sq (fun _ bs=> ?_)
 have C:(fun w'=>Wk wt30_7 w') wt30_7.drew:=(Md.refl _ _).drew
 refine bD (fun w'=>Wk wt30_7 w') rfl wide C (bl 0 rfl (aI A) C (aB 1 rfl (fun _ _=>nc rfl) C (aB 2 rfl (fun _ _=>fa jU rfl) C (aB 3 rfl (fun w' I=>ld kP rfl (Wk.aE I (Wk.aE M aX))) C (bl 4 rfl (ae i) C (aB 5 rfl (fun _ _=>aJ p6 rfl rfl (by omega) (aw.ok ((aM (aG ho12 M)).2) (qs ah))) C (aB 6 rfl (fun _ _=>fa yZ rfl) C ?_)))))))
 refine aB 7 rfl (fun w' I=>ld bU rfl (Wk.aE I (fS (f:=k3) (m:=8) (fun _=>rfl) (aM (aG ho12 M)).2 ah 7 (by decide)))) C (aB 8 rfl (fun _ _=>ak) C (aB 9 rfl (fun _ _=>ak) C (aB 10 rfl (fun _ _=>ak) C (hn (by kernel_rfl) (tn (bs _ _ (rt (br ?_))))))))
 refine tr (tr (br (br (tr (tr (br (tr ?_)))))))
 refine f3 rfl rfl rfl rfl ?_
 have bN:eL s= .error (q.line,118):=rE ai hX.symm (lP aZ aD (lH (j:=j) (by omega) (qJ (by omega) (by simpa using aY) (by show ((dK F.a3 (q.next.getD j 0)).getD jR).kind≠2; omega))))
 exact iV.no bN (hE27x.trans (aP.trans (M.trans C)))
 refine az (bn (tn (am _ _ (rg rfl (ag (ae j) (p (ad rfl rfl (bu (by omega))) (p ak (nl ?_))))))))
 exact tn (⟨_,by omega,j+1,(by omega),((fun k hk=>by rcases Nat.lt_or_ge k j with h | h <;> first | exact bQ k h | (rw [show k=j by omega]; exact Aq (by simpa using aY) (by show ((dK F.a3 (q.next.getD j 0)).getD jR).kind=2; omega)))),M,rfl,rfl,rfl,rfl⟩)
 refine sk rfl rfl rfl rfl (sk rfl rfl rfl rfl (sk rfl rfl rfl rfl (et rfl rfl rfl (et rfl rfl rfl (et rfl rfl rfl (sk rfl rfl rfl rfl (p (a6 rfl) ?_)))))))
 refine au ((aO _ _ (cf rfl (az (bn (tn (am _ _ (rg rfl (ag (ae j) ?_)))))))))
 exact p (ad rfl rfl (bu (by omega))) (aj (((⟨_,by omega,j+1,(by omega),((fun k hk=>by rcases Nat.lt_or_ge k j with h | h <;> first | exact bQ k h | (rw [show k=j by omega]; exact Ap (by omega)))),M,rfl,rfl,rfl,rfl⟩))))
 refine ext (te _ (te _ (be (bn (tn (aF _ _ (rg rfl (ag (ae i) ?_))))))))
 exact p (ad rfl rfl (bu (by omega))) (aj (((⟨_,by omega,i+1,(by omega),((fun k dM hk bR=>by rcases Nat.lt_or_ge k i with h | h <;> first | exact aZ k dM h bR | (rw [show k=i by omega,aD] at bR; cases bR; exact vY (fun aS di=>bQ aS (by omega))))),an,rfl,rfl,rfl⟩))))
 refine ext (te _ (te _ (be (tn (bh _ _ (U (fun _ aF=>(ag (aI A) ?_))))))))
 refine p (bJ (aI A) rfl) (p ak (aj (((aF _ _ (rt (f3 rfl rfl rfl rfl ?_)))))))
 unfold iV
 rw [vF ai hX.symm (yF (fun j q b9 ac=>aZ j q (by omega) ac))]
 exact ⟨⟨J.heap.size,A,V,by have :=hE27x.size; omega,rfl,hF.wk aT,⟨seen,by have hB:=hB; rw [show (ea.rows (⟨a,A,(a7 s).length+1,.slice E (bf s).length G,vs,bf s⟩:ea)).drop k= [] from ao] at hB; exact hB⟩,hnx⟩,hE27x.trans (aP.trans aT)⟩
end Go.Hb.o4
end
section
set_option maxRecDepth 20000
set_option maxHeartbeats 1000000
namespace Go.Hb.oX
open Go.Hb.du
open Go.Proofs
open Go.Hb.kN Go.Hb.mV Go.Hb.o4 Go.Hb.ff Go.Hb.fM Go.Hb.fV Go.Hb.kH Go.Hb.hY Go.Hb.mW Go.Hb.gB Go.Hb.mj Go.Hb.gn Go.Hb.fP Go.Hb.kM Go.Hb.mg Go.Hb.mT Go.Hb.nO
def Cf (w':World) (X:Except Nat c9) (v:Value):Prop :=(∃ x a,X= .ok x∧v= .tuple #[.agg [str x.1,a].toArray,.int .i64 (0:Nat)]∧a.oneCell'=true∧Tg w' 0 3 x.2.length a (x.2.map bA))∨(∃ e,X= .error e∧e≠0∧v= .tuple #[.agg [str [],.slice none 0 0].toArray,.int .i64 (e:Nat)])
theorem uO (w:World) (B e:Nat):Tg w B e 0 (.slice none 0 0) []:=Tg.fZ (size:=1) (World.ownsRow_nil _ _ _ _)
def Ck (w:World) (B:Nat) (v:Value) (xs:List c9):Prop := ∃ vs,World.ownsRow w B 68 2 v xs.length (gE (xs.zip vs))∧eV w 0 3 vs (xs.map (·.2))
def iy (F:aH) (t:Tx) (w:World) (v:Value) (w':World):Prop :=(match eN F t with | .ok xs=> ∃ a,v= .tuple #[a,.int .i64 0,.int .i64 0]∧Ck w' w.heap.size a xs | .error e=>v= .tuple #[.slice none 0 0,.int .i64 (e.1:Nat),.int .i64 (e.2:Nat)])∧Wk w w'
theorem iy.no {F:aH} {t:Tx} {w w':World} {l e:Nat} (h:eN F t= .error (l,e)) (hm:Wk w w'):iy F t w (.tuple #[.slice none 0 0,.int .i64 (l:Nat),.int .i64 (e:Nat)]) w':=by
 unfold iy; rw [h]; exact ⟨rfl,hm⟩
theorem Hh (B fb:Nat) (F:aH) (V:fj) (x:Nat) (w:World) (hF:dA w B 0 fb F V) (an:F.a3.length≤70000):
 aV Tryz.prog 86 (List.toArray [aI fb,bA x]) w (fun v w'=>v= .bool (dx F x)∧Wk w w'):=by
 have hsp5:=hF.ee
 refine enter Tryz.func86 rfl Tryz.ntmps86 rfl ?_
 refine U (fun _ J=>(aj (((J _ _ (sq (fun _ M=>U (fun _ O=> ?_))))))))
 refine aj (((O _ _ (aA (lp (fun A a wI=> ∃ (i:Nat),(i≤5)∧(∀ j,j < i→F.sp.getD j 0≠x)∧(wI=w)∧(a 0=aI fb)∧(a 1=bA x)∧(a 5=ae i)∧(5 - i=A)) _ ⟨0,(by omega),((fun j G=>by omega)),rfl,rfl,rfl,rfl,rfl⟩ ?_)))))
 rintro A a wI ⟨i,hi,I,ab,ao,ap,aq,rfl⟩
 refine fx 0 ao (fx 1 ap (fx 5 aq ?_))
 subst ab
 refine sq (fun _ Y=>U (fun _ Z=>(ag (ae i) (p (lt rfl rfl) (au ((Z _ _ (cd rfl (fun am=> ?_) (fun am=> ?_)))))))))
 refine az (tn (Y _ _ (sq (fun _ q=>aA (U (fun _ s=>(ag (aI fb) (ag (ae i) ?_))))))))
 refine p (nc rfl) (p (fa qg rfl) (p (il pB rfl rfl (by omega)) (p (ld bU rfl ((aR hF.cells).trans (zl (i:=i) (by omega)))) (ag (bA x) (p (bd rfl rfl) (au ((s _ _ ?_))))))))
 refine cd rfl (fun E=> ?_) (fun E=> ?_)
 refine U (fun _ aa=>(aj (((aa _ _ (rt (br (tr ?_))))))))
 exact tr (br (tr (f1 rfl rfl (⟨by rw [x4 (show x∈F.sp from by obtain rfl :F.sp.getD i 0=x:=(by omega); exact c5 (by omega))]; rfl,Md.refl _ _⟩))))
 refine az (bn (tn (q _ _ (rg rfl (ag (ae i) (p (ad rfl rfl (bu (by omega))) (p ak (nl ?_))))))))
 exact tn (⟨_,by omega,i+1,(by omega),((fun j G=>by rcases Nat.lt_or_ge j i with h | h <;> first | exact I j h | (rw [show j=i by omega]; exact fun h2=>E (by rw [h2])))),rfl,rfl,rfl,rfl,rfl⟩)
 refine ext (te _ (te _ (be (tn (M _ _ (U (fun _ q=>(ag (aI fb) ?_))))))))
 refine ag (bA x) (e (cl r6 (ti B 0 fb F V x wI hF an) rfl fun aw w23 ai=> ?_))
 obtain ⟨rfl,C⟩:=ai
 have hz23:=C.size
 refine p mv (p (xt rfl rfl) (p (xt rfl rfl) (e (al mQ fun ar w6 hb6 ah hB6=>e (bY lL rfl rfl rfl rfl (hB6) (by simp) fun ax ac av=>aj (((q _ _ ?_))))))))
 refine U (fun _ s=>(p mv (aj (((s _ _ (rt (f1 rfl rfl ?_))))))))
 exact ⟨by rw [x5 (z9 (fun j G=>I j (by omega)))]; rfl,(C.trans ah.md).trans' ac (fun k hk h=>by omega)⟩
theorem G0 (B fb:Nat) (F:aH) (V:fj) (r:List Tx) (aR:Nat) (ab:Option Addr) (ac:Nat) (w:World) (aM:dA w B 0 fb F V) (bm:∃ seen,j6 F [] seen) (hnx:Nx F) (bL:Tg w aR 9 r.length (.slice ab r.length ac) (r.map str)) (hrl:∀ x∈r,x.length≤70000) (hr:r.length≤70000):
 aV Tryz.prog 46 (List.toArray [aI fb,.slice ab r.length ac]) w (fun v w'=>Cf w' (ep F r) v∧Wk w w'):=by
 obtain ⟨seen,aL⟩:=bm
 have hbl:=aL.len
 have hwl:=mP (r.getD 0 [])
 refine enter Tryz.func46 rfl Tryz.ntmps46 rfl ?_
 refine U (fun _ aS=>(e (fQ B8 fun aE w4 b2 O aK=> ?_)))
 have hz4:=O.size
 have hT:=bL.wk O.md
 have hF4:=aM.wk O.md
 have hb4x:bE w4.heap aE [str [],.slice none 0 0]:=⟨_,aK⟩
 refine aj (((aS _ _ (sq (fun _ a1=>U (fun _ a7=>(ag (.slice ab r.length ac) (p (bg dy rfl rfl) ?_))))))))
 refine p (bH rfl rfl) (au ((a7 _ _ (cd rfl (fun bM=> ?_) (fun bM=> ?_)))))
 refine U (fun _ ao=>(p (bV (ps:= []) (L:= [.string ⟨⟨[]⟩⟩,.slice none 0 0]) lh rfl (rfl)) (e (bY kj rfl rfl rfl rfl (hb4x) (by simp) fun cg bx bk=>aj (((ao _ _ (rt ?_))))))))
 exact tr (dP rfl (c8 (cs:= [str [],.slice none 0 0]) rfl kf rfl (fun j s=>bk.cW j)) dF (⟨.inr ⟨111,yl (by omega),by decide,rfl⟩,O.md.trans' bx (fun q a h=>by omega)⟩))
 have hr1:r.length=1:=by omega
 have b4:(r.getD 0 []).length≤70000:=hrl _ (c5 (by omega))
 refine az (tn (a1 _ _ (U (fun _ ao=>(ag (.slice ab r.length ac) (p (aJ bC rfl rfl (by omega) (aw.ok (hT.bF.2) (bo (by omega)))) (p (ld bz rfl (bp.get (i:=0) hT.bF.2 (by omega))) (e (cl pI (qS (r.getD 0 []) w4 (by omega)) rfl fun b5 bX bD=> ?_)))))))))
 obtain ⟨rfl,I⟩:=bD
 have hE22x:=O.md.trans I
 have hz22:=I.size
 refine p mv (p (xt rfl rfl) (p (xt rfl rfl) (p (xt rfl rfl) (p (xt rfl rfl) (p ak (p ak (p ak ?_)))))))
 refine aj (((ao _ _ (sq (fun _ a8=>U (fun _ a9=>(p mv (p (bH rfl rfl) ?_))))))))
 refine au ((a9 _ _ (cd rfl (fun bN=> ?_) (fun bN=> ?_))))
 refine U (fun _ ap=>(p (bV (ps:= []) (L:= [.string ⟨⟨[]⟩⟩,.slice none 0 0]) lh rfl (rfl)) (p mv (e (bY kj rfl rfl rfl rfl (Wk.B I hb4x) (by simp) fun ch bB bl=>aj (((ap _ _ ?_))))))))
 exact rt (tr (dP rfl (c8 (cs:= [str [],.slice none 0 0]) rfl kf rfl (fun j s=>bl.cW j)) dF (⟨.inr ⟨_,pZ hr1 (by omega),(by omega),rfl⟩,hE22x.trans' bB (fun q a h=>by omega)⟩)))
 have G:(aW (r.getD 0 [])).2.2.2=0:=by omega
 refine az (tn (a8 _ _ (U (fun _ ap=>(p mv (e (cl nY (oJ (aW (r.getD 0 [])).1 bX (by omega)) rfl fun b6 bZ bG=> ?_)))))))
 obtain ⟨rfl,hE32⟩:=bG
 have hE32x:=hE22x.trans hE32
 have hb32:=Wk.B (I.trans hE32) hb4x
 have hz32:=hE32.size
 refine aj (((ap _ _ (sq (fun _ ba=>U (fun _ aD=>(p mv (p (bK u9 rfl rfl) ?_))))))))
 refine p (bd rfl rfl) (p mv (gs (t:=36) rfl (fun aQ=> ?_) (fun aQ=> ?_)))
 have av:eh (aW (r.getD 0 [])).1=false∨(aW (r.getD 0 [])).1= []:= .inr (List.eq_nil_of_length_eq_zero (by omega))
 refine sk rfl rfl rfl rfl (sk rfl rfl rfl rfl (p (bc rfl) (au ((aD _ _ (ct rfl (U (fun _ M=> ?_))))))))
 refine p (bV (ps:= []) (L:= [.string ⟨⟨[]⟩⟩,.slice none 0 0]) lh rfl (rfl)) (e (bY kj rfl rfl rfl rfl (hb32) (by simp) fun b0 ar aq=>aj (((M _ _ (rt (tr (dP rfl (c8 (cs:= [str [],.slice none 0 0]) rfl kf rfl (fun j s=>aq.cW j)) dF ?_))))))))
 exact ⟨.inr ⟨21,p4 hr1 G av,by decide,rfl⟩,hE32x.trans' ar (fun q a h=>by omega)⟩
 refine pg rfl rfl rfl mv (pg rfl rfl rfl (no rfl) (p (a6 rfl) (au ((aD _ _ (cb rfl (fun ax=> ?_) (fun ax=> ?_)))))))
 have av:eh (aW (r.getD 0 [])).1=false∨(aW (r.getD 0 [])).1= []:=by
  first
   | exact .inl (by simpa using ax)
   | exact .inr (List.eq_nil_of_length_eq_zero (by omega))
 refine U (fun _ M=>(p (bV (ps:= []) (L:= [.string ⟨⟨[]⟩⟩,.slice none 0 0]) lh rfl (rfl)) (e (bY kj rfl rfl rfl rfl (hb32) (by simp) fun b0 ar aq=>aj (((M _ _ (rt ?_))))))))
 exact tr (dP rfl (c8 (cs:= [str [],.slice none 0 0]) rfl kf rfl (fun j s=>aq.cW j)) dF (⟨.inr ⟨21,p4 hr1 G av,by decide,rfl⟩,hE32x.trans' ar (fun q a h=>by omega)⟩))
 have aa:(aW (r.getD 0 [])).1≠[]:=fun h=>aQ (by rw [h]; rfl)
 have hby:eh (aW (r.getD 0 [])).1=true :=by simpa using ax
 refine az (tn (ba _ _ (sq (fun _ M=>U (fun _ aT=>(p mv (p (bK u9 rfl rfl) (p (gt rfl rfl) ?_))))))))
 refine au ((aT _ _ (cd rfl (fun bO=> ?_) (fun bO=> ?_))))
 refine U (fun _ ai=>(p (bV (ps:= []) (L:= [.string ⟨⟨[]⟩⟩,.slice none 0 0]) lh rfl (rfl)) (e (bY kj rfl rfl rfl rfl (hb32) (by simp) fun ca bs bb=>aj (((ai _ _ (rt ?_))))))))
 exact tr (dP rfl (c8 (cs:= [str [],.slice none 0 0]) rfl kf rfl (fun j s=>bb.cW j)) dF (⟨.inr ⟨22,ym hr1 G hby aa (by omega),by decide,rfl⟩,hE32x.trans' bs (fun q a h=>by omega)⟩))
 refine az (tn (M _ _ (sq (fun _ ai=>U (fun _ aU=>(p mv (p (no rfl) (nl ?_))))))))
 refine tn (aU _ _ (cb rfl (fun Y=> ?_) (fun Y=> ?_)))
 refine U (fun _ al=>(p mv (p (bV (ps:= [(0,str (aW (r.getD 0 [])).1)]) (L:= [str (aW (r.getD 0 [])).1,.slice none 0 0]) lh rfl (rfl)) (e (bY kj rfl rfl rfl rfl (hb32) (by simp) fun wt12_2 bt bf=>aj (((al _ _ ?_))))))))
 exact rt (tr (dP rfl (c8 (cs:= [str (aW (r.getD 0 [])).1,.slice none 0 0]) rfl kf rfl (fun j s=>bf.cW j)) dF (⟨.inl ⟨_,.slice none 0 0,sI hr1 G hby aa (by omega) (by simpa using Y),rfl,rfl,uO _ _ _⟩,hE32x.trans' bt (fun q a h=>by omega)⟩)))
 refine az (tn (ai _ _ (U (fun _ al=>(ag (aI fb) (p mv (e (cl xx (zj B fb F V (aW (r.getD 0 [])).2.1 bZ (hF4.wk (I.trans hE32)).r aL.kd (by omega) (by omega)) rfl fun b7 w52 bI=> ?_))))))))
 obtain ⟨⟨b1,aF,rfl,b3,hcs⟩,hE52⟩:=bI
 have hE52x:=hE32x.trans hE52
 have hb52:=Wk.B hE52 hb32
 have hz52:=hE52.size
 refine p mv (p (xt rfl rfl) (p (xt rfl rfl) (p ak (aj (((al _ _ (sq (fun _ aX=> ?_)))))))))
 refine U (fun _ aY=>(p mv (p (bH rfl rfl) (au ((aY _ _ (cd rfl (fun aP=> ?_) (fun aP=> ?_))))))))
 have aB:aF≠0:=fun h0=>aP (by rw [h0]; rfl)
 rcases hcs with ⟨l,h,_⟩ | ⟨hne,Z⟩
 exact absurd h aB
 refine U (fun _ am=>(p (bV (ps:= []) (L:= [.string ⟨⟨[]⟩⟩,.slice none 0 0]) lh rfl (rfl)) (p mv (e (bY kj rfl rfl rfl rfl (hb52) (by simp) fun cc bv bh=>aj (((am _ _ ?_))))))))
 exact rt (tr (dP rfl (c8 (cs:= [str [],.slice none 0 0]) rfl kf rfl (fun j s=>bh.cW j)) dF (⟨.inr ⟨_,yn hr1 G hby aa (by omega) (by simpa using Y) Z,hne,rfl⟩,hE52x.trans' bv (fun q a h=>by omega)⟩)))
 have aB:aF=0:=by omega
 have hcs2:=hcs.resolve_right (fun h=>h.1 aB)
 obtain ⟨set,_,Z,ah⟩:=hcs2
 have hsx:=ah.slice
 obtain ⟨A,C,a⟩:=hsx
 subst a
 have hsl:=qc hnx.1 Z
 refine az (tn (aX _ _ (sq (fun _ am=>U (fun _ aZ=>(aj (((aZ _ _ ?_)))))))))
 refine aA (lp (fun aG J aC=> ∃ (j:Nat),(j≤set.length)∧(∀ q,q < j→dx F (set.getD q 0)=true)∧(Wk w52 aC)∧(J 0=aI fb)∧(J 4=aI aE)∧(J 6=str (aW (r.getD 0 [])).1)∧(J 11= .slice A set.length C)∧(J 12=ae j)∧(set.length - j=aG)) _ ⟨0,(by omega),((fun q a=>by omega)),(Md.refl _ _),rfl,rfl,rfl,rfl,rfl,rfl⟩ ?_)
 rintro aG J aC ⟨j,s,aO,E,bQ,bT,bW,bR,bS,rfl⟩
 refine fx 0 bQ (fx 4 bT (fx 6 bW (fx 11 bR (fx 12 bS (sq (fun _ a0=>U (fun _ a2=>(ag (ae j) (ag (.slice A set.length C) (p (bg u64 rfl rfl) (p (lt rfl rfl) ?_)))))))))))
 refine au ((a2 _ _ (cd rfl (fun bP=> ?_) (fun bP=> ?_))))
 refine az (tn (a0 _ _ (sq (fun _ an=>aA (U (fun _ a3=>(ag (aI fb) (ag (.slice A set.length C) ?_))))))))
 refine ag (ae j) (p (aJ lO rfl rfl (by omega) (aw.ok ((ah.wk E).bF.2) (bo (by omega)))) (p (ld bU rfl (aw.gP (ah.wk E).bF.2 (show (set.map bA)[j]? =some (bA (set.getD j 0)) by rw [List.getElem?_map,List.getD_eq_getElem?_getD,List.getElem?_eq_getElem (by omega :j < set.length)]; rfl))) ?_))
 refine e (cl Ed (Hh B fb F V (set.getD j 0) aC (aM.wk (hE52x.trans E)) (by omega)) rfl fun b8 b9 bJ=> ?_)
 obtain ⟨rfl,bq⟩:=bJ
 have hE70x:=E.trans bq
 have hz70:=hE70x.size
 refine aj (((a3 _ _ (U (fun _ a4=>(p mv (p (no rfl) (nl ?_))))))))
 refine tn (a4 _ _ (cb rfl (fun ay=> ?_) (fun ay=> ?_)))
 refine U (fun _ a5=>(p (bV (ps:= []) (L:= [.string ⟨⟨[]⟩⟩,.slice none 0 0]) lh rfl (rfl)) (e (bY kj rfl rfl rfl rfl (Wk.B hE70x hb52) (by simp) fun ce bw bi=>aj (((a5 _ _ (rt ?_))))))))
 exact br (tr (tr (br (tr (dP rfl (c8 (cs:= [str [],.slice none 0 0]) rfl kf rfl (fun j s=>bi.cW j)) dF (⟨.inr ⟨120,yo hr1 G hby aa (by omega) (by simpa using Y) Z (i:=j) (by omega) (by simpa using ay),by decide,rfl⟩,(hE52x.trans hE70x).trans' bw (fun q a h=>by omega)⟩))))))
 refine az (bn (tn (an _ _ (rg rfl (ag (ae j) (p (ad rfl rfl (bu (by omega))) (p ak (nl ?_))))))))
 exact tn (⟨_,by omega,j+1,(by omega),((fun q a=>by rcases Nat.lt_or_ge q j with h | h <;> first | exact aO q h | (rw [show q=j by omega]; simpa using ay))),hE70x,rfl,rfl,rfl,rfl,rfl,rfl⟩)
 refine ext (te _ (te _ (be (tn (am _ _ (U (fun _ an=>(ag (str (aW (r.getD 0 [])).1) ?_))))))))
 refine ag (.slice A set.length C) (p (bV (ps:= [(0,str (aW (r.getD 0 [])).1),(1,.slice A set.length C)]) (L:= [str (aW (r.getD 0 [])).1,.slice A set.length C]) lh rfl (rfl)) (e (bY kj rfl rfl rfl rfl (Wk.B E hb52) (by simp) fun cf aN bj=>aj (((an _ _ (rt (dP rfl (c8 (cs:= [str (aW (r.getD 0 [])).1,.slice A set.length C]) rfl kf rfl (fun j s=>bj.cW j)) dF ?_))))))))
 exact ⟨.inl ⟨((aW (r.getD 0 [])).1,set),.slice A set.length C,sJ hr1 G hby aa (by omega) (by simpa using Y) Z (fun j s=>aO j (by omega)),rfl,rfl,(ah.wk E).md aN (dM (Wk.aA ((I.trans (hE32.trans hE52)).trans E) aK) (by decide))⟩,(hE52x.trans E).trans' aN (fun q a h=>by omega)⟩
end Go.Hb.oX
end
section
set_option maxRecDepth 20000
set_option maxHeartbeats 1000000
namespace Go.Hb.vk
open Go.Hb.du
open Go.Proofs
open Go.Hb.kN Go.Hb.mV Go.Hb.o4 Go.Hb.ff Go.Hb.fM Go.Hb.fV Go.Hb.kH Go.Hb.hY Go.Hb.mW Go.Hb.gB Go.Hb.mj Go.Hb.gn Go.Hb.fP Go.Hb.kM Go.Hb.mg Go.Hb.mT Go.Hb.nO Go.Hb.oX
theorem zy {r:List Tx} (h:r.length≠1):g4 r=(0,111):=if_pos h
theorem HE {r:List Tx} (h:r.length=1):g4 r=cH (r.getD 0 []) 8192:=if_neg (fun h2=>h2 h)
theorem zg (B fb:Nat) (F:aH) (V:fj) (t:Tx) (w:World) (b5:dA w B 0 fb F V) (b3:∃ seen,j6 F [] seen) (hnx:Nx F) (hs:t.length≤1048576):
 aV Tryz.prog 14 (List.toArray [aI fb,str t]) w (iy F t w):=by
 refine enter Tryz.func14 rfl Tryz.ntmps14 rfl ?_
 refine U (fun _ bB=>(p ak (p ak (aj (((bB _ _ (sq (fun _ bO=> ?_)))))))))
 refine rg rfl (ag (str t) (e (cl xg (AU t _ hs) rfl fun cM w17 b6=> ?_)))
 obtain ⟨⟨cC,rfl,hcs⟩,hE17⟩:=b6
 refine p mv (p (xt rfl rfl) (p (xt rfl rfl) (p ak (aj (((bO _ _ (sq (fun _ bS=> ?_)))))))))
 refine U (fun _ bT=>(p mv (p (bH rfl rfl) (au ((bT _ _ (cd rfl (fun aO=> ?_) (fun aO=> ?_))))))))
 have a5:65536 < t.length:=Classical.byContradiction fun h=>aO (by rw [if_neg h])
 refine U (fun _ aC=>(p mv (p ak (p ak (aj (((aC _ _ ?_))))))))
 refine rt (tr (f3 rfl rfl rfl rfl ?_))
 have h:=iy.no (F:=F) (ya a5) hE17
 show iy F t w (.tuple #[.slice none 0 0,.int .i64 0,.int .i64 (if 65536 < t.length then 10 else 0)]) _
 rw [if_pos a5]
 exact h
 have ai:¬65536 < t.length:=fun h=>aO (by rw [if_pos h]; decide)
 rw [if_neg ai] at hcs
 obtain ⟨vs,bq,aR⟩:=hcs
 obtain ⟨ac,ah,rfl⟩:=b0 bq
 have hrl:=qO t
 have hCr0:=(aM bq).2
 have hvl:=aR.1
 refine az (tn (bS _ _ (U (fun _ aC=>(ag (str t) (e (cl r4 (ux t _ hs) rfl fun cN J b7=> ?_)))))))
 obtain ⟨cm,hE24⟩:=b7
 obtain ⟨bv,aU,rfl⟩:=b0 cm
 have hE24x:=hE17.trans hE24
 have hll:=jY t
 have hCr:=hCr0.wk hE24
 refine aj (((aC _ _ (sq (fun _ bV=>U (fun _ bW=>(p mv (p (bg ri rfl rfl) ?_))))))))
 refine p (bd rfl rfl) (au ((bW _ _ (cd rfl (fun aP=> ?_) (fun aP=> ?_)))))
 have hnil:bf t= []:=List.eq_nil_of_length_eq_zero (by omega)
 refine U (fun _ aD=>(p mv (p (bg dy rfl rfl) (p (ba (((a7 t).length+1:Nat):Int) rfl rfl (aQ (by omega) (by omega))) (p ak (p ak (p ak ?_)))))))
 exact au ((aD _ _ (rt (tr (f3 rfl rfl rfl rfl (iy.no (yb ai hnil) hE24x))))))
 obtain ⟨⟨ln0,s⟩,rest,hrw⟩:∃ q rest,bf t=q::rest:=by
  cases h:bf t with
  | nil=>rw [h] at aP; exact absurd rfl aP
  | cons q rest=>exact ⟨q,rest,rfl⟩
 have bt:(bf t)[0]? =some (ln0,s):=by rw [hrw]; rfl
 obtain ⟨bw,al⟩:∃ p,vs[0]? =some p:=⟨_,List.getElem?_eq_getElem (by omega)⟩
 obtain ⟨aF,aW⟩:=aR.2 0 bw (ln0,s) al bt
 obtain ⟨p1,cy⟩:=bw
 obtain rfl :ln0=p1:=aF.symm
 obtain ⟨aS,c0,hp2⟩:=aW.slice
 obtain rfl :cy= .slice aS s.length c0:=hp2
 have a4:Tg J w.heap.size 9 s.length (.slice aS s.length c0) (s.map str):=aW.wk hE24
 have bi:∀ q∈bf t,q.2.length≤70000∧∀ x∈q.2,x.length≤70000:=fun q bs=>by
  have h:=qP bs
  exact ⟨by omega,fun x cx=>by have :=(h.2.2.2.2 x cx).2; omega⟩
 have hm0:s.length≤70000∧∀ x∈s,x.length≤70000:=bi (ln0,s) (List.mem_of_getElem? bt)
 refine az (tn (bV _ _ (sq (fun _ aD=>U (fun _ bX=>(p mv (p (aJ jT rfl rfl (by omega) (aw.ok (hCr) (ir (by omega)))) (p (fa om rfl) ?_))))))))
 refine p (ld gi rfl (iu (i:=0) hCr al 1 (by decide))) (p (bg dy rfl rfl) (p (bH rfl rfl) (au ((bX _ _ (cd rfl (fun a6=> ?_) (fun a6=> ?_)))))))
 have bj:s.length≠1:=by omega
 obtain ⟨e36,bc,cc⟩:=sA (F:=F) ai hrw (by rw [zy bj]; decide)
 rw [zy bj] at bc
 obtain rfl :e36=111:=by have h:(111:Int)=e36:=bc; omega
 refine sq (fun _ aq=> ?_)
 have I:(fun w'=>Wk J w') J.drew:=(Md.refl _ _).drew
 refine bD (fun w'=>Wk J w') rfl wide I (aB 0 rfl (fun _ _=>mv) I (aB 1 rfl (fun _ _=>aJ jT rfl rfl (by omega) (aw.ok (hCr) (ir (by omega)))) I (aB 2 rfl (fun _ _=>fa ng rfl) I (aB 3 rfl (fun w' O=>ld bU rfl (Wk.aE O (iu (i:=0) hCr al 0 (by decide)))) I (aB 4 rfl (fun _ _=>ak) I (aB 5 rfl (fun _ _=>ak) I (aB 6 rfl (fun _ _=>ak) I ?_)))))))
 exact hn (by kernel_rfl) (tn (aq _ _ (rt (tr (f3 rfl rfl rfl rfl (iy.no cc (hE24x.trans I)))))))
 have hr1:s.length=1:=by have h:¬((s.length:Nat):Int)≠1:=a6; omega
 refine az (tn (aD _ _ (U (fun _ aq=>(p mv (p (aJ jT rfl rfl (by omega) (aw.ok (hCr) (ir (by omega)))) (p (fa om rfl) (p (ld gi rfl (iu (i:=0) hCr al 1 (by decide))) ?_))))))))
 refine p (aJ bC rfl rfl (by omega) (aw.ok (a4.bF.2) (bo (by omega)))) (p (ld bz rfl (bp.get (i:=0) a4.bF.2 (by omega))) (e (cl mu (mK (s.getD 0 []) 8192 J (by have :=hm0.2 _ (c5 (d:= []) (show 0 < s.length by omega)); omega) (by omega)) rfl fun cO w48 b8=> ?_)))
 obtain ⟨rfl,hE48⟩:=b8
 have hE48x:=hE24x.trans hE48
 have hnum:=HE (show s.length=1 by omega)
 refine p mv (p (xt rfl rfl) (p (xt rfl rfl) (p ak (aj (((aq _ _ (sq (fun _ bG=> ?_)))))))))
 refine U (fun _ bI=>(p mv (p (bH rfl rfl) (au ((bI _ _ (cd rfl (fun a8=> ?_) (fun a8=> ?_))))))))
 obtain ⟨cE,bh,aN⟩:=sA (F:=F) ai hrw (by rw [hnum]; exact a8)
 rw [hnum] at bh
 refine sq (fun _ ar=> ?_)
 have E:(fun w'=>Wk w48 w') w48.drew:=(Md.refl _ _).drew
 refine bD (fun w'=>Wk w48 w') rfl wide E (aB 0 rfl (fun _ _=>mv) E (aB 1 rfl (fun _ _=>aJ jT rfl rfl (by omega) (aw.ok ((hCr.wk hE48)) (ir (by omega)))) E (aB 2 rfl (fun _ _=>fa ng rfl) E (aB 3 rfl (fun w' O=>ld bU rfl (Wk.aE O (iu (i:=0) (hCr.wk hE48) al 0 (by decide)))) E (aB 4 rfl (fun _ _=>mv) E (aB 5 rfl (fun _ _=>ak) E (aB 6 rfl (fun _ _=>ak) E ?_)))))))
 refine aB 7 rfl (fun _ _=>ak) E (hn (by kernel_rfl) (tn (ar _ _ (rt (tr (f3 rfl rfl rfl rfl ?_))))))
 have h:=iy.no aN (hE48x.trans E)
 show iy F t w (.tuple #[.slice none 0 0,ae ln0,.int .i64 (cH (s.getD 0 []) 8192).2]) _
 rw [bh]
 exact h
 obtain ⟨n,hn0,cK,aN⟩:=x8 (F:=F) ai hrw (by rw [hnum]; omega)
 rw [hnum] at hn0
 have cb:fi F ((a7 t).length+1) (eN F t) [] (n - 0) ((bf t).drop (0 +1)):=by rw [aN,hrw]; exact fi.start
 obtain ⟨seen,b2⟩:=b3
 refine az (tn (bG _ _ (U (fun _ ar=>(aj (((ar _ _ (sq (fun _ bK=> ?_))))))))))
 refine U (fun _ bL=>(aj (((bL _ _ (aA (lp (fun aX Y wI=> ∃ (i:Nat) (xs:List c9) (vx:List Value) (M:Option Addr) (co:Nat),(i+1≤(bf t).length∧i≤n)∧(xs.length=i)∧(fi F ((a7 t).length+1) (eN F t) xs (n - i) ((bf t).drop (i+1)))∧(World.ownsRow wI J.heap.size 68 2 (.slice M xs.length co) xs.length (gE (xs.zip vx)))∧(eV wI 0 3 vx (xs.map (·.2)))∧(Wk J wI)∧(Y 0=aI fb)∧(Y 7= .slice ac (bf t).length ah)∧(Y 9= .slice bv (a7 t).length aU)∧(Y 10=ae n)∧(Y 11= .slice M xs.length co)∧(Y 12=ae (i+1))∧((bf t).length - i=aX)) _ ⟨0,[],[],none,0,(by omega),rfl,cb,(World.ownsRow_nil _ _ _ _),(eV.nil _ _ _),hE48,rfl,rfl,rfl,(by first | rfl | (rw [← hn0]; rfl)),rfl,rfl,rfl⟩ ?_)))))))
 rintro aX Y wI ⟨i,xs,vx,M,co,hi,hxl,G,a3,hal,A,cq,cu,cv,cr,cs,ct,rfl⟩
 refine fx 0 cq (fx 7 cu (fx 9 cv (fx 10 cr (fx 11 cs (fx 12 ct (sq (fun _ bM=>U (fun _ bN=>(ag (ae (i+1)) (ag (.slice ac (bf t).length ah) (p (bg ri rfl rfl) (p (lt rfl rfl) ?_))))))))))))
 refine au ((bN _ _ (cd rfl (fun cg=> ?_) (fun cg=> ?_))))
 refine az (tn (bM _ _ (sq (fun _ av=>aA (sq (fun _ ax=>sq (fun _ aa=> ?_)))))))
 obtain ⟨⟨ln,r⟩,hri⟩:∃ q,(bf t)[i+1]? =some q:=⟨_,List.getElem?_eq_getElem (by omega)⟩
 have cj:(bf t).drop (i+1)=(ln,r)::(bf t).drop (i+2):=by rw [List.drop_eq_getElem_cons (by omega)]; rw [List.getElem?_eq_getElem (by omega)] at hri; rw [Option.some.inj hri]
 obtain ⟨p,an⟩:∃ p,vs[i+1]? =some p:=⟨_,List.getElem?_eq_getElem (by omega)⟩
 obtain ⟨aF,am⟩:=aR.2 (i+1) p (ln,r) an hri
 obtain ⟨pn,cz⟩:=p
 obtain rfl :ln=pn:=aF.symm
 obtain ⟨a,c,cp⟩:=am.slice
 obtain rfl :cz= .slice a r.length c:=cp
 have am:Tg w17 w.heap.size 9 r.length (.slice a r.length c) (r.map str):=am
 have hmr:r.length≤70000∧∀ x∈r,x.length≤70000:=bi (ln,r) (List.mem_of_getElem? hri)
 rw [cj] at G
 refine rg rfl (ag (ae (i+1)) (ag (ae n) (p (gt rfl rfl) (au ((aa _ _ (cd rfl (fun ch=> ?_) (fun ch=> ?_))))))))
 refine sq (fun _ ay=> ?_)
 have hS17:(fun w'=>Wk wI w') wI.drew:=(Md.refl _ _).drew
 refine bD (fun w'=>Wk wI w') rfl wide hS17 (bl 0 rfl (.slice ac (bf t).length ah) hS17 (bl 1 rfl (ae (i+1)) hS17 (aB 2 rfl (fun _ _=>aJ jT rfl rfl (by omega) (aw.ok ((hCr.wk A)) (ir (by omega)))) hS17 (aB 3 rfl (fun _ _=>fa ng rfl) hS17 (aB 4 rfl (fun w' O=>ld bU rfl (Wk.aE O (iu (hCr.wk A) an 0 (by decide)))) hS17 (aB 5 rfl (fun _ _=>ak) hS17 (aB 6 rfl (fun _ _=>ak) hS17 ?_)))))))
 refine aB 7 rfl (fun _ _=>ak) hS17 (hn (by kernel_rfl) (tn (ay _ _ (rt (tr (br (tr (tr ?_))))))))
 refine br (tr (f3 rfl rfl rfl rfl ?_))
 rw [show n - i=0 by omega] at G
 exact iy.no G.more (hE24x.trans (A.trans hS17))
 refine az (tn (ax _ _ (U (fun _ ay=>(ag (aI fb) (ag (.slice ac (bf t).length ah) (ag (ae (i+1)) (p (aJ jT rfl rfl (by omega) (aw.ok ((hCr.wk A)) (ir (by omega)))) ?_))))))))
 refine p (fa om rfl) (p (ld gi rfl (iu (hCr.wk A) an 1 (by decide))) (e (cl DT (G0 B fb F V r w.heap.size a c wI (b5.wk (hE24x.trans A)) ⟨seen,b2⟩ hnx ((am.wk hE24).wk A) hmr.2 hmr.1) rfl fun cA w79 b9=> ?_)))
 obtain ⟨b4,a0⟩:=b9
 obtain ⟨Z,ab,bZ,rfl,bm,bb⟩:∃ (u:Tx) (a:Value) (e:Nat),cA= .tuple #[.agg [str u,a].toArray,ae e]∧a.oneCell'=true∧((e=0∧∃ l,ep F r= .ok (u,l)∧Tg w79 0 3 l.length a (l.map bA))∨(e≠0∧ep F r= .error e)):=by
  rcases b4 with ⟨x,a,h1,h2,h3,h4⟩ | ⟨e,h1,h2,h3⟩
  exact ⟨x.1,a,0,h2,h3,.inl ⟨rfl,x.2,h1,h4⟩⟩
  exact ⟨_,_,e,h3,rfl,.inr ⟨h2,h1⟩⟩
 have hz79:=a0.size
 refine p mv (p (xt rfl rfl) (p (xt rfl rfl) (e (fQ B8 fun aT w13 cF aL aY=> ?_))))
 have hz13:=aL.size
 refine e (gd kj rfl rfl rfl (rh bm) aY (by decide) fun w18 a1 hB18=> ?_)
 have aZ:Wk wI w18:=(a0.trans aL.md).trans' a1 (fun q bs h=>by omega)
 have cf:w18.heap[aT]? =some (.cells [str Z,ab].toArray 68 (0,0)):=hB18
 have hEc:=A.trans aZ
 refine aj (((ay _ _ (sq (fun _ bP=>U (fun _ bQ=>(p mv (p (bH rfl rfl) ?_))))))))
 refine au ((bQ _ _ (cd rfl (fun a9=> ?_) (fun a9=> ?_))))
 have hq83:=bb.resolve_left (fun h=>a9 (by rw [h.1]; rfl))
 obtain ⟨hne,hex⟩:=hq83
 refine sq (fun _ bR=> ?_)
 have C:(fun w'=>Wk w18 w') w18.drew:=(Md.refl _ _).drew
 refine bD (fun w'=>Wk w18 w') rfl wide C (bl 0 rfl (.slice ac (bf t).length ah) C (bl 1 rfl (ae (i+1)) C (aB 2 rfl (fun _ _=>aJ jT rfl rfl (by omega) (aw.ok ((hCr.wk hEc)) (ir (by omega)))) C (aB 3 rfl (fun _ _=>fa ng rfl) C (aB 4 rfl (fun w' O=>ld bU rfl (Wk.aE O (iu (hCr.wk hEc) an 0 (by decide)))) C (aB 5 rfl (fun _ _=>mv) C (aB 6 rfl (fun _ _=>ak) C ?_)))))))
 refine aB 7 rfl (fun _ _=>ak) C (aB 8 rfl (fun _ _=>ak) C (hn (by kernel_rfl) (tn (bR _ _ (rt (tr (br (tr ?_))))))))
 exact tr (br (tr (f3 rfl rfl rfl rfl (iy.no (G.bad (by omega) hex) (hE24x.trans (hEc.trans C))))))
 have ck:bZ=0:=by omega
 have hq83:=bb.resolve_right (fun h=>h.1 ck)
 obtain ⟨_,ao,hex,ca⟩:=hq83
 refine az (tn (bP _ _ (rg rfl (ag (.slice M xs.length co) (p (dm kf rfl (rfl) (show ∀ j,j < 2→Hb.aE w18.heap aT (0 +j)= [str Z,ab][j]? from fun j cJ=>bE.cW ⟨_,cf⟩ j)) (e (ic Bi rfl rfl rfl fun cD cP cG a2 b1=> ?_)))))))
 have hE92:=aZ.trans a2.md
 have ho92:=aG a3 hE92
 have hz92:=hE92.size
 refine e (ap Bi (ho92) rfl (by have :=A.size; omega) rfl (aw.cV b1) (rfl) (rh bm) (by omega) (by omega) fun cB bx cn aK cL cI=> ?_)
 have hE93:=Wk.own (A.trans hE92) ho92 aK (Nat.le_refl _)
 have bk:World.ownsRow bx J.heap.size 68 2 cB (xs++ [(Z,ao)]).length (gE ((xs++ [(Z,ao)]).zip (vx++ [ab]))):=by
  have hl:xs.length=vx.length:=by have :=hal.1; rw [List.length_map] at this; omega
  rw [List.zip_append hl,List.zip_cons_cons,List.zip_nil_right,yj,List.length_append]; exact cn
 have ce:eV bx 0 3 (vx++ [ab]) ((xs++ [(Z,ao)]).map (·.2)):=by
  rw [List.map_append]
  exact (((hal.wk hE92).md aK (eR ho92 (by decide))).snoc (((ca.wk aL.md).md a1 (dM aY (by decide))).wk a2.md |>.md aK (eR ho92 (by decide))))
 obtain ⟨bY,pJ,cw⟩:=b0 bk
 subst cw
 refine p ak (nl (bn (tn (av _ _ (rg rfl (ag (ae (i+1)) (p (ad rfl rfl (bu (by omega))) (p ak ?_))))))))
 exact au ((⟨_,by omega,i+1,xs++ [(Z,ao)],vx++ [ab],bY,pJ,(by omega),((by rw [List.length_append,hxl]; rfl)),((by rw [show n - (i+1)=n - i - 1 by omega]; exact G.step (by omega) hex)),bk,ce,hE93,rfl,rfl,rfl,(by first | rfl | (rw [← hn0]; rfl)),rfl,rfl,rfl⟩))
 refine ext (te _ (te _ (be (tn (bK _ _ (sq (fun _ av=>U (fun _ ax=> ?_))))))))
 refine ag (.slice M xs.length co) (p (bg uT rfl rfl) (ag (ae n) (p (lt rfl rfl) (au ((ax _ _ (cd rfl (fun ci=> ?_) (fun ci=> ?_))))))))
 refine U (fun _ aa=>(ag (.slice bv (a7 t).length aU) (p (bg dy rfl rfl) (p (ba (((a7 t).length+1:Nat):Int) rfl rfl (aQ (by omega) (by omega))) (p ak (p ak (p ak ?_)))))))
 refine au ((aa _ _ (rt (tr (f3 rfl rfl rfl rfl ?_)))))
 rw [List.drop_eq_nil_of_le (by omega)] at G
 exact iy.no (G.ends (by omega)) (hE24x.trans A)
 refine az (tn (av _ _ (U (fun _ aa=>(ag (.slice M xs.length co) (p (bJ (.slice M xs.length co) rfl) (p ak (p ak ?_))))))))
 refine au ((aa _ _ (rt (f3 rfl rfl rfl rfl ?_))))
 rw [List.drop_eq_nil_of_le (by omega),show n - i=0 by omega] at G
 have hX:=G.done
 unfold iy
 rw [hX]
 exact ⟨⟨_,rfl,⟨vx,ga a3 hE24x.size,hal⟩⟩,hE24x.trans A⟩
end Go.Hb.vk
end
section
set_option maxRecDepth 20000
set_option maxHeartbeats 1000000
namespace Go.Hb.rB
open Go.Proofs
open Go.Hb.fV Go.Hb.iw Go.Hb.hY Go.Hb.ma
def Ny (F:aH):Prop := ∀ l∈F.aliases,∀ x∈l,x < 65536
theorem za {kind:Nat} {s:Tx} {l:List Nat} (h:iM kind s= .ok l):∀ x∈l,x < 65536:=by
 unfold iM at h
 split at h
 · cases h
 · cases h
   intro x a
   unfold cU at a
   repeat' split at a
   all_goals first
    | (cases a; done)
    | (rw [Am] at a
       obtain ⟨y,_,rfl⟩:=List.mem_map.1 a
       exact yJ _ _)
theorem Cx {kind ln:Nat} {row:List Tx} {l:List Nat} (h:gO kind ln row= .ok l):∀ x∈l,x < 65536:=by
 unfold gO at h
 split at h
 · cases h
 · exact za h
theorem Gx {kind:Nat} {al:List (List Nat)} {s:Tx} {l:List Nat} (hal:∀ l∈al,∀ x∈l,x < 65536) (h:ec kind al s= .ok l):∀ x∈l,x < 65536:=by
 unfold ec at h
 split at h
 · exact za h
 · split at h
   · cases h
   · split at h
     · cases h
     · cases h
       rename_i n _ _
       rw [List.getD_eq_getElem?_getD]
       cases hg:al[n - 1]? with
       | none=>simp
       | some y=>exact hal y (List.mem_of_getElem? hg)
theorem HI {eof ln:Nat} {F F':aH} {hs:List Tx} {rows rows':List Rw} {row:List Tx} (h:Ny F) (a:bw eof F hs rows ln row= .ok (F',rows')):Ny F':=by
 unfold bw at a
 repeat' split at a
 · unfold gL at a; repeat' split at a
   all_goals first | (cases a; done) | (cases a; exact h)
 · unfold gR at a; repeat' split at a
   all_goals first | (cases a; done) | (cases a; exact h)
 · unfold jG at a; repeat' split at a
   all_goals first | (cases a; done) | (cases a; exact h)
 · unfold jK at a; repeat' split at a
   all_goals first | (cases a; done) | (cases a; exact h)
 · unfold g7 at a; repeat' split at a
   all_goals first | (cases a; done) | (cases a; exact h)
 · unfold gJ at a; repeat' split at a
   all_goals first | (cases a; done) | (cases a; exact h)
 · unfold gp at a
   split at a
   · cases a
   · split at a
     · cases a
     · split at a
       · cases a
       · rename_i r hg
         cases a
         intro l hl
         rcases List.mem_append.1 hl with hl | hl
         · exact h l hl
         · obtain ⟨_,_,h2⟩:=tt _ _ _ hg l hl
           exact Cx h2
 · unfold eM at a; repeat' split at a
   all_goals first | (cases a; done) | (cases a; exact h)
theorem JR {eof:Nat} :∀ (k:Nat) (F F':aH) (hs:List Tx) (rows:List Rw),Ny F→eG eof k F hs rows= .ok F'→Ny F':=by
 intro k
 induction k with
 | zero=>intro F F' hs rows h a; rw [eG] at a; split at a <;> cases a; exact h
 | succ k ih=>
   intro F F' hs rows h a
   cases rows with
   | nil=>rw [ny] at a; cases a; exact h
   | cons q rows=>
     rw [eG] at a
     split at a
     · cases a
     · split at a
       · cases a
       · split at a
         · cases a
         · split at a
           · cases a
           · rename_i r hr
             exact ih _ _ _ _ (HI (rows':=r.2) h hr) a
theorem Ct {s:Tx} {F:aH} (h:eL s= .ok F):Ny F:=by
 unfold eL at h
 split at h
 · cases h
 · split at h
   · cases h
   · rename_i f hf
     split at h
     · cases h
     · cases h
       exact JR _ _ _ _ _ (fun l hl=>by cases hl) hf
def mU (x:c9):Prop :=x.1.length≤64∧x.2.length≤64∧(∀ y∈x.2,y < 65536)
theorem pZ {F:aH} {row:List Tx} {x:c9} (h1:Nx F) (h2:Ny F) (h:ep F row= .ok x):mU x:=by
 unfold ep at h
 split at h
 · cases h
 · split at h
   · cases h
   · split at h
     · cases h
     · split at h
       · cases h
       · split at h
         · cases h; exact ⟨by simp only; omega,by simp,fun y hy=>by cases hy⟩
         · split at h
           · cases h
           · rename_i hf
             split at h
             · cases h
               exact ⟨by simp only; omega,qc h1.1 hf,Gx h2 hf⟩
             · cases h
theorem F4 {F:aH} {eof:Nat} (h1:Nx F) (h2:Ny F):∀ {n:Nat} {rows:List Rw} {r:List c9},ei F eof n rows= .ok r→∀ x∈r,mU x:=by
 intro n
 induction n with
 | zero=>
   intro rows r h
   cases rows with
   | nil=>rw [ei] at h; cases h; intro x a; cases a
   | cons q rows=>rw [ei] at h; cases h
 | succ n ih=>
   intro rows r h
   cases rows with
   | nil=>rw [ei] at h; cases h
   | cons q rows=>
     rw [ei] at h
     split at h
     · cases h
     · rename_i he
       split at h
       · cases h
       · rename_i hr
         cases h
         intro x a
         rcases List.mem_cons.1 a with rfl | a
         · exact pZ h1 h2 he
         · exact ih hr x a
theorem FP {F:aH} {t:Tx} {xs:List c9} (h1:Nx F) (h2:Ny F) (h:eN F t= .ok xs):(∀ x∈xs,mU x)∧xs.length≤8192:=by
 unfold eN at h
 split at h
 · cases h
 · split at h
   · cases h
   · split at h
     · cases h
     · split at h
       · cases h
       · rename_i hn
         refine ⟨F4 h1 h2 h,?_⟩
         have hl:=(F5 h).1
         unfold dz at hn
         split at hn
         · cases hn
         · cases hn
           rename_i h0
           have :=lZ _ 8192 (Classical.not_not.1 h0)
           omega
theorem lQ {F:aH} {s:Tx} {e:Nat} (h:eE F s= .error e):e≠0:=by
 unfold eE at h; repeat' split at h
 all_goals first | (cases h; done) | (cases h; decide) | (cases h; assumption)
theorem y9 {k:Nat} {s:Tx} {e:Nat} (h:iM k s= .error e):e≠0:=by
 unfold iM at h; repeat' split at h
 all_goals first | (cases h; done) | (cases h; assumption)
theorem k9 {s:Tx} {m:Int} {e:Nat} (h:dz s m= .error e):e≠0:=by
 unfold dz at h; repeat' split at h
 all_goals first | (cases h; done) | (cases h; decide)
theorem yO {k:Nat} {al:List (List Nat)} {s:Tx} {e:Nat} (h:ec k al s= .error e):e≠0:=by
 unfold ec at h; repeat' split at h
 all_goals first | exact y9 h | (cases h; done) | (cases h; decide)
theorem Ay {b:Bool} {s:Tx} {e:Nat} (h:dq b s= .error e):e≠0:=by
 unfold dq at h; repeat' split at h
 all_goals first | (cases h; done) | (cases h; decide) | (cases h; assumption)
theorem Cp {r:iz} {e:Nat} (h:gN r= .error e):e≠0:=by
 unfold gN at h; repeat' split at h
 all_goals first | (cases h; done) | (cases h; assumption)
theorem I3 {k a:Nat} {al:List (List Nat)} {r:iz} {e:Nat} (h:g8 k al a r= .error e):e≠0:=by
 unfold g8 at h; repeat' split at h
 all_goals first | exact yO h | (cases h; done) | (cases h; decide)
theorem E2 {r:List Tx} {e:Nat} (h:ig r= .error e):e≠0:=by
 unfold ig at h; repeat' split at h
 all_goals first | (cases h; done) | (cases h; decide) | (cases h; assumption)
theorem l5 {k ln:Nat} {al:List (List Nat)} {c:bW} {r:List Tx} {e:Nat} (h:eB k al c ln r= .error e):e≠0:=by
 unfold eB at h; repeat' split at h
 all_goals first
  | (cases h; done)
  | (cases h; decide)
  | (cases h; exact Ay (by assumption))
  | (cases h; exact Cp (by assumption))
  | (cases h; exact I3 (by assumption))
  | (cases h; exact E2 (by assumption))
theorem l3 {ln:Nat} {r:List Tx} {e:Nat} (h:gI ln r= .error e):e≠0:=by
 unfold gI at h; repeat' split at h
 all_goals first
  | (cases h; done)
  | (cases h; decide)
  | (cases h; exact Ay (by assumption))
theorem lF {k ln:Nat} {r:List Tx} {e:Nat} (h:gO k ln r= .error e):e≠0:=by
 unfold gO at h; repeat' split at h
 all_goals first | exact y9 h | (cases h; decide)
theorem fy {α:Type} {hd:List Tx} {rd:Nat→List Tx→Except Nat α} {eof:Nat} (hr:∀ l r e,rd l r= .error e→e≠0):∀ {n:Nat} {rows:List Rw} {l e:Nat},group hd rd eof n rows= .error (l,e)→e≠0:=by
 intro n
 induction n with
 | zero=>intro rows l e h; rw [group] at h; cases h
 | succ n ih=>
   intro rows l e h
   cases rows with
   | nil=>rw [group] at h; cases h; decide
   | cons q rows=>
     rw [group] at h
     split at h
     · cases h; decide
     · split at h
       · rename_i he; cases h; exact hr _ _ _ he
       · split at h
         · rename_i he; cases h; exact ih he
         · cases h
theorem HH {eof ln l e:Nat} {F:aH} {hs:List Tx} {rows:List Rw} {row:List Tx} (h:bw eof F hs rows ln row= .error (l,e)):e≠0:=by
 unfold bw at h
 repeat' split at h
 · unfold gL at h; repeat' split at h
   all_goals first
    | (cases h; done)
    | (cases h; decide)
    | (cases h; assumption)
    | (cases h; exact lQ (by assumption))
    | (cases h; exact k9 (by assumption))
    | (cases h; exact fy (fun _ _ _ h=>l3 h) (by assumption))
    | (cases h; exact fy (fun _ _ _ h=>lF h) (by assumption))
    | (cases h; exact fy (fun _ _ _ h=>l5 h) (by assumption))
 · unfold gR at h; repeat' split at h
   all_goals first
    | (cases h; done)
    | (cases h; decide)
    | (cases h; assumption)
    | (cases h; exact lQ (by assumption))
    | (cases h; exact k9 (by assumption))
    | (cases h; exact fy (fun _ _ _ h=>l3 h) (by assumption))
    | (cases h; exact fy (fun _ _ _ h=>lF h) (by assumption))
    | (cases h; exact fy (fun _ _ _ h=>l5 h) (by assumption))
 · unfold jG at h; repeat' split at h
   all_goals first
    | (cases h; done)
    | (cases h; decide)
    | (cases h; assumption)
    | (cases h; exact lQ (by assumption))
    | (cases h; exact k9 (by assumption))
    | (cases h; exact fy (fun _ _ _ h=>l3 h) (by assumption))
    | (cases h; exact fy (fun _ _ _ h=>lF h) (by assumption))
    | (cases h; exact fy (fun _ _ _ h=>l5 h) (by assumption))
 · unfold jK at h; repeat' split at h
   all_goals first
    | (cases h; done)
    | (cases h; decide)
    | (cases h; assumption)
    | (cases h; exact lQ (by assumption))
    | (cases h; exact k9 (by assumption))
    | (cases h; exact fy (fun _ _ _ h=>l3 h) (by assumption))
    | (cases h; exact fy (fun _ _ _ h=>lF h) (by assumption))
    | (cases h; exact fy (fun _ _ _ h=>l5 h) (by assumption))
 · unfold g7 at h; repeat' split at h
   all_goals first
    | (cases h; done)
    | (cases h; decide)
    | (cases h; assumption)
    | (cases h; exact lQ (by assumption))
    | (cases h; exact k9 (by assumption))
    | (cases h; exact fy (fun _ _ _ h=>l3 h) (by assumption))
    | (cases h; exact fy (fun _ _ _ h=>lF h) (by assumption))
    | (cases h; exact fy (fun _ _ _ h=>l5 h) (by assumption))
 · unfold gJ at h; repeat' split at h
   all_goals first
    | (cases h; done)
    | (cases h; decide)
    | (cases h; assumption)
    | (cases h; exact lQ (by assumption))
    | (cases h; exact k9 (by assumption))
    | (cases h; exact fy (fun _ _ _ h=>l3 h) (by assumption))
    | (cases h; exact fy (fun _ _ _ h=>lF h) (by assumption))
    | (cases h; exact fy (fun _ _ _ h=>l5 h) (by assumption))
 · unfold gp at h; repeat' split at h
   all_goals first
    | (cases h; done)
    | (cases h; decide)
    | (cases h; assumption)
    | (cases h; exact lQ (by assumption))
    | (cases h; exact k9 (by assumption))
    | (cases h; exact fy (fun _ _ _ h=>l3 h) (by assumption))
    | (cases h; exact fy (fun _ _ _ h=>lF h) (by assumption))
    | (cases h; exact fy (fun _ _ _ h=>l5 h) (by assumption))
 · unfold eM at h; repeat' split at h
   all_goals first
    | (cases h; done)
    | (cases h; decide)
    | (cases h; assumption)
    | (cases h; exact lQ (by assumption))
    | (cases h; exact k9 (by assumption))
    | (cases h; exact fy (fun _ _ _ h=>l3 h) (by assumption))
    | (cases h; exact fy (fun _ _ _ h=>lF h) (by assumption))
    | (cases h; exact fy (fun _ _ _ h=>l5 h) (by assumption))
theorem JQ {eof:Nat} :∀ (k:Nat) (F:aH) (hs:List Tx) (rows:List Rw) (l e:Nat),rows.length≤k→eG eof k F hs rows= .error (l,e)→e≠0:=by
 intro k
 induction k with
 | zero=>
   intro F hs rows l e hk a
   obtain rfl :=List.eq_nil_of_length_eq_zero (Nat.le_zero.1 hk)
   rw [ny] at a; cases a
 | succ k ih=>
   intro F hs rows l e hk a
   cases rows with
   | nil=>rw [ny] at a; cases a
   | cons q rows=>
     rw [eG] at a
     split at a
     · cases a; decide
     · split at a
       · cases a; decide
       · split at a
         · cases a; decide
         · split at a
           · rename_i he; cases a; exact HH he
           · rename_i r hr
             have h1:=lT (rows':=r.2) hr
             simp only [List.length_cons] at hk
             exact ih _ _ _ _ _ (by omega) a
theorem vE {s:Tx} {l e:Nat} (h:eL s= .error (l,e)):e≠0:=by
 unfold eL at h
 split at h
 · cases h; decide
 · split at h
   · rename_i he; cases h; exact JQ _ _ _ _ _ _ (Nat.le_refl _) he
   · split at h
     · cases h; decide
     · cases h
theorem FY {F:aH} {row:List Tx} {e:Nat} (h:ep F row= .error e):e≠0:=by
 unfold ep at h
 repeat' split at h
 all_goals first
  | (cases h; done)
  | (cases h; decide)
  | (cases h; assumption)
  | (cases h; exact yO (by assumption))
theorem F6 {F:aH} {eof l e:Nat} :∀ {n:Nat} {rows:List Rw},ei F eof n rows= .error (l,e)→e≠0:=by
 intro n
 induction n with
 | zero=>
   intro rows h
   cases rows with
   | nil=>rw [ei] at h; cases h
   | cons q rows=>rw [ei] at h; cases h; decide
 | succ n ih=>
   intro rows h
   cases rows with
   | nil=>rw [ei] at h; cases h; decide
   | cons q rows=>
     rw [ei] at h
     split at h
     · rename_i he; cases h; exact FY he
     · split at h
       · rename_i he; cases h; exact ih he
       · cases h
theorem FR {F:aH} {t:Tx} {l e:Nat} (h:eN F t= .error (l,e)):e≠0:=by
 unfold eN at h
 split at h
 · cases h; decide
 · split at h
   · cases h; decide
   · split at h
     · cases h; decide
     · split at h
       · rename_i he; cases h; exact k9 he
       · exact F6 h
end Go.Hb.rB
end
section
set_option maxRecDepth 20000
set_option maxHeartbeats 1000000
namespace Go.Hb.vl
open Go.Hb.du
open Go.Proofs
open Go.Hb.ff Go.Hb.fM Go.Hb.fV Go.Hb.kH Go.Hb.hY Go.Hb.ma Go.Hb.h8 Go.Hb.kM Go.Hb.mg Go.Hb.mT Go.Hb.nO Go.Hb.oX Go.Hb.rB Go.Hb.kN
theorem yq (a b c i j c':Int) (w:World):(binOp .eql 25 (.agg [.int .i64 a,.int .i64 b,.int .i64 c].toArray) (.agg [.int .i64 i,.int .i64 j,.int .i64 c'].toArray)).run Tryz.prog w= .ok (.bool (decide (a=i∧b=j∧c=c'))) w:=by
 have u1:=Tryz.underlying3
 have u2:=Tryz.underlying3
 have u3:=Tryz.underlying23
 have p:Tryz.prog.underlying 25=some (.struct (Tryz.prog.fieldsOf 25)):=by kernel_rfl
 have hp:Tryz.prog.stoodInHeld 25=false :=by kernel_rfl
 rw [run_eql_struct,show (10000:Nat)=9999 +1 from rfl,run_equalIn_agg w 9999 25 _ _ p hp]
 simp only [Program.fieldsOf,Tryz.underlying25]
 go_simp
 by_cases h1:a=i <;> by_cases h2:b=j <;> by_cases h3:c=c' <;> simp [h1,h2,h3]
section
variable {N:Fm} {σ:Nat→Value} {w:World} {dst:Option Nat} {ty:TypeId} {pos :String} {af:Array Edge} {g:Option (Nat×Bool)} {x y:Operand}
theorem sK {q:TypeId} {a b c i j c':Int} (p:ev N σ x= .agg [.int .i64 a,.int .i64 b,.int .i64 c].toArray) (hy:ev N σ y= .agg [.int .i64 i,.int .i64 j,.int .i64 c'].toArray):
 (execOp (ev N σ) ⟨dst,.binOp .eql 25 x y q,ty,pos,af,g⟩).run Tryz.prog w= .ok (.value (.bool (decide (a=i∧b=j∧c=c')))) w:=by
 have hm:Tryz.prog.eqGuardType Tryz.prog.depth 25=false :=by kernel_rfl
 have hg:=run_eqGuard_agg w .eql 25 x y [.int .i64 a,.int .i64 b,.int .i64 c].toArray [.int .i64 i,.int .i64 j,.int .i64 c'].toArray hm
 have he:=yq a b c i j c' w
 simp only [execOp,p,hy,Sem.run_bind,hg,he,Result.andThen_ok,Sem.run_pure]
theorem I0 {s:TypeId} {a b c i j c':Int} (p:ev N σ x= .agg [.int .i64 a,.int .i64 b,.int .i64 c].toArray) (hy:ev N σ y= .agg [.int .i64 i,.int .i64 j,.int .i64 c'].toArray):
 (execOp (ev N σ) ⟨dst,.binOp .neq 25 x y s,ty,pos,af,g⟩).run Tryz.prog w= .ok (.value (.bool (decide (¬(a=i∧b=j∧c=c'))))) w:=by
 have hm:Tryz.prog.eqGuardType Tryz.prog.depth 25=false :=by kernel_rfl
 have hg:=run_eqGuard_agg w .neq 25 x y [.int .i64 a,.int .i64 b,.int .i64 c].toArray [.int .i64 i,.int .i64 j,.int .i64 c'].toArray hm
 have he:(binOp .neq 25 (.agg [.int .i64 a,.int .i64 b,.int .i64 c].toArray) (.agg [.int .i64 i,.int .i64 j,.int .i64 c'].toArray)).run Tryz.prog w= .ok (.bool (decide (¬(a=i∧b=j∧c=c')))) w:=by
  have h:=yq a b c i j c' w
  simp only [binOp,Sem.run_bind] at h ⊢
  generalize ((Op.equal 25 (.agg [.int .i64 a,.int .i64 b,.int .i64 c].toArray) (.agg [.int .i64 i,.int .i64 j,.int .i64 c'].toArray)).run Tryz.prog w)=r at h ⊢
  cases r with
  | ok q A=>
    simp only [Result.andThen_ok,Sem.run_pure,Result.ok.injEq,Value.bool.injEq] at h ⊢
    rw [h.1]
    exact ⟨(decide_not).symm,h.2⟩
  | halt q A=>simp [Result.andThen] at h
 simp only [execOp,p,hy,Sem.run_bind,hg,he,Result.andThen_ok,Sem.run_pure]
end
theorem Gw (a b:Option Addr) (c d:Nat) (l:List Nat) (w:World) (G:aw w.heap a (l.map aO)) (hB:aw w.heap b (l.map bA)) (hl:l.length≤1048576) (hb:∀ x∈l,x < 65536):
 aV Tryz.prog 47 (List.toArray [.slice a l.length c,.slice b l.length d]) w (fun v w'=>v= .bool true∧Wk w w'):=by
 refine enter Tryz.func47 rfl Tryz.ntmps47 rfl ?_
 refine U (fun _ I=>(aj (((I _ _ (sq (fun _ M=>U (fun _ O=> ?_))))))))
 refine ag (.slice a l.length c) (p (bg jL rfl rfl) (ag (.slice b l.length d) (p (bg u64 rfl rfl) (p (bH rfl rfl) (au ((O _ _ (cd rfl (fun h=>absurd h (fun h=>h rfl)) (fun hc10=> ?_)))))))))
 refine az (tn (M _ _ (sq (fun _ V=>U (fun _ Y=>(ag (.slice a l.length c) (p (bg jL rfl rfl) (p mv ?_))))))))
 refine au ((Y _ _ (aA (lp (fun E s wI=> ∃ (i:Nat),(i≤l.length)∧(Wk w wI)∧(s 0= .slice a l.length c)∧(s 1= .slice b l.length d)∧(s 12=ae (l.length))∧(s 13=ae i)∧(l.length - i=E)) _ ⟨0,(by omega),(Md.refl _ _),rfl,rfl,rfl,rfl,rfl⟩ ?_))))
 rintro E s wI ⟨i,hi,q,ah,ai,al,am,rfl⟩
 refine fx 0 ah (fx 1 ai (fx 12 al (fx 13 am (U (fun _ Z=>(p (lt rfl rfl) (au ((Z _ _ (sq (fun _ aa=>cd rfl (fun ac=> ?_) (fun ac=> ?_))))))))))))
 refine az (tn (aa _ _ (sq (fun _ A=>aA (U (fun _ ab=>(ag (ae i) (p (bJ (ae i) rfl) ?_))))))))
 refine au ((ab _ _ (sq (fun _ J=> ?_))))
 have hbi:=hb _ (c5 (d:=0) (show i < l.length by omega))
 have j:(fun w'=>Wk wI w') wI.drew:=(Md.refl _ _).drew
 refine bD (fun w'=>Wk wI w') rfl wide j (bl 0 rfl (.slice a l.length c) j (bl 1 rfl (ae i) j (aB 2 rfl (fun _ _=>aJ bj rfl rfl (by omega) (aw.ok (G.wk q) (bo (by omega)))) j (aB 3 rfl (fun w' C=>ld bL rfl (Wk.aE C (aw.gP (G.wk q) (show (l.map aO)[i]? =some (aO (l.getD i 0)) by rw [List.getElem?_map,List.getD_eq_getElem?_getD,List.getElem?_eq_getElem (by omega :i < l.length)]; rfl)))) j ?_))))
 refine aB 4 rfl (fun _ _=>n8 u3 LO rfl (bu (by omega))) j (bl 5 rfl (.slice b l.length d) j (bl 6 rfl (ae i) j (aB 7 rfl (fun _ _=>aJ lO rfl rfl (by omega) (aw.ok (hB.wk q) (bo (by omega)))) j (aB 8 rfl (fun w' C=>ld bU rfl (Wk.aE C (aw.gP (hB.wk q) (show (l.map bA)[i]? =some (bA (l.getD i 0)) by rw [List.getElem?_map,List.getD_eq_getElem?_getD,List.getElem?_eq_getElem (by omega :i < l.length)]; rfl)))) j ?_))))
 refine aB 9 rfl (fun _ _=>bH rfl rfl) j (hn (by kernel_rfl) (tn (J _ _ (cd rfl (fun h=>absurd h (fun h=>h rfl)) (fun an=> ?_)))))
 refine az (bn (tn (A _ _ (rg rfl (p (ad rfl rfl (bu (by omega))) (p mv (nl (tn ?_))))))))
 exact ⟨_,by omega,i+1,(by omega),(q.trans j),rfl,rfl,rfl,rfl,rfl⟩
 refine ext (te _ (te _ (be (tn (V _ _ (U (fun _ A=>(p ak ?_))))))))
 exact au ((A _ _ (rt (f1 rfl rfl (⟨rfl,q⟩)))))
theorem Kx (a b:Option Addr) (c d B al:Nat) (xs:List c9) (O V:List Value) (w:World) (C:aw w.heap a (gE (xs.zip O))) (hB:aw w.heap b (gE (xs.zip V))) (aD:cX w B 71 O (xs.map (·.2))) (aF:eV w al 3 V (xs.map (·.2))) (aT:xs.length≤70000) (hb:∀ x∈xs,mU x):
 aV Tryz.prog 15 (List.toArray [.slice a xs.length c,.slice b xs.length d]) w (fun v w'=>v= .bool true∧Wk w w'):=by
 refine enter Tryz.func15 rfl Tryz.ntmps15 rfl ?_
 refine U (fun _ am=>(aj (((am _ _ (sq (fun _ ao=>U (fun _ ap=> ?_))))))))
 refine ag (.slice a xs.length c) (p (bg mM rfl rfl) (ag (.slice b xs.length d) (p (bg uT rfl rfl) (p (bH rfl rfl) (au ((ap _ _ (cd rfl (fun h=>absurd h (fun h=>h rfl)) (fun hc10=> ?_)))))))))
 refine az (tn (ao _ _ (sq (fun _ aq=>U (fun _ ar=>(ag (.slice a xs.length c) (p (bg mM rfl rfl) (p mv ?_))))))))
 refine au ((ar _ _ (aA (lp (fun ab A wI=> ∃ (i:Nat),(i≤xs.length)∧(Wk w wI)∧(A 0= .slice a xs.length c)∧(A 1= .slice b xs.length d)∧(A 12=ae (xs.length))∧(A 13=ae i)∧(xs.length - i=ab)) _ ⟨0,(by omega),(Md.refl _ _),rfl,rfl,rfl,rfl,rfl⟩ ?_))))
 rintro ab A wI ⟨i,hi,q,aI,aK,aL,aM,rfl⟩
 refine fx 0 aI (fx 1 aK (fx 12 aL (fx 13 aM (U (fun _ av=>(p (lt rfl rfl) (au ((av _ _ (sq (fun _ ax=>cd rfl (fun aH=> ?_) (fun aH=> ?_))))))))))))
 refine az (tn (ax _ _ (sq (fun _ J=>aA (U (fun _ ay=>(ag (ae i) (p (bJ (ae i) rfl) ?_))))))))
 refine au ((ay _ _ (sq (fun _ an=> ?_))))
 obtain ⟨x,I⟩:∃ x,xs[i]? =some x:=⟨_,List.getElem?_eq_getElem (by omega)⟩
 obtain ⟨aU,aN,ah⟩:=cX.get aD (show i < (xs.map (·.2)).length by rw [List.length_map]; omega)
 obtain ⟨aW,aP,ai⟩:=eV.get aF (show i < (xs.map (·.2)).length by rw [List.length_map]; omega)
 have hsa:=ah.slice
 have hsb:=ai.slice
 obtain ⟨Y,aa,aO⟩:=hsa
 obtain ⟨Z,cb,aQ⟩:=hsb
 subst aO aQ
 have E:(xs.zip O)[i]? =some (x,.slice Y ((xs.map (·.2)).getD i []).length aa):=List.getElem?_zip_eq_some.2 ⟨I,aN⟩
 have G:(xs.zip V)[i]? =some (x,.slice Z ((xs.map (·.2)).getD i []).length cb):=List.getElem?_zip_eq_some.2 ⟨I,aP⟩
 have aR:(xs.map (·.2)).getD i []=x.2:=by rw [List.getD_eq_getElem?_getD,List.getElem?_map,I]; rfl
 have hxb:=hb x (List.mem_of_getElem? I)
 unfold mU at hxb
 rw [← aR] at hxb
 have j:(fun w'=>Wk wI w') wI.drew:=(Md.refl _ _).drew
 refine bD (fun w'=>Wk wI w') rfl wide j (bl 0 rfl (.slice a xs.length c) j (bl 1 rfl (ae i) j (aB 2 rfl (fun _ _=>aJ lN rfl rfl (by omega) (aw.ok (C.wk q) (km E))) j (aB 3 rfl (fun _ _=>fa oo rfl) j (aB 4 rfl (fun w' s=>ld bz rfl (Wk.aE s (fS (f:=iJ) (m:=2) (fun _=>rfl) (C.wk q) E 0 (by decide)))) j (bl 5 rfl (.slice b xs.length d) j (bl 6 rfl (ae i) j ?_)))))))
 refine aB 7 rfl (fun _ _=>aJ yu rfl rfl (by omega) (aw.ok (hB.wk q) (km G))) j (aB 8 rfl (fun _ _=>fa GM rfl) j (aB 9 rfl (fun w' s=>ld bz rfl (Wk.aE s (fS (f:=iJ) (m:=2) (fun _=>rfl) (hB.wk q) G 0 (by decide)))) j (aB 10 rfl (fun _ _=>jZ rfl rfl) j (aB 11 rfl (fun _ _=>mv) j (iN (t:=27) rfl (fun h=>absurd h (fun h=>h rfl)) (fun aS=> ?_))))))
 refine a8 12 rfl (by kernel_rfl) rfl rfl rfl (fun _ _=>aC (.slice a xs.length c) rfl) j (a8 13 rfl (by kernel_rfl) rfl rfl rfl (fun _ _=>aC (ae i) rfl) j (a8 14 rfl (by kernel_rfl) rfl rfl rfl (fun _ _=>aJ lN rfl rfl (by omega) (aw.ok (C.wk q) (km E))) j (a8 15 rfl (by kernel_rfl) rfl rfl rfl (fun _ _=>fa oq rfl) j (a8 16 rfl (by kernel_rfl) rfl rfl rfl (fun w' s=>ld lE rfl (Wk.aE s (fS (f:=iJ) (m:=2) (fun _=>rfl) (C.wk q) E 1 (by decide)))) j (a8 17 rfl (by kernel_rfl) rfl rfl rfl (fun _ _=>aC (.slice b xs.length d) rfl) j (a8 18 rfl (by kernel_rfl) rfl rfl rfl (fun _ _=>aC (ae i) rfl) j (a8 19 rfl (by kernel_rfl) rfl rfl rfl (fun _ _=>aJ yu rfl rfl (by omega) (aw.ok (hB.wk q) (km G))) j ?_)))))))
 refine a8 20 rfl (by kernel_rfl) rfl rfl rfl (fun _ _=>fa GN rfl) j (a8 21 rfl (by kernel_rfl) rfl rfl rfl (fun w' s=>ld mZ rfl (Wk.aE s (fS (f:=iJ) (m:=2) (fun _=>rfl) (hB.wk q) G 1 (by decide)))) j (jW 22 rfl (by kernel_rfl) rfl rfl rfl (cl DU (Gw Y Z aa cb ((xs.map (·.2)).getD i []) wI.drew (aw.wk (ah.wk q).bF.2 j) (aw.wk (ai.wk q).bF.2 j) (by omega) hxb.2.2) rfl fun aX w38 aG=> ?_)))
 obtain ⟨rfl,ac⟩:=aG
 have M:(fun w'=>Wk wI w') w38:=j.trans ac
 refine ⟨M,?_⟩
 refine a8 23 rfl (by kernel_rfl) rfl rfl rfl (fun _ _=>no rfl) M (aB 24 rfl (fun _ _=>a6 rfl) M (hn (by kernel_rfl) (tn (an _ _ (cf (rfl) (az (bn (tn (J _ _ ?_)))))))))
 exact rg rfl (p (ad rfl rfl (bu (by omega))) (p mv (au ((⟨_,by omega,i+1,(by omega),(q.trans (j.trans ac)),rfl,rfl,rfl,rfl,rfl⟩)))))
 refine ext (te _ (te _ (be (tn (aq _ _ (U (fun _ J=>(p ak ?_))))))))
 exact au ((J _ _ (rt (f1 rfl rfl (⟨rfl,q⟩)))))
end Go.Hb.vl
end
section
set_option maxRecDepth 20000
set_option maxHeartbeats 1000000
namespace Go.Hb.vp
open Go.Hb.du
open Go.Proofs
open Go.Hb.ff Go.Hb.fM Go.Hb.fV Go.Hb.kH Go.Hb.hY Go.Hb.ma Go.Hb.h8 Go.Hb.kM Go.Hb.mg Go.Hb.mT Go.Hb.nO Go.Hb.oX Go.Hb.vk Go.Hb.rB Go.Hb.vl Go.Hb.kN Go.Hb.o4
theorem uW (w:World):
 aV Tryz.prog 13 (List.toArray []) w (fun v w'=>v= .bool true∧Wk w w'):=by
 refine enter Tryz.func13 rfl Tryz.ntmps13 rfl ?_
 refine U (fun _ ac=>(aj (((ac _ _ (U (fun _ ae=>(e (cl gD (pd rr w (by decide)) rfl fun a5 w7 hR7=> ?_)))))))))
 obtain ⟨M,hE7⟩:=hR7
 rw [LU] at M
 obtain ⟨fb,mc,V,aI,hF7,aq,ax⟩:=M
 subst aI
 refine p mv (p (xt rfl rfl) (p (xt rfl rfl) (e (al iR fun aO a7 hb2 G hB2=> ?_))))
 have hz2:=G.size
 have hz7:=hE7.size
 refine p ak (e (bY fR rfl rfl rfl rfl (hB2) (by simp) fun wt1_6 E aR=> ?_))
 have A:Wk w7 wt1_6:=G.md.trans' E (fun q aE h=>by omega)
 have hz1:=E.size
 refine au ((ae _ _ (U (fun _ ag=>(p mv (e (cl gj (sF w.heap.size fb mc nJ V uX wt1_6 (hF7.wk A) aq ax (by decide)) rfl fun cC w12 ay=> ?_)))))))
 obtain ⟨hm12,hE12⟩:=ay
 rw [LV] at hm12
 obtain ⟨B,ab,Y,Z,vs,hB12,aH,aC,_⟩:=hm12
 subst aH
 refine p mv (p (xt rfl rfl) (p (xt rfl rfl) (e (al iR fun aP w4 aS I ap=> ?_))))
 have hz4:=I.size
 have hz12:=hE12.size
 refine p ak (e (bY fR rfl rfl rfl rfl (ap) (by simp) fun wt2_7 av ao=> ?_))
 have C:Wk w12 wt2_7:=I.md.trans' av (fun q aE h=>by omega)
 have hW2:=aC.wk C
 refine au ((ag _ _ (sq (fun _ ah=>U (fun _ ai=>(p mv (p (iK nE rfl rfl) (p mv ?_))))))))
 refine gb (t:=17) rfl (fun h=>absurd (h.symm.trans (rfl)) Bool.noConfusion) (fun aU=> ?_)
 refine pg rfl rfl rfl (dm gY rfl (rfl) (fun j a1=>ao.cW j)) (pg rfl rfl rfl (bV (ps:= []) (L:= [.int .i64 0,.int .i64 0,.int .i64 0]) lf rfl (rfl)) (pg rfl rfl rfl (I0 rfl rfl) (p (a6 rfl) (p mv (gs (t:=22) rfl (fun h=>absurd h (fun h=>h ⟨rfl,rfl,rfl⟩)) (fun aW=> ?_))))))
 refine pg rfl rfl rfl mv (eg rfl rfl rfl (cl xd (yc B ab Y Z vs mO wt2_7 hW2 (by decide)) rfl fun a3 aa aA=> ?_))
 obtain ⟨rfl,hE24⟩:=aA
 have hW24:=hW2.wk hE24
 refine pg rfl rfl rfl (bH rfl rfl) (p (a6 rfl) (au ((ai _ _ (cd rfl (fun h=>absurd h (fun h=>h rfl)) (fun aT=> ?_))))))
 refine az (tn (ah _ _ (U (fun _ am=>(p mv (e (cl xc (x7 B ab Y Z vs mO aa hW24 (by decide) (by decide)) rfl fun a4 w28 aB=> ?_)))))))
 obtain ⟨aD,ar⟩:=aB
 obtain ⟨vx,O,J,_⟩:=aD
 have hsl:=b0 O
 obtain ⟨aN,aQ,aK⟩:=hsl
 subst aK
 obtain ⟨a2,aF,a⟩:=cX.get J (show 0 < (mO.map (·.2)).length by decide)
 obtain ⟨u1,aG,hT1⟩:=cX.get J (show 1 < (mO.map (·.2)).length by decide)
 have hs0:=a.slice
 obtain ⟨s,c0,aL⟩:=hs0
 subst aL
 have a:Tg w28 aa.heap.size 71 1 (.slice s 1 c0) [.int .u16 (65:Nat)]:=a
 have hC:=(aM O).2
 have hq0:(mO.zip vx)[0]? =some (([102,108,121],[65]),.slice s 1 c0):=List.getElem?_zip_eq_some.2 ⟨rfl,aF⟩
 have hq1:(mO.zip vx)[1]? =some (([105,110,47,111,117,116],[]),u1):=List.getElem?_zip_eq_some.2 ⟨rfl,aG⟩
 refine aj (((am _ _ (U (fun _ an=>(p mv (p (bg mM rfl rfl) (p (bd rfl rfl) ?_))))))))
 refine p mv (gs (t:=32) rfl (fun aX=> ?_) (fun h=>absurd rfl h))
 refine pg rfl rfl rfl mv (pg rfl rfl rfl (aJ lN rfl rfl (by decide) (aw.ok (hC) (km hq0))) (pg rfl rfl rfl (fa oo rfl) (pg rfl rfl rfl (ld bz rfl (fS (f:=iJ) (m:=2) (i:=0) (fun _=>rfl) hC hq0 0 (by decide))) (pg rfl rfl rfl (cM rfl rfl) (p (bc rfl) (p mv (gs (t:=39) rfl (fun aY=> ?_) (fun h=>absurd rfl h))))))))
 refine pg rfl rfl rfl mv (pg rfl rfl rfl (aJ lN rfl rfl (by decide) (aw.ok (hC) (km hq0))) (pg rfl rfl rfl (fa oq rfl) (pg rfl rfl rfl (ld lE rfl (fS (f:=iJ) (m:=2) (i:=0) (fun _=>rfl) hC hq0 1 (by decide))) (pg rfl rfl rfl (bg jL rfl rfl) (pg rfl rfl rfl (bd rfl rfl) (p (bc rfl) (p mv ?_)))))))
 refine gs (t:=47) rfl (fun aZ=> ?_) (fun h=>absurd rfl h)
 refine pg rfl rfl rfl mv (pg rfl rfl rfl (aJ lN rfl rfl (by decide) (aw.ok (hC) (km hq0))) (pg rfl rfl rfl (fa oq rfl) (pg rfl rfl rfl (ld lE rfl (fS (f:=iJ) (m:=2) (i:=0) (fun _=>rfl) hC hq0 1 (by decide))) (pg rfl rfl rfl (aJ bj rfl rfl (by decide) (aw.ok (a.bF.2) (by simp))) (pg rfl rfl rfl (ld bL rfl (aw.gP (i:=0) a.bF.2 rfl)) (pg rfl rfl rfl (bd rfl rfl) (p (bc rfl) ?_)))))))
 refine p mv (gs (t:=56) rfl (fun a0=> ?_) (fun h=>absurd rfl h))
 refine pg rfl rfl rfl mv (pg rfl rfl rfl (aJ lN rfl rfl (by decide) (aw.ok (hC) (km hq1))) (pg rfl rfl rfl (fa oo rfl) (pg rfl rfl rfl (ld bz rfl (fS (f:=iJ) (m:=2) (i:=1) (fun _=>rfl) hC hq1 0 (by decide))) (pg rfl rfl rfl (cM rfl rfl) (p (bc rfl) (p ak (nl ?_)))))))
 exact tn (an _ _ (rt (f1 rfl rfl (⟨congrArg Value.bool (decide_eq_true rfl),hE7.trans (A.trans (hE12.trans (C.trans (hE24.trans ar))))⟩))))
theorem JV (a t:Tx) (w:World) (hs:a.length≤1048576) (aI:t.length≤1048576) (ln er:Nat) (i:eL a= .error (ln,er)):
 aV Tryz.prog 3 (List.toArray [str a,str t]) w (fun v w'=>v= .bool true∧Wk w w'):=by
 refine enter Tryz.func3 rfl Tryz.ntmps3 rfl ?_
 refine U (fun _ J=>(aj (((J _ _ (U (fun _ M=>(ag (str a) ?_))))))))
 refine e (cl gD (pd a w (by omega)) rfl fun av w16 hR16=> ?_)
 obtain ⟨hm16,s⟩:=hR16
 rw [i] at hm16
 have aq:av=_:=hm16
 subst aq
 refine p mv (p (xt rfl rfl) (p (xt rfl rfl) (e (al iR fun aB w6 hb6 G hB6=> ?_))))
 have hz6:=G.size
 have hz16:=s.size
 refine p ak (e (bY fR rfl rfl rfl rfl (hB6) (by simp) fun wt1_7 C aC=> ?_))
 have ah:Wk w16 wt1_7:=G.md.trans' C (fun q ap h=>by omega)
 have hz1:=C.size
 refine au ((M _ _ (U (fun _ O=>(p mv (ag (str t) (e (cl gj (FV t wt1_7) rfl fun aJ ax am=> ?_))))))))
 obtain ⟨rfl,A⟩:=am
 refine p mv (p (xt rfl rfl) (p (xt rfl rfl) (e (al iR fun b8 w8 hb8 I ae=> ?_))))
 have hz8:=I.size
 have hz22:=A.size
 refine p ak (e (bY fR rfl rfl rfl rfl (ae) (by simp) fun wt2_8 E ac=> ?_))
 have ai:Wk ax wt2_8:=I.md.trans' E (fun q ap h=>by omega)
 have hz2:=E.size
 refine au ((O _ _ (U (fun _ V=>(ag (str a) (e (cl gr (ur a wt2_8 hs) rfl fun aw ay an=> ?_)))))))
 obtain ⟨hm27,hE27⟩:=an
 rw [i] at hm27
 have ar:aw=_:=hm27
 subst ar
 refine p mv (p (xt rfl rfl) (p (xt rfl rfl) (p (xt rfl rfl) (p ak (p ak (p ak (nl ?_)))))))
 refine tn (V _ _ (sq (fun _ Y=>U (fun _ Z=>(e (cl rT (uW ay) rfl fun aK w31 ao=> ?_))))))
 obtain ⟨rfl,hE31⟩:=ao
 refine p (no rfl) (p mv (gb (t:=33) rfl (fun h=>absurd (h.symm.trans (rfl)) Bool.noConfusion) (fun aF=> ?_)))
 refine pg rfl rfl rfl mv (pg rfl rfl rfl (iK l7 rfl rfl) (pg rfl rfl rfl mv (pg rfl rfl rfl (bH rfl rfl) (pg rfl rfl rfl (tP u4 rfl rfl) (p (a6 rfl) (au ((Z _ _ ?_))))))))
 refine cd rfl (fun h=>absurd h (fun h=>h (decide_eq_true (show ((er:Nat):Int)≠0 by have :=vE i; omega)).symm)) (fun aD=> ?_)
 refine az (tn (Y _ _ (sq (fun _ aA=>U (fun _ aa=>(p mv (p (bH rfl rfl) (nl ?_))))))))
 refine tn (aa _ _ (cd rfl (fun aE=> ?_) (fun h=>absurd (by have :=vE i; omega) h)))
 refine U (fun _ ab=>(p mv (p (iK nE rfl rfl) (p mv (gb (t:=44) rfl (fun aG=> ?_) (fun h=>absurd ((rfl).symm.trans h) Bool.noConfusion))))))
 refine pg rfl rfl rfl (dm gY rfl (rfl) (fun j aH=>(Wk.B (hE27.trans hE31) ac).cW j)) (pg rfl rfl rfl (bV (ps:= [(0,.int .i64 2),(2,.int .i64 1)]) (L:= [.int .i64 2,.int .i64 0,.int .i64 1]) lf rfl (rfl)) (pg rfl rfl rfl (sK rfl rfl) (p (bc rfl) (aj (((ab _ _ (rt ?_))))))))
 exact tr (f1 rfl rfl (⟨congrArg Value.bool (decide_eq_true ⟨rfl,rfl,rfl⟩),s.trans (ah.trans (A.trans (ai.trans (hE27.trans hE31))))⟩))
theorem JU (a t:Tx) (w:World) (hs:a.length≤1048576) (Y:t.length≤1048576) (F:aH) (ln er:Nat) (Z:eL a= .ok F) (hd:eN F t= .error (ln,er)):
 aV Tryz.prog 3 (List.toArray [str a,str t]) w (fun v w'=>v= .bool true∧Wk w w'):=by
 refine enter Tryz.func3 rfl Tryz.ntmps3 rfl ?_
 refine U (fun _ aa=>(aj (((aa _ _ (U (fun _ ah=>(ag (str a) ?_))))))))
 refine e (cl gD (pd a w (by omega)) rfl fun a4 w16 hR16=> ?_)
 obtain ⟨hm16,s⟩:=hR16
 rw [Z] at hm16
 obtain ⟨fb,mc,V,aM,hF16,ax,aE⟩:=hm16
 subst aM
 refine p mv (p (xt rfl rfl) (p (xt rfl rfl) (e (al iR fun aW w6 hb6 I hB6=> ?_))))
 have hz6:=I.size
 have hz16:=s.size
 refine p ak (e (bY fR rfl rfl rfl rfl (hB6) (by simp) fun wt1_7 E aX=> ?_))
 have i:Wk w16 wt1_7:=I.md.trans' E (fun q aL h=>by omega)
 have hz1:=E.size
 refine au ((ah _ _ (U (fun _ ai=>(p mv (ag (str t) (e (cl gj (sF w.heap.size fb mc F V t wt1_7 (hF16.wk i) ax aE Y) rfl fun aQ aS aG=> ?_))))))))
 obtain ⟨M,A⟩:=aG
 rw [hd] at M
 have aN:aQ=_:=M
 subst aN
 refine p mv (p (xt rfl rfl) (p (xt rfl rfl) (e (al iR fun b8 w8 hb8 J aA=> ?_))))
 have hz8:=J.size
 have hz22:=A.size
 refine p ak (e (bY fR rfl rfl rfl rfl (aA) (by simp) fun wt2_8 G ay=> ?_))
 have aC:Wk aS wt2_8:=J.md.trans' G (fun q aL h=>by omega)
 have hz2:=G.size
 refine au ((ai _ _ (U (fun _ am=>(ag (str a) (e (cl gr (ur a wt2_8 hs) rfl fun a5 aT aI=> ?_)))))))
 obtain ⟨hm27,hE27⟩:=aI
 rw [Z] at hm27
 obtain ⟨B1,aw,av,hB1,aO,aD,aB,aF⟩:=hm27
 subst aO
 refine p mv (p (xt rfl rfl) (p (xt rfl rfl) (p (xt rfl rfl) (p ak (p ak (p ak (nl ?_)))))))
 refine tn (am _ _ (sq (fun _ an=>U (fun _ ao=>(e (cl rT (uW aT) rfl fun a7 w31 aJ=> ?_))))))
 obtain ⟨rfl,hE31⟩:=aJ
 refine p (no rfl) (p mv (gb (t:=33) rfl (fun h=>absurd (h.symm.trans (rfl)) Bool.noConfusion) (fun a1=> ?_)))
 refine pg rfl rfl rfl mv (pg rfl rfl rfl (iK l7 rfl rfl) (pg rfl rfl rfl mv (pg rfl rfl rfl (bH rfl rfl) (pg rfl rfl rfl (tP u4 rfl rfl) (p (a6 rfl) (au ((ao _ _ ?_))))))))
 refine cd rfl (fun h=>absurd h (fun h=>h rfl)) (fun aY=> ?_)
 refine az (tn (an _ _ (sq (fun _ ap=>U (fun _ aq=>(p mv (p (bH rfl rfl) (nl ?_))))))))
 refine tn (aq _ _ (cd rfl (fun h=>absurd h (fun h=>h rfl)) (fun aZ=> ?_)))
 refine az (tn (ap _ _ (U (fun _ ar=>(p mv (ag (str t) (e (cl wW (zg B1 aw F av t w31 (aD.wk hE31) aB aF Y) rfl fun aR w52 aK=> ?_))))))))
 obtain ⟨O,C⟩:=aK
 rw [hd] at O
 have aP:aR=_:=O
 subst aP
 refine p mv (p (xt rfl rfl) (p (xt rfl rfl) (p (xt rfl rfl) (p ak (p ak (p ak (nl ?_)))))))
 refine tn (ar _ _ (sq (fun _ aU=>U (fun _ ab=>(p mv (p (bH rfl rfl) (au ((ab _ _ ?_)))))))))
 refine cd rfl (fun a0=> ?_) (fun h=>absurd (by have :=FR hd; omega) h)
 refine U (fun _ ac=>(p mv (p (iK nE rfl rfl) (p mv (gb (t:=60) rfl (fun a2=> ?_) (fun h=>absurd ((rfl).symm.trans h) Bool.noConfusion))))))
 refine pg rfl rfl rfl (dm gY rfl (rfl) (fun j a3=>(Wk.B (hE27.trans (hE31.trans C)) ay).cW j)) (pg rfl rfl rfl mv (pg rfl rfl rfl mv (pg rfl rfl rfl (bV (ps:= [(0,.int .i64 2),(1,ae ln),(2,ae er)]) (L:= [.int .i64 2,ae ln,ae er]) lf rfl (rfl)) (pg rfl rfl rfl (sK rfl rfl) (p (bc rfl) (p ak (nl ?_)))))))
 exact tn (ac _ _ (rt (tr (f1 rfl rfl (⟨congrArg Value.bool (decide_eq_true ⟨rfl,rfl,rfl⟩),s.trans (i.trans (A.trans (aC.trans (hE27.trans (hE31.trans C)))))⟩)))))
theorem Cs {s:Tx} {F:aH} (h:eL s= .ok F):Nx F:=by
 unfold eL at h
 split at h
 · cases h
 · split at h
   · cases h
   · rename_i f hf
     split at h
     · cases h
     · cases h
       have key:∀ (k:Nat) (F F':aH) (hs:List Tx) (rows:List Rw) (eof:Nat),Nx F→eG eof k F hs rows= .ok F'→Nx F':=by
        intro k
        induction k with
        | zero=>intro F F' hs rows eof h a; rw [eG] at a; split at a <;> cases a; exact h
        | succ k ih=>
          intro F F' hs rows eof h a
          cases rows with
          | nil=>rw [ny] at a; cases a; exact h
          | cons q rows=>
            rw [eG] at a
            split at a
            · cases a
            · split at a
              · cases a
              · split at a
                · cases a
                · split at a
                  · cases a
                  · rename_i r hr
                    exact ih _ _ _ _ _ (qu (rows':=r.2) h hr) a
       exact key _ _ _ _ _ _ ⟨fun l hl=>(by cases hl),fun l hl=>(by cases hl)⟩ hf
theorem JW (a t:Tx) (w:World) (hs:a.length≤1048576) (ai:t.length≤1048576) (F:aH) (xs:List c9) (i:eL a= .ok F) (hd:eN F t= .ok xs):
 aV Tryz.prog 3 (List.toArray [str a,str t]) w (fun v w'=>v= .bool true∧Wk w w'):=by
 obtain ⟨aa,hxl⟩:(∀ x∈xs,mU x)∧xs.length≤8192:=FP (Cs i) (Ct i) hd
 refine enter Tryz.func3 rfl Tryz.ntmps3 rfl ?_
 refine U (fun _ ap=>(aj (((ap _ _ (U (fun _ ax=>(ag (str a) ?_))))))))
 refine e (cl gD (pd a w (by omega)) rfl fun bB w16 hR16=> ?_)
 obtain ⟨hm16,G⟩:=hR16
 rw [i] at hm16
 obtain ⟨fb,mc,V,ba,hF16,aO,aU⟩:=hm16
 subst ba
 refine p mv (p (xt rfl rfl) (p (xt rfl rfl) (e (al iR fun bq w6 hb6 O hB6=> ?_))))
 have hz6:=O.size
 have hz16:=G.size
 refine p ak (e (bY fR rfl rfl rfl rfl (hB6) (by simp) fun wt1_7 J br=> ?_))
 have E:Wk w16 wt1_7:=O.md.trans' J (fun q a9 h=>by omega)
 have hz1:=J.size
 refine au ((ax _ _ (U (fun _ ay=>(p mv (ag (str t) (e (cl gj (sF w.heap.size fb mc F V t wt1_7 (hF16.wk E) aO aU ai) rfl fun bC bl aX=> ?_))))))))
 obtain ⟨ab,I⟩:=aX
 rw [hd] at ab
 obtain ⟨B,ao,am,an,vs,bs,bb,Z,_⟩:=ab
 subst bb
 refine p mv (p (xt rfl rfl) (p (xt rfl rfl) (e (al iR fun b8 w8 hb8 Y aQ=> ?_))))
 have hz8:=Y.size
 have hz22:=I.size
 refine p ak (e (bY fR rfl rfl rfl rfl (aQ) (by simp) fun wt2_8 M aP=> ?_))
 have C:Wk bl wt2_8:=Y.md.trans' M (fun q a9 h=>by omega)
 have hz2:=M.size
 refine au ((ay _ _ (U (fun _ aA=>(ag (str a) (e (cl gr (ur a wt2_8 hs) rfl fun bD bm aY=> ?_)))))))
 obtain ⟨hm27,hE27⟩:=aY
 rw [i] at hm27
 obtain ⟨B1,aN,aG,hB1,bf,aT,aR,aW⟩:=hm27
 subst bf
 refine p mv (p (xt rfl rfl) (p (xt rfl rfl) (p (xt rfl rfl) (p ak (p ak (p ak (nl ?_)))))))
 refine tn (aA _ _ (sq (fun _ aB=>U (fun _ aC=>(e (cl rT (uW bm) rfl fun bE w31 aZ=> ?_))))))
 obtain ⟨rfl,hE31⟩:=aZ
 refine p (no rfl) (p mv (gb (t:=33) rfl (fun h=>absurd (h.symm.trans (rfl)) Bool.noConfusion) (fun bw=> ?_)))
 refine pg rfl rfl rfl mv (pg rfl rfl rfl (iK l7 rfl rfl) (pg rfl rfl rfl mv (pg rfl rfl rfl (bH rfl rfl) (pg rfl rfl rfl (tP u4 rfl rfl) (p (a6 rfl) (au ((aC _ _ ?_))))))))
 refine cd rfl (fun h=>absurd h (fun h=>h rfl)) (fun bt=> ?_)
 refine az (tn (aB _ _ (sq (fun _ aD=>U (fun _ aE=>(p mv (p (bH rfl rfl) (nl ?_))))))))
 refine tn (aE _ _ (cd rfl (fun h=>absurd h (fun h=>h rfl)) (fun bu=> ?_)))
 refine az (tn (aD _ _ (U (fun _ aF=>(p mv (ag (str t) (e (cl wW (zg B1 aN F aG t w31 (aT.wk hE31) aR aW ai) rfl fun bF w52 a0=> ?_))))))))
 obtain ⟨ac,s⟩:=a0
 rw [hd] at ac
 obtain ⟨bp,bh,a8⟩:=ac
 subst bh
 refine p mv (p (xt rfl rfl) (p (xt rfl rfl) (p (xt rfl rfl) (p ak (p ak (p ak (nl ?_)))))))
 refine tn (aF _ _ (sq (fun _ aq=>U (fun _ ar=>(p mv (p (bH rfl rfl) (au ((ar _ _ ?_)))))))))
 refine cd rfl (fun h=>absurd h (fun h=>h rfl)) (fun bv=> ?_)
 refine az (tn (aq _ _ (U (fun _ av=>(p mv (p (I1 nE rfl rfl) (p mv (gb (t:=69) rfl (fun bx=> ?_) (fun h=>absurd ((rfl).symm.trans h) Bool.noConfusion)))))))))
 refine pg rfl rfl rfl (dm gY rfl (rfl) (fun j bA=>(Wk.B (hE27.trans (hE31.trans s)) aP).cW j)) (pg rfl rfl rfl (bV (ps:= []) (L:= [.int .i64 0,.int .i64 0,.int .i64 0]) lf rfl (rfl)) (pg rfl rfl rfl (sK rfl rfl) (p (bc rfl) (p mv (gs (t:=74) rfl (fun bz=> ?_) (fun h=>absurd ⟨rfl,rfl,rfl⟩ h))))))
 refine pg rfl rfl rfl mv (eg rfl rfl rfl (cl xc (x7 B ao am an vs xs w52 (Z.wk (C.trans (hE27.trans (hE31.trans s)))) (by omega) (fun x i=>(aa x i).2.1)) rfl fun bG bn a1=> ?_))
 obtain ⟨a7,A⟩:=a1
 obtain ⟨vx,ah,a5,_⟩:=a7
 have hsl:=b0 ah
 obtain ⟨aI,aK,bi⟩:=hsl
 subst bi
 obtain ⟨bk,ae,a4⟩:=a8
 have hsl2:=b0 ae
 obtain ⟨aJ,aL,bj⟩:=hsl2
 subst bj
 refine pg rfl rfl rfl mv (eg rfl rfl rfl (cl nX (Kx aI aJ aK aL _ 0 xs vx bk bn (aM ah).2 (aw.wk (aM ae).2 A) a5 (a4.wk A) (by omega) aa) rfl fun bI bo a2=> ?_))
 obtain ⟨rfl,hE78⟩:=a2
 refine p (bc rfl) (p mv (pg rfl rfl rfl mv (eg rfl rfl rfl (cl xd (yc B ao am an vs xs bo (Z.wk (C.trans (hE27.trans (hE31.trans (s.trans (A.trans hE78)))))) (by omega)) rfl fun bJ w82 a3=> ?_))))
 obtain ⟨rfl,aS⟩:=a3
 refine pg rfl rfl rfl mv (pg rfl rfl rfl (bg uT rfl rfl) (pg rfl rfl rfl (bd rfl rfl) (p (bc rfl) (aj (((av _ _ (rt ?_))))))))
 exact f1 rfl rfl (⟨congrArg Value.bool (decide_eq_true rfl),G.trans (E.trans (I.trans (C.trans (hE27.trans (hE31.trans (s.trans (A.trans (hE78.trans aS))))))))⟩)
theorem FO (a t:Tx) (w:World) (hs:a.length≤1048576) (i:t.length≤1048576):aV Tryz.prog 3 [str a,str t].toArray w (fun v w'=>v= .bool true∧Wk w w'):=by
 cases hx:eL a with
 | error e=>exact JV a t w hs i e.1 e.2 hx
 | ok F=>cases hd:eN F t with
   | error e=>exact JU a t w hs i F e.1 e.2 hx hd
   | ok xs=>exact JW a t w hs i F xs hx hd
end Go.Hb.vp
end
