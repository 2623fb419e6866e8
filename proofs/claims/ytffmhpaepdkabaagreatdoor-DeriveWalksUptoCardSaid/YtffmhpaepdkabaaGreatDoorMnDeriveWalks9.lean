/-
  Walks and plain laws that the law rests on, laid together. No conditions but those that each theorem names.
-/
import Derived.Test.YtffmhpaepdkabaaGreatDoorMnDeriveWalks8
set_option linter.unusedVariables false
set_option maxRecDepth 20000
set_option maxHeartbeats 1000000
open Bool renaming noConfusion→eo
open Go.World renaming ownsRow→bw,ownsRow_nil→dC
open List renaming append_assoc→dH,append_nil→ei,length_append→bM,length_nil→fU,mem_cons→e7,nodup_nil→NO,toArray→bh
open Go.Proofs.Tryz

section
namespace Go.Hb
open Go.Hb.ea
open Go.Proofs
open Go.Hb.fw Go.Hb.gl Go.Hb.kq Go.Hb.iw Go.Hb.jR Go.Hb.kN Go.Hb.lG Go.Hb.lV Go.Hb.jH Go.Hb.lg Go.Hb.nI Go.Hb.sF Go.Hb.sH
theorem SL (l:List bZ):(jm l).length=l.length*5:=nT (f:=eC) (m:=5) (fun _=>rfl) l
theorem SK (a b:List bZ):jm (a++b)=jm a++jm b:=List.flatMap_append
theorem SM (l:List bZ):(jm l).all Value.oneCell'=true :=by
 refine List.all_eq_true.2 fun v a=> ?_
 obtain ⟨d,_,hd⟩:=List.mem_flatMap.1 a
 simp only [eC,e7,List.not_mem_nil,or_false] at hd
 rcases hd with rfl | rfl | rfl | rfl | rfl <;> rfl
def j9 (L wl:List bZ):Prop := ∃ r,L=wl++r∧(r= []∨400≤wl.length)
theorem j9.nil:j9 [] []:=⟨[],rfl,.inl rfl⟩
theorem j9.le {L wl D:List bZ} (h:j9 L wl) (a:400≤wl.length):j9 (L++D) wl:=by
 obtain ⟨r,rfl,_⟩:=h
 exact ⟨r++D,dH ..,.inr a⟩
theorem j9.more {L wl D:List bZ} (h:j9 L wl) (i:wl.length < 400):j9 (L++D) (wl++jY D 400):=by
 obtain ⟨r,rfl,a⟩:=h
 obtain rfl :r= []:=a.resolve_right ab
 have e:jY D 400=D.take 400:=if_neg ab
 rw [e,ei]
 refine ⟨D.drop 400,by rw [dH,List.take_append_drop],?_⟩
 by_cases hd:D.length≤400
 · exact .inl<|List.drop_eq_nil_of_le hd
 · right; rw [bM,List.length_take]; omega
theorem j9.at {L wl pre rest:List bZ} {x:bZ} (h:j9 L wl) (q:L=pre++x::rest) (hp:pre.length < 400):wl[pre.length]? =some x:=by
 obtain ⟨r,a,i⟩:=h
 have h1:L[pre.length]? =some x:=by rw [q,List.getElem?_append_right (Nat.le_refl _),Nat.sub_self]; rfl
 rcases i with rfl | i
 · rw [ei] at a; rw [← a]; exact h1
 · rw [a,List.getElem?_append_left ab] at h1; exact h1
theorem j9.all {L wl:List bZ} (h:j9 L wl) (a:L.length < 400):((L.length:Nat):Int)=min ((wl.length:Nat):Int) 400:=by
 obtain ⟨r,rfl,i⟩:=h
 rw [bM] at a ⊢
 obtain rfl :r= []:=i.resolve_right ab
 simp only [fU] at a ⊢
 omega
theorem j9.pre {L wl q:List bZ} (h:j9 L wl) (i:q <+:L) (A:q.length=400):((q.length:Nat):Int)=min ((wl.length:Nat):Int) 400:=by
 obtain ⟨r,rfl,a⟩:=h
 have h1:=i.length_le
 rw [bM] at h1
 rcases a with rfl | a
 · simp only [fU] at h1; omega
 · omega
theorem Zx (a t:Tx) (n:Int) (w:World) (da:a.length≤1048576) (dx:t.length≤1048576) (F:aU) (xs:List bH) (dD:lC a t=some (F,xs)):
 bp prog 5 (bh [str a,str t,.int .i64 n]) w (fun v w'=>v= .bool true∧Wk w w'):=by
 refine uO [] func5 aa ntmps5 aa ?_
 refine cW<|cM<|rg aa<|e<|rB aa aa fun ac et dU b6 cH=> ?_
 have ec:=b6.size
 refine e<|fg MH fun bf dG dV bA cJ=> ?_
 have ed:=bA.size
 refine nl<|cB<|cW<|cM<|rg aa<|p mv<|p mv<|e<|cl kz (KL a t dG da dx) aa fun eh dE c1=> ?_
 obtain ⟨cb,a0⟩:=c1
 rw [dD] at cb
 obtain ⟨B,tb,bd,bQ,a9,fb,V,ve,dy,bB,aF,a1⟩:=cb
 subst dy
 have bB:fW _ B tb bd F xs:=bB
 have aF:eN F xs:=aF
 have a1:gn _ bQ a9 fb V ve F xs:=a1
 refine p mv<|p (xt aa aa)<|p (xt aa aa)<|p (xt aa aa)<|p aE<|p aE<|p aE<|nl<|cB<|cW<|cW<|cM<|rg aa<|p mv<|p (no aa)<|p mv<|gb (t:=25) aa (fun h=>absurd (h.symm.trans<|aa) eo) fun dY=>eg aa aa aa<|cl kA (Mm dE) aa fun ei am c2=> ?_
 obtain ⟨rfl,ao⟩:=c2
 have cN:=((b6.md.trans bA.md).trans a0).trans ao
 have d8:=a0.size
 have d9:=ao.size
 have cu:fN am ac n:=Wk.aJ ((bA.md.trans a0).trans ao) cH
 have cv:am.heap[bf]? =some (.cells [.bool false].toArray 4 (0,0)):=Wk.aJ (a0.trans ao) cJ
 refine pg aa aa aa (no aa)<|p (bu aa)<|nl<|cB<|cM<|cf (aa)<|aQ<|cB<|cW<|cM<|rg aa<|e<|fg MG fun Z el dQ bv cy=> ?_
 have d3:=bv.size
 refine nl<|cB<|cW<|cW<|cM<|rg aa<|p mv<|p (CP DP aa aa)<|nl<|cB<|cM<|ct (aa)<|sq fun dH cV=>rg aa<|p mv<|p (nc aa)<|p (fa vc aa)<|p (ld uC aa<|(a1.wk<|ao.trans bv.md).DT.choose_spec.choose_spec)<|p (bJ zk aa aa)<|p mv<|nl<|tn<|cV _ _<|aJ<|lp (fun aC an ah=> ∃ (i:Nat) (wl:List bZ) (ai:Option Addr) (ak:Nat),(i≤xs.length)∧(Wk am ah)∧(j9 (kP F xs i) wl)∧(ah.heap[Z]? =some (.cells [.slice ai wl.length ak].toArray 34 (0,0)))∧(bw ah am.heap.size 43 5 (.slice ai wl.length ak) wl.length<|jm wl)∧(an 5= .pointer (some ⟨ac,0,none⟩))∧(an 6= .pointer (some ⟨bf,0,none⟩))∧(an 7= .pointer (some ⟨tb,0,none⟩))∧(an 8= .pointer (some ⟨a9,0,none⟩))∧(an 10= .pointer (some ⟨Z,0,none⟩))∧(an 35= .int .i64 (xs.length:Nat))∧(an 36= .int .i64 (i:Nat))∧(xs.length - i=aC)) _ ⟨0,[],none,0,ab,bv.md,j9.nil,cy,(dC _ _ _ _),aa,aa,aa,aa,aa,aa,aa,aa⟩ ?_
 rintro aC an ah ⟨i,wl,ai,ak,hi,aK,aW,aS,bP,dn,dp,dq,dr,dk,dl,dm,rfl⟩
 refine fx 5 dn<|fx 6 dp<|fx 7 dq<|fx 8 dr<|fx 10 dk<|fx 35 dl<|fx 36 dm ?_
 have d2:=aF.xl
 have ee:=aK.size
 refine sq fun dJ cX=>rg aa<|p (lt aa aa)<|nl<|tn<|cX _ _<|sq fun dK cY=>cd aa (fun de=> ?_) fun de=> ?_
 refine aQ<|tn<|cY _ _<|sq fun cj a2=>aJ<|sq fun ck bq=>rg aa<|p (aV (.int .i64 (i:Nat)) aa)<|p (cU (.int .i64 (i:Nat)) aa)<|nl<|tn<|bq _ _<|sq fun cm br=>rg aa<|p (ld oC aa<|(a7 aS).trans aa)<|p (bJ tO aa aa)<|p (lt aa aa)<|nl<|tn<|br _ _<|cd aa (fun df=> ?_) fun df=> ?_
 have cR:=(ao.trans aK).drew
 have cS:=aK.drew
 have dc:gz F xs (i:Int)=jL F xs i:=rG ab
 have ce:=YR (L:=gz F xs (i:Int)) (show (400:Int)≤400 by omega)
 have a3:(fun w'=>w'.heap[Z]? =some (.cells [.slice ai wl.length ak].toArray 34 (0,0))) ah.drew:=aS
 refine eR (fun w'=>w'.heap[Z]? =some (.cells [.slice ai wl.length ak].toArray 34 (0,0))) 5 aa wide a3<|lq 0 aa aj (fun w' J=>ld oC aa<|(a7 J).trans aa) a3<|lq 1 aa aj (fun _ _=>aV (.pointer<|some ⟨a9,0,none⟩) aa) a3<|lq 2 aa aj (fun _ _=>aV (.int .i64 (i:Nat)) aa) a3<|gE 3 aa aj<|cl uI (XB bQ a9 fb V ve F xs (i:Int) 400 ah.drew (a1.wk cR) aF ab) aa fun ej dF c3=> ?_
 obtain ⟨cc,bk⟩:=c3
 obtain ⟨dM,dN,rfl⟩:=cE cc
 have bY:=cS.trans bk
 have bL:=a6 bP<|(Md.refl (fun _=>False) ah).drew.trans bk
 have bE:=Wk.aJ bk (show ah.drew.heap[Z]? =_ from aS)
 have c6:(fun w'=>w'.heap[Z]? =some (.cells [.slice ai wl.length ak].toArray 34 (0,0))) dF:=bE
 refine ⟨c6,?_⟩
 refine gE 4 aa aj<|ap DB (bL) aa (bY.size) aa (pS cc) (SL _) (SM _) ab ab fun v46 ch bO b3 ea dX=> ?_
 have cP:=Wk.own bY bL b3<|Nat.le_refl _
 have bI:=b3.aJ bE fun h=>dI bL bE az h
 obtain ⟨bR,bT,d1⟩:=cE bO
 have c7:(fun w'=>w'.heap[Z]? =some (.cells [.slice ai wl.length ak].toArray 34 (0,0))) ch:=bI
 refine ⟨c7,?_⟩
 refine dO 5 aa aj aj<|cT G2 aa aa (eS bO) bI (by simp) fun cg b0 cz=> ?_
 have cK:Wk am cg:=cP.trans' b0 fun k hk h=>by omega
 have c8:TF ch [36] (fun q=>q=Z):=TF.eq (dA bI) az
 have aT:bw cg am.heap.size 43 5 v46 (wl++jY (gz F xs (i:Int)) 400).length (jm<|wl++jY (gz F xs (i:Int)) 400):=cx (by rw [SK,bM]; exact bO) b0 c8 az
 have dz:j9 (kP F xs<|i+1) (wl++jY (gz F xs (i:Int)) 400):=by rw [xu,← dc]; exact aW.more ab
 obtain ⟨bR,bT,rfl⟩:=cE aT
 exact eQ aj<|bn<|tn<|a2 _ _<|rg aa<|p (bF ((i+1:Nat):Int) aa aa<|bl ab ab)<|p mv<|nl<|tn<|⟨_,ab,i+1,wl++jY (gz F xs (i:Int)) 400,bR,bT,ab,cK,dz,cz,aT,aa,aa,aa,aa,aa,aa,aa,aa⟩
 exact aQ<|bn<|tn<|a2 _ _<|rg aa<|p (bF ((i+1:Nat):Int) aa aa<|bl ab ab)<|p mv<|nl<|tn<|⟨_,ab,i+1,wl,ai,ak,ab,aK,(by rw [xu]; exact aW.le ab),aS,bP,aa,aa,aa,aa,aa,aa,aa,aa⟩
 refine ext<|te _<|te _<|be<|cB<|cW<|cM<|rg aa<|p (aV (.pointer<|some ⟨tb,0,none⟩) aa)<|e<|cl AD (Fe (some ⟨tb,0,none⟩) ah) aa fun v49 aX c4=> ?_
 obtain rfl :i=xs.length:=ab
 obtain ⟨aY,rfl,dW,b9,bm⟩:=c4
 have aI:Wk am aX:=aK.trans bm
 have eb:=aI.size
 have bg:=Wk.aJ bm aS
 have dh:=a6 bP bm
 have bi:fN aX ac n:=Wk.aJ aI cu
 have bV:=Wk.aJ aI cv
 have b7:=bB.wk<|ao.trans aI
 refine p aE<|nl<|cB<|cW<|cW<|cM<|rg aa<|p mv<|p (Hw L8 aa aa)<|nl<|cB<|cM<|cf aa<|aQ<|cB<|cW<|cW<|cM<|rg aa<|p mv<|nl<|cB<|yJ ?_
 refine JU ([]) (fun aC Y aA bb=> ∃ (A:Nat),(A≤3)∧(Wk aX bb)∧(kt Y bb)∧(∀ D∈Y,am.heap.size≤D)∧(aA 5= .pointer (some ⟨ac,0,none⟩))∧(aA 6= .pointer (some ⟨bf,0,none⟩))∧(aA 10= .pointer (some ⟨Z,0,none⟩))∧(aA 12= .func (.func 43) #[] #[.pointer (some ⟨aY,0,none⟩)])∧(aA 52= .int .i64 (A:Nat))∧(3 - A=aC)) _ ⟨0,ab,(Md.refl _ _),(⟨fun _ h=>(by cases h),NO⟩),(fun _ h=>by cases h),aa,aa,aa,aa,aa,aa⟩ ?_
 rintro aC Y aA bb ⟨A,d0,aL,b4,aH,du,dw,ds,dt,dv,rfl⟩
 refine oN 5 du<|oN 6 dw<|oN 10 ds<|oN 12 dt<|oN 52 dv ?_
 have ef:=aL.size
 refine cW<|cM<|rg aa<|p (lt aa aa)<|nl<|cB<|cW<|cM<|cd aa (fun ce=> ?_) fun ce=> ?_
 refine aQ<|cB<|cW<|yJ ?_
 refine cW<|cM<|rg aa<|p (aV (.int .i64 (A:Nat)) aa)<|e<|fg wa fun aB em dR b5 cA=> ?_
 have d4:=b5.size
 refine e<|cT gr aa aa (v:= .int .i64 (A:Nat)) aa cA (by simp) fun er b1 cF=> ?_
 have d6:=b1.size
 refine nl<|cB<|cW<|cM<|rg aa<|e<|fg wa fun I en dS bx cC=> ?_
 have d5:=bx.size
 refine e<|cT gr aa aa (v:= .int .i64 0) aa cC (by simp) fun ag bt bW=> ?_
 have d7:=bt.size
 have bX:Wk bb ag:=((b5.md.trans' b1 fun q al h=>by omega).trans bx.md).trans' bt fun q al h=>by omega
 have cL:Wk aX ag:=aL.trans bX
 have ay:I < ag.heap.size:=ab
 have co:fN ag aB (A:Nat):=bt.aJ (Wk.aJ bx.md cF) (fun h=>by have h:aB=I:=h; omega)
 have aN:=b4.nc<|eV.wk bX
 have ar:∀ {W:World},(∃ G:Nat→Prop,Md G ag W∧∀ k,G k→k=I)→Wk aX W:=fun ⟨G,hm,a5⟩=>cL.trans' hm fun k hk ax=>by have :=a5 k ax; omega
 have aw:∀ {W:World},(∃ G:Nat→Prop,Md G ag W∧∀ k,G k→k=I)→kt Y W∧fN W aB (A:Nat):=fun ⟨G,hm,a5⟩=>⟨aN.nc (eV.md hm fun k hk=>⟨_,_,_,(a5 k hk) ▸ bW⟩),hm.aJ co fun h=>by have :=a5 _ h; omega⟩
 refine nl<|cB<|cW<|cW<|cM<|rg aa<|p (aV (.func (.func 43) #[] #[.pointer (some ⟨aY,0,none⟩)]) aa)<|nl<|cB ?_
 apply Dn (nP) (kP F xs xs.length) (fun W=>fW W B tb bd F xs∧kr W aY (some ⟨tb,0,none⟩)) (fun pre fp C=>fN C I (pre.length:Nat)∧(∀ k,¬fp k)∧(∃ G:Nat→Prop,Md G ag C∧∀ k,G k→k=I)∧pre.length < 400) (fun r pre fp C=>r=false∧fN C I (pre.length:Nat)∧(∀ k,¬fp k)∧(∃ G:Nat→Prop,Md G ag C∧∀ k,G k→k=I)∧(pre.length=400∨(A=1∧(pre.length:Int)=n))) rfl Gq (fun _=>rfl) (OB B tb bd F xs aF aY) (⟨bW,fun _=>id,⟨fun _=>False,Md.refl _ _,fun _ h=>h.elim⟩,by simp⟩) (fun pre fp W ⟨h1,h2,h3,O⟩=>⟨⟨b7.wk (ar h3),Wk.aJ (ar h3) b9⟩,fun k hk=>absurd hk<|h2 k⟩) (fun r pre fp W ⟨bU,h1,h2,h3,O⟩=>⟨⟨b7.wk (ar h3),Wk.aJ (ar h3) b9⟩,fun k hk=>absurd hk<|h2 k⟩) (fun pre fp W cn F ⟨h1,h2,h3,O⟩ hm aM=>⟨nr h1 hm ay aM,h2,(by obtain ⟨G,g1,g2⟩:=h3; exact ⟨G,g1.trans' hm (fun k hk ax=>by have :=(aM k ax).1; omega),g2⟩),O⟩) (fun r pre fp W cn F ⟨bU,h1,h2,h3,O⟩ hm aM=>⟨bU,nr h1 hm ay aM,h2,(by obtain ⟨G,g1,g2⟩:=h3; exact ⟨G,g1.trans' hm (fun k hk ax=>by have :=(aM k ax).1; omega),g2⟩),O⟩) (fun x b C=>C.heap[b]? =some (.cells (eC x).toArray 41 (0,0))) (An (f:=eC))
 intro l x C K aq
 exact rg aa<|e<|fg zx fun bS ep dT c0 cD=>e<|gj xL aa aa aa aa cD az fun eu cZ cI=>nl<|tn<|aq bS _ (c0.md.trans' cZ fun q al h=>by omega) cI
 intro l pre x rest fp bS C dB bo cw
 obtain ⟨h1,h2,⟨G,g1,g2⟩,O⟩:=bo
 have bD:=ar ⟨G,g1,g2⟩
 have b8:=aW.at dB O
 have dP:=(List.getElem?_eq_some_iff.1 b8).1
 have av:=Wk.aJ bD bg
 have aT:=a6 dh bD
 have h5:fN C ac n:=Wk.aJ bD bi
 have aD:=(aw ⟨G,g1,g2⟩).2
 refine aJ<|sq fun cj a2=>sq fun ck bq=> ?_
 have M:(fun w'=>Wk C w') C.drew:=(Md.refl _ _).drew
 refine bN (fun w'=>Wk C w') aa wide M<|hp 0 aa aj (fun w' J=>ld bz aa<|Wk.aR J<|(a7 h1).trans aa) M<|hp 1 aa aj (fun w' J=>ld oC aa<|Wk.aR J<|(a7 av).trans aa) M<|hp 2 aa aj (fun _ _=>bJ tO aa aa) M<|hp 3 aa aj (fun _ _=>ge aa aa) M<|hp 4 aa aj (fun _ _=>mv) M<|iK (t:=61) aa (fun h=>absurd h ab) fun dZ=>lr 5 aa aj aa aa aa (fun w' J=>di rv aa (aa) fun j ca=>(Wk.B J<|oD cw).bG j) M<|lr 6 aa aj aa aa aa (fun w' J=>ld oC aa<|Wk.aR J<|(a7 av).trans aa) M<|lr 7 aa aj aa aa aa (fun w' J=>ld bz aa<|Wk.aR J<|(a7 h1).trans aa) M<|lr 8 aa aj aa aa aa (fun _ _=>bc Th aa aa ab<|aO.ok ((pS aT).wk M)<|xQ ab) M<|lr 9 aa aj aa aa aa (fun w' J=>di sN aa (aa) fun j ca=>fA (f:=eC) (m:=5) (fun _=>rfl) ((pS aT).wk J) b8 j ca) M<|l7 10 aa aj aa aa aa<|cl Pv (VM x C.drew) aa fun ek ci c5=> ?_
 obtain ⟨rfl,cQ⟩:=c5
 have E:(fun w'=>Wk C w') ci:=M.trans cQ
 refine ⟨E,?_⟩
 refine lr 11 aa aj aa aa aa (fun _ _=>no aa) E<|hp 12 aa aj (fun _ _=>bu aa) E<|hn aj<|tn<|bq _ _<|cf (aa)<|aQ<|tn<|a2 _ _<|sq fun cm br=>rg aa<|p (ld bz aa<|(a7 (show _=_ from Wk.aJ E h1)).trans aa)<|p (bF ((pre.length+1:Nat):Int) aa aa<|bl ab ab)<|e<|cT gr aa aa (v:= .int .i64 ((pre.length+1:Nat):Int)) aa (Wk.aJ E h1) (by simp) fun ba U bj=> ?_
 have dg:(pre++ [x]).length=pre.length+1:=by simp
 have a4:ci.heap[I]? =some (.cells [.int .i64 (pre.length:Nat)].toArray 3 (0,0)):=Wk.aJ E h1
 have aZ:fN ba I ((pre++ [x]).length:Nat):=by rw [dg]; exact bj
 have cp:fN ba aB (A:Nat):=U.aJ (Wk.aJ E aD) (fun h=>by have h:aB=I:=h; omega)
 have cs:fN ba ac n:=U.aJ (Wk.aJ E h5) (fun h=>by have h:ac=I:=h; omega)
 have a8:∃ G:Nat→Prop,Md G ag ba∧∀ k,G k→k=I:=⟨fun k=>k=I,((g1.trans' E fun _ _ h=>h.elim).mono fun k _ hk=>g2 k hk).trans' U (fun k _ hk=>hk),fun k hk=>hk⟩
 refine nl<|tn<|br _ _<|sq fun dL bs=>rg aa<|p (ld bz aa<|(a7 bj).trans aa)<|p (bK aa aa)<|p mv<|gs (t:=74) aa (fun cr=> ?_) fun cr=> ?_
 exact sk aa aa aa aa<|sk aa aa aa aa<|sk aa aa aa aa<|kn aa aa aa<|kn aa aa aa<|kn aa aa aa<|sk aa aa aa aa<|p (bC aa)<|nl<|tn<|bs _ _<|ct aa<|ext<|my az<|⟨aa,(eV.wk E).trans (eV.md U fun k hk=>⟨_,_,_,hk ▸ a4⟩),fp,(Gw.wk E).trans (Gw.md U (fun k hk=> .inr<|by subst hk; exact ay) fun _ h=> .inl h),aa,aZ,h2,a8,.inl ab⟩
 refine pg aa aa aa (ld bz aa<|(a7 cp).trans aa)<|pg aa aa aa (bK aa aa)<|pg aa aa aa mv<|gs (t:=77) aa (fun cq=> ?_) fun cq=> ?_
 refine pg aa aa aa (ld bz aa<|(a7 bj).trans aa)<|pg aa aa aa (ld bz aa<|(a7 cs).trans aa)<|pg aa aa aa (bK aa aa)<|pg aa aa aa (bC aa)<|p (bu aa)<|nl<|tn<|bs _ _<|cd aa (fun bN=> ?_) fun bN=> ?_
 exact ext<|my az<|⟨aa,(eV.wk E).trans (eV.md U fun k hk=>⟨_,_,_,hk ▸ a4⟩),fp,(Gw.wk E).trans (Gw.md U (fun k hk=> .inr<|by subst hk; exact ay) fun _ h=> .inl h),aa,aZ,h2,a8,.inr ⟨ab,ab⟩⟩
 exact aQ<|bn<|⟨(eV.wk E).trans (eV.md U fun k hk=>⟨_,_,_,hk ▸ a4⟩),fp,(Gw.wk E).trans (Gw.md U (fun k hk=> .inr<|by subst hk; exact ay) fun _ h=> .inl h),⟨aZ,h2,a8,ab⟩⟩
 exact sk aa aa aa aa<|sk aa aa aa aa<|sk aa aa aa aa<|pg aa aa aa (bu aa)<|p (bu aa)<|nl<|tn<|bs _ _<|cf aa<|aQ<|bn<|⟨(eV.wk E).trans (eV.md U fun k hk=>⟨_,_,_,hk ▸ a4⟩),fp,(Gw.wk E).trans (Gw.md U (fun k hk=> .inr<|by subst hk; exact ay) fun _ h=> .inl h),⟨aZ,h2,a8,ab⟩⟩
 intro D C aG bo aq
 obtain ⟨fp,h1,h2,⟨G,g1,g2⟩,O⟩:=bo
 have al:(((kP F xs xs.length).length:Nat):Int)=min ((wl.length:Nat):Int) 400∨(A=1∧((kP F xs xs.length).length:Int)=n):= .inl<|aW.all O
 have ae:=ar ⟨G,g1,g2⟩
 obtain ⟨aP,aD⟩:=aw ⟨G,g1,g2⟩
 have av:=Wk.aJ ae bg
 have h5:fN C ac n:=Wk.aJ ae bi
 refine cB<|cW<|cM<|rg aa<|p (ld bz aa<|(a7 h1).trans aa)<|p (ld oC aa<|(a7 av).trans aa)<|p (bJ tO aa aa)<|p (mn aa aa)<|p (cO aa aa)<|p mv<|gs (t:=88) aa (fun au=> ?_) fun au=> ?_
 refine pg aa aa aa (ld bz aa<|(a7 aD).trans aa)<|pg aa aa aa (cO aa aa)<|pg aa aa aa mv<|gs (t:=91) aa (fun h=>absurd h fun h=>h<|by have :=(al.resolve_left au).1; omega) fun dd=>pg aa aa aa (ld bz aa<|(a7 h1).trans aa)<|pg aa aa aa (ld bz aa<|(a7 h5).trans aa)<|pg aa aa aa (cO aa aa)<|pg aa aa aa (bu aa)<|p (bC aa)<|nl<|cB<|cM<|cd aa (fun h=>absurd h fun h=>h (al.resolve_left au).2) fun db=> ?_
 exact aQ<|qK<|cB<|cM<|rg aa<|p (bF ((A+1:Nat):Int) aa aa<|bl ab ab)<|p mv<|nl<|qM (D::Y)<|⟨_,ab,A+1,ab,ae,(aP.cons aq<|aN.ne aG),(fun k hk=>by rcases e7.1 hk with rfl | hk; omega; exact aH k hk),aa,aa,aa,aa,aa,aa⟩
 exact sk aa aa aa aa<|sk aa aa aa aa<|sk aa aa aa aa<|kn aa aa aa<|kn aa aa aa<|kn aa aa aa<|sk aa aa aa aa<|p (bu aa)<|nl<|cB<|cM<|cf aa<|aQ<|qK<|cB<|cM<|rg aa<|p (bF ((A+1:Nat):Int) aa aa<|bl ab ab)<|p mv<|nl<|qM (D::Y)<|⟨_,ab,A+1,ab,ae,(aP.cons aq<|aN.ne aG),(fun k hk=>by rcases e7.1 hk with rfl | hk; omega; exact aH k hk),aa,aa,aa,aa,aa,aa⟩
 intro D C pre aG dj c9 aq
 obtain ⟨fp,_,h1,h2,⟨G,g1,g2⟩,O⟩:=c9
 have al:((pre.length:Nat):Int)=min ((wl.length:Nat):Int) 400∨(A=1∧(pre.length:Int)=n):=O.imp (fun h=>aW.pre dj h) fun h=>h
 have ae:=ar ⟨G,g1,g2⟩
 obtain ⟨aP,aD⟩:=aw ⟨G,g1,g2⟩
 have av:=Wk.aJ ae bg
 have h5:fN C ac n:=Wk.aJ ae bi
 refine cB<|cW<|cM<|rg aa<|p (ld bz aa<|(a7 h1).trans aa)<|p (ld oC aa<|(a7 av).trans aa)<|p (bJ tO aa aa)<|p (mn aa aa)<|p (cO aa aa)<|p mv<|gs (t:=88) aa (fun au=> ?_) fun au=> ?_
 refine pg aa aa aa (ld bz aa<|(a7 aD).trans aa)<|pg aa aa aa (cO aa aa)<|pg aa aa aa mv<|gs (t:=91) aa (fun h=>absurd h fun h=>h<|by have :=(al.resolve_left au).1; omega) fun dd=>pg aa aa aa (ld bz aa<|(a7 h1).trans aa)<|pg aa aa aa (ld bz aa<|(a7 h5).trans aa)<|pg aa aa aa (cO aa aa)<|pg aa aa aa (bu aa)<|p (bC aa)<|nl<|cB<|cM<|cd aa (fun h=>absurd h fun h=>h (al.resolve_left au).2) fun db=> ?_
 exact aQ<|qK<|cB<|cM<|rg aa<|p (bF ((A+1:Nat):Int) aa aa<|bl ab ab)<|p mv<|nl<|qM (D::Y)<|⟨_,ab,A+1,ab,ae,(aP.cons aq<|aN.ne aG),(fun k hk=>by rcases e7.1 hk with rfl | hk; omega; exact aH k hk),aa,aa,aa,aa,aa,aa⟩
 exact sk aa aa aa aa<|sk aa aa aa aa<|sk aa aa aa aa<|kn aa aa aa<|kn aa aa aa<|kn aa aa aa<|sk aa aa aa aa<|p (bu aa)<|nl<|cB<|cM<|cf aa<|aQ<|qK<|cB<|cM<|rg aa<|p (bF ((A+1:Nat):Int) aa aa<|bl ab ab)<|p mv<|nl<|qM (D::Y)<|⟨_,ab,A+1,ab,ae,(aP.cons aq<|aN.ne aG),(fun k hk=>by rcases e7.1 hk with rfl | hk; omega; exact aH k hk),aa,aa,aa,aa,aa,aa⟩
 exact fun _ _ _ _ _ h _=>by obtain ⟨_,h,_⟩:=h; cases h
 refine ext<|JW<|JV ?_
 refine JI ?_
 refine cB<|cW<|cM<|rg aa<|e<|cT xK aa aa (v:= .bool true) aa (Wk.aJ aL bV) (by simp) fun es b2 cG=> ?_
 have aw:=b4.nc<|eV.md b2 fun k hk=>⟨_,_,_,hk ▸ (Wk.aJ aL bV)⟩
 refine nl<|cB<|rY<|HF (Y) aw aa (vJ aa lY<|Bo _ _ aw<|(a7 cG).trans aa) ?_
 exact ⟨aa,(((cN.trans aI).trans aL).trans' b2 fun k hk ax=>by omega).trans' (Bp _ _) fun k hk h=>by have :=aH k h; omega⟩
theorem Zw (a t:Tx) (n:Int) (w:World) (bH:a.length≤1048576) (bS:t.length≤1048576) (bW:lC a t=none):
 bp prog 5 (bh [str a,str t,.int .i64 n]) w (fun v w'=>v= .bool true∧Wk w w'):=by
 refine uO [] func5 aa ntmps5 aa ?_
 refine cW<|cM<|rg aa<|e<|rB aa aa fun ae cw b6 a3 bo=> ?_
 have cn:=a3.size
 refine e<|fg MH fun aM b0 b7 aH br=> ?_
 have co:=aH.size
 refine nl<|cB<|cW<|cM<|rg aa<|p mv<|p mv<|e<|cl kz (KL a t b0 bH bS) aa fun bX bY bB=> ?_
 obtain ⟨a9,ar⟩:=bB
 rw [bW] at a9
 have bU:bX=_:=a9
 subst bU
 refine p mv<|p (xt aa aa)<|p (xt aa aa)<|p (xt aa aa)<|p aE<|p aE<|p aE<|nl<|cB<|cW<|cW<|cM<|rg aa<|p mv<|p (no aa)<|p mv<|gb (t:=25) aa (fun h=>absurd (h.symm.trans<|aa) eo) fun b9=>eg aa aa aa<|cl kA (Mm bY) aa fun cq Z bD=> ?_
 obtain ⟨rfl,au⟩:=bD
 have bt:=((a3.md.trans aH.md).trans ar).trans au
 have cj:=ar.size
 have ck:=au.size
 have bd:fN Z ae n:=Wk.aJ ((aH.md.trans ar).trans au) bo
 have bf:Z.heap[aM]? =some (.cells [.bool false].toArray 4 (0,0)):=Wk.aJ (ar.trans au) br
 refine pg aa aa aa (no aa)<|p (bu aa)<|nl<|cB<|cM<|cf (aa)<|aQ<|cB<|cW<|cM<|rg aa<|e<|fg MG fun aK ay b2 a1 bg=> ?_
 have cc:=a1.size
 obtain ⟨wl,ao,aq,aI,a4,a6⟩:∃ (wl:List bZ) (ao:Option Addr) (aq:Nat),wl= []∧ao=none∧aq=0:=⟨[],none,0,rfl,rfl,rfl⟩
 have bv:Wk Z ay:=a1.md
 have bI:ay.heap[aK]? =some (.cells [.slice ao wl.length aq].toArray 34 (0,0)):=by rw [aI,a4,a6]; exact bg
 have ca:bw ay Z.heap.size 43 5 (.slice ao wl.length aq) wl.length (jm wl):=by rw [aI,a4,a6]; exact dC _ _ _ _
 have ba:j9 ([]:List bZ) wl:=by rw [aI]; exact j9.nil
 refine nl<|cB<|cW<|cW<|cM<|rg aa<|p mv<|p (CP DP aa aa)<|nl<|cB<|cM<|cf (aa)<|aQ<|cB<|cW<|cM<|rg aa<|p mv<|e<|cl AD (Fe none ay) aa fun v49 an bE=> ?_
 obtain ⟨ap,rfl,b8,a5,aW⟩:=bE
 have av:Wk Z an:=bv.trans aW
 have cm:=av.size
 have aP:=Wk.aJ aW bI
 have aR:fN an ae n:=Wk.aJ av bd
 have aS:=Wk.aJ av bf
 refine p aE<|nl<|cB<|cW<|cW<|cM<|rg aa<|p mv<|p (Hw L8 aa aa)<|nl<|cB<|cM<|cf aa<|aQ<|cB<|cW<|cW<|cM<|rg aa<|p mv<|nl<|cB<|yJ ?_
 refine JU ([]) (fun aN C ac aA=> ∃ (i:Nat),(i≤3)∧(Wk an aA)∧(kt C aA)∧(∀ D∈C,Z.heap.size≤D)∧(ac 5= .pointer (some ⟨ae,0,none⟩))∧(ac 6= .pointer (some ⟨aM,0,none⟩))∧(ac 10= .pointer (some ⟨aK,0,none⟩))∧(ac 12= .func (.func 43) #[] #[.pointer (some ⟨ap,0,none⟩)])∧(ac 52= .int .i64 (i:Nat))∧(3 - i=aN)) _ ⟨0,ab,(Md.refl _ _),(⟨fun _ h=>(by cases h),NO⟩),(fun _ h=>by cases h),aa,aa,aa,aa,aa,aa⟩ ?_
 rintro aN C ac aA ⟨i,cb,ai,a0,ah,bP,bR,bN,bO,bQ,rfl⟩
 refine oN 5 bP<|oN 6 bR<|oN 10 bN<|oN 12 bO<|oN 52 bQ ?_
 have cp:=ai.size
 refine cW<|cM<|rg aa<|p (lt aa aa)<|nl<|cB<|cW<|cM<|cd aa (fun bT=> ?_) fun bT=> ?_
 refine aQ<|cB<|cW<|yJ ?_
 refine cW<|cM<|rg aa<|p (aV (.int .i64 (i:Nat)) aa)<|e<|fg wa fun aB cr b3 a2 bi=> ?_
 have ce:=a2.size
 refine e<|cT gr aa aa (v:= .int .i64 (i:Nat)) aa bi (by simp) fun cu aY bm=> ?_
 have ch:=aY.size
 refine nl<|cB<|cW<|cM<|rg aa<|e<|fg wa fun J cs b4 aG bj=> ?_
 have cg:=aG.size
 refine e<|cT gr aa aa (v:= .int .i64 0) aa bj (by simp) fun O aF aT=> ?_
 have ci:=aF.size
 have aU:Wk aA O:=((a2.md.trans' aY fun q M h=>by omega).trans aG.md).trans' aF fun q M h=>by omega
 have bs:Wk an O:=ai.trans aU
 have a8:J < O.heap.size:=ab
 have bc:fN O aB (i:Nat):=aF.aJ (Wk.aJ aG.md bm) (fun h=>by have h:aB=J:=h; omega)
 have al:=a0.nc<|eV.wk aU
 have aw:∀ {W:World},(∃ G:Nat→Prop,Md G O W∧∀ k,G k→k=J)→Wk an W:=fun ⟨G,hm,ax⟩=>bs.trans' hm fun k hk Y=>by have :=ax k Y; omega
 have ak:∀ {W:World},(∃ G:Nat→Prop,Md G O W∧∀ k,G k→k=J)→kt C W∧fN W aB (i:Nat):=fun ⟨G,hm,ax⟩=>⟨al.nc (eV.md hm fun k hk=>⟨_,_,_,(ax k hk) ▸ aT⟩),hm.aJ bc fun h=>by have :=ax _ h; omega⟩
 refine nl<|cB<|cW<|cW<|cM<|rg aa<|p (aV (.func (.func 43) #[] #[.pointer (some ⟨ap,0,none⟩)]) aa)<|nl<|cB ?_
 apply Dn (nP) (([]:List bZ)) (fun W=>kr W ap none) (fun pre fp A=>fN A J (pre.length:Nat)∧(∀ k,¬fp k)∧(∃ G:Nat→Prop,Md G O A∧∀ k,G k→k=J)∧pre.length < 400) (fun r pre fp A=>r=false∧fN A J (pre.length:Nat)∧(∀ k,¬fp k)∧(∃ G:Nat→Prop,Md G O A∧∀ k,G k→k=J)∧(pre.length=400∨(i=1∧(pre.length:Int)=n))) rfl Gq (fun _=>rfl) (Oz ap) (⟨aT,fun _=>id,⟨fun _=>False,Md.refl _ _,fun _ h=>h.elim⟩,by simp⟩) (fun pre fp W ⟨h1,h2,h3,E⟩=>⟨(Wk.aJ (aw h3) a5),fun k hk=>absurd hk<|h2 k⟩) (fun r pre fp W ⟨aO,h1,h2,h3,E⟩=>⟨(Wk.aJ (aw h3) a5),fun k hk=>absurd hk<|h2 k⟩) (fun pre fp W bb F ⟨h1,h2,h3,E⟩ hm aj=>⟨nr h1 hm a8 aj,h2,(by obtain ⟨G,g1,g2⟩:=h3; exact ⟨G,g1.trans' hm (fun k hk Y=>by have :=(aj k Y).1; omega),g2⟩),E⟩) (fun r pre fp W bb F ⟨aO,h1,h2,h3,E⟩ hm aj=>⟨aO,nr h1 hm a8 aj,h2,(by obtain ⟨G,g1,g2⟩:=h3; exact ⟨G,g1.trans' hm (fun k hk Y=>by have :=(aj k Y).1; omega),g2⟩),E⟩) (fun x b A=>A.heap[b]? =some (.cells (eC x).toArray 41 (0,0))) (An (f:=eC))
 intro l x A K U
 exact rg aa<|e<|fg zx fun aL ct b5 bA bk=>e<|gj xL aa aa aa aa bk az fun cx bx bq=>nl<|tn<|U aL _ (bA.md.trans' bx fun q M h=>by omega) bq
 intro l pre x rest fp aL A bV aX b1
 cases pre <;> cases bV
 intro D A ag aX U
 obtain ⟨fp,h1,h2,⟨G,g1,g2⟩,E⟩:=aX
 have M:((([]:List bZ).length:Nat):Int)=min ((wl.length:Nat):Int) 400∨(i=1∧(([]:List bZ).length:Int)=n):= .inl<|ba.all E
 have I:=aw ⟨G,g1,g2⟩
 obtain ⟨am,aD⟩:=ak ⟨G,g1,g2⟩
 have aC:=Wk.aJ I aP
 have h5:fN A ae n:=Wk.aJ I aR
 refine cB<|cW<|cM<|rg aa<|p (ld bz aa<|(a7 h1).trans aa)<|p (ld oC aa<|(a7 aC).trans aa)<|p (bJ tO aa aa)<|p (mn aa aa)<|p (cO aa aa)<|p mv<|gs (t:=88) aa (fun V=> ?_) fun V=> ?_
 refine pg aa aa aa (ld bz aa<|(a7 aD).trans aa)<|pg aa aa aa (cO aa aa)<|pg aa aa aa mv<|gs (t:=91) aa (fun h=>absurd h fun h=>h<|by have :=(M.resolve_left V).1; omega) fun bL=>pg aa aa aa (ld bz aa<|(a7 h1).trans aa)<|pg aa aa aa (ld bz aa<|(a7 h5).trans aa)<|pg aa aa aa (cO aa aa)<|pg aa aa aa (bu aa)<|p (bC aa)<|nl<|cB<|cM<|cd aa (fun h=>absurd h fun h=>h (M.resolve_left V).2) fun bK=> ?_
 exact aQ<|qK<|cB<|cM<|rg aa<|p (bF ((i+1:Nat):Int) aa aa<|bl ab ab)<|p mv<|nl<|qM (D::C)<|⟨_,ab,i+1,ab,I,(am.cons U<|al.ne ag),(fun k hk=>by rcases e7.1 hk with rfl | hk; omega; exact ah k hk),aa,aa,aa,aa,aa,aa⟩
 exact sk aa aa aa aa<|sk aa aa aa aa<|sk aa aa aa aa<|kn aa aa aa<|kn aa aa aa<|kn aa aa aa<|sk aa aa aa aa<|p (bu aa)<|nl<|cB<|cM<|cf aa<|aQ<|qK<|cB<|cM<|rg aa<|p (bF ((i+1:Nat):Int) aa aa<|bl ab ab)<|p mv<|nl<|qM (D::C)<|⟨_,ab,i+1,ab,I,(am.cons U<|al.ne ag),(fun k hk=>by rcases e7.1 hk with rfl | hk; omega; exact ah k hk),aa,aa,aa,aa,aa,aa⟩
 intro D A pre ag bM bG U
 obtain ⟨fp,_,h1,h2,⟨G,g1,g2⟩,E⟩:=bG
 have M:((pre.length:Nat):Int)=min ((wl.length:Nat):Int) 400∨(i=1∧(pre.length:Int)=n):=E.imp (fun h=>ba.pre bM h) fun h=>h
 have I:=aw ⟨G,g1,g2⟩
 obtain ⟨am,aD⟩:=ak ⟨G,g1,g2⟩
 have aC:=Wk.aJ I aP
 have h5:fN A ae n:=Wk.aJ I aR
 refine cB<|cW<|cM<|rg aa<|p (ld bz aa<|(a7 h1).trans aa)<|p (ld oC aa<|(a7 aC).trans aa)<|p (bJ tO aa aa)<|p (mn aa aa)<|p (cO aa aa)<|p mv<|gs (t:=88) aa (fun V=> ?_) fun V=> ?_
 refine pg aa aa aa (ld bz aa<|(a7 aD).trans aa)<|pg aa aa aa (cO aa aa)<|pg aa aa aa mv<|gs (t:=91) aa (fun h=>absurd h fun h=>h<|by have :=(M.resolve_left V).1; omega) fun bL=>pg aa aa aa (ld bz aa<|(a7 h1).trans aa)<|pg aa aa aa (ld bz aa<|(a7 h5).trans aa)<|pg aa aa aa (cO aa aa)<|pg aa aa aa (bu aa)<|p (bC aa)<|nl<|cB<|cM<|cd aa (fun h=>absurd h fun h=>h (M.resolve_left V).2) fun bK=> ?_
 exact aQ<|qK<|cB<|cM<|rg aa<|p (bF ((i+1:Nat):Int) aa aa<|bl ab ab)<|p mv<|nl<|qM (D::C)<|⟨_,ab,i+1,ab,I,(am.cons U<|al.ne ag),(fun k hk=>by rcases e7.1 hk with rfl | hk; omega; exact ah k hk),aa,aa,aa,aa,aa,aa⟩
 exact sk aa aa aa aa<|sk aa aa aa aa<|sk aa aa aa aa<|kn aa aa aa<|kn aa aa aa<|kn aa aa aa<|sk aa aa aa aa<|p (bu aa)<|nl<|cB<|cM<|cf aa<|aQ<|qK<|cB<|cM<|rg aa<|p (bF ((i+1:Nat):Int) aa aa<|bl ab ab)<|p mv<|nl<|qM (D::C)<|⟨_,ab,i+1,ab,I,(am.cons U<|al.ne ag),(fun k hk=>by rcases e7.1 hk with rfl | hk; omega; exact ah k hk),aa,aa,aa,aa,aa,aa⟩
 exact fun _ _ _ _ _ h _=>by obtain ⟨_,h,_⟩:=h; cases h
 refine ext<|JW<|JV ?_
 refine JI ?_
 refine cB<|cW<|cM<|rg aa<|e<|cT xK aa aa (v:= .bool true) aa (Wk.aJ ai aS) (by simp) fun cv aZ bn=> ?_
 have ak:=a0.nc<|eV.md aZ fun k hk=>⟨_,_,_,hk ▸ (Wk.aJ ai aS)⟩
 refine nl<|cB<|rY<|HF (C) ak aa (vJ aa lY<|Bo _ _ ak<|(a7 bn).trans aa) ?_
 exact ⟨aa,(((bt.trans av).trans ai).trans' aZ fun k hk Y=>by omega).trans' (Bp _ _) fun k hk h=>by have :=ah k h; omega⟩
theorem Zy (a t:Tx) (n:Int) (w:World) (i:a.length≤1048576) (q:t.length≤1048576):bp prog 5 [str a,str t,.int .i64 n].toArray w (fun v w'=>v= .bool true∧Wk w w'):=by
 cases hx:lC a t with
 | none=>exact Zw a t n w i q hx
 | some Y=>obtain ⟨F,xs⟩:=Y; exact Zx a t n w i q F xs hx
end Go.Hb
end
