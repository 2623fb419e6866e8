/-
  Walks and plain laws that the law rests on, laid together. No conditions but those that each theorem names.
-/
import Derived.Test.YtkiemnnhcilhpaaGreatDoorMnDicOrder5
set_option linter.unusedVariables false
section
set_option maxRecDepth 20000
set_option maxHeartbeats 1000000
namespace Go.Hb.ss
open Go.Hb.c6
open Go.Proofs
open Go.Hb.ff Go.Hb.fP Go.Hb.gh Go.Hb.kr Go.Hb.iW Go.Hb.kP Go.Hb.gu Go.Hb.kt Go.Hb.kR Go.Hb.lE Go.Hb.nK Go.Hb.nJ Go.Hb.nI Go.Hb.si Go.Hb.gP Go.Hb.sw Go.Hb.sr
theorem Ec {M:Nat} :∀ {ls:List Tx},(∀ l∈ls,l.length≤M)→(dB ls).length≤ls.length*(M+2):=by
 intro ls
 induction ls with
 | nil=>intro _; simp [dB]
 | cons x ls c=>
   intro h
   have h1:=c fun l a=>h l (List.mem_cons_of_mem _ a)
   have h2:=h x (List.mem_cons_self ..)
   rw [qZ,List.length_append,List.length_cons,List.length_cons,List.length_cons,Nat.add_mul]
   omega
def bA (t:Tx):List Tx:=((bY t).drop 1).map fun q=>q.2.getD 0 []
theorem Cj {F:aM} {row:List Tx} {x:bR} (h:du F row= .ok x):row.length=1:=Classical.byContradiction fun a=>by rw [uo a] at h; cases h
theorem oX {F:aM} {t:Tx} {xs:List bR} (h:ef F t= .ok xs):(bY t).length=xs.length+1∧(bA t).length=xs.length∧(bA t).map (fun y=>du F [y])=xs.map .ok∧∀ y∈bA t,jY y:=by
 have j:¬65536 < t.length:=fun h2=>by rw [mR h2] at h; cases h
 cases hr:bY t with
 | nil=>rw [ue j hr] at h; cases h
 | cons q rows=>
   obtain ⟨ln,row⟩:=q
   have h1:row.length=1:=Classical.byContradiction fun h2=>by rw [ud j hr h2] at h; cases h
   cases hn:cR (row.getD 0 []) 8192 with
   | error e=>rw [uf j hr h1 hn] at h; cases h
   | ok n=>
     rw [ou j hr h1 hn] at h
     have I:=uw h
     have s:=Cp h
     have p:bA t=rows.map fun q=>q.2.getD 0 []:=by unfold bA; rw [hr]; rfl
     have A:∀ q∈rows,q.2.length=1:=fun q c=>by
      obtain ⟨i,hi,G⟩:=List.mem_iff_getElem.1 c
      have h5:=congrArg (·[i]?) s
      simp only [List.getElem?_map,List.getElem?_eq_getElem hi] at h5
      rw [G] at h5
      cases hx:xs[i]? with
      | none=>rw [hx] at h5; cases h5
      | some x=>rw [hx] at h5; exact Cj (Option.some.inj h5)
     refine ⟨by simp only [List.length_cons]; omega,by rw [p,List.length_map]; omega,?_,fun y C=> ?_⟩
     · rw [p,List.map_map,← s]
       refine List.map_congr_left fun q c=> ?_
       have E:=A q c
       show du F [q.2.getD 0 []]=du F q.2
       match hq2:q.2,E with
       | [a],_=>rfl
     · rw [p] at C
       obtain ⟨q,c,rfl⟩:=List.mem_map.1 C
       exact jY.of (t:=t) (q:=q) (by rw [hr]; exact List.mem_cons_of_mem _ c) (dK (by have :=A q c; omega))
def dM {α:Type} (l:List α) (i j:Nat) (a b:α):List α:=((l.set i b).set j a)++ [a]
theorem xF {α β:Type} (f:α→β) (l:List α) (i j:Nat) (a b:α):(dM l i j a b).map f=dM (l.map f) i j (f a) (f b):=by simp [dM,List.map_set]
theorem mh {α:Type} (l:List α) (i j:Nat) (a b:α):(dM l i j a b).length=l.length+1:=by simp [dM]
theorem Ho {α:Type} {l:List α} {i j:Nat} {a b:α} (hi:i < l.length) (q:j < l.length) (c:l[i]? =some a) (p:l[j]? =some b):(dM l i j a b)[i]? =some b:=by
 unfold dM
 rw [List.getElem?_append_left (by simpa using hi),List.getElem?_set]
 by_cases h:j=i
 · subst h; rw [if_pos rfl,if_pos (by simpa using hi)]; rw [← c,p]
 · rw [if_neg h,List.getElem?_set,if_pos rfl,if_pos hi]
theorem Hp {α:Type} {l:List α} {i j:Nat} {a b:α} (c:j < l.length):(dM l i j a b)[j]? =some a:=by
 unfold dM
 rw [List.getElem?_append_left (by simpa using c),List.getElem?_set,if_pos rfl,if_pos (by simpa using c)]
theorem Hr {α:Type} {l:List α} {i j:Nat} {a b:α} :(dM l i j a b)[l.length]? =some a:=by
 unfold dM
 rw [List.getElem?_append_right (by simp)]; simp
theorem Hq {α:Type} {l:List α} {i j k:Nat} {a b:α} (hk:k < l.length) (h1:k≠i) (h2:k≠j):(dM l i j a b)[k]? =l[k]? :=by
 unfold dM
 rw [List.getElem?_append_left (by simpa using hk),List.getElem?_set,if_neg (fun h=>h2 h.symm),List.getElem?_set,if_neg (fun h=>h1 h.symm)]
def gn (c:List Tx) (i j:Nat) (a b:Tx):List Tx:=fV (c.length+1)::dM c i j a b
theorem rZ {α:Type} {l:List α} {i j:Nat} {a b y:α} (c:a∈l) (p:b∈l) (h:y∈dM l i j a b):y∈l:=by
 unfold dM at h
 rcases List.mem_append.1 h with h | h
 · rcases List.mem_or_eq_of_mem_set h with h | rfl
   · rcases List.mem_or_eq_of_mem_set h with h | rfl
     · exact h
     · exact p
   · exact c
 · rw [List.mem_singleton.1 h]; exact c
theorem FH {F:aM} {t:Tx} {xs:List bR} {i j:Nat} {a b:Tx} {s A:bR} (h:ef F t= .ok xs) (c:xs.length < 8192) (E:(bA t)[i]? =some a) (G:(bA t)[j]? =some b) (U:xs[i]? =some s) (V:xs[j]? =some A)
 (hs:¬65536 < (dB (gn (bA t) i j a b)).length):ef F (dB (gn (bA t) i j a b))= .ok (dM xs i j s A):=by
 obtain ⟨_,h2,h3,h4⟩:=oX h
 have I:∀ y∈dM (bA t) i j a b,jY y:=fun y Y=>h4 y (rZ (List.mem_of_getElem? E) (List.mem_of_getElem? G) Y)
 have M:∀ l∈gn (bA t) i j a b,10∉l:=fun l c=>by
  rcases List.mem_cons.1 c with rfl | c
  · exact (tZ _).2.2.2
  · exact (I l c).2.2.2
 have hm:jz (dB (gn (bA t) i j a b))=false :=by
  unfold gn; rw [qZ]; exact HQ
 have O:bY (dB (gn (bA t) i j a b))=(1,[fV ((bA t).length+1)])::((dM (bA t) i j a b).zipIdx 2).map fun p=>(p.2,[p.1]):=by
  unfold bY
  rw [EA M hm]
  show fM _ 1 ++fN 2 _=_
  rw [(tZ _).row,GC _ _ I]; rfl
 rw [ou hs O rfl (BO (show (bA t).length+1≤8192 by omega))]
 have hlen:(((dM (bA t) i j a b).zipIdx 2).map fun p=>((p.2,[p.1]):Rw)).length=(bA t).length+1:=by simp [mh]
 conv =>lhs; arg 3; rw [← hlen]
 refine Cn ?_
 have e:(((dM (bA t) i j a b).zipIdx 2).map fun p=>((p.2,[p.1]):Rw)).map (fun q=>du F q.2)=(((dM (bA t) i j a b).zipIdx 2).map Prod.fst).map fun y=>du F [y]:=by rw [List.map_map,List.map_map]; rfl
 have get:∀ (k:Nat) (y:Tx) (x:bR),(bA t)[k]? =some y→xs[k]? =some x→du F [y]= .ok x:=fun k y x h5 J=>by
  have C:=congrArg (·[k]?) h3
  simp only [List.getElem?_map,h5,J] at C
  exact Option.some.inj C
 rw [e,List.zipIdx_map_fst,xF,xF,h3,get i a s E U,get j b A G V]
theorem lf {w:World} {B i:Nat} {vs:List Value} {xs:List bR} {x:bR} (q:bX w B 71 vs (xs.map (·.2))) (p:xs[i]? =some x):∃ u c,(xs.zip vs)[i]? =some (x,.slice u x.2.length c)∧Tg w B 71 x.2.length (.slice u x.2.length c) (x.2.map aI):=by
 have hi:=(List.getElem?_eq_some_iff.1 p).1
 have A:(xs.map (·.2)).getD i []=x.2:=by rw [List.getD_eq_getElem?_getD,List.getElem?_map,p]; rfl
 obtain ⟨C,s,j⟩:=bX.get q (show i < (xs.map (·.2)).length by rw [List.length_map]; omega)
 rw [A] at j
 obtain ⟨a,c,rfl⟩:=j.slice
 exact ⟨a,c,List.getElem?_zip_eq_some.2 ⟨p,s⟩,j⟩
theorem FF (a t:Tx) (s A:Int) (w:World) (aT:a.length≤1048576) (aZ:t.length≤1048576) (le aL:Nat) (aK:eM a= .error (le,aL)):
 a3 Tryz.prog 4 (List.toArray [.agg [str a,str t,.int .i64 s,.int .i64 A].toArray]) w (fun v w'=>v= .bool true∧Wk w w'):=by
 refine enter Tryz.func4 U Tryz.ntmps4 U (ag (fun _ ad=>(e (gx U fun ap ab aU aD aq=> ?_))))
 have ar:bl ab.heap ap [str a,str t,.int .i64 s,.int .i64 A]:=aq
 refine au (((ad _ _ (sq (fun _ ah=>ag (fun _ ai=>(e (cl mH (nG ab) U fun a7 aN aE=> ?_))))))))
 obtain ⟨rfl,G⟩:=aE
 have E:=Wk.B G ar
 refine p (no U) (az ((ai _ _ (cf (U) (aH (tn (ah _ _ (ag (fun _ aj=>p (fa mZ U) (p (ld bF U (E.bI 0)) (e (cl fU (lG a aN aa) U fun aM aO aF=> ?_))))))))))))
 obtain ⟨Z,c⟩:=aF
 rw [aK] at Z
 have aJ:aM=_:=Z
 subst aJ
 refine p mv (p (xt U U) (p (xt U U) (e (al gd fun aR a9 aV V av=> ?_))))
 have a4:=V.size
 have a0:=c.size
 refine p aA (e (b8 dW U U U U (av) (by simp) fun ac M aS=> ?_))
 have I:Wk aO ac:=V.md.trans' M (fun q aI h=>by omega)
 have a1:=M.size
 refine az ((aj _ _ (ag (fun _ ak=>(p mv (p (fa kE U) (p (ld bF U ((Wk.B (c.trans I) E).bI 1)) (e (cl fH (Cb t ac) U fun a8 aP aG=> ?_)))))))))
 obtain ⟨rfl,J⟩:=aG
 refine p mv (p (xt U U) (p (xt U U) (e (fC gd fun C ba aW Y ax=> ?_))))
 have a6:=Y.size
 have a2:=J.size
 refine p aA (e (fy dW U U U U ax ao fun i O aw=> ?_))
 have aC:Wk aP i:=Y.md.trans' O (fun q aI h=>by omega)
 have a5:=O.size
 have ay:i.heap[C]? =some (.cells ([.int .i64 2,ae 0,ae 1]:List Value).toArray 25 (0,0)):=aw
 have aB:=aD.md.trans (G.trans (c.trans (I.trans (J.trans aC))))
 refine az ((ak _ _ (sq (fun _ aQ=>ag (fun _ am=>(p (cC fG U (U) (fun j aY=>(show bl i.heap C [.int .i64 2,ae 0,ae 1] from ⟨_,ay⟩).bI j)) (p (bU (ps:= []) (L:= [.int .i64 0,.int .i64 0,.int .i64 0]) iU U (U)) (p (lr U U) (az ((am _ _ (cd U (fun aX=> ?_) (fun h=>absurd (fun h=>absurd h.1 ao) h)))))))))))))
 exact ag (fun _ an=>(p mv (p (jc nz U U) (au (((an _ _ (rt (tr (f1 U U (⟨U,aB⟩)))))))))))
theorem FD (a t:Tx) (A C:Int) (w:World) (a0:a.length≤1048576) (aQ:t.length≤1048576) (F:aM) (aT:eM a= .ok F) (ln er:Nat) (hd:ef F t= .error (ln,er)):
 a3 Tryz.prog 4 (List.toArray [.agg [str a,str t,.int .i64 A,.int .i64 C].toArray]) w (fun v w'=>v= .bool true∧Wk w w'):=by
 refine enter Tryz.func4 U Tryz.ntmps4 U (ag (fun _ aj=>(e (gx U fun av ad a1 aJ aw=> ?_))))
 have ax:bl ad.heap av [str a,str t,.int .i64 A,.int .i64 C]:=aw
 refine au (((aj _ _ (sq (fun _ ak=>ag (fun _ am=>(e (cl mH (nG ad) U fun bd ah aL=> ?_))))))))
 obtain ⟨rfl,I⟩:=aL
 have G:=Wk.B I ax
 refine p (no U) (az ((am _ _ (cf (U) (aH (tn (ak _ _ (ag (fun _ an=>p (fa mZ U) (p (ld bF U (G.bI 0)) (e (cl fU (lG a ah aa) U fun bf aV aN=> ?_))))))))))))
 obtain ⟨ab,c⟩:=aN
 rw [aT] at ab
 obtain ⟨fb,mc,V,aR,aI,ay,aK⟩:=ab
 subst aR
 refine p mv (p (xt U U) (p (xt U U) (e (al gd fun aY bg a2 Y aB=> ?_))))
 have ba:=Y.size
 have a7:=c.size
 refine p aA (e (b8 dW U U U U (aB) (by simp) fun ai M aZ=> ?_))
 have i:Wk aV ai:=Y.md.trans' M (fun q aP h=>by omega)
 have a8:=M.size
 refine az ((an _ _ (ag (fun _ ap=>(p mv (p (fa kE U) (p (ld bF U ((Wk.B (c.trans i) G).bI 1)) (e (cl fH (lP ah.heap.size fb mc F V t ai (aI.wk i) ay aK aQ) U fun aU aW aO=> ?_)))))))))
 obtain ⟨ac,J⟩:=aO
 rw [hd] at ac
 have aS:aU=_:=ac
 subst aS
 refine p mv (p (xt U U) (p (xt U U) (e (fC gd fun E bh a4 Z aD=> ?_))))
 have bc:=Z.size
 have a9:=J.size
 refine p aA (e (fy dW U U U U aD ao fun s O aC=> ?_))
 have aG:Wk aW s:=Z.md.trans' O (fun q aP h=>by omega)
 have bb:=O.size
 have aE:s.heap[E]? =some (.cells ([.int .i64 2,ae ln,ae er]:List Value).toArray 25 (0,0)):=aC
 have aF:=aJ.md.trans (I.trans (c.trans (i.trans (J.trans aG))))
 refine az ((ap _ _ (sq (fun _ aX=>ag (fun _ aq=>(p (cC fG U (U) (fun j a6=>(show bl s.heap E [.int .i64 2,ae ln,ae er] from ⟨_,aE⟩).bI j)) (p (bU (ps:= []) (L:= [.int .i64 0,.int .i64 0,.int .i64 0]) iU U (U)) (p (lr U U) (az ((aq _ _ (cd U (fun a5=> ?_) (fun h=>absurd (fun h=>absurd h.1 ao) h)))))))))))))
 exact ag (fun _ ar=>(p mv (p (jc nz U U) (au (((ar _ _ (rt (tr (f1 U U (⟨U,aF⟩)))))))))))
theorem FG (a t:Tx) (I J:Int) (w:World) (bx:a.length≤1048576) (ai:t.length≤1048576) (F:aM) (c:eM a= .ok F) (xs:List bR) (hd:ef F t= .ok xs) (bJ:xs.length=0):
 a3 Tryz.prog 4 (List.toArray [.agg [str a,str t,.int .i64 I,.int .i64 J].toArray]) w (fun v w'=>v= .bool true∧Wk w w'):=by
 obtain ⟨a1,bO⟩:(∀ x∈xs,lF x)∧xs.length≤8192:=ot (nT c) (nU c) hd
 obtain ⟨bK,bL,_,bM⟩:=oX hd
 have a8:¬65536 < t.length:=fun h=>by rw [mR h] at hd; cases hd
 refine enter Tryz.func4 U Tryz.ntmps4 U (ag (fun _ an=>(e (gx U fun aF aj bA aS aG=> ?_))))
 have aI:bl aj.heap aF [str a,str t,.int .i64 I,.int .i64 J]:=aG
 refine au (((an _ _ (sq (fun _ av=>ag (fun _ aw=>(e (cl mH (nG aj) U fun bX ak aV=> ?_))))))))
 obtain ⟨rfl,O⟩:=aV
 have A:=Wk.B O aI
 refine p (no U) (az ((aw _ _ (cf (U) (aH (tn (av _ _ (ag (fun _ ax=>p (fa mZ U) (p (ld bF U (A.bI 0)) (e (cl fU (lG a ak aa) U fun bY bg aW=> ?_))))))))))))
 obtain ⟨ae,i⟩:=aW
 rw [c] at ae
 obtain ⟨fb,mc,V,a9,aR,aJ,aT⟩:=ae
 subst a9
 refine p mv (p (xt U U) (p (xt U U) (e (al gd fun bs b2 bB ab aK=> ?_))))
 have bT:=ab.size
 have bP:=i.size
 refine p aA (e (b8 dW U U U U (aK) (by simp) fun am Y bw=> ?_))
 have s:Wk bg am:=ab.md.trans' Y (fun q a6 h=>by omega)
 have bQ:=Y.size
 refine az ((ax _ _ (ag (fun _ ay=>(p mv (p (fa kE U) (p (ld bF U ((Wk.B (i.trans s) A).bI 1)) (e (cl fH (lP ak.heap.size fb mc F V t am (aR.wk s) aJ aT ai) U fun bZ bh aX=> ?_)))))))))
 obtain ⟨ah,C⟩:=aX
 rw [hd] at ah
 obtain ⟨B,bj,bc,bd,bf,bv,ba,a0,_⟩:=ah
 subst ba
 refine p mv (p (xt U U) (p (xt U U) (e (fC gd fun M b4 bC ac aN=> ?_))))
 have bW:=ac.size
 have bS:=C.size
 refine p aA (e (fy dW U U U U aN ao fun G Z aL=> ?_))
 have E:Wk bh G:=ac.md.trans' Z (fun q a6 h=>by omega)
 have bV:=Z.size
 have aO:G.heap[M]? =some (.cells ([.int .i64 0,.int .i64 0,.int .i64 0]:List Value).toArray 25 (0,0)):=aL
 have aP:=aS.md.trans (O.trans (i.trans (s.trans (C.trans E))))
 refine az ((ay _ _ (sq (fun _ aB=>ag (fun _ aC=>(p (cC fG U (U) (fun j bH=>(show bl G.heap M [.int .i64 0,.int .i64 0,.int .i64 0] from ⟨_,aO⟩).bI j)) (p (bU (ps:= []) (L:= [.int .i64 0,.int .i64 0,.int .i64 0]) iU U (U)) (p (lr U U) (az ((aC _ _ (cd U (fun h=>absurd h (fun h=>h ⟨U,U,U⟩)) (fun bD=>aH (tn (aB _ _ (ag (fun _ aD=>(p (fa kE U) (p (ld bF U ((Wk.B (i.trans (s.trans (C.trans E))) A).bI 1)) (e (cl p7 (rM t _ ai) U fun b0 bi aY=> ?_)))))))))))))))))))))
 obtain ⟨⟨bn,rfl,ad⟩,hE44⟩:=aY
 rw [if_neg a8] at ad
 obtain ⟨vr,a5,bN⟩:=ad
 obtain ⟨bq,bt,rfl⟩:=cE a5
 refine p mv (p (xt U U) (p (xt U U) (p aA (au (((aD _ _ (sq (fun _ aE=>rg U (p mv (e (cl mI (mQ B bj bc bd bf xs bi (a0.wk (E.trans hE44)) aa (fun x c=>(a1 x c).2.1)) U fun b1 b3 aZ=> ?_))))))))))))
 obtain ⟨a2,aQ⟩:=aZ
 obtain ⟨vx,a4,bz,_⟩:=a2
 have a7:=cE a4
 obtain ⟨br,bu,bb⟩:=a7
 subst bb
 refine au (((aE _ _ (ag (fun _ ap=>(p mv (p (bo jO U U) (p aA (az ((ap _ _ (sq (fun _ bk=>ag (fun _ aq=>(p mv (p (bp U U) (p mv (gs (t:=53) U (fun bG=> ?_) (fun h=>absurd aa h)))))))))))))))))))
 exact sk U U U U (sk U U U U (sk U U U U (sk U U U U (sk U U U U (p (bE U) (p mv (sk U U U U (sk U U U U (p (bE U) (az ((aq _ _ (ct U (ag (fun _ ar=>(p mv (p (bo nA U U) (p mv (p (bm ((xs.length+1:Nat):Int) U U (aU aa aa)) (p (bp U U) (au (((ar _ _ (rt (tr (f1 U U (⟨congrArg Value.bool (decide_eq_true aa),aP.trans (hE44.trans aQ)⟩))))))))))))))))))))))))))))
theorem FC (a t:Tx) (I J:Int) (w:World) (bA:a.length≤1048576) (ai:t.length≤1048576) (F:aM) (c:eM a= .ok F) (xs:List bR) (hd:ef F t= .ok xs) (bN:0 < xs.length) (bC:xs.length=8192):
 a3 Tryz.prog 4 (List.toArray [.agg [str a,str t,.int .i64 I,.int .i64 J].toArray]) w (fun v w'=>v= .bool true∧Wk w w'):=by
 obtain ⟨a1,bS⟩:(∀ x∈xs,lF x)∧xs.length≤8192:=ot (nT c) (nU c) hd
 obtain ⟨a6,bO,_,bP⟩:=oX hd
 have a9:¬65536 < t.length:=fun h=>by rw [mR h] at hd; cases hd
 refine enter Tryz.func4 U Tryz.ntmps4 U (ag (fun _ an=>(e (gx U fun aF aj bD aS aG=> ?_))))
 have aI:bl aj.heap aF [str a,str t,.int .i64 I,.int .i64 J]:=aG
 refine au (((an _ _ (sq (fun _ av=>ag (fun _ aw=>(e (cl mH (nG aj) U fun b0 ak aV=> ?_))))))))
 obtain ⟨rfl,O⟩:=aV
 have A:=Wk.B O aI
 refine p (no U) (az ((aw _ _ (cf (U) (aH (tn (av _ _ (ag (fun _ ax=>p (fa mZ U) (p (ld bF U (A.bI 0)) (e (cl fU (lG a ak aa) U fun b1 bh aW=> ?_))))))))))))
 obtain ⟨ae,i⟩:=aW
 rw [c] at ae
 obtain ⟨fb,mc,V,ba,aR,aJ,aT⟩:=ae
 subst ba
 refine p mv (p (xt U U) (p (xt U U) (e (al gd fun bu b5 bE ab aK=> ?_))))
 have bX:=ab.size
 have bT:=i.size
 refine p aA (e (b8 dW U U U U (aK) (by simp) fun am Y bz=> ?_))
 have s:Wk bh am:=ab.md.trans' Y (fun q a7 h=>by omega)
 have bV:=Y.size
 refine az ((ax _ _ (ag (fun _ ay=>(p mv (p (fa kE U) (p (ld bF U ((Wk.B (i.trans s) A).bI 1)) (e (cl fH (lP ak.heap.size fb mc F V t am (aR.wk s) aJ aT ai) U fun b2 bi aX=> ?_)))))))))
 obtain ⟨ah,C⟩:=aX
 rw [hd] at ah
 obtain ⟨B,bn,bd,bf,bg,bx,bb,a0,_⟩:=ah
 subst bb
 refine p mv (p (xt U U) (p (xt U U) (e (fC gd fun M b7 bG ac aN=> ?_))))
 have bZ:=ac.size
 have bW:=C.size
 refine p aA (e (fy dW U U U U aN ao fun G Z aL=> ?_))
 have E:Wk bi G:=ac.md.trans' Z (fun q a7 h=>by omega)
 have bY:=Z.size
 have aO:G.heap[M]? =some (.cells ([.int .i64 0,.int .i64 0,.int .i64 0]:List Value).toArray 25 (0,0)):=aL
 have aP:=aS.md.trans (O.trans (i.trans (s.trans (C.trans E))))
 refine az ((ay _ _ (sq (fun _ aB=>ag (fun _ aC=>(p (cC fG U (U) (fun j bM=>(show bl G.heap M [.int .i64 0,.int .i64 0,.int .i64 0] from ⟨_,aO⟩).bI j)) (p (bU (ps:= []) (L:= [.int .i64 0,.int .i64 0,.int .i64 0]) iU U (U)) (p (lr U U) (az ((aC _ _ (cd U (fun h=>absurd h (fun h=>h ⟨U,U,U⟩)) (fun bH=>aH (tn (aB _ _ (ag (fun _ aD=>(p (fa kE U) (p (ld bF U ((Wk.B (i.trans (s.trans (C.trans E))) A).bI 1)) (e (cl p7 (rM t _ ai) U fun b3 bk aY=> ?_)))))))))))))))))))))
 obtain ⟨⟨br,rfl,ad⟩,hE44⟩:=aY
 rw [if_neg a9] at ad
 obtain ⟨vr,a5,bQ⟩:=ad
 obtain ⟨bs,bv,rfl⟩:=cE a5
 refine p mv (p (xt U U) (p (xt U U) (p aA (au (((aD _ _ (sq (fun _ aE=>rg U (p mv (e (cl mI (mQ B bn bd bf bg xs bk (a0.wk (E.trans hE44)) aa (fun x c=>(a1 x c).2.1)) U fun b4 b6 aZ=> ?_))))))))))))
 obtain ⟨a2,aQ⟩:=aZ
 obtain ⟨vx,a4,bB,_⟩:=a2
 have a8:=cE a4
 obtain ⟨bt,bw,bc⟩:=a8
 subst bc
 refine au (((aE _ _ (ag (fun _ ap=>(p mv (p (bo jO U U) (p aA (az ((ap _ _ (sq (fun _ bq=>ag (fun _ aq=>(p mv (p (bp U U) (p mv (gs (t:=53) U (fun h=>absurd h aa) (fun bK=> ?_)))))))))))))))))))
 refine pg U U U mv (pg U U U (bo nA U U) (pg U U U mv (pg U U U (bm ((xs.length+1:Nat):Int) U U (aU aa aa)) (pg U U U (dF U U) (p (bj U) (p mv (gs (t:=60) U (fun h=>absurd h (fun h=>h (by rw [a6]))) (fun bL=>pg U U U mv (pg U U U (bp U U) (p (bj U) (az ((aq _ _ (cd U (fun bJ=> ?_) (fun h=>absurd aa h)))))))))))))))
 exact ag (fun _ ar=>(p mv (p (bo nA U U) (p mv (p (bm ((xs.length+1:Nat):Int) U U (aU aa aa)) (p (bp U U) (p aA (az ((ar _ _ (rt (tr (f1 U U (⟨congrArg Value.bool (decide_eq_true aa),aP.trans (hE44.trans aQ)⟩))))))))))))))
theorem FE (a t:Tx) (bk bq:Int) (w:World) (hc:a.length≤1048576) (dn:t.length≤1048576) (F:aM) (a0:eM a= .ok F) (xs:List bR) (hd:ef F t= .ok xs) (hD:0 < xs.length) (fm:xs.length < 8192) (i j:Nat) (hi:max 0 bk % ((xs.length:Nat):Int)=(i:Nat)) (E:max 0 bq % ((xs.length:Nat):Int)=(j:Nat)):
 a3 Tryz.prog 4 (List.toArray [.agg [str a,str t,.int .i64 bk,.int .i64 bq].toArray]) w (fun v w'=>v= .bool true∧Wk w w'):=by
 obtain ⟨bg,hK⟩:(∀ x∈xs,lF x)∧xs.length≤8192:=ot (nT a0) (nU a0) hd
 obtain ⟨fM,de,_,hE⟩:=oX hd
 have gy:¬65536 < t.length:=fun h=>by rw [mR h] at hd; cases hd
 have cW:i < xs.length:=by have :=Int.emod_lt_of_pos (max 0 bk) (show (0:Int) < ((xs.length:Nat):Int) by omega); omega
 have ce:j < xs.length:=by have :=Int.emod_lt_of_pos (max 0 bq) (show (0:Int) < ((xs.length:Nat):Int) by omega); omega
 obtain ⟨ac,ca⟩:∃ y,(bA t)[i]? =some y:=⟨_,List.getElem?_eq_getElem aa⟩
 obtain ⟨ah,cb⟩:∃ y,(bA t)[j]? =some y:=⟨_,List.getElem?_eq_getElem aa⟩
 obtain ⟨ak,bh⟩:∃ y,xs[i]? =some y:=⟨_,List.getElem?_eq_getElem cW⟩
 obtain ⟨aq,bi⟩:∃ y,xs[j]? =some y:=⟨_,List.getElem?_eq_getElem ce⟩
 have cV:(bA t).getD i []=ac:=by rw [List.getD_eq_getElem?_getD,ca]; rfl
 have fA:(bA t).getD j []=ah:=by rw [List.getD_eq_getElem?_getD,cb]; rfl
 have fv:∀ y∈bA t,y.length≤65536:=fun y dp=>by
  unfold bA at dp
  obtain ⟨q,aD,rfl⟩:=List.mem_map.1 dp
  have h:=o4 (List.mem_of_mem_drop aD)
  exact Nat.le_trans ((h.2.2.2.2 _ (dK (List.length_pos_iff.2 h.2.2.1))).2) aa
 refine enter Tryz.func4 U Tryz.ntmps4 U (ag (fun _ dJ=>(e (gx U fun ed du he cM em=> ?_))))
 have et:bl du.heap ed [str a,str t,.int .i64 bk,.int .i64 bq]:=em
 refine au (((dJ _ _ (sq (fun _ dQ=>ag (fun _ d0=>(e (cl mH (nG du) U fun ib cp e3=> ?_))))))))
 obtain ⟨rfl,b3⟩:=e3
 have bd:=Wk.B b3 et
 refine p (no U) (az ((d0 _ _ (cf (U) (aH (tn (dQ _ _ (ag (fun _ d5=>p (fa mZ U) (p (ld bF U (bd.bI 0)) (e (cl fU (lG a cp aa) U fun ic gZ e4=> ?_))))))))))))
 obtain ⟨cZ,aY⟩:=e4
 rw [a0] at cZ
 obtain ⟨fb,mc,V,gE,cI,cx,cP⟩:=cZ
 subst gE
 refine p mv (p (xt U U) (p (xt U U) (e (al gd fun g6 iq hj cQ ew=> ?_))))
 have hU:=cQ.size
 have hR:=aY.size
 refine p aA (e (b8 dW U U U U (ew) (by simp) fun dI cK hb=> ?_))
 have aK:Wk gZ dI:=cQ.md.trans' cK (fun q aD h=>by omega)
 have hS:=cK.size
 refine az ((d5 _ _ (ag (fun _ d6=>(p mv (p (fa kE U) (p (ld bF U ((Wk.B (aY.trans aK) bd).bI 1)) (e (cl fH (lP cp.heap.size fb mc F V t dI (cI.wk aK) cx cP dn) U fun ie g0 e5=> ?_)))))))))
 obtain ⟨c0,aZ⟩:=e5
 rw [hd] at c0
 obtain ⟨B,g2,gM,gQ,gR,ha,gF,fi,_⟩:=c0
 subst gF
 refine p mv (p (xt U U) (p (xt U U) (e (fC gd fun av ir hl cR ey=> ?_))))
 have hW:=cR.size
 have hT:=aZ.size
 refine p aA (e (fy dW U U U U ey ao fun cq cL ex=> ?_))
 have a7:Wk g0 cq:=cR.md.trans' cL (fun q aD h=>by omega)
 have hV:=cL.size
 have b2:cq.heap[av]? =some (.cells ([.int .i64 0,.int .i64 0,.int .i64 0]:List Value).toArray 25 (0,0)):=ex
 have cz:=cM.md.trans (b3.trans (aY.trans (aK.trans (aZ.trans a7))))
 refine az ((d6 _ _ (sq (fun _ d7=>ag (fun _ d8=>(p (cC fG U (U) (fun j E=>(show bl cq.heap av [.int .i64 0,.int .i64 0,.int .i64 0] from ⟨_,b2⟩).bI j)) (p (bU (ps:= []) (L:= [.int .i64 0,.int .i64 0,.int .i64 0]) iU U (U)) (p (lr U U) (az ((d8 _ _ (cd U (fun h=>absurd h (fun h=>h ⟨U,U,U⟩)) (fun hp=>aH (tn (d7 _ _ (ag (fun _ d9=>(p (fa kE U) (p (ld bF U ((Wk.B (aY.trans (aK.trans (aZ.trans a7))) bd).bI 1)) (e (cl p7 (rM t _ dn) U fun ig g1 e6=> ?_)))))))))))))))))))))
 obtain ⟨⟨g4,rfl,cU⟩,hE44⟩:=e6
 rw [if_neg gy] at cU
 obtain ⟨vr,ci,cj⟩:=cU
 obtain ⟨br,a5,rfl⟩:=cE ci
 refine p mv (p (xt U U) (p (xt U U) (p aA (au (((d9 _ _ (sq (fun _ ea=>rg U (p mv (e (cl mI (mQ B g2 gM gQ gR xs g1 (fi.wk (a7.trans hE44)) aa (fun x a0=>(bg x a0).2.1)) U fun ih bC e7=> ?_))))))))))))
 obtain ⟨ft,an⟩:=e7
 obtain ⟨vx,da,fk,_⟩:=ft
 have ck:=cE da
 obtain ⟨ar,ax,gH⟩:=ck
 subst gH
 refine au (((ea _ _ (ag (fun _ dL=>(p mv (p (bo jO U U) (p aA (az ((dL _ _ (sq (fun _ dN=>ag (fun _ dO=>(p mv (p (bp U U) (p mv (gs (t:=53) U (fun h=>absurd h aa) (fun hA=> ?_)))))))))))))))))))
 refine pg U U U mv (pg U U U (bo nA U U) (pg U U U mv (pg U U U (bm ((xs.length+1:Nat):Int) U U (aU aa aa)) (pg U U U (dF U U) (p (bj U) (p mv (gs (t:=60) U (fun h=>absurd h (fun h=>h (by rw [fM]))) (fun hB=>pg U U U mv (pg U U U (bp U U) (p (bj U) (az ((dO _ _ (cd U (fun h=>absurd h aa) (fun hq=>aH (tn (dN _ _ ?_)))))))))))))))))
 refine dA (fun aP ai=>(Wk bC ai)∧(av < ai.heap.size)∧(aP 3=a6 fb)∧(aP 6=a6 av)∧(aP 7= .slice br (bY t).length a5)∧(aP 9= .slice ar xs.length ax)∧(aP 10=ae (xs.length))∧(aP 11=ae i)∧(aP 12=ae j)) ?_ ?_
 have J:(fun w'=>Wk bC w') bC.drew:=(Md.refl _ _).drew
 exact bS (fun w'=>Wk bC w') U wide J (aT 0 U (fun _ _=>fa C6 U) J (aT 1 U (fun w' A=>ld eu U (Wk.aG A ((Wk.B (aY.trans (aK.trans (aZ.trans (a7.trans (hE44.trans an))))) bd).bI 2))) J (aT 2 U (fun _ _=>mx U U) J (aT 3 U (fun _ _=>mv) J (aT 4 U (fun _ _=>rm U U aa) J (aT 5 U (fun _ _=>fa C7 U) J (aT 6 U (fun w' A=>ld eu U (Wk.aG A ((Wk.B (aY.trans (aK.trans (aZ.trans (a7.trans (hE44.trans an))))) bd).bI 3))) J (aT 7 U (fun _ _=>mx U U) J (aT 8 U (fun _ _=>mv) J (aT 9 U (fun _ _=>rm U U aa) J (aT 10 U (fun _ _=>aA) J (aT 11 U (fun _ _=>aA) J (hn ab (tn (⟨J,((by have :=Md.size J; have :=an.size; have :=hE44.size; omega)),U,U,U,U,U,(iv hi),(iv E)⟩)))))))))))))))
 rintro aP ai ⟨ay,hm,fZ,f0,f2,f3,fR,fS,fY⟩
 refine fx 3 fZ (fx 6 f0 (fx 7 f2 (fx 9 f3 (fx 10 fR (fx 11 fS (fx 12 fY ?_))))))
 obtain ⟨v0,a1,rfl⟩:∃ v0 a1,vr=v0::a1:=by
  cases vr with
  | nil=>have :=cj.1; simp at this; omega
  | cons v0 a1=>exact ⟨v0,a1,rfl⟩
 have gG:=cj.1
 simp only [List.length_cons] at gG
 have hr:=(aJ ci).1
 have cy:aw ai.heap (dz br a5 1 2) (gB a1):=by
  have h:=(aJ ci).2.drop (cap:=a5) (k:=1) (size:=2) (by rw [rQ]; simp only [List.length_cons]; omega)
  exact aw.wk h (an.trans ay)
 refine ag (fun _ dP=>(au (((dP _ _ ?_)))))
 refine dA (fun aR a9=> ∃ (G:Option Addr) (I:Nat),(World.ownsRow a9 ai.heap.size 9 1 (.slice G (bA t).length I) ((bA t)).length (((bA t)).map str))∧(Wk ai a9)∧(aR 3=a6 fb)∧(aR 6=a6 av)∧(aR 9= .slice ar xs.length ax)∧(aR 10=ae (xs.length))∧(aR 11=ae i)∧(aR 12=ae j)∧(aR 13= .slice G (bA t).length I)) ?_ ?_
 refine ag (fun _ bO=>(aj (.slice br (bY t).length a5) (p (me ux U U aa) (p (bo nA U U) (p mv (az ((bO _ _ (aC (lp (fun bb am bD=> ∃ (k:Nat) (G:Option Addr) (I:Nat),(k≤(bA t).length)∧(World.ownsRow bD ai.heap.size 9 1 (.slice G ((bA t).take k).length I) (((bA t).take k)).length ((((bA t).take k)).map str))∧(Wk ai bD)∧(am 3=a6 fb)∧(am 6=a6 av)∧(am 9= .slice ar xs.length ax)∧(am 10=ae (xs.length))∧(am 11=ae i)∧(am 12=ae j)∧(am 13= .slice G ((bA t).take k).length I)∧(am 80= .slice (dz br a5 1 2) ((bY t).length - 1) (a5 - 1))∧(am 81= .int .i64 (((bY t).length - 1:Nat)))∧(am 82=ae k)∧((bA t).length - k=bb)) _ ⟨0,none,0,aa,(World.ownsRow_nil _ _ _ _),(Md.refl _ _),U,U,U,U,U,U,U,U,U,U,U⟩ ?_))))))))))
 rintro bb am bD ⟨k,G,I,hk,Z,a8,gg,gh,gl,gb,gc,ge,gf,gi,gj,gk,rfl⟩
 refine fx 3 gg (fx 6 gh (fx 9 gl (fx 10 gb (fx 11 gc (fx 12 ge (fx 13 gf (fx 80 gi (fx 81 gj (fx 82 gk ?_)))))))))
 have hI:=a8.size
 refine ag (fun _ bP=>(p (lt U U) (az ((bP _ _ (sq (fun _ bQ=>cd U (fun fq=> ?_) (fun fq=> ?_))))))))
 refine aH (tn (bQ _ _ (sq (fun _ bW=>aC (sq (fun _ bX=> ?_))))))
 obtain ⟨⟨dr,r⟩,hri⟩:∃ q,(bY t)[k+1]? =some q:=⟨_,List.getElem?_eq_getElem aa⟩
 obtain ⟨⟨bB,gN⟩,hvi⟩:∃ p,a1[k]? =some p:=⟨_,List.getElem?_eq_getElem aa⟩
 obtain ⟨fr,vj⟩:=cj.2 (k+1) (bB,gN) (dr,r) hvi hri
 obtain rfl :bB=dr:=fr
 have cS:=vj.wk (an.trans (ay.trans a8))
 obtain ⟨cs,cu,fO⟩:=vj.slice
 subst fO
 have fP:a1[k]? =some (bB,.slice cs r.length cu):=hvi
 have fQ:=o4 (List.mem_of_getElem? hri)
 have hF:0 < r.length:=List.length_pos_iff.2 fQ.2.2.1
 have fu:(bA t).getD k []=r.getD 0 []:=by rw [List.getD_eq_getElem?_getD]; unfold bA; rw [List.getElem?_map,List.getElem?_drop,Nat.add_comm 1 k,hri]; rfl
 refine rg U (p (aQ ux U U aa (aw.ok (cy.wk a8) (nn aa))) (p (cC yB U (U) (np (cy.wk a8) fP)) (e (al Ik fun ee io hh cO ep=> ?_))))
 have hQ:=cO.size
 refine e (b8 BB U U U U (ep) (by simp) fun dH eP es=> ?_)
 have bv:Wk bD dH:=cO.md.trans' eP (fun q aD h=>by omega)
 have eI:=a8.trans bv
 have er:bl dH.heap ee [ae bB,.slice cs r.length cu]:=es
 have dd:=aE Z bv
 refine az ((bX _ _ (rg U (aj (.slice G ((bA t).take k).length I) (p (fa C8 U) (p (ld kz U (er.bI 1)) (p (aQ bT U U aa (aw.ok (aw.wk cS.bN.2 bv) (bL aa))) (p (ld bF U (bM.get (i:=0) (aw.wk cS.bN.2 bv) aa)) (e (eY dC U U fun g7 iu ho b5 eB=> ?_))))))))))
 have cH:=eI.trans b5.md
 refine e (ap dC (aE dd b5.md) U (by have :=cH.size; omega) U (aw.dj eB) (U) (U) (by rw [List.length_take]; omega) (by rw [List.length_take]; omega) fun ii iw fJ eS hX hv=> ?_)
 have eL:=Wk.own cH (aE dd b5.md) eS (Nat.le_refl _)
 have ch:=jJ fJ
 rw [← fu,← eT _ k [] aa] at ch
 obtain ⟨ec,mK,rfl⟩:=cE ch
 exact p aA (nl (bn (tn (bW _ _ (rg U (p (ad U U (bu aa)) (p mv (nl (tn (⟨_,aa,k+1,ec,mK,aa,ch,eL,U,U,U,U,U,U,U,U,U,U,U⟩))))))))))
 refine ext (te _ (te _ (be (tn ?_))))
 have e:((bA t).take k)=(bA t):=List.take_of_length_le aa
 rw [e] at Z
 exact ⟨G,I,Z,a8,U,U,U,U,U,U,by show Value.slice G ((bA t).take k).length I=_; rw [e]⟩
 rintro aR a9 ⟨G,I,Z,eN,f8,f9,ga,f4,f5,f6,f7⟩
 refine fx 3 f8 (fx 6 f9 (fx 9 ga (fx 10 f4 (fx 11 f5 (fx 12 f6 (fx 13 f7 (ag (fun _ bO=>(aj (.slice G (bA t).length I) (aj (ae i) (p (aQ bT U U aa (aw.ok ((aJ Z).2) (bL aa))) (p (ld bF U (bM.get (i:=i) (aJ Z).2 aa)) (p aA (az ((bO _ _ (sq (fun _ bP=> ?_))))))))))))))))))
 have Y:(fun w'=>Wk a9 w') a9.drew:=(Md.refl _ _).drew
 refine dy (fun w'=>Wk a9 w') 13 U wide Y (aV 0 U (.slice G (bA t).length I) Y (aV 1 U (ae i) Y (aV 2 U (.slice G (bA t).length I) Y (aV 3 U (ae j) Y (aV 4 U (.slice G (bA t).length I) Y (aV 5 U (ae j) Y (bc 6 U (fun _=>aQ bT U U aa (aw.ok (aw.wk (aJ Z).2 (Md.refl _ _).drew) (bL aa))) (fun _=>Y) (cY 7 U (fun w' A=>ld bF U (bM.get (i:=j) (aw.wk (aJ Z).2 A) aa)) Y (aV 8 U (.slice G (bA t).length I) Y (aV 9 U (ae i) Y (bc 10 U (fun _=>aQ bT U U aa (aw.ok (aw.wk (aJ Z).2 (Md.refl _ _).drew) (bL aa))) (fun _=>Y) (cY 11 U (fun w' A=>ld bF U (bM.get (i:=i) (aw.wk (aJ Z).2 A) aa)) Y (bc 12 U (fun _=>aQ bT U U aa (aw.ok (aw.wk (aJ Z).2 (Md.refl _ _).drew) (bL aa))) (fun _=>Y) (bV 13 U ab ab (kM (j:=i) (u:=str (((bA t).getD j []))) (aE Z (Md.refl _ _).drew) j9 U U U (by rw [Int.toNat_natCast,Nat.mul_one]) aa fun ip eR c9=> ?_)))))))))))))))
 refine bc 14 U (fun _=>aQ bT U U aa (aw.ok (aw.wk (aJ Z).2 (Md.refl _ _).drew) (bL aa))) (fun h=>Bool.noConfusion ((show true =_ from by kernel_rfl).trans h)) (bV 15 U ab ab (kM (j:=j) (u:=str (((bA t).getD i []))) c9 j9 U U U (by rw [Int.toNat_natCast,Nat.mul_one]) aa fun co eQ c8=> ?_))
 have dc:World.ownsRow co ai.heap.size 9 1 (.slice G (bA t).length I) (bA t).length ((((bA t).set i ah).set j ac).map str):=by rw [cV,fA] at c8; rw [List.map_set,List.map_set]; exact c8
 have cF:Wk ai co:=Wk.own (Wk.own eN.drew (aE Z (Md.refl _ _).drew) eR (Nat.le_refl _)) c9 eQ (Nat.le_refl _)
 refine dx ab (tn (bP _ _ (ag (fun _ bQ=>(aj (ae (xs.length)) (p (bm ((xs.length+1:Nat):Int) U U (aU aa aa)) (e (cl zU (BR (xs.length+1) co aa) U fun hY ik eU=> ?_))))))))
 obtain ⟨rfl,bs⟩:=eU
 refine e (y8 dC U U fun b1 gU hf cN en=> ?_)
 have fE:World.ownsRow gU ai.heap.size 9 1 (.slice (some ⟨b1,0,none⟩) 1 1) 1 [str (fV (xs.length+1))]:=en _ (by have :=cF.size; have :=bs.size; omega)
 have eC:=cF.trans (bs.trans cN.md)
 have fK:=aE dc (bs.trans cN.md)
 refine aj (.slice G (bA t).length I) (p mv (e (eY dC U U fun g5 il hg b4 eo=> ?_)))
 have cB:=eC.trans b4.md
 have db:=aE fK b4.md
 have fF:=aE fE b4.md
 refine e (ap dC (db) U (by have :=cB.size; omega) U (aw.dj eo) (U) (U) aa aa fun gO gV fI cJ hO ht=> ?_)
 have cD:=Wk.own cB db cJ (Nat.le_refl _)
 have gz:(((bA t).set i ah).set j ac).map str++ [str (((bA t).getD i []))]=(dM (bA t) i j ac ah).map str:=by rw [cV]; simp [dM]
 have fD:∀ q,(Value.slice G (bA t).length I).ownBlock=some q→q < b1:=fun q aD=>by have :=(c4 dc aD).2; have :=bs.size; omega
 have c2:World.ownsRow gV ai.heap.size 9 1 gO ((bA t).length+1) ((dM (bA t) i j ac ah).map str):=by rw [← gz]; exact fI
 obtain ⟨g3,pX,rfl⟩:=cE c2
 have c1:=bK fF cJ (fun q aD cc=>by have h1:=fD q cc; have h2:q=b1:=by simpa [Value.ownBlock] using aD.symm
                                    omega)
 refine e (ap dC (c1) U (by have :=cD.size; omega) U ((aJ c2).2) (by rw [List.length_map,mh,Nat.mul_one]) (List.all_eq_true.2 fun v gC=>by obtain ⟨s,_,rfl⟩:=List.mem_map.1 gC; rfl) aa aa fun gP dv c3 eO hP hu=> ?_)
 have c6:World.ownsRow dv ai.heap.size 9 1 (gP) ((gn (bA t) i j ac ah)).length (((gn (bA t) i j ac ah)).map str):=by
  have e:(gn (bA t) i j ac ah).length=1 +((bA t).length+1):=by unfold gn; rw [List.length_cons,mh]; omega
  rw [de] at c3
  rw [e,gn,de,List.map_cons]; exact c3
 obtain ⟨eb,pY,rfl⟩:=cE c6
 have eD:=Wk.own cD c1 eO (Nat.le_refl _)
 have fL:(gn (bA t) i j ac ah).length=xs.length+2:=by unfold gn; rw [List.length_cons,mh]; omega
 have fB:(dB (gn (bA t) i j ac ah)).length≤(gn (bA t) i j ac ah).length*(65536 +2):=Ec (fun l cg=>by
  rcases List.mem_cons.1 cg with rfl | cg
  have :=BN ((bA t).length+1); omega
  exact fv _ (rZ (List.mem_of_getElem? ca) (List.mem_of_getElem? cb) cg))
 refine e (cl zT (Ed eb pY (gn (bA t) i j ac ah) dv (aJ c6).2 aa (by rw [fL] at fB; omega)) U fun hZ gX eV=> ?_)
 obtain ⟨rfl,eE⟩:=eV
 have aL:=eD.trans eE
 refine au (((bQ _ _ (sq (fun _ bW=>ag (fun _ bX=>(p mv (p (cA u9 U U) (p (gt U U) (az ((bX _ _ (cd U (fun fo=> ?_) (fun fo=> ?_))))))))))))))
 exact ag (fun _ bZ=>(au (((bZ _ _ (rt (tr (f1 U U (⟨U,cz.trans (hE44.trans (an.trans (ay.trans aL)))⟩)))))))))
 refine aH (tn (bW _ _ (ag (fun _ bZ=>(aj (a6 fb) (p mv (e (cl fH (lP cp.heap.size fb mc F V (dB (gn (bA t) i j ac ah)) gX (cI.wk (aK.trans (aZ.trans (a7.trans (hE44.trans (an.trans (ay.trans aL))))))) cx cP aa) U fun h0 im eW=> ?_))))))))
 obtain ⟨cX,bf⟩:=eW
 rw [FH hd fm ca cb bh bi aa] at cX
 obtain ⟨cr,dG,cn,ds,dt,g8,gD,fh,hJ,hC⟩:=cX
 subst gD
 refine p mv (p (xt U U) (p (xt U U) (p aA (e (fy dW U U U U (Wk.aC (hE44.trans (an.trans (ay.trans (aL.trans bf)))) b2) ao fun bJ bw ev=> ?_)))))
 have b9:=Wk.aC (hE44.trans (an.trans (ay.trans (aL.trans bf)))) b2
 have hG:=aL.size
 have fj:g9 bJ cr dG cn ds dt (dM xs i j ak aq):=fh.md bw (L:= [27]) (TF.eq (c5 b9) rfl) rfl (fun h=>by have h:cn=av:=h; omega)
 have eA:bl bJ.heap av [.int .i64 0,.int .i64 0,.int .i64 0]:=⟨_,ev⟩
 have df:=aE da (ay.trans (aL.trans bf))
 have fN:=bK df bw (fun k hk cc=>e9 df ao k hk _ _ (cc ▸ b9))
 have fl:=(fk.wk (ay.trans (aL.trans bf))).md bw (eG b9 ao)
 have hH:=Md.size (cM.md.trans (b3.trans (aY.trans (aK.trans aZ))))
 have eK:Wk w bJ:=Md.trans' (cz.trans (hE44.trans (an.trans (ay.trans (aL.trans bf))))) bw (fun q aD h=>by have h:q=av:=h; omega)
 refine az ((bZ _ _ (ag (fun _ dR=>(p mv (e (cl mI (mQ cr dG cn ds dt (dM xs i j ak aq) bJ fj (by rw [mh]; omega) (fun x a0=>(bg x (rZ (List.mem_of_getElem? bh) (List.mem_of_getElem? bi) a0)).2.1)) U fun h6 a2 eX=> ?_)))))))
 obtain ⟨fs,bt⟩:=eX
 obtain ⟨ij,c7,bx,_⟩:=fs
 have ck:=cE c7
 obtain ⟨ct,cv,gJ⟩:=ck
 subst gJ
 have aI:=(aJ c7).2
 have aF:=aw.wk (aJ fN).2 bt
 have b7:=fl.wk bt
 have ez:=Wk.B bt eA
 have gA:(dM xs i j ak aq).length=xs.length+1:=mh ..
 obtain ⟨ei,d1,dg,e8⟩:=lf bx (Ho cW ce bh bi)
 obtain ⟨ej,d2,dh,fc⟩:=lf bx (Hp (i:=i) (a:=ak) (b:=aq) ce)
 obtain ⟨ek,d3,di,fd⟩:=lf bx (Hr (i:=i) (j:=j) (a:=ak) (b:=aq))
 obtain ⟨gK,eg,dl,ff⟩:=lf b7 bi
 obtain ⟨dq,cw,bz,cT⟩:=lf b7 bh
 have hL:=(bg ak (List.mem_of_getElem? bh)).2.1
 have hM:=(bg aq (List.mem_of_getElem? bi)).2.1
 refine au (((dR _ _ (sq (fun _ dS=>sq (fun _ dT=> ?_))))))
 have C:(fun w'=>Wk a2 w') a2.drew:=(Md.refl _ _).drew
 refine bS (fun w'=>Wk a2 w') U wide C (aT 0 U (fun w' A=>cC fG U (U) (fun j E=>(Wk.B A ez).bI j)) C (aT 1 U (fun _ _=>bU (ps:= []) (L:= [.int .i64 0,.int .i64 0,.int .i64 0]) iU U (U)) C (aT 2 U (fun _ _=>lr U U) C (aT 3 U (fun _ _=>mv) C (gI (t:=136) U (fun h=>absurd h (fun h=>h ⟨U,U,U⟩)) (fun hw=>aW 4 U ab U U U (fun _ _=>mv) C (aW 5 U ab U U U (fun _ _=>bo jO U U) C (aW 6 U ab U U U (fun _ _=>aB (ae (xs.length)) U) C (aW 7 U ab U U U (fun _ _=>bm ((xs.length+1:Nat):Int) U U (aU aa aa)) C (aW 8 U ab U U U (fun _ _=>dF U U) C (aT 9 U (fun _ _=>bj U) C (aT 10 U (fun _ _=>mv) C (gI (t:=143) U (fun h=>absurd h (fun h=>h (by rw [gA]))) (fun hx=> ?_))))))))))))))
 refine aW 11 U ab U U U (fun _ _=>mv) C (aW 12 U ab U U U (fun _ _=>aB (ae i) U) C (aW 13 U ab U U U (fun _ _=>aQ gT U U aa (aw.ok (aI) (gS dg))) C (aW 14 U ab U U U (fun w' A=>cC fT U (U) (fun j E=>fX (f:=fW) (m:=2) (fun _=>rfl) (aw.wk aI A) dg j E)) C (aW 15 U ab U U U (fun _ _=>aB (.slice ar xs.length ax) U) C (aW 16 U ab U U U (fun _ _=>aB (ae j) U) C (aW 17 U ab U U U (fun _ _=>aQ gT U U aa (aw.ok (aF) (gS dl))) C (aW 18 U ab U U U (fun w' A=>cC fT U (U) (fun j E=>fX (f:=fW) (m:=2) (fun _=>rfl) (aw.wk aF A) dl j E)) C (gW 19 U ab U U U (cl n7 (oy aq ei gK d1 eg a2.drew (aw.wk e8.bN.2 C) (aw.wk ff.bN.2 C) aa) U fun h7 dw eZ=> ?_)))))))))
 obtain ⟨rfl,eF⟩:=eZ
 have M:(fun w'=>Wk a2 w') dw:=C.trans eF
 refine ⟨M,?_⟩
 refine aW 20 U ab U U U (fun _ _=>no U) M (aT 21 U (fun _ _=>bj U) M (aT 22 U (fun _ _=>mv) M (vq (t:=155) U (fun h=>absurd (h.symm.trans (U)) Bool.noConfusion) (fun hy=>aW 23 U ab U U U (fun _ _=>mv) M (aW 24 U ab U U U (fun _ _=>aB (ae j) U) M (aW 25 U ab U U U (fun _ _=>aQ gT U U aa (aw.ok (aI) (gS dh))) M (aW 26 U ab U U U (fun w' A=>cC fT U (U) (fun j E=>fX (f:=fW) (m:=2) (fun _=>rfl) (aw.wk aI A) dh j E)) M (aW 27 U ab U U U (fun _ _=>aB (.slice ar xs.length ax) U) M (aW 28 U ab U U U (fun _ _=>aB (ae i) U) M (aW 29 U ab U U U (fun _ _=>aQ gT U U aa (aw.ok (aF) (gS bz))) M (aW 30 U ab U U U (fun w' A=>cC fT U (U) (fun j E=>fX (f:=fW) (m:=2) (fun _=>rfl) (aw.wk aF A) bz j E)) M ?_)))))))))))
 refine gW 31 U ab U U U (cl n7 (oy ak ej dq d2 cw dw (aw.wk fc.bN.2 M) (aw.wk cT.bN.2 M) aa) U fun h8 dD e0=> ?_)
 obtain ⟨rfl,eH⟩:=e0
 have O:(fun w'=>Wk a2 w') dD:=M.trans eH
 refine ⟨O,?_⟩
 refine aW 32 U ab U U U (fun _ _=>no U) O (aT 33 U (fun _ _=>bj U) O (aT 34 U (fun _ _=>mv) O (vq (t:=167) U (fun h=>absurd (h.symm.trans (U)) Bool.noConfusion) (fun hz=>aW 35 U ab U U U (fun _ _=>mv) O (aW 36 U ab U U U (fun _ _=>aB (ae (xs.length)) U) O (aW 37 U ab U U U (fun _ _=>aQ gT U U aa (aw.ok (aI) (gS di))) O (aW 38 U ab U U U (fun w' A=>cC fT U (U) (fun j E=>fX (f:=fW) (m:=2) (fun _=>rfl) (aw.wk aI A) di j E)) O (aW 39 U ab U U U (fun _ _=>aB (.slice ar xs.length ax) U) O (aW 40 U ab U U U (fun _ _=>aB (ae i) U) O (aW 41 U ab U U U (fun _ _=>aQ gT U U aa (aw.ok (aF) (gS bz))) O (aW 42 U ab U U U (fun w' A=>cC fT U (U) (fun j E=>fX (f:=fW) (m:=2) (fun _=>rfl) (aw.wk aF A) bz j E)) O ?_)))))))))))
 refine gW 43 U ab U U U (cl n7 (oy ak ek dq d3 cw dD (aw.wk fd.bN.2 O) (aw.wk cT.bN.2 O) aa) U fun h9 dE e1=> ?_)
 obtain ⟨rfl,eJ⟩:=e1
 have aO:(fun w'=>Wk a2 w') dE:=O.trans eJ
 refine ⟨aO,?_⟩
 refine aW 44 U ab U U U (fun _ _=>no U) aO (aT 45 U (fun _ _=>bj U) aO (hn ab (tn (dT _ _ (cf (U) (aH (tn (dS _ _ (sq (fun _ dU=>ag (fun _ dV=>(aj (.slice ar xs.length ax) (p (bo jO U U) (p mv (az ((dV _ _ (aC (lp (fun bb aS a4=> ∃ (k:Nat),(k≤xs.length)∧(Wk dE a4)∧(aS 9= .slice ar xs.length ax)∧(aS 10=ae (xs.length))∧(aS 11=ae i)∧(aS 12=ae j)∧(aS 19= .slice ct (dM xs i j ak aq).length cv)∧(aS 180=ae (xs.length))∧(aS 181=ae k)∧(xs.length - k=bb)) _ ⟨0,aa,(Md.refl _ _),U,U,U,U,U,U,U,U⟩ ?_)))))))))))))))))))
 rintro bb aS a4 ⟨k,hk,aN,gw,gm,gp,gq,gv,gr,gu,rfl⟩
 refine fx 9 gw (fx 10 gm (fx 11 gp (fx 12 gq (fx 19 gv (fx 180 gr (fx 181 gu (ag (fun _ dX=>(p (lt U U) (az ((dX _ _ (sq (fun _ dY=>cd U (fun fp=> ?_) (fun fp=> ?_)))))))))))))))
 refine aH (tn (dY _ _ (sq (fun _ ba=>aC (ag (fun _ dZ=>(aj (ae k) (p (bG (ae k) U) (az ((dZ _ _ (sq (fun _ b0=> ?_)))))))))))))
 obtain ⟨x,cm⟩:∃ y,xs[k]? =some y:=⟨_,List.getElem?_eq_getElem aa⟩
 have c:(fun w'=>Wk a4 w') a4.drew:=(Md.refl _ _).drew
 refine bS (fun w'=>Wk a4 w') U wide c (bH 0 U (ae k) c (bH 1 U (ae i) c (aT 2 U (fun _ _=>dF U U) c (aT 3 U (fun _ _=>mv) c (gI (t:=187) U (fun fw=> ?_) (fun fw=> ?_))))))
 refine aW 4 U ab U U U (fun _ _=>aB (ae k) U) c (aW 5 U ab U U U (fun _ _=>aB (ae j) U) c (aW 6 U ab U U U (fun _ _=>dF U U) c (aT 7 U (fun _ _=>bE U) c (aT 8 U (fun _ _=>mv) c (gI (t:=192) U (fun fz=> ?_) (fun fz=> ?_))))))
 obtain ⟨el,d4,dk,fe⟩:=lf bx ((Hq (a:=ak) (b:=aq) (show k < xs.length by omega) aa aa).trans cm)
 obtain ⟨gL,eh,dm,fg⟩:=lf b7 cm
 have hN:=(bg x (List.mem_of_getElem? cm)).2.1
 refine aW 9 U ab U U U (fun _ _=>aB (.slice ct (dM xs i j ak aq).length cv) U) c (aW 10 U ab U U U (fun _ _=>aB (ae k) U) c (aW 11 U ab U U U (fun _ _=>aQ gT U U aa (aw.ok (aI) (gS dk))) c (aW 12 U ab U U U (fun w' A=>cC fT U (U) (fun j E=>fX (f:=fW) (m:=2) (fun _=>rfl) (aw.wk (aI.wk (aO.trans aN)) A) dk j E)) c (aW 13 U ab U U U (fun _ _=>aB (.slice ar xs.length ax) U) c (aW 14 U ab U U U (fun _ _=>aB (ae k) U) c (aW 15 U ab U U U (fun _ _=>aQ gT U U aa (aw.ok (aF) (gS dm))) c (aW 16 U ab U U U (fun w' A=>cC fT U (U) (fun j E=>fX (f:=fW) (m:=2) (fun _=>rfl) (aw.wk (aF.wk (aO.trans aN)) A) dm j E)) c ?_)))))))
 refine gW 17 U ab U U U (cl n7 (oy x el gL d4 eh a4.drew (aw.wk fe.bN.2 ((aO.trans aN).trans c)) (aw.wk fg.bN.2 ((aO.trans aN).trans c)) aa) U fun ia gY e2=> ?_)
 obtain ⟨rfl,cG⟩:=e2
 have b6:(fun w'=>Wk a4 w') gY:=c.trans cG
 refine ⟨b6,?_⟩
 exact aW 18 U ab U U U (fun _ _=>no U) b6 (aT 19 U (fun _ _=>bE U) b6 (hn ab (tn (b0 _ _ (cf (U) (aH (bn (tn (ba _ _ (rg U (p (ad U U (bu aa)) (p mv (az ((⟨_,aa,k+1,aa,(aN.trans (c.trans cG)),U,U,U,U,U,U,U,U⟩)))))))))))))))
 exact aX 9 U ab U U U U c (aX 10 U ab U U U U c (aX 11 U ab U U U U c (aX 12 U ab U U U U c (aX 13 U ab U U U U c (aX 14 U ab U U U U c (aX 15 U ab U U U U c (aX 16 U ab U U U U c (aX 17 U ab U U U U c (aX 18 U ab U U U U c (aT 19 U (fun _ _=>bj U) c (hn ab (tn (b0 _ _ (cf U (aH (bn (tn (ba _ _ (rg U (p (ad U U (bu aa)) (p mv (az ((⟨_,aa,k+1,aa,(aN.trans c),U,U,U,U,U,U,U,U⟩))))))))))))))))))))))))
 exact aX 4 U ab U U U U c (aX 5 U ab U U U U c (aX 6 U ab U U U U c (aT 7 U (fun _ _=>bj U) c (aT 8 U (fun _ _=>mv) c (aX 9 U ab U U U U c (aX 10 U ab U U U U c (aX 11 U ab U U U U c (aX 12 U ab U U U U c (aX 13 U ab U U U U c (aX 14 U ab U U U U c (aX 15 U ab U U U U c (aX 16 U ab U U U U c (aX 17 U ab U U U U c (aX 18 U ab U U U U c (aT 19 U (fun _ _=>bj U) c (hn ab (tn (b0 _ _ (cf U (aH (bn (tn (ba _ _ (rg U (p (ad U U (bu aa)) (p mv (az ((⟨_,aa,k+1,aa,(aN.trans c),U,U,U,U,U,U,U,U⟩)))))))))))))))))))))))))))))
 exact ext (te _ (te _ (be (tn (dU _ _ (ag (fun _ ba=>(p aA (az ((ba _ _ (rt (f1 U U (⟨U,eK.trans (bt.trans (aO.trans aN))⟩))))))))))))))
theorem B8 (a t:Tx) (c i:Int) (w:World) (j:a.length≤1048576) (p:t.length≤1048576):a3 Tryz.prog 4 [.agg [str a,str t,.int .i64 c,.int .i64 i].toArray].toArray w (fun v w'=>v= .bool true∧Wk w w'):=by
 cases hx:eM a with
 | error e=>exact FF a t c i w j p e.1 e.2 hx
 | ok F=>
   cases hd:ef F t with
   | error e=>exact FD a t c i w j p F hx e.1 e.2 hd
   | ok xs=>
     have s:=(ot (nT hx) (nU hx) hd).2
     by_cases hn:xs.length=0
     · exact FG a t c i w j p F hx xs hd hn
     · by_cases q:xs.length=8192
       · exact FC a t c i w j p F hx xs hd aa q
       · have h1:=Int.emod_nonneg (max 0 c) (show ((xs.length:Nat):Int)≠0 by omega)
         have h2:=Int.emod_nonneg (max 0 i) (show ((xs.length:Nat):Int)≠0 by omega)
         exact FE a t c i w j p F hx xs hd aa aa _ _ (Int.toNat_of_nonneg h1).symm (Int.toNat_of_nonneg h2).symm
end Go.Hb.ss
end
