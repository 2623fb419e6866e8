/-
  Walks and plain laws that the law rests on, laid together. No conditions but those that each theorem names.
-/
import Derived.Test.YtchkamdekbbgeaaGreatDoorMnAnalyseMakes5
set_option linter.unusedVariables false
set_option maxRecDepth 20000
set_option maxHeartbeats 1000000
open Array renaming getElem?_eq_some_iff→bY
open Bool renaming and_eq_true→gj,and_false→xY,noConfusion→dv,or_eq_false_iff→o4
open Classical renaming byContradiction→uI,not_not→mI
open Go.Calls renaming mono→jX
open Go.Proofs.Tryz renaming prog→ao
open Go.Value renaming bool→bU,int→fG,oneCell'→eO,ownBlock→gG,slice→bE
open Go.World renaming ownsRow→bq,ownsRow_nil→dS
open Int renaming toNat_natCast→jq
open List renaming all_cons→yc,all_eq_true→kK,append_assoc→dZ,append_nil→ep,drop_eq_nil_of_le→lC,eq_nil_of_length_eq_zero→gx,ext_getElem?→om,filterMap_append→Cr,flatMap_append→qi,flatMap_singleton→ri,getD_eq_getElem?_getD→cR,getElem?_append_left→mK,getElem?_append_right→nD,getElem?_eq_getElem→bW,getElem?_eq_some_iff→eQ,getElem?_map→fH,getElem?_set→kh,getElem?_take→oo,getElem?_zip_eq_some→jg,length_append→bK,length_cons→bX,length_map→e8,length_nil→fZ,length_pos_iff→mM,length_range→sX,length_set→uW,length_zip→yq,map_append→iw,mem_cons→eB,mem_filter→sY,mem_map→gQ,mem_of_getElem?→fz,nil_append→mN,prefix_append→u6,prefix_refl→CA,range→fI,take_append_drop→vb,take_of_length_le→e9,toArray→ba
open Nat renaming le_refl→cz,le_trans→ea,mul_le_mul_right→ou,zero_le→ki
open Option renaming isSome_iff_exists→l9
open Go.Proofs.Tryz
open Go.Hb.dF Go.Proofs Go.Hb.et Go.Hb.ff Go.Hb.gR Go.Hb.fj Go.Hb.gI

section
namespace Go.Hb.iD
open Go.Hb.nJ Go.Hb.qm Go.Hb.vg
theorem QQ:zN ao 102 3=some (96,3):=ag
def qC (q:bj×Value):List Value:= [str q.1.1,q.2]
def kO (l:List (bj×Value)):List Value:=l.flatMap qC
theorem Pq (l:List (bj×Value)) (q:bj×Value):kO (l++ [q])=kO l++qC q:=by simp [kO]
theorem Pr (l:List (bj×Value)):(kO l).length=l.length*2:=mr (f:=qC) (m:=2) (fun _=>rfl) l
theorem nm {w:World} {B e size n k:Nat} {v:Value} {xs:List Value} (h:bq w B e size v n xs) (hk:v.ownBlock=some k) (q:∀ cur z,w.heap[k]?≠some (.cells cur e z)):False:=by
 rcases h.2 with ⟨rfl,rfl⟩ | ⟨g,cap,cur,rfl,_,c,_⟩
 · cases hk
 · have a:g=k:=by simpa [gG] using hk
   subst a
   exact q _ _ c
structure me (w:World) (B:Nat) (f:Value→Option Value) (xs:List bj):Prop where
 own:∀ s:Tx,bq w B 3 1 ((f<|str s).getD<|bE none 0 0) (idxs s xs).length ((idxs s xs).map fA)
 nil:∀ s:Tx,idxs s xs= []→(f<|str s).getD (bE none 0 0)=(bE none 0 0)
theorem me.md {G:Nat→Prop} {w w':World} {B:Nat} {f:Value→Option Value} {xs:List bj} (h:me w B f xs) (hm:Md G w w') (a:∀ k,G k→∀ cur z,w.heap[k]?≠some (.cells cur 3 z)):me w' B f xs:=by
 refine ⟨fun s=> ?_,h.nil⟩
 refine cx (h.own s) hm fun k hk q=> ?_
 exact nm (h.own s) hk fun cur z c=>a k q cur z c
theorem A2 {w:World} {B B' k n c:Nat} {v q:Value} {xs A:List Value} (h:bq w B 3 1 v n xs) (I:bq w B' 3 1 q c A) (hk:v.ownBlock=some k) (M:q.ownBlock=some k) (hn:0 < n) (aa:0 < c):xs[0]? =A[0]? :=by
 rcases h.2 with ⟨rfl,rfl⟩ | ⟨g,cap,cur,rfl,_,J,_,_,_,O⟩
 · omega
 · rcases I.2 with ⟨rfl,rfl⟩ | ⟨G,Y,Z,rfl,_,a,_,_,_,V⟩
   · omega
   · have C:g=k:=by simpa [gG] using hk
     have E:G=k:=by simpa [gG] using M
     subst C E
     rw [J] at a
     cases a
     rw [← O,← V,oo,oo,if_pos ab,if_pos ab]
theorem me.sep {w:World} {B k:Nat} {f:Value→Option Value} {xs:List bj} {s t:Tx} (h:me w B f xs) (C:s≠t) (hs:((f<|str s).getD<|bE none 0 0).ownBlock=some k):((f<|str t).getD<|bE none 0 0).ownBlock≠some k:=by
 intro a
 have c:idxs s xs≠[]:=fun e=>by rw [h.nil s e] at hs; cases hs
 have q:idxs t xs≠[]:=fun e=>by rw [h.nil t e] at a; cases a
 have he:=A2 (h.own s) (h.own t) hs a (mM.2 c)<|mM.2 q
 cases h1:idxs s xs with
 | nil=>exact c h1
 | cons i l=>
   cases h2:idxs t xs with
   | nil=>exact q h2
   | cons j m=>
     rw [h1,h2] at he
     have A:i=j:=by have h:=he; simp only [List.map_cons,List.getElem?_cons_zero,Option.some.injEq,fA,Value.int.injEq,true_and] at h; omega
     subst A
     have m1:i∈idxs s xs:=by rw [h1]; simp
     have m2:i∈idxs t xs:=by rw [h2]; simp
     unfold idxs at m1 m2
     have E:=of_decide_eq_true (sY.1 m1).2
     have G:=of_decide_eq_true (sY.1 m2).2
     exact C<|E.symm.trans G
theorem me.put {w q I:World} {B mb:Nat} {f:Value→Option Value} {xs:List bj} {x:bj} {v:Value} (h:me w B f xs) (hm:Md (fun k=>((f<|str x.1).getD<|bE none 0 0).ownBlock=some k) w q)
 (G:bq q B 3 1 v (idxs x.1 xs++ [xs.length]).length ((idxs x.1 xs++ [xs.length]).map fA)) (E:∀ cur z,q.heap[mb]?≠some (.cells cur 3 z)) (C:Md (fun k=>k=mb) q I):me I B (bA f (str x.1) v) (xs++ [x]):=by
 refine ⟨fun s=> ?_,fun s hs=> ?_⟩
 · by_cases a:x.1=s
   · subst a
     rw [mA,Ak,if_pos rfl]
     exact cx G C fun k hk c=>nm G hk fun cur z A=>E cur z<|c ▸ A
   · rw [kU (fun e=>a (str_inj.1 e).symm),Ak,if_neg a,ep]
     have h1:=cx (h.own s) hm fun k hk c=>h.sep a c hk
     exact cx h1 C fun k hk c=>nm h1 hk fun cur z A=>E cur z<|c ▸ A
 · rw [Ak] at hs
   by_cases a:x.1=s
   · rw [if_pos a] at hs; simp at hs
   · rw [if_neg a,ep] at hs
     rw [kU (fun e=>a (str_inj.1 e).symm)]; exact h.nil s hs
structure kn (w:World) (B wb mb:Nat) (va:Value) (vs:List Value) (xs:List bj):Prop where
 cells:w.heap[wb]? =some (.cells [va,.map (some mb)].toArray 184 (0,0))
 own:bq w B 53 2 va xs.length (kO<|xs.zip vs)
 fl:dE w B 95 vs (xs.map (·.2))
 mp:∃ f,bS w.heap mb ik f∧me w B f xs
theorem kn.md {G:Nat→Prop} {w w':World} {B wb mb:Nat} {va:Value} {vs:List Value} {xs:List bj} (h:kn w B wb mb va vs xs) (hm:Md G w w') {L:List Nat} (a:TF w L G) (q:(L.contains 186 || L.contains 55 || L.contains 97 || L.contains 5)=false) (E:¬G mb):kn w' B wb mb va vs xs:=by
 simp only [o4] at q
 obtain ⟨⟨⟨h1,h2⟩,h3⟩,h4⟩:=q
 obtain ⟨f,A,C⟩:=h.mp
 exact ⟨hm.gT a h.cells h1,cX h.own hm a h2,h.fl.md hm (fun k hk cur z c=>a.no (dD c) h3 hk),⟨f,A.md hm E,C.md hm fun k hk cur z c=>a.no (dD c) h4 hk⟩⟩
theorem kn.wk {w w':World} {B wb mb:Nat} {va:Value} {vs:List Value} {xs:List bj} (h:kn w B wb mb va vs xs) (hm:Wk w w'):kn w' B wb mb va vs xs:=h.md (L:= []) hm (fun _ hk=>hk.elim) rfl id
theorem O3 {F:aC} {t:Tx} {ln:Nat} {row:List Tx} {rows:List Rw} (h:¬65536 < t.length) (h1:eU t=(ln,row)::rows) (h2:(la row).2≠0):∃ e:Nat,(la row).2=(e:Int)∧fK F t= .error (ln,e):=by
 unfold la at h2 ⊢
 by_cases a:row.length≠1
 · rw [if_pos a]; exact ⟨111,rfl,O6 h h1 a⟩
 · rw [if_neg a] at h2 ⊢
   have h3:=wX (s:=row.getD 0 []) (most:=8192) h2
   exact ⟨13,h3.2,Pa h h1 (mI.1 a) h3.1⟩
theorem O4 {F:aC} {t:Tx} {ln:Nat} {row:List Tx} {rows:List Rw} (h:¬65536 < t.length) (h1:eU t=(ln,row)::rows) (h2:(la row).2=0):∃ n:Nat,(la row).1=n∧n≤8192∧fK F t=eI F ((dj t).length+1) n rows:=by
 unfold la at h2 ⊢
 by_cases a:row.length≠1
 · rw [if_pos a] at h2; cases h2
 · rw [if_neg a] at h2 ⊢
   exact ⟨_,aa,by have :=wW (row.getD 0 []) 8192 h2; omega,Ey h h1 (mI.1 a)<|wY h2⟩
theorem Ia {u:Tx} {a:Value} (h:a.oneCell'=true):[str u,a].all eO=true :=by rw [yc,yc,h]; rfl
def Kl (l e:Nat):Value:= .agg [.int .i64 2,.int .i64 (l:Nat),.int .i64 (e:Nat)].toArray
def Kj (w':World) (B0:Nat) (xs:List bj) (v:Value):Prop := ∃ B wb mb va vs,B0≤B∧v= .tuple #[.pointer (some ⟨wb,0,none⟩),.agg [.int .i64 0,.int .i64 0,.int .i64 0].toArray]∧kn w' B wb mb va vs xs∧B0≤wb∧B0≤mb
def Ki (e:Nat×Nat) (v:Value):Prop :=v= .tuple #[.pointer none,Kl e.1 e.2]
def kZ (F:aC) (t:Tx) (w:World) (v:Value) (w':World):Prop :=(match fK F t with | .ok xs=>Kj w' w.heap.size xs v | .error e=>Ki e v)∧Wk w w'
theorem kZ.no {F:aC} {t:Tx} {w w':World} {l e:Nat} (h:fK F t= .error (l,e)) (hm:Wk w w'):kZ F t w (.tuple #[.pointer none,.agg [.int .i64 2,.int .i64 (l:Nat),.int .i64 (e:Nat)].toArray]) w':=by
 unfold kZ; rw [h]; exact ⟨rfl,hm⟩
theorem Pd (B fb mc:Nat) (F:aC) (V:eh) (t:Tx) (w:World) (ct:c8 w B fb mc F V) (dX:∃ seen,j0 F [] seen) (e1:Nx F) (hs:t.length≤1048576):
 bf ao 40 (ba [aU fb,str t]) w (kZ F t w):=by
 refine enter func40 aa ntmps40 aa<|ak fun db=>p aE<|e<|gn oc fun bJ fB fP cy cm=> ?_
 have ck:bD fB.heap bJ [.int .i64 0,.int .i64 0,.int .i64 0]:=⟨_,cm⟩
 refine nl<|db<|az fun dl=>ak fun ds=>au (aU fb)<|p (lN uA aa aa)<|nl<|ds<|cf (aa)<|aR<|dl<|ak fun dt=>au (str t)<|e<|cl DR (HP t _ hs) aa fun v22 ca ef=> ?_
 obtain ⟨⟨a22,rfl,cK⟩,hE22⟩:=ef
 have cq:=cy.md.trans hE22
 have ge:=cy.size
 refine p mv<|p (xt aa aa)<|p (xt aa aa)<|p aE<|ay<|dt<|az fun du=>ak fun dv=>p mv<|p (gE aa aa)<|nl<|dv<|cd aa (fun b4=> ?_) fun b4=> ?_
 have cG:65536 < t.length:=uI fun h=>b4<|by rw [if_neg h]
 refine ak fun bF=>p mv<|e<|cl rO (rS 0 (if 65536 < t.length then 10 else 0) ca) aa fun v28 gz eg=> ?_
 obtain ⟨rfl,bN⟩:=eg
 have ga:=(hE22.trans bN).size
 refine p aE<|e<|cM iV aa aa aa aa (Wk.B (hE22.trans bN) ck) (by simp) fun gN d9 dT=>nl<|bF<|rt<|tr<|fg aa eE (dV (cs:= [.int .i64 2,.int .i64 0,.int .i64 (if 65536 < t.length then 10 else 0)]) aa kq aa fun j aq=>dT.bp j) ?_
 have h:=kZ.no (F:=F) (O8 cG)<|(cq.trans bN).trans' d9 fun q C h=>by omega
 show kZ F t w (.tuple #[.pointer none,.agg [.int .i64 2,.int .i64 0,.int .i64 (if 65536 < t.length then 10 else 0)].toArray]) _
 rw [if_pos cG]
 exact h
 have a3:¬65536 < t.length:=fun h=>b4<|by rw [if_pos h]; decide
 rw [if_neg a3] at cK
 obtain ⟨c5,rL,rfl⟩:=cT cK
 have fW:=qK t
 refine aR<|du<|ak fun bF=>au (str t)<|e<|cl DQ (Hu t _ hs) aa fun v31 ax ei=> ?_
 obtain ⟨⟨a31,rfl,cJ⟩,hE31⟩:=ei
 rw [if_neg a3] at cJ
 obtain ⟨c7,bt,bu⟩:=cJ
 obtain ⟨ar,cr,rfl⟩:=cT bt
 have aD:=cq.trans hE31
 have aT:=Wk.B (hE22.trans hE31) ck
 have gb:=(hE22.trans hE31).size
 have c3:=Hs t
 refine p mv<|p (xt aa aa)<|p (xt aa aa)<|p aE<|ay<|bF<|az fun dw=>ak fun dz=>p mv<|p (bP xI aa aa)<|p (cw aa aa)<|nl<|dz<|cd aa (fun b5=> ?_) fun b5=> ?_
 have e0:eU t= []:=gx ab
 refine ak fun bv=>p mv<|p (bP iQ aa aa)<|p (bL (((dj t).length+1:Nat):Int) aa aa<|bm ab ab)<|e<|cl rO (rS ((dj t).length+1:Nat) 116 ax) aa fun v40 gA ej=> ?_
 obtain ⟨rfl,bQ⟩:=ej
 have gc:=bQ.size
 exact p aE<|e<|cM iV aa aa aa aa (Wk.B bQ aT) (by simp) fun gO ea dU=>nl<|bv<|rt<|tr<|fg aa eE (dV (cs:= [.int .i64 2,aj ((dj t).length+1),.int .i64 116]) aa kq aa fun j aq=>dU.bp j)<|kZ.no (O9 a3 e0)<|(aD.trans bQ).trans' ea fun q C h=>by omega
 obtain ⟨⟨c6,aP⟩,rest,Y⟩:∃ q rest,eU t=q::rest:=by
  cases h:eU t with
  | nil=>rw [h] at b5; exact absurd rfl b5
  | cons q rest=>exact ⟨q,rest,rfl⟩
 have b8:=bu.1
 rw [Y] at bt bu b8 c3
 obtain ⟨⟨aO,ft⟩,rvs',rfl⟩:∃ q b9,c7=q::b9:=by
  cases c7 with
  | nil=>exact absurd b8<|by simp
  | cons q b9=>exact ⟨q,b9,rfl⟩
 obtain ⟨e7,c1⟩:=bu.2 0 (aO,ft) (c6,aP) rfl rfl
 obtain rfl :aO=c6:=e7
 obtain ⟨a0,dA,rfl⟩:=c1.slice
 have aZ:=(a6 bt).2
 have eP:=(a6 bt).1
 have cP:∀ q∈(aO,aP)::rest,q.2.length≤70000∧∀ x∈q.2,x.length≤70000:=fun q C=>by
  have h:=Ht (show q∈eU t by rw [Y]; exact C)
  exact ⟨ab,fun x fo=>by have :=(h.2.2.2.2 x fo).2; omega⟩
 have cO:=cP _<|List.mem_cons_self ..
 simp only [bX] at b8 c3 eP
 refine aR<|dw<|ak fun bv=>p mv<|p (bd rW aa aa (by rw [Y]; simp only [bX]; omega)<|aG.ok (aZ)<|xk<|by simp)<|p (cg vq aa (aa)<|xm (i:=0) aZ aa)<|e<|cl MO (O5 aO aP ca.heap.size a0 dA ax c1 cO.2 cO.1) aa fun v45 fy ek=> ?_
 obtain ⟨rfl,aH⟩:=ek
 have gd:=aH.size
 refine p mv<|p (xt aa aa)<|p (xt aa aa)<|p aE<|ay<|bv<|az fun dc=>ak fun dd=>p mv<|p (gE aa aa)<|nl<|dd<|cd aa (fun cI=> ?_) fun cI=> ?_
 obtain ⟨fJ,eR,b2⟩:=O3 (F:=F) a3 Y cI
 refine ak fun bx=>p mv<|p (bd rW aa aa (by rw [Y]; simp only [bX]; omega)<|aG.ok (aZ.wk aH)<|xk<|by simp)<|p (fa wm aa)<|p (ld bO aa<|xm (i:=0) (aZ.wk aH) aa 0 aw)<|p mv<|e<|cl rO (rS (aO:Nat) (la aP).2 fy) aa fun v55 gB el=> ?_
 obtain ⟨rfl,bR⟩:=el
 have gf:=bR.size
 refine p aE<|e<|cM iV aa aa aa aa (Wk.B (aH.trans bR) aT) (by simp) fun gH d5 dG=>nl<|bx<|rt<|tr<|fg aa eE (dV (cs:= [.int .i64 2,aj aO,.int .i64 (la aP).2]) aa kq aa fun j aq=>dG.bp j) ?_
 have h:=kZ.no b2<|(aD.trans<|aH.trans bR).trans' d5 fun q C h=>by omega
 show kZ F t w (.tuple #[.pointer none,.agg [.int .i64 2,aj aO,.int .i64 (la aP).2].toArray]) _
 rw [eR]
 exact h
 obtain ⟨n,cR,fX,b2⟩:=O4 (F:=F) a3 Y (show (la aP).2=0 by omega)
 have d4:=ct.wk<|aD.trans aH
 obtain ⟨seen,cn⟩:=dX
 have fT:=cn.len
 refine aR<|dc<|ak fun bx=>e<|qM fun Z gC fQ b0 dQ=> ?_
 have gg:=b0.size
 refine p (di (ps:= [(1,.map (some Z))]) (L:= [.slice none 0 0,.map (some Z)]) VE aa<|aa)<|e<|pG aa fun E fC fR bi dR=> ?_
 have gh:=bi.size
 have d1:=aH.trans<|b0.md.trans bi.md
 refine ay<|bx<|ak fun de=>au (aU fb)<|e<|cl tw (tg B fb mc F V fC (d4.wk<|b0.md.trans bi.md) ab e1) aa fun v60 gD em=> ?_
 obtain ⟨⟨fF,rfl,_⟩,hE60⟩:=em
 have gi:=hE60.size
 refine p (Qp QQ CP aa aa)<|e<|al Xo fun bH gu fN bc dH=> ?_
 have f2:=bc.size
 refine e<|cM OI aa aa aa aa (dH) (by simp) fun M a9 dI=> ?_
 have dZ:Wk ax M:=(d1.trans<|hE60.trans bc.md).trans' a9 fun q C h=>by omega
 have f4:=a9.size
 have eG:M.heap[E]? =some (.cells [.slice none 0 0,.map (some Z)].toArray 184 (0,0)):=a9.aB (Wk.aB (hE60.trans bc.md) dR) fun h=>by omega
 have eX:bS M.heap Z ik (fun _=>none):=bS.md (bS.wk (bS.nil dQ)<|bi.md.trans<|hE60.trans bc.md) a9 fun h=>by omega
 have eu:kn M M.heap.size E Z (.slice none 0 0) [] []:=⟨eG,dS _ _ _ _,dE.nil _ _ _,⟨_,eX,⟨fun s=>dS _ _ _ _,fun s _=>rfl⟩⟩⟩
 have eC:bD M.heap bH [aX (F.sp.getD 0 0),aX (F.sp.getD 1 0),aX (F.sp.getD 2 0),aX (F.sp.getD 3 0),aX (F.sp.getD 4 0)]:=dI
 have co:aG ax.heap (fw ar cr 1 2) (l1 rvs'):=by
  have h:=aZ.drop (cap:=cr) (k:=1) (size:=2)<|by rw [Hy]; simp only [bX]; omega
  exact h
 have ex:iz F ((dj t).length+1) (fK F t) [] (n - 0) (rest.drop 0):=by rw [b2]; exact iz.start
 refine nl<|de<|az fun df=>ak fun dg=>p mv<|p (uu rW aa aa<|by rw [Y]; simp only [bX]; omega)<|p (bP xI aa aa)<|p mv<|nl<|dg<|aB<|lp (fun ch ah aA=> ∃ (i:Nat) (xs:List bj) (vs:List Value) (va:Value),(i≤rest.length∧i≤n)∧(xs.length=i)∧(iz F ((dj t).length+1) (fK F t) xs (n - i)<|rest.drop i)∧(kn aA M.heap.size E Z va vs xs)∧(Wk ax aA)∧(bD aA.heap bH [aX (F.sp.getD 0 0),aX (F.sp.getD 1 0),aX (F.sp.getD 2 0),aX (F.sp.getD 3 0),aX (F.sp.getD 4 0)])∧(M.heap.size≤aA.heap.size)∧(ah 0=aU fb)∧(ah 5=aU bJ)∧(ah 6= .slice c5 (dj t).length rL)∧(ah 10=aj n)∧(ah 11=aU E)∧(ah 12=aU bH)∧(ah 63= .slice (fw ar cr 1 2) rest.length (cr - 1))∧(ah 64=aj (rest.length))∧(ah 65=aj i)∧(rest.length - i=ch)) _ ⟨0,[],[],.slice none 0 0,ab,aa,ex,eu,dZ,eC,(cz _),aa,aa,aa,(by first | rfl | (rw [← cR]; rfl)),aa,aa,(by first | rfl | (rw [Y]; rfl)),(by first | rfl | (rw [Y]; rfl)),aa,aa⟩ ?_
 rintro ch ah aA ⟨i,xs,vs,va,hi,c4,ai,aS,O,cE,gp,e9,ff,fh,fc,fd,fe,fi,fj,fk,rfl⟩
 refine fx 0 e9<|fx 5 ff<|fx 6 fh<|fx 10 fc<|fx 11 fd<|fx 12 fe<|fx 63 fi<|fx 64 fj<|fx 65 fk<|ak fun dh=>p (lt aa aa)<|nl<|dh<|az fun dk=>cd aa (fun eJ=> ?_) fun eJ=> ?_
 refine aR<|dk<|az fun bz=>aB<|az fun bA=> ?_
 obtain ⟨⟨ln,r⟩,hri⟩:∃ q,rest[i]? =some q:=⟨_,bW ab⟩
 have eQ:rest.drop i=(ln,r)::rest.drop (i+1):=by rw [List.drop_eq_getElem_cons ab]; rw [bW ab] at hri; rw [Option.some.inj hri]
 obtain ⟨p,c2⟩:∃ p,rvs'[i]? =some p:=⟨_,bW ab⟩
 obtain ⟨dB,cD⟩:=bu.2 (i+1) p (ln,r) c2 hri
 obtain ⟨fs,gr⟩:=p
 obtain rfl :ln=fs:=dB.symm
 obtain ⟨a,c,rfl⟩:=cD.slice
 have cQ:=cP (ln,r)<|List.mem_cons_of_mem _<|fz hri
 rw [eQ] at ai
 refine rg aa<|au (aj i)<|p (bd rW aa aa ab<|aG.ok (co.wk O)<|xk ab)<|p (cg vq aa (aa)<|xm (co.wk O) c2)<|e<|al IN fun cc gw bl bZ dJ=> ?_
 have f5:=bZ.size
 refine p (cj (aj i) aa)<|e<|cM Ek aa aa aa aa (dJ) (by simp) fun aW bY dK=> ?_
 have a5:Wk ax aW:=(O.trans bZ.md).trans' bY fun q C h=>by omega
 have cp:Wk aA aW:=bZ.md.trans' bY fun q C h=>by omega
 have bl:bD aW.heap cc [aj ln,.slice a r.length c]:=dK
 have f7:=bY.size
 refine nl<|bA<|az fun aY=>ak fun dn=>au (aj i)<|au (aj n)<|p (cw aa aa)<|nl<|dn<|cd aa (fun eN=> ?_) fun eN=> ?_
 refine ak fun bB=>p (fa wm aa)<|p (ld bO aa<|(bl.aM 0).trans aa)<|e<|cl rO (rS (ln:Nat) 116 aW) aa fun v75 gF en=> ?_
 obtain ⟨rfl,bT⟩:=en
 have gj:=bT.size
 refine p aE<|e<|cM iV aa aa aa aa (Wk.B (a5.trans bT) aT) (by simp) fun gI d6 dL=>nl<|bB<|rt<|tr<|br<|tr<|tr<|br<|tr<|fg aa eE (dV (cs:= [.int .i64 2,aj ln,.int .i64 116]) aa kq aa fun j aq=>dL.bp j) ?_
 rw [show n - i=0 by omega] at ai
 exact kZ.no ai.more<|(aD.trans<|a5.trans bT).trans' d6 fun q C h=>by omega
 refine aR<|aY<|ak fun bB=>au (aU fb)<|p (cg CP aa (aa) fun j aq=>(Wk.B cp cE).bp j)<|p (cg vq aa (aa) fun j aq=>bl.bp j)<|e<|cl MP (OT B fb mc F V ln r ca.heap.size a c aW (ct.wk<|aD.trans a5) ⟨seen,cn⟩ (cD.wk a5) cQ.2 cQ.1) aa fun v80 fD eo=> ?_
 obtain ⟨d3,bU⟩:=eo
 obtain ⟨A,a80,ce,rfl,c0,cL⟩:∃ (u:Tx) (a:Value) (e:Nat),v80= .tuple #[.agg [str u,a].toArray,aj e]∧a.oneCell'=true∧((e=0∧∃ l,fL F r= .ok (u,l)∧bq fD aW.heap.size 95 1 a l.length (l.map aX))∨(e≠0∧fL F r= .error e)):=by
  rcases d3 with ⟨x,a,h1,h2,h3⟩ | ⟨e,h1,h2,h3⟩
  exact ⟨x.1,a,0,h2,eM h3,.inl ⟨aa,x.2,h1,h3⟩⟩
  exact ⟨_,_,e,h3,aa,.inr ⟨h2,h1⟩⟩
 have gk:=bU.size
 refine p mv<|p (xt aa aa)<|p (xt aa aa)<|e<|gn oX fun bI gy fO bg ci=> ?_
 have f6:=bg.size
 refine e<|fY jv aa aa aa (Ia c0) ci aw fun av bb dM=> ?_
 have aQ:Wk aA av:=(cp.trans<|bU.trans bg.md).trans' bb fun q C h=>by omega
 have cF:av.heap[bI]? =some (.cells [str A,a80].toArray 53 (0,0)):=dM
 have f8:=bb.size
 have eD:bD av.heap cc [aj ln,.slice a r.length c]:=bb.B (Wk.B (bU.trans bg.md) bl) fun h=>by omega
 refine ay<|bB<|az fun dp=>ak fun dr=>p mv<|p (gE aa aa)<|nl<|dr<|cd aa (fun eO=> ?_) fun eO=> ?_
 obtain ⟨fZ,hex⟩:=cL.resolve_left fun h=>by omega
 refine ak fun bC=>p (fa wm aa)<|p (ld bO aa<|(eD.aM 0).trans aa)<|p mv<|e<|cl rO (rS (ln:Nat) (ce:Nat) av) aa fun gt gG ep=> ?_
 obtain ⟨rfl,bV⟩:=ep
 have gl:=bV.size
 exact p aE<|e<|cM iV aa aa aa aa (Wk.B (O.trans<|aQ.trans bV) aT) (by simp) fun gJ d7 dN=>nl<|bC<|rt<|tr<|br<|tr<|tr<|br<|tr<|fg aa eE (dV (cs:= [.int .i64 2,aj ln,aj ce]) aa kq aa fun j aq=>dN.bp j)<|kZ.no (ai.bad ab hex)<|(aD.trans<|O.trans<|aQ.trans bV).trans' d7 fun q C h=>by omega
 obtain ⟨_,aN,hex,e4⟩:=cL.resolve_right fun h=>by omega
 have bk:=aS.wk aQ
 have eZ:¬(va.ownBlock=some E):=dx bk.own bk.cells aw
 have eY:¬(va.ownBlock=some bI):=fun h=>by have :=(cV aS.own h).2; omega
 have gq:=aQ.size
 refine aR<|dp<|az fun bC=> ?_
 have aL:(fun w'=>Md (fun q=>va.ownBlock=some q) av w') av.drew:=(Md.refl _ _).drew
 refine eL (fun w'=>Md (fun q=>va.ownBlock=some q) av w') 10 aa wide aL<|bw 0 aa (aU E) aL<|bw 1 aa (aU E) aL<|bG 2 aa (fun _=>nc aa) (fun _=>aL)<|bG 3 aa (fun _=>fa wo aa) (fun _=>aL)<|ez 4 aa (fun w' I=>ld th aa<|Md.aM I ((a7 bk.cells).trans aa) eZ) aL<|ez 5 aa (fun w' I=>cg kM aa (aa) fun j aq=>bD.bp ⟨_,Md.aB I cF eY⟩ j) aL<|ja 6 aa ag<|nM xr aa aa aa fun fI fE fS ec dW=> ?_
 have aI:=jb ec.md
 have J:=bk.wk aI
 have gm:=aI.size
 have cA:(fun w'=>Md (fun q=>va.ownBlock=some q) av w') fE:=Md.mono aI fun _ _ h=>h.elim
 refine ⟨cA,?_⟩
 refine ja 7 aa ag<|ap xr (J.own) aa ab aa (aG.fV dW) (aa) (Ia c0) ab ab fun a4 cb cY ae fr fU=> ?_
 obtain ⟨f,cN,eV⟩:=J.mp
 have a1:=ae.aB J.cells<|dx J.own J.cells aw
 have cZ:bq cb M.heap.size 53 2 a4 (xs++ [(A,aN)]).length (kO<|(xs++ [(A,aN)]).zip<|vs++ [a80]):=by
  have eW:xs.length=vs.length:=by have :=J.fl.1; rw [e8] at this; omega
  rw [List.zip_append eW,List.zip_cons_cons,List.zip_nil_right,Pq,bK]; exact cY
 have fr:=ae.size
 have ey:=ae.B (Wk.B (aQ.trans aI) cE) fun h=>by have :=(cV J.own h).1; omega
 have eF:=ae.aB (Wk.aB aI cF) fun h=>by have :=(cV aS.own h).2; omega
 have d2:Wk ax cb:=(O.trans<|aQ.trans aI).trans' ae fun q C h=>by have :=(cV J.own h).1; omega
 have b1:(fun w'=>Md (fun q=>va.ownBlock=some q) av w') cb:=cA.trans' ae fun _ _ h=>h
 refine ⟨b1,?_⟩
 refine bG 8 aa (fun _=>nc aa) (fun _=>b1)<|bG 9 aa (fun _=>fa wo aa) (fun _=>b1)<|dq 10 aa ag ag<|dy Ei aa aa (v:=a4) (eM cY) a1 (by show _ < 2; omega) fun aF am dC=> ?_
 have bo:aF.heap[E]? =some (.cells [a4,.map (some Z)].toArray 184 (0,0)):=dC
 have f0:=am.size
 have dY:Wk ax aF:=d2.trans' am fun q C h=>by omega
 have eA:=am.B ey fun h=>by omega
 have b3:=am.aB eF fun h=>by omega
 have cW:=cx cZ am fun q C h=>dx cZ a1 aw<|h ▸ C
 have es:Tg aF M.heap.size 95 aN.length a80 (aN.map aX):=((((((Tg.kF e4).mono ab).wk bg.md).md bb<|ic ci aw).wk aI).md ae<|jD J.own aw).md am<|ic a1 aw
 have eS:=((J.fl.md ae<|jD J.own aw).md am<|ic a1 aw).snoc es
 have b6:=(cN.md ae fun h=>nm J.own h fun cur z=>cN.nj).md am fun h=>by omega
 have bs:=(eV.md ae<|jD J.own aw).md am<|ic a1 aw
 have b7:¬(((f<|str A).getD<|bE none 0 0).ownBlock=some E):=dx (bs.own A) bo aw
 have cS:¬(((f<|str A).getD<|bE none 0 0).ownBlock=some bI):=dx (bs.own A) b3 aw
 have cU:¬(((f<|str A).getD<|bE none 0 0).ownBlock=some Z):=fun h=>nm (bs.own A) h fun cur z=>b6.nj
 refine eK ag<|bC ?_
 have G:(fun w'=>Md (fun q=>((f<|str A).getD<|bE none 0 0).ownBlock=some q) aF w') aF.drew:=(Md.refl _ _).drew
 refine eL (fun w'=>Md (fun q=>((f<|str A).getD<|bE none 0 0).ownBlock=some q) aF w') 16 aa wide G<|lq 0 aa ag (fun _ _=>aJ (aU E) aa) G<|lq 1 aa ag (fun _ _=>nc aa) G<|lq 2 aa ag (fun _ _=>fa z1 aa) G<|lq 3 aa ag (fun w' I=>ld yG aa<|Md.aM I ((a7 bo).trans aa) b7) G<|lq 4 aa ag (fun _ _=>fa wx aa) G<|lq 5 aa ag (fun w' I=>ld cH aa<|Md.aM I ((a7 b3).trans aa) cS) G<|lq 6 aa ag (fun _ _=>aJ (aU E) aa) G<|lq 7 aa ag (fun _ _=>nc aa) G<|lq 8 aa ag (fun _ _=>fa z1 aa) G<|lq 9 aa ag (fun w' I=>ld yG aa<|Md.aM I ((a7 bo).trans aa) b7) G<|lq 10 aa ag (fun _ _=>fa wx aa) G<|lq 11 aa ag (fun w' I=>ld cH aa<|Md.aM I ((a7 b3).trans aa) cS) G<|lq 12 aa ag (fun w' I=>lh BB xS gL (bS.md (b6) I cU) aa aa (⟨_,aa⟩)<|aa) G<|lq 13 aa ag (fun _ _=>aJ (aj i) aa) G<|ja 14 aa ag<|lK nq aa aa fun fH fv fM eb dF=> ?_
 have ac:=jb eb.md
 have aV:=bs.md ac fun _ hk=>hk.elim
 have f1:=ac.size
 have cB:(fun w'=>Md (fun q=>((f<|str A).getD<|bE none 0 0).ownBlock=some q) aF w') fv:=Md.mono ac fun _ _ h=>h.elim
 refine ⟨cB,?_⟩
 refine ja 15 aa ag<|ap nq (aV.own A) aa ab aa (aG.fV dF) (aa) (aa) (by have :=Aj A xs; omega) (by have :=Aj A xs; omega) fun fu c9 e2 an fq a2=> ?_
 have fq:=an.size
 have a2:=(b6.wk ac).md an cU
 have e5:bq c9 M.heap.size 3 1 fu (idxs A xs++ [xs.length]).length ((idxs A xs++ [xs.length]).map fA):=by
  rw [bK,iw,c4]; exact e2
 have er:(fun w'=>Md (fun q=>((f<|str A).getD<|bE none 0 0).ownBlock=some q) aF w') c9:=cB.trans' an fun _ _ h=>h
 refine ⟨er,?_⟩
 refine dq 16 aa ag ag<|qV BB gL (a2) aa aa aa (⟨_,aa⟩) fun da aK ed=> ?_
 have e6:=me.put (x:=(A,aN)) aV an e5 (fun cur z=>a2.nj) aK
 have eI:=aK.aB (an.aB (Wk.aB ac bo) b7) fun h=>by omega
 have cX:=cx (a8 cW ac) an fun q C=>n0 (a8 cW ac) (aV.own A) aw C
 have e3:=cx cX aK fun q C h=>nm cX C fun cur z=>h ▸ a2.nj
 have eT:=((eS.wk ac).md an<|jD (aV.own A) aw).md aK fun k hk cur z h=>a2.nj<|hk ▸ h
 have ev:kn da M.heap.size E Z a4 (vs++ [a80]) (xs++ [(A,aN)]):=⟨eI,e3,by rw [iw]; exact eT,⟨_,ed,e6⟩⟩
 have d0:Wk ax da:=((dY.trans ac).trans' an fun q C h=>by have :=(cV (aV.own A) h).1; omega).trans' aK fun q C h=>by omega
 have eB:=aK.B (an.B (Wk.B ac eA) fun h=>by have :=(cV (aV.own A) h).1; omega) fun h=>by omega
 have f9:=aK.size
 exact eK ag<|bn<|bz<|rg aa<|p (ad aa aa<|cC ab)<|p mv<|nl<|tn<|⟨_,ab,i+1,xs++ [(A,aN)],vs++ [a80],a4,ab,(by rw [bK,c4]; rfl),(by rw [show n - (i+1)=n - i - 1 by omega]; exact ai.step ab hex),ev,d0,eB,(ab),aa,aa,aa,(by first | rfl | (rw [← cR]; rfl)),aa,aa,(by first | rfl | (rw [Y]; rfl)),(by first | rfl | (rw [Y]; rfl)),aa,aa⟩
 refine ext<|bh<|bh<|be<|df<|az fun bz=>az fun bA=> ?_
 obtain ⟨fG,cv,rfl⟩:=cT aS.own
 refine rg aa<|au (aU E)<|p (nc aa)<|p (fa wo aa)<|p (ld th aa<|(a7 aS.cells).trans aa)<|p (bP xH aa aa)<|au (aj n)<|p (lt aa aa)<|nl<|bA<|cd aa (fun eH=> ?_) fun eH=> ?_
 refine ak fun aY=>au (.slice c5 (dj t).length rL)<|p (bP iQ aa aa)<|p (bL (((dj t).length+1:Nat):Int) aa aa<|bm ab ab)<|e<|cl rO (rS ((dj t).length+1:Nat) 116 aA) aa fun gs gv ee=> ?_
 obtain ⟨rfl,bM⟩:=ee
 have f3:=bM.size
 refine p aE<|e<|cM iV aa aa aa aa (Wk.B (O.trans bM) aT) (by simp) fun gK d8 dO=>nl<|aY<|rt<|tr<|fg aa eE (dV (cs:= [.int .i64 2,aj ((dj t).length+1),.int .i64 116]) aa kq aa fun j aq=>dO.bp j) ?_
 rw [lC ab] at ai
 exact kZ.no (ai.ends ab)<|(aD.trans<|O.trans bM).trans' d8 fun q C h=>by omega
 refine aR<|bz<|ak fun aY=>au (aU E)<|p (di (ps:= []) (L:= [.int .i64 0,.int .i64 0,.int .i64 0]) sv aa<|aa)<|p (cj (aU E) aa)<|e<|cM iV aa aa aa aa (Wk.B O aT) (by simp) fun gM cu dP=>nl<|aY<|rt<|fg aa eE (dV (cs:= [.int .i64 0,.int .i64 0,.int .i64 0]) aa kq aa fun j aq=>dP.bp j) ?_
 rw [lC ab,show n - i=0 by omega] at ai
 have ew:=ai.done
 have et:TF aA [47] (fun q=>q=bJ):=TF.eq (dD<|Wk.aB (hE22.trans<|hE31.trans O) cm) aw
 unfold kZ
 rw [ew]
 exact ⟨⟨M.heap.size,E,Z,_,vs,ab,aa,aS.md cu et aw (fun h=>by omega),ab,ab⟩,(aD.trans O).trans' cu fun q C h=>by omega⟩
end Go.Hb.iD
end
section
namespace Go.Hb
open Go.Hb.iD
theorem Xf {α:Type} {f:α×Value→List Value} {m c i:Nat} (A:∀ q,(f q).length=m) (C:c < m) (hs:∀ a u v,(f (a,u)).set c v=f (a,v)) {rs:List α} {vs:List Value} {v:Value} (hi:i < rs.length) (J:i < vs.length):((rs.zip vs).flatMap f).set (i*m+c) v=(rs.zip<|vs.set i v).flatMap f:=by
 obtain ⟨r,I⟩:∃ r,rs[i]? =some r:=⟨_,bW hi⟩
 obtain ⟨u,hu⟩:∃ u,vs[i]? =some u:=⟨_,bW J⟩
 have M:(rs.zip vs)[i]? =some (r,u):=jg.2 ⟨I,hu⟩
 have Y:rs.zip (vs.set i v)=(rs.zip vs).set i (r,v):=by
  apply om
  intro j
  rw [kh]
  by_cases E:i=j
  · subst E
    rw [if_pos rfl,if_pos (eQ.1 M).1]
    exact jg.2 ⟨I,by simp [J]⟩
  · rw [if_neg E]
    cases h1:(rs.zip vs)[j]? with
    | none=>
      rw [List.getElem?_eq_none_iff,yq] at h1 ⊢
      rw [uW]; exact h1
    | some q=>
      have h2:=jg.1 h1
      exact jg.2 ⟨h2.1,by rw [kh,if_neg E]; exact h2.2⟩
 have Z:(rs.zip vs).length=min rs.length vs.length:=yq
 have G:((rs.zip vs).flatMap f).length=(rs.zip vs).length*m:=mr A _
 have hle:i*m+m≤(rs.zip vs).length*m:=by rw [← Nat.succ_mul]; exact ou _ ab
 rw [Y,Fc A _ ab]
 apply om
 intro j
 have O:=fun c C=>wc A (c:=c) M C
 have V:(((rs.zip vs).flatMap f).take<|i*m).length=i*m:=by rw [List.length_take,G]; omega
 rw [kh]
 by_cases h1:j < i*m
 · rw [if_neg ab,dZ,mK ab,oo,if_pos h1]
 · rw [dZ,nD ab,V]
   by_cases h2:j < i*m+m
   · rw [mK (by rw [A]; omega)]
     obtain ⟨d,rfl⟩:∃ d,j=i*m+d:=⟨j - i*m,ab⟩
     rw [O d ab,show i*m+d - i*m=d by omega,← hs r u v,kh]
     by_cases h3:c=d
     · subst h3; rw [if_pos rfl,if_pos rfl,if_pos (by rw [G]; omega),if_pos (by rw [A]; exact C)]
     · rw [if_neg ab,if_neg h3]
   · rw [if_neg ab,nD (by rw [A]; omega),A,List.getElem?_drop]
     congr 1; omega
theorem PB {xs:List bj} {vs:List Value} {i:Nat} {v:Value} (hi:i < xs.length) (a:i < vs.length):(kO<|xs.zip vs).set (i*2 +1) v=kO (xs.zip<|vs.set i v):=Xf (f:=qC) (m:=2) (c:=1) (fun _=>rfl) aw (fun _ _ _=>rfl) hi a
theorem zA {l:List (bj×Value)} {i:Nat} {q:bj×Value} (h:l[i]? =some q):kO l≠[]:=fun h2=>by
 have h3:=Pr l
 have h4:=(eQ.1 h).1
 rw [h2] at h3
 have h5:0=l.length*2:=h3
 omega
theorem KI (l:List Nat):(l.map fA).all eO=true :=by
 rw [kK]; intro v a; obtain ⟨x,_,rfl⟩:=gQ.1 a; rfl
theorem PA {w:World} {B e:Nat} {xs:List bj} {vs:List Value} {A:List (List Nat)} (h:dE w B e vs A):(kO<|xs.zip vs).all eO=true :=by
 rw [kK]
 intro v a
 obtain ⟨q,c,a⟩:=List.mem_flatMap.1 a
 have h1:=kK.1 (vw h) q.2 (List.of_mem_zip c).2
 simp only [qC,eB,List.not_mem_nil,or_false] at a
 rcases a with rfl | rfl
 · rfl
 · exact h1
def ov (w:World) (B:Nat) (vs:List Value) (a:List (List Nat)):Prop :=vs.length=a.length∧∀ (i:Nat) v l,vs[i]? =some v→a[i]? =some l→bq w B 95 1 v l.length (l.map aX)
theorem ov.t {w:World} {B:Nat} {vs:List Value} {a:List (List Nat)} (h:ov w B vs a):dE w B 95 vs a:=⟨h.1,fun i v l h1 h2=>Tg.kF<|h.2 i v l h1 h2⟩
theorem CV {G:Nat→Prop} {w w':World} {B:Nat} {vs:List Value} {a:List (List Nat)} (h:ov w B vs a) (hm:Md G w w') (c:∀ k,G k→∀ cur z,w.heap[k]?≠some (.cells cur 95 z)):ov w' B vs a:=⟨h.1,fun i v l h1 h2=>cx (h.2 i v l h1 h2) hm fun k hk q=>nm (h.2 i v l h1 h2) hk<|c k q⟩
theorem KM (w:World) (B:Nat):ov w B [] []:=⟨rfl,fun i v l a=>by simp at a⟩
theorem KL {w:World} {B i:Nat} {vs:List Value} {a:List (List Nat)} {v:Value} (h:ov w B (vs.take i) (a.take i)) (hi:i < a.length) (C:i < vs.length) (A:bq w B 95 1 v (a.getD i []).length ((a.getD i []).map aX)):ov w B ((vs.set i v).take<|i+1) (a.take<|i+1):=by
 refine ⟨by simp; have :=h.1; simp at this; omega,fun j u l h1 h2=> ?_⟩
 rw [oo] at h1 h2
 by_cases c:j < i+1
 · rw [if_pos c] at h1 h2
   rw [kh] at h1
   by_cases q:i=j
   · subst q
     rw [if_pos rfl,if_pos C] at h1
     cases h1
     rw [show a.getD i []=l by rw [cR,h2]; rfl] at A
     exact A
   · rw [if_neg q] at h1
     exact h.2 j u l (by rw [oo,if_pos ab]; exact h1)<|by rw [oo,if_pos ab]; exact h2
 · rw [if_neg c] at h1; cases h1
theorem O1 (B wb mb:Nat) (va:Value) (vs:List Value) (xs:List bj) (w:World) (a:kn w B wb mb va vs xs) (J:xs.length≤70000) (s:Tx):
 bf ao 161 (ba [aU wb,str s]) w (fun v w'=>bq w' w.heap.size 3 1 v (idxs s xs).length ((idxs s xs).map fA)∧Wk w w'):=by
 obtain ⟨f,G,I⟩:=a.mp
 exact enter func161 aa ntmps161 aa<|ak fun c=>ay<|c<|az fun q=>ak fun A=>au (aU wb)<|p (lN BG aa aa)<|nl<|A<|cf (aa)<|aR<|q<|az fun C=>rg aa<|au (aU wb)<|p (nc aa)<|p (fa z1 aa)<|p (ld yG aa<|(a7 a.cells).trans aa)<|au (str s)<|p (lh BB xS gL (G) aa aa (⟨_,aa⟩)<|aa)<|e<|cl L4 (Nv _ (idxs s xs).length ((idxs s xs).map fA) w (Rd.kF<|I.own s) (KI _)<|by have :=Aj s xs; omega) aa fun M O E=>ay<|C<|rt<|bc aa<|E
theorem OS (B wb mb:Nat) (va:Value) (vs:List Value) (xs:List bj) (w:World) (E:kn w B wb mb va vs xs) (a0:xs.length≤70000) (aL:∀ x∈xs,x.2.length≤64):
 bf ao 42 (ba [aU wb]) w (fun v w'=>(∃ vs,bq w' w.heap.size 53 2 v xs.length (kO<|xs.zip vs)∧dE w' w.heap.size 95 vs (xs.map (·.2))∧ov w' w.heap.size vs (xs.map (·.2)))∧Wk w w'):=by
 refine enter func42 aa ntmps42 aa<|ak fun am=>ay<|am<|az fun ap=>ak fun aq=>au (aU wb)<|p (lN BG aa aa)<|nl<|aq<|cf (aa)<|aR<|ap<|az fun av=>rg aa<|au (aU wb)<|p (nc aa)<|p (fa wo aa)<|p (ld th aa<|(a7 E.cells).trans aa)<|e<|cl MU (Nt va xs.length (kO<|xs.zip vs) w (Rd.kF E.own) (PA E.fl) ab) aa fun v11 a3 aH=> ?_
 obtain ⟨ah,aE⟩:=aH
 obtain ⟨A,kr,rfl⟩:=cT ah
 have aT:vs.length=xs.length:=by have :=E.fl.1; rwa [e8] at this
 refine ay<|av<|az fun ax=>ak fun aA=>p mv<|p (bP xH aa aa)<|p mv<|nl<|aA<|aB<|lp (fun ag J C=> ∃ (i:Nat) (sa:List Value),(i≤xs.length)∧(sa.length=xs.length)∧(sa.drop i=vs.drop i)∧(ov C w.heap.size (sa.take i)<|(xs.map (·.2)).take i)∧(bq C w.heap.size 53 2 (.slice A xs.length kr) xs.length<|kO<|xs.zip sa)∧(Wk w C)∧(J 3= .slice A xs.length kr)∧(J 13=aj (xs.length))∧(J 14=aj i)∧(xs.length - i=ag)) _ ⟨0,vs,ab,aT,aa,(KM _ _),ah,aE,aa,aa,aa,aa⟩ ?_
 rintro ag J C ⟨i,sa,hi,aS,al,I,c,G,aQ,aO,aP,rfl⟩
 refine fx 3 aQ<|fx 13 aO<|fx 14 aP<|ak fun aC=>p (lt aa aa)<|nl<|aC<|az fun aD=>cd aa (fun aK=> ?_) fun aK=> ?_
 refine aR<|aD<|az fun M=>aB<|az fun an=> ?_
 obtain ⟨a2,aV,V⟩:=dE.get (E.wk G).fl (show i < (xs.map (·.2)).length by rw [e8]; omega)
 obtain ⟨ae,ci,rfl⟩:=V.slice
 obtain ⟨x,ac⟩:∃ x,xs[i]? =some x:=⟨_,bW ab⟩
 have aY:(xs.map (·.2)).getD i []=x.2:=by rw [cR,fH,ac]; rfl
 have aW:=aL x<|fz ac
 rw [← aY] at aW
 have Z:(xs.zip sa)[i]? =some (x,.slice ae ((xs.map (·.2)).getD i []).length ci):=jg.2 ⟨ac,(zx al).trans aV⟩
 refine rg aa<|au (aj i)<|p (cj (aj i) aa)<|nl<|an<|rg aa<|au (.slice A xs.length kr)<|au (aj i)<|au (.slice A xs.length kr)<|au (aj i)<|p (bd zC aa aa ab<|aG.ok ((a6 c).2)<|zA Z)<|p (fa qG aa)<|p (ld mh aa<|gr (f:=qC) (m:=2) (fun _=>rfl) (a6 c).2 Z 1 aw)<|e<|cl rN (rP ae ((xs.map (·.2)).getD i []).length ci (((xs.map (·.2)).getD i []).map aX) C V.dG.2 (by simp) (fun h=>Tg.sj V (by simp) h) (rG _) ab) aa fun v24 a4 aI=> ?_
 obtain ⟨Y,a⟩:=aI
 have a1:=a.size
 refine p (bd zC aa aa ab<|aG.ok ((a6<|a8 c a).2)<|zA Z)<|p (fa qG aa)<|e<|sw (j:=i*2 +1) (a8 c a) rR aa aa (eM Y) (by rw [jq]; omega) ab fun aZ O ai=> ?_
 rw [PB ab ab] at ai
 have aF:Wk w aZ:=Wk.own (G.trans a) (a8 c a) O ab
 have aM:=cx (e5 Y (show w.heap.size≤C.heap.size from G.size)) O fun q aN=>n0 Y (a8 c a) aw aN
 have aJ:=CV (CV I a fun _ hk=>hk.elim) O<|jD (a8 c a) aw
 exact nl<|bn<|M<|rg aa<|p (ad aa aa<|cC ab)<|p mv<|nl<|tn<|⟨_,ab,i+1,sa.set i v24,ab,(by rw [uW]; exact aS),(gI.set_drop al),(KL aJ (by rw [e8]; omega) ab aM),ai,aF,aa,aa,aa,aa⟩
 refine ext<|bh<|bh<|be<|ax<|ak fun M=>au (.slice A xs.length kr)<|p (cj (.slice A xs.length kr) aa)<|nl<|M<|rt<|bc aa ?_
 rw [e9 ab,e9 (by rw [e8]; omega)] at I
 exact ⟨⟨sa,c,I.t,I⟩,G⟩
end Go.Hb
end
section
namespace Go.Hb
open Go.Hb.nJ Go.Hb.qm
structure Km where
 rb:Nat
 fb:Nat
 eof:Nat
 vr:Value
 vs:List (Nat×Value)
 rows:List Rw
section
variable {w w':World} {B k ln:Nat} {H:Km} {seen:List Tx} {vh:Value}
end
end Go.Hb
end
section
namespace Go.Hb.iT
open Go.Hb.nJ
def Ny (F:aC):Prop := ∀ l∈F.aliases,∀ x∈l,x < 65536
theorem FE {kind:Nat} {s:Tx} {l:List Nat} (h:kQ kind s= .ok l):∀ x∈l,x < 65536:=by
 unfold kQ at h
 split at h
 · cases h
 · cases h
   intro x a
   unfold eY at a
   repeat' split at a
   all_goals first
    | (cases a; done)
    | (rw [AT] at a
       obtain ⟨y,_,rfl⟩:=gQ.1 a
       exact Qf _ _)
theorem KD {kind ln:Nat} {row:List Tx} {l:List Nat} (h:mi kind ln row= .ok l):∀ x∈l,x < 65536:=by
 unfold mi at h
 split at h
 · cases h
 · exact FE h
theorem Qm {kind:Nat} {al:List (List Nat)} {s:Tx} {l:List Nat} (a:∀ l∈al,∀ x∈l,x < 65536) (h:gd kind al s= .ok l):∀ x∈l,x < 65536:=by
 unfold gd at h
 split at h
 · exact FE h
 · split at h
   · cases h
   · split at h
     · cases h
     · cases h
       rename_i n _ _
       rw [cR]
       cases hg:al[n - 1]? with
       | none=>simp
       | some y=>exact a y<|fz hg
theorem Rj {eof ln:Nat} {F F':aC} {hs:List Tx} {rows rows':List Rw} {row:List Tx} (h:Ny F) (a:ca eof F hs rows ln row= .ok (F',rows')):Ny F':=by
 unfold ca at a
 repeat' split at a
 · unfold jV at a; repeat' split at a
   all_goals first | (cases a; done) | (cases a; exact h)
 · unfold kB at a; repeat' split at a
   all_goals first | (cases a; done) | (cases a; exact h)
 · unfold mD at a; repeat' split at a
   all_goals first | (cases a; done) | (cases a; exact h)
 · unfold mE at a; repeat' split at a
   all_goals first | (cases a; done) | (cases a; exact h)
 · unfold kE at a; repeat' split at a
   all_goals first | (cases a; done) | (cases a; exact h)
 · unfold kH at a; repeat' split at a
   all_goals first | (cases a; done) | (cases a; exact h)
 · unfold j6 at a
   split at a
   · cases a
   · split at a
     · cases a
     · split at a
       · cases a
       · rename_i r q
         cases a
         intro l c
         rcases List.mem_append.1 c with c | c
         · exact h l c
         · obtain ⟨_,_,h2⟩:=Af _ _ _ q l c
           exact KD h2
 · unfold gV at a; repeat' split at a
   all_goals first | (cases a; done) | (cases a; exact h)
theorem Ur {eof:Nat} :∀ (k:Nat) (F F':aC) (hs:List Tx) (rows:List Rw),Ny F→gN eof k F hs rows= .ok F'→Ny F':=by
 intro k
 induction k with
 | zero=>intro F F' hs rows h a; rw [gN] at a; split at a <;> cases a; exact h
 | succ k A=>
   intro F F' hs rows h a
   cases rows with
   | nil=>rw [Ho] at a; cases a; exact h
   | cons q rows=>
     rw [gN] at a
     split at a
     · cases a
     · split at a
       · cases a
       · split at a
         · cases a
         · split at a
           · cases a
           · rename_i r c
             exact A _ _ _ _ (Rj (rows':=r.2) h c) a
theorem CJ {s:Tx} {F:aC} (h:fR s= .ok F):Ny F:=by
 unfold fR at h
 split at h
 · cases h
 · split at h
   · cases h
   · rename_i f a
     split at h
     · cases h
     · cases h
       exact Ur _ _ _ _ _ (fun l c=>by cases c) a
def vj (x:bj):Prop :=x.1.length≤64∧x.2.length≤64∧(∀ y∈x.2,y < 65536)
theorem zz {F:aC} {row:List Tx} {x:bj} (h1:Nx F) (h2:Ny F) (h:fL F row= .ok x):vj x:=by
 unfold fL at h
 split at h
 · cases h
 · split at h
   · cases h
   · split at h
     · cases h
     · split at h
       · cases h
       · split at h
         · cases h; exact ⟨by simp only; omega,by simp,fun y c=>by cases c⟩
         · split at h
           · cases h
           · rename_i a
             split at h
             · cases h
               exact ⟨by simp only; omega,zP h1.1 a,Qm h2 a⟩
             · cases h
theorem PD {F:aC} {eof:Nat} (h1:Nx F) (h2:Ny F):∀ {n:Nat} {rows:List Rw} {r:List bj},eI F eof n rows= .ok r→∀ x∈r,vj x:=by
 intro n
 induction n with
 | zero=>
   intro rows r h
   cases rows with
   | nil=>rw [eI] at h; cases h; intro x a; cases a
   | cons q rows=>rw [eI] at h; cases h
 | succ n A=>
   intro rows r h
   cases rows with
   | nil=>rw [eI] at h; cases h
   | cons q rows=>
     rw [eI] at h
     split at h
     · cases h
     · rename_i he
       split at h
       · cases h
       · rename_i c
         cases h
         intro x a
         rcases eB.1 a with rfl | a
         · exact zz h1 h2 he
         · exact A c x a
theorem Ex {F:aC} {t:Tx} {xs:List bj} (h1:Nx F) (h2:Ny F) (h:fK F t= .ok xs):(∀ x∈xs,vj x)∧xs.length≤8192:=by
 unfold fK at h
 split at h
 · cases h
 · split at h
   · cases h
   · split at h
     · cases h
     · split at h
       · cases h
       · rename_i hn
         refine ⟨PD h1 h2 h,?_⟩
         have c:=(PF h).1
         unfold eD at hn
         split at hn
         · cases hn
         · cases hn
           rename_i a
           have :=wW _ 8192<|mI.1 a
           omega
end Go.Hb.iT
end
section
namespace Go.Hb
open Go.Hb.iD Go.Hb.iT
noncomputable def lu (a t:Tx):Option (aC×List bj):=match fR a with
 | .error _=>none
 | .ok F=>match fK F t with
   | .error _=>none
   | .ok xs=>some (F,xs)
theorem VW {a t:Tx} {e:Nat×Nat} (h:fR a= .error e):lu a t=none:=by unfold lu; rw [h]
theorem VX {a t:Tx} {F:aC} {e:Nat×Nat} (h:fR a= .ok F) (h1:fK F t= .error e):lu a t=none:=by unfold lu; rw [h]; simp only; rw [h1]
theorem HW {a t:Tx} {F:aC} {xs:List bj} (h:fR a= .ok F) (h1:fK F t= .ok xs):lu a t=some (F,xs):=by unfold lu; rw [h]; simp only; rw [h1]
structure dW (F:aC) (xs:List bj):Prop where
 len:F.du.length+F.aliases.length+F.bC.length+F.rules.length≤70000
 nx:Nx F
 tH:∀ x∈xs,vj x
 xl:xs.length≤8192
 fs:ry F
 cls:oy F
 Pm:∀ x∈xs,ko x.2
 jU:F.sp.length=5
 ne:∀ x∈xs,1≤x.1.length
theorem yD {s:Tx} {F:aC} (h:fR s= .ok F):Nx F:=yC (Q:=Nx) ⟨fun l a=>(by cases a),fun l a=>by cases a⟩ (fun _ _ _ _ _ _ _ _ h c=>Ai h c) h
theorem dW.of {a t:Tx} {F:aC} {xs:List bj} (h:fR a= .ok F) (h1:fK F t= .ok xs) (c:∃ seen,j0 F [] seen) (h5:F.sp.length=5):dW F xs:=by
 obtain ⟨seen,c⟩:=c
 have A:=c.len
 have q:=Ex (yD h) (CJ h) h1
 exact ⟨by simpa using A,yD h,q.1,q.2,(yB h).1,(yB h).2,O7 (yB h).1 h1,h5,Pb h1⟩
theorem dW.im {F:aC} {xs:List bj} (h:dW F xs) {i:Nat} {r:cK} (a:F.rules[i]? =some r):r.next.length≤64∧ko r.next∧pA r:=⟨h.nx.2 r (fz a),h.fs.2 r<|fz a⟩
structure ej where
 fb:Nat
 mc:Nat
 wb:Nat
 mb:Nat
 V:eh
 V2:eh
 va:Value
 ve:Value
 vs:List Value
 ws:List Value
def V7 (F:aC) (U:ej):List Value:= .pointer (some ⟨U.fb,0,none⟩):: .pointer (some ⟨U.wb,0,none⟩)::(kN F U.V2++ [U.ve])
structure dT (w:World) (B tb:Nat) (U:ej) (F:aC) (xs:List bj):Prop where
 cells:w.heap[tb]? =some (.cells (V7 F U).toArray 105 (0,0))
 fl:c8 w B U.fb U.mc F U.V
 ax:ow w B F U.V2
 wd:kn w B U.wb U.mb U.va U.vs xs
 oe:bq w B 53 2 U.ve xs.length (kO<|xs.zip U.ws)
 ef:dE w B 95 U.ws (xs.map (·.2))
theorem yL {G:Nat→Prop} {w w':World} {B:Nat} {F:aC} {V:eh} (h:ow w B F V) (hm:Md G w w') {L:List Nat} (a:TF w L G) (c:(L.contains 191 || L.contains 53 || L.contains 97 || L.contains 194 || L.contains 136)=false):ow w' B F V:=by
 simp only [o4] at c
 obtain ⟨⟨⟨⟨h1,h2⟩,h3⟩,h4⟩,h5⟩:=c
 have q:∀ k,G k→∀ cur z,w.heap[k]?≠some (.cells cur 95 z):=fun k hk cur z A=>a.no (dD A) h3 hk
 exact ⟨cX h.o9 hm a h1,cX h.gM hm a h2,h.al.md hm q,cX h.gh hm a h4,cX h.eo hm a h5,h.nx.md hm q⟩
theorem dT.ub {G:Nat→Prop} {w w':World} {B tb:Nat} {U:ej} {F:aC} {xs:List bj} (h:dT w B tb U F xs) (hm:Md G w w') {L:List Nat} (a:TF w L G) (c:(L.contains 166 || L.contains 191 || L.contains 53 || L.contains 97 || L.contains 194 || L.contains 136 || L.contains 186 || L.contains 55 || L.contains 5 || L.contains 107)=false) (E:¬G U.mc) (C:¬G U.mb):dT w' B tb U F xs:=by
 simp only [o4] at c
 obtain ⟨⟨⟨⟨⟨⟨⟨⟨⟨h1,h2⟩,h3⟩,h4⟩,h5⟩,h6⟩,h7⟩,h8⟩,h9⟩,h10⟩:=c
 have q:∀ k,G k→∀ cur z,w.heap[k]?≠some (.cells cur 95 z):=fun k hk cur z A=>a.no (dD A) h4 hk
 exact ⟨hm.gT a h.cells h10,h.fl.md hm a (by rw [h1,h2,h3,h4,h5,h6]; rfl) E,yL h.ax hm a (by rw [h2,h3,h4,h5,h6]; rfl),h.wd.md hm a (by rw [h7,h8,h4,h9]; rfl) C,cX h.oe hm a h8,h.ef.md hm q⟩
theorem dT.wk {w w':World} {B tb:Nat} {U:ej} {F:aC} {xs:List bj} (h:dT w B tb U F xs) (hm:Wk w w'):dT w' B tb U F xs:=h.ub (L:= []) hm (fun _ hk=>hk.elim) rfl id id
theorem Le {w w':World} {B:Nat} {F:aC} {V:eh} (h:ow w B F V) (hm:Wk w w'):ow w' B F V:=yL (L:= []) h hm (fun _ hk=>hk.elim) rfl
theorem Lc {w:World} {B B':Nat} {F:aC} {V:eh} (h:ow w B F V) (a:B'≤B):ow w B' F V:=⟨e5 h.o9 a,e5 h.gM a,h.al.mono a,e5 h.gh a,e5 h.eo a,h.nx.mono a⟩
theorem Um {s:Tx} {w w':World} {v:Value} (h:oB s w v w'):∃ p q A C,v= .tuple #[.pointer p,.agg [.int .i64 q,.int .i64 A,.int .i64 C].toArray]∧((p=none∧∃ e,fR s= .error e)∨(∃ F fb mc V,p=some ⟨fb,0,none⟩∧fR s= .ok F∧c8 w' w.heap.size fb mc F V∧(∃ seen,j0 F [] seen)∧Nx F))∧Wk w w':=by
 obtain ⟨h,a⟩:=h
 cases hx:fR s with
 | error e=>rw [hx] at h; exact ⟨_,_,_,_,h,.inl ⟨rfl,e,rfl⟩,a⟩
 | ok F=>rw [hx] at h; obtain ⟨fb,mc,V,c,h1,h2,h3⟩:=h; exact ⟨_,_,_,_,c,.inr ⟨F,fb,mc,V,rfl,rfl,h1,h2,h3⟩,a⟩
theorem Ph {F:aC} {s:Tx} {w w':World} {v:Value} (h:kZ F s w v w'):∃ p q A C,v= .tuple #[.pointer p,.agg [.int .i64 q,.int .i64 A,.int .i64 C].toArray]∧((p=none∧∃ e,fK F s= .error e)∨(∃ xs B wb mb va vs,p=some ⟨wb,0,none⟩∧fK F s= .ok xs∧w.heap.size≤B∧kn w' B wb mb va vs xs∧w.heap.size≤wb∧w.heap.size≤mb))∧Wk w w':=by
 obtain ⟨h,a⟩:=h
 cases hx:fK F s with
 | error e=>rw [hx] at h; exact ⟨_,_,_,_,h,.inl ⟨rfl,e,rfl⟩,a⟩
 | ok xs=>rw [hx] at h; obtain ⟨B,wb,mb,va,vs,h1,c,h2,h3,h4⟩:=h; exact ⟨_,_,_,_,c,.inr ⟨xs,B,wb,mb,va,vs,rfl,rfl,h1,h2,h3,h4⟩,a⟩
def td (a t:Tx) (w:World) (v:Value) (w':World):Prop :=(∃ p c q A,v= .tuple #[.pointer p,.agg [.int .i64 c,.int .i64 q,.int .i64 A].toArray]∧match lu a t with
 | none=>p=none
 | some T=> ∃ B tb U,w.heap.size≤B∧p=some ⟨tb,0,none⟩∧dT w' B tb U T.1 T.2∧dW T.1 T.2)∧Wk w w'
theorem td.no {a t:Tx} {w w':World} {c q A:Int} (h:lu a t=none) (hm:Wk w w'):td a t w (.tuple #[.pointer none,.agg [.int .i64 c,.int .i64 q,.int .i64 A].toArray]) w':=⟨⟨none,c,q,A,rfl,by rw [h]⟩,hm⟩
theorem WW {w:World} {B B':Nat} {f:Value→Option Value} {xs:List bj} (h:me w B f xs) (a:B'≤B):me w B' f xs:=⟨fun s=>e5 (h.own s) a,h.nil⟩
theorem Pj {w:World} {B B' wb mb:Nat} {va:Value} {vs:List Value} {xs:List bj} (h:kn w B wb mb va vs xs) (a:B'≤B):kn w B' wb mb va vs xs:=by
 obtain ⟨f,c,q⟩:=h.mp
 exact ⟨h.cells,e5 h.own a,h.fl.mono a,f,c,WW q a⟩
theorem By (a t:Tx) (w:World) (bS:a.length≤1048576) (b5:t.length≤1048576):
 bf ao 22 (ba [str a,str t]) w (td a t w):=by
 refine enter func22 aa ntmps22 aa<|ak fun bq=>p aE<|e<|gn oc fun A ah cd an ai=> ?_
 have ct:=an.size
 refine nl<|bq<|ak fun bs=>au (str a)<|e<|cl MA (Kv a ah bS) aa fun v12 bn bL=> ?_
 have bY:=Um bL
 obtain ⟨pp,bg,bh,bi,rfl,bd,aK⟩:=bY
 have cj:=aK.size
 refine p mv<|p (xt aa aa)<|p (xt aa aa)<|e<|gn oc fun aT cz ce a4 bC=> ?_
 have cu:=a4.size
 refine p aE<|e<|fY iV aa aa aa aa bC aw fun O aZ aG=> ?_
 have aJ:Wk bn O:=a4.md.trans' aZ fun q E h=>by omega
 have aX:=aK.trans aJ
 have ci:=aZ.size
 have b3:bD O.heap aT [.int .i64 bg,.int .i64 bh,.int .i64 bi]:=⟨_,aG⟩
 refine nl<|bs<|az fun bt=>ak fun bu=>p mv<|p (lN uA aa aa)<|nl<|bu<|cb aa (fun av=> ?_) fun av=> ?_
 obtain ⟨rfl,e,C⟩:pp=none∧∃ e,fR a= .error e:=by rcases bd with h | ⟨_,_,_,_,rfl,_⟩ <;> first | exact h | cases av
 refine az fun aC=> ?_
 have ap:(fun w'=>Md (fun q=>q=A) O w') O.drew:=(Md.refl _ _).drew
 refine bT (fun w'=>Md (fun q=>q=A) O w') aa wide ap<|aH 0 aa (fun w' I=>cg kq aa (aa) fun j M=>(Md.B I b3 fun h=>by omega).bp j) ap<|aH 1 aa (fun _ _=>aE) ap<|he 2 aa ag<|fY iV aa aa aa aa (Wk.aB aX ai) aw fun b7 bJ bz=> ?_
 have a5:(fun w'=>Md (fun q=>q=A) O w') b7:=ap.trans' bJ fun q E h=>h
 refine ⟨a5,?_⟩
 exact hn ag<|aC<|rt<|tr<|fg aa eE (dV (cs:= [.int .i64 bg,.int .i64 bh,.int .i64 bi]) aa kq aa fun j M=>(a7 bz).trans<|by match j,M with | 0,_=>rfl | 1,_=>rfl | 2,_=>rfl)<|td.no (VW C)<|(an.md.trans aX).trans' a5 fun q E h=>by omega
 obtain ⟨F,fb,mc,V,rfl,C,al,aW,a3⟩:=bd.resolve_left fun h=>by rw [h.1] at av; cases av
 refine aR<|bt<|ak fun aC=>p mv<|au (str t)<|e<|cl MB (Pd ah.heap.size fb mc F V t O (al.wk aJ) aW a3 b5) aa fun v21 cy bM=> ?_
 have bZ:=Ph bM
 obtain ⟨b6,bj,bk,bl,rfl,bc,aj⟩:=bZ
 have ck:=aj.size
 refine p mv<|p (xt aa aa)<|p (xt aa aa)<|p aE<|e<|fY iV aa aa aa aa (Wk.aB aj aG) (by simp) fun G aO bA=> ?_
 have aY:Wk bn G:=(aJ.trans aj).trans' aO fun q E h=>by omega
 have ac:=aK.trans aY
 have cp:=aO.size
 have b4:bD G.heap aT [.int .i64 bj,.int .i64 bk,.int .i64 bl]:=⟨_,bA⟩
 refine nl<|aC<|az fun bv=>ak fun bw=>p mv<|p (lN BG aa aa)<|nl<|bw<|cb aa (fun ax=> ?_) fun ax=> ?_
 obtain ⟨rfl,e,hd⟩:b6=none∧∃ e,fK F t= .error e:=by rcases bc with h | ⟨_,_,_,_,_,_,rfl,_⟩ <;> first | exact h | cases ax
 refine az fun aD=> ?_
 have aq:(fun w'=>Md (fun q=>q=A) G w') G.drew:=(Md.refl _ _).drew
 refine bT (fun w'=>Md (fun q=>q=A) G w') aa wide aq<|aH 0 aa (fun w' I=>cg kq aa (aa) fun j M=>(Md.B I b4 fun h=>by omega).bp j) aq<|aH 1 aa (fun _ _=>aE) aq<|he 2 aa ag<|fY iV aa aa aa aa (Wk.aB ac ai) aw fun b8 bK bB=> ?_
 have a6:(fun w'=>Md (fun q=>q=A) G w') b8:=aq.trans' bK fun q E h=>h
 refine ⟨a6,?_⟩
 exact hn ag<|aD<|rt<|tr<|fg aa eE (dV (cs:= [.int .i64 bj,.int .i64 bk,.int .i64 bl]) aa kq aa fun j M=>(a7 bB).trans<|by match j,M with | 0,_=>rfl | 1,_=>rfl | 2,_=>rfl)<|td.no (VX C hd)<|(an.md.trans ac).trans' a6 fun q E h=>by omega
 obtain ⟨xs,B,wb,mb,va,vs,rfl,hd,ca,bR,ch,cf⟩:=bc.resolve_left fun h=>by rw [h.1] at ax; cases ax
 have aQ:=bR.md (L:= [47]) aO (TF.eq (dD<|Wk.aB aj aG) aw) aw fun h=>by omega
 have aN:=al.wk aY
 have bV:=Ex (yD C) (CJ C) hd
 obtain ⟨seen,aV⟩:=aW
 have bW:=aV.len
 refine aR<|bv<|ak fun aD=>p mv<|p mv<|p (di (ps:= [(0,aU fb),(1,aU wb)]) (L:= [aU fb,aU wb,.int .i64 0,.string ⟨⟨[]⟩⟩,.string ⟨⟨[]⟩⟩,.int .u16 0,.int .u16 0,.int .u16 0,.int .u16 0,.int .u16 0,.int .i64 0,.slice none 0 0,.slice none 0 0,.slice none 0 0,.slice none 0 0,.slice none 0 0]) Vz aa<|aa)<|e<|pG aa fun aF Y cc am aI=> ?_
 have cn:=am.size
 refine ay<|aD<|az fun bx=> ?_
 have c:(fun w'=>Wk Y w') Y.drew:=(Md.refl _ _).drew
 refine eL (fun w'=>Wk Y w') 14 aa wide c<|bG 0 aa (fun _=>mv) (fun _=>c)<|bG 1 aa (fun _=>mv) (fun _=>c)<|bG 2 aa (fun _=>mv) (fun _=>c)<|bG 3 aa (fun _=>nc aa) (fun _=>c)<|bG 4 aa (fun _=>fa tM aa) (fun _=>c)<|ez 5 aa (fun w' I=>ld eX aa<|Wk.aM I<|(a7 aI).trans aa) c<|bG 7 aa (fun _=>mv) (fun _=>c)<|bG 8 aa (fun _=>nc aa) (fun _=>c)<|bG 9 aa (fun _=>fa Fg aa) (fun _=>c)<|ez 10 aa (fun w' I=>ld CO aa<|Wk.aM I<|(a7 aI).trans aa) c<|ja 6 aa ag<|cl tw (tg ah.heap.size fb mc F V Y.drew ((aN.wk am.md).wk c) (by simp only [fZ] at bW; omega) a3) aa fun v37 bo bN=> ?_
 obtain ⟨⟨V2,rfl,bU⟩,hE37⟩:=bN
 have co:=hE37.size
 have cx:=c.size
 have a8:(fun w'=>Wk Y w') bo:=c.trans hE37
 refine ⟨a8,?_⟩
 refine ja 11 aa ag<|cl MC (OS B wb mb va vs xs bo (((aQ.wk am.md).wk c).wk hE37) ab fun x C=>(bV.1 x C).2.1) aa fun bm aA bO=> ?_
 obtain ⟨⟨ws,bb,bX,_⟩,hE42⟩:=bO
 have cq:=hE42.size
 have ae:=Le bU hE42
 have a9:=Wk.aB hE42<|Wk.aB hE37<|Wk.aB c aI
 have aP:(fun w'=>Wk Y w') aA:=a8.trans hE42
 refine ⟨aP,?_⟩
 refine bG 12 aa (fun _=>nc aa) (fun _=>aP)<|bG 13 aa (fun _=>fa tN aa) (fun _=>aP)<|dq 14 aa ag ag<|fY zq aa aa aa (yK (eM ae.o9) (eM ae.gM) (eM ae.gh)<|eM ae.eo) a9 (by simp) fun cA a1 bF=> ?_
 have cw:=a1.size
 refine bG 15 aa (fun _=>nc aa) (fun h=>dv<|(show true =_ from by kernel_rfl).trans h)<|bG 16 aa (fun _=>fa zW aa) (fun h=>dv<|(show true =_ from by kernel_rfl).trans h)<|dq 17 aa ag ag<|dy Ei aa aa (v:=bm) (eM bb) bF (by show 15 < 16; omega) fun aS a0 bE=> ?_
 have cv:=a0.size
 have Z:=a1.trans' a0 fun q E h=>h
 have J:TF aA [107] (fun q=>q=aF):=TF.eq (dD a9) aw
 have bI:Wk Y aA:=c.trans<|hE37.trans hE42
 have ad:Wk G aA:=am.md.trans bI
 have aL:Wk G aS:=ad.trans' Z fun q E h=>by omega
 obtain ⟨b9,b0,_⟩:=(aN.wk ad).cm
 obtain ⟨fm,b1,_⟩:=(aQ.wk ad).mp
 have bP:dT aS ah.heap.size aF ⟨fb,mc,wb,mb,V,V2,va,bm,vs,ws⟩ F xs:=⟨bE,(aN.wk ad).md Z J aw (J.no (dK b0) aw),yL (Lc ae ab) Z J aw,Pj ((aQ.wk ad).md Z J aw<|J.no (dK b1) aw) ab,e5 (cX bb Z J aw) ab,(bX.md Z fun k hk cur z b2=>J.no (dD b2) aw hk).mono ab⟩
 refine eK ag<|bx<|ak fun br=>p mv<|p (di (ps:= []) (L:= [.int .i64 0,.int .i64 0,.int .i64 0]) sv aa<|aa)<|p aE<|e<|fY iV aa aa aa aa (Wk.aB (ac.trans aL) ai) aw fun cB a2 bH=>nl ?_
 refine br<|rt<|fg aa eE (dV (cs:= [.int .i64 0,.int .i64 0,.int .i64 0]) aa kq aa fun j M=>(a7 bH).trans<|by match j,M with | 0,_=>rfl | 1,_=>rfl | 2,_=>rfl) ?_
 refine ⟨⟨_,_,_,_,aa,?_⟩,(an.md.trans<|ac.trans aL).trans' a2 fun q E h=>by omega⟩
 rw [HW C hd]
 have bQ:TF aS [47] (fun q=>q=A):=TF.eq (dD<|Wk.aB (ac.trans aL) ai) aw
 exact ⟨ah.heap.size,aF,_,ab,aa,bP.ub a2 bQ aw (fun h:mc=A=>by have :=al.lo.2; omega) (fun h:mb=A=>by omega),dW.of C hd ⟨seen,aV⟩ al.jU⟩
end Go.Hb
end
section
namespace Go.Hb
open Go.Hb.iD Go.Hb.iT
def iL (xs:List bj) (n:Int):Tx:=if 0≤n∧n < xs.length then (xs.getD n.toNat ([],[])).1 else []
def qR (F:aC) (n:Int):cK:=if 0≤n∧n < F.rules.length then F.rules.getD n.toNat dd else dd
theorem rI {xs:List bj} {k:Nat} {x:bj} (h:xs[k]? =some x):iL xs k=x.1∧flagsOf xs k=x.2∧k < xs.length∧xs.getD k ([],[])=x:=by
 have hk:=(eQ.1 h).1
 have hd:xs.getD k ([],[])=x:=by rw [cR,h]; rfl
 refine ⟨?_,?_,hk,hd⟩
 · unfold iL; rw [if_pos ab,jq,hd]
 · unfold flagsOf; rw [if_pos ab,jq,hd]
theorem vz {xs:List bj} {n:Int} (h:¬(0≤n∧n < xs.length)):iL xs n= []∧flagsOf xs n= []:=by
 unfold iL flagsOf; rw [if_neg h,if_neg h]; exact ⟨rfl,rfl⟩
theorem Hv {F:aC} {k:Nat} {r:cK} (h:F.rules[k]? =some r):qR F k=r∧bH F k=r.next∧k < F.rules.length∧F.rules.getD k dd=r:=by
 have hk:=(eQ.1 h).1
 have hd:F.rules.getD k dd=r:=by rw [cR,h]; rfl
 refine ⟨?_,?_,hk,hd⟩
 · unfold qR; rw [if_pos ab,jq,hd]
 · unfold bH; rw [if_pos ab,jq,hd]
theorem Bb {F:aC} {n:Int} (h:¬(0≤n∧n < F.rules.length)):qR F n=dd∧bH F n= []:=by
 unfold qR bH; rw [if_neg h,if_neg h]; exact ⟨rfl,rfl⟩
theorem V8 {w:World} {B tb:Nat} {U:ej} {F:aC} {xs:List bj} (h:dT w B tb U F xs) {k:Nat} {x:bj} (E:xs[k]? =some x):∃ q ce a c,U.ve= .slice q xs.length ce∧Hb.aM w.heap tb 15=some (.slice q xs.length ce)∧aG w.heap q (kO<|xs.zip U.ws)∧(xs.zip U.ws)[k]? =some (x,.slice a x.2.length c)∧Tg w B 95 x.2.length (.slice a x.2.length c) (x.2.map aX):=by
 obtain ⟨q,ce,C⟩:=cT h.oe
 have G:=h.oe
 rw [C] at G
 have hk:=(eQ.1 E).1
 obtain ⟨v,I,A⟩:=dE.get h.ef (show k < (xs.map (·.2)).length by rw [e8]; exact hk)
 have J:(xs.map (·.2)).getD k []=x.2:=by rw [cR,fH,E]; rfl
 rw [J] at A
 obtain ⟨a,c,rfl⟩:=A.slice
 exact ⟨q,ce,a,c,C,by rw [← C]; exact (a7 h.cells).trans aa,(a6 G).2,jg.2 ⟨E,I⟩,A⟩
theorem V9 {w:World} {B tb:Nat} {U:ej} {F:aC} {xs:List bj} (h:dT w B tb U F xs):∃ a ce,Hb.aM w.heap tb 15=some (.slice a xs.length ce):=by
 obtain ⟨a,ce,c⟩:=cT h.oe
 exact ⟨a,ce,by rw [← c]; exact (a7 h.cells).trans aa⟩
theorem Wa {w:World} {B tb:Nat} {U:ej} {F:aC} {xs:List bj} (h:dT w B tb U F xs):∃ ar cr,Hb.aM w.heap tb 14=some (.slice ar F.rules.length cr):=by
 obtain ⟨ar,cr,a⟩:=cT h.ax.eo
 exact ⟨ar,cr,by rw [← a]; exact (a7 h.cells).trans aa⟩
theorem Ld {w:World} {B:Nat} {F:aC} {V:eh} (h:ow w B F V) {k:Nat} {r:cK} (A:F.rules[k]? =some r):∃ ar cr a c,V.v12= .slice ar F.rules.length cr∧aG w.heap ar (fX<|F.rules.zip V.rn)∧(F.rules.zip V.rn)[k]? =some (r,.slice a r.next.length c)∧Tg w B 95 r.next.length (.slice a r.next.length c) (r.next.map aX):=by
 obtain ⟨ar,cr,E⟩:=cT h.eo
 have C:=h.eo
 rw [E] at C
 have hk:=(eQ.1 A).1
 obtain ⟨v,G,q⟩:=dE.get h.nx (show k < (F.rules.map (·.next)).length by rw [e8]; exact hk)
 have I:(F.rules.map (·.next)).getD k []=r.next:=by rw [cR,fH,A]; rfl
 rw [I] at q
 obtain ⟨a,c,rfl⟩:=q.slice
 exact ⟨ar,cr,a,c,E,(a6 C).2,jg.2 ⟨A,G⟩,q⟩
end Go.Hb
end
namespace Go.Hb
def Uv:Go.Shelf.Ren:=⟨fun n=>if n=125 then 66 else if n=128 then 123 else if n=129 then 124 else if n=189 then 143 else if n=215 then 177 else if n=216 then 249 else if n=257 then 208 else if n=294 then 243 else if n=295 then 244 else if n=296 then 245 else if n=297 then 246 else if n=298 then 247 else if n=299 then 248 else if n=300 then 250 else if n=301 then 251 else if n=328 then 269 else if n=329 then 184 else if n=330 then 185 else if n=331 then 270 else if n=332 then 271 else if n=343 then 293 else 0,fun n=>if n=0 then 0 else if n=3 then 3 else if n=4 then 4 else if n=5 then 5 else if n=9 then 9 else if n=28 then 85 else if n=46 then 145 else if n=51 then 240 else if n=53 then 242 else if n=131 then 237 else if n=182 then 232 else if n=183 then 233 else if n=218 then 287 else if n=222 then 291 else if n=228 then 335 else if n=229 then 219 else 0,fun n=>n⟩
theorem Gi:Go.Proofs.Lays.n189 ao Uv where
 mixed:=ag
 f125:=ag
 f128:=ag
 f129:=ag
 f189:=ag
 f215:=ag
 f216:=ag
 f257:=ag
 f294:=ag
 f295:=ag
 f296:=ag
 f297:=ag
 f298:=ag
 f299:=ag
 f300:=ag
 f301:=ag
 f328:=ag
 f329:=ag
 f330:=ag
 f331:=ag
 f332:=ag
 f343:=ag
 t0:=ag
 a0:=fun _=>ag
 z0:=fun _=>ag
 v0:=fun _=>ag
 t3:=ag
 a3:=fun _=>ag
 z3:=fun _=>ag
 v3:=fun _=>ag
 t4:=ag
 a4:=fun _=>ag
 z4:=fun _=>ag
 v4:=fun _=>ag
 t5:=ag
 a5:=fun _=>ag
 z5:=fun _=>ag
 v5:=fun _=>ag
 t9:=ag
 a9:=fun _=>ag
 z9:=fun _=>ag
 v9:=fun _=>ag
 t28:=ag
 a28:=fun _=>ag
 z28:=fun _=>ag
 v28:=fun _=>ag
 t46:=ag
 a46:=fun _=>ag
 z46:=fun _=>ag
 v46:=fun _=>ag
 t51:=ag
 a51:=fun _=>ag
 z51:=fun _=>ag
 v51:=fun _=>ag
 t53:=ag
 a53:=fun _=>ag
 z53:=fun _=>ag
 v53:=fun _=>ag
 t131:=ag
 a131:=fun _=>ag
 z131:=fun _=>ag
 v131:=fun _=>ag
 t182:=ag
 a182:=fun _=>ag
 z182:=fun _=>ag
 v182:=fun _=>ag
 t183:=ag
 a183:=fun _=>ag
 z183:=fun _=>ag
 v183:=fun _=>ag
 t218:=ag
 a218:=fun _=>ag
 z218:=fun _=>ag
 v218:=fun _=>ag
 t222:=ag
 a222:=fun _=>ag
 z222:=fun _=>ag
 v222:=fun _=>ag
 t228:=ag
 a228:=fun _=>ag
 z228:=fun _=>ag
 v228:=fun _=>ag
 t229:=ag
 a229:=fun _=>ag
 z229:=fun _=>ag
 v229:=fun _=>ag
theorem Vo (B n:Nat) (v:Value) (a:List Int) (w:World) (A:bq w B 3 1 v n (a.map<|fG .i64)) (J:a.length≤1048576):
 bf ao 143 [v].toArray w (fun I w'=>I= .tuple #[]∧bq w' B 3 1 v n ((a.mergeSort fun x y=>decide (x≤y)).map<|fG .i64)∧Md (fun k=>v.ownBlock=some k) w w'):=by
 have hn:a.length=n:=by have :=A.1; simpa using this
 have hlen:(a.mergeSort fun x y=>decide (x≤y)).length=a.length:=List.length_mergeSort _
 rcases A.2 with ⟨rfl,M⟩ | ⟨g,cap,cur,rfl,C,q,h1,h2,h3,h4⟩
 · have G:a= []:=gx ab
   subst G
   refine jX (Any.slices_Sort_int_none Gi none 0 w) ?_
   rintro e w' ⟨rfl,rfl⟩
   exact ⟨_,aa,aa,by rw [List.mergeSort_nil]; exact A,Md.refl _ _⟩
 · subst hn
   rw [Nat.mul_one] at h4
   refine jX (calls_of_every_depth fun D=>AnyS.slices_Sort_int_alone Gi D g 0 cap a w (holds_of_blockI q h4) (bY.1 q).1 ab) ?_
   rintro e w' ⟨rfl,m,os,rfl⟩
   have c:=grownBy_sortedI (w:=w) (g:=g) (n:=m) (os:=os) (a.mergeSort fun x y=>decide (x≤y)).toArray
   refine ⟨_,aa,aa,ownsRow_sortedI hlen C q h1 h2 h3,⟨c.os,c.output,c.size,fun k hk E=>c.block k hk fun he=>E ?_⟩⟩
   simp only [gG]; exact he.symm
end Go.Hb
section
namespace Go.Hb.jL
open Go.Hb.iD Go.Hb.iT
theorem GA (l:List Nat):(l.map fun i:Nat=>(i:Int)).map (fG .i64)=l.map fA:=by rw [List.map_map]; rfl
theorem sy {F:aC} {xs:List bj} (h:dW F xs) (n:Int):(flagsOf xs n).length≤64∧ko (flagsOf xs n):=by
 by_cases hn:0≤n∧n < xs.length
 · obtain ⟨k,rfl⟩:∃ k:Nat,n=(k:Int):=⟨n.toNat,ab⟩
   have a:xs[k]? =some xs[k]:=bW ab
   rw [(rI a).2.1]
   exact ⟨(h.tH _<|fz a).2.1,h.Pm _<|fz a⟩
 · rw [(vz hn).2]; exact ⟨ki _,tW⟩
theorem xF {F:aC} {xs:List bj} (h:dW F xs) (n:Int):(bH F n).length≤64∧ko (bH F n):=by
 by_cases hn:0≤n∧n < F.rules.length
 · obtain ⟨k,rfl⟩:∃ k:Nat,n=(k:Int):=⟨n.toNat,ab⟩
   have a:F.rules[k]? =some F.rules[k]:=bW ab
   rw [(Hv a).2.1]
   exact ⟨(h.im a).1,(h.im a).2.1⟩
 · rw [(Bb hn).2]; exact ⟨ki _,tW⟩
theorem NP {F:aC} {k f:Nat} (h:(dM F.bC f).isSome=false):fS F k f= []:=by
 unfold fS
 cases h2:dM F.bC f with
 | none=>rfl
 | some c=>rw [h2] at h; cases h
theorem NS {F:aC} {k f:Nat} {c:dP} (h:(dM F.bC f).isSome=true) (a:(dM F.bC f).getD rQ=c):dM F.bC f=some c:=by
 cases h2:dM F.bC f with
 | none=>rw [h2] at h; cases h
 | some d=>rw [h2] at a; exact congrArg some a
theorem NQ {F:aC} {k f:Nat} {c:dP} (h:dM F.bC f=some c) (hk:c.kind≠k):fS F k f= []:=by unfold fS; rw [h]; exact if_neg hk
theorem NT {F:aC} {k f:Nat} {c:dP} (h:dM F.bC f=some c) (hk:c.kind=k):fS F k f=(fI c.count).map (c.first+ ·):=by unfold fS; rw [h]; exact if_pos hk
theorem NN {F:aC} (a:oy F) {f:Nat} {c:dP} (h:dM F.bC f=some c):c.first+c.count≤F.rules.length:=(a.tz c (EX h).1).1
theorem Qo {fs:List Nat} {f:Nat→List Nat} {i:Nat} (h:i < fs.length):(fs.take<|i+1).flatMap f=(fs.take i).flatMap f++f (fs.getD i 0):=by
 rw [kX fs i 0 h,qi,ri]
theorem GO {F:aC} (a:oy F) {fs:List Nat} (h:fs.Pairwise (· < ·)) (k:Nat):(fs.flatMap<|fS F k).length=(aK F fs k).length:=by
 obtain ⟨h1,h2⟩:=GN a (k:=k) h
 exact ((List.perm_ext_iff_of_nodup h1<|(AL F fs k).imp fun h=>by omega).2 h2).length_eq
theorem Td {F:aC} (a:oy F) {fs:List Nat} (h:fs.Pairwise (· < ·)) (k:Nat):(fs.flatMap<|fS F k).length≤F.rules.length:=by
 rw [GO a h]; exact si F fs k
def lW (F:aC) (xs:List bj) (e k:Int):Bool:=decide (0≤k∧k < 5) && sc F xs e k.toNat
theorem H5 {w:World} {B tb:Nat} {U:ej} {F:aC} {xs:List bj} (h:dT w B tb U F xs) {k:Nat} (hk:k < 5):Hb.aM w.heap tb (5 +k*1)=some (aX<|F.sp.getD k 0):=by
 refine (a7 h.cells).trans ?_
 match k,hk with
 | 0,_=>rfl
 | 1,_=>rfl
 | 2,_=>rfl
 | 3,_=>rfl
 | 4,_=>rfl
theorem FO {x:Nat} {l:List Nat} (h:0∉l):decide (x∈l)=decide (x≠0∧x∈l):=decide_eq_decide.2 ⟨fun h2=>⟨fun h3=>h (h3 ▸ h2),h2⟩,And.right⟩
theorem tG (B tb:Nat) (U:ej) (F:aC) (xs:List bj) (n:Int) (w:World) (aw:dT w B tb U F xs) (ai:dW F xs):
 bf ao 24 (ba [aU tb,.int .i64 n]) w (fun v w'=>(∃ a,v= .tuple #[.agg [str (iL xs n),a].toArray,.bool (decide (0≤n∧n < xs.length))]∧bq w' w.heap.size 95 1 a (flagsOf xs n).length ((flagsOf xs n).map aX))∧Wk w w'):=by
 obtain ⟨a6,ce,a2⟩:=V9 aw
 have bm:=ai.xl
 refine enter func24 aa ntmps24 aa<|ak fun aH=>e<|al oX fun a8 aD bg C J=> ?_
 have br:=C.size
 have aZ:=aw.wk C.md
 have a4:=Wk.aM C.md a2
 refine ay<|aH<|az fun aI=>ak fun ae=>p mv<|p (lN sB aa aa)<|p mv<|gb (t:=9) aa (fun h=>absurd (h.symm.trans<|aa) dv) fun bi=>aY aa mv<|aY aa (lt aa aa)<|p (bI aa)<|p mv<|gs (t:=13) aa (fun a1=> ?_) fun a1=> ?_
 refine aT aa<|aT aa<|aT aa<|aT aa<|aT aa<|aT aa<|aT aa<|p (bR aa)<|nl<|ae<|ct aa<|ak fun E=>p (di (ps:= []) (L:= [.string ⟨⟨[]⟩⟩,.slice none 0 0]) nr aa<|aa)<|e<|cM jv aa aa aa aa (J) (by simp) fun a5 O I=>p aE<|nl<|E<|rt<|tr<|fg aa (dV (cs:= [str [],.slice none 0 0]) aa kM aa fun j Y=>I.bp j) eE ?_
 have G:=vz (xs:=xs) (n:=n) ab
 exact ⟨⟨.slice none 0 0,by rw [G.1,decide_eq_false (show ¬(0≤n∧n < (xs.length:Int)) by omega)]; rfl,by rw [G.2]; exact dS _ _ _ _⟩,C.md.trans' O fun q A h=>by omega⟩
 refine aY aa mv<|aY aa mv<|aY aa (nc aa)<|aY aa (fa zW aa)<|aY aa (ld th aa<|a4)<|aY aa (bP xH aa aa)<|aY aa (ge aa aa)<|p (bI aa)<|nl<|ae<|cd aa (fun a0=> ?_) fun a0=> ?_
 refine ak fun E=>p (di (ps:= []) (L:= [.string ⟨⟨[]⟩⟩,.slice none 0 0]) nr aa<|aa)<|e<|cM jv aa aa aa aa (J) (by simp) fun a5 O I=>ay<|E<|rt<|tr<|fg aa (dV (cs:= [str [],.slice none 0 0]) aa kM aa fun j Y=>I.bp j) eE ?_
 have G:=vz (xs:=xs) (n:=n) ab
 exact ⟨⟨.slice none 0 0,by rw [G.1,decide_eq_false (show ¬(0≤n∧n < (xs.length:Int)) by omega)]; rfl,by rw [G.2]; exact dS _ _ _ _⟩,C.md.trans' O fun q A h=>by omega⟩
 obtain ⟨k,rfl⟩:∃ k:Nat,n=(k:Int):=⟨n.toNat,ab⟩
 obtain ⟨x,ac⟩:∃ x,xs[k]? =some x:=⟨_,bW ab⟩
 obtain ⟨a7,a9,a,c,bk,a3,am,aB,ax⟩:=V8 aZ ac
 have bl:=(ai.tH x<|fz ac).2.1
 obtain ⟨aL,aN,bb,bc⟩:=rI ac
 refine aR<|aI<|ak fun E=>p mv<|p (nc aa)<|p (fa zW aa)<|p (ld th aa<|a3)<|p mv<|p (bd zC aa aa ab<|aG.ok (am)<|zA aB)<|p (cg kM aa (aa)<|gr (f:=qC) (m:=2) (fun _=>rfl) am aB)<|e<|al oX fun ag bv bh av aV=> ?_
 have bt:=av.size
 refine e<|cM jv aa aa aa aa (aV) (by simp) fun ad aq aO=> ?_
 have an:Wk aD ad:=av.md.trans' aq fun q A h=>by omega
 have bn:=aq.size
 have aj:bD ad.heap ag [str x.1,.slice a x.2.length c]:=aO
 refine nl<|E<|ak fun aJ=>p (fa qG aa)<|p (ld mh aa<|aj.bp 1)<|e<|cl rN (rP a x.2.length c (x.2.map aX) ad (ax.wk an).dG.2 (by simp) (fun h=>Tg.sj ax (by simp) h) (rG _) ab) aa fun v32 bu aW=> ?_
 obtain ⟨Z,M⟩:=aW
 obtain ⟨a32,ah,rfl⟩:=cT Z
 have bo:=M.size
 refine p (fa qG aa)<|e<|st rR aa aa (aa) (Wk.B M aj) (by simp) fun aF V aP=> ?_
 have ap:Wk aD aF:=(an.trans M).trans' V fun q A h=>by omega
 have bs:=V.size
 have aA:=cx Z V fun q A h=>by have :=(cV Z A).1; omega
 have aQ:bD aF.heap ag [str x.1,.slice a32 x.2.length ah]:=aP
 exact nl<|aJ<|ak fun aK=>p (cg kM aa (aa) fun j Y=>aQ.bp j)<|e<|cM jv aa aa aa aa (Wk.B ap J) (by simp) fun bw au aS=>p aE<|nl<|aK<|rt<|fg aa (dV (cs:= [str x.1,.slice a32 x.2.length ah]) aa kM aa fun j Y=>aS.bp j) eE<|⟨⟨_,by rw [aL,decide_eq_true (show 0≤(k:Int)∧(k:Int) < (xs.length:Int) by omega)]; rfl,by rw [aN]; exact cx (e5 aA ab) au fun q A h=>by have :=(cV aA A).1; omega⟩,(C.md.trans ap).trans' au fun q A h=>by omega⟩
theorem xj (B tb:Nat) (U:ej) (F:aC) (xs:List bj) (n:Int) (w:World) (aB:dT w B tb U F xs) (am:dW F xs):
 bf ao 87 (ba [aU tb,.int .i64 n]) w (fun v w'=>(∃ a,v= .tuple #[.agg (dC (qR F n,a)).toArray,.bool (decide (0≤n∧n < F.rules.length))]∧bq w' w.heap.size 95 1 a (bH F n).length ((bH F n).map aX))∧Wk w w'):=by
 obtain ⟨bi,ce,a9⟩:=Wa aB
 have bs:=am.len
 refine enter func87 aa ntmps87 aa<|ak fun aK=>e<|al oW fun aQ I bm C M=> ?_
 have bv:=C.size
 have aD:=aB.wk C.md
 have bg:=Wk.aM C.md a9
 have a1:bD I.heap aQ (dC (dd,.slice none 0 0)):=M
 refine ay<|aK<|az fun aL=>ak fun ag=>p mv<|p (lN sB aa aa)<|p mv<|gb (t:=9) aa (fun h=>absurd (h.symm.trans<|aa) dv) fun bo=>aY aa mv<|aY aa (lt aa aa)<|p (bI aa)<|p mv<|gs (t:=13) aa (fun a8=> ?_) fun a8=> ?_
 refine aT aa<|aT aa<|aT aa<|aT aa<|aT aa<|aT aa<|aT aa<|aT aa<|p (bR aa)<|nl<|ag<|ct aa<|ak fun E=>p (di (ps:= []) (L:= [.int .i64 0,.int .u16 0,.bool false,.string ⟨⟨[]⟩⟩,.string ⟨⟨[]⟩⟩,.string ⟨⟨[]⟩⟩,.slice none 0 0]) Bs aa<|aa)<|e<|cM mZ aa aa aa aa (M) (by simp) fun bh V J=>ay<|E<|rt<|tr<|fg aa (dV (cs:=dC (dd,.slice none 0 0)) aa ju aa fun j Z=>J.bp j) eE ?_
 have G:=Bb (F:=F) (n:=n) ab
 exact ⟨⟨.slice none 0 0,by rw [G.1,decide_eq_false (show ¬(0≤n∧n < (F.rules.length:Int)) by omega)]; rfl,by rw [G.2]; exact dS _ _ _ _⟩,C.md.trans' V fun q A h=>by omega⟩
 refine aY aa mv<|aY aa mv<|aY aa (nc aa)<|aY aa (fa tN aa)<|aY aa (fa na aa)<|aY aa (ld jM aa<|bg)<|aY aa (bP pX aa aa)<|aY aa (ge aa aa)<|p (bI aa)<|nl<|ag<|cd aa (fun a6=> ?_) fun a6=> ?_
 refine ak fun E=>p (di (ps:= []) (L:= [.int .i64 0,.int .u16 0,.bool false,.string ⟨⟨[]⟩⟩,.string ⟨⟨[]⟩⟩,.string ⟨⟨[]⟩⟩,.slice none 0 0]) Bs aa<|aa)<|e<|cM mZ aa aa aa aa (M) (by simp) fun bh V J=>ay<|E<|rt<|tr<|fg aa (dV (cs:=dC (dd,.slice none 0 0)) aa ju aa fun j Z=>J.bp j) eE ?_
 have G:=Bb (F:=F) (n:=n) ab
 exact ⟨⟨.slice none 0 0,by rw [G.1,decide_eq_false (show ¬(0≤n∧n < (F.rules.length:Int)) by omega)]; rfl,by rw [G.2]; exact dS _ _ _ _⟩,C.md.trans' V fun q A h=>by omega⟩
 obtain ⟨k,rfl⟩:∃ k:Nat,n=(k:Int):=⟨n.toNat,ab⟩
 obtain ⟨r,ad⟩:∃ r,F.rules[k]? =some r:=⟨_,bW ab⟩
 obtain ⟨aP,aS,a,c,bb,ap,aI,aF⟩:=Ld aD.ax ad
 have bc:Hb.aM I.heap tb 14=some (.slice aP F.rules.length aS):=by rw [← bb]; exact (a7 aD.cells).trans rfl
 have br:=(am.im ad).1
 obtain ⟨aV,aW,bk,bl⟩:=Hv ad
 refine aR<|aL<|ak fun E=>p mv<|p (nc aa)<|p (fa tN aa)<|p (fa na aa)<|p (ld jM aa<|bc)<|p mv<|p (bd ky aa aa ab<|aG.ok (ap)<|kV aI)<|p (cg ju aa (aa)<|gr (f:=dC) (m:=7) (fun _=>rfl) ap aI)<|e<|al oW fun ai bB bn aA a4=> ?_
 have bx:=aA.size
 refine e<|cM mZ aa aa aa aa (a4) (by simp) fun ae av aZ=> ?_
 have aq:Wk I ae:=aA.md.trans' av fun q A h=>by omega
 have bt:=av.size
 have an:bD ae.heap ai (dC (r,.slice a r.next.length c)):=aZ
 refine nl<|E<|ak fun aN=>p (fa pN aa)<|p (ld mh aa<|an.bp 6)<|e<|cl rN (rP a r.next.length c (r.next.map aX) ae (aF.wk aq).dG.2 (by simp) (fun h=>Tg.sj aF (by simp) h) (rG _) ab) aa fun bz bA a5=> ?_
 obtain ⟨ac,O⟩:=a5
 obtain ⟨ah,aj,rfl⟩:=cT ac
 have bu:=O.size
 refine p (fa pN aa)<|e<|st rR aa aa (aa) (Wk.B O an) (by show 6 < 7; omega) fun aJ Y a0=> ?_
 have au:Wk I aJ:=(aq.trans O).trans' Y fun q A h=>by omega
 have bw:=Y.size
 have aH:=cx ac Y fun q A h=>by have :=(cV ac A).1; omega
 have a2:bD aJ.heap ai (dC (r,.slice ah r.next.length aj)):=a0
 exact nl<|aN<|ak fun aO=>p (cg ju aa (aa) fun j Z=>a2.bp j)<|e<|cM mZ aa aa aa aa (Wk.B au a1) (by show 7≤7; omega) fun bC aw a3=>p aE<|nl<|aO<|rt<|fg aa (dV (cs:=dC (r,.slice ah r.next.length aj)) aa ju aa fun j Z=>a3.bp j) eE<|⟨⟨_,by rw [aV,decide_eq_true (show 0≤(k:Int)∧(k:Int) < (F.rules.length:Int) by omega)]; rfl,by rw [aW]; exact cx (e5 aH ab) aw fun q A h=>by have :=(cV aH A).1; omega⟩,(C.md.trans au).trans' aw fun q A h=>by omega⟩
theorem RC (a:Option Addr) (c:Nat) (l:List Nat) (x:Nat) (w:World) (E:aG w.heap a (l.map aX)) (av:l.length≤1048576):
 bf ao 142 (ba [.slice a l.length c,aX x]) w (fun v w'=>(∃ k:Int,v= .int .i64 k∧(0≤k↔x∈l)∧ -1≤k∧k≤1048576)∧Wk w w'):=by
 refine enter func142 aa ntmps142 aa<|ak fun O=>ay<|O<|az fun V=>ak fun Y=>au (.slice a l.length c)<|p (bP Ib aa aa)<|p mv<|nl<|Y<|aB<|lp (fun C q M=> ∃ (i:Nat),(i≤l.length)∧(∀ j,j < i→l.getD j 0≠x)∧(M=w)∧(q 0= .slice a l.length c)∧(q 1=aX x)∧(q 7=aj (l.length))∧(q 8=aj i)∧(l.length - i=C)) _ ⟨0,ab,(fun j I=>by omega),aa,aa,aa,aa,aa,aa⟩ ?_
 rintro C q M ⟨i,hi,J,ai,am,an,ap,aq,rfl⟩
 refine fx 0 am<|fx 1 an<|fx 7 ap<|fx 8 aq ?_
 subst ai
 refine ak fun Z=>p (lt aa aa)<|nl<|Z<|az fun ac=>cd aa (fun al=> ?_) fun al=> ?_
 refine aR<|ac<|az fun A=>aB<|ak fun ae=>au (aj i)<|p (cj (aj i) aa)<|nl<|ae<|ak fun ag=>au (aX x)<|au (.slice a l.length c)<|au (aj i)<|p (bd EI aa aa ab<|aG.ok (E)<|db ab)<|p (ld bZ aa<|aG.jk E (show (l.map aX)[i]? =some (aX<|l.getD i 0) by rw [fH,cR,bW (by omega :i < l.length)]; rfl)) ?_
 refine p (cw aa aa)<|nl<|ag<|cd aa (fun G=> ?_) fun G=> ?_
 exact ak fun ah=>au (aj i)<|p (cj (aj i) aa)<|nl<|ah<|rt<|br<|tr<|tr<|br<|tr<|bc aa<|⟨⟨(i:Nat),aa,⟨fun _=>by obtain rfl :x=l.getD i 0:=ab; exact eZ ab,fun _=>by omega⟩,ab,ab⟩,Md.refl _ _⟩
 exact aR<|bn<|A<|rg aa<|p (ad aa aa<|cC ab)<|p mv<|nl<|tn<|⟨_,ab,i+1,ab,(fun j I=>by rcases Nat.lt_or_ge j i with h | h <;> first | exact J j h | (rw [show j=i by omega]; exact fun h2=>G<|by rw [h2])),aa,aa,aa,aa,aa,aa⟩
 exact ext<|bh<|bh<|be<|V<|ak fun A=>p aE<|nl<|A<|rt<|bc aa<|⟨⟨-1,aa,⟨fun h=>absurd h ab,fun h=>by obtain ⟨j,I,e⟩:=oN 0 h; exact absurd e<|J j ab⟩,ab,ab⟩,Md.refl _ _⟩
theorem Oc (a:Option Addr) (c:Nat) (l:List Nat) (x:Nat) (w:World) (C:aG w.heap a (l.map aX)) (I:l.length≤1048576):
 bf ao 85 (ba [.slice a l.length c,aX x]) w (fun v w'=>v= .bool (decide (x∈l))∧Wk w w'):=by
 refine enter func85 aa ntmps85 aa<|ak fun q=>ay<|q<|ak fun A=>au (.slice a l.length c)<|au (aX x)<|e<|cl LK (RC a c l x w C I) aa fun O V E=> ?_
 obtain ⟨⟨J,rfl,G,M⟩,hE7⟩:=E
 exact p (ge aa aa)<|ay<|A<|rt<|bc aa<|⟨by show bU (decide (J≥0))=_; exact congrArg bU (decide_eq_decide.2 G),hE7⟩
theorem FN (a:Option Addr) (c:Nat) (l:List Nat) (x:Nat) (w:World) (C:aG w.heap a (l.map aX)) (I:l.length≤1048576):
 bf ao 43 (ba [.slice a l.length c,aX x]) w (fun v w'=>v= .bool (decide (x∈l))∧Wk w w'):=by
 refine enter func43 aa ntmps43 aa<|ak fun q=>ay<|q<|ak fun A=>au (.slice a l.length c)<|au (aX x)<|e<|cl MV (Oc a c l x w C I) aa fun J M G=> ?_
 obtain ⟨rfl,E⟩:=G
 exact ay<|A<|rt<|bc aa<|⟨aa,E⟩
theorem AM (B tb:Nat) (U:ej) (F:aC) (xs:List bj) (fs:List Nat) (a:Option Addr) (c kd:Nat) (w:World) (aP:dT w B tb U F xs) (Y:dW F xs) (aH:aG w.heap a (fs.map aX)) (b8:fs.length≤64) (ax:fs.Pairwise (· < ·)):
 bf ao 86 (ba [aU tb,.slice a fs.length c,aj kd]) w (fun v w'=>bq w' w.heap.size 3 1 v (aK F fs kd).length ((aK F fs kd).map fA)∧Wk w w'):=by
 have cc:=Y.len
 refine enter func86 aa ntmps86 aa<|ak fun a1=>ay<|a1<|ak fun bb=>p aE<|nl<|bb<|az fun bg=>ak fun bi=>au (.slice a fs.length c)<|p (bP n4 aa aa)<|p mv<|nl<|bi<|aB<|lp (fun O G J=> ∃ (i:Nat) (v:Value),(i≤fs.length)∧(bq J w.heap.size 3 1 v ((fs.take i).flatMap<|fS F kd).length<|((fs.take i).flatMap<|fS F kd).map fA)∧(((fs.take i).flatMap<|fS F kd).length≤i*70000)∧(Wk w J)∧(G 0=aU tb)∧(G 2=aj kd)∧(G 7=v)∧(G 13= .slice a fs.length c)∧(G 14=aj (fs.length))∧(G 15=aj i)∧(fs.length - i=O)) _ ⟨0,.slice none 0 0,ab,(dS _ _ _ _),(ki _),(Md.refl _ _),aa,aa,aa,aa,aa,aa,aa⟩ ?_
 rintro O G J ⟨i,v,hi,ae,aW,C,bE,bM,bN,bF,bG,bH,rfl⟩
 refine fx 0 bE<|fx 2 bM<|fx 7 bN<|fx 13 bF<|fx 14 bG<|fx 15 bH<|ak fun bk=>p (lt aa aa)<|nl<|bk<|az fun bl=>cd aa (fun bx=> ?_) fun bx=> ?_
 refine aR<|bl<|az fun M=>aB<|ak fun ai=>p (bd bJ aa aa ab<|aG.ok (aH.wk C)<|db ab)<|p (ld bZ aa<|aG.jk (aH.wk C) (show (fs.map aX)[i]? =some (aX<|fs.getD i 0) by rw [fH,cR,bW (by omega :i < fs.length)]; rfl)) ?_
 refine ay<|ai<|ak fun bo=>au (aU tb)<|p (nc aa)<|p (fa tM aa)<|p (ld eX aa<|(a7 (aP.wk C).cells).trans aa)<|p mv<|e<|cl yR (zH B U.fb U.mc F U.V (fs.getD i 0) J (aP.wk C).fl ab) aa fun v25 cm aO=> ?_
 obtain ⟨cl,aS⟩:∃ cl,(dM F.bC<|fs.getD i 0).getD rQ=cl:=⟨_,rfl⟩
 rw [aS] at aO
 have I:=Qo (f:=fS F kd) (show i < fs.length by omega)
 obtain ⟨rfl,aI⟩:=aO
 have cf:=aI.size
 refine p mv<|p (xt aa aa)<|p (xt aa aa)<|e<|gn sJ fun al ck b4 aN bp=> ?_
 have ce:=aN.size
 refine e<|fY qA aa aa aa aa bp (by simp) fun a0 aM bs=> ?_
 have ac:Wk J a0:=(aI.trans aN.md).trans' aM fun q cb h=>by omega
 have ci:=aM.size
 have an:a0.heap[al]? =some (.cells (mW cl).toArray 192 (0,0)):=bs
 have aD:=a8 ae ac
 refine ay<|bo<|az fun a2=>ak fun aF=>p mv<|p (no aa)<|p mv<|gb (t:=30) aa (fun aA=> ?_) fun aA=> ?_
 have Z:fS F kd (fs.getD i 0)= []:=NP<|by simpa using aA
 exact aT aa<|aT aa<|aT aa<|aT aa<|p (bR aa)<|nl<|aF<|ct aa<|ext<|bh<|be<|M<|rg aa<|p (ad aa aa<|cC ab)<|p mv<|nl<|tn<|⟨_,ab,i+1,v,ab,(by rw [I,Z,ep]; exact aD),(by rewrite [I,Z,ep]; exact ea aW<|ou _<|Nat.le_succ i),(C.trans ac),aa,aa,aa,aa,aa,aa,aa⟩
 have av:=NS (k:=kd) (by simpa using aA) aS
 refine aY aa (fa tU aa)<|aY aa (ld bO aa<|(a7 an).trans aa)<|aY aa (aJ (aj kd) aa)<|aY aa (gE aa aa)<|p (bI aa)<|nl<|aF<|cd aa (fun aQ=> ?_) fun aQ=> ?_
 have Z:fS F kd (fs.getD i 0)= []:=NQ av fun h=>aQ<|by rw [h]
 exact ext<|bh<|be<|M<|rg aa<|p (ad aa aa<|cC ab)<|p mv<|nl<|tn<|⟨_,ab,i+1,v,ab,(by rw [I,Z,ep]; exact aD),(by rewrite [I,Z,ep]; exact ea aW<|ou _<|Nat.le_succ i),(C.trans ac),aa,aa,aa,aa,aa,aa,aa⟩
 have bA:cl.kind=kd:=ab
 have aV:=NT av bA
 have b6:=NN Y.cls av
 refine aR<|a2<|ak fun a3=>p (fa wq aa)<|p (ld bO aa<|(a7 an).trans aa)<|p mv<|nl<|a3<|aB<|lp (fun O A ah=> ∃ (j:Nat) (v2:Value),(j≤cl.count)∧(bq ah w.heap.size 3 1 v2 ((fs.take i).flatMap (fS F kd)++(fI j).map (cl.first+ ·)).length<|((fs.take i).flatMap (fS F kd)++(fI j).map (cl.first+ ·)).map fA)∧(ah.heap[al]? =some (.cells (mW cl).toArray 192 (0,0)))∧(Wk w ah)∧(A 0=aU tb)∧(A 2=aj kd)∧(A 7=v2)∧(A 10=aU al)∧(A 13= .slice a fs.length c)∧(A 14=aj (fs.length))∧(A 15=aj i)∧(A 37=aj (cl.count))∧(A 38=aj j)∧(cl.count - j=O)) _ ⟨0,v,ab,(by rw [List.range_zero,List.map_nil,ep]; exact aD),an,(C.trans ac),aa,aa,aa,aa,aa,aa,aa,aa,aa,aa⟩ ?_
 rintro O A ah ⟨j,v2,b9,ag,aq,am,bQ,bX,b1,bS,bT,bU,bV,bY,b0,rfl⟩
 refine fx 0 bQ<|fx 2 bX<|fx 7 b1<|fx 10 bS<|fx 13 bT<|fx 14 bU<|fx 15 bV<|fx 37 bY<|fx 38 b0<|ak fun a4=>p (lt aa aa)<|nl<|a4<|az fun a5=>cd aa (fun bz=> ?_) fun bz=> ?_
 refine aR<|a5<|az fun a6=>aB<|ak fun a9=>au (aj j)<|p (cj (aj j) aa)<|nl<|a9<|rg aa<|au (v2)<|p (fa Fq aa)<|p (ld bO aa<|(a7 aq).trans aa)<|au (aj j)<|p (bL ((cl.first+j:Nat):Int) aa aa<|bm ab ab)<|e<|lK nq aa aa fun b3 cn b5 E br=> ?_
 have cg:=E.size
 have ca:((fs.take i).flatMap (fS F kd)++(fI j).map (cl.first+ ·)).length=((fs.take i).flatMap<|fS F kd).length+j:=by rw [bK,e8,sX]
 have bD:(fs.take i).flatMap (fS F kd)++(fI<|j+1).map (cl.first+ ·)=((fs.take i).flatMap (fS F kd)++(fI j).map (cl.first+ ·))++ [cl.first+j]:=by rw [List.range_succ,iw,← dZ]; rfl
 refine e<|ap nq (a8 ag E.md) aa (by have :=am.size; omega) aa (aG.fV br) (aa) (aa) ab ab fun b2 co bB aL ch b7=> ?_
 have bt:=Wk.own (am.trans E.md) (a8 ag E.md) aL<|cz _
 have bw:=aL.aB (E.md.aB aq) fun h=>dx (a8 ag E.md) (E.md.aB aq) aw h
 exact p aE<|nl<|bn<|a6<|rg aa<|p (ad aa aa<|cC ab)<|p mv<|nl<|tn<|⟨_,ab,j+1,b2,ab,(by rw [bD,iw,bK]; exact bB),bw,bt,aa,aa,aa,aa,aa,aa,aa,aa,aa,aa⟩
 exact ext<|bh<|bh<|be<|bn<|M<|rg aa<|p (ad aa aa<|cC ab)<|p mv<|nl<|tn<|⟨_,ab,i+1,v2,ab,(by rw [I,aV,show cl.count=j by omega]; exact ag),(by rewrite [I,aV,bK,e8,sX]; omega),am,aa,aa,aa,aa,aa,aa,aa⟩
 refine ext<|bh<|bh<|be<|bg<|az fun M=> ?_
 rw [e9 (show fs.length≤i by omega)] at ae
 refine rg aa<|au (v)<|e<|cl LL (Vo w.heap.size _ v ((fs.flatMap<|fS F kd).map fun i:Nat=>(i:Int)) J (by rw [GA]; exact ae)<|by rw [e8]; have :=Td Y.cls ax kd; omega) aa fun v51 cp bv=> ?_
 obtain ⟨rfl,aZ,bu⟩:=bv
 rw [Vp Y.cls ax,GA,GO Y.cls ax] at aZ
 exact nl<|M<|ak fun ai=>au (v)<|p (cj (v) aa)<|nl<|ai<|rt<|bc aa<|⟨aZ,Wk.own C ae bu<|cz _⟩
theorem HV (B tb:Nat) (U:ej) (F:aC) (xs:List bj) (n:Int) (w:World) (J:dT w B tb U F xs) (a:dW F xs):
 bf ao 45 (ba [aU tb,.int .i64 n]) w (fun v w'=>bq w' w.heap.size 3 1 v (aK F (flagsOf xs n) 2).length ((aK F (flagsOf xs n) 2).map fA)∧Wk w w'):=by
 refine enter func45 aa ntmps45 aa<|ak fun O=>ay<|O<|ak fun V=>au (aU tb)<|au (.int .i64 n)<|e<|cl rM (tG B tb U F xs n w J a) aa fun v10 am ag=> ?_
 obtain ⟨⟨an,rfl,M⟩,hE10⟩:=ag
 obtain ⟨C,E,rfl⟩:=cT M
 have aw:=hE10.size
 refine p mv<|p (xt aa aa)<|p (xt aa aa)<|e<|al oX fun Z aB ap I ad=> ?_
 have ax:=I.size
 refine e<|cM jv aa aa aa aa (ad) (by simp) fun A G ac=> ?_
 have c:Wk am A:=I.md.trans' G fun q aq h=>by omega
 have av:=G.size
 have ai:bD A.heap Z ([str (iL xs n),.slice C (flagsOf xs n).length E]):=ac
 refine ay<|V<|ak fun Y=>au (aU tb)<|p (fa qG aa)<|p (ld mh aa<|ai.bp 1)<|e<|cl ze (AM B tb U F xs (flagsOf xs n) C E 2 A (J.wk<|hE10.trans c) a ((a6 M).2.wk c) (sy a n).1 (sy a n).2.1) aa fun az aA ah=> ?_
 obtain ⟨aj,ae⟩:=ah
 exact ay<|Y<|rt<|bc aa<|⟨e5 aj ab,(hE10.trans c).trans ae⟩
theorem Hg (B tb:Nat) (U:ej) (F:aC) (xs:List bj) (n:Int) (w:World) (J:dT w B tb U F xs) (a:dW F xs):
 bf ao 47 (ba [aU tb,.int .i64 n]) w (fun v w'=>bq w' w.heap.size 3 1 v (aK F (flagsOf xs n) 1).length ((aK F (flagsOf xs n) 1).map fA)∧Wk w w'):=by
 refine enter func47 aa ntmps47 aa<|ak fun O=>ay<|O<|ak fun V=>au (aU tb)<|au (.int .i64 n)<|e<|cl rM (tG B tb U F xs n w J a) aa fun v10 am ag=> ?_
 obtain ⟨⟨an,rfl,M⟩,hE10⟩:=ag
 obtain ⟨C,E,rfl⟩:=cT M
 have aw:=hE10.size
 refine p mv<|p (xt aa aa)<|p (xt aa aa)<|e<|al oX fun Z aB ap I ad=> ?_
 have ax:=I.size
 refine e<|cM jv aa aa aa aa (ad) (by simp) fun A G ac=> ?_
 have c:Wk am A:=I.md.trans' G fun q aq h=>by omega
 have av:=G.size
 have ai:bD A.heap Z ([str (iL xs n),.slice C (flagsOf xs n).length E]):=ac
 refine ay<|V<|ak fun Y=>au (aU tb)<|p (fa qG aa)<|p (ld mh aa<|ai.bp 1)<|e<|cl ze (AM B tb U F xs (flagsOf xs n) C E 1 A (J.wk<|hE10.trans c) a ((a6 M).2.wk c) (sy a n).1 (sy a n).2.1) aa fun az aA ah=> ?_
 obtain ⟨aj,ae⟩:=ah
 exact ay<|Y<|rt<|bc aa<|⟨e5 aj ab,(hE10.trans c).trans ae⟩
theorem Bg (B tb:Nat) (U:ej) (F:aC) (xs:List bj) (n:Int) (w:World) (J:dT w B tb U F xs) (a:dW F xs):
 bf ao 46 (ba [aU tb,.int .i64 n]) w (fun v w'=>bq w' w.heap.size 3 1 v (aK F (bH F n) 2).length ((aK F (bH F n) 2).map fA)∧Wk w w'):=by
 refine enter func46 aa ntmps46 aa<|ak fun O=>ay<|O<|ak fun V=>au (aU tb)<|au (.int .i64 n)<|e<|cl DT (xj B tb U F xs n w J a) aa fun v10 am ag=> ?_
 obtain ⟨⟨an,rfl,M⟩,hE10⟩:=ag
 obtain ⟨C,E,rfl⟩:=cT M
 have aw:=hE10.size
 refine p mv<|p (xt aa aa)<|p (xt aa aa)<|e<|al oW fun Z aB ap I ad=> ?_
 have ax:=I.size
 refine e<|cM mZ aa aa aa aa (ad) (by simp) fun A G ac=> ?_
 have c:Wk am A:=I.md.trans' G fun q aq h=>by omega
 have av:=G.size
 have ai:bD A.heap Z (dC (qR F n,.slice C (bH F n).length E)):=ac
 refine ay<|V<|ak fun Y=>au (aU tb)<|p (fa pN aa)<|p (ld mh aa<|ai.bp 6)<|e<|cl ze (AM B tb U F xs (bH F n) C E 2 A (J.wk<|hE10.trans c) a ((a6 M).2.wk c) (xF a n).1 (xF a n).2.1) aa fun az aA ah=> ?_
 obtain ⟨aj,ae⟩:=ah
 exact ay<|Y<|rt<|bc aa<|⟨e5 aj ab,(hE10.trans c).trans ae⟩
theorem EC (B tb:Nat) (U:ej) (F:aC) (xs:List bj) (n:Int) (w:World) (ac:dT w B tb U F xs) (C:dW F xs):
 bf ao 90 (ba [aU tb,.int .i64 n]) w (fun v w'=>v= .bool (qB F n)∧Wk w w'):=by
 refine enter func90 aa ntmps90 aa<|ak fun ae=>ay<|ae<|ak fun ah=>au (aU tb)<|au (.int .i64 n)<|e<|cl DT (xj B tb U F xs n w ac C) aa fun v10 ax ap=> ?_
 obtain ⟨⟨aB,rfl,ad⟩,hE10⟩:=ap
 obtain ⟨M,O,rfl⟩:=cT ad
 have aI:=hE10.size
 refine p mv<|p (xt aa aa)<|p (xt aa aa)<|e<|al oW fun ai aL aD Z am=> ?_
 have aK:=Z.size
 refine e<|cM mZ aa aa aa aa (am) (by simp) fun c Y aj=> ?_
 have V:Wk ax c:=Z.md.trans' Y fun q aF h=>by omega
 have aG:=Y.size
 have aw:bD c.heap ai (dC (qR F n,.slice M (bH F n).length O)):=aj
 have E:=hE10.trans V
 have av:=ac.wk E
 refine ay<|ah<|az fun J=> ?_
 have a:(fun w'=>Wk c w') c.drew:=(Md.refl _ _).drew
 refine bT (fun w'=>Wk c w') aa wide a<|aH 0 aa (fun _ _=>mv) a<|aH 1 aa (fun _ _=>mv) a<|kz (t:=14) aa (fun I=> ?_) fun I=> ?_
 refine bz 2 aa (fun _ _=>fa pN aa) a<|bz 3 aa (fun w' G=>ld mh aa<|Wk.aM G<|aw.bp 6) a<|bz 4 aa (fun _ _=>aJ (aU tb) aa) a<|bz 5 aa (fun _ _=>nc aa) a<|bz 6 aa (fun _ _=>fa tN aa) a<|bz 7 aa (fun _ _=>fa wh aa) a<|bz 8 aa (fun _ _=>lS tp aa aa ab) a<|bz 9 aa (fun w' G=>ld bZ aa<|Wk.aM G<|H5 av (k:=0) ab) a<|lR 10 aa ag aa aa aa<|cl DK (FN M O (bH F n) (F.sp.getD 0 0) c.drew (((a6 ad).2.wk V).wk a)<|by have :=(xF C n).1; omega) aa fun v23 aA aq=> ?_
 obtain ⟨rfl,an⟩:=aq
 have A:(fun w'=>Wk c w') aA:=a.trans an
 refine ⟨A,?_⟩
 exact bz 11 aa (fun _ _=>no aa) A<|aH 12 aa (fun _ _=>bR aa) A<|aH 13 aa (fun _ _=>aE) A<|hn ag<|J<|rt<|bc aa<|⟨by unfold qB; rw [decide_eq_true I,FO (xF C n).2.2]; rfl,E.trans A⟩
 exact bo 2 aa a<|bo 3 aa a<|bo 4 aa a<|bo 5 aa a<|bo 6 aa a<|bo 7 aa a<|bo 8 aa a<|bo 9 aa a<|bo 10 aa a<|bo 11 aa a<|aH 12 aa (fun _ _=>bI aa) a<|aH 13 aa (fun _ _=>aE) a<|hn ag<|J<|rt<|bc aa<|⟨by unfold qB; rw [decide_eq_false I]; rfl,E.trans a⟩
theorem GC (B tb:Nat) (U:ej) (F:aC) (xs:List bj) (n k:Int) (w:World) (Z:dT w B tb U F xs) (G:dW F xs):
 bf ao 23 (ba [aU tb,.int .i64 n,.int .i64 k]) w (fun v w'=>v= .bool (lW F xs n k)∧Wk w w'):=by
 refine enter func23 aa ntmps23 aa<|ak fun ae=>ay<|ae<|ak fun ah=>p mv<|p mv<|e<|cl rM (tG B tb U F xs n w Z G) aa fun v12 aA ap=> ?_
 obtain ⟨⟨a12,rfl,ad⟩,hE12⟩:=ap
 obtain ⟨J,M,rfl⟩:=cT ad
 have aI:=hE12.size
 refine p mv<|p (xt aa aa)<|p (xt aa aa)<|e<|al oX fun ai aL aD Y am=> ?_
 have aJ:=Y.size
 refine e<|cM jv aa aa aa aa (am) (by simp) fun c V aj=> ?_
 have O:Wk aA c:=Y.md.trans' V fun q aF h=>by omega
 have aG:=V.size
 have av:bD c.heap ai [str (iL xs n),.slice J (flagsOf xs n).length M]:=aj
 have A:=hE12.trans O
 have au:=Z.wk A
 refine ay<|ah<|az fun C=> ?_
 have a:(fun w'=>Wk c w') c.drew:=(Md.refl _ _).drew
 refine bT (fun w'=>Wk c w') aa wide a<|aH 0 aa (fun _ _=>mv) a<|aH 1 aa (fun _ _=>mv) a<|kz (t:=16) aa (fun ac=> ?_) fun ac=> ?_
 refine bz 2 aa (fun _ _=>mv) a<|bz 3 aa (fun _ _=>ge aa aa) a<|aH 4 aa (fun _ _=>bR aa) a<|aH 5 aa (fun _ _=>mv) a<|kz (t:=20) aa (fun aw=> ?_) fun aw=> ?_
 refine bz 6 aa (fun _ _=>mv) a<|bz 7 aa (fun _ _=>lt aa aa) a<|aH 8 aa (fun _ _=>bR aa) a<|aH 9 aa (fun _ _=>mv) a<|kz (t:=24) aa (fun ax=> ?_) fun ax=> ?_
 obtain ⟨k,rfl⟩:∃ m:Nat,k=(m:Int):=⟨k.toNat,ab⟩
 refine bz 10 aa (fun _ _=>fa qG aa) a<|bz 11 aa (fun w' I=>ld mh aa<|Wk.aM I<|av.bp 1) a<|bz 12 aa (fun _ _=>mv) a<|bz 13 aa (fun _ _=>mv) a<|bz 14 aa (fun _ _=>nc aa) a<|bz 15 aa (fun _ _=>fa tN aa) a<|bz 16 aa (fun _ _=>fa wh aa) a<|bz 17 aa (fun _ _=>lS tp aa aa ab) a<|bz 18 aa (fun w' I=>ld bZ aa<|Wk.aM I<|H5 au ab) a<|lR 19 aa ag aa aa aa<|cl DK (FN J M (flagsOf xs n) (F.sp.getD k 0) c.drew (((a6 ad).2.wk O).wk a)<|by have :=(sy G n).1; omega) aa fun aK aB aq=> ?_
 obtain ⟨rfl,an⟩:=aq
 have E:(fun w'=>Wk c w') aB:=a.trans an
 refine ⟨E,?_⟩
 exact aH 20 aa (fun _ _=>bR aa) E<|aH 21 aa (fun _ _=>aE) E<|hn ag<|C<|rt<|bc aa<|⟨by unfold lW sc; rw [decide_eq_true (show 0≤((k:Nat):Int)∧((k:Nat):Int) < 5 by omega),jq,FO (sy G n).2.2]; rfl,A.trans E⟩
 exact bo 10 aa a<|bo 11 aa a<|bo 12 aa a<|bo 13 aa a<|bo 14 aa a<|bo 15 aa a<|bo 16 aa a<|bo 17 aa a<|bo 18 aa a<|bo 19 aa a<|aH 20 aa (fun _ _=>bI aa) a<|aH 21 aa (fun _ _=>aE) a<|hn ag<|C<|rt<|bc aa<|⟨by unfold lW; rw [decide_eq_false (show ¬(0≤k∧k < 5) by omega)]; rfl,A.trans a⟩
 exact bo 6 aa a<|bo 7 aa a<|aH 8 aa (fun _ _=>bI aa) a<|aH 9 aa (fun _ _=>mv) a<|bo 10 aa a<|bo 11 aa a<|bo 12 aa a<|bo 13 aa a<|bo 14 aa a<|bo 15 aa a<|bo 16 aa a<|bo 17 aa a<|bo 18 aa a<|bo 19 aa a<|aH 20 aa (fun _ _=>bI aa) a<|aH 21 aa (fun _ _=>aE) a<|hn ag<|C<|rt<|bc aa<|⟨by unfold lW; rw [decide_eq_false (show ¬(0≤k∧k < 5) by omega)]; rfl,A.trans a⟩
 exact bo 2 aa a<|bo 3 aa a<|aH 4 aa (fun _ _=>bI aa) a<|aH 5 aa (fun _ _=>mv) a<|bo 6 aa a<|bo 7 aa a<|aH 8 aa (fun _ _=>bI aa) a<|aH 9 aa (fun _ _=>mv) a<|bo 10 aa a<|bo 11 aa a<|bo 12 aa a<|bo 13 aa a<|bo 14 aa a<|bo 15 aa a<|bo 16 aa a<|bo 17 aa a<|bo 18 aa a<|bo 19 aa a<|aH 20 aa (fun _ _=>bI aa) a<|aH 21 aa (fun _ _=>aE) a<|hn ag<|C<|rt<|bc aa<|⟨by unfold lW sc; rw [(vz ac).2,decide_eq_false (show ¬(F.sp.getD k.toNat 0≠0∧F.sp.getD k.toNat 0∈[]) from fun h=>by cases h.2),xY]; rfl,A.trans a⟩
end Go.Hb.jL
end
section
namespace Go.Hb
open Go.Hb.iD Go.Hb.iT Go.Hb.jL
theorem r6 {l:List Nat} {i:Nat} (h:i < l.length):(l.map fA)[i]? =some (fA<|l.getD i 0):=by rw [fH,cR,bW h]; rfl
end Go.Hb
end
section
namespace Go.Hb
open Go.Hb.pw
theorem VH {ps:List Tx} {w:Tx} {i:Nat} (hi:i < ps.length) (h:fk (ps.getD i []) (w.getD i 0)=false):n3 ps w=false :=by
 unfold n3
 rw [Bool.and_eq_false_iff]
 refine .inr ?_
 rw [List.all_eq_false]
 exact ⟨i,by simpa using hi,by rw [h]; exact dv⟩
theorem VJ {ps:List Tx} {w:Tx} (a:ps.length≤w.length) (h:∀ i,i < ps.length→fk (ps.getD i []) (w.getD i 0)=true):n3 ps w=true :=by
 unfold n3
 rw [gj,decide_eq_true a,kK]
 exact ⟨aa,fun i hi=>h i<|by simpa using hi⟩
theorem VI {ps:List Tx} {w:Tx} (h:w.length < ps.length):n3 ps w=false :=by
 unfold n3; rw [decide_eq_false ab]; rfl
theorem QZ (s pr:List UInt8) (w:World) (hs:s.length≤1099511627776) (hp:pr.length≤1099511627776):
 bf ao 167 (ba [str s,str pr]) w (fun v w'=>v= .bool (decide (s.take pr.length=pr))∧Wk w w'):=by
 refine enter func167 aa ntmps167 aa<|ak fun a=>ay<|a<|ak fun c=>au (str s)<|au (str pr)<|e<|cl yZ (Ag s pr _ hs hp) aa fun C E A=> ?_
 obtain ⟨rfl,q⟩:=A
 exact ay<|c<|rt<|bc aa<|⟨aa,q⟩
theorem Q0 (s pr:List UInt8) (w:World) (hs:s.length≤1099511627776) (hp:pr.length≤1099511627776):
 bf ao 165 (ba [str s,str pr]) w (fun v w'=>v= .bool (decide (pr.length≤s.length∧s.drop (s.length - pr.length)=pr))∧Wk w w'):=by
 refine enter func165 aa ntmps165 aa<|ak fun a=>ay<|a<|ak fun c=>au (str s)<|au (str pr)<|e<|cl vH (wz s pr _ hs hp) aa fun C E A=> ?_
 obtain ⟨rfl,q⟩:=A
 exact ay<|c<|rt<|bc aa<|⟨aa,q⟩
theorem TS (ps:List Tx) (a:Option Addr) (c:Nat) (i:Nat) (b:UInt8) (w:World) (C:aG w.heap a (ku ps)) (hi:i < ps.length) (ad:ps.length≤4096):
 bf ao 221 (ba [.agg [.slice a ps.length c].toArray,aj i,.int .u8 b.toNat]) w (fun v w'=>v= .bool (fk (ps.getD i []) b)∧Wk w w'):=by
 refine enter func221 aa ntmps221 aa<|ak fun G=>e<|iJ aa fun J E Y q M=> ?_
 have A:bD E.heap J [.slice a ps.length c]:=M
 refine ay<|G<|ak fun I=>au (aj i)<|p (ge aa aa)<|p mv<|gs (t:=9) aa (fun ac=> ?_) fun h=>absurd ab h
 refine aY aa (aJ (aj i) aa)<|aY aa (fa lO aa)<|aY aa (ld mR aa<|A.bp 0)<|aY aa (bP p5 aa aa)<|aY aa (lt aa aa)<|p (bR aa)<|p mv<|gs (t:=16) aa (fun Z=> ?_) fun h=>absurd ab h
 refine aY aa (fa lO aa)<|aY aa (ld mR aa<|A.bp 0)<|aY aa (aJ (aj i) aa)<|aY aa (bd EJ aa aa ab<|aG.ok (C.wk q.md)<|D9 ab)<|aY aa (cg j5 aa (aa)<|D8 (C.wk q.md) hi)<|aY aa (aJ (.int .u8 b.toNat) aa)<|eg aa aa aa<|cl y5 (FP (fk<|ps.getD i []) b E) aa fun v23 ae V=> ?_
 obtain ⟨rfl,O⟩:=V
 exact p (bR aa)<|ay<|I<|rt<|bc aa<|⟨aa,q.md.trans O⟩
theorem Hh (ps:List Tx) (a:Option Addr) (c:Nat) (s:Tx) (w:World) (aC:aG w.heap a (ku ps)) (aK:ps.length≤4096):
 bf ao 168 (ba [.agg [.slice a ps.length c].toArray,str s]) w (fun v w'=>v= .bool (n3 ps s)∧Wk w w'):=by
 refine enter func168 aa ntmps168 aa<|ak fun ai=>e<|iJ aa fun Y ah aQ G aA=> ?_
 have M:bD ah.heap Y [.slice a ps.length c]:=aA
 refine ay<|ai<|az fun an=>ak fun ap=>au (str s)<|p (dB u9 aa aa)<|p (fa lO aa)<|p (ld mR aa<|M.bp 0)<|p (bP p5 aa aa)<|p (lt aa aa)<|nl<|ap<|cd aa (fun aI=> ?_) fun aI=> ?_
 exact ak fun I=>ay<|I<|rt<|tr<|bc aa<|⟨by rw [VI ab]; rfl,G.md⟩
 refine aR<|an<|az fun I=>ak fun aq=>p (fa lO aa)<|p (ld mR aa<|M.bp 0)<|p (bP p5 aa aa)<|p mv<|nl<|aq<|aB<|lp (fun Z E A=> ∃ (i:Nat),(i≤ps.length)∧(∀ k,k < i→fk (ps.getD k []) (s.getD k 0)=true)∧(Wk ah A)∧(E 1=str s)∧(E 2=aU Y)∧(E 14=aj (ps.length))∧(E 15=aj i)∧(ps.length - i=Z)) _ ⟨0,ab,(fun k hk=>absurd hk<|Nat.not_lt_zero _),(Md.refl _ _),aa,aa,aa,aa,aa⟩ ?_
 rintro Z E A ⟨i,hi,ae,C,aL,aO,aM,aN,rfl⟩
 refine fx 1 aL<|fx 2 aO<|fx 14 aM<|fx 15 aN<|ak fun av=>p (lt aa aa)<|nl<|av<|az fun aw=>cd aa (fun aJ=> ?_) fun aJ=> ?_
 refine aR<|aw<|az fun J=>aB<|ak fun ax=>au (aj i)<|p (cj (aj i) aa)<|nl<|ax<|az fun al=> ?_
 have q:(fun w'=>Wk A w') A.drew:=(Md.refl _ _).drew
 refine bT (fun w'=>Wk A w') aa wide q<|aH 0 aa (fun w' aF=>cg mg aa (aa) fun j aS=>(Wk.B aF<|Wk.B C M).bp j) q<|bQ 1 aa (aj i) q<|bQ 2 aa (str s) q<|bQ 3 aa (aj i) q<|aH 4 aa (fun _ _=>j8 u9 aa aa ab) q<|he 5 aa ag<|cl L7 (TS ps a c i (s.getD i 0) A.drew (aC.wk<|G.md.trans<|C.trans q) ab aK) aa fun v23 aP aD=> ?_
 obtain ⟨rfl,O⟩:=aD
 have ac:(fun w'=>Wk A w') aP:=q.trans O
 refine ⟨ac,?_⟩
 refine aH 6 aa (fun _ _=>no aa) ac<|hn ag<|al<|cb aa (fun V=> ?_) fun V=> ?_
 exact ak fun am=>ay<|am<|rt<|br<|tr<|tr<|br<|tr<|bc aa<|⟨by rw [VH (i:=i) ab (by simpa using V)]; rfl,G.md.trans<|C.trans<|q.trans O⟩
 exact aR<|bn<|J<|rg aa<|p (ad aa aa<|cC ab)<|p mv<|nl<|tn<|⟨_,ab,i+1,ab,(fun k hk=>by rcases Nat.lt_succ_iff_lt_or_eq.1 hk with h | rfl; exact ae k h; simpa using V),(C.trans<|q.trans O),aa,aa,aa,aa,aa⟩
 exact ext<|bh<|bh<|be<|I<|ak fun J=>p aE<|nl<|J<|rt<|bc aa<|⟨by rw [VJ ab (fun k hk=>ae k ab)]; rfl,G.md.trans C⟩
section
variable {r:cK} {s:Tx}
theorem Qc (h:(dX r.cond).2≠0):gA r s=false :=by unfold gA; rw [decide_eq_false (fun h2=>h h2.1)]; rfl
theorem Qd (h:s.length≤r.strip.length):gA r s=false :=by unfold gA; rw [decide_eq_false (fun h2=>by omega)]; rfl
variable (h:(dX r.cond).2=0) (h1:r.strip.length < s.length)
include h h1
theorem E4 (hk:r.kind=2):gA r s=(decide (s.drop (s.length - r.strip.length)=r.strip) && tE (dX r.cond).1 s):=by unfold gA; rw [decide_eq_true ⟨h,h1⟩,if_pos hk]; rfl
theorem E3 (hk:r.kind=1):gA r s=(decide (s.take r.strip.length=r.strip) && n3 (dX r.cond).1 s):=by unfold gA; rw [decide_eq_true ⟨h,h1⟩,if_neg ab,if_pos hk]; rfl
omit h h1 in
theorem Qb (hk:r.kind≠1) (a:r.kind≠2):gA r s=false :=by unfold gA; rw [if_neg a,if_neg hk,xY]
end
theorem T0 (ps:List Tx) (a:Option Addr) (c:Nat) (s:Tx) (w:World) (Y:aG w.heap a (ku ps)) (ae:ps.length≤4096) (al:s.length≤1073741824):
 bf ao 166 (ba [.agg [.slice a ps.length c].toArray,str s]) w (fun v w'=>v= .bool (tE ps s)∧Wk w w'):=by
 refine enter func166 aa ntmps166 aa<|ak fun M=>e<|iJ aa fun O A ai I V=> ?_
 have G:bD A.heap O [.slice a ps.length c]:=V
 refine ay<|M<|az fun J=> ?_
 have q:(fun w'=>Wk A w') A.drew:=(Md.refl _ _).drew
 refine bT (fun w'=>Wk A w') aa wide q<|bQ 0 aa (str s) q<|aH 1 aa (fun _ _=>dB u9 aa aa) q<|aH 2 aa (fun _ _=>fa lO aa) q<|aH 3 aa (fun w' C=>ld mR aa<|Wk.aM C<|G.bp 0) q<|aH 4 aa (fun _ _=>bP p5 aa aa) q<|aH 5 aa (fun _ _=>ge aa aa) q<|aH 6 aa (fun _ _=>mv) q<|kz (t:=11) aa (fun ad=> ?_) fun ad=> ?_
 refine bz 7 aa (fun w' C=>cg mg aa (aa) fun j aj=>(Wk.B C G).bp j) q<|bz 8 aa (fun _ _=>aJ (str s) aa) q<|bz 9 aa (fun _ _=>aJ (str s) aa) q<|bz 10 aa (fun _ _=>dB u9 aa aa) q<|bz 11 aa (fun _ _=>fa lO aa) q<|bz 12 aa (fun w' C=>ld mR aa<|Wk.aM C<|G.bp 0) q<|bz 13 aa (fun _ _=>bP p5 aa aa) q<|bz 14 aa (fun _ _=>dt ((s.length - ps.length:Nat):Int) aa aa<|bm ab ab) q<|bz 15 aa (fun _ _=>oP u9 aa aa ab) q<|lR 16 aa ag aa aa aa<|cl Dk (Hh ps a c (s.drop<|s.length - ps.length) A.drew (Y.wk<|I.md.trans q) ae) aa fun v21 ah ac=> ?_
 obtain ⟨rfl,Z⟩:=ac
 have E:(fun w'=>Wk A w') ah:=q.trans Z
 refine ⟨E,?_⟩
 exact aH 17 aa (fun _ _=>bR aa) E<|aH 18 aa (fun _ _=>aE) E<|hn ag<|J<|rt<|bc aa<|⟨by unfold tE; rw [decide_eq_true (show ps.length≤s.length by omega)]; rfl,I.md.trans E⟩
 exact bo 7 aa q<|bo 8 aa q<|bo 9 aa q<|bo 10 aa q<|bo 11 aa q<|bo 12 aa q<|bo 13 aa q<|bo 14 aa q<|bo 15 aa q<|bo 16 aa q<|aH 17 aa (fun _ _=>bI aa) q<|aH 18 aa (fun _ _=>aE) q<|hn ag<|J<|rt<|bc aa<|⟨by unfold tE; rw [decide_eq_false (show ¬ps.length≤s.length by omega)]; rfl,I.md.trans q⟩
theorem E5 (r:cK) (u:Value) (s:Tx) (w:World) (bd:r.strip.length≤1048576) (a7:r.add.length≤1048576) (aV:r.cond.length≤1048576) (aX:s.length≤1073741824):
 bf ao 104 (ba [.agg (dC (r,u)).toArray,str s]) w (fun v w'=>v= .bool (gA r s)∧Wk w w'):=by
 refine enter func104 aa ntmps104 aa<|ak fun ap=>e<|iJ aa fun aA an a2 ai aE=> ?_
 have bb:((r,u):cK×Value).1.strip.length=r.strip.length:=rfl
 have a9:((r,u):cK×Value).1.kind=r.kind:=rfl
 have a8:((r,u):cK×Value).1.add.length=r.add.length:=rfl
 have ae:bD an.heap aA (dC (r,u)):=aE
 refine ay<|ap<|ak fun aq=>p (fa Fj aa)<|p (ld cH aa<|ae.bp 5)<|e<|cl Dj (Ef r.cond an aV) aa fun v10 aZ aK=> ?_
 obtain ⟨⟨ac,rfl,am⟩,hE10⟩:=aK
 obtain ⟨a,c,rfl⟩:=cT am
 have ah:=(a6 am).2
 have a4:=Ee r.cond
 have bh:=ai.size
 have bg:=hE10.size
 refine p mv<|p (xt aa aa)<|p (xt aa aa)<|e<|al xR fun aC bm a3 aj aF=> ?_
 have bi:=aj.size
 refine e<|cM pH aa aa aa aa (aF) (by simp) fun V aI aD=> ?_
 have J:Wk aZ V:=aj.md.trans' aI fun q a5 h=>by omega
 have ag:bD V.heap aC [.slice a (dX r.cond).1.length c]:=aD
 have I:=Wk.B (hE10.trans J) ae
 have A:=ai.md.trans<|hE10.trans J
 refine ay<|aq<|az fun av=>ak fun ad=>p mv<|p (gE aa aa)<|p mv<|gs (t:=15) aa (fun aP=> ?_) fun aP=> ?_
 refine aT aa<|aT aa<|aT aa<|aT aa<|aT aa<|aT aa<|p (bR aa)<|nl<|ad<|ct aa<|ak fun C=>ay<|C<|rt ?_
 exact tr<|bc aa<|⟨by rw [Qc ab]; rfl,A⟩
 refine aY aa (aJ (str s) aa)<|aY aa (dB u9 aa aa)<|aY aa (fa pM aa)<|aY aa (ld cH aa<|I.bp 3)<|aY aa (dB u9 aa aa)<|aY aa (le aa aa)<|p (bI aa)<|nl<|ad<|cd aa (fun aW=> ?_) fun aW=> ?_
 exact ak fun C=>ay<|C<|rt<|tr<|bc aa<|⟨by rw [Qd ab]; rfl,A⟩
 refine aR<|av<|az fun C=>ak fun aw=>p (fa tO aa)<|p (ld bO aa<|I.bp 0)<|nl<|aw<|aB<|ak fun ax=>p (cw aa aa)<|ay<|ax ?_
 refine cd aa (fun aU=> ?_) fun aU=> ?_
 refine ak fun E=>au (str s)<|p (fa pM aa)<|p (ld cH aa<|I.bp 3)<|e<|cl LQ (Q0 s r.strip V ab ab) aa fun v30 a0 aL=> ?_
 obtain ⟨rfl,M⟩:=aL
 refine p mv<|gb (t:=31) aa (fun Z=> ?_) fun Z=> ?_
 refine aY aa (cg mg aa (aa) fun j aQ=>(Wk.B M ag).bp j)<|aY aa (aJ (str s) aa)<|eg aa aa aa<|cl LR (T0 (dX r.cond).1 a c s a0 (ah.wk<|J.trans M) ab aX) aa fun bj bk aM=> ?_
 obtain ⟨rfl,aG⟩:=aM
 exact p (bR aa)<|ay<|E<|rt<|br<|tr<|bc aa<|⟨by rw [E4 ab ab ab,decide_eq_true (of_decide_eq_true Z).2]; rfl,A.trans<|M.trans aG⟩
 exact aT aa<|aT aa<|aT aa<|p (bI aa)<|ay<|E<|rt<|br<|tr<|bc aa<|⟨by rw [E4 ab ab ab,decide_eq_false (fun h=>of_decide_eq_false Z ⟨ab,h⟩)]; rfl,A.trans M⟩
 refine ak fun E=>p (cw aa aa)<|ay<|E<|cd aa (fun aS=> ?_) fun aS=> ?_
 refine ak fun G=>au (str s)<|p (fa pM aa)<|p (ld cH aa<|I.bp 3)<|e<|cl LS (QZ s r.strip V ab ab) aa fun v41 a1 aN=> ?_
 obtain ⟨rfl,O⟩:=aN
 refine p mv<|gb (t:=42) aa (fun Y=> ?_) fun Y=> ?_
 refine aY aa (cg mg aa (aa) fun j aQ=>(Wk.B O ag).bp j)<|aY aa (aJ (str s) aa)<|eg aa aa aa<|cl Dk (Hh (dX r.cond).1 a c s a1 (ah.wk<|J.trans O) ab) aa fun v45 bl aO=> ?_
 obtain ⟨rfl,aH⟩:=aO
 exact p (bR aa)<|ay<|G<|rt<|br<|tr<|bc aa<|⟨by rw [E3 ab ab ab,Y]; rfl,A.trans<|O.trans aH⟩
 exact aT aa<|aT aa<|aT aa<|p (bI aa)<|ay<|G<|rt<|br<|tr<|bc aa<|⟨by rw [E3 ab ab ab,Y]; rfl,A.trans O⟩
 exact aR<|bn<|C<|ak fun G=>ay<|G<|rt<|bc aa<|⟨by rw [Qb ab ab]; rfl,A⟩
def kf (s p:Tx):Tx:=if p.length≤s.length∧s.drop (s.length - p.length)=p then s.take (s.length - p.length) else s
theorem CZ {r:cK} {s:Tx} (h:gA r s=false):dp r s=none:=if_neg<|by rw [h]; exact dv
theorem wa {r:cK} {s:Tx} (h:gA r s=true):r.strip.length < s.length∧(r.kind=2→s.drop (s.length - r.strip.length)=r.strip)∧(r.kind≠2→s.take r.strip.length=r.strip):=by
 unfold gA at h
 rw [gj,decide_eq_true_eq] at h
 refine ⟨h.1.2,fun hk=> ?_,fun hk=> ?_⟩
 · have h2:=h.2; rw [if_pos hk,gj] at h2; exact of_decide_eq_true h2.1
 · have h2:=h.2; rw [if_neg hk] at h2
   split at h2
   · rw [gj] at h2; exact of_decide_eq_true h2.1
   · cases h2
theorem KZ {r:cK} {s:Tx} (h:gA r s=true) (hk:r.kind=2):dp r s=some (kf s r.strip++r.add):=by
 have h1:=wa h
 unfold dp kf; rw [if_pos h,if_pos hk,if_pos ⟨ab,h1.2.1 hk⟩]
theorem KX {r:cK} {s:Tx} (h:gA r s=true) (hk:r.kind≠2):dp r s=some (r.add++eN s r.strip):=by
 have h1:=wa h
 unfold dp eN; rw [if_pos h,if_neg hk,if_pos (h1.2.2 hk)]
theorem K0 {r:cK} {s:Tx} (h:gA r s=true) (hk:r.kind=2):dp r s=some (s.take (s.length - r.strip.length)++r.add):=by
 unfold dp; rw [if_pos h,if_pos hk]
theorem KY {r:cK} {s:Tx} (h:gA r s=true) (hk:r.kind≠2):dp r s=some (r.add++s.drop r.strip.length):=by
 unfold dp; rw [if_pos h,if_neg hk]
def xd (x:Option Tx):Value:= .tuple #[str (x.getD []),.bool x.isSome]
theorem Wg (s pr:List UInt8) (w:World) (hs:s.length≤1099511627776) (hp:pr.length≤1099511627776):
 bf ao 209 (ba [str s,str pr]) w (fun v w'=>v=str (kf s pr)∧Wk w w'):=by
 refine enter func209 aa ntmps209 aa<|ak fun C=>ay<|C<|az fun E=>ak fun G=>au (str s)<|au (str pr)<|e<|cl vH (wz s pr _ hs hp) aa fun J M I=> ?_
 obtain ⟨rfl,A⟩:=I
 refine nl<|G<|cb aa (fun c=> ?_) fun c=> ?_
 have q:=of_decide_eq_true c
 exact ak fun a=>au (str s)<|au (str s)<|p (dB u9 aa aa)<|au (str pr)<|p (dB u9 aa aa)<|p (dt ((s.length - pr.length:Nat):Int) aa aa<|bm ab ab)<|p (su u9 aa aa ab)<|ay<|a<|rt<|tr<|bc aa<|⟨by show str (s.take (((s.length - pr.length:Nat):Int)).toNat)=_; unfold kf; rw [if_pos q]; rfl,A⟩
 have q:=of_decide_eq_false c
 exact aR<|E<|ak fun a=>au (str s)<|p (cj (str s) aa)<|nl<|a<|rt<|bc aa<|⟨by show str s=_; unfold kf; rw [if_neg q],A⟩
theorem Wh (s pr:List UInt8) (w:World) (hs:s.length≤1099511627776) (hp:pr.length≤1099511627776):
 bf ao 145 (ba [str s,str pr]) w (fun v w'=>v=str (kf s pr)∧Wk w w'):=by
 refine enter func145 aa ntmps145 aa<|ak fun a=>ay<|a<|ak fun c=>au (str s)<|au (str pr)<|e<|cl Dv (Wg s pr _ hs hp) aa fun C E A=> ?_
 obtain ⟨rfl,q⟩:=A
 exact ay<|c<|rt<|bc aa<|⟨aa,q⟩
theorem vy (r:cK) (u:Value) (s:Tx) (w:World) (aB:r.strip.length≤1048576) (ax:r.add.length≤1048576) (aA:r.cond.length≤1048576) (aC:s.length≤1073741824):
 bf ao 89 (ba [.agg (dC (r,u)).toArray,str s]) w (fun v w'=>v=xd (dp r s)∧Wk w w'):=by
 refine enter func89 aa ntmps89 aa<|ak fun ad=>e<|iJ aa fun aj ac aG ap al=> ?_
 have aN:((r,u):cK×Value).1.strip.length=r.strip.length:=rfl
 have aL:((r,u):cK×Value).1.kind=r.kind:=rfl
 have aK:((r,u):cK×Value).1.add.length=r.add.length:=rfl
 have Y:bD ac.heap aj (dC (r,u)):=al
 refine p aE<|ay<|ad<|az fun ae=>ak fun ah=>p (cg ju aa (aa) fun j aJ=>Y.bp j)<|au (str s)<|e<|cl Db (E5 r u s ac aB ax aA aC) aa fun aP a aw=> ?_
 obtain ⟨rfl,Z⟩:=aw
 have G:=Wk.B Z Y
 have O:=ap.md.trans Z
 refine p (no aa)<|nl<|ah<|cb aa (fun V=> ?_) fun V=> ?_
 have I:gA r s=false :=by simpa using V
 exact ak fun J=>p aE<|ay<|J<|rt<|tr<|f2 aa aa aa<|⟨by rw [CZ I]; rfl,O⟩
 have I:gA r s=true :=by simpa using V
 have aI:=(wa I).1
 refine aR<|ae<|az fun J=>ak fun ai=>p (fa tO aa)<|p (ld bO aa<|G.bp 0)<|p (cw aa aa)<|nl<|ai<|cd aa (fun hk=> ?_) fun hk=> ?_
 refine az fun M=> ?_
 have q:(fun w'=>Wk a w') a.drew:=(Md.refl _ _).drew
 refine bT (fun w'=>Wk a w') aa wide q<|bQ 0 aa (str s) q<|aH 1 aa (fun _ _=>fa pM aa) q<|aH 2 aa (fun w' c=>ld cH aa<|Wk.aM c<|G.bp 3) q<|aH 4 aa (fun _ _=>fa tQ aa) q<|aH 5 aa (fun w' c=>ld cH aa<|Wk.aM c<|G.bp 4) q<|he 3 aa ag<|cl Dg (Wh s r.strip a.drew ab ab) aa fun aO aD aq=> ?_
 obtain ⟨rfl,am⟩:=aq
 have C:(fun w'=>Wk a w') aD:=q.trans am
 refine ⟨C,?_⟩
 exact aH 6 aa (fun _ _=>cc aa aa (by have :(kf s r.strip).length≤s.length:=(by unfold kf; split <;> simp <;> omega); omega)) C<|aH 7 aa (fun _ _=>aE) C<|aH 8 aa (fun _ _=>aE) C<|hn ag<|M<|rt<|tr<|f2 aa aa aa<|⟨by rw [KZ I ab]; rfl,O.trans C⟩
 refine aR<|J<|az fun M=> ?_
 have A:(fun w'=>Wk a w') a.drew:=(Md.refl _ _).drew
 refine bT (fun w'=>Wk a w') aa wide A<|aH 0 aa (fun _ _=>fa tQ aa) A<|aH 1 aa (fun w' c=>ld cH aa<|Wk.aM c<|G.bp 4) A<|bQ 2 aa (str s) A<|aH 3 aa (fun _ _=>fa pM aa) A<|aH 4 aa (fun w' c=>ld cH aa<|Wk.aM c<|G.bp 3) A<|he 5 aa ag<|cl Dh (H7 s r.strip a.drew ab ab) aa fun v25 aF av=> ?_
 obtain ⟨rfl,an⟩:=av
 have E:(fun w'=>Wk a w') aF:=A.trans an
 refine ⟨E,?_⟩
 exact aH 6 aa (fun _ _=>cc aa aa (by have :(eN s r.strip).length≤s.length:=(by unfold eN; split <;> simp); omega)) E<|aH 7 aa (fun _ _=>aE) E<|aH 8 aa (fun _ _=>aE) E<|hn ag<|M<|rt<|f2 aa aa aa<|⟨by rw [KX I ab]; rfl,O.trans E⟩
end Go.Hb
end
section
namespace Go.Hb
open Go.Hb.iD Go.Hb.iT Go.Hb.jL
def cB (d:bu):List Value:= [str d.c5,.int .i64 (d.dw:Nat),.int .i64 d.fst,.int .i64 d.snd,.int .i64 d.pre]
def dI (l:List bu):List Value:=l.flatMap cB
def pJ (d:bu):Array Value:= #[.agg (cB d).toArray]
theorem lJ {h:Array Obj} {b e:Nat} {L:List Value} (a:h[b]? =some (.cells L.toArray e (0,0))):bD h b L:=⟨e,a⟩
def Rn (F:aC) (n:Int):Prop :=n= -1∨(0≤n∧n < F.rules.length)
section
variable {F:aC} {xs:List bj} {e:Nat} {f s p:Int}
theorem QW (a:f= -1) (hp:p= -1):eS F xs e f s p= !sc F xs e 0:=by unfold eS; rw [if_pos a,decide_eq_false (fun h=>h hp)]; rfl
theorem QX (a:f= -1) (hp:p≠ -1):eS F xs e f s p=true :=by unfold eS; rw [if_pos a,decide_eq_true hp]; rfl
theorem FL (a:f≠ -1) (h:qB F (if s= -1 then f else s)=false):eS F xs e f s p=false :=by unfold eS; rw [if_neg a,if_pos h]
theorem FK (a:f≠ -1) (h:qB F (if s= -1 then f else s)=true) (hp:p= -1):eS F xs e f s p=true :=by unfold eS; rw [if_neg a,if_neg (by rw [h]; exact dv),decide_eq_true hp]; rfl
theorem r7 (a:f≠ -1) (h:qB F (if s= -1 then f else s)=true) (hp:p≠ -1):eS F xs e f s p=(nO F f && nO F s && nO F p):=by unfold eS; rw [if_neg a,if_neg (by rw [h]; exact dv),decide_eq_false hp]; rfl
theorem Oh:nO F (-1)=true :=by unfold nO; rw [decide_eq_true rfl]; rfl
theorem tA {k:Nat} {r:cK} (a:F.rules[k]? =some r):nO F k=r.gp:=by
 unfold nO
 rw [decide_eq_false ab,jq,cR,a]; rfl
end
theorem SM (F:aC) (xs:List bj) (e:Int):lW F xs e 0=sc F xs e 0:=rfl
theorem H2 {α β:Type} {g:α→Option β} {l:List α} {i:Nat} (d:α) (h:i < l.length):(l.take<|i+1).filterMap g=(l.take i).filterMap g++(g<|l.getD i d).toList:=by
 rw [kX l i d h,Cr]
 congr 1
structure rA where
 ar:Option Addr
 cr:Nat
 rn:List Value
 ap:Option Addr
 cp:Nat
def ni (tb l:Nat) (K:rA) (F:aC) (e:Int) (word:Tx) (ps:List Nat):List Value:= [.pointer (some ⟨tb,0,none⟩),.slice K.ar F.rules.length K.cr,.int .i64 e,str word,.slice K.ap ps.length K.cp,.func (.yield l) #[] #[]]
structure iU (w:World) (fp:Nat→Prop) (S0 mb tb l:Nat) (K:rA) (F:aC) (e:Int) (word:Tx) (ps:List Nat):Prop where
 lo:S0≤mb
 cells:w.heap[mb]? =some (.cells (ni tb l K F e word ps).toArray 201 (0,0))
 nf:¬fp mb
 ru:bq w S0 134 7 (.slice K.ar F.rules.length K.cr) F.rules.length (fX<|F.rules.zip K.rn)
 rf:∀ k,(bE K.ar F.rules.length K.cr).ownBlock=some k→¬fp k
 rn:K.rn.length=F.rules.length
 pr:bq w S0 3 1 (.slice K.ap ps.length K.cp) ps.length (ps.map fA)
 pf:∀ k,(bE K.ap ps.length K.cp).ownBlock=some k→¬fp k
section
variable {w w':World} {fp fp':Nat→Prop} {S0 mb tb l:Nat} {K:rA} {F:aC} {e:Int} {word:Tx} {ps:List Nat}
theorem iU.gw (h:iU w fp S0 mb tb l K F e word ps) (a:Gw S0 fp w fp' w'):iU w' fp' S0 mb tb l K F e word ps:=
 ⟨h.lo,(a.aB h.cells h.lo h.nf).1,(a.aB h.cells h.lo h.nf).2,(a.own h.ru h.rf).1,(a.own h.ru h.rf).2,h.rn,(a.own h.pr h.pf).1,(a.own h.pr h.pf).2⟩
theorem iU.wk (h:iU w fp S0 mb tb l K F e word ps) (hm:Wk w w'):iU w' fp S0 mb tb l K F e word ps:=h.gw<|Gw.wk hm
theorem iU.ub (h:iU w fp S0 mb tb l K F e word ps) {G:Nat→Prop} (hm:Md G w w') {L:List Nat} (c:TF w L G) (a:(L.contains 203 || L.contains 136 || L.contains 5)=false):iU w' fp S0 mb tb l K F e word ps:=by
 simp only [o4] at a
 exact ⟨h.lo,hm.gT c h.cells a.1.1,h.nf,cX h.ru hm c a.1.2,h.rf,h.rn,cX h.pr hm c a.2,h.pf⟩
theorem iU.im (h:iU w fp S0 mb tb l K F e word ps) {k:Nat} {r:cK} (a:F.rules[k]? =some r):∃ u,(F.rules.zip K.rn)[k]? =some (r,u):=by
 have hk:=(eQ.1 a).1
 have c:k < K.rn.length:=by rw [h.rn]; exact hk
 exact ⟨K.rn[k],jg.2 ⟨a,bW c⟩⟩
end
theorem Hf {α:Type} {a b c:List α} (h:b <+:c):a++b <+:a++c:=by obtain ⟨t,rfl⟩:=h; exact ⟨t,by rw [dZ]⟩
theorem Oo {F:aC} {xs:List bj} {e:Nat} {word:Tx} {f s:Int} {p:Nat} (h:eS F xs e f s p=false):iK F xs e word f s p=none:=if_neg<|by rw [h]; exact dv
theorem On {F:aC} {xs:List bj} {e:Nat} {word:Tx} {f s:Int} {p:Nat} (h:dp (F.rules.getD p dd) word=none):iK F xs e word f s p=none:=by unfold iK; rw [h]; split <;> rfl
theorem Oq {F:aC} {xs:List bj} {e:Nat} {word v:Tx} {f s:Int} {p:Nat} (h:eS F xs e f s p=true) (h1:dp (F.rules.getD p dd) word=some v):iK F xs e word f s p=some ⟨v,e,f,s,p⟩:=by unfold iK; rw [if_pos h,h1]; rfl
theorem Ae (B tb:Nat) (U:ej) (F:aC) (xs:List bj) (ar:Option Addr) (cr:Nat) (rn:List Value) (word:Tx) (en:Nat) (f s pp:Int) (w:World) (a0:dT w B tb U F xs) (aF:dW F xs) (aS:aG w.heap ar (fX<|F.rules.zip rn)) (an:rn.length=F.rules.length) (ag:Rn F f) (hs:Rn F s) (hp:Rn F pp):
 bf ao 49 (ba [aU tb,.slice ar F.rules.length cr,.agg (cB ⟨word,en,f,s,pp⟩).toArray]) w (fun v w'=>v= .bool (eS F xs en f s pp)∧Wk w w'):=by
 refine enter func49 aa ntmps49 aa<|ak fun aO=>e<|iJ aa fun aP au a aA aQ=> ?_
 have a9:=aA.size
 have Y:=a0.wk aA.md
 have a:bD au.heap aP [str word,aj en,.int .i64 f,.int .i64 s,.int .i64 pp]:=aQ
 have q:Wk w au:=aA.md
 have I:=aS.wk aA.md
 refine ay<|aO<|az fun aK=>aB<|ak fun aL=>p (fa lP aa)<|p (ld bO aa<|a.bp 2)<|p (lt aa aa)<|p mv<|gs (t:=11) aa (fun aI=> ?_) fun aI=> ?_
 refine aY aa (fa nS aa)<|aY aa (ld bO aa<|a.bp 4)<|aY aa (lt aa aa)<|p (bR aa)<|ay<|aL<|cd aa (fun a7=> ?_) fun a7=> ?_
 refine ak fun ah=>p mv<|p (fa oJ aa)<|p (ld bO aa<|a.bp 1)<|e<|cl Dx (GC B tb U F xs (en:Nat) 0 au Y aF) aa fun bb bh aW=> ?_
 obtain ⟨rfl,aV⟩:=aW
 refine p (no aa)<|ay<|ah<|rt<|br<|tr<|bc aa ?_
 have c:eS F xs en f s pp= !lW F xs en 0:=by rw [QW (by unfold Rn at ag; omega) (by unfold Rn at hp; omega),SM]
 exact ⟨Eq.trans (b:=bU<|!lW F xs en 0) aa (congrArg bU c.symm),q.trans aV⟩
 refine ak fun ah=>p (fa lP aa)<|p (ld bO aa<|a.bp 2)<|p (lt aa aa)<|ay<|ah<|cd aa (fun a1=> ?_) fun h=>absurd aI h
 refine ak fun ai=>ay<|ai<|rt<|br<|tr<|bc aa ?_
 have c:eS F xs en f s pp=true :=by exact QX (by unfold Rn at ag; omega) ab
 exact ⟨Eq.trans (b:=bU<|true) aa (congrArg bU c.symm),q⟩
 refine aT aa<|aT aa<|aT aa<|p (bI aa)<|ay<|aL<|cf aa<|ak fun ah=>p (fa lP aa)<|p (ld bO aa<|a.bp 2)<|p (lt aa aa)<|ay<|ah<|cd aa (fun h=>absurd h aI) fun a1=> ?_
 refine az fun ai=>ak fun aM=>p (fa lQ aa)<|p (ld bO aa<|a.bp 3)<|p (lt aa aa)<|p mv<|gs (t:=29) aa (fun aJ=> ?_) fun aJ=> ?_
 refine aY aa mv<|aY aa (fa lP aa)<|aY aa (ld bO aa<|a.bp 2)<|eg aa aa aa<|cl DU (EC B tb U F xs f au Y aF) aa fun v33 bi aX=> ?_
 obtain ⟨rfl,av⟩:=aX
 have Y:=Y.wk av
 have a:=Wk.B av a
 have q:=q.trans av
 have I:=I.wk av
 refine aY aa (no aa)<|p (bR aa)<|ay<|aM<|cb aa (fun A=> ?_) fun A=> ?_
 refine aR<|ai<|ct (congrArg bU A)<|ak fun V=>ay<|V<|rt<|br<|tr<|bc aa ?_
 have c:eS F xs en f s pp=false :=by exact FL ab<|by rw [if_pos (show s= -1 by unfold Rn at hs; omega)]; simpa using A
 exact ⟨Eq.trans (b:=bU<|false) aa (congrArg bU c.symm),q⟩
 refine rg aa<|p (fa lQ aa)<|p (ld bO aa<|a.bp 3)<|p (ge aa aa)<|p mv<|gs (t:=39) aa (fun h=>absurd h ab) fun a3=>aT aa<|aT aa<|aT aa<|aT aa<|aT aa<|p (bI aa)<|p aE<|nl<|ai<|cf aa<|ak fun V=>p (fa nS aa)<|p (ld bO aa<|a.bp 4)<|p (lt aa aa)<|p aE ?_
 refine nl<|V<|cd aa (fun aH=> ?_) fun aH=> ?_
 refine ak fun G=>ay<|G<|rt<|br<|tr<|bc aa ?_
 have c:eS F xs en f s pp=true :=by exact FK ab (by rw [if_pos (show s= -1 by unfold Rn at hs; omega)]; simpa using A)<|by unfold Rn at hp; omega
 exact ⟨Eq.trans (b:=bU<|true) aa (congrArg bU c.symm),q⟩
 obtain ⟨E,rfl⟩:∃ m:Nat,pp=(m:Int):=⟨(pp).toNat,by unfold Rn at hp; omega⟩
 obtain ⟨ad,M⟩:∃ r,F.rules[E]? =some r:=⟨_,bW<|by unfold Rn at hp; omega⟩
 have aq:(F.rules.zip rn)[E]? =some (ad,rn[E]'(by rw [an]; exact (eQ.1 M).1)):=jg.2 ⟨M,bW _⟩
 have am:=tA M
 have a6:=(eQ.1 M).1
 obtain ⟨C,rfl⟩:∃ m:Nat,f=(m:Int):=⟨(f).toNat,by unfold Rn at ag; omega⟩
 obtain ⟨rf,J⟩:∃ r,F.rules[C]? =some r:=⟨_,bW<|by unfold Rn at ag; omega⟩
 have ap:(F.rules.zip rn)[C]? =some (rf,rn[C]'(by rw [an]; exact (eQ.1 J).1)):=jg.2 ⟨J,bW _⟩
 have al:=tA J
 have a5:=(eQ.1 J).1
 have ae:=I
 refine aR<|bn<|aK<|ak fun G=>p mv<|p (fa nS aa)<|p (ld bO aa<|a.bp 4)<|p (bd ky aa aa ab<|aG.ok (I)<|kV aq)<|p (fa tP aa)<|p (ld pC aa<|gr (f:=dC) (m:=7) (fun _=>rfl) ae aq 2 aw)<|p mv<|gb (t:=56) aa (fun ac=> ?_) fun ac=> ?_
 refine aY aa mv<|aY aa (fa lP aa)<|aY aa (ld bO aa<|a.bp 2)<|aY aa (bd ky aa aa ab<|aG.ok (I)<|kV ap)<|aY aa (fa tP aa)<|aY aa (ld pC aa<|gr (f:=dC) (m:=7) (fun _=>rfl) ae ap 2 aw)<|p (bR aa)<|p mv<|gb (t:=64) aa (fun Z=> ?_) fun Z=> ?_
 refine aY aa (fa lQ aa)<|aY aa (ld bO aa<|a.bp 3)<|aY aa (lt aa aa)<|aY aa mv<|gs (t:=68) aa (fun a4=> ?_) fun h=>absurd aJ h
 refine aT aa<|aT aa<|aT aa<|aT aa<|aT aa<|aT aa<|aY aa (bR aa)<|p (bR aa)<|ay<|G<|rt<|bc aa ?_
 have c:eS F xs en ((C:Nat):Int) s ((E:Nat):Int)=true :=by rw [r7 ab (by rw [if_pos (show s= -1 by unfold Rn at hs; omega)]; simpa using A) ab,al,am,show s= -1 by (unfold Rn at hs; omega),Oh,(show rf.gp=true from Z),(show ad.gp=true from ac)]; rfl
 exact ⟨Eq.trans (b:=bU<|true) aa (congrArg bU c.symm),q⟩
 refine aT aa<|aT aa<|aT aa<|aT aa<|fN aa<|fN aa<|fN aa<|fN aa<|fN aa<|fN aa<|aT aa<|p (bI aa)<|ay<|G<|rt<|bc aa ?_
 have c:eS F xs en ((C:Nat):Int) s ((E:Nat):Int)=false :=by rw [r7 ab (by rw [if_pos (show s= -1 by unfold Rn at hs; omega)]; simpa using A) ab,al,(show rf.gp=false from Z)]; rfl
 exact ⟨Eq.trans (b:=bU<|false) aa (congrArg bU c.symm),q⟩
 refine aT aa<|aT aa<|aT aa<|aT aa<|aT aa<|aT aa<|p (bI aa)<|p mv<|aT aa<|aT aa<|aT aa<|aT aa<|fN aa<|fN aa<|fN aa<|fN aa<|fN aa<|fN aa<|aT aa<|p (bI aa)<|ay<|G<|rt<|bc aa ?_
 have c:eS F xs en ((C:Nat):Int) s ((E:Nat):Int)=false :=by rw [r7 ab (by rw [if_pos (show s= -1 by unfold Rn at hs; omega)]; simpa using A) ab,am,(show ad.gp=false from ac),xY]
 exact ⟨Eq.trans (b:=bU<|false) aa (congrArg bU c.symm),q⟩
 refine aT aa<|aT aa<|aT aa<|aT aa<|aT aa<|p (bI aa)<|p aE<|nl<|aM<|cf aa<|rg aa<|p (fa lQ aa)<|p (ld bO aa<|a.bp 3)<|p (ge aa aa)<|p mv<|gs (t:=39) aa (fun a3=> ?_) fun h=>absurd ab h
 refine aY aa mv<|aY aa (fa lQ aa)<|aY aa (ld bO aa<|a.bp 3)<|eg aa aa aa<|cl DU (EC B tb U F xs s au Y aF) aa fun bg bk aZ=> ?_
 obtain ⟨rfl,ax⟩:=aZ
 have Y:=Y.wk ax
 have a:=Wk.B ax a
 have q:=q.trans ax
 have I:=I.wk ax
 refine aY aa (no aa)<|p (bR aa)<|ay<|ai<|cb aa (fun A=> ?_) fun A=> ?_
 refine ak fun V=>ay<|V<|rt<|br<|tr<|bc aa ?_
 have c:eS F xs en f s pp=false :=by exact FL ab<|by rw [if_neg (show ¬s= -1 by omega)]; simpa using A
 exact ⟨Eq.trans (b:=bU<|false) aa (congrArg bU c.symm),q⟩
 refine ak fun V=>p (fa nS aa)<|p (ld bO aa<|a.bp 4)<|p (lt aa aa)<|ay<|V<|cd aa (fun aH=> ?_) fun aH=> ?_
 refine ak fun G=>ay<|G<|rt<|br<|tr<|bc aa ?_
 have c:eS F xs en f s pp=true :=by exact FK ab (by rw [if_neg (show ¬s= -1 by omega)]; simpa using A)<|by unfold Rn at hp; omega
 exact ⟨Eq.trans (b:=bU<|true) aa (congrArg bU c.symm),q⟩
 obtain ⟨E,rfl⟩:∃ m:Nat,pp=(m:Int):=⟨(pp).toNat,by unfold Rn at hp; omega⟩
 obtain ⟨ad,M⟩:∃ r,F.rules[E]? =some r:=⟨_,bW<|by unfold Rn at hp; omega⟩
 have aq:(F.rules.zip rn)[E]? =some (ad,rn[E]'(by rw [an]; exact (eQ.1 M).1)):=jg.2 ⟨M,bW _⟩
 have am:=tA M
 have a6:=(eQ.1 M).1
 obtain ⟨C,rfl⟩:∃ m:Nat,f=(m:Int):=⟨(f).toNat,by unfold Rn at ag; omega⟩
 obtain ⟨rf,J⟩:∃ r,F.rules[C]? =some r:=⟨_,bW<|by unfold Rn at ag; omega⟩
 have ap:(F.rules.zip rn)[C]? =some (rf,rn[C]'(by rw [an]; exact (eQ.1 J).1)):=jg.2 ⟨J,bW _⟩
 have al:=tA J
 have a5:=(eQ.1 J).1
 obtain ⟨O,rfl⟩:∃ m:Nat,s=(m:Int):=⟨(s).toNat,by unfold Rn at hs; omega⟩
 obtain ⟨rs,aD⟩:∃ r,F.rules[O]? =some r:=⟨_,bW<|by unfold Rn at hs; omega⟩
 have aN:(F.rules.zip rn)[O]? =some (rs,rn[O]'(by rw [an]; exact (eQ.1 aD).1)):=jg.2 ⟨aD,bW _⟩
 have a2:=tA aD
 have a8:=(eQ.1 aD).1
 have ae:=I
 refine aR<|bn<|aK<|ak fun G=>p mv<|p (fa nS aa)<|p (ld bO aa<|a.bp 4)<|p (bd ky aa aa ab<|aG.ok (I)<|kV aq)<|p (fa tP aa)<|p (ld pC aa<|gr (f:=dC) (m:=7) (fun _=>rfl) ae aq 2 aw)<|p mv<|gb (t:=56) aa (fun ac=> ?_) fun ac=> ?_
 refine aY aa mv<|aY aa (fa lP aa)<|aY aa (ld bO aa<|a.bp 2)<|aY aa (bd ky aa aa ab<|aG.ok (I)<|kV ap)<|aY aa (fa tP aa)<|aY aa (ld pC aa<|gr (f:=dC) (m:=7) (fun _=>rfl) ae ap 2 aw)<|p (bR aa)<|p mv<|gb (t:=64) aa (fun Z=> ?_) fun Z=> ?_
 refine aY aa (fa lQ aa)<|aY aa (ld bO aa<|a.bp 3)<|aY aa (lt aa aa)<|aY aa mv<|gs (t:=68) aa (fun h=>absurd h aJ) fun a4=>aY aa mv<|aY aa (fa lQ aa)<|aY aa (ld bO aa<|a.bp 3)<|aY aa (bd ky aa aa ab<|aG.ok (I)<|kV aN)<|aY aa (fa tP aa)<|aY aa (ld pC aa<|gr (f:=dC) (m:=7) (fun _=>rfl) ae aN 2 aw)<|aY aa (bI aa)<|p (bR aa)<|ay<|G<|rt<|bc aa ?_
 have c:eS F xs en ((C:Nat):Int) ((O:Nat):Int) ((E:Nat):Int)=rs.gp:=by rw [r7 ab (by rw [if_neg (show ¬((O:Nat):Int)= -1 by omega)]; simpa using A) ab,al,a2,am,(show rf.gp=true from Z),(show ad.gp=true from ac),Bool.true_and,Bool.and_true]
 exact ⟨Eq.trans (b:=bU<|rs.gp) aa (congrArg bU c.symm),q⟩
 refine aT aa<|aT aa<|aT aa<|aT aa<|fN aa<|fN aa<|fN aa<|fN aa<|fN aa<|fN aa<|aT aa<|p (bI aa)<|ay<|G<|rt<|bc aa ?_
 have c:eS F xs en ((C:Nat):Int) ((O:Nat):Int) ((E:Nat):Int)=false :=by rw [r7 ab (by rw [if_neg (show ¬((O:Nat):Int)= -1 by omega)]; simpa using A) ab,al,(show rf.gp=false from Z)]; rfl
 exact ⟨Eq.trans (b:=bU<|false) aa (congrArg bU c.symm),q⟩
 refine aT aa<|aT aa<|aT aa<|aT aa<|aT aa<|aT aa<|p (bI aa)<|p mv<|aT aa<|aT aa<|aT aa<|aT aa<|fN aa<|fN aa<|fN aa<|fN aa<|fN aa<|fN aa<|aT aa<|p (bI aa)<|ay<|G<|rt<|bc aa ?_
 have c:eS F xs en ((C:Nat):Int) ((O:Nat):Int) ((E:Nat):Int)=false :=by rw [r7 ab (by rw [if_neg (show ¬((O:Nat):Int)= -1 by omega)]; simpa using A) ab,am,(show ad.gp=false from ac),xY]
 exact ⟨Eq.trans (b:=bU<|false) aa (congrArg bU c.symm),q⟩
end Go.Hb
end
section
namespace Go.Hb
open Go.Hb.iD Go.Hb.iT Go.Hb.jL
theorem il {F:aC} {xs:List bj} (h:dW F xs) {k:Nat} {r:cK} (a:F.rules[k]? =some r):r.strip.length≤1048576∧r.add.length≤1048576∧r.cond.length≤1048576∧r.add.length≤32:=by
 have :=(h.im a).2.2; unfold pA at this; omega
theorem Qu {α β:Type} {g:α→Option β} (l:List α) (i:Nat):(l.take i).filterMap g <+:l.filterMap g:=by
 conv =>rhs; rw [← vb i l,Cr]
 exact u6 _ _
theorem M7 {F:aC} {xs:List bj} {e:Nat} {word:Tx} {f s:Int} {pre tl a:List bu} {x:bu} (h:a=pre++(eR F xs e word f s++tl)) (c:kt F xs e word f s= [x]):
 a=pre++x::((aK F (flagsOf xs e) 1).filterMap (iK F xs e word f s)++tl):=by
 rw [h]; unfold eR; rw [c,dZ]; rfl
theorem M6 {F:aC} {xs:List bj} {e:Nat} {word:Tx} {f s:Int} {pre tl a:List bu} {i:Nat} {x:bu} (h:a=pre++(eR F xs e word f s++tl)) (hi:i < (aK F (flagsOf xs e) 1).length) (c:iK F xs e word f s ((aK F (flagsOf xs e) 1).getD i 0)=some x):
 a=(pre++(kt F xs e word f s++((aK F (flagsOf xs e) 1).take i).filterMap (iK F xs e word f s)))++x::(((aK F (flagsOf xs e) 1).drop<|i+1).filterMap (iK F xs e word f s)++tl):=by
 have h2:(aK F (flagsOf xs e) 1).filterMap (iK F xs e word f s)=((aK F (flagsOf xs e) 1).take i).filterMap (iK F xs e word f s)++x::((aK F (flagsOf xs e) 1).drop<|i+1).filterMap (iK F xs e word f s):=by
  conv =>lhs; rw [← vb (i+1) (aK F (flagsOf xs e) 1),Cr,H2 0 hi,c]
  rw [dZ]; rfl
 unfold eR at h
 rw [h,h2]
 simp only [dZ,List.cons_append]
theorem zT {α β:Type} {g:α→List β} {l:List α} {i:Nat} (d:α) (h:i < l.length):(l.take<|i+1).flatMap g=(l.take i).flatMap g++g (l.getD i d):=by
 rw [kX l i d h,qi,ri]
theorem E9 {α β:Type} {g:α→List β} {l:List α} {i:Nat} (d:α) (h:i < l.length):l.flatMap g=(l.take i).flatMap g++(g (l.getD i d)++(l.drop<|i+1).flatMap g):=by
 conv =>lhs; rw [← vb (i+1) l,qi,zT d h]
 rw [dZ]
theorem A6 {α:Type} {C q s D R:List α} (a:R=C++(s++D)) (c:q <+:s):C++q <+:R:=by rw [a]; exact Hf<|c.trans<|u6 _ _
theorem zh (B tb:Nat) (U:ej) (F:aC) (xs:List bj) (ae:dW F xs) (J S0 mb:Nat) (bE:List bu) (an:Bool→List bu→(Nat→Prop)→World→Prop) (G:Yc ao J S0 pJ bE (fun W=>dT W B tb U F xs) an) (K:rA) (bG:Int) (M:Tx) (ps:List Nat) (pre:List bu) (fp:Nat→Prop) (en:Nat) (word:Tx) (f s:Int) (w:World) (aQ:iU w fp S0 mb tb J K F bG M ps) (bX:an true pre fp w) (c2:bG=(en:Int)) (c6:ps=aK F (flagsOf xs en) 1) (cc:Rn F f) (hs:Rn F s) (dt:word.length≤1000) (tl:List bu) (ch:bE=pre++(eR F xs en word f s++tl)):
 bf ao 147 (ba [aU mb,str word,.int .i64 f,.int .i64 s]) w (fun v w'=> ∃ b q fp',v= .bool b∧an b (pre++q) fp' w'∧Gw S0 fp w fp' w'∧q <+:eR F xs en word f s∧(b=true→q=eR F xs en word f s)):=by
 have c3:=G.lt _ _ _ _ bX
 have dr:=si F (flagsOf xs (en:Int)) 1
 have ds:=ae.len
 subst c2
 subst c6
 refine enter func147 aa ntmps147 aa<|ak fun co=>ay<|co<|ak fun cx=>p mv<|p mv<|p (nc aa)<|p (fa z7 aa)<|p (ld bO aa<|(a7 aQ.cells).trans aa)<|p mv<|p mv<|p (di (ps:= [(0,str word),(1,aj en),(2,.int .i64 f),(3,.int .i64 s),(4,.int .i64 (-1))]) (L:= [str word,aj en,.int .i64 f,.int .i64 s,.int .i64 (-1)]) xz aa<|aa)<|e<|gn p6 fun a dx dq b7 cK=> ?_
 have du:=b7.size
 refine e<|fY pI aa aa aa aa cK aw fun aW cP cH=> ?_
 have aY:Wk w aW:=b7.md.trans' cP fun q ci h=>by omega
 have c0:aW.heap[a]? =some (.cells (cB ⟨word,en,f,s,-1⟩).toArray 49 (0,0)):=cH
 have bZ:=G.wk bX<|aY.trans (Md.refl _ _).drew
 have aS:=aQ.wk<|aY.trans (Md.refl _ _).drew
 have ce:¬fp a:=fun h=>by have :=c3 a h; omega
 have aV:S0≤a:=by have :=aQ.lo; have :=(bY.1 aQ.cells).1; omega
 refine nl<|cx<|az fun cy=> ?_
 refine e6 (fun aI aF=> ∃ (av:Bool) (Y:Nat→Prop),(an (!av) (pre++kt F xs en word f s) Y aF)∧(iU aF Y S0 mb tb J K F (en:Int) M<|aK F (flagsOf xs en) 1)∧(aF.heap[a]? =some (.cells (cB ⟨word,en,f,s,-1⟩).toArray 49 (0,0)))∧(¬Y a)∧(Gw S0 fp w Y aF)∧(aI 0=aU mb)∧(aI 1=str word)∧(aI 9=aU a)∧(aI 40= .bool av)) ?_ ?_
 have I:(fun w'=>w'.heap[mb]? =some (.cells (ni tb J K F (en:Int) M<|aK F (flagsOf xs en) 1).toArray 201 (0,0))∧w'.heap[a]? =some (.cells (cB ⟨word,en,f,s,-1⟩).toArray 49 (0,0))) aW.drew:=⟨aS.cells,c0⟩
 refine IK (fun w'=>w'.heap[mb]? =some (.cells (ni tb J K F (en:Int) M<|aK F (flagsOf xs en) 1).toArray 201 (0,0))∧w'.heap[a]? =some (.cells (cB ⟨word,en,f,s,-1⟩).toArray 49 (0,0))) aa wide I ?_
 refine yp 0 aa ag (fun _ _=>mv) I ?_
 refine yp 1 aa ag (fun _ _=>nc aa) I ?_
 refine yp 2 aa ag (fun _ _=>fa r5 aa) I ?_
 refine yp 3 aa ag (fun w' c=>ld lH aa<|(a7 c.1).trans aa) I ?_
 refine yp 4 aa ag (fun _ _=>mv) I ?_
 refine yp 5 aa ag (fun _ _=>nc aa) I ?_
 refine yp 6 aa ag (fun _ _=>fa tV aa) I ?_
 refine yp 7 aa ag (fun w' c=>ld jM aa<|(a7 c.1).trans aa) I ?_
 refine yp 8 aa ag (fun w' c=>cg hZ aa (aa) fun j bA=>(lJ c.2).bp j) I ?_
 refine ye 9 aa ag<|cl zc (Ae B tb U F xs K.ar K.cr K.rn word en f s (-1) aW.drew (G.cap _ _ _ _ bZ) ae (a6 aS.ru).2 aS.rn cc hs<|.inl aa) aa fun v31 bC cS=> ?_
 obtain ⟨rfl,aL⟩:=cS
 have b1:=G.wk bZ aL
 have a3:=aS.wk aL
 have bN:Gw S0 fp w fp bC:=Gw.wk<|(aY.trans (Md.refl _ _).drew).trans aL
 have A:(fun w'=>w'.heap[mb]? =some (.cells (ni tb J K F (en:Int) M<|aK F (flagsOf xs en) 1).toArray 201 (0,0))∧w'.heap[a]? =some (.cells (cB ⟨word,en,f,s,-1⟩).toArray 49 (0,0))) bC:=⟨a3.cells,Wk.aB aL I.2⟩
 refine ⟨A,?_⟩
 refine yp 10 aa ag (fun _ _=>mv) A ?_
 refine II (t:=32) aa (fun bx=> ?_) fun bx=> ?_
 have aT:kt F xs en word f s= [⟨word,en,f,s,-1⟩]:=if_pos bx
 refine mG 11 aa ag aa aa aa (fun _ _=>mv) A ?_
 refine mG 12 aa ag aa aa aa (fun _ _=>nc aa) A ?_
 refine mG 13 aa ag aa aa aa (fun _ _=>fa Ft aa) A ?_
 refine mG 14 aa ag aa aa aa (fun w' c=>ld CK aa<|(a7 c.1).trans aa) A ?_
 refine mG 15 aa ag aa aa aa (fun w' c=>cg hZ aa (aa) fun j bA=>(lJ c.2).bp j) A ?_
 refine IL 16 aa ag aa aa aa aa aa (G.yl pre ⟨word,en,f,s,-1⟩ _ fp bC (M7 ch aT) b1) fun cF dk cT=> ?_
 obtain ⟨cG,cN,aZ⟩:=cT
 have b5:=a3.gw aZ
 have bs:=aZ.aB A.2 aV ce
 have bb:(fun w'=>w'.heap[mb]? =some (.cells (ni tb J K F (en:Int) M<|aK F (flagsOf xs en) 1).toArray 201 (0,0))∧w'.heap[a]? =some (.cells (cB ⟨word,en,f,s,-1⟩).toArray 49 (0,0))) dk:=⟨b5.cells,bs.1⟩
 refine ⟨bb,?_⟩
 refine mG 17 aa ag aa aa aa (fun _ _=>no aa) bb ?_
 refine yp 18 aa ag (fun _ _=>bR aa) bb ?_
 refine yn ag ?_
 exact tn<|⟨(!cF),cG,(by rw [Bool.not_not,aT]; exact cN),b5,bs.1,bs.2,(bN.trans aZ),aa,aa,aa,aa⟩
 have aT:kt F xs en word f s= []:=if_neg<|by rw [bx]; exact dv
 refine lA 11 aa ag aa aa aa aa A ?_
 refine lA 12 aa ag aa aa aa aa A ?_
 refine lA 13 aa ag aa aa aa aa A ?_
 refine lA 14 aa ag aa aa aa aa A ?_
 refine lA 15 aa ag aa aa aa aa A ?_
 refine lA 16 aa ag aa aa aa aa A ?_
 refine lA 17 aa ag aa aa aa aa A ?_
 refine yp 18 aa ag (fun _ _=>bI aa) A ?_
 refine yn ag ?_
 exact tn<|⟨false,fp,(by rw [aT,ep]; exact b1),a3,A.2,ce,bN,aa,aa,aa,aa⟩
 rintro aI aF ⟨av,Y,aP,b4,c1,c4,bM,c7,c8,da,c9⟩
 refine fx 0 c7<|fx 1 c8<|fx 9 da<|fx 40 c9<|cb aa (fun bl=> ?_) fun bl=> ?_
 refine ak fun aX=>ay<|aX<|rt<|tr<|bc aa ?_
 have bi:av=true :=bl
 rw [bi] at aP
 exact ⟨false,_,Y,aa,aP,bM,(by unfold eR; exact u6 _ _),fun h=>by cases h⟩
 refine aR<|cy<|az fun aX=>ak fun cz=>au (aU mb)<|p (nc aa)<|p (fa Fs aa)<|p (ld vt aa<|(a7 b4.cells).trans aa)<|p (bP oQ aa aa)<|p mv<|nl<|cz<|aB<|lp (fun bJ ac am=> ∃ (i:Nat) (O:Nat→Prop) (aD:Tx) (pp:Int),(i≤(aK F (flagsOf xs en) 1).length)∧(an true (pre++(kt F xs en word f s++((aK F (flagsOf xs en) 1).take i).filterMap (iK F xs en word f s))) O am)∧(iU am O S0 mb tb J K F (en:Int) M<|aK F (flagsOf xs en) 1)∧(am.heap[a]? =some (.cells (cB ⟨aD,en,f,s,pp⟩).toArray 49 (0,0)))∧(¬O a)∧(Gw S0 fp w O am)∧(ac 0=aU mb)∧(ac 1=str word)∧(ac 9=aU a)∧(ac 44= .slice K.ap (aK F (flagsOf xs en) 1).length K.cp)∧(ac 45=aj ((aK F (flagsOf xs en) 1).length))∧(ac 46=aj i)∧((aK F (flagsOf xs en) 1).length - i=bJ)) _ ⟨0,Y,word,-1,ab,((by have bi:av=false :=bl; rw [bi] at aP; simpa using aP)),b4,c1,c4,bM,aa,aa,aa,aa,aa,aa,aa⟩ ?_
 rintro bJ ac am ⟨i,O,aD,pp,hi,a1,a5,bw,aA,bV,dc,de,dj,df,dg,dh,rfl⟩
 refine fx 0 dc<|fx 1 de<|fx 9 dj<|fx 44 df<|fx 45 dg<|fx 46 dh<|ak fun cA=>p (lt aa aa)<|nl<|cA<|az fun cD=>cd aa (fun cZ=> ?_) fun cZ=> ?_
 refine aR<|cD<|az fun aq=>aB<|ak fun cE=>p (bd oH aa aa ab<|aG.ok ((a6 a5.pr).2)<|db ab)<|p (ld bO aa<|aG.jk (i:=i) (a6 a5.pr).2<|r6 ab)<|ay<|cE<|ak fun cq=>p mv<|p (fa nS aa)<|e<|dy jN aa aa (v:= .int .i64 (((aK F (flagsOf xs en) 1).getD i 0:Nat):Int)) aa bw (by show 4 < 5; omega) fun al a4 cJ=> ?_
 have b9:al.heap[a]? =some (.cells (cB ⟨aD,en,f,s,((aK F (flagsOf xs en) 1).getD i 0:Nat)⟩).toArray 49 (0,0)):=cJ
 have cY:TF am [51] (fun q=>q=a):=TF.eq (dD bw) aw
 have b2:=G.um a1 bw aV aA a4
 have ax:=a5.ub a4 cY aw
 have cL:=Gw.GF bV a4 fun k hk=>by subst hk; omega
 have c5:=my.1<|eZ (d:=0) (show i < (aK F (flagsOf xs en) 1).length by omega)
 obtain ⟨r,Z⟩:∃ r,F.rules[(aK F (flagsOf xs en) 1).getD i 0]? =some r:=⟨_,bW c5.1⟩
 have cj:F.rules.getD ((aK F (flagsOf xs en) 1).getD i 0) dd=r:=by rw [cR,Z]; rfl
 have ai:=H2 (g:=iK F xs en word f s) 0 (show i < (aK F (flagsOf xs en) 1).length by omega)
 refine nl<|cq<|az fun cs=>az fun ct=> ?_
 have E:(fun w'=>Wk al w') al.drew:=(Md.refl _ _).drew
 refine bT (fun w'=>Wk al w') aa wide E<|bQ 0 aa (aU mb) E<|aH 1 aa (fun _ _=>nc aa) E<|aH 2 aa (fun _ _=>fa r5 aa) E<|aH 3 aa (fun w' c=>ld lH aa<|Wk.aM c<|(a7 ax.cells).trans aa) E<|bQ 4 aa (aU mb) E<|aH 5 aa (fun _ _=>nc aa) E<|aH 6 aa (fun _ _=>fa tV aa) E<|aH 7 aa (fun w' c=>ld jM aa<|Wk.aM c<|(a7 ax.cells).trans aa) E<|aH 8 aa (fun w' c=>cg hZ aa (aa) fun j bA=>(Md.B c (lJ b9) fun h=>h).bp j) E<|he 9 aa ag<|cl zc (Ae B tb U F xs K.ar K.cr K.rn aD en f s ((aK F (flagsOf xs en) 1).getD i 0:Nat) al.drew (G.cap _ _ _ _<|G.wk b2 E) ae ((a6 ax.ru).2.wk E) ax.rn cc hs<|.inr ab) aa fun dw cn cU=> ?_
 obtain ⟨rfl,bK⟩:=cU
 have aO:=E.trans bK
 have b3:=G.wk b2 aO
 have V:=ax.wk aO
 have ca:=Wk.aB aO b9
 have bU:=cL.trans<|Gw.wk aO
 have b8:(fun w'=>Wk al w') cn:=E.trans bK
 refine ⟨b8,?_⟩
 refine aH 10 aa (fun _ _=>no aa) b8<|hn ag<|ct<|cb aa (fun bm=> ?_) fun bm=> ?_
 have bz:eS F xs en f s ((aK F (flagsOf xs en) 1).getD i 0:Nat)=false :=by simpa using bm
 have bT:=Oo (word:=word) bz
 rw [bT] at ai
 exact ext<|bh<|be<|aq<|rg aa<|p (ad aa aa<|cC ab)<|p mv<|nl<|tn<|⟨_,ab,i+1,O,aD,_,ab,(by rw [ai]; simpa using b3),V,ca,aA,bU,aa,aa,aa,aa,aa,aa,aa⟩
 have bz:eS F xs en f s ((aK F (flagsOf xs en) 1).getD i 0:Nat)=true :=by simpa using bm
 refine aR<|cs<|ak fun cu=>au (aU mb)<|p (nc aa)<|p (fa tV aa)<|p (ld jM aa<|(a7 V.cells).trans aa)<|p mv<|p (bd ky aa aa ab<|aG.ok ((a6 V.ru).2)<|kV (V.im Z).choose_spec)<|p (cg ju aa (aa)<|gr (f:=dC) (m:=7) (fun _=>rfl) (a6 V.ru).2 (V.im Z).choose_spec)<|au (str word)<|e<|cl vI (vy r (V.im Z).choose word cn (il ae Z).1 (il ae Z).2.1 (il ae Z).2.2.1 ab) aa fun v72 dl cV=> ?_
 obtain ⟨rfl,aN⟩:=cV
 have cO:=G.wk b3 aN
 have cQ:=V.wk aN
 have bv:=Wk.aB aN ca
 have cM:=bU.trans<|Gw.wk aN
 refine p mv<|p (xt aa aa)<|p (xt aa aa)<|p aE<|ay<|cu<|az fun cv=>rg aa<|p mv<|p (fa wv aa)<|e<|dy oG aa aa (v:=str<|(dp r word).getD []) aa bv (by show 0 < 5; omega) fun bB a2 cI=> ?_
 have bq:bB.heap[a]? =some (.cells (cB ⟨((dp r word).getD []),en,f,s,((aK F (flagsOf xs en) 1).getD i 0:Nat)⟩).toArray 49 (0,0)):=cI
 have cX:TF dl [51] (fun q=>q=a):=TF.eq (dD bv) aw
 have b0:=G.wk (G.um cO bv aV aA a2) (Md.refl _ _).drew
 have a8:=(cQ.ub a2 cX aw).wk (Md.refl _ _).drew
 have bL:=(Gw.GF cM a2 fun k hk=>by subst hk; omega).trans<|Gw.wk (Md.refl _ _).drew
 refine nl<|cv<|az fun bD=> ?_
 have C:(fun w'=>w'.heap[mb]? =some (.cells (ni tb J K F (en:Int) M<|aK F (flagsOf xs en) 1).toArray 201 (0,0))∧w'.heap[a]? =some (.cells (cB ⟨((dp r word).getD []),en,f,s,((aK F (flagsOf xs en) 1).getD i 0:Nat)⟩).toArray 49 (0,0))) bB.drew:=⟨a8.cells,bq⟩
 refine IK (fun w'=>w'.heap[mb]? =some (.cells (ni tb J K F (en:Int) M<|aK F (flagsOf xs en) 1).toArray 201 (0,0))∧w'.heap[a]? =some (.cells (cB ⟨((dp r word).getD []),en,f,s,((aK F (flagsOf xs en) 1).getD i 0:Nat)⟩).toArray 49 (0,0))) aa wide C ?_
 refine yp 0 aa ag (fun _ _=>mv) C ?_
 refine yp 1 aa ag (fun _ _=>mv) C ?_
 refine II (t:=78) aa (fun bg=> ?_) fun bg=> ?_
 obtain ⟨v,ck⟩:∃ v,dp r word=some v:=l9.1 bg
 have bT:=Oq (word:=word) bz<|by rw [cj]; exact ck
 rw [bT] at ai
 have cm:(dp r word).getD []=v:=by rw [ck]; rfl
 refine mG 2 aa ag aa aa aa (fun _ _=>aJ (aU mb) aa) C ?_
 refine mG 3 aa ag aa aa aa (fun _ _=>nc aa) C ?_
 refine mG 4 aa ag aa aa aa (fun _ _=>fa Ft aa) C ?_
 refine mG 5 aa ag aa aa aa (fun w' c=>ld CK aa<|(a7 c.1).trans aa) C ?_
 refine mG 6 aa ag aa aa aa (fun w' c=>cg hZ aa (aa) fun j bA=>(lJ c.2).bp j) C ?_
 refine IL 7 aa ag aa aa aa aa aa (G.yl (pre++(kt F xs en word f s++((aK F (flagsOf xs en) 1).take i).filterMap (iK F xs en word f s))) ⟨(dp r word).getD [],en,f,s,((aK F (flagsOf xs en) 1).getD i 0:Nat)⟩ _ O bB.drew (M6 ch ab<|by rw [bT,cm]) b0) fun bF dn cW=> ?_
 obtain ⟨bH,ah,a0⟩:=cW
 have b6:=a8.gw a0
 have bt:=a0.aB bq aV aA
 have bS:=bL.trans a0
 rw [cm] at ah
 have ci:(kt F xs en word f s++((aK F (flagsOf xs en) 1).take i).filterMap (iK F xs en word f s))++ [⟨v,en,f,s,((aK F (flagsOf xs en) 1).getD i 0:Nat)⟩]=kt F xs en word f s++((aK F (flagsOf xs en) 1).take<|i+1).filterMap (iK F xs en word f s):=by rw [ai,dZ]; rfl
 rw [dZ pre,ci] at ah
 have a9:(fun w'=>w'.heap[mb]? =some (.cells (ni tb J K F (en:Int) M<|aK F (flagsOf xs en) 1).toArray 201 (0,0))∧w'.heap[a]? =some (.cells (cB ⟨((dp r word).getD []),en,f,s,((aK F (flagsOf xs en) 1).getD i 0:Nat)⟩).toArray 49 (0,0))) dn:=⟨b6.cells,bt.1⟩
 refine ⟨a9,?_⟩
 refine mG 8 aa ag aa aa aa (fun _ _=>no aa) a9 ?_
 refine yp 9 aa ag (fun _ _=>bR aa) a9 ?_
 refine yn ag ?_
 refine bD<|cb aa (fun bo=> ?_) fun bo=> ?_
 refine ak fun cw=>ay<|cw<|rt<|br<|tr<|tr<|br<|tr<|bc aa ?_
 have bk:bF=false :=by simpa using bo
 rw [bk] at ah
 exact ⟨false,_,bH,aa,ah,bS,(by unfold eR; exact Hf<|Qu _ _),fun h=>by cases h⟩
 exact aR<|bn<|aq<|rg aa<|p (ad aa aa<|cC ab)<|p mv<|nl<|tn<|⟨_,ab,i+1,bH,_,_,ab,((by have bk:bF=true :=(by simpa using bo); rw [bk] at ah; exact ah)),b6,bt.1,bt.2,bS,aa,aa,aa,aa,aa,aa,aa⟩
 have bT:=On (xs:=xs) (e:=en) (f:=f) (s:=s) (word:=word) (p:=(aK F (flagsOf xs en) 1).getD i 0)<|by rw [cj]; simpa using bg
 rw [bT] at ai
 refine lA 2 aa ag aa aa aa aa C ?_
 refine lA 3 aa ag aa aa aa aa C ?_
 refine lA 4 aa ag aa aa aa aa C ?_
 refine lA 5 aa ag aa aa aa aa C ?_
 refine lA 6 aa ag aa aa aa aa C ?_
 refine lA 7 aa ag aa aa aa aa C ?_
 refine lA 8 aa ag aa aa aa aa C ?_
 refine yp 9 aa ag (fun _ _=>bI aa) C ?_
 refine yn ag ?_
 refine bD<|cf aa<|aR<|bn<|aq<|rg aa<|p (ad aa aa<|cC ab)<|p mv ?_
 exact nl<|tn<|⟨_,ab,i+1,O,_,_,ab,(by rw [ai]; simpa using b0),a8,bq,aA,bL,aa,aa,aa,aa,aa,aa,aa⟩
 refine ext<|bh<|bh<|be<|aX<|ak fun aq=>p aE<|nl<|aq<|rt<|bc aa ?_
 rw [e9 ab] at a1
 exact ⟨true,_,O,aa,a1,bV,CA _,fun _=>rfl⟩
set_option maxHeartbeats 4000000 in
theorem UY (B tb:Nat) (U:ej) (F:aC) (xs:List bj) (a:dW F xs) (ai S0 mb:Nat) (an:List bu) (M:Bool→List bu→(Nat→Prop)→World→Prop) (C:Yc ao ai S0 pJ an (fun W=>dT W B tb U F xs) M) (K:rA) (pre:List bu) (fp:Nat→Prop) (en:Nat) (x:bj) (w:World) (aA:iU w fp S0 mb tb ai K F (en:Int) x.1 (aK F (flagsOf xs en) 1)) (cZ:M true pre fp w) (cz:xs[en]? =some x) (tl:List bu) (cq:an=pre++(gW F xs en++tl)):
 bf ao 92 (ba [aU mb]) w (fun v w'=> ∃ b q fp',v= .bool b∧M b (pre++q) fp' w'∧Gw S0 fp w fp' w'∧q <+:gW F xs en∧(b=true→q=gW F xs en)):=by
 obtain ⟨dL,dM,dN,a5⟩:=rI cz
 have a0:gW F xs en=eR F xs en x.1 (-1) (-1)++(aK F (flagsOf xs en) 2).flatMap (gB F xs en):=by unfold gW; rw [a5]
 have dV:=(a.tH x<|fz cz).1
 have dR:=a.len
 have dO:S0≤w.heap.size:=by have :=aA.lo; have :=(bY.1 aA.cells).1; omega
 have dP:=si F (flagsOf xs (en:Int)) 2
 refine enter func92 aa ntmps92 aa<|ak fun cB=>ay<|cB<|az fun cM=>ak fun cP=>au (aU mb)<|au (aU mb)<|p (nc aa)<|p (fa z8 aa)<|p (ld cH aa<|(a7 aA.cells).trans aa)<|e<|cl yT (zh B tb U F xs a ai S0 mb an M C K (en:Int) x.1 _ pre fp en x.1 (-1) (-1) w aA cZ aa aa (.inl aa) (.inl aa) ab ((aK F (flagsOf xs en) 2).flatMap (gB F xs en)++tl)<|by rw [cq,a0,dZ]) aa fun d1 aI c5=> ?_
 obtain ⟨bS,dH,a9,rfl,aX,aV,dn,dq⟩:=c5
 have bo:=aA.gw aV
 refine p (no aa)<|nl<|cP<|cb aa (fun bv=> ?_) fun bv=> ?_
 obtain rfl :bS=false :=by simpa using bv
 exact ak fun a4=>ay<|a4<|rt<|tr<|bc aa<|⟨false,dH,a9,aa,aX,aV,(by rw [a0]; exact dn.trans<|u6 _ _),fun h=>by cases h⟩
 obtain rfl :bS=true :=by simpa using bv
 obtain rfl :=dq rfl
 refine aR<|cM<|az fun a4=>az fun cQ=> ?_
 have c:(fun w'=>Wk aI w') aI.drew:=(Md.refl _ _).drew
 refine bT (fun w'=>Wk aI w') aa wide c<|bQ 0 aa (aU mb) c<|aH 1 aa (fun _ _=>nc aa) c<|aH 2 aa (fun _ _=>fa r5 aa) c<|aH 3 aa (fun w' J=>ld lH aa<|Wk.aM J<|(a7 bo.cells).trans aa) c<|bQ 4 aa (aU mb) c<|aH 5 aa (fun _ _=>nc aa) c<|aH 6 aa (fun _ _=>fa z7 aa) c<|aH 7 aa (fun w' J=>ld bO aa<|Wk.aM J<|(a7 bo.cells).trans aa) c<|aH 10 aa (fun _ _=>mv) c<|he 8 aa ag<|cl DL (HV B tb U F xs (en:Int) aI.drew (C.cap _ _ _ _<|C.wk aX c) a) aa fun v26 dI c6=> ?_
 obtain ⟨bC,bZ⟩:=c6
 obtain ⟨ae,ah,rfl⟩:=cT bC
 have bg:=c.trans bZ
 have c1:=C.wk aX bg
 have c4:=bo.wk bg
 have cY:=aV.trans<|Gw.wk bg
 have dX:=c.size
 have dg:∀ q,(bE ae (aK F (flagsOf xs en) 2).length ah).ownBlock=some q→¬a9 q:=fun q bJ h=>by have h1:=(cV bC bJ).1; have h2:=C.lt _ _ _ _ aX q h; omega
 have dk:=e5 bC (show S0≤_ by have :=aV.size; omega)
 have b9:(fun w'=>Wk aI w') dI:=c.trans bZ
 refine ⟨b9,?_⟩
 refine aH 9 aa (fun _ _=>bP oQ aa aa) b9<|hn ag<|cQ<|aB<|lp (fun av aL E=> ∃ (i:Nat) (O:Nat→Prop),(i≤(aK F (flagsOf xs en) 2).length)∧(M true (pre++(eR F xs en x.1 (-1) (-1)++((aK F (flagsOf xs en) 2).take i).flatMap (gB F xs en))) O E)∧(iU E O S0 mb tb ai K F (en:Int) x.1<|aK F (flagsOf xs en) 1)∧(bq E S0 3 1 (.slice ae (aK F (flagsOf xs en) 2).length ah) (aK F (flagsOf xs en) 2).length<|(aK F (flagsOf xs en) 2).map fA)∧(∀ q,(bE ae (aK F (flagsOf xs en) 2).length ah).ownBlock=some q→¬O q)∧(Gw S0 fp w O E)∧(aL 0=aU mb)∧(aL 26= .slice ae (aK F (flagsOf xs en) 2).length ah)∧(aL 27=aj ((aK F (flagsOf xs en) 2).length))∧(aL 28=aj i)∧((aK F (flagsOf xs en) 2).length - i=av)) _ ⟨0,a9,ab,(by simpa using c1),c4,dk,dg,cY,aa,aa,aa,aa,aa⟩ ?_
 rintro av aL E ⟨i,O,hi,bl,V,bF,ce,b4,dr,ds,dt,du,rfl⟩
 refine fx 0 dr<|fx 26 ds<|fx 27 dt<|fx 28 du<|ak fun cS=>p (lt aa aa)<|nl<|cS<|az fun cU=>cd aa (fun de=> ?_) fun de=> ?_
 refine aR<|cU<|az fun aN=>aB<|ak fun cW=>p (bd oH aa aa ab<|aG.ok ((a6 bF).2)<|db ab)<|p (ld bO aa<|aG.jk (i:=i) (a6 bF).2<|r6 ab)<|ay<|cW<|az fun cD=> ?_
 have dF:=my.1<|eZ (d:=0) (show i < (aK F (flagsOf xs en) 2).length by omega)
 obtain ⟨r,Z⟩:∃ r,F.rules[((aK F (flagsOf xs en) 2).getD i 0)]? =some r:=⟨_,bW dF.1⟩
 have cw:F.rules.getD ((aK F (flagsOf xs en) 2).getD i 0) dd=r:=by rw [cR,Z]; rfl
 have bK:=zT (g:=gB F xs en) 0 (show i < (aK F (flagsOf xs en) 2).length by omega)
 have A:(fun w'=>Wk E w') E.drew:=(Md.refl _ _).drew
 refine bT (fun w'=>Wk E w') aa wide A<|bQ 0 aa (aU mb) A<|aH 1 aa (fun _ _=>nc aa) A<|aH 2 aa (fun _ _=>fa tV aa) A<|aH 3 aa (fun w' J=>ld jM aa<|Wk.aM J<|(a7 V.cells).trans aa) A<|aH 4 aa (fun _ _=>mv) A<|aH 5 aa (fun _ _=>bd ky aa aa ab<|aG.ok ((a6 V.ru).2)<|kV (V.im Z).choose_spec) A<|aH 6 aa (fun w' J=>cg ju aa (aa) fun j di=>gr (f:=dC) (m:=7) (fun _=>rfl) ((a6 V.ru).2.wk J) (V.im Z).choose_spec j di) A<|bQ 7 aa (aU mb) A<|aH 8 aa (fun _ _=>nc aa) A<|aH 9 aa (fun _ _=>fa z8 aa) A<|aH 10 aa (fun w' J=>ld cH aa<|Wk.aM J<|(a7 V.cells).trans aa) A<|he 11 aa ag<|cl vI (vy r (V.im Z).choose x.1 E.drew (il a Z).1 (il a Z).2.1 (il a Z).2.2.1 ab) aa fun v44 cA c7=> ?_
 obtain ⟨rfl,b0⟩:=c7
 have aS:=A.trans b0
 have b7:=C.wk bl aS
 have bs:=V.wk aS
 have b3:=b4.trans<|Gw.wk aS
 have ck:=a8 bF aS
 have ap:(fun w'=>Wk E w') cA:=A.trans b0
 refine ⟨ap,?_⟩
 refine aH 12 aa (fun _ _=>mv) ap<|aH 13 aa (fun _ _=>xt aa aa) ap<|aH 14 aa (fun _ _=>xt aa aa) ap<|aH 15 aa (fun _ _=>aE) ap<|aH 16 aa (fun _ _=>aE) ap<|hn ag<|cD<|az fun cE=>ak fun cF=>p mv<|p (no aa)<|nl<|cF<|cb aa (fun bw=> ?_) fun bw=> ?_
 have aD:dp r x.1=none:=by simpa using bw
 have bT:gB F xs en ((aK F (flagsOf xs en) 2).getD i 0)= []:=by unfold gB; rw [cw,a5,aD]
 rw [bT,ep] at bK
 exact ext<|bh<|be<|aN<|rg aa<|p (ad aa aa<|cC ab)<|p mv<|nl<|tn<|⟨_,ab,i+1,O,ab,(by rw [bK]; exact b7),bs,ck,ce,b3,aa,aa,aa,aa,aa⟩
 obtain ⟨wd,aD⟩:∃ v,dp r x.1=some v:=l9.1<|by simpa using bw
 have aq:((dp r x.1).getD [])=wd:=by rw [aD]; rfl
 have bT:gB F xs en ((aK F (flagsOf xs en) 2).getD i 0)=eR F xs en wd (((aK F (flagsOf xs en) 2).getD i 0):Nat) (-1)++(aK F (bH F (((aK F (flagsOf xs en) 2).getD i 0):Nat)) 2).flatMap (jF F xs en wd (((aK F (flagsOf xs en) 2).getD i 0):Nat)):=by unfold gB; rw [cw,a5,aD]
 have dU:=(rH (il a Z).2.2.2 aD).2
 have bA:gW F xs en=(eR F xs en x.1 (-1) (-1)++((aK F (flagsOf xs en) 2).take i).flatMap (gB F xs en))++(gB F xs en ((aK F (flagsOf xs en) 2).getD i 0)++((aK F (flagsOf xs en) 2).drop<|i+1).flatMap (gB F xs en)):=by rw [a0,E9 0 (show i < (aK F (flagsOf xs en) 2).length by omega),dZ]
 have ca:an=(pre++(eR F xs en x.1 (-1) (-1)++((aK F (flagsOf xs en) 2).take i).flatMap (gB F xs en)))++(gB F xs en ((aK F (flagsOf xs en) 2).getD i 0)++(((aK F (flagsOf xs en) 2).drop<|i+1).flatMap (gB F xs en)++tl)):=by rw [cq,bA]; simp only [dZ]
 refine aR<|cE<|az fun cG=>ak fun cI=>au (aU mb)<|p mv<|p mv<|e<|cl yT (zh B tb U F xs a ai S0 mb an M C K (en:Int) x.1 _ (pre++(eR F xs en x.1 (-1) (-1)++((aK F (flagsOf xs en) 2).take i).flatMap (gB F xs en))) O en ((dp r x.1).getD []) ((((aK F (flagsOf xs en) 2).getD i 0):Nat):Int) (-1) cA bs b7 aa aa (.inr ab) (.inl aa) (by rw [aq]; omega) ((aK F (bH F (((aK F (flagsOf xs en) 2).getD i 0):Nat)) 2).flatMap (jF F xs en wd (((aK F (flagsOf xs en) 2).getD i 0):Nat))++(((aK F (flagsOf xs en) 2).drop<|i+1).flatMap (gB F xs en)++tl))<|by rw [aq,ca,bT]; simp only [dZ]) aa fun d2 dJ c8=> ?_
 obtain ⟨bU,dY,bb,rfl,ax,bk,cs,ct⟩:=c8
 rw [aq] at cs ct
 have b8:=bs.gw bk
 have bi:=b3.trans bk
 have cm:=bk.own ck ce
 refine p (no aa)<|nl<|cI<|cb aa (fun bx=> ?_) fun bx=> ?_
 obtain rfl :bU=false :=by simpa using bx
 refine ak fun a3=>ay<|a3<|rt<|tr<|br<|tr<|tr<|br<|tr<|bc aa ?_
 rw [dZ] at ax
 exact ⟨false,_,bb,aa,ax,bi,A6 bA (by rw [bT]; exact cs.trans<|u6 _ _),fun h=>by cases h⟩
 obtain rfl :bU=true :=by simpa using bx
 obtain rfl :=ct rfl
 refine aR<|cG<|ak fun a3=>au (aU mb)<|p (nc aa)<|p (fa r5 aa)<|p (ld lH aa<|(a7 b8.cells).trans aa)<|p mv<|e<|cl zb (Bg B tb U F xs (((aK F (flagsOf xs en) 2).getD i 0):Nat) dJ (C.cap _ _ _ _ ax) a) aa fun v59 d5 c9=> ?_
 obtain ⟨bD,aQ⟩:=c9
 obtain ⟨aO,aP,rfl⟩:=cT bD
 have c0:=C.wk ax aQ
 have c2:=b8.wk aQ
 have cX:=bi.trans<|Gw.wk aQ
 have dj:=a8 cm.1 aQ
 have dh:∀ q,(bE aO (aK F (bH F (((aK F (flagsOf xs en) 2).getD i 0):Nat)) 2).length aP).ownBlock=some q→¬bb q:=fun q bJ h=>by have h1:=(cV bD bJ).1; have h2:=C.lt _ _ _ _ ax q h; omega
 have dl:=e5 bD (show S0≤_ by have :=bi.size; omega)
 have dQ:=si F (bH F (((aK F (flagsOf xs en) 2).getD i 0):Nat)) 2
 refine p (bP oQ aa aa)<|p mv<|nl<|a3<|aB<|lp (fun av G am=> ∃ (k:Nat) (I:Nat→Prop),(k≤(aK F (bH F (((aK F (flagsOf xs en) 2).getD i 0):Nat)) 2).length)∧(M true ((pre++(eR F xs en x.1 (-1) (-1)++((aK F (flagsOf xs en) 2).take i).flatMap (gB F xs en)))++(eR F xs en wd (((aK F (flagsOf xs en) 2).getD i 0):Nat) (-1)++((aK F (bH F (((aK F (flagsOf xs en) 2).getD i 0):Nat)) 2).take k).flatMap (jF F xs en wd (((aK F (flagsOf xs en) 2).getD i 0):Nat)))) I am)∧(iU am I S0 mb tb ai K F (en:Int) x.1<|aK F (flagsOf xs en) 1)∧(bq am S0 3 1 (.slice ae (aK F (flagsOf xs en) 2).length ah) (aK F (flagsOf xs en) 2).length<|(aK F (flagsOf xs en) 2).map fA)∧(∀ q,(bE ae (aK F (flagsOf xs en) 2).length ah).ownBlock=some q→¬I q)∧(bq am S0 3 1 (.slice aO (aK F (bH F (((aK F (flagsOf xs en) 2).getD i 0):Nat)) 2).length aP) (aK F (bH F (((aK F (flagsOf xs en) 2).getD i 0):Nat)) 2).length<|(aK F (bH F (((aK F (flagsOf xs en) 2).getD i 0):Nat)) 2).map fA)∧(∀ q,(bE aO (aK F (bH F (((aK F (flagsOf xs en) 2).getD i 0):Nat)) 2).length aP).ownBlock=some q→¬I q)∧(Gw S0 fp w I am)∧(G 0=aU mb)∧(G 4= .int .i64 (((aK F (flagsOf xs en) 2).getD i 0):Nat))∧(G 5=str ((dp r x.1).getD []))∧(G 26= .slice ae (aK F (flagsOf xs en) 2).length ah)∧(G 27=aj ((aK F (flagsOf xs en) 2).length))∧(G 28=aj i)∧(G 59= .slice aO (aK F (bH F (((aK F (flagsOf xs en) 2).getD i 0):Nat)) 2).length aP)∧(G 60= .int .i64 ((aK F (bH F (((aK F (flagsOf xs en) 2).getD i 0):Nat)) 2).length:Nat))∧(G 61=aj k)∧((aK F (bH F (((aK F (flagsOf xs en) 2).getD i 0):Nat)) 2).length - k=av)) _ ⟨0,bb,ab,(by simpa using c0),c2,dj,cm.2,dl,dh,cX,aa,aa,aa,aa,aa,aa,aa,aa,aa,aa⟩ ?_
 rintro av G am ⟨k,I,hk,bm,Y,cn,bB,bG,ch,b5,dv,dz,dA,dw,dx,dy,dB,dD,dE,rfl⟩
 refine fx 0 dv<|fx 4 dz<|fx 5 dA<|fx 26 dw<|fx 27 dx<|fx 28 dy<|fx 59 dB<|fx 60 dD<|fx 61 dE<|ak fun cJ=>p (lt aa aa)<|nl<|cJ<|az fun cK=>cd aa (fun df=> ?_) fun df=> ?_
 refine aR<|cK<|az fun bM=>aB<|ak fun cL=>p (bd oH aa aa ab<|aG.ok ((a6 bG).2)<|db ab)<|p (ld bO aa<|aG.jk (i:=k) (a6 bG).2<|r6 ab)<|ay<|cL<|az fun cN=> ?_
 have dG:=my.1<|eZ (d:=0) (show k < (aK F (bH F (((aK F (flagsOf xs en) 2).getD i 0):Nat)) 2).length by omega)
 obtain ⟨al,ac⟩:∃ r,F.rules[((aK F (bH F (((aK F (flagsOf xs en) 2).getD i 0):Nat)) 2).getD k 0)]? =some r:=⟨_,bW dG.1⟩
 have cx:F.rules.getD ((aK F (bH F (((aK F (flagsOf xs en) 2).getD i 0):Nat)) 2).getD k 0) dd=al:=by rw [cR,ac]; rfl
 have a1:=zT (g:=jF F xs en wd (((aK F (flagsOf xs en) 2).getD i 0):Nat)) 0 (show k < (aK F (bH F (((aK F (flagsOf xs en) 2).getD i 0):Nat)) 2).length by omega)
 refine rg aa<|au (aU mb)<|p (nc aa)<|p (fa tV aa)<|p (ld jM aa<|(a7 Y.cells).trans aa)<|p mv<|p (bd ky aa aa ab<|aG.ok ((a6 Y.ru).2)<|kV (Y.im ac).choose_spec)<|p (cg ju aa (aa)<|gr (f:=dC) (m:=7) (fun _=>rfl) (a6 Y.ru).2 (Y.im ac).choose_spec)<|au (str<|(dp r x.1).getD [])<|e<|cl vI (vy al (Y.im ac).choose ((dp r x.1).getD []) am (il a ac).1 (il a ac).2.1 (il a ac).2.2.1<|by rw [aq]; omega) aa fun d3 dK da=> ?_
 obtain ⟨rfl,aw⟩:=da
 have b6:=C.wk bm aw
 have bp:=Y.wk aw
 have b1:=b5.trans<|Gw.wk aw
 have ci:=a8 cn aw
 have co:=a8 bG aw
 refine p mv<|p (xt aa aa)<|p (xt aa aa)<|p aE<|ay<|cN<|az fun bN=>rg aa<|p mv<|p mv<|gb (t:=78) aa (fun bt=> ?_) fun bt=> ?_
 obtain ⟨v2,cy⟩:∃ v,dp al ((dp r x.1).getD [])=some v:=l9.1 bt
 have bL:(dp al<|(dp r x.1).getD []).getD []=v2:=by rw [cy]; rfl
 have a2:dp al wd=some v2:=by rw [← aq]; exact cy
 have aF:jF F xs en wd (((aK F (flagsOf xs en) 2).getD i 0):Nat) ((aK F (bH F (((aK F (flagsOf xs en) 2).getD i 0):Nat)) 2).getD k 0)=eR F xs en v2 (((aK F (flagsOf xs en) 2).getD i 0):Nat) (((aK F (bH F (((aK F (flagsOf xs en) 2).getD i 0):Nat)) 2).getD k 0):Nat):=by unfold jF; rw [cx,a2]
 have dS:=(rH (il a ac).2.2.2 a2).2
 have cc:gB F xs en ((aK F (flagsOf xs en) 2).getD i 0)=(eR F xs en wd (((aK F (flagsOf xs en) 2).getD i 0):Nat) (-1)++((aK F (bH F (((aK F (flagsOf xs en) 2).getD i 0):Nat)) 2).take k).flatMap (jF F xs en wd (((aK F (flagsOf xs en) 2).getD i 0):Nat)))++(jF F xs en wd (((aK F (flagsOf xs en) 2).getD i 0):Nat) ((aK F (bH F (((aK F (flagsOf xs en) 2).getD i 0):Nat)) 2).getD k 0)++((aK F (bH F (((aK F (flagsOf xs en) 2).getD i 0):Nat)) 2).drop<|k+1).flatMap (jF F xs en wd (((aK F (flagsOf xs en) 2).getD i 0):Nat))):=by rw [bT,E9 (g:=jF F xs en wd (((aK F (flagsOf xs en) 2).getD i 0):Nat)) 0 (show k < (aK F (bH F (((aK F (flagsOf xs en) 2).getD i 0):Nat)) 2).length by omega),dZ]
 refine aY aa (aJ (aU mb) aa)<|aY aa mv<|aY aa (aJ (.int .i64 (((aK F (flagsOf xs en) 2).getD i 0):Nat)) aa)<|aY aa mv<|eg aa aa aa<|cl yT (zh B tb U F xs a ai S0 mb an M C K (en:Int) x.1 _ ((pre++(eR F xs en x.1 (-1) (-1)++((aK F (flagsOf xs en) 2).take i).flatMap (gB F xs en)))++(eR F xs en wd (((aK F (flagsOf xs en) 2).getD i 0):Nat) (-1)++((aK F (bH F (((aK F (flagsOf xs en) 2).getD i 0):Nat)) 2).take k).flatMap (jF F xs en wd (((aK F (flagsOf xs en) 2).getD i 0):Nat)))) I en ((dp al<|(dp r x.1).getD []).getD []) ((((aK F (flagsOf xs en) 2).getD i 0):Nat):Int) ((((aK F (bH F (((aK F (flagsOf xs en) 2).getD i 0):Nat)) 2).getD k 0):Nat):Int) dK bp b6 aa aa (.inr ab) (.inr ab) (by rw [bL]; omega) (((aK F (bH F (((aK F (flagsOf xs en) 2).getD i 0):Nat)) 2).drop<|k+1).flatMap (jF F xs en wd (((aK F (flagsOf xs en) 2).getD i 0):Nat))++(((aK F (flagsOf xs en) 2).drop<|i+1).flatMap (gB F xs en)++tl))<|by rw [bL,ca,cc,aF]; simp only [dZ]) aa fun d4 d6 dc=> ?_
 obtain ⟨bV,d0,bX,rfl,aZ,aW,cu,cv⟩:=dc
 rw [bL] at cu cv
 have c3:=bp.gw aW
 have b2:=b1.trans aW
 have cj:=aW.own ci bB
 have cp:=aW.own co ch
 refine aY aa (no aa)<|p (bR aa)<|nl<|bN<|cb aa (fun bz=> ?_) fun bz=> ?_
 obtain rfl :bV=false :=by simpa using bz
 refine ak fun cO=>ay<|cO<|rt<|br<|tr<|tr<|br<|br<|tr<|tr<|br<|tr<|bc aa ?_
 rw [dZ,dZ] at aZ
 exact ⟨false,_,bX,aa,aZ,b2,A6 bA (A6 cc<|by rw [aF]; exact cu),fun h=>by cases h⟩
 obtain rfl :bV=true :=by simpa using bz
 obtain rfl :=cv rfl
 rw [aF] at a1
 exact aR<|bn<|bM<|rg aa<|p (ad aa aa<|cC ab)<|p mv<|nl<|tn<|⟨_,ab,k+1,bX,ab,(by rw [a1,← dZ (eR F xs en wd (((aK F (flagsOf xs en) 2).getD i 0):Nat)<|-1)]; rw [dZ] at aZ; exact aZ),c3,cj.1,cj.2,cp.1,cp.2,b2,aa,aa,aa,aa,aa,aa,aa,aa,aa,aa⟩
 have a2:dp al wd=none:=by rw [← aq]; simpa using bt
 have aF:jF F xs en wd (((aK F (flagsOf xs en) 2).getD i 0):Nat) ((aK F (bH F (((aK F (flagsOf xs en) 2).getD i 0):Nat)) 2).getD k 0)= []:=by unfold jF; rw [cx,a2]
 rw [aF,ep] at a1
 refine aT aa<|aT aa<|aT aa<|aT aa<|aT aa<|aT aa<|p (bI aa)<|nl<|bN<|cf aa<|aR<|bn<|bM<|rg aa<|p (ad aa aa<|cC ab)<|p mv ?_
 exact nl<|tn<|⟨_,ab,k+1,I,ab,(by rw [a1]; exact b6),bp,ci,bB,co,ch,b1,aa,aa,aa,aa,aa,aa,aa,aa,aa,aa⟩
 exact ext<|bh<|bh<|be<|bn<|aN<|rg aa<|p (ad aa aa<|cC ab)<|p mv<|nl<|tn<|⟨_,ab,i+1,I,ab,(by rw [bK,bT]; rw [e9 (show (aK F (bH F (((aK F (flagsOf xs en) 2).getD i 0):Nat)) 2).length≤k by omega),dZ] at bm; rw [← dZ (eR F xs en x.1 (-1)<|-1)]; exact bm),Y,cn,bB,b5,aa,aa,aa,aa,aa⟩
 refine ext<|bh<|bh<|be<|a4<|ak fun aN=>p aE<|nl<|aN<|rt<|bc aa ?_
 rw [e9 ab,← a0] at bl
 exact ⟨true,_,O,aa,bl,b4,CA _,fun _=>rfl⟩
end Go.Hb
end
section
namespace Go.Hb.lD
open Go.Hb.iD Go.Hb.iT Go.Hb.jL
noncomputable def gJ (F:aC) (xs:List bj) (n:Int):List bu:=if 0≤n∧n < xs.length then gW F xs n.toNat else []
theorem vP {F:aC} {xs:List bj} {k:Nat} (h:k < xs.length):gJ F xs k=gW F xs k:=by unfold gJ; rw [if_pos ab,jq]
theorem Ew {F:aC} {xs:List bj} {n:Int} (h:¬(0≤n∧n < xs.length)):gJ F xs n= []:=if_neg h
noncomputable def lI (F:aC) (xs:List bj) (k:Nat):List bu:=(fI k).flatMap<|gW F xs
def ji (W:World) (b:Nat) (a:Option Addr):Prop :=W.heap[b]? =some (.cells [.pointer a].toArray 24 (0,0))
def iy (W:World) (b:Nat) (n:Int):Prop :=W.heap[b]? =some (.cells [.int .i64 n].toArray 3 (0,0))
theorem Lg (B tb:Nat) (U:ej) (F:aC) (xs:List bj) (a S0:Nat) (w:World) (C:dT w B tb U F xs) (q:dW F xs) (O:S0≤w.heap.size):
 bf ao 52 (ba [aU tb,.func (.yield a) #[] #[]]) w (fun v w'=> ∃ mb K,v=aU mb∧iU w' (fun _=>False) S0 mb tb a K F 0 [] []∧Wk w w'):=by
 refine enter func52 aa ntmps52 aa<|ak fun E=>ay<|E<|ak fun G=>au (aU tb)<|au (aU tb)<|p (nc aa)<|p (fa tM aa)<|p (ld eX aa<|(a7 C.cells).trans aa)<|e<|cl tw (tg B U.fb U.mc F U.V w C.fl (by have :=q.len; omega) q.nx) aa fun v10 ad M=> ?_
 obtain ⟨⟨⟨v9,v10,v11,v12,sa,rn⟩,rfl,hax⟩,hE10⟩:=M
 obtain ⟨ar,cr,c⟩:=cT hax.eo
 have c:v12=_:=c
 subst c
 have ac:=hE10.size
 have Y:rn.length=F.rules.length:=by have :=hax.nx.1; rwa [e8] at this
 exact p (zI zJ aa aa)<|au (.func (.yield a) #[] #[])<|p (di (ps:= [(0,aU tb),(1,.slice ar F.rules.length cr),(5,.func (.yield a) #[] #[])]) (L:= [aU tb,.slice ar F.rules.length cr,.int .i64 0,.string ⟨⟨[]⟩⟩,.slice none 0 0,.func (.yield a) #[] #[]]) VG aa<|aa)<|e<|pG aa fun I ae Z A J=>ay<|G<|rt<|bc aa<|⟨I,⟨ar,cr,rn,none,0⟩,aa,⟨ab,J,id,a8 (e5 hax.eo O) A.md,fun _ _=>id,Y,dS _ _ _ _,fun _ _=>id⟩,hE10.trans A.md⟩
theorem xc (B tb:Nat) (U:ej) (F:aC) (xs:List bj) (au:dW F xs) (E S0 mb:Nat) (ap:List bu) (Z:Bool→List bu→(Nat→Prop)→World→Prop) (A:Yc ao E S0 pJ ap (fun W=>dT W B tb U F xs) Z) (K:rA) (aP:Int) (aO:Tx) (ps:List Nat) (pre:List bu) (fp:Nat→Prop) (n:Int) (w:World) (V:iU w fp S0 mb tb E K F aP aO ps) (ax:Z true pre fp w) (tl:List bu) (bK:ap=pre++(gJ F xs n++tl)):
 bf ao 54 (ba [aU mb,.int .i64 n]) w (fun v w'=> ∃ b q fp' bb bh bP bN,v= .bool b∧Z b (pre++q) fp' w'∧iU w' fp' S0 mb tb E bb F bh bP bN∧q <+:gJ F xs n∧(b=true→q=gJ F xs n)):=by
 have bX:=A.lt _ _ _ _ ax
 have bF:=A.cap _ _ _ _ ax
 have bU:S0≤w.heap.size:=by have :=V.lo; have :=(bY.1 V.cells).1; omega
 refine enter func54 aa ntmps54 aa<|ak fun a4=>ay<|a4<|ak fun a5=>p mv<|p (nc aa)<|p (fa r5 aa)<|p (ld lH aa<|(a7 V.cells).trans aa)<|p mv<|e<|cl rM (tG B tb U F xs n w bF au) aa fun b2 b4 bz=> ?_
 obtain ⟨⟨bQ,rfl,bH⟩,hE13⟩:=bz
 obtain ⟨I,J,rfl⟩:=cT bH
 have b0:=hE13.size
 refine p mv<|p (xt aa aa)<|p (xt aa aa)<|e<|al oX fun C b6 aY aW bo=> ?_
 have b1:=aW.size
 refine e<|cM jv aa aa aa aa (bo) (by simp) fun G bx bk=> ?_
 have av:Wk w G:=(hE13.trans aW.md).trans' bx fun q ai h=>by omega
 have aY:bD G.heap C [str (iL xs n),.slice I (flagsOf xs n).length J]:=bk
 have aQ:=A.wk ax av
 have aS:=V.wk av
 have bZ:=av.size
 refine ay<|a5<|az fun a6=>ak fun a8=>p mv<|p (no aa)<|nl<|a8<|cb aa (fun Y=> ?_) fun Y=> ?_
 have bJ:¬(0≤n∧n < xs.length):=fun h=>by rw [decide_eq_true h] at Y; cases Y
 exact ak fun an=>ay<|an<|rt<|tr<|bc aa<|⟨true,[],fp,K,aP,aO,ps,aa,by rw [ep]; exact aQ,aS,List.nil_prefix,fun _=>(Ew bJ).symm⟩
 have bV:0≤n∧n < xs.length:=uI fun h=>by rw [decide_eq_false h] at Y; cases Y
 obtain ⟨k,rfl⟩:∃ k:Nat,n=(k:Int):=⟨n.toNat,ab⟩
 obtain ⟨x,a0⟩:∃ x,xs[k]? =some x:=⟨_,bW ab⟩
 obtain ⟨bg,bR,aq,bS⟩:=rI a0
 have aA:=A.wk aQ (Md.refl (fun _=>False) G).drew
 have aT:=aS.wk (Md.refl (fun _=>False) G).drew
 have aG:C≠mb:=fun h=>by have :=(bY.1 V.cells).1; omega
 refine aR<|a6<|az fun an=> ?_
 have c:(fun w'=>bD w'.heap C [str (iL xs (k:Int)),.slice I (flagsOf xs (k:Int)).length J]∧Hb.aM w'.heap mb 0=some (aU tb)) G.drew:=⟨aY,(a7 aT.cells).trans rfl⟩
 refine bT (fun w'=>bD w'.heap C [str (iL xs (k:Int)),.slice I (flagsOf xs (k:Int)).length J]∧Hb.aM w'.heap mb 0=some (aU tb)) aa wide c<|aH 0 aa (fun _ _=>mv) c<|aH 1 aa (fun _ _=>mv) c<|aH 2 aa (fun _ _=>mv) c<|aH 3 aa (fun _ _=>mv) c<|aH 4 aa (fun _ _=>fa wx aa) c<|aH 5 aa (fun w' aF=>ld cH aa<|aF.1.bp 0) c<|aH 6 aa (fun _ _=>mv) c<|aH 7 aa (fun _ _=>nc aa) c<|aH 8 aa (fun _ _=>fa r5 aa) c<|aH 9 aa (fun w' aF=>ld lH aa<|aF.2) c<|aH 10 aa (fun _ _=>mv) c<|he 11 aa ag<|cl DM (Hg B tb U F xs (k:Int) G.drew (A.cap _ _ _ _ aA) au) aa fun b3 a1 bA=> ?_
 obtain ⟨aN,ac⟩:=bA
 obtain ⟨M,O,rfl⟩:=cT aN
 have bs:=A.wk aA ac
 have a:=aT.wk ac
 have bG:∀ q,(bE M (aK F (flagsOf xs (k:Int)) 1).length O).ownBlock=some q→¬fp q:=fun q ai h=>by have h1:=(cV aN ai).1; have h2:=A.lt _ _ _ _ aA q h; omega
 have bI:=e5 aN (show S0≤_ by have :G.heap.size≤G.drew.heap.size:=cz _; omega)
 have ad:(fun w'=>bD w'.heap C [str (iL xs (k:Int)),.slice I (flagsOf xs (k:Int)).length J]∧Hb.aM w'.heap mb 0=some (aU tb)) a1:=⟨Wk.B ac c.1,Wk.aM ac c.2⟩
 refine ⟨ad,?_⟩
 refine aH 12 aa (fun _ _=>nc aa) ad<|aH 13 aa (fun _ _=>fa z7 aa) ad<|he 14 aa ag<|dy jN aa aa (v:=aj k) aa a.cells (by show 2 < 6; omega) fun a2 aB bl=> ?_
 have aI:a2.heap[mb]? =some (.cells (ni tb E K F (k:Int) aO ps).toArray 201 (0,0)):=bl
 have bt:=A.um bs a.cells a.lo a.nf aB
 have ae:(fun w'=>bD w'.heap C [str (iL xs (k:Int)),.slice I (flagsOf xs (k:Int)).length J]∧Hb.aM w'.heap mb 0=some (aU tb)) a2:=⟨Md.B aB ad.1 aG,(a7 aI).trans rfl⟩
 refine ⟨ae,?_⟩
 refine aH 15 aa (fun _ _=>nc aa) ae<|aH 16 aa (fun _ _=>fa z8 aa) ae<|he 17 aa ag<|dy oG aa aa (v:=str<|iL xs (k:Int)) aa aI (by show 3 < 6; omega) fun a3 aD bm=> ?_
 have aJ:a3.heap[mb]? =some (.cells (ni tb E K F (k:Int) (iL xs (k:Int)) ps).toArray 201 (0,0)):=bm
 have bv:=A.um bt aI a.lo a.nf aD
 have ah:(fun w'=>bD w'.heap C [str (iL xs (k:Int)),.slice I (flagsOf xs (k:Int)).length J]∧Hb.aM w'.heap mb 0=some (aU tb)) a3:=⟨Md.B aD ae.1 aG,(a7 aJ).trans rfl⟩
 refine ⟨ah,?_⟩
 refine aH 18 aa (fun _ _=>nc aa) ah<|aH 19 aa (fun _ _=>fa Fs aa) ah<|he 20 aa ag<|dy Eo aa aa (v:= .slice M (aK F (flagsOf xs (k:Int)) 1).length O) aa aJ (by show 4 < 6; omega) fun am aE bn=> ?_
 have aL:am.heap[mb]? =some (.cells (ni tb E ⟨K.ar,K.cr,K.rn,M,O⟩ F (k:Int) (iL xs (k:Int))<|aK F (flagsOf xs (k:Int)) 1).toArray 201 (0,0)):=bn
 rw [bg] at aL
 have bw:=A.um bv aJ a.lo a.nf aE
 have aZ:=(aB.trans' aD fun q ai h=>h).trans' aE fun q ai h=>h
 have aX:TF a1 [203] (fun q=>q=mb):=TF.eq (dD a.cells) aw
 have aV:iU am fp S0 mb tb E ⟨K.ar,K.cr,K.rn,M,O⟩ F (k:Int) x.1 (aK F (flagsOf xs (k:Int)) 1):=⟨a.lo,aL,a.nf,cX a.ru aZ aX aw,a.rf,a.rn,cX bI aZ aX aw,bG⟩
 have bC:(fun w'=>bD w'.heap C [str (iL xs (k:Int)),.slice I (flagsOf xs (k:Int)).length J]∧Hb.aM w'.heap mb 0=some (aU tb)) am:=⟨Md.B aE ah.1 aG,(a7 aL).trans rfl⟩
 refine ⟨bC,?_⟩
 refine hn ag<|an<|ak fun a9=>p mv<|e<|cl MX (UY B tb U F xs au E S0 mb ap Z A ⟨K.ar,K.cr,K.rn,M,O⟩ pre fp k x am aV bw a0 tl<|by rw [bK,vP aq]) aa fun v37 b5 bB=> ?_
 obtain ⟨bd,bO,bi,rfl,br,bq,bL,bM⟩:=bB
 exact ay<|a9<|rt<|bc aa<|⟨bd,bO,bi,_,_,_,_,aa,br,aV.gw bq,by rw [vP aq]; exact bL,fun h=>by rw [vP aq]; exact bM h⟩
theorem tD (A:Option Addr) (n:Int) (w:World):
 bf ao 50 (ba [.pointer A,.int .i64 n]) w (fun v w'=> ∃ a be,v= .func (.func 91) #[] #[aU a,aU be]∧w.heap.size≤a∧w.heap.size≤be∧ji w' a A∧iy w' be n∧Wk w w'):=by
 refine enter func50 aa ntmps50 aa<|ak fun C=>e<|qz aa aa fun G Z O c J=> ?_
 have Y:=c.size
 exact e<|qz aa aa fun I ac V q M=>ay<|C<|ak fun E=>p AG<|p aE<|nl<|E<|rt<|bc aa<|⟨G,I,aa,ab,ab,Wk.aB q.md J,M,c.md.trans q.md⟩
theorem zy (B tb:Nat) (U:ej) (F:aC) (xs:List bj) (M:dW F xs) (a be q:Nat) (n:Int) (A:Bool→List bu→(Nat→Prop)→World→Prop) (w:World) (J:A true [] (fun _=>False) w) (C:Yc ao q w.heap.size pJ (gJ F xs n) (fun W=>dT W B tb U F xs∧ji W a (some ⟨tb,0,none⟩)∧iy W be n) A):
 bf ao 91 (ba [.func (.yield q) #[] #[],aU a,aU be]) w (fun v w'=> ∃ b pre fp,A b pre fp w'∧pre <+:(gJ F xs n)∧(b=true→pre=(gJ F xs n))):=by
 obtain ⟨aj,O,al⟩:=C.cap _ _ _ _ J
 refine enter func91 aa ntmps91 aa<|ak fun Y=>p (ld lH aa<|(a7 O).trans aa)<|p (GP sB aa aa)<|nl<|Y<|ct (aa) ?_
 have c:(fun w'=>ji w' a (some ⟨tb,0,none⟩)∧iy w' be n) w.drew:=⟨O,al⟩
 refine bT (fun w'=>ji w' a (some ⟨tb,0,none⟩)∧iy w' be n) aa wide c<|aH 0 aa (fun w' I=>ld lH aa<|(a7 I.1).trans aa) c<|bQ 1 aa (.func (.yield q) #[] #[]) c<|aH 3 aa (fun w' I=>ld bO aa<|(a7 I.2).trans aa) c<|he 2 aa ag<|cl ME (Lg B tb U F xs q w.heap.size w.drew (aj.wk (Md.refl _ _).drew) M<|cz _) aa fun ay V ae=> ?_
 obtain ⟨mb,K,rfl,ac,E⟩:=ae
 have ah:(fun w'=>ji w' a (some ⟨tb,0,none⟩)∧iy w' be n) V:=⟨Wk.aB E c.1,Wk.aB E c.2⟩
 refine ⟨ah,?_⟩
 refine he 4 aa ag<|cl MF (xc B tb U F xs M q w.heap.size mb (gJ F xs n) A (C.WX fun W h=>h.1) K 0 [] [] [] (fun _=>False) n V ac (C.wk J<|(Md.refl (fun _=>False) w).drew.trans E) []<|by rw [ep,mN]) aa fun v10 aq ad=> ?_
 obtain ⟨Z,ap,ab,au,av,az,ax,rfl,G,aw,am,an⟩:=ad
 rw [mN] at G
 have ai:(fun w'=>ji w' a (some ⟨tb,0,none⟩)∧iy w' be n) aq:=(C.cap _ _ _ _ G).2
 refine ⟨ai,?_⟩
 exact hn ag<|f0 aa<|⟨Z,ap,ab,G,am,an⟩
theorem Pk (c be E:Nat) (n:Int) (a:Bool→List bu→(Nat→Prop)→World→Prop) (w:World) (A:a true [] (fun _=>False) w) (C:ji w c none):
 bf ao 91 (ba [.func (.yield E) #[] #[],aU c,aU be]) w (fun v w'=> ∃ b pre fp,a b pre fp w'∧pre <+:([]:List bu)∧(b=true→pre=([]:List bu))):=by
 refine enter func91 aa ntmps91 aa<|ak fun q=>p (ld lH aa<|(a7 C).trans aa)<|p (GP sB aa aa)<|nl<|q<|cf (aa)<|aR<|f0 aa ?_
 exact ⟨true,[],_,A,CA _,fun _=>rfl⟩
theorem vS (B tb:Nat) (U:ej) (F:aC) (xs:List bj) (A:dW F xs) (a be:Nat) (n:Int):yz ao 91 #[.pointer (some ⟨a,0,none⟩),.pointer (some ⟨be,0,none⟩)] pJ (gJ F xs n) (fun W=>dT W B tb U F xs∧ji W a (some ⟨tb,0,none⟩)∧iy W be n):=
 fun l c W q C=>jX (zy B tb U F xs A a be l n c W q C) fun e w' ⟨v,he,E⟩=>⟨⟨v,he⟩,E⟩
theorem Pl (a be:Nat) (n:Int):yz ao 91 #[.pointer (some ⟨a,0,none⟩),.pointer (some ⟨be,0,none⟩)] pJ [] (fun W=>ji W a none):=
 fun l q W c A=>jX (Pk a be l n q W c<|A.cap _ _ _ _ c) fun e w' ⟨v,he,C⟩=>⟨⟨v,he⟩,C⟩
end Go.Hb.lD
end
section
namespace Go.Hb
open Go.Hb.iD Go.Hb.iT Go.Hb.jL Go.Hb.lD
def ir (L:List bu) (most:Int):List bu:=if most < 1 then [] else L.take most.toNat
theorem HY {L:List bu} {most:Int} (h:(L.length:Int) < most):ir L most=L:=by unfold ir; rw [if_neg ab,e9 ab]
theorem H0 {L q:List bu} {most:Int} (h:q <+:L) (hm:(q.length:Int)=most) (h1:¬most < 1):ir L most=q:=by
 have e:=List.prefix_iff_eq_take.1 h
 unfold ir; rw [if_neg h1,show most.toNat=q.length by omega]; exact e.symm
theorem HZ {L:List bu} {most:Int} (h:most < 1):ir L most= []:=if_pos h
theorem Sr (B tb:Nat) (U:ej) (F:aC) (xs:List bj) (n most:Int) (w:World) (aP:dT w B tb U F xs) (a2:dW F xs) (bM:most≤1048576):
 bf ao 26 (ba [.pointer (some ⟨tb,0,none⟩),.int .i64 n,.int .i64 most]) w (fun v w'=>bq w' w.heap.size 49 5 v (ir (gJ F xs n) most).length (dI<|ir (gJ F xs n) most)∧Wk w w'):=by
 refine vU [] func26 aa ntmps26 aa ?_
 refine dY<|eC<|rg aa<|e<|qz aa aa fun Z b1 bD aO a4=> ?_
 have bV:=aO.size
 refine p aE<|nl<|dU<|dY<|eC<|rg aa<|e<|gn IP fun ai bw bE aA a6=> ?_
 have bW:=aA.size
 have aN:=aO.md.trans aA.md
 have aL:=Wk.aB aA.md a4
 refine nl<|dU<|dY<|dY<|eC<|rg aa<|p (ld bO aa<|(a7 aL).trans aa)<|p (lt aa aa)<|nl<|dU<|eC<|cd aa (fun bQ=> ?_) fun bQ=> ?_
 refine sq fun a0 az=>rg aa<|p aE<|nl<|tn<|az _ _<|rt<|prt<|EK aa aa ?_
 exact ⟨by rw [HZ bQ]; exact dS _ _ _ _,aN⟩
 refine aR<|dU<|dY<|dY<|eC<|rg aa<|p mv<|p mv<|e<|cl DN (tD (some ⟨tb,0,none⟩) n bw) aa fun bZ aH bi=> ?_
 obtain ⟨ac,be,rfl,bI,bG,aT,aQ,ak⟩:=bi
 have aj:=aN.trans ak
 have bS:=ak.size
 have bo:=Wk.aB ak a6
 have bl:iy aH Z most:=Wk.aB ak aL
 have av:ai < aH.heap.size:=ab
 have aW:Z < aH.heap.size:=ab
 have aX:=(bY.1 aT).1
 have hle:=(bY.1 aQ).1
 have aZ:=aj.size
 refine nl<|dU ?_
 apply Hq (pJ) (gJ F xs n) (fun W=>dT W B tb U F xs∧ji W ac (some ⟨tb,0,none⟩)∧iy W be n) (fun pre fp A=> ∃ v,A.heap[ai]? =some (.cells [v].toArray 29 (0,0))∧bq A w.heap.size 49 5 v pre.length (dI pre)∧(∀ k,v.ownBlock=some k↔fp k)∧ji A ac (some ⟨tb,0,none⟩)∧iy A be n∧iy A Z most∧Wk w A∧(pre.length:Int) < most) (fun r pre fp A=>r=false∧∃ v,A.heap[ai]? =some (.cells [v].toArray 29 (0,0))∧bq A w.heap.size 49 5 v pre.length (dI pre)∧(∀ k,v.ownBlock=some k↔fp k)∧ji A ac (some ⟨tb,0,none⟩)∧iy A be n∧iy A Z most∧Wk w A∧(pre.length:Int)=most) rfl DV (fun _=>rfl) (vS B tb U F xs a2 ac be n) (⟨.slice none 0 0,bo,dS _ _ _ _,fun k=>by simp [gG],aT,aQ,bl,aj,by simp only [fZ]; omega⟩) (fun pre fp W ⟨v,h1,h2,h3,h4,h5,ad,J,ae⟩=>⟨⟨aP.wk J,h4,h5⟩,fun k hk=>(cV h2<|(h3 k).2 hk).2⟩) (fun r pre fp W ⟨aJ,v,h1,h2,h3,h4,h5,ad,J,ae⟩=>⟨⟨aP.wk J,h4,h5⟩,fun k hk=>(cV h2<|(h3 k).2 hk).2⟩) (fun pre fp W a1 F ⟨v,h1,h2,h3,h4,h5,ad,J,ae⟩ hm E=>⟨v,kI h1 hm av E,xC h2 hm (fun k hk=>(h3 k).1 hk) E,h3,kI h4 hm aX E,kI h5 hm hle E,kI ad hm aW E,xD J hm aZ E,ae⟩) (fun r pre fp W a1 F ⟨aJ,v,h1,h2,h3,h4,h5,ad,J,ae⟩ hm E=>⟨aJ,v,kI h1 hm av E,xC h2 hm (fun k hk=>(h3 k).1 hk) E,h3,kI h4 hm aX E,kI h5 hm hle E,kI ad hm aW E,xD J hm aZ E,ae⟩) (fun x b A=>A.heap[b]? =some (.cells (cB x).toArray 49 (0,0))) (C2 (f:=cB))
 intro l x A K M
 exact rg aa<|e<|gn p6 fun aI b3 bF bh a9=>e<|fY pI aa aa aa aa a9 aw fun b2 bg a5=>nl<|tn<|M aI _ (bh.md.trans' bg fun q bN h=>by omega) a5
 intro l pre x rest fp aI A bR ay aK
 obtain ⟨v,O,C,Y,au,aq,am,V,hlen⟩:=ay
 have bX:=V.size
 have bH:=(bY.1 aK).1
 refine aB<|sq fun a0 az=>rg aa<|p (ld pB aa<|(a7 O).trans aa)<|p (cg hZ aa (aa) fun j bJ=>(lJ aK).bp j)<|e<|nM pW aa aa aa fun bA b0 bC a a3=> ?_
 have bT:=a.size
 refine e<|ap pW (a8 C a.md) aa ab aa (aG.fV a3) (aa) (aa) ab ab fun ag bv aF G bU aV=> ?_
 have bc:=Wk.own (V.trans a.md) (a8 C a.md) G<|cz _
 have an:=G.aB (a.md.aB O) fun h=>dx (a8 C a.md) (a.md.aB O) aw h
 obtain ⟨bz,bB,bu⟩:=cT aF
 have bs:=G.aB (a.md.aB au) fun h=>dx (a8 C a.md) (a.md.aB au) aw h
 have br:=G.aB (a.md.aB aq) fun h=>dx (a8 C a.md) (a.md.aB aq) aw h
 have bm:=G.aB (a.md.aB am) fun h=>dx (a8 C a.md) (a.md.aB am) aw h
 refine e<|dy Em aa aa (eM aF) an (by simp) fun ah I ax=> ?_
 have aM:Wk w ah:=Md.trans' bc I fun k hk h=>by omega
 have al:TF bv [31] (fun q=>q=ai):=TF.eq (dD an) aw
 have aY:bq ah w.heap.size 49 5 ag (pre++ [x]).length (dI<|pre++ [x]):=cX (by rw [show dI (pre++ [x])=dI pre++cB x from by unfold dI; rw [qi,ri],bK]; exact aF) I al aw
 have aU:ji ah ac (some ⟨tb,0,none⟩):=I.gT al bs aw
 have aS:iy ah be n:=I.gT al br aw
 have aD:iy ah Z most:=I.gT al bm aw
 have bL:(pre++ [x]).length=pre.length+1:=by simp
 refine nl<|tn<|az _ _<|sq fun bx bd=>rg aa<|p (ld pB aa<|(a7 ax).trans<|by rw [bu]; rfl)<|p (bP l6 aa aa)<|p (ld bO aa<|(a7 aD).trans aa)<|p (cw aa aa)<|nl<|tn<|bd _ _<|cd aa (fun heq=> ?_) fun heq=> ?_
 exact ext<|mj aw<|⟨aa,(eW.wk a.md).trans ((eW.md G<|lY<|a8 C a.md).trans<|eW.md I fun k hk=>⟨_,_,_,hk ▸ an⟩),fun k=>ag.ownBlock=some k,(Gw.wk a.md).trans ((Gw.md G (fun k hk=> .inl<|(Y k).1 hk) fun k hk=>(aV k hk).imp (fun h=>(Y k).1 h) id).trans<|Gw.md I (fun k hk=> .inr<|by subst hk; exact av) fun _ h=> .inl h),aa,⟨ag,ax,aY,fun _=>Iff.rfl,aU,aS,aD,aM,ab⟩⟩
 exact aR<|bn<|⟨(eW.wk a.md).trans ((eW.md G<|lY<|a8 C a.md).trans<|eW.md I fun k hk=>⟨_,_,_,hk ▸ an⟩),fun k=>ag.ownBlock=some k,(Gw.wk a.md).trans ((Gw.md G (fun k hk=> .inl<|(Y k).1 hk) fun k hk=>(aV k hk).imp (fun h=>(Y k).1 h) id).trans<|Gw.md I (fun k hk=> .inr<|by subst hk; exact av) fun _ h=> .inl h),⟨ag,ax,aY,fun _=>Iff.rfl,aU,aS,aD,aM,ab⟩⟩
 intro D A bb ay M
 obtain ⟨fp,v,O,C,Y,au,aq,am,V,hlen⟩:=ay
 refine dU<|dY<|eC<|rg aa<|p (ld pB aa<|(a7 O).trans aa)<|p aE<|nl<|dU<|qQ<|vX aa aa M ?_
 exact ⟨cx (by rw [HY hlen]; exact C) (kD _ _ _) (fun k hk h=>by obtain ⟨c,e,z,h1⟩:=lY C k hk; rw [h,M] at h1; cases h1),Md.trans' V (kD _ _ _) fun k hk h=>by have :=aj.size; omega⟩
 intro D A pre bb bt bk M
 obtain ⟨fp,_,v,O,C,Y,au,aq,am,V,hlen⟩:=bk
 refine dU<|dY<|eC<|rg aa<|p (ld pB aa<|(a7 O).trans aa)<|p aE<|nl<|dU<|qQ<|vX aa aa M ?_
 exact ⟨cx (by rw [H0 bt hlen bQ]; exact C) (kD _ _ _) (fun k hk h=>by obtain ⟨c,e,z,h1⟩:=lY C k hk; rw [h,M] at h1; cases h1),Md.trans' V (kD _ _ _) fun k hk h=>by have :=aj.size; omega⟩
 exact fun _ _ _ _ _ h _=>by obtain ⟨_,h,_⟩:=h; cases h
theorem Sp (n most:Int) (w:World) (bI:most≤1048576):
 bf ao 26 (ba [.pointer none,.int .i64 n,.int .i64 most]) w (fun v w'=>bq w' w.heap.size 49 5 v (ir ([]:List bu) most).length (dI<|ir ([]:List bu) most)∧Wk w w'):=by
 refine vU [] func26 aa ntmps26 aa ?_
 refine dY<|eC<|rg aa<|e<|qz aa aa fun Y bX bA aN a1=> ?_
 have bS:=aN.size
 refine p aE<|nl<|dU<|dY<|eC<|rg aa<|e<|gn IP fun ai bs bB aA a3=> ?_
 have bT:=aA.size
 have aM:=aN.md.trans aA.md
 have aK:=Wk.aB aA.md a1
 refine nl<|dU<|dY<|dY<|eC<|rg aa<|p (ld bO aa<|(a7 aK).trans aa)<|p (lt aa aa)<|nl<|dU<|eC<|cd aa (fun bQ=> ?_) fun bQ=> ?_
 refine sq fun aY az=>rg aa<|p aE<|nl<|tn<|az _ _<|rt<|prt<|EK aa aa ?_
 exact ⟨by rw [HZ bQ]; exact dS _ _ _ _,aM⟩
 refine aR<|dU<|dY<|dY<|eC<|rg aa<|p mv<|p mv<|e<|cl DN (tD none n bs) aa fun bV aF bd=> ?_
 obtain ⟨Z,be,rfl,bF,bD,aQ,aO,ak⟩:=bd
 have aj:=aM.trans ak
 have bM:=ak.size
 have bj:=Wk.aB ak a3
 have bh:iy aF Y most:=Wk.aB ak aK
 have av:ai < aF.heap.size:=ab
 have aU:Y < aF.heap.size:=ab
 have aV:=(bY.1 aQ).1
 have hle:=(bY.1 aO).1
 have aX:=aj.size
 refine nl<|dU ?_
 apply Hq (pJ) (([]:List bu)) (fun W=>ji W Z none) (fun pre fp A=> ∃ v,A.heap[ai]? =some (.cells [v].toArray 29 (0,0))∧bq A w.heap.size 49 5 v pre.length (dI pre)∧(∀ k,v.ownBlock=some k↔fp k)∧ji A Z none∧iy A be n∧iy A Y most∧Wk w A∧(pre.length:Int) < most) (fun r pre fp A=>r=false∧∃ v,A.heap[ai]? =some (.cells [v].toArray 29 (0,0))∧bq A w.heap.size 49 5 v pre.length (dI pre)∧(∀ k,v.ownBlock=some k↔fp k)∧ji A Z none∧iy A be n∧iy A Y most∧Wk w A∧(pre.length:Int)=most) rfl DV (fun _=>rfl) (Pl Z be n) (⟨.slice none 0 0,bj,dS _ _ _ _,fun k=>by simp [gG],aQ,aO,bh,aj,by simp only [fZ]; omega⟩) (fun pre fp W ⟨v,h1,h2,h3,h4,h5,ac,ad,ae⟩=>⟨h4,fun k hk=>(cV h2<|(h3 k).2 hk).2⟩) (fun r pre fp W ⟨aI,v,h1,h2,h3,h4,h5,ac,ad,ae⟩=>⟨h4,fun k hk=>(cV h2<|(h3 k).2 hk).2⟩) (fun pre fp W aZ F ⟨v,h1,h2,h3,h4,h5,ac,ad,ae⟩ hm E=>⟨v,kI h1 hm av E,xC h2 hm (fun k hk=>(h3 k).1 hk) E,h3,kI h4 hm aV E,kI h5 hm hle E,kI ac hm aU E,xD ad hm aX E,ae⟩) (fun r pre fp W aZ F ⟨aI,v,h1,h2,h3,h4,h5,ac,ad,ae⟩ hm E=>⟨aI,v,kI h1 hm av E,xC h2 hm (fun k hk=>(h3 k).1 hk) E,h3,kI h4 hm aV E,kI h5 hm hle E,kI ac hm aU E,xD ad hm aX E,ae⟩) (fun x b A=>A.heap[b]? =some (.cells (cB x).toArray 49 (0,0))) (C2 (f:=cB))
 intro l x A K J
 exact rg aa<|e<|gn p6 fun aH b0 bC bc a4=>e<|fY pI aa aa aa aa a4 aw fun bZ bb a2=>nl<|tn<|J aH _ (bc.md.trans' bb fun q bJ h=>by omega) a2
 intro l pre x rest fp aH A bL ay aJ
 obtain ⟨v,M,C,V,au,aq,am,O,hlen⟩:=ay
 have bU:=O.size
 have bE:=(bY.1 aJ).1
 refine aB<|sq fun aY az=>rg aa<|p (ld pB aa<|(a7 M).trans aa)<|p (cg hZ aa (aa) fun j bG=>(lJ aJ).bp j)<|e<|nM pW aa aa aa fun bw bW bz a a0=> ?_
 have bN:=a.size
 refine e<|ap pW (a8 C a.md) aa ab aa (aG.fV a0) (aa) (aa) ab ab fun ag br aD G bR aT=> ?_
 have a6:=Wk.own (O.trans a.md) (a8 C a.md) G<|cz _
 have an:=G.aB (a.md.aB M) fun h=>dx (a8 C a.md) (a.md.aB M) aw h
 obtain ⟨bv,bx,bo⟩:=cT aD
 have bl:=G.aB (a.md.aB au) fun h=>dx (a8 C a.md) (a.md.aB au) aw h
 have bk:=G.aB (a.md.aB aq) fun h=>dx (a8 C a.md) (a.md.aB aq) aw h
 have bi:=G.aB (a.md.aB am) fun h=>dx (a8 C a.md) (a.md.aB am) aw h
 refine e<|dy Em aa aa (eM aD) an (by simp) fun ah I ax=> ?_
 have aL:Wk w ah:=Md.trans' a6 I fun k hk h=>by omega
 have al:TF br [31] (fun q=>q=ai):=TF.eq (dD an) aw
 have aW:bq ah w.heap.size 49 5 ag (pre++ [x]).length (dI<|pre++ [x]):=cX (by rw [show dI (pre++ [x])=dI pre++cB x from by unfold dI; rw [qi,ri],bK]; exact aD) I al aw
 have aS:ji ah Z none:=I.gT al bl aw
 have aP:iy ah be n:=I.gT al bk aw
 have aC:iy ah Y most:=I.gT al bi aw
 have bH:(pre++ [x]).length=pre.length+1:=by simp
 refine nl<|tn<|az _ _<|sq fun bt a9=>rg aa<|p (ld pB aa<|(a7 ax).trans<|by rw [bo]; rfl)<|p (bP l6 aa aa)<|p (ld bO aa<|(a7 aC).trans aa)<|p (cw aa aa)<|nl<|tn<|a9 _ _<|cd aa (fun heq=> ?_) fun heq=> ?_
 exact ext<|mj aw<|⟨aa,(eW.wk a.md).trans ((eW.md G<|lY<|a8 C a.md).trans<|eW.md I fun k hk=>⟨_,_,_,hk ▸ an⟩),fun k=>ag.ownBlock=some k,(Gw.wk a.md).trans ((Gw.md G (fun k hk=> .inl<|(V k).1 hk) fun k hk=>(aT k hk).imp (fun h=>(V k).1 h) id).trans<|Gw.md I (fun k hk=> .inr<|by subst hk; exact av) fun _ h=> .inl h),aa,⟨ag,ax,aW,fun _=>Iff.rfl,aS,aP,aC,aL,ab⟩⟩
 exact aR<|bn<|⟨(eW.wk a.md).trans ((eW.md G<|lY<|a8 C a.md).trans<|eW.md I fun k hk=>⟨_,_,_,hk ▸ an⟩),fun k=>ag.ownBlock=some k,(Gw.wk a.md).trans ((Gw.md G (fun k hk=> .inl<|(V k).1 hk) fun k hk=>(aT k hk).imp (fun h=>(V k).1 h) id).trans<|Gw.md I (fun k hk=> .inr<|by subst hk; exact av) fun _ h=> .inl h),⟨ag,ax,aW,fun _=>Iff.rfl,aS,aP,aC,aL,ab⟩⟩
 intro D A a5 ay J
 obtain ⟨fp,v,M,C,V,au,aq,am,O,hlen⟩:=ay
 refine dU<|dY<|eC<|rg aa<|p (ld pB aa<|(a7 M).trans aa)<|p aE<|nl<|dU<|qQ<|vX aa aa J ?_
 exact ⟨cx (by rw [HY hlen]; exact C) (kD _ _ _) (fun k hk h=>by obtain ⟨c,e,z,h1⟩:=lY C k hk; rw [h,J] at h1; cases h1),Md.trans' O (kD _ _ _) fun k hk h=>by have :=aj.size; omega⟩
 intro D A pre a5 bm bg J
 obtain ⟨fp,_,v,M,C,V,au,aq,am,O,hlen⟩:=bg
 refine dU<|dY<|eC<|rg aa<|p (ld pB aa<|(a7 M).trans aa)<|p aE<|nl<|dU<|qQ<|vX aa aa J ?_
 exact ⟨cx (by rw [H0 bm hlen bQ]; exact C) (kD _ _ _) (fun k hk h=>by obtain ⟨c,e,z,h1⟩:=lY C k hk; rw [h,J] at h1; cases h1),Md.trans' O (kD _ _ _) fun k hk h=>by have :=aj.size; omega⟩
 exact fun _ _ _ _ _ h _=>by obtain ⟨_,h,_⟩:=h; cases h
end Go.Hb
end
section
namespace Go.Hb.vk
open Go.Hb.iD Go.Hb.iT Go.Hb.jL
def Bd (acc:List bu):Prop :=acc.length≤C7 acc∧C7 acc≤acc.length*1000∧acc.length≤2000000
section
variable {w w' w'':World} {fp fp' fp'':Nat→Prop} {S0 xb:Nat} {dH:Bool} {most limit:Int} {acc:List bu}
end
end Go.Hb.vk
end
section
namespace Go.Hb
open Go.Hb.iD Go.Hb.iT Go.Hb.jL Go.Hb.lD Go.Hb.vk
section
variable {w w':World} {fp fp':Nat→Prop} {S0 xb:Nat} {dH:Bool} {most limit:Int} {acc:List bu}
end
theorem OW {F:aC} {xs:List bj} (a:dW F xs) (n:Int):∀ d∈gJ F xs n,1≤d.c5.length∧d.c5.length≤200:=by
 intro d hd
 unfold gJ at hd
 split at hd
 · rename_i h
   obtain ⟨k,rfl⟩:∃ k:Nat,n=(k:Int):=⟨n.toNat,ab⟩
   have c:xs[k]? =some xs[k]:=bW ab
   have A:xs.getD k ([],[])=xs[k]:=by rw [cR,c]; rfl
   rw [jq] at hd
   have h1:=a.ne _<|fz c
   have h2:=(a.tH _<|fz c).1
   have :=OY (fun q C=>(a.fs.2 q C).2) (by rw [A]; exact h1) d hd
   rw [A] at this
   omega
 · cases hd
end Go.Hb
end
section
namespace Go.Hb
open Go.Hb.iD Go.Hb.iT Go.Hb.jL Go.Hb.lD Go.Hb.vk
theorem EG (a s1:Tx) (a0 q C d0 c A c1 d1:Int) (w:World):(binOp .eql 49 (.agg [str a,.int .i64 a0,.int .i64 q,.int .i64 C,.int .i64 d0].toArray)<|.agg [str s1,.int .i64 c,.int .i64 A,.int .i64 c1,.int .i64 d1].toArray).run ao w= .ok (.bool<|decide (a=s1∧a0=c∧q=A∧C=c1∧d0=d1)) w:=by
 have G:=underlying9
 have I:=underlying3
 have E:ao.underlying 49=some (.struct<|ao.fieldsOf 49):=ag
 have hp:ao.stoodInHeld 49=false :=ag
 rw [run_eql_struct,show (10000:Nat)=9999 +1 from rfl,run_equalIn_agg w 9999 49 _ _ E hp]
 simp only [Program.fieldsOf,underlying49]
 have hs:(str a=str s1)=(a=s1):=by unfold str; simp
 unfold str at*
 go_simp
 by_cases h1:a=s1 <;> by_cases h2:a0=c <;> by_cases h3:q=A <;> by_cases h4:C=c1 <;> by_cases h5:d0=d1 <;> simp [h1,h2,h3,h4,h5]
section
variable {N:Fm} {σ:Nat→Value} {w:World} {dst:Option Nat} {ty:TypeId} {pos :String} {af:Array Edge} {g:Option (Nat×Bool)} {x y:Operand}
theorem EF {J:TypeId} {C s1:Tx} {a0 c A d0 a q c1 d1:Int} (G:ev N σ x= .agg [str C,.int .i64 a0,.int .i64 c,.int .i64 A,.int .i64 d0].toArray) (I:ev N σ y= .agg [str s1,.int .i64 a,.int .i64 q,.int .i64 c1,.int .i64 d1].toArray):
 (execOp (ev N σ) ⟨dst,.binOp .eql 49 x y J,ty,pos,af,g⟩).run ao w= .ok (.value<|.bool<|decide (C=s1∧a0=a∧c=q∧A=c1∧d0=d1)) w:=by
 have hm:ao.eqGuardType ao.depth 49=false :=ag
 have E:=run_eqGuard_agg w .eql 49 x y [str C,.int .i64 a0,.int .i64 c,.int .i64 A,.int .i64 d0].toArray [str s1,.int .i64 a,.int .i64 q,.int .i64 c1,.int .i64 d1].toArray hm
 have he:=EG C s1 a0 c A d0 a q c1 d1 w
 simp only [execOp,G,I,Sem.run_bind,E,he,Result.andThen_ok,Sem.run_pure]
end
theorem rV {l:List bu} (h:0 < l.length):dI l≠[]:=zR (f:=cB) (m:=5) (fun _=>rfl) aw h
theorem nZ {w:World} {B e:Nat} {a:Option Addr} {L:List bu} {c:Nat} (h:bq w B e 5 (.slice a L.length c) L.length (dI L)):aG w.heap a (dI L):=(a6 h).2
end Go.Hb
end
