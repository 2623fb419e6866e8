/-
  Walks and plain laws that the law rests on, laid together. No conditions but those that each theorem names.
-/
import Derived.Test.YtchkamdekbbgeaaGreatDoorMnAnalyseCounts5
set_option linter.unusedVariables false
set_option maxRecDepth 20000
set_option maxHeartbeats 1000000
open Array renaming getElem?_eq_some_iff→bT
open Bool renaming and_eq_true→gp,and_false→xX,noConfusion→c7,or_eq_false_iff→pk
open Classical renaming byContradiction→uP,not_not→mI
open Go.Calls renaming mono→j7
open Go.Proofs.Tryz renaming prog→ao
open Go.Value renaming bool→bU,int→fL,oneCell'→eQ,ownBlock→gH,slice→bC
open Go.World renaming ownsRow→bq,ownsRow_nil→eh
open Int renaming toNat_natCast→jL
open List renaming all_cons→x9,all_eq_true→kP,append_assoc→ea,append_nil→eu,drop_eq_nil_of_le→lK,eq_nil_of_length_eq_zero→gq,ext_getElem?→oz,filterMap_append→Cy,flatMap_append→q8,flatMap_singleton→sS,getD_eq_getElem?_getD→cU,getElem?_append_left→mK,getElem?_append_right→nK,getElem?_eq_getElem→bX,getElem?_eq_some_iff→eR,getElem?_map→fF,getElem?_set→kt,getElem?_take→oA,getElem?_zip_eq_some→jj,length_append→bJ,length_cons→bS,length_map→e9,length_pos_iff→mN,length_range→sV,length_set→vc,length_zip→yj,map_append→gV,mem_cons→ew,mem_filter→sX,mem_flatMap→nO,mem_map→gW,mem_of_getElem?→fU,prefix_append→sY,prefix_refl→yr,range→fM,range_succ→JN,take_append_drop→vg,take_of_length_le→fu,toArray→a7
open Nat renaming le_refl→cj,le_trans→dS,lt_succ_iff_lt_or_eq→nS,mul_le_mul_right→oD,zero_le→ku
open Option renaming isSome_iff_exists→me
open Go.Proofs.Tryz
open Go.Hb.dI Go.Proofs Go.Hb.ez Go.Hb.ff Go.Hb.gX Go.Hb.fw Go.Hb.gL

section
namespace Go.Hb.iJ
open Go.Hb.nU Go.Hb.qk
theorem Q3:zP ao 102 3=some (96,3):=ag
def qz (q:bg×Value):List Value:= [str q.1.1,q.2]
def kV (l:List (bg×Value)):List Value:=l.flatMap qz
theorem PF (l:List (bg×Value)) (q:bg×Value):kV (l++ [q])=kV l++qz q:=by simp [kV]
theorem PG (l:List (bg×Value)):(kV l).length=l.length*2:=mu (f:=qz) (m:=2) (fun _=>rfl) l
theorem np {w:World} {B e size n k:Nat} {v:Value} {xs:List Value} (h:bq w B e size v n xs) (hk:v.ownBlock=some k) (C:∀ cur z,w.heap[k]?≠some (.cells cur e z)):False:=by
 rcases h.2 with ⟨rfl,rfl⟩ | ⟨g,cap,cur,rfl,_,A,_⟩
 · cases hk
 · have c:g=k:=by simpa [gH] using hk
   subst c
   exact C _ _ A
structure mh (w:World) (B:Nat) (f:Value→Option Value) (xs:List bg):Prop where
 own:∀ s:Tx,bq w B 3 1 ((f<|str s).getD<|bC none 0 0) (idxs s xs).length ((idxs s xs).map fG)
 nil:∀ s:Tx,idxs s xs= []→(f<|str s).getD (bC none 0 0)=(bC none 0 0)
theorem mh.md {G:Nat→Prop} {w w':World} {B:Nat} {f:Value→Option Value} {xs:List bg} (h:mh w B f xs) (hm:Md G w w') (c:∀ k,G k→∀ cur z,w.heap[k]?≠some (.cells cur 3 z)):mh w' B f xs:=by
 refine ⟨fun s=> ?_,h.nil⟩
 refine cD (h.own s) hm fun k hk C=> ?_
 exact np (h.own s) hk fun cur z A=>c k C cur z A
theorem A6 {w:World} {B B' k n A:Nat} {v C:Value} {xs E:List Value} (h:bq w B 3 1 v n xs) (O:bq w B' 3 1 C A E) (hk:v.ownBlock=some k) (Y:C.ownBlock=some k) (hn:0 < n) (ae:0 < A):xs[0]? =E[0]? :=by
 rcases h.2 with ⟨rfl,rfl⟩ | ⟨g,cap,cur,rfl,_,V,_,_,_,Z⟩
 · omega
 · rcases O.2 with ⟨rfl,rfl⟩ | ⟨J,ac,ad,rfl,_,c,_,_,_,aa⟩
   · omega
   · have G:g=k:=by simpa [gH] using hk
     have I:J=k:=by simpa [gH] using Y
     subst G I
     rw [V] at c
     cases c
     rw [← Z,← aa,oA,oA,if_pos ab,if_pos ab]
theorem mh.sep {w:World} {B k:Nat} {f:Value→Option Value} {xs:List bg} {s t:Tx} (h:mh w B f xs) (G:s≠t) (hs:((f<|str s).getD<|bC none 0 0).ownBlock=some k):((f<|str t).getD<|bC none 0 0).ownBlock≠some k:=by
 intro c
 have A:idxs s xs≠[]:=fun e=>by rw [h.nil s e] at hs; cases hs
 have C:idxs t xs≠[]:=fun e=>by rw [h.nil t e] at c; cases c
 have he:=A6 (h.own s) (h.own t) hs c (mN.2 A)<|mN.2 C
 cases h1:idxs s xs with
 | nil=>exact A h1
 | cons i l=>
   cases h2:idxs t xs with
   | nil=>exact C h2
   | cons j m=>
     rw [h1,h2] at he
     have E:i=j:=by have h:=he; simp only [List.map_cons,List.getElem?_cons_zero,Option.some.injEq,fG,Value.int.injEq,true_and] at h; omega
     subst E
     have m1:i∈idxs s xs:=by rw [h1]; simp
     have m2:i∈idxs t xs:=by rw [h2]; simp
     unfold idxs at m1 m2
     have I:=of_decide_eq_true (sX.1 m1).2
     have J:=of_decide_eq_true (sX.1 m2).2
     exact G<|I.symm.trans J
theorem mh.put {w C O:World} {B mb:Nat} {f:Value→Option Value} {xs:List bg} {x:bg} {v:Value} (h:mh w B f xs) (hm:Md (fun k=>((f<|str x.1).getD<|bC none 0 0).ownBlock=some k) w C)
 (J:bq C B 3 1 v (idxs x.1 xs++ [xs.length]).length ((idxs x.1 xs++ [xs.length]).map fG)) (I:∀ cur z,C.heap[mb]?≠some (.cells cur 3 z)) (G:Md (fun k=>k=mb) C O):mh O B (bz f (str x.1) v) (xs++ [x]):=by
 refine ⟨fun s=> ?_,fun s hs=> ?_⟩
 · by_cases c:x.1=s
   · subst c
     rw [mB,An,if_pos rfl]
     exact cD J G fun k hk A=>np J hk fun cur z E=>I cur z<|A ▸ E
   · rw [k0 (fun e=>c (str_inj.1 e).symm),An,if_neg c,eu]
     have h1:=cD (h.own s) hm fun k hk A=>h.sep c A hk
     exact cD h1 G fun k hk A=>np h1 hk fun cur z E=>I cur z<|A ▸ E
 · rw [An] at hs
   by_cases c:x.1=s
   · rw [if_pos c] at hs; simp at hs
   · rw [if_neg c,eu] at hs
     rw [k0 (fun e=>c (str_inj.1 e).symm)]; exact h.nil s hs
structure ke (w:World) (B wb mb:Nat) (va:Value) (vs:List Value) (xs:List bg):Prop where
 cells:w.heap[wb]? =some (.cells [va,.map (some mb)].toArray 184 (0,0))
 own:bq w B 53 2 va xs.length (kV<|xs.zip vs)
 fl:dH w B 95 vs (xs.map (·.2))
 mp:∃ f,bQ w.heap mb iu f∧mh w B f xs
theorem ke.md {G:Nat→Prop} {w w':World} {B wb mb:Nat} {va:Value} {vs:List Value} {xs:List bg} (h:ke w B wb mb va vs xs) (hm:Md G w w') {L:List Nat} (c:TF w L G) (C:(L.contains 186 || L.contains 55 || L.contains 97 || L.contains 5)=false) (J:¬G mb):ke w' B wb mb va vs xs:=by
 simp only [pk] at C
 obtain ⟨⟨⟨h1,h2⟩,h3⟩,h4⟩:=C
 obtain ⟨f,E,I⟩:=h.mp
 exact ⟨hm.gZ c h.cells h1,cX h.own hm c h2,h.fl.md hm (fun k hk cur z A=>c.no (dD A) h3 hk),⟨f,E.md hm J,I.md hm fun k hk cur z A=>c.no (dD A) h4 hk⟩⟩
theorem ke.wk {w w':World} {B wb mb:Nat} {va:Value} {vs:List Value} {xs:List bg} (h:ke w B wb mb va vs xs) (hm:Wk w w'):ke w' B wb mb va vs xs:=h.md (L:= []) hm (fun _ hk=>hk.elim) rfl id
theorem Ph {F:aC} {t:Tx} {ln:Nat} {row:List Tx} {rows:List Rw} (h:¬65536 < t.length) (h1:eW t=(ln,row)::rows) (h2:(lx row).2≠0):∃ e:Nat,(lx row).2=(e:Int)∧fP F t= .error (ln,e):=by
 unfold lx at h2 ⊢
 by_cases c:row.length≠1
 · rw [if_pos c]; exact ⟨111,rfl,Pl h h1 c⟩
 · rw [if_neg c] at h2 ⊢
   have h3:=wV (s:=row.getD 0 []) (most:=8192) h2
   exact ⟨13,h3.2,Pq h h1 (mI.1 c) h3.1⟩
theorem Pj {F:aC} {t:Tx} {ln:Nat} {row:List Tx} {rows:List Rw} (h:¬65536 < t.length) (h1:eW t=(ln,row)::rows) (h2:(lx row).2=0):∃ n:Nat,(lx row).1=n∧n≤8192∧fP F t=eM F ((dx t).length+1) n rows:=by
 unfold lx at h2 ⊢
 by_cases c:row.length≠1
 · rw [if_pos c] at h2; cases h2
 · rw [if_neg c] at h2 ⊢
   exact ⟨_,aa,by have :=wU (row.getD 0 []) 8192 h2; omega,EA h h1 (mI.1 c)<|wW h2⟩
theorem H7 {u:Tx} {a:Value} (h:a.oneCell'=true):[str u,a].all eQ=true :=by rw [x9,x9,h]; rfl
def Kj (l e:Nat):Value:= .agg [.int .i64 2,.int .i64 (l:Nat),.int .i64 (e:Nat)].toArray
def Kh (w':World) (B0:Nat) (xs:List bg) (v:Value):Prop := ∃ B wb mb va vs,B0≤B∧v= .tuple #[.pointer (some ⟨wb,0,none⟩),.agg [.int .i64 0,.int .i64 0,.int .i64 0].toArray]∧ke w' B wb mb va vs xs∧B0≤wb∧B0≤mb
def Kg (e:Nat×Nat) (v:Value):Prop :=v= .tuple #[.pointer none,Kj e.1 e.2]
def la (F:aC) (t:Tx) (w:World) (v:Value) (w':World):Prop :=(match fP F t with | .ok xs=>Kh w' w.heap.size xs v | .error e=>Kg e v)∧Wk w w'
theorem la.no {F:aC} {t:Tx} {w w':World} {l e:Nat} (h:fP F t= .error (l,e)) (hm:Wk w w'):la F t w (.tuple #[.pointer none,.agg [.int .i64 2,.int .i64 (l:Nat),.int .i64 (e:Nat)].toArray]) w':=by
 unfold la; rw [h]; exact ⟨rfl,hm⟩
theorem Pu (B fb mc:Nat) (F:aC) (V:ei) (t:Tx) (w:World) (cw:dp w B fb mc F V) (dW:∃ seen,ka F [] seen) (e2:Nx F) (hs:t.length≤1048576):
 bf ao 40 (a7 [aU fb,str t]) w (la F t w):=by
 refine enter func40 aa ntmps40 aa<|ak fun db=>p aE<|e<|dY nB fun bN fB fR cA co=> ?_
 have cn:bE fB.heap bN [.int .i64 0,.int .i64 0,.int .i64 0]:=⟨_,co⟩
 refine nl<|db<|aB fun dk=>ak fun dr=>au (aU fb)<|p (iZ uG aa aa)<|nl<|dr<|cf (aa)<|aR<|dk<|ak fun ds=>au (str t)<|e<|cl DW (HO t _ hs) aa fun v22 cc eg=> ?_
 obtain ⟨⟨a22,rfl,cL⟩,hE22⟩:=eg
 have cu:=cA.md.trans hE22
 have gf:=cA.size
 refine p mv<|p (xt aa aa)<|p (xt aa aa)<|p aE<|ay<|ds<|aB fun dt=>ak fun dv=>p mv<|p (gF aa aa)<|nl<|dv<|cd aa (fun b6=> ?_) fun b6=> ?_
 have cI:65536 < t.length:=uP fun h=>b6<|by rw [if_neg h]
 refine ak fun bI=>p mv<|e<|cl rM (rR 0 (if 65536 < t.length then 10 else 0) cc) aa fun v28 gA ej=> ?_
 obtain ⟨rfl,bR⟩:=ej
 have gb:=(hE22.trans bR).size
 refine p aE<|e<|dd iP aa aa aa aa (Wk.B (hE22.trans bR) cn) (by simp) fun gN ea dT=>nl<|bI<|rt<|tr<|fg aa eI (dZ (cs:= [.int .i64 2,.int .i64 0,.int .i64 (if 65536 < t.length then 10 else 0)]) aa kD aa fun j av=>dT.bu j) ?_
 have h:=la.no (F:=F) (Po cI)<|(cu.trans bR).trans' ea fun q C h=>by omega
 show la F t w (.tuple #[.pointer none,.agg [.int .i64 2,.int .i64 0,.int .i64 (if 65536 < t.length then 10 else 0)].toArray]) _
 rw [if_pos cI]
 exact h
 have a6:¬65536 < t.length:=fun h=>b6<|by rw [if_pos h]; decide
 rw [if_neg a6] at cL
 obtain ⟨c4,qv,rfl⟩:=c5 cL
 have fY:=qI t
 refine aR<|dt<|ak fun bI=>au (str t)<|e<|cl DV (Hq t _ hs) aa fun v31 aA ek=> ?_
 obtain ⟨⟨a31,rfl,cK⟩,hE31⟩:=ek
 rw [if_neg a6] at cK
 obtain ⟨c7,bv,bw⟩:=cK
 obtain ⟨ar,cr,rfl⟩:=c5 bv
 have aF:=cu.trans hE31
 have aW:=Wk.B (hE22.trans hE31) cn
 have gc:=(hE22.trans hE31).size
 have c2:=Ho t
 refine p mv<|p (xt aa aa)<|p (xt aa aa)<|p aE<|ay<|bI<|aB fun dy=>ak fun dz=>p mv<|p (bP xG aa aa)<|p (cx aa aa)<|nl<|dz<|cd aa (fun b7=> ?_) fun b7=> ?_
 have e1:eW t= []:=gq ab
 refine ak fun bx=>p mv<|p (bP gU aa aa)<|p (bK (((dx t).length+1:Nat):Int) aa aa<|bl ab ab)<|e<|cl rM (rR ((dx t).length+1:Nat) 116 aA) aa fun v40 gB el=> ?_
 obtain ⟨rfl,bT⟩:=el
 have gd:=bT.size
 exact p aE<|e<|dd iP aa aa aa aa (Wk.B bT aW) (by simp) fun gP eb dU=>nl<|bx<|rt<|tr<|fg aa eI (dZ (cs:= [.int .i64 2,aj ((dx t).length+1),.int .i64 116]) aa kD aa fun j av=>dU.bu j)<|la.no (Pp a6 e1)<|(aF.trans bT).trans' eb fun q C h=>by omega
 obtain ⟨⟨c6,aQ⟩,rest,Z⟩:∃ q rest,eW t=q::rest:=by
  cases h:eW t with
  | nil=>rw [h] at b7; exact absurd rfl b7
  | cons q rest=>exact ⟨q,rest,rfl⟩
 have ca:=bw.1
 rw [Z] at bv bw ca c2
 obtain ⟨⟨aP,fw⟩,rvs',rfl⟩:∃ q cb,c7=q::cb:=by
  cases c7 with
  | nil=>exact absurd ca<|by simp
  | cons q cb=>exact ⟨q,cb,rfl⟩
 obtain ⟨fc,c0⟩:=bw.2 0 (aP,fw) (c6,aQ) rfl rfl
 obtain rfl :aP=c6:=fc
 obtain ⟨a0,dA,rfl⟩:=c0.slice
 have a3:=(aY bv).2
 have eQ:=(aY bv).1
 have cP:∀ q∈(aP,aQ)::rest,q.2.length≤70000∧∀ x∈q.2,x.length≤70000:=fun q C=>by
  have h:=Hp (show q∈eW t by rw [Z]; exact C)
  exact ⟨ab,fun x fs=>by have :=(h.2.2.2.2 x fs).2; omega⟩
 have cO:=cP _<|List.mem_cons_self ..
 simp only [bS] at ca c2 eQ
 refine aR<|dy<|ak fun bx=>p mv<|p (bc rU aa aa (by rw [Z]; simp only [bS]; omega)<|aG.ok (a3)<|xj<|by simp)<|p (cE vu aa (aa)<|xk (i:=0) a3 aa)<|e<|cl MW (Pk aP aQ cc.heap.size a0 dA aA c0 cO.2 cO.1) aa fun v45 fA em=> ?_
 obtain ⟨rfl,aK⟩:=em
 have ge:=aK.size
 refine p mv<|p (xt aa aa)<|p (xt aa aa)<|p aE<|ay<|bx<|aB fun dc=>ak fun de=>p mv<|p (gF aa aa)<|nl<|de<|cd aa (fun cJ=> ?_) fun cJ=> ?_
 obtain ⟨fL,eS,b4⟩:=Ph (F:=F) a6 Z cJ
 refine ak fun bz=>p mv<|p (bc rU aa aa (by rw [Z]; simp only [bS]; omega)<|aG.ok (a3.wk aK)<|xj<|by simp)<|p (fa wj aa)<|p (ld bH aa<|xk (i:=0) (a3.wk aK) aa 0 aw)<|p mv<|e<|cl rM (rR (aP:Nat) (lx aQ).2 fA) aa fun v55 gC en=> ?_
 obtain ⟨rfl,bU⟩:=en
 have gg:=bU.size
 refine p aE<|e<|dd iP aa aa aa aa (Wk.B (aK.trans bU) aW) (by simp) fun gI d6 dF=>nl<|bz<|rt<|tr<|fg aa eI (dZ (cs:= [.int .i64 2,aj aP,.int .i64 (lx aQ).2]) aa kD aa fun j av=>dF.bu j) ?_
 have h:=la.no b4<|(aF.trans<|aK.trans bU).trans' d6 fun q C h=>by omega
 show la F t w (.tuple #[.pointer none,.agg [.int .i64 2,aj aP,.int .i64 (lx aQ).2].toArray]) _
 rw [eS]
 exact h
 obtain ⟨n,cS,fZ,b4⟩:=Pj (F:=F) a6 Z (show (lx aQ).2=0 by omega)
 have d5:=cw.wk<|aF.trans aK
 obtain ⟨seen,cp⟩:=dW
 have fW:=cp.len
 refine aR<|dc<|ak fun bz=>e<|qK fun ac gD fS b2 dR=> ?_
 have gh:=b2.size
 refine p (du (ps:= [(1,.map (some ac))]) (L:= [.slice none 0 0,.map (some ac)]) VN aa<|aa)<|e<|pL aa fun E fC fT bk dS=> ?_
 have gi:=bk.size
 have d2:=aK.trans<|b2.md.trans bk.md
 refine ay<|bz<|ak fun df=>au (aU fb)<|e<|cl tw (th B fb mc F V fC (d5.wk<|b2.md.trans bk.md) ab e2) aa fun v60 gE eo=> ?_
 obtain ⟨⟨fH,rfl,_⟩,hE60⟩:=eo
 have gj:=hE60.size
 refine p (QH Q3 CU aa aa)<|e<|al Xt fun bL gw fN bh dG=> ?_
 have f3:=bh.size
 refine e<|dd OW aa aa aa aa (dG) (by simp) fun O bb dI=> ?_
 have d0:Wk aA O:=(d2.trans<|hE60.trans bh.md).trans' bb fun q C h=>by omega
 have f5:=bb.size
 have eK:O.heap[E]? =some (.cells [.slice none 0 0,.map (some ac)].toArray 184 (0,0)):=bb.az (Wk.az (hE60.trans bh.md) dS) fun h=>by omega
 have eY:bQ O.heap ac iu (fun _=>none):=bQ.md (bQ.wk (bQ.nil dR)<|bk.md.trans<|hE60.trans bh.md) bb fun h=>by omega
 have ew:ke O O.heap.size E ac (.slice none 0 0) [] []:=⟨eK,eh _ _ _ _,dH.nil _ _ _,⟨_,eY,⟨fun s=>eh _ _ _ _,fun s _=>rfl⟩⟩⟩
 have eE:bE O.heap bL [aX (F.sp.getD 0 0),aX (F.sp.getD 1 0),aX (F.sp.getD 2 0),aX (F.sp.getD 3 0),aX (F.sp.getD 4 0)]:=dI
 have cq:aG aA.heap (fD ar cr 1 2) (l6 rvs'):=by
  have h:=a3.drop (cap:=cr) (k:=1) (size:=2)<|by rw [Hu]; simp only [bS]; omega
  exact h
 have ez:iH F ((dx t).length+1) (fP F t) [] (n - 0) (rest.drop 0):=by rw [b4]; exact iH.start
 refine nl<|df<|aB fun dg=>ak fun dh=>p mv<|p (uy rU aa aa<|by rw [Z]; simp only [bS]; omega)<|p (bP xG aa aa)<|p mv<|nl<|dh<|az<|lp (fun ck ai aD=> ∃ (i:Nat) (xs:List bg) (vs:List Value) (va:Value),(i≤rest.length∧i≤n)∧(xs.length=i)∧(iH F ((dx t).length+1) (fP F t) xs (n - i)<|rest.drop i)∧(ke aD O.heap.size E ac va vs xs)∧(Wk aA aD)∧(bE aD.heap bL [aX (F.sp.getD 0 0),aX (F.sp.getD 1 0),aX (F.sp.getD 2 0),aX (F.sp.getD 3 0),aX (F.sp.getD 4 0)])∧(O.heap.size≤aD.heap.size)∧(ai 0=aU fb)∧(ai 5=aU bN)∧(ai 6= .slice c4 (dx t).length qv)∧(ai 10=aj n)∧(ai 11=aU E)∧(ai 12=aU bL)∧(ai 63= .slice (fD ar cr 1 2) rest.length (cr - 1))∧(ai 64=aj (rest.length))∧(ai 65=aj i)∧(rest.length - i=ck)) _ ⟨0,[],[],.slice none 0 0,ab,aa,ez,ew,d0,eE,(cj _),aa,aa,aa,(by first | rfl | (rw [← cS]; rfl)),aa,aa,(by first | rfl | (rw [Z]; rfl)),(by first | rfl | (rw [Z]; rfl)),aa,aa⟩ ?_
 rintro ck ai aD ⟨i,xs,vs,va,hi,c3,am,aT,Y,cG,gr,fd,fi,fj,fe,ff,fh,fo,fq,fr,rfl⟩
 refine fx 0 fd<|fx 5 fi<|fx 6 fj<|fx 10 fe<|fx 11 ff<|fx 12 fh<|fx 63 fo<|fx 64 fq<|fx 65 fr<|ak fun di=>p (lt aa aa)<|nl<|di<|aB fun dj=>cd aa (fun eN=> ?_) fun eN=> ?_
 refine aR<|dj<|aB fun bA=>az<|aB fun bB=> ?_
 obtain ⟨⟨ln,r⟩,hri⟩:∃ q,rest[i]? =some q:=⟨_,bX ab⟩
 have eR:rest.drop i=(ln,r)::rest.drop (i+1):=by rw [List.drop_eq_getElem_cons ab]; rw [bX ab] at hri; rw [Option.some.inj hri]
 obtain ⟨p,c1⟩:∃ p,rvs'[i]? =some p:=⟨_,bX ab⟩
 obtain ⟨dB,cF⟩:=bw.2 (i+1) p (ln,r) c1 hri
 obtain ⟨fv,gt⟩:=p
 obtain rfl :ln=fv:=dB.symm
 obtain ⟨a,c,rfl⟩:=cF.slice
 have cQ:=cP (ln,r)<|List.mem_cons_of_mem _<|fU hri
 rw [eR] at am
 refine rg aa<|au (aj i)<|p (bc rU aa aa ab<|aG.ok (cq.wk Y)<|xj ab)<|p (cE vu aa (aa)<|xk (cq.wk Y) c1)<|e<|al IJ fun ch gy bo b1 dJ=> ?_
 have f6:=b1.size
 refine p (cg (aj i) aa)<|e<|dd Eo aa aa aa aa (dJ) (by simp) fun a1 b0 dK=> ?_
 have a9:Wk aA a1:=(Y.trans b1.md).trans' b0 fun q C h=>by omega
 have ct:Wk aD a1:=b1.md.trans' b0 fun q C h=>by omega
 have bo:bE a1.heap ch [aj ln,.slice a r.length c]:=dK
 have f8:=b0.size
 refine nl<|bB<|aB fun a2=>ak fun dl=>au (aj i)<|au (aj n)<|p (cx aa aa)<|nl<|dl<|cd aa (fun eO=> ?_) fun eO=> ?_
 refine ak fun bD=>p (fa wj aa)<|p (ld bH aa<|(bo.aJ 0).trans aa)<|e<|cl rM (rR (ln:Nat) 116 a1) aa fun v75 gG ep=> ?_
 obtain ⟨rfl,bV⟩:=ep
 have gk:=bV.size
 refine p aE<|e<|dd iP aa aa aa aa (Wk.B (a9.trans bV) aW) (by simp) fun gJ d7 dL=>nl<|bD<|rt<|tr<|br<|tr<|tr<|br<|tr<|fg aa eI (dZ (cs:= [.int .i64 2,aj ln,.int .i64 116]) aa kD aa fun j av=>dL.bu j) ?_
 rw [show n - i=0 by omega] at am
 exact la.no am.more<|(aF.trans<|a9.trans bV).trans' d7 fun q C h=>by omega
 refine aR<|a2<|ak fun bD=>au (aU fb)<|p (cE CU aa (aa) fun j av=>(Wk.B ct cG).bu j)<|p (cE vu aa (aa) fun j av=>bo.bu j)<|e<|cl MX (O7 B fb mc F V ln r cc.heap.size a c a1 (cw.wk<|aF.trans a9) ⟨seen,cp⟩ (cF.wk a9) cQ.2 cQ.1) aa fun v80 fE er=> ?_
 obtain ⟨d4,bY⟩:=er
 obtain ⟨A,a80,ci,rfl,cZ,cM⟩:∃ (u:Tx) (a:Value) (e:Nat),v80= .tuple #[.agg [str u,a].toArray,aj e]∧a.oneCell'=true∧((e=0∧∃ l,fQ F r= .ok (u,l)∧bq fE a1.heap.size 95 1 a l.length (l.map aX))∨(e≠0∧fQ F r= .error e)):=by
  rcases d4 with ⟨x,a,h1,h2,h3⟩ | ⟨e,h1,h2,h3⟩
  exact ⟨x.1,a,0,h2,e7 h3,.inl ⟨aa,x.2,h1,h3⟩⟩
  exact ⟨_,_,e,h3,aa,.inr ⟨h2,h1⟩⟩
 have gm:=bY.size
 refine p mv<|p (xt aa aa)<|p (xt aa aa)<|e<|dY pd fun bM gz fO bi cm=> ?_
 have f7:=bi.size
 refine e<|fk jy aa aa aa (H7 cZ) cm aw fun ax bd dM=> ?_
 have aS:Wk aD ax:=(ct.trans<|bY.trans bi.md).trans' bd fun q C h=>by omega
 have cH:ax.heap[bM]? =some (.cells [str A,a80].toArray 53 (0,0)):=dM
 have f9:=bd.size
 have eH:bE ax.heap ch [aj ln,.slice a r.length c]:=bd.B (Wk.B (bY.trans bi.md) bo) fun h=>by omega
 refine ay<|bD<|aB fun dn=>ak fun dq=>p mv<|p (gF aa aa)<|nl<|dq<|cd aa (fun eP=> ?_) fun eP=> ?_
 obtain ⟨f0,hex⟩:=cM.resolve_left fun h=>by omega
 refine ak fun bG=>p (fa wj aa)<|p (ld bH aa<|(eH.aJ 0).trans aa)<|p mv<|e<|cl rM (rR (ln:Nat) (ci:Nat) ax) aa fun gv gH es=> ?_
 obtain ⟨rfl,bZ⟩:=es
 have gn:=bZ.size
 exact p aE<|e<|dd iP aa aa aa aa (Wk.B (Y.trans<|aS.trans bZ) aW) (by simp) fun gK d8 dN=>nl<|bG<|rt<|tr<|br<|tr<|tr<|br<|tr<|fg aa eI (dZ (cs:= [.int .i64 2,aj ln,aj ci]) aa kD aa fun j av=>dN.bu j)<|la.no (am.bad ab hex)<|(aF.trans<|Y.trans<|aS.trans bZ).trans' d8 fun q C h=>by omega
 obtain ⟨_,aO,hex,e5⟩:=cM.resolve_right fun h=>by omega
 have bm:=aT.wk aS
 have e0:¬(va.ownBlock=some E):=dQ bm.own bm.cells aw
 have eZ:¬(va.ownBlock=some bM):=fun h=>by have :=(da aT.own h).2; omega
 have gs:=aS.size
 refine aR<|dn<|aB fun bG=> ?_
 have aN:(fun w'=>Md (fun q=>va.ownBlock=some q) ax w') ax.drew:=(Md.refl _ _).drew
 refine eG (fun w'=>Md (fun q=>va.ownBlock=some q) ax w') 10 aa wide aN<|bp 0 aa (aU E) aN<|bp 1 aa (aU E) aN<|bF 2 aa (fun _=>nc aa) (fun _=>aN)<|bF 3 aa (fun _=>fa tV aa) (fun _=>aN)<|eC 4 aa (fun w' I=>ld rA aa<|Md.aJ I ((aV bm.cells).trans aa) e0) aN<|eC 5 aa (fun w' I=>cE kS aa (aa) fun j av=>bE.bu ⟨_,Md.az I cH eZ⟩ j) aN<|iV 6 aa ag<|pK xq aa aa aa fun fK fF fV ed dV=> ?_
 have aL:=je ed.md
 have J:=bm.wk aL
 have gp:=aL.size
 have cB:(fun w'=>Md (fun q=>va.ownBlock=some q) ax w') fF:=Md.mono aL fun _ _ h=>h.elim
 refine ⟨cB,?_⟩
 refine iV 7 aa ag<|ap xq (J.own) aa ab aa (aG.gl dV) (aa) (H7 cZ) ab ab fun a8 ce cX ah fu fX=> ?_
 obtain ⟨f,cN,eV⟩:=J.mp
 have a4:=ah.az J.cells<|dQ J.own J.cells aw
 have cY:bq ce O.heap.size 53 2 a8 (xs++ [(A,aO)]).length (kV<|(xs++ [(A,aO)]).zip<|vs++ [a80]):=by
  have eX:xs.length=vs.length:=by have :=J.fl.1; rw [e9] at this; omega
  rw [List.zip_append eX,List.zip_cons_cons,List.zip_nil_right,PF,bJ]; exact cX
 have fu:=ah.size
 have eA:=ah.B (Wk.B (aS.trans aL) cG) fun h=>by have :=(da J.own h).1; omega
 have eJ:=ah.az (Wk.az aL cH) fun h=>by have :=(da aT.own h).2; omega
 have d3:Wk aA ce:=(Y.trans<|aS.trans aL).trans' ah fun q C h=>by have :=(da J.own h).1; omega
 have b3:(fun w'=>Md (fun q=>va.ownBlock=some q) ax w') ce:=cB.trans' ah fun _ _ h=>h
 refine ⟨b3,?_⟩
 refine bF 8 aa (fun _=>nc aa) (fun _=>b3)<|bF 9 aa (fun _=>fa tV aa) (fun _=>b3)<|dw 10 aa ag ag<|bW Em aa aa (v:=a8) (e7 cX) a4 (by show _ < 2; omega) fun aI an dC=> ?_
 have bs:aI.heap[E]? =some (.cells [a8,.map (some ac)].toArray 184 (0,0)):=dC
 have f1:=an.size
 have dX:Wk aA aI:=d3.trans' an fun q C h=>by omega
 have eB:=an.B eA fun h=>by omega
 have b5:=an.az eJ fun h=>by omega
 have cV:=cD cY an fun q C h=>dQ cY a4 aw<|h ▸ C
 have eu:Tg aI O.heap.size 95 aO.length a80 (aO.map aX):=((((((Tg.kL e5).mono ab).wk bi.md).md bd<|im cm aw).wk aL).md ah<|jJ J.own aw).md an<|im a4 aw
 have eT:=((J.fl.md ah<|jJ J.own aw).md an<|im a4 aw).snoc eu
 have b8:=(cN.md ah fun h=>np J.own h fun cur z=>cN.nm).md an fun h=>by omega
 have bt:=(eV.md ah<|jJ J.own aw).md an<|im a4 aw
 have b9:¬(((f<|str A).getD<|bC none 0 0).ownBlock=some E):=dQ (bt.own A) bs aw
 have cT:¬(((f<|str A).getD<|bC none 0 0).ownBlock=some bM):=dQ (bt.own A) b5 aw
 have cU:¬(((f<|str A).getD<|bC none 0 0).ownBlock=some ac):=fun h=>np (bt.own A) h fun cur z=>b8.nm
 refine eF ag<|bG ?_
 have G:(fun w'=>Md (fun q=>((f<|str A).getD<|bC none 0 0).ownBlock=some q) aI w') aI.drew:=(Md.refl _ _).drew
 refine eG (fun w'=>Md (fun q=>((f<|str A).getD<|bC none 0 0).ownBlock=some q) aI w') 16 aa wide G<|lq 0 aa ag (fun _ _=>aH (aU E) aa) G<|lq 1 aa ag (fun _ _=>nc aa) G<|lq 2 aa ag (fun _ _=>fa z8 aa) G<|lq 3 aa ag (fun w' I=>ld yD aa<|Md.aJ I ((aV bs).trans aa) b9) G<|lq 4 aa ag (fun _ _=>fa wq aa) G<|lq 5 aa ag (fun w' I=>ld cR aa<|Md.aJ I ((aV b5).trans aa) cT) G<|lq 6 aa ag (fun _ _=>aH (aU E) aa) G<|lq 7 aa ag (fun _ _=>nc aa) G<|lq 8 aa ag (fun _ _=>fa z8 aa) G<|lq 9 aa ag (fun w' I=>ld yD aa<|Md.aJ I ((aV bs).trans aa) b9) G<|lq 10 aa ag (fun _ _=>fa wq aa) G<|lq 11 aa ag (fun w' I=>ld cR aa<|Md.aJ I ((aV b5).trans aa) cT) G<|lq 12 aa ag (fun w' I=>lB BJ xR gO (bQ.md (b8) I cU) aa aa (⟨_,aa⟩)<|aa) G<|lq 13 aa ag (fun _ _=>aH (aj i) aa) G<|iV 14 aa ag<|lk nu aa aa fun fJ fz fM ec dE=> ?_
 have ae:=je ec.md
 have aZ:=bt.md ae fun _ hk=>hk.elim
 have f2:=ae.size
 have cC:(fun w'=>Md (fun q=>((f<|str A).getD<|bC none 0 0).ownBlock=some q) aI w') fz:=Md.mono ae fun _ _ h=>h.elim
 refine ⟨cC,?_⟩
 refine iV 15 aa ag<|ap nu (aZ.own A) aa ab aa (aG.gl dE) (aa) (aa) (by have :=Am A xs; omega) (by have :=Am A xs; omega) fun fy c8 e3 aq ft a5=> ?_
 have ft:=aq.size
 have a5:=(b8.wk ae).md aq cU
 have e6:bq c8 O.heap.size 3 1 fy (idxs A xs++ [xs.length]).length ((idxs A xs++ [xs.length]).map fG):=by
  rw [bJ,gV,c3]; exact e3
 have et:(fun w'=>Md (fun q=>((f<|str A).getD<|bC none 0 0).ownBlock=some q) aI w') c8:=cC.trans' aq fun _ _ h=>h
 refine ⟨et,?_⟩
 refine dw 16 aa ag ag<|qR BJ gO (a5) aa aa aa (⟨_,aa⟩) fun c9 aM ee=> ?_
 have e8:=mh.put (x:=(A,aO)) aZ aq e6 (fun cur z=>a5.nm) aM
 have eM:=aM.az (aq.az (Wk.az ae bs) b9) fun h=>by omega
 have cW:=cD (ba cV ae) aq fun q C=>oh (ba cV ae) (aZ.own A) aw C
 have e4:=cD cW aM fun q C h=>np cW C fun cur z=>h ▸ a5.nm
 have eU:=((eT.wk ae).md aq<|jJ (aZ.own A) aw).md aM fun k hk cur z h=>a5.nm<|hk ▸ h
 have ex:ke c9 O.heap.size E ac a8 (vs++ [a80]) (xs++ [(A,aO)]):=⟨eM,e4,by rw [gV]; exact eU,⟨_,ee,e8⟩⟩
 have d1:Wk aA c9:=((dX.trans ae).trans' aq fun q C h=>by have :=(da (aZ.own A) h).1; omega).trans' aM fun q C h=>by omega
 have eD:=aM.B (aq.B (Wk.B ae eB) fun h=>by have :=(da (aZ.own A) h).1; omega) fun h=>by omega
 have ga:=aM.size
 exact eF ag<|bn<|bA<|rg aa<|p (ad aa aa<|cz ab)<|p mv<|nl<|tn<|⟨_,ab,i+1,xs++ [(A,aO)],vs++ [a80],a8,ab,(by rw [bJ,c3]; rfl),(by rw [show n - (i+1)=n - i - 1 by omega]; exact am.step ab hex),ex,d1,eD,(ab),aa,aa,aa,(by first | rfl | (rw [← cS]; rfl)),aa,aa,(by first | rfl | (rw [Z]; rfl)),(by first | rfl | (rw [Z]; rfl)),aa,aa⟩
 refine ext<|bj<|bj<|be<|dg<|aB fun bA=>aB fun bB=> ?_
 obtain ⟨fI,cv,rfl⟩:=c5 aT.own
 refine rg aa<|au (aU E)<|p (nc aa)<|p (fa tV aa)<|p (ld rA aa<|(aV aT.cells).trans aa)<|p (bP uE aa aa)<|au (aj n)<|p (lt aa aa)<|nl<|bB<|cd aa (fun eL=> ?_) fun eL=> ?_
 refine ak fun a2=>au (.slice c4 (dx t).length qv)<|p (bP gU aa aa)<|p (bK (((dx t).length+1:Nat):Int) aa aa<|bl ab ab)<|e<|cl rM (rR ((dx t).length+1:Nat) 116 aD) aa fun gu gx ef=> ?_
 obtain ⟨rfl,bO⟩:=ef
 have f4:=bO.size
 refine p aE<|e<|dd iP aa aa aa aa (Wk.B (Y.trans bO) aW) (by simp) fun gL d9 dO=>nl<|a2<|rt<|tr<|fg aa eI (dZ (cs:= [.int .i64 2,aj ((dx t).length+1),.int .i64 116]) aa kD aa fun j av=>dO.bu j) ?_
 rw [lK ab] at am
 exact la.no (am.ends ab)<|(aF.trans<|Y.trans bO).trans' d9 fun q C h=>by omega
 refine aR<|bA<|ak fun a2=>au (aU E)<|p (du (ps:= []) (L:= [.int .i64 0,.int .i64 0,.int .i64 0]) ss aa<|aa)<|p (cg (aU E) aa)<|e<|dd iP aa aa aa aa (Wk.B Y aW) (by simp) fun gM cy dP=>nl<|a2<|rt<|fg aa eI (dZ (cs:= [.int .i64 0,.int .i64 0,.int .i64 0]) aa kD aa fun j av=>dP.bu j) ?_
 rw [lK ab,show n - i=0 by omega] at am
 have ey:=am.done
 have ev:TF aD [47] (fun q=>q=bN):=TF.eq (dD<|Wk.az (hE22.trans<|hE31.trans Y) co) aw
 unfold la
 rw [ey]
 exact ⟨⟨O.heap.size,E,ac,_,vs,ab,aa,aT.md cy ev aw (fun h=>by omega),ab,ab⟩,(aF.trans Y).trans' cy fun q C h=>by omega⟩
end Go.Hb.iJ
end
section
namespace Go.Hb
open Go.Hb.iJ
theorem Xm {α:Type} {f:α×Value→List Value} {m c i:Nat} (A:∀ q,(f q).length=m) (C:c < m) (hs:∀ a u v,(f (a,u)).set c v=f (a,v)) {rs:List α} {vs:List Value} {v:Value} (hi:i < rs.length) (J:i < vs.length):((rs.zip vs).flatMap f).set (i*m+c) v=(rs.zip<|vs.set i v).flatMap f:=by
 obtain ⟨r,I⟩:∃ r,rs[i]? =some r:=⟨_,bX hi⟩
 obtain ⟨u,hu⟩:∃ u,vs[i]? =some u:=⟨_,bX J⟩
 have O:(rs.zip vs)[i]? =some (r,u):=jj.2 ⟨I,hu⟩
 have Z:rs.zip (vs.set i v)=(rs.zip vs).set i (r,v):=by
  apply oz
  intro j
  rw [kt]
  by_cases E:i=j
  · subst E
    rw [if_pos rfl,if_pos (eR.1 O).1]
    exact jj.2 ⟨I,by simp [J]⟩
  · rw [if_neg E]
    cases h1:(rs.zip vs)[j]? with
    | none=>
      rw [List.getElem?_eq_none_iff,yj] at h1 ⊢
      rw [vc]; exact h1
    | some q=>
      have h2:=jj.1 h1
      exact jj.2 ⟨h2.1,by rw [kt,if_neg E]; exact h2.2⟩
 have aa:(rs.zip vs).length=min rs.length vs.length:=yj
 have G:((rs.zip vs).flatMap f).length=(rs.zip vs).length*m:=mu A _
 have hle:i*m+m≤(rs.zip vs).length*m:=by rw [← Nat.succ_mul]; exact oD _ ab
 rw [Z,Ff A _ ab]
 apply oz
 intro j
 have V:=fun c C=>wa A (c:=c) O C
 have Y:(((rs.zip vs).flatMap f).take<|i*m).length=i*m:=by rw [List.length_take,G]; omega
 rw [kt]
 by_cases h1:j < i*m
 · rw [if_neg ab,ea,mK ab,oA,if_pos h1]
 · rw [ea,nK ab,Y]
   by_cases h2:j < i*m+m
   · rw [mK (by rw [A]; omega)]
     obtain ⟨d,rfl⟩:∃ d,j=i*m+d:=⟨j - i*m,ab⟩
     rw [V d ab,show i*m+d - i*m=d by omega,← hs r u v,kt]
     by_cases h3:c=d
     · subst h3; rw [if_pos rfl,if_pos rfl,if_pos (by rw [G]; omega),if_pos (by rw [A]; exact C)]
     · rw [if_neg ab,if_neg h3]
   · rw [if_neg ab,nK (by rw [A]; omega),A,List.getElem?_drop]
     congr 1; omega
theorem PQ {xs:List bg} {vs:List Value} {i:Nat} {v:Value} (hi:i < xs.length) (A:i < vs.length):(kV<|xs.zip vs).set (i*2 +1) v=kV (xs.zip<|vs.set i v):=Xm (f:=qz) (m:=2) (c:=1) (fun _=>rfl) aw (fun _ _ _=>rfl) hi A
theorem zB {l:List (bg×Value)} {i:Nat} {q:bg×Value} (h:l[i]? =some q):kV l≠[]:=fun h2=>by
 have h3:=PG l
 have h4:=(eR.1 h).1
 rw [h2] at h3
 have h5:0=l.length*2:=h3
 omega
theorem KL (l:List Nat):(l.map fG).all eQ=true :=by
 rw [kP]; intro v c; obtain ⟨x,_,rfl⟩:=gW.1 c; rfl
theorem PO {w:World} {B e:Nat} {xs:List bg} {vs:List Value} {C:List (List Nat)} (h:dH w B e vs C):(kV<|xs.zip vs).all eQ=true :=by
 rw [kP]
 intro v c
 obtain ⟨q,A,c⟩:=nO.1 c
 have h1:=kP.1 (vz h) q.2 (List.of_mem_zip A).2
 simp only [qz,ew,List.not_mem_nil,or_false] at c
 rcases c with rfl | rfl
 · rfl
 · exact h1
def oE (w:World) (B:Nat) (vs:List Value) (c:List (List Nat)):Prop :=vs.length=c.length∧∀ (i:Nat) v l,vs[i]? =some v→c[i]? =some l→bq w B 95 1 v l.length (l.map aX)
theorem oE.t {w:World} {B:Nat} {vs:List Value} {c:List (List Nat)} (h:oE w B vs c):dH w B 95 vs c:=⟨h.1,fun i v l h1 h2=>Tg.kL<|h.2 i v l h1 h2⟩
theorem C3 {G:Nat→Prop} {w w':World} {B:Nat} {vs:List Value} {c:List (List Nat)} (h:oE w B vs c) (hm:Md G w w') (A:∀ k,G k→∀ cur z,w.heap[k]?≠some (.cells cur 95 z)):oE w' B vs c:=⟨h.1,fun i v l h1 h2=>cD (h.2 i v l h1 h2) hm fun k hk C=>np (h.2 i v l h1 h2) hk<|A k C⟩
theorem KP (w:World) (B:Nat):oE w B [] []:=⟨rfl,fun i v l c=>by simp at c⟩
theorem KO {w:World} {B i:Nat} {vs:List Value} {c:List (List Nat)} {v:Value} (h:oE w B (vs.take i) (c.take i)) (hi:i < c.length) (G:i < vs.length) (E:bq w B 95 1 v (c.getD i []).length ((c.getD i []).map aX)):oE w B ((vs.set i v).take<|i+1) (c.take<|i+1):=by
 refine ⟨by simp; have :=h.1; simp at this; omega,fun j u l h1 h2=> ?_⟩
 rw [oA] at h1 h2
 by_cases A:j < i+1
 · rw [if_pos A] at h1 h2
   rw [kt] at h1
   by_cases C:i=j
   · subst C
     rw [if_pos rfl,if_pos G] at h1
     cases h1
     rw [show c.getD i []=l by rw [cU,h2]; rfl] at E
     exact E
   · rw [if_neg C] at h1
     exact h.2 j u l (by rw [oA,if_pos ab]; exact h1)<|by rw [oA,if_pos ab]; exact h2
 · rw [if_neg A] at h1; cases h1
theorem Ps (B wb mb:Nat) (va:Value) (vs:List Value) (xs:List bg) (w:World) (A:ke w B wb mb va vs xs) (J:xs.length≤70000):
 bf ao 53 (a7 [aU wb]) w (fun v w'=>v=aj (xs.length)∧Wk w w'):=by
 obtain ⟨a,c,rfl⟩:=c5 A.own
 exact enter func53 aa ntmps53 aa<|ak fun C=>ay<|C<|aB fun E=>ak fun G=>au (aU wb)<|p (iZ xH aa aa)<|nl<|G<|cf (aa)<|aR<|E<|aB fun I=>rg aa<|au (aU wb)<|p (nc aa)<|p (fa tV aa)<|p (ld rA aa<|(aV A.cells).trans aa)<|p (bP uE aa aa)<|p aE<|nl<|I<|rt<|a8 aa<|⟨aa,Md.refl _ _⟩
theorem Pf (B wb mb:Nat) (va:Value) (vs:List Value) (xs:List bg) (w:World) (c:ke w B wb mb va vs xs) (V:xs.length≤70000) (s:Tx):
 bf ao 161 (a7 [aU wb,str s]) w (fun v w'=>bq w' w.heap.size 3 1 v (idxs s xs).length ((idxs s xs).map fG)∧Wk w w'):=by
 obtain ⟨f,J,O⟩:=c.mp
 exact enter func161 aa ntmps161 aa<|ak fun A=>ay<|A<|aB fun C=>ak fun E=>au (aU wb)<|p (iZ xH aa aa)<|nl<|E<|cf (aa)<|aR<|C<|aB fun G=>rg aa<|au (aU wb)<|p (nc aa)<|p (fa z8 aa)<|p (ld yD aa<|(aV c.cells).trans aa)<|au (str s)<|p (lB BJ xR gO (J) aa aa (⟨_,aa⟩)<|aa)<|e<|cl Ma (NI _ (idxs s xs).length ((idxs s xs).map fG) w (Rd.kL<|O.own s) (KL _)<|by have :=Am s xs; omega) aa fun Y Z I=>ay<|G<|rt<|a8 aa<|I
theorem O6 (B wb mb:Nat) (va:Value) (vs:List Value) (xs:List bg) (w:World) (G:ke w B wb mb va vs xs) (a4:xs.length≤70000) (aN:∀ x∈xs,x.2.length≤64):
 bf ao 42 (a7 [aU wb]) w (fun v w'=>(∃ vs,bq w' w.heap.size 53 2 v xs.length (kV<|xs.zip vs)∧dH w' w.heap.size 95 vs (xs.map (·.2))∧oE w' w.heap.size vs (xs.map (·.2)))∧Wk w w'):=by
 refine enter func42 aa ntmps42 aa<|ak fun ap=>ay<|ap<|aB fun av=>ak fun ax=>au (aU wb)<|p (iZ xH aa aa)<|nl<|ax<|cf (aa)<|aR<|av<|aB fun aA=>rg aa<|au (aU wb)<|p (nc aa)<|p (fa tV aa)<|p (ld rA aa<|(aV G.cells).trans aa)<|e<|cl M2 (NG va xs.length (kV<|xs.zip vs) w (Rd.kL G.own) (PO G.fl) ab) aa fun v11 a9 aJ=> ?_
 obtain ⟨al,aH⟩:=aJ
 obtain ⟨C,ll,rfl⟩:=c5 al
 have aZ:vs.length=xs.length:=by have :=G.fl.1; rwa [e9] at this
 refine ay<|aA<|aB fun aC=>ak fun aD=>p mv<|p (bP uE aa aa)<|p mv<|nl<|aD<|az<|lp (fun ai O E=> ∃ (i:Nat) (sa:List Value),(i≤xs.length)∧(sa.length=xs.length)∧(sa.drop i=vs.drop i)∧(oE E w.heap.size (sa.take i)<|(xs.map (·.2)).take i)∧(bq E w.heap.size 53 2 (.slice C xs.length ll) xs.length<|kV<|xs.zip sa)∧(Wk w E)∧(O 3= .slice C xs.length ll)∧(O 13=aj (xs.length))∧(O 14=aj i)∧(xs.length - i=ai)) _ ⟨0,vs,ab,aZ,aa,(KP _ _),al,aH,aa,aa,aa,aa⟩ ?_
 rintro ai O E ⟨i,sa,hi,aW,an,J,A,I,aT,aQ,aS,rfl⟩
 refine fx 3 aT<|fx 13 aQ<|fx 14 aS<|ak fun aE=>p (lt aa aa)<|nl<|aE<|aB fun aF=>cd aa (fun aM=> ?_) fun aM=> ?_
 refine aR<|aF<|aB fun V=>az<|aB fun aq=> ?_
 obtain ⟨a6,a0,Z⟩:=dH.get (G.wk I).fl (show i < (xs.map (·.2)).length by rw [e9]; omega)
 obtain ⟨ah,ci,rfl⟩:=Z.slice
 obtain ⟨x,ag⟩:∃ x,xs[i]? =some x:=⟨_,bX ab⟩
 have a2:(xs.map (·.2)).getD i []=x.2:=by rw [cU,fF,ag]; rfl
 have a1:=aN x<|fU ag
 rw [← a2] at a1
 have ae:(xs.zip sa)[i]? =some (x,.slice ah ((xs.map (·.2)).getD i []).length ci):=jj.2 ⟨ag,(zx an).trans a0⟩
 refine rg aa<|au (aj i)<|p (cg (aj i) aa)<|nl<|aq<|rg aa<|au (.slice C xs.length ll)<|au (aj i)<|au (.slice C xs.length ll)<|au (aj i)<|p (bc zD aa aa ab<|aG.ok ((aY A).2)<|zB ae)<|p (fa qE aa)<|p (ld mj aa<|ic (f:=qz) (m:=2) (fun _=>rfl) (aY A).2 ae 1 aw)<|e<|cl rL (rN ah ((xs.map (·.2)).getD i []).length ci (((xs.map (·.2)).getD i []).map aX) E Z.dJ.2 (by simp) (fun h=>Tg.sg Z (by simp) h) (rE _) ab) aa fun v24 bb aK=> ?_
 obtain ⟨ac,c⟩:=aK
 have a5:=c.size
 refine p (bc zD aa aa ab<|aG.ok ((aY<|ba A c).2)<|zB ae)<|p (fa qE aa)<|e<|su (j:=i*2 +1) (ba A c) rQ aa aa (e7 ac) (by rw [jL]; omega) ab fun a3 Y am=> ?_
 rw [PQ ab ab] at am
 have aI:Wk w a3:=Wk.own (I.trans c) (ba A c) Y ab
 have aO:=cD (fj ac (show w.heap.size≤E.heap.size from I.size)) Y fun q aP=>oh ac (ba A c) aw aP
 have aL:=C3 (C3 J c fun _ hk=>hk.elim) Y<|jJ (ba A c) aw
 exact nl<|bn<|V<|rg aa<|p (ad aa aa<|cz ab)<|p mv<|nl<|tn<|⟨_,ab,i+1,sa.set i v24,ab,(by rw [vc]; exact aW),(gL.set_drop an),(KO aL (by rw [e9]; omega) ab aO),am,aI,aa,aa,aa,aa⟩
 refine ext<|bj<|bj<|be<|aC<|ak fun V=>au (.slice C xs.length ll)<|p (cg (.slice C xs.length ll) aa)<|nl<|V<|rt<|a8 aa ?_
 rw [fu ab,fu (by rw [e9]; omega)] at J
 exact ⟨⟨sa,A,J.t,J⟩,I⟩
end Go.Hb
end
section
namespace Go.Hb
open Go.Hb.nU Go.Hb.qk
structure Kk where
 rb:Nat
 fb:Nat
 eof:Nat
 vr:Value
 vs:List (Nat×Value)
 rows:List Rw
section
variable {w w':World} {B k ln:Nat} {H:Kk} {seen:List Tx} {vh:Value}
end
end Go.Hb
end
section
namespace Go.Hb.iX
open Go.Hb.nU
def Ny (F:aC):Prop := ∀ l∈F.aliases,∀ x∈l,x < 65536
theorem FB {kind:Nat} {s:Tx} {l:List Nat} (h:kW kind s= .ok l):∀ x∈l,x < 65536:=by
 unfold kW at h
 split at h
 · cases h
 · cases h
   intro x c
   unfold e5 at c
   repeat' split at c
   all_goals first
    | (cases c; done)
    | (rw [AY] at c
       obtain ⟨y,_,rfl⟩:=gW.1 c
       exact Qw _ _)
theorem KC {kind ln:Nat} {row:List Tx} {l:List Nat} (h:ml kind ln row= .ok l):∀ x∈l,x < 65536:=by
 unfold ml at h
 split at h
 · cases h
 · exact FB h
theorem QE {kind:Nat} {al:List (List Nat)} {s:Tx} {l:List Nat} (c:∀ l∈al,∀ x∈l,x < 65536) (h:gj kind al s= .ok l):∀ x∈l,x < 65536:=by
 unfold gj at h
 split at h
 · exact FB h
 · split at h
   · cases h
   · split at h
     · cases h
     · cases h
       rename_i n _ _
       rw [cU]
       cases hg:al[n - 1]? with
       | none=>simp
       | some y=>exact c y<|fU hg
theorem Ry {eof ln:Nat} {F F':aC} {hs:List Tx} {rows rows':List Rw} {row:List Tx} (h:Ny F) (c:ca eof F hs rows ln row= .ok (F',rows')):Ny F':=by
 unfold ca at c
 repeat' split at c
 · unfold j0 at c; repeat' split at c
   all_goals first | (cases c; done) | (cases c; exact h)
 · unfold kJ at c; repeat' split at c
   all_goals first | (cases c; done) | (cases c; exact h)
 · unfold mD at c; repeat' split at c
   all_goals first | (cases c; done) | (cases c; exact h)
 · unfold mE at c; repeat' split at c
   all_goals first | (cases c; done) | (cases c; exact h)
 · unfold kK at c; repeat' split at c
   all_goals first | (cases c; done) | (cases c; exact h)
 · unfold kN at c; repeat' split at c
   all_goals first | (cases c; done) | (cases c; exact h)
 · unfold kh at c
   split at c
   · cases c
   · split at c
     · cases c
     · split at c
       · cases c
       · rename_i r C
         cases c
         intro l A
         rcases List.mem_append.1 A with A | A
         · exact h l A
         · obtain ⟨_,_,h2⟩:=Ai _ _ _ C l A
           exact KC h2
 · unfold hZ at c; repeat' split at c
   all_goals first | (cases c; done) | (cases c; exact h)
theorem UC {eof:Nat} :∀ (k:Nat) (F F':aC) (hs:List Tx) (rows:List Rw),Ny F→gQ eof k F hs rows= .ok F'→Ny F':=by
 intro k
 induction k with
 | zero=>intro F F' hs rows h c; rw [gQ] at c; split at c <;> cases c; exact h
 | succ k C=>
   intro F F' hs rows h c
   cases rows with
   | nil=>rw [Hl] at c; cases c; exact h
   | cons q rows=>
     rw [gQ] at c
     split at c
     · cases c
     · split at c
       · cases c
       · split at c
         · cases c
         · split at c
           · cases c
           · rename_i r A
             exact C _ _ _ _ (Ry (rows':=r.2) h A) c
theorem CP {s:Tx} {F:aC} (h:fW s= .ok F):Ny F:=by
 unfold fW at h
 split at h
 · cases h
 · split at h
   · cases h
   · rename_i f c
     split at h
     · cases h
     · cases h
       exact UC _ _ _ _ _ (fun l A=>by cases A) c
def vm (x:bg):Prop :=x.1.length≤64∧x.2.length≤64∧(∀ y∈x.2,y < 65536)
theorem zA {F:aC} {row:List Tx} {x:bg} (h1:Nx F) (h2:Ny F) (h:fQ F row= .ok x):vm x:=by
 unfold fQ at h
 split at h
 · cases h
 · split at h
   · cases h
   · split at h
     · cases h
     · split at h
       · cases h
       · split at h
         · cases h; exact ⟨by simp only; omega,by simp,fun y A=>by cases A⟩
         · split at h
           · cases h
           · rename_i c
             split at h
             · cases h
               exact ⟨by simp only; omega,zR h1.1 c,QE h2 c⟩
             · cases h
theorem PS {F:aC} {eof:Nat} (h1:Nx F) (h2:Ny F):∀ {n:Nat} {rows:List Rw} {r:List bg},eM F eof n rows= .ok r→∀ x∈r,vm x:=by
 intro n
 induction n with
 | zero=>
   intro rows r h
   cases rows with
   | nil=>rw [eM] at h; cases h; intro x c; cases c
   | cons q rows=>rw [eM] at h; cases h
 | succ n C=>
   intro rows r h
   cases rows with
   | nil=>rw [eM] at h; cases h
   | cons q rows=>
     rw [eM] at h
     split at h
     · cases h
     · rename_i he
       split at h
       · cases h
       · rename_i A
         cases h
         intro x c
         rcases ew.1 c with rfl | c
         · exact zA h1 h2 he
         · exact C A x c
theorem Ez {F:aC} {t:Tx} {xs:List bg} (h1:Nx F) (h2:Ny F) (h:fP F t= .ok xs):(∀ x∈xs,vm x)∧xs.length≤8192:=by
 unfold fP at h
 split at h
 · cases h
 · split at h
   · cases h
   · split at h
     · cases h
     · split at h
       · cases h
       · rename_i hn
         refine ⟨PS h1 h2 h,?_⟩
         have A:=(PU h).1
         unfold eH at hn
         split at hn
         · cases hn
         · cases hn
           rename_i c
           have :=wU _ 8192<|mI.1 c
           omega
end Go.Hb.iX
end
section
namespace Go.Hb
open Go.Hb.iJ Go.Hb.iX
noncomputable def k6 (a t:Tx):Option (aC×List bg):=match fW a with
 | .error _=>none
 | .ok F=>match fP F t with
   | .error _=>none
   | .ok xs=>some (F,xs)
theorem Wa {a t:Tx} {e:Nat×Nat} (h:fW a= .error e):k6 a t=none:=by unfold k6; rw [h]
theorem Wb {a t:Tx} {F:aC} {e:Nat×Nat} (h:fW a= .ok F) (h1:fP F t= .error e):k6 a t=none:=by unfold k6; rw [h]; simp only; rw [h1]
theorem HW {a t:Tx} {F:aC} {xs:List bg} (h:fW a= .ok F) (h1:fP F t= .ok xs):k6 a t=some (F,xs):=by unfold k6; rw [h]; simp only; rw [h1]
structure dU (F:aC) (xs:List bg):Prop where
 len:F.dB.length+F.aliases.length+F.bB.length+F.rules.length≤70000
 nx:Nx F
 tH:∀ x∈xs,vm x
 xl:xs.length≤8192
 fs:rr F
 cls:oH F
 PC:∀ x∈xs,kA x.2
 jZ:F.sp.length=5
 ne:∀ x∈xs,1≤x.1.length
theorem yA {s:Tx} {F:aC} (h:fW s= .ok F):Nx F:=yz (Q:=Nx) ⟨fun l c=>(by cases c),fun l c=>by cases c⟩ (fun _ _ _ _ _ _ _ _ h A=>Al h A) h
theorem dU.of {a t:Tx} {F:aC} {xs:List bg} (h:fW a= .ok F) (h1:fP F t= .ok xs) (c:∃ seen,ka F [] seen) (h5:F.sp.length=5):dU F xs:=by
 obtain ⟨seen,c⟩:=c
 have C:=c.len
 have A:=Ez (yA h) (CP h) h1
 exact ⟨by simpa using C,yA h,A.1,A.2,(yy h).1,(yy h).2,Pm (yy h).1 h1,h5,Pr h1⟩
theorem dU.iy {F:aC} {xs:List bg} (h:dU F xs) {i:Nat} {r:cJ} (c:F.rules[i]? =some r):r.next.length≤64∧kA r.next∧pG r:=⟨h.nx.2 r (fU c),h.fs.2 r<|fU c⟩
structure ek where
 fb:Nat
 mc:Nat
 wb:Nat
 mb:Nat
 V:ei
 V2:ei
 va:Value
 ve:Value
 vs:List Value
 ws:List Value
def Wg (F:aC) (U:ek):List Value:= .pointer (some ⟨U.fb,0,none⟩):: .pointer (some ⟨U.wb,0,none⟩)::(kT F U.V2++ [U.ve])
structure dK (w:World) (B tb:Nat) (U:ek) (F:aC) (xs:List bg):Prop where
 cells:w.heap[tb]? =some (.cells (Wg F U).toArray 105 (0,0))
 fl:dp w B U.fb U.mc F U.V
 ax:oF w B F U.V2
 wd:ke w B U.wb U.mb U.va U.vs xs
 oe:bq w B 53 2 U.ve xs.length (kV<|xs.zip U.ws)
 ef:dH w B 95 U.ws (xs.map (·.2))
theorem yL {G:Nat→Prop} {w w':World} {B:Nat} {F:aC} {V:ei} (h:oF w B F V) (hm:Md G w w') {L:List Nat} (c:TF w L G) (A:(L.contains 191 || L.contains 53 || L.contains 97 || L.contains 194 || L.contains 136)=false):oF w' B F V:=by
 simp only [pk] at A
 obtain ⟨⟨⟨⟨h1,h2⟩,h3⟩,h4⟩,h5⟩:=A
 have C:∀ k,G k→∀ cur z,w.heap[k]?≠some (.cells cur 95 z):=fun k hk cur z E=>c.no (dD E) h3 hk
 exact ⟨cX h.o9 hm c h1,cX h.gP hm c h2,h.al.md hm C,cX h.gk hm c h4,cX h.et hm c h5,h.nx.md hm C⟩
theorem dK.ud {G:Nat→Prop} {w w':World} {B tb:Nat} {U:ek} {F:aC} {xs:List bg} (h:dK w B tb U F xs) (hm:Md G w w') {L:List Nat} (c:TF w L G) (A:(L.contains 166 || L.contains 191 || L.contains 53 || L.contains 97 || L.contains 194 || L.contains 136 || L.contains 186 || L.contains 55 || L.contains 5 || L.contains 107)=false) (J:¬G U.mc) (I:¬G U.mb):dK w' B tb U F xs:=by
 simp only [pk] at A
 obtain ⟨⟨⟨⟨⟨⟨⟨⟨⟨h1,h2⟩,h3⟩,h4⟩,h5⟩,h6⟩,h7⟩,h8⟩,h9⟩,h10⟩:=A
 have C:∀ k,G k→∀ cur z,w.heap[k]?≠some (.cells cur 95 z):=fun k hk cur z E=>c.no (dD E) h4 hk
 exact ⟨hm.gZ c h.cells h10,h.fl.md hm c (by rw [h1,h2,h3,h4,h5,h6]; rfl) J,yL h.ax hm c (by rw [h2,h3,h4,h5,h6]; rfl),h.wd.md hm c (by rw [h7,h8,h4,h9]; rfl) I,cX h.oe hm c h8,h.ef.md hm C⟩
theorem dK.wk {w w':World} {B tb:Nat} {U:ek} {F:aC} {xs:List bg} (h:dK w B tb U F xs) (hm:Wk w w'):dK w' B tb U F xs:=h.ud (L:= []) hm (fun _ hk=>hk.elim) rfl id id
theorem Lh {w w':World} {B:Nat} {F:aC} {V:ei} (h:oF w B F V) (hm:Wk w w'):oF w' B F V:=yL (L:= []) h hm (fun _ hk=>hk.elim) rfl
theorem Lf {w:World} {B B':Nat} {F:aC} {V:ei} (h:oF w B F V) (c:B'≤B):oF w B' F V:=⟨fj h.o9 c,fj h.gP c,h.al.mono c,fj h.gk c,fj h.et c,h.nx.mono c⟩
theorem Ux {s:Tx} {w w':World} {v:Value} (h:oK s w v w'):∃ p C E G,v= .tuple #[.pointer p,.agg [.int .i64 C,.int .i64 E,.int .i64 G].toArray]∧((p=none∧∃ e,fW s= .error e)∨(∃ F fb mc V,p=some ⟨fb,0,none⟩∧fW s= .ok F∧dp w' w.heap.size fb mc F V∧(∃ seen,ka F [] seen)∧Nx F))∧Wk w w':=by
 obtain ⟨h,c⟩:=h
 cases hx:fW s with
 | error e=>rw [hx] at h; exact ⟨_,_,_,_,h,.inl ⟨rfl,e,rfl⟩,c⟩
 | ok F=>rw [hx] at h; obtain ⟨fb,mc,V,A,h1,h2,h3⟩:=h; exact ⟨_,_,_,_,A,.inr ⟨F,fb,mc,V,rfl,rfl,h1,h2,h3⟩,c⟩
theorem Py {F:aC} {s:Tx} {w w':World} {v:Value} (h:la F s w v w'):∃ p C E G,v= .tuple #[.pointer p,.agg [.int .i64 C,.int .i64 E,.int .i64 G].toArray]∧((p=none∧∃ e,fP F s= .error e)∨(∃ xs B wb mb va vs,p=some ⟨wb,0,none⟩∧fP F s= .ok xs∧w.heap.size≤B∧ke w' B wb mb va vs xs∧w.heap.size≤wb∧w.heap.size≤mb))∧Wk w w':=by
 obtain ⟨h,c⟩:=h
 cases hx:fP F s with
 | error e=>rw [hx] at h; exact ⟨_,_,_,_,h,.inl ⟨rfl,e,rfl⟩,c⟩
 | ok xs=>rw [hx] at h; obtain ⟨B,wb,mb,va,vs,h1,A,h2,h3,h4⟩:=h; exact ⟨_,_,_,_,A,.inr ⟨xs,B,wb,mb,va,vs,rfl,rfl,h1,h2,h3,h4⟩,c⟩
def tg (a t:Tx) (w:World) (v:Value) (w':World):Prop :=(∃ p c A C,v= .tuple #[.pointer p,.agg [.int .i64 c,.int .i64 A,.int .i64 C].toArray]∧match k6 a t with
 | none=>p=none
 | some T=> ∃ B tb U,w.heap.size≤B∧p=some ⟨tb,0,none⟩∧dK w' B tb U T.1 T.2∧dU T.1 T.2)∧Wk w w'
theorem tg.no {a t:Tx} {w w':World} {c A C:Int} (h:k6 a t=none) (hm:Wk w w'):tg a t w (.tuple #[.pointer none,.agg [.int .i64 c,.int .i64 A,.int .i64 C].toArray]) w':=⟨⟨none,c,A,C,rfl,by rw [h]⟩,hm⟩
theorem W7 {w:World} {B B':Nat} {f:Value→Option Value} {xs:List bg} (h:mh w B f xs) (c:B'≤B):mh w B' f xs:=⟨fun s=>fj (h.own s) c,h.nil⟩
theorem PA {w:World} {B B' wb mb:Nat} {va:Value} {vs:List Value} {xs:List bg} (h:ke w B wb mb va vs xs) (c:B'≤B):ke w B' wb mb va vs xs:=by
 obtain ⟨f,A,C⟩:=h.mp
 exact ⟨h.cells,fj h.own c,h.fl.mono c,f,A,W7 C c⟩
theorem xF (a t:Tx) (w:World) (bU:a.length≤1048576) (b7:t.length≤1048576):
 bf ao 22 (a7 [str a,str t]) w (tg a t w):=by
 refine enter func22 aa ntmps22 aa<|ak fun bq=>p aE<|e<|dY nB fun A ai cf ap aj=> ?_
 have cu:=ap.size
 refine nl<|bq<|ak fun bs=>au (str a)<|e<|cl MH (Ku a ai bU) aa fun v12 bo bM=> ?_
 have b0:=Ux bM
 obtain ⟨pp,bh,bi,bj,rfl,bg,aM⟩:=b0
 have ck:=aM.size
 refine p mv<|p (xt aa aa)<|p (xt aa aa)<|e<|dY nB fun aW cA cg a6 bD=> ?_
 have cv:=a6.size
 refine p aE<|e<|fk iP aa aa aa aa bD aw fun Y a1 aH=> ?_
 have aL:Wk bo Y:=a6.md.trans' a1 fun q E h=>by omega
 have aZ:=aM.trans aL
 have cj:=a1.size
 have b5:bE Y.heap aW [.int .i64 bh,.int .i64 bi,.int .i64 bj]:=⟨_,aH⟩
 refine nl<|bs<|aB fun bt=>ak fun bv=>p mv<|p (iZ uG aa aa)<|nl<|bv<|cb aa (fun ax=> ?_) fun ax=> ?_
 obtain ⟨rfl,e,C⟩:pp=none∧∃ e,fW a= .error e:=by rcases bg with h | ⟨_,_,_,_,rfl,_⟩ <;> first | exact h | cases ax
 refine aB fun aD=> ?_
 have aq:(fun w'=>Md (fun q=>q=A) Y w') Y.drew:=(Md.refl _ _).drew
 refine bR (fun w'=>Md (fun q=>q=A) Y w') aa wide aq<|aK 0 aa (fun w' I=>cE kD aa (aa) fun j O=>(Md.B I b5 fun h=>by omega).bu j) aq<|aK 1 aa (fun _ _=>aE) aq<|he 2 aa ag<|fk iP aa aa aa aa (Wk.az aZ aj) aw fun b9 bK bA=> ?_
 have a8:(fun w'=>Md (fun q=>q=A) Y w') b9:=aq.trans' bK fun q E h=>h
 refine ⟨a8,?_⟩
 exact hn ag<|aD<|rt<|tr<|fg aa eI (dZ (cs:= [.int .i64 bh,.int .i64 bi,.int .i64 bj]) aa kD aa fun j O=>(aV bA).trans<|by match j,O with | 0,_=>rfl | 1,_=>rfl | 2,_=>rfl)<|tg.no (Wa C)<|(ap.md.trans aZ).trans' a8 fun q E h=>by omega
 obtain ⟨F,fb,mc,V,rfl,C,am,aY,a5⟩:=bg.resolve_left fun h=>by rw [h.1] at ax; cases ax
 refine aR<|bt<|ak fun aD=>p mv<|au (str t)<|e<|cl MI (Pu ai.heap.size fb mc F V t Y (am.wk aL) aY a5 b7) aa fun v21 cz bN=> ?_
 have b1:=Py bN
 obtain ⟨b8,bk,bl,bm,rfl,bd,al⟩:=b1
 have cn:=al.size
 refine p mv<|p (xt aa aa)<|p (xt aa aa)<|p aE<|e<|fk iP aa aa aa aa (Wk.az al aH) (by simp) fun G aP bB=> ?_
 have a0:Wk bo G:=(aL.trans al).trans' aP fun q E h=>by omega
 have ad:=aM.trans a0
 have cq:=aP.size
 have b6:bE G.heap aW [.int .i64 bk,.int .i64 bl,.int .i64 bm]:=⟨_,bB⟩
 refine nl<|aD<|aB fun bw=>ak fun bx=>p mv<|p (iZ xH aa aa)<|nl<|bx<|cb aa (fun aA=> ?_) fun aA=> ?_
 obtain ⟨rfl,e,hd⟩:b8=none∧∃ e,fP F t= .error e:=by rcases bd with h | ⟨_,_,_,_,_,_,rfl,_⟩ <;> first | exact h | cases aA
 refine aB fun aF=> ?_
 have av:(fun w'=>Md (fun q=>q=A) G w') G.drew:=(Md.refl _ _).drew
 refine bR (fun w'=>Md (fun q=>q=A) G w') aa wide av<|aK 0 aa (fun w' I=>cE kD aa (aa) fun j O=>(Md.B I b6 fun h=>by omega).bu j) av<|aK 1 aa (fun _ _=>aE) av<|he 2 aa ag<|fk iP aa aa aa aa (Wk.az ad aj) aw fun ca bL bC=> ?_
 have a9:(fun w'=>Md (fun q=>q=A) G w') ca:=av.trans' bL fun q E h=>h
 refine ⟨a9,?_⟩
 exact hn ag<|aF<|rt<|tr<|fg aa eI (dZ (cs:= [.int .i64 bk,.int .i64 bl,.int .i64 bm]) aa kD aa fun j O=>(aV bC).trans<|by match j,O with | 0,_=>rfl | 1,_=>rfl | 2,_=>rfl)<|tg.no (Wb C hd)<|(ap.md.trans ad).trans' a9 fun q E h=>by omega
 obtain ⟨xs,B,wb,mb,va,vs,rfl,hd,cd,bT,ci,ch⟩:=bd.resolve_left fun h=>by rw [h.1] at aA; cases aA
 have aS:=bT.md (L:= [47]) aP (TF.eq (dD<|Wk.az al aH) aw) aw fun h=>by omega
 have aO:=am.wk a0
 have bX:=Ez (yA C) (CP C) hd
 obtain ⟨seen,aX⟩:=aY
 have bY:=aX.len
 refine aR<|bw<|ak fun aF=>p mv<|p mv<|p (du (ps:= [(0,aU fb),(1,aU wb)]) (L:= [aU fb,aU wb,.int .i64 0,.string ⟨⟨[]⟩⟩,.string ⟨⟨[]⟩⟩,.int .u16 0,.int .u16 0,.int .u16 0,.int .u16 0,.int .u16 0,.int .i64 0,.slice none 0 0,.slice none 0 0,.slice none 0 0,.slice none 0 0,.slice none 0 0]) VI aa<|aa)<|e<|pL aa fun aG Z ce an aI=> ?_
 have co:=an.size
 refine ay<|aF<|aB fun bz=> ?_
 have c:(fun w'=>Wk Z w') Z.drew:=(Md.refl _ _).drew
 refine eG (fun w'=>Wk Z w') 14 aa wide c<|bF 0 aa (fun _=>mv) (fun _=>c)<|bF 1 aa (fun _=>mv) (fun _=>c)<|bF 2 aa (fun _=>mv) (fun _=>c)<|bF 3 aa (fun _=>nc aa) (fun _=>c)<|bF 4 aa (fun _=>fa tN aa) (fun _=>c)<|eC 5 aa (fun w' I=>ld eY aa<|Wk.aJ I<|(aV aI).trans aa) c<|bF 7 aa (fun _=>mv) (fun _=>c)<|bF 8 aa (fun _=>nc aa) (fun _=>c)<|bF 9 aa (fun _=>fa zY aa) (fun _=>c)<|eC 10 aa (fun w' I=>ld yG aa<|Wk.aJ I<|(aV aI).trans aa) c<|iV 6 aa ag<|cl tw (th ai.heap.size fb mc F V Z.drew ((aO.wk an.md).wk c) (by simp only [List.length_nil] at bY; omega) a5) aa fun v37 bp bO=> ?_
 obtain ⟨⟨V2,rfl,bV⟩,hE37⟩:=bO
 have cp:=hE37.size
 have cy:=c.size
 have ba:(fun w'=>Wk Z w') bp:=c.trans hE37
 refine ⟨ba,?_⟩
 refine iV 11 aa ag<|cl MJ (O6 B wb mb va vs xs bp (((aS.wk an.md).wk c).wk hE37) ab fun x C=>(bX.1 x C).2.1) aa fun bn aC bP=> ?_
 obtain ⟨⟨ws,bc,bZ,_⟩,hE42⟩:=bP
 have ct:=hE42.size
 have ah:=Lh bV hE42
 have bb:=Wk.az hE42<|Wk.az hE37<|Wk.az c aI
 have aQ:(fun w'=>Wk Z w') aC:=ba.trans hE42
 refine ⟨aQ,?_⟩
 refine bF 12 aa (fun _=>nc aa) (fun _=>aQ)<|bF 13 aa (fun _=>fa tO aa) (fun _=>aQ)<|dw 14 aa ag ag<|fk zp aa aa aa (yK (e7 ah.o9) (e7 ah.gP) (e7 ah.gk)<|e7 ah.et) bb (by simp) fun cB a3 bH=> ?_
 have cx:=a3.size
 refine bF 15 aa (fun _=>nc aa) (fun h=>c7<|(show true =_ from by kernel_rfl).trans h)<|bF 16 aa (fun _=>fa zZ aa) (fun h=>c7<|(show true =_ from by kernel_rfl).trans h)<|dw 17 aa ag ag<|bW Em aa aa (v:=bn) (e7 bc) bH (by show 15 < 16; omega) fun aT a2 bG=> ?_
 have cw:=a2.size
 have ac:=a3.trans' a2 fun q E h=>h
 have J:TF aC [107] (fun q=>q=aG):=TF.eq (dD bb) aw
 have bJ:Wk Z aC:=c.trans<|hE37.trans hE42
 have ae:Wk G aC:=an.md.trans bJ
 have aN:Wk G aT:=ae.trans' ac fun q E h=>by omega
 obtain ⟨cc,b2,_⟩:=(aO.wk ae).cm
 obtain ⟨fm,b3,_⟩:=(aS.wk ae).mp
 have bQ:dK aT ai.heap.size aG ⟨fb,mc,wb,mb,V,V2,va,bn,vs,ws⟩ F xs:=⟨bG,(aO.wk ae).md ac J aw (J.no (dN b2) aw),yL (Lf ah ab) ac J aw,PA ((aS.wk ae).md ac J aw<|J.no (dN b3) aw) ab,fj (cX bc ac J aw) ab,(bZ.md ac fun k hk cur z b4=>J.no (dD b4) aw hk).mono ab⟩
 refine eF ag<|bz<|ak fun br=>p mv<|p (du (ps:= []) (L:= [.int .i64 0,.int .i64 0,.int .i64 0]) ss aa<|aa)<|p aE<|e<|fk iP aa aa aa aa (Wk.az (ad.trans aN) aj) aw fun cC a4 bI=>nl ?_
 refine br<|rt<|fg aa eI (dZ (cs:= [.int .i64 0,.int .i64 0,.int .i64 0]) aa kD aa fun j O=>(aV bI).trans<|by match j,O with | 0,_=>rfl | 1,_=>rfl | 2,_=>rfl) ?_
 refine ⟨⟨_,_,_,_,aa,?_⟩,(ap.md.trans<|ad.trans aN).trans' a4 fun q E h=>by omega⟩
 rw [HW C hd]
 have bS:TF aT [47] (fun q=>q=A):=TF.eq (dD<|Wk.az (ad.trans aN) aj) aw
 exact ⟨ai.heap.size,aG,_,ab,aa,bQ.ud a4 bS aw (fun h:mc=A=>by have :=am.lo.2; omega) (fun h:mb=A=>by omega),dU.of C hd ⟨seen,aX⟩ am.jZ⟩
end Go.Hb
end
section
namespace Go.Hb
open Go.Hb.iJ Go.Hb.iX
def iQ (xs:List bg) (n:Int):Tx:=if 0≤n∧n < xs.length then (xs.getD n.toNat ([],[])).1 else []
def qN (F:aC) (n:Int):cJ:=if 0≤n∧n < F.rules.length then F.rules.getD n.toNat dq else dq
theorem rG {xs:List bg} {k:Nat} {x:bg} (h:xs[k]? =some x):iQ xs k=x.1∧flagsOf xs k=x.2∧k < xs.length∧xs.getD k ([],[])=x:=by
 have hk:=(eR.1 h).1
 have hd:xs.getD k ([],[])=x:=by rw [cU,h]; rfl
 refine ⟨?_,?_,hk,hd⟩
 · unfold iQ; rw [if_pos ab,jL,hd]
 · unfold flagsOf; rw [if_pos ab,jL,hd]
theorem vB {xs:List bg} {n:Int} (h:¬(0≤n∧n < xs.length)):iQ xs n= []∧flagsOf xs n= []:=by
 unfold iQ flagsOf; rw [if_neg h,if_neg h]; exact ⟨rfl,rfl⟩
theorem Hr {F:aC} {k:Nat} {r:cJ} (h:F.rules[k]? =some r):qN F k=r∧bI F k=r.next∧k < F.rules.length∧F.rules.getD k dq=r:=by
 have hk:=(eR.1 h).1
 have hd:F.rules.getD k dq=r:=by rw [cU,h]; rfl
 refine ⟨?_,?_,hk,hd⟩
 · unfold qN; rw [if_pos ab,jL,hd]
 · unfold bI; rw [if_pos ab,jL,hd]
theorem Bk {F:aC} {n:Int} (h:¬(0≤n∧n < F.rules.length)):qN F n=dq∧bI F n= []:=by
 unfold qN bI; rw [if_neg h,if_neg h]; exact ⟨rfl,rfl⟩
theorem Wh {w:World} {B tb:Nat} {U:ek} {F:aC} {xs:List bg} (h:dK w B tb U F xs) {k:Nat} {x:bg} (G:xs[k]? =some x):∃ A ce a c,U.ve= .slice A xs.length ce∧Hb.aJ w.heap tb 15=some (.slice A xs.length ce)∧aG w.heap A (kV<|xs.zip U.ws)∧(xs.zip U.ws)[k]? =some (x,.slice a x.2.length c)∧Tg w B 95 x.2.length (.slice a x.2.length c) (x.2.map aX):=by
 obtain ⟨A,ce,E⟩:=c5 h.oe
 have I:=h.oe
 rw [E] at I
 have hk:=(eR.1 G).1
 obtain ⟨v,J,C⟩:=dH.get h.ef (show k < (xs.map (·.2)).length by rw [e9]; exact hk)
 have O:(xs.map (·.2)).getD k []=x.2:=by rw [cU,fF,G]; rfl
 rw [O] at C
 obtain ⟨a,c,rfl⟩:=C.slice
 exact ⟨A,ce,a,c,E,by rw [← E]; exact (aV h.cells).trans aa,(aY I).2,jj.2 ⟨G,J⟩,C⟩
theorem Wi {w:World} {B tb:Nat} {U:ek} {F:aC} {xs:List bg} (h:dK w B tb U F xs):∃ c ce,Hb.aJ w.heap tb 15=some (.slice c xs.length ce):=by
 obtain ⟨c,ce,A⟩:=c5 h.oe
 exact ⟨c,ce,by rw [← A]; exact (aV h.cells).trans aa⟩
theorem Wj {w:World} {B tb:Nat} {U:ek} {F:aC} {xs:List bg} (h:dK w B tb U F xs):∃ ar cr,Hb.aJ w.heap tb 14=some (.slice ar F.rules.length cr):=by
 obtain ⟨ar,cr,c⟩:=c5 h.ax.et
 exact ⟨ar,cr,by rw [← c]; exact (aV h.cells).trans aa⟩
theorem Lg {w:World} {B:Nat} {F:aC} {V:ei} (h:oF w B F V) {k:Nat} {r:cJ} (C:F.rules[k]? =some r):∃ ar cr a c,V.v12= .slice ar F.rules.length cr∧aG w.heap ar (gd<|F.rules.zip V.rn)∧(F.rules.zip V.rn)[k]? =some (r,.slice a r.next.length c)∧Tg w B 95 r.next.length (.slice a r.next.length c) (r.next.map aX):=by
 obtain ⟨ar,cr,G⟩:=c5 h.et
 have E:=h.et
 rw [G] at E
 have hk:=(eR.1 C).1
 obtain ⟨v,I,A⟩:=dH.get h.nx (show k < (F.rules.map (·.next)).length by rw [e9]; exact hk)
 have J:(F.rules.map (·.next)).getD k []=r.next:=by rw [cU,fF,C]; rfl
 rw [J] at A
 obtain ⟨a,c,rfl⟩:=A.slice
 exact ⟨ar,cr,a,c,G,(aY E).2,jj.2 ⟨C,I⟩,A⟩
end Go.Hb
end
namespace Go.Hb
def UG:Go.Shelf.Ren:=⟨fun n=>if n=125 then 66 else if n=128 then 123 else if n=129 then 124 else if n=189 then 143 else if n=215 then 177 else if n=216 then 249 else if n=257 then 208 else if n=294 then 243 else if n=295 then 244 else if n=296 then 245 else if n=297 then 246 else if n=298 then 247 else if n=299 then 248 else if n=300 then 250 else if n=301 then 251 else if n=328 then 269 else if n=329 then 184 else if n=330 then 185 else if n=331 then 270 else if n=332 then 271 else if n=343 then 293 else 0,fun n=>if n=0 then 0 else if n=3 then 3 else if n=4 then 4 else if n=5 then 5 else if n=9 then 9 else if n=28 then 85 else if n=46 then 145 else if n=51 then 240 else if n=53 then 242 else if n=131 then 237 else if n=182 then 232 else if n=183 then 233 else if n=218 then 287 else if n=222 then 291 else if n=228 then 335 else if n=229 then 219 else 0,fun n=>n⟩
theorem Gf:Go.Proofs.Lays.n189 ao UG where
 mixed:=ag
 f125:=ag
 f128:=ag
 f129:=ag
 f189:=ag
 f215:=ag
 f216:=ag
 f257:=ag
 f294:=ag
 f295:=ag
 f296:=ag
 f297:=ag
 f298:=ag
 f299:=ag
 f300:=ag
 f301:=ag
 f328:=ag
 f329:=ag
 f330:=ag
 f331:=ag
 f332:=ag
 f343:=ag
 t0:=ag
 a0:=fun _=>ag
 z0:=fun _=>ag
 v0:=fun _=>ag
 t3:=ag
 a3:=fun _=>ag
 z3:=fun _=>ag
 v3:=fun _=>ag
 t4:=ag
 a4:=fun _=>ag
 z4:=fun _=>ag
 v4:=fun _=>ag
 t5:=ag
 a5:=fun _=>ag
 z5:=fun _=>ag
 v5:=fun _=>ag
 t9:=ag
 a9:=fun _=>ag
 z9:=fun _=>ag
 v9:=fun _=>ag
 t28:=ag
 a28:=fun _=>ag
 z28:=fun _=>ag
 v28:=fun _=>ag
 t46:=ag
 a46:=fun _=>ag
 z46:=fun _=>ag
 v46:=fun _=>ag
 t51:=ag
 a51:=fun _=>ag
 z51:=fun _=>ag
 v51:=fun _=>ag
 t53:=ag
 a53:=fun _=>ag
 z53:=fun _=>ag
 v53:=fun _=>ag
 t131:=ag
 a131:=fun _=>ag
 z131:=fun _=>ag
 v131:=fun _=>ag
 t182:=ag
 a182:=fun _=>ag
 z182:=fun _=>ag
 v182:=fun _=>ag
 t183:=ag
 a183:=fun _=>ag
 z183:=fun _=>ag
 v183:=fun _=>ag
 t218:=ag
 a218:=fun _=>ag
 z218:=fun _=>ag
 v218:=fun _=>ag
 t222:=ag
 a222:=fun _=>ag
 z222:=fun _=>ag
 v222:=fun _=>ag
 t228:=ag
 a228:=fun _=>ag
 z228:=fun _=>ag
 v228:=fun _=>ag
 t229:=ag
 a229:=fun _=>ag
 z229:=fun _=>ag
 v229:=fun _=>ag
theorem Vx (B n:Nat) (v:Value) (c:List Int) (w:World) (E:bq w B 3 1 v n (c.map<|fL .i64)) (V:c.length≤1048576):
 bf ao 143 [v].toArray w (fun O w'=>O= .tuple #[]∧bq w' B 3 1 v n ((c.mergeSort fun x y=>decide (x≤y)).map<|fL .i64)∧Md (fun k=>v.ownBlock=some k) w w'):=by
 have hn:c.length=n:=by have :=E.1; simpa using this
 have hlen:(c.mergeSort fun x y=>decide (x≤y)).length=c.length:=List.length_mergeSort _
 rcases E.2 with ⟨rfl,Y⟩ | ⟨g,cap,cur,rfl,G,C,h1,h2,h3,h4⟩
 · have J:c= []:=gq ab
   subst J
   refine j7 (Any.slices_Sort_int_none Gf none 0 w) ?_
   rintro e w' ⟨rfl,rfl⟩
   exact ⟨_,aa,aa,by rw [List.mergeSort_nil]; exact E,Md.refl _ _⟩
 · subst hn
   rw [Nat.mul_one] at h4
   refine j7 (calls_of_every_depth fun D=>AnyS.slices_Sort_int_alone Gf D g 0 cap c w (holds_of_blockI C h4) (bT.1 C).1 ab) ?_
   rintro e w' ⟨rfl,m,os,rfl⟩
   have A:=grownBy_sortedI (w:=w) (g:=g) (n:=m) (os:=os) (c.mergeSort fun x y=>decide (x≤y)).toArray
   refine ⟨_,aa,aa,ownsRow_sortedI hlen G C h1 h2 h3,⟨A.os,A.output,A.size,fun k hk I=>A.block k hk fun he=>I ?_⟩⟩
   simp only [gH]; exact he.symm
end Go.Hb
section
namespace Go.Hb.jQ
open Go.Hb.iJ Go.Hb.iX
theorem Gt (l:List Nat):(l.map fun i:Nat=>(i:Int)).map (fL .i64)=l.map fG:=by rw [List.map_map]; rfl
theorem sw {F:aC} {xs:List bg} (h:dU F xs) (n:Int):(flagsOf xs n).length≤64∧kA (flagsOf xs n):=by
 by_cases hn:0≤n∧n < xs.length
 · obtain ⟨k,rfl⟩:∃ k:Nat,n=(k:Int):=⟨n.toNat,ab⟩
   have c:xs[k]? =some xs[k]:=bX ab
   rw [(rG c).2.1]
   exact ⟨(h.tH _<|fU c).2.1,h.PC _<|fU c⟩
 · rw [(vB hn).2]; exact ⟨ku _,tY⟩
theorem xD {F:aC} {xs:List bg} (h:dU F xs) (n:Int):(bI F n).length≤64∧kA (bI F n):=by
 by_cases hn:0≤n∧n < F.rules.length
 · obtain ⟨k,rfl⟩:∃ k:Nat,n=(k:Int):=⟨n.toNat,ab⟩
   have c:F.rules[k]? =some F.rules[k]:=bX ab
   rw [(Hr c).2.1]
   exact ⟨(h.iy c).1,(h.iy c).2.1⟩
 · rw [(Bk hn).2]; exact ⟨ku _,tY⟩
theorem NY {F:aC} {k f:Nat} (h:(dO F.bB f).isSome=false):fX F k f= []:=by
 unfold fX
 cases h2:dO F.bB f with
 | none=>rfl
 | some c=>rw [h2] at h; cases h
theorem N1 {F:aC} {k f:Nat} {c:dT} (h:(dO F.bB f).isSome=true) (A:(dO F.bB f).getD rO=c):dO F.bB f=some c:=by
 cases h2:dO F.bB f with
 | none=>rw [h2] at h; cases h
 | some d=>rw [h2] at A; exact congrArg some A
theorem NZ {F:aC} {k f:Nat} {c:dT} (h:dO F.bB f=some c) (hk:c.kind≠k):fX F k f= []:=by unfold fX; rw [h]; exact if_neg hk
theorem N2 {F:aC} {k f:Nat} {c:dT} (h:dO F.bB f=some c) (hk:c.kind=k):fX F k f=(fM c.count).map (c.first+ ·):=by unfold fX; rw [h]; exact if_pos hk
theorem NW {F:aC} (A:oH F) {f:Nat} {c:dT} (h:dO F.bB f=some c):c.first+c.count≤F.rules.length:=(A.tz c (EZ h).1).1
theorem QG {fs:List Nat} {f:Nat→List Nat} {i:Nat} (h:i < fs.length):(fs.take<|i+1).flatMap f=(fs.take i).flatMap f++f (fs.getD i 0):=by
 rw [k8 fs i 0 h,q8,sS]
theorem GL {F:aC} (c:oH F) {fs:List Nat} (h:fs.Pairwise (· < ·)) (k:Nat):(fs.flatMap<|fX F k).length=(aM F fs k).length:=by
 obtain ⟨h1,h2⟩:=GK c (k:=k) h
 exact ((List.perm_ext_iff_of_nodup h1<|(AQ F fs k).imp fun h=>by omega).2 h2).length_eq
theorem Tr {F:aC} (c:oH F) {fs:List Nat} (h:fs.Pairwise (· < ·)) (k:Nat):(fs.flatMap<|fX F k).length≤F.rules.length:=by
 rw [GL c h]; exact se F fs k
def l0 (F:aC) (xs:List bg) (e k:Int):Bool:=decide (0≤k∧k < 5) && r9 F xs e k.toNat
theorem H2 {w:World} {B tb:Nat} {U:ek} {F:aC} {xs:List bg} (h:dK w B tb U F xs) {k:Nat} (hk:k < 5):Hb.aJ w.heap tb (5 +k*1)=some (aX<|F.sp.getD k 0):=by
 refine (aV h.cells).trans ?_
 match k,hk with
 | 0,_=>rfl
 | 1,_=>rfl
 | 2,_=>rfl
 | 3,_=>rfl
 | 4,_=>rfl
theorem FL {x:Nat} {l:List Nat} (h:0∉l):decide (x∈l)=decide (x≠0∧x∈l):=decide_eq_decide.2 ⟨fun h2=>⟨fun h3=>h (h3 ▸ h2),h2⟩,And.right⟩
theorem tG (B tb:Nat) (U:ek) (F:aC) (xs:List bg) (n:Int) (w:World) (ax:dK w B tb U F xs) (aj:dU F xs):
 bf ao 24 (a7 [aU tb,.int .i64 n]) w (fun v w'=>(∃ a,v= .tuple #[.agg [str (iQ xs n),a].toArray,.bool (decide (0≤n∧n < xs.length))]∧bq w' w.heap.size 95 1 a (flagsOf xs n).length ((flagsOf xs n).map aX))∧Wk w w'):=by
 obtain ⟨a8,ce,a2⟩:=Wi ax
 have bn:=aj.xl
 refine enter func24 aa ntmps24 aa<|ak fun aI=>e<|al pd fun ba aF bi C J=> ?_
 have br:=C.size
 have aZ:=ax.wk C.md
 have a4:=Wk.aJ C.md a2
 refine ay<|aI<|aB fun aK=>ak fun ag=>p mv<|p (iZ nz aa aa)<|p mv<|gb (t:=9) aa (fun h=>absurd (h.symm.trans<|aa) c7) fun bk=>a6 aa mv<|a6 aa (lt aa aa)<|p (bG aa)<|p mv<|gs (t:=13) aa (fun a1=> ?_) fun a1=> ?_
 refine aT aa<|aT aa<|aT aa<|aT aa<|aT aa<|aT aa<|aT aa<|p (bO aa)<|nl<|ag<|ct aa<|ak fun E=>p (du (ps:= []) (L:= [.string ⟨⟨[]⟩⟩,.slice none 0 0]) nv aa<|aa)<|e<|dd jy aa aa aa aa (J) (by simp) fun a5 V I=>p aE<|nl<|E<|rt<|tr<|fg aa (dZ (cs:= [str [],.slice none 0 0]) aa kS aa fun j Z=>I.bu j) eI ?_
 have G:=vB (xs:=xs) (n:=n) ab
 exact ⟨⟨.slice none 0 0,by rw [G.1,decide_eq_false (show ¬(0≤n∧n < (xs.length:Int)) by omega)]; rfl,by rw [G.2]; exact eh _ _ _ _⟩,C.md.trans' V fun q A h=>by omega⟩
 refine a6 aa mv<|a6 aa mv<|a6 aa (nc aa)<|a6 aa (fa zZ aa)<|a6 aa (ld rA aa<|a4)<|a6 aa (bP uE aa aa)<|a6 aa (ge aa aa)<|p (bG aa)<|nl<|ag<|cd aa (fun a0=> ?_) fun a0=> ?_
 refine ak fun E=>p (du (ps:= []) (L:= [.string ⟨⟨[]⟩⟩,.slice none 0 0]) nv aa<|aa)<|e<|dd jy aa aa aa aa (J) (by simp) fun a5 V I=>ay<|E<|rt<|tr<|fg aa (dZ (cs:= [str [],.slice none 0 0]) aa kS aa fun j Z=>I.bu j) eI ?_
 have G:=vB (xs:=xs) (n:=n) ab
 exact ⟨⟨.slice none 0 0,by rw [G.1,decide_eq_false (show ¬(0≤n∧n < (xs.length:Int)) by omega)]; rfl,by rw [G.2]; exact eh _ _ _ _⟩,C.md.trans' V fun q A h=>by omega⟩
 obtain ⟨k,rfl⟩:∃ k:Nat,n=(k:Int):=⟨n.toNat,ab⟩
 obtain ⟨x,ad⟩:∃ x,xs[k]? =some x:=⟨_,bX ab⟩
 obtain ⟨a9,bb,a,c,bl,a3,an,aD,az⟩:=Wh aZ ad
 have bm:=(aj.tH x<|fU ad).2.1
 obtain ⟨aN,aO,bd,bh⟩:=rG ad
 refine aR<|aK<|ak fun E=>p mv<|p (nc aa)<|p (fa zZ aa)<|p (ld rA aa<|a3)<|p mv<|p (bc zD aa aa ab<|aG.ok (an)<|zB aD)<|p (cE kS aa (aa)<|ic (f:=qz) (m:=2) (fun _=>rfl) an aD)<|e<|al pd fun ah bw bj aw aW=> ?_
 have bt:=aw.size
 refine e<|dd jy aa aa aa aa (aW) (by simp) fun ae au aP=> ?_
 have ap:Wk aF ae:=aw.md.trans' au fun q A h=>by omega
 have bo:=au.size
 have am:bE ae.heap ah [str x.1,.slice a x.2.length c]:=aP
 refine nl<|E<|ak fun aL=>p (fa qE aa)<|p (ld mj aa<|am.bu 1)<|e<|cl rL (rN a x.2.length c (x.2.map aX) ae (az.wk ap).dJ.2 (by simp) (fun h=>Tg.sg az (by simp) h) (rE _) ab) aa fun v32 bv aY=> ?_
 obtain ⟨ac,O⟩:=aY
 obtain ⟨a32,ai,rfl⟩:=c5 ac
 have bp:=O.size
 refine p (fa qE aa)<|e<|st rQ aa aa (aa) (Wk.B O am) (by simp) fun aH Y aQ=> ?_
 have aq:Wk aF aH:=(ap.trans O).trans' Y fun q A h=>by omega
 have bs:=Y.size
 have aA:=cD ac Y fun q A h=>by have :=(da ac A).1; omega
 have aS:bE aH.heap ah [str x.1,.slice a32 x.2.length ai]:=aQ
 exact nl<|aL<|ak fun aM=>p (cE kS aa (aa) fun j Z=>aS.bu j)<|e<|dd jy aa aa aa aa (Wk.B aq J) (by simp) fun bx av aV=>p aE<|nl<|aM<|rt<|fg aa (dZ (cs:= [str x.1,.slice a32 x.2.length ai]) aa kS aa fun j Z=>aV.bu j) eI<|⟨⟨_,by rw [aN,decide_eq_true (show 0≤(k:Int)∧(k:Int) < (xs.length:Int) by omega)]; rfl,by rw [aO]; exact cD (fj aA ab) av fun q A h=>by have :=(da aA A).1; omega⟩,(C.md.trans aq).trans' av fun q A h=>by omega⟩
theorem xi (B tb:Nat) (U:ek) (F:aC) (xs:List bg) (n:Int) (w:World) (aD:dK w B tb U F xs) (an:dU F xs):
 bf ao 87 (a7 [aU tb,.int .i64 n]) w (fun v w'=>(∃ a,v= .tuple #[.agg (dG (qN F n,a)).toArray,.bool (decide (0≤n∧n < F.rules.length))]∧bq w' w.heap.size 95 1 a (bI F n).length ((bI F n).map aX))∧Wk w w'):=by
 obtain ⟨bk,ce,bb⟩:=Wj aD
 have bs:=an.len
 refine enter func87 aa ntmps87 aa<|ak fun aM=>e<|al pc fun aS I bn C O=> ?_
 have bw:=C.size
 have aF:=aD.wk C.md
 have bi:=Wk.aJ C.md bb
 have a2:bE I.heap aS (dG (dq,.slice none 0 0)):=O
 refine ay<|aM<|aB fun aN=>ak fun ah=>p mv<|p (iZ nz aa aa)<|p mv<|gb (t:=9) aa (fun h=>absurd (h.symm.trans<|aa) c7) fun bp=>a6 aa mv<|a6 aa (lt aa aa)<|p (bG aa)<|p mv<|gs (t:=13) aa (fun ba=> ?_) fun ba=> ?_
 refine aT aa<|aT aa<|aT aa<|aT aa<|aT aa<|aT aa<|aT aa<|aT aa<|p (bO aa)<|nl<|ah<|ct aa<|ak fun E=>p (du (ps:= []) (L:= [.int .i64 0,.int .u16 0,.bool false,.string ⟨⟨[]⟩⟩,.string ⟨⟨[]⟩⟩,.string ⟨⟨[]⟩⟩,.slice none 0 0]) BA aa<|aa)<|e<|dd na aa aa aa aa (O) (by simp) fun bj Y J=>ay<|E<|rt<|tr<|fg aa (dZ (cs:=dG (dq,.slice none 0 0)) aa jx aa fun j ac=>J.bu j) eI ?_
 have G:=Bk (F:=F) (n:=n) ab
 exact ⟨⟨.slice none 0 0,by rw [G.1,decide_eq_false (show ¬(0≤n∧n < (F.rules.length:Int)) by omega)]; rfl,by rw [G.2]; exact eh _ _ _ _⟩,C.md.trans' Y fun q A h=>by omega⟩
 refine a6 aa mv<|a6 aa mv<|a6 aa (nc aa)<|a6 aa (fa tO aa)<|a6 aa (fa ng aa)<|a6 aa (ld jR aa<|bi)<|a6 aa (bP pY aa aa)<|a6 aa (ge aa aa)<|p (bG aa)<|nl<|ah<|cd aa (fun a9=> ?_) fun a9=> ?_
 refine ak fun E=>p (du (ps:= []) (L:= [.int .i64 0,.int .u16 0,.bool false,.string ⟨⟨[]⟩⟩,.string ⟨⟨[]⟩⟩,.string ⟨⟨[]⟩⟩,.slice none 0 0]) BA aa<|aa)<|e<|dd na aa aa aa aa (O) (by simp) fun bj Y J=>ay<|E<|rt<|tr<|fg aa (dZ (cs:=dG (dq,.slice none 0 0)) aa jx aa fun j ac=>J.bu j) eI ?_
 have G:=Bk (F:=F) (n:=n) ab
 exact ⟨⟨.slice none 0 0,by rw [G.1,decide_eq_false (show ¬(0≤n∧n < (F.rules.length:Int)) by omega)]; rfl,by rw [G.2]; exact eh _ _ _ _⟩,C.md.trans' Y fun q A h=>by omega⟩
 obtain ⟨k,rfl⟩:∃ k:Nat,n=(k:Int):=⟨n.toNat,ab⟩
 obtain ⟨r,ae⟩:∃ r,F.rules[k]? =some r:=⟨_,bX ab⟩
 obtain ⟨aQ,aW,a,c,bd,aq,aK,aH⟩:=Lg aF.ax ae
 have bh:Hb.aJ I.heap tb 14=some (.slice aQ F.rules.length aW):=by rw [← bd]; exact (aV aF.cells).trans rfl
 have br:=(an.iy ae).1
 obtain ⟨aY,aZ,bl,bm⟩:=Hr ae
 refine aR<|aN<|ak fun E=>p mv<|p (nc aa)<|p (fa tO aa)<|p (fa ng aa)<|p (ld jR aa<|bh)<|p mv<|p (bc kG aa aa ab<|aG.ok (aq)<|k3 aK)<|p (cE jx aa (aa)<|ic (f:=dG) (m:=7) (fun _=>rfl) aq aK)<|e<|al pc fun aj bC bo aA a5=> ?_
 have bz:=aA.size
 refine e<|dd na aa aa aa aa (a5) (by simp) fun ag aw a0=> ?_
 have au:Wk I ag:=aA.md.trans' aw fun q A h=>by omega
 have bt:=aw.size
 have ap:bE ag.heap aj (dG (r,.slice a r.next.length c)):=a0
 refine nl<|E<|ak fun aO=>p (fa pP aa)<|p (ld mj aa<|ap.bu 6)<|e<|cl rL (rN a r.next.length c (r.next.map aX) ag (aH.wk au).dJ.2 (by simp) (fun h=>Tg.sg aH (by simp) h) (rE _) ab) aa fun bA bB a8=> ?_
 obtain ⟨ad,V⟩:=a8
 obtain ⟨ai,am,rfl⟩:=c5 ad
 have bv:=V.size
 refine p (fa pP aa)<|e<|st rQ aa aa (aa) (Wk.B V ap) (by show 6 < 7; omega) fun aL Z a1=> ?_
 have av:Wk I aL:=(au.trans V).trans' Z fun q A h=>by omega
 have bx:=Z.size
 have aI:=cD ad Z fun q A h=>by have :=(da ad A).1; omega
 have a3:bE aL.heap aj (dG (r,.slice ai r.next.length am)):=a1
 exact nl<|aO<|ak fun aP=>p (cE jx aa (aa) fun j ac=>a3.bu j)<|e<|dd na aa aa aa aa (Wk.B av a2) (by show 7≤7; omega) fun bD az a4=>p aE<|nl<|aP<|rt<|fg aa (dZ (cs:=dG (r,.slice ai r.next.length am)) aa jx aa fun j ac=>a4.bu j) eI<|⟨⟨_,by rw [aY,decide_eq_true (show 0≤(k:Int)∧(k:Int) < (F.rules.length:Int) by omega)]; rfl,by rw [aZ]; exact cD (fj aI ab) az fun q A h=>by have :=(da aI A).1; omega⟩,(C.md.trans av).trans' az fun q A h=>by omega⟩
theorem RR (a:Option Addr) (c:Nat) (l:List Nat) (x:Nat) (w:World) (G:aG w.heap a (l.map aX)) (ax:l.length≤1048576):
 bf ao 142 (a7 [.slice a l.length c,aX x]) w (fun v w'=>(∃ k:Int,v= .int .i64 k∧(0≤k↔x∈l)∧ -1≤k∧k≤1048576)∧Wk w w'):=by
 refine enter func142 aa ntmps142 aa<|ak fun Y=>ay<|Y<|aB fun Z=>ak fun ac=>au (.slice a l.length c)<|p (bP H8 aa aa)<|p mv<|nl<|ac<|az<|lp (fun E A V=> ∃ (i:Nat),(i≤l.length)∧(∀ j,j < i→l.getD j 0≠x)∧(V=w)∧(A 0= .slice a l.length c)∧(A 1=aX x)∧(A 7=aj (l.length))∧(A 8=aj i)∧(l.length - i=E)) _ ⟨0,ab,(fun j J=>by omega),aa,aa,aa,aa,aa,aa⟩ ?_
 rintro E A V ⟨i,hi,O,am,ap,aq,av,aw,rfl⟩
 refine fx 0 ap<|fx 1 aq<|fx 7 av<|fx 8 aw ?_
 subst am
 refine ak fun ae=>p (lt aa aa)<|nl<|ae<|aB fun ag=>cd aa (fun an=> ?_) fun an=> ?_
 refine aR<|ag<|aB fun C=>az<|ak fun ah=>au (aj i)<|p (cg (aj i) aa)<|nl<|ah<|ak fun ai=>au (aX x)<|au (.slice a l.length c)<|au (aj i)<|p (bc EK aa aa ab<|aG.ok (G)<|c8 ab)<|p (ld bZ aa<|aG.iY G (show (l.map aX)[i]? =some (aX<|l.getD i 0) by rw [fF,cU,bX (by omega :i < l.length)]; rfl)) ?_
 refine p (cx aa aa)<|nl<|ai<|cd aa (fun I=> ?_) fun I=> ?_
 exact ak fun al=>au (aj i)<|p (cg (aj i) aa)<|nl<|al<|rt<|br<|tr<|tr<|br<|tr<|a8 aa<|⟨⟨(i:Nat),aa,⟨fun _=>by obtain rfl :x=l.getD i 0:=ab; exact e6 ab,fun _=>by omega⟩,ab,ab⟩,Md.refl _ _⟩
 exact aR<|bn<|C<|rg aa<|p (ad aa aa<|cz ab)<|p mv<|nl<|tn<|⟨_,ab,i+1,ab,(fun j J=>by rcases Nat.lt_or_ge j i with h | h <;> first | exact O j h | (rw [show j=i by omega]; exact fun h2=>I<|by rw [h2])),aa,aa,aa,aa,aa,aa⟩
 exact ext<|bj<|bj<|be<|Z<|ak fun C=>p aE<|nl<|C<|rt<|a8 aa<|⟨⟨-1,aa,⟨fun h=>absurd h ab,fun h=>by obtain ⟨j,J,e⟩:=oY 0 h; exact absurd e<|O j ab⟩,ab,ab⟩,Md.refl _ _⟩
theorem Oo (a:Option Addr) (c:Nat) (l:List Nat) (x:Nat) (w:World) (E:aG w.heap a (l.map aX)) (J:l.length≤1048576):
 bf ao 85 (a7 [.slice a l.length c,aX x]) w (fun v w'=>v= .bool (decide (x∈l))∧Wk w w'):=by
 refine enter func85 aa ntmps85 aa<|ak fun A=>ay<|A<|ak fun C=>au (.slice a l.length c)<|au (aX x)<|e<|cl LP (RR a c l x w E J) aa fun Y Z G=> ?_
 obtain ⟨⟨O,rfl,I,V⟩,hE7⟩:=G
 exact p (ge aa aa)<|ay<|C<|rt<|a8 aa<|⟨by show bU (decide (O≥0))=_; exact congrArg bU (decide_eq_decide.2 I),hE7⟩
theorem FK (a:Option Addr) (c:Nat) (l:List Nat) (x:Nat) (w:World) (E:aG w.heap a (l.map aX)) (J:l.length≤1048576):
 bf ao 43 (a7 [.slice a l.length c,aX x]) w (fun v w'=>v= .bool (decide (x∈l))∧Wk w w'):=by
 refine enter func43 aa ntmps43 aa<|ak fun A=>ay<|A<|ak fun C=>au (.slice a l.length c)<|au (aX x)<|e<|cl M3 (Oo a c l x w E J) aa fun O V I=> ?_
 obtain ⟨rfl,G⟩:=I
 exact ay<|C<|rt<|a8 aa<|⟨aa,G⟩
theorem AR (B tb:Nat) (U:ek) (F:aC) (xs:List bg) (fs:List Nat) (a:Option Addr) (c kd:Nat) (w:World) (aQ:dK w B tb U F xs) (Z:dU F xs) (aJ:aG w.heap a (fs.map aX)) (b9:fs.length≤64) (aA:fs.Pairwise (· < ·)):
 bf ao 86 (a7 [aU tb,.slice a fs.length c,aj kd]) w (fun v w'=>bq w' w.heap.size 3 1 v (aM F fs kd).length ((aM F fs kd).map fG)∧Wk w w'):=by
 have ce:=Z.len
 refine enter func86 aa ntmps86 aa<|ak fun a2=>ay<|a2<|ak fun bh=>p aE<|nl<|bh<|aB fun bi=>ak fun bk=>au (.slice a fs.length c)<|p (bP oq aa aa)<|p mv<|nl<|bk<|az<|lp (fun Y G J=> ∃ (i:Nat) (v:Value),(i≤fs.length)∧(bq J w.heap.size 3 1 v ((fs.take i).flatMap<|fX F kd).length<|((fs.take i).flatMap<|fX F kd).map fG)∧(((fs.take i).flatMap<|fX F kd).length≤i*70000)∧(Wk w J)∧(G 0=aU tb)∧(G 2=aj kd)∧(G 7=v)∧(G 13= .slice a fs.length c)∧(G 14=aj (fs.length))∧(G 15=aj i)∧(fs.length - i=Y)) _ ⟨0,.slice none 0 0,ab,(eh _ _ _ _),(ku _),(Md.refl _ _),aa,aa,aa,aa,aa,aa,aa⟩ ?_
 rintro Y G J ⟨i,v,hi,ag,aZ,C,bF,bQ,bR,bI,bM,bN,rfl⟩
 refine fx 0 bF<|fx 2 bQ<|fx 7 bR<|fx 13 bI<|fx 14 bM<|fx 15 bN<|ak fun bm=>p (lt aa aa)<|nl<|bm<|aB fun bo=>cd aa (fun bz=> ?_) fun bz=> ?_
 refine aR<|bo<|aB fun O=>az<|ak fun al=>p (bc bL aa aa ab<|aG.ok (aJ.wk C)<|c8 ab)<|p (ld bZ aa<|aG.iY (aJ.wk C) (show (fs.map aX)[i]? =some (aX<|fs.getD i 0) by rw [fF,cU,bX (by omega :i < fs.length)]; rfl)) ?_
 refine ay<|al<|ak fun bp=>au (aU tb)<|p (nc aa)<|p (fa tN aa)<|p (ld eY aa<|(aV (aQ.wk C).cells).trans aa)<|p mv<|e<|cl yR (zJ B U.fb U.mc F U.V (fs.getD i 0) J (aQ.wk C).fl ab) aa fun v25 co aP=> ?_
 obtain ⟨cl,aW⟩:∃ cl,(dO F.bB<|fs.getD i 0).getD rO=cl:=⟨_,rfl⟩
 rw [aW] at aP
 have I:=QG (f:=fX F kd) (show i < fs.length by omega)
 obtain ⟨rfl,aK⟩:=aP
 have ch:=aK.size
 refine p mv<|p (xt aa aa)<|p (xt aa aa)<|e<|dY sG fun am cn b5 aO br=> ?_
 have cf:=aO.size
 refine e<|fk qw aa aa aa aa br (by simp) fun a1 aN bt=> ?_
 have ae:Wk J a1:=(aK.trans aO.md).trans' aN fun q cc h=>by omega
 have cm:=aN.size
 have aq:a1.heap[am]? =some (.cells (mX cl).toArray 192 (0,0)):=bt
 have aF:=ba ag ae
 refine ay<|bp<|aB fun a3=>ak fun aI=>p mv<|p (no aa)<|p mv<|gb (t:=30) aa (fun aD=> ?_) fun aD=> ?_
 have ac:fX F kd (fs.getD i 0)= []:=NY<|by simpa using aD
 exact aT aa<|aT aa<|aT aa<|aT aa<|p (bO aa)<|nl<|aI<|ct aa<|ext<|bj<|be<|O<|rg aa<|p (ad aa aa<|cz ab)<|p mv<|nl<|tn<|⟨_,ab,i+1,v,ab,(by rw [I,ac,eu]; exact aF),(by rewrite [I,ac,eu]; exact dS aZ<|oD _<|Nat.le_succ i),(C.trans ae),aa,aa,aa,aa,aa,aa,aa⟩
 have ax:=N1 (k:=kd) (by simpa using aD) aW
 refine a6 aa (fa tW aa)<|a6 aa (ld bH aa<|(aV aq).trans aa)<|a6 aa (aH (aj kd) aa)<|a6 aa (gF aa aa)<|p (bG aa)<|nl<|aI<|cd aa (fun aS=> ?_) fun aS=> ?_
 have ac:fX F kd (fs.getD i 0)= []:=NZ ax fun h=>aS<|by rw [h]
 exact ext<|bj<|be<|O<|rg aa<|p (ad aa aa<|cz ab)<|p mv<|nl<|tn<|⟨_,ab,i+1,v,ab,(by rw [I,ac,eu]; exact aF),(by rewrite [I,ac,eu]; exact dS aZ<|oD _<|Nat.le_succ i),(C.trans ae),aa,aa,aa,aa,aa,aa,aa⟩
 have bC:cl.kind=kd:=ab
 have aY:=N2 ax bC
 have b7:=NW Z.cls ax
 refine aR<|a3<|ak fun a4=>p (fa wm aa)<|p (ld bH aa<|(aV aq).trans aa)<|p mv<|nl<|a4<|az<|lp (fun Y A ai=> ∃ (j:Nat) (v2:Value),(j≤cl.count)∧(bq ai w.heap.size 3 1 v2 ((fs.take i).flatMap (fX F kd)++(fM j).map (cl.first+ ·)).length<|((fs.take i).flatMap (fX F kd)++(fM j).map (cl.first+ ·)).map fG)∧(ai.heap[am]? =some (.cells (mX cl).toArray 192 (0,0)))∧(Wk w ai)∧(A 0=aU tb)∧(A 2=aj kd)∧(A 7=v2)∧(A 10=aU am)∧(A 13= .slice a fs.length c)∧(A 14=aj (fs.length))∧(A 15=aj i)∧(A 37=aj (cl.count))∧(A 38=aj j)∧(cl.count - j=Y)) _ ⟨0,v,ab,(by rw [List.range_zero,List.map_nil,eu]; exact aF),aq,(C.trans ae),aa,aa,aa,aa,aa,aa,aa,aa,aa,aa⟩ ?_
 rintro Y A ai ⟨j,v2,ca,ah,av,an,bS,bY,b2,bT,bU,bV,bW,b0,b1,rfl⟩
 refine fx 0 bS<|fx 2 bY<|fx 7 b2<|fx 10 bT<|fx 13 bU<|fx 14 bV<|fx 15 bW<|fx 37 b0<|fx 38 b1<|ak fun a5=>p (lt aa aa)<|nl<|a5<|aB fun a9=>cd aa (fun bA=> ?_) fun bA=> ?_
 refine aR<|a9<|aB fun bb=>az<|ak fun bd=>au (aj j)<|p (cg (aj j) aa)<|nl<|bd<|rg aa<|au (v2)<|p (fa Fs aa)<|p (ld bH aa<|(aV av).trans aa)<|au (aj j)<|p (bK ((cl.first+j:Nat):Int) aa aa<|bl ab ab)<|e<|lk nu aa aa fun b4 cp b6 E bs=> ?_
 have ci:=E.size
 have cb:((fs.take i).flatMap (fX F kd)++(fM j).map (cl.first+ ·)).length=((fs.take i).flatMap<|fX F kd).length+j:=by rw [bJ,e9,sV]
 have bE:(fs.take i).flatMap (fX F kd)++(fM<|j+1).map (cl.first+ ·)=((fs.take i).flatMap (fX F kd)++(fM j).map (cl.first+ ·))++ [cl.first+j]:=by rw [JN,gV,← ea]; rfl
 refine e<|ap nu (ba ah E.md) aa (by have :=an.size; omega) aa (aG.gl bs) (aa) (aa) ab ab fun b3 cq bD aL ck b8=> ?_
 have bu:=Wk.own (an.trans E.md) (ba ah E.md) aL<|cj _
 have bx:=aL.az (E.md.az av) fun h=>dQ (ba ah E.md) (E.md.az av) aw h
 exact p aE<|nl<|bn<|bb<|rg aa<|p (ad aa aa<|cz ab)<|p mv<|nl<|tn<|⟨_,ab,j+1,b3,ab,(by rw [bE,gV,bJ]; exact bD),bx,bu,aa,aa,aa,aa,aa,aa,aa,aa,aa,aa⟩
 exact ext<|bj<|bj<|be<|bn<|O<|rg aa<|p (ad aa aa<|cz ab)<|p mv<|nl<|tn<|⟨_,ab,i+1,v2,ab,(by rw [I,aY,show cl.count=j by omega]; exact ah),(by rewrite [I,aY,bJ,e9,sV]; omega),an,aa,aa,aa,aa,aa,aa,aa⟩
 refine ext<|bj<|bj<|be<|bi<|aB fun O=> ?_
 rw [fu (show fs.length≤i by omega)] at ag
 refine rg aa<|au (v)<|e<|cl LQ (Vx w.heap.size _ v ((fs.flatMap<|fX F kd).map fun i:Nat=>(i:Int)) J (by rw [Gt]; exact ag)<|by rw [e9]; have :=Tr Z.cls aA kd; omega) aa fun v51 cs bw=> ?_
 obtain ⟨rfl,a0,bv⟩:=bw
 rw [Vy Z.cls aA,Gt,GL Z.cls aA] at a0
 exact nl<|O<|ak fun al=>au (v)<|p (cg (v) aa)<|nl<|al<|rt<|a8 aa<|⟨a0,Wk.own C ag bv<|cj _⟩
theorem HU (B tb:Nat) (U:ek) (F:aC) (xs:List bg) (n:Int) (w:World) (O:dK w B tb U F xs) (c:dU F xs):
 bf ao 45 (a7 [aU tb,.int .i64 n]) w (fun v w'=>bq w' w.heap.size 3 1 v (aM F (flagsOf xs n) 2).length ((aM F (flagsOf xs n) 2).map fG)∧Wk w w'):=by
 refine enter func45 aa ntmps45 aa<|ak fun Y=>ay<|Y<|ak fun Z=>au (aU tb)<|au (.int .i64 n)<|e<|cl rK (tG B tb U F xs n w O c) aa fun v10 ap ai=> ?_
 obtain ⟨⟨aq,rfl,V⟩,hE10⟩:=ai
 obtain ⟨E,G,rfl⟩:=c5 V
 have az:=hE10.size
 refine p mv<|p (xt aa aa)<|p (xt aa aa)<|e<|al pd fun ad aE av J ag=> ?_
 have aA:=J.size
 refine e<|dd jy aa aa aa aa (ag) (by simp) fun C I ae=> ?_
 have A:Wk ap C:=J.md.trans' I fun q aw h=>by omega
 have ax:=I.size
 have am:bE C.heap ad ([str (iQ xs n),.slice E (flagsOf xs n).length G]):=ae
 refine ay<|Z<|ak fun ac=>au (aU tb)<|p (fa qE aa)<|p (ld mj aa<|am.bu 1)<|e<|cl zd (AR B tb U F xs (flagsOf xs n) E G 2 C (O.wk<|hE10.trans A) c ((aY V).2.wk A) (sw c n).1 (sw c n).2.1) aa fun aB aD aj=> ?_
 obtain ⟨an,ah⟩:=aj
 exact ay<|ac<|rt<|a8 aa<|⟨fj an ab,(hE10.trans A).trans ah⟩
theorem Hd (B tb:Nat) (U:ek) (F:aC) (xs:List bg) (n:Int) (w:World) (O:dK w B tb U F xs) (c:dU F xs):
 bf ao 47 (a7 [aU tb,.int .i64 n]) w (fun v w'=>bq w' w.heap.size 3 1 v (aM F (flagsOf xs n) 1).length ((aM F (flagsOf xs n) 1).map fG)∧Wk w w'):=by
 refine enter func47 aa ntmps47 aa<|ak fun Y=>ay<|Y<|ak fun Z=>au (aU tb)<|au (.int .i64 n)<|e<|cl rK (tG B tb U F xs n w O c) aa fun v10 ap ai=> ?_
 obtain ⟨⟨aq,rfl,V⟩,hE10⟩:=ai
 obtain ⟨E,G,rfl⟩:=c5 V
 have az:=hE10.size
 refine p mv<|p (xt aa aa)<|p (xt aa aa)<|e<|al pd fun ad aE av J ag=> ?_
 have aA:=J.size
 refine e<|dd jy aa aa aa aa (ag) (by simp) fun C I ae=> ?_
 have A:Wk ap C:=J.md.trans' I fun q aw h=>by omega
 have ax:=I.size
 have am:bE C.heap ad ([str (iQ xs n),.slice E (flagsOf xs n).length G]):=ae
 refine ay<|Z<|ak fun ac=>au (aU tb)<|p (fa qE aa)<|p (ld mj aa<|am.bu 1)<|e<|cl zd (AR B tb U F xs (flagsOf xs n) E G 1 C (O.wk<|hE10.trans A) c ((aY V).2.wk A) (sw c n).1 (sw c n).2.1) aa fun aB aD aj=> ?_
 obtain ⟨an,ah⟩:=aj
 exact ay<|ac<|rt<|a8 aa<|⟨fj an ab,(hE10.trans A).trans ah⟩
theorem Bp (B tb:Nat) (U:ek) (F:aC) (xs:List bg) (n:Int) (w:World) (O:dK w B tb U F xs) (c:dU F xs):
 bf ao 46 (a7 [aU tb,.int .i64 n]) w (fun v w'=>bq w' w.heap.size 3 1 v (aM F (bI F n) 2).length ((aM F (bI F n) 2).map fG)∧Wk w w'):=by
 refine enter func46 aa ntmps46 aa<|ak fun Y=>ay<|Y<|ak fun Z=>au (aU tb)<|au (.int .i64 n)<|e<|cl DY (xi B tb U F xs n w O c) aa fun v10 ap ai=> ?_
 obtain ⟨⟨aq,rfl,V⟩,hE10⟩:=ai
 obtain ⟨E,G,rfl⟩:=c5 V
 have az:=hE10.size
 refine p mv<|p (xt aa aa)<|p (xt aa aa)<|e<|al pc fun ad aE av J ag=> ?_
 have aA:=J.size
 refine e<|dd na aa aa aa aa (ag) (by simp) fun C I ae=> ?_
 have A:Wk ap C:=J.md.trans' I fun q aw h=>by omega
 have ax:=I.size
 have am:bE C.heap ad (dG (qN F n,.slice E (bI F n).length G)):=ae
 refine ay<|Z<|ak fun ac=>au (aU tb)<|p (fa pP aa)<|p (ld mj aa<|am.bu 6)<|e<|cl zd (AR B tb U F xs (bI F n) E G 2 C (O.wk<|hE10.trans A) c ((aY V).2.wk A) (xD c n).1 (xD c n).2.1) aa fun aB aD aj=> ?_
 obtain ⟨an,ah⟩:=aj
 exact ay<|ac<|rt<|a8 aa<|⟨fj an ab,(hE10.trans A).trans ah⟩
theorem EG (B tb:Nat) (U:ek) (F:aC) (xs:List bg) (n:Int) (w:World) (ae:dK w B tb U F xs) (E:dU F xs):
 bf ao 90 (a7 [aU tb,.int .i64 n]) w (fun v w'=>v= .bool (qy F n)∧Wk w w'):=by
 refine enter func90 aa ntmps90 aa<|ak fun ai=>ay<|ai<|ak fun aj=>au (aU tb)<|au (.int .i64 n)<|e<|cl DY (xi B tb U F xs n w ae E) aa fun v10 aA av=> ?_
 obtain ⟨⟨aF,rfl,ah⟩,hE10⟩:=av
 obtain ⟨V,Y,rfl⟩:=c5 ah
 have aM:=hE10.size
 refine p mv<|p (xt aa aa)<|p (xt aa aa)<|e<|al pc fun am aO aG ad ap=> ?_
 have aN:=ad.size
 refine e<|dd na aa aa aa aa (ap) (by simp) fun A ac an=> ?_
 have Z:Wk aA A:=ad.md.trans' ac fun q aI h=>by omega
 have aL:=ac.size
 have az:bE A.heap am (dG (qN F n,.slice V (bI F n).length Y)):=an
 have G:=hE10.trans Z
 have ax:=ae.wk G
 refine ay<|aj<|aB fun O=> ?_
 have c:(fun w'=>Wk A w') A.drew:=(Md.refl _ _).drew
 refine bR (fun w'=>Wk A w') aa wide c<|aK 0 aa (fun _ _=>mv) c<|aK 1 aa (fun _ _=>mv) c<|kH (t:=14) aa (fun J=> ?_) fun J=> ?_
 refine bw 2 aa (fun _ _=>fa pP aa) c<|bw 3 aa (fun w' I=>ld mj aa<|Wk.aJ I<|az.bu 6) c<|bw 4 aa (fun _ _=>aH (aU tb) aa) c<|bw 5 aa (fun _ _=>nc aa) c<|bw 6 aa (fun _ _=>fa tO aa) c<|bw 7 aa (fun _ _=>fa wg aa) c<|bw 8 aa (fun _ _=>lW tp aa aa ab) c<|bw 9 aa (fun w' I=>ld bZ aa<|Wk.aJ I<|H2 ax (k:=0) ab) c<|lV 10 aa ag aa aa aa<|cl DQ (FK V Y (bI F n) (F.sp.getD 0 0) A.drew (((aY ah).2.wk Z).wk c)<|by have :=(xD E n).1; omega) aa fun v23 aD aw=> ?_
 obtain ⟨rfl,aq⟩:=aw
 have C:(fun w'=>Wk A w') aD:=c.trans aq
 refine ⟨C,?_⟩
 exact bw 11 aa (fun _ _=>no aa) C<|aK 12 aa (fun _ _=>bO aa) C<|aK 13 aa (fun _ _=>aE) C<|hn ag<|O<|rt<|a8 aa<|⟨by unfold qy; rw [decide_eq_true J,FL (xD E n).2.2]; rfl,G.trans C⟩
 exact bm 2 aa c<|bm 3 aa c<|bm 4 aa c<|bm 5 aa c<|bm 6 aa c<|bm 7 aa c<|bm 8 aa c<|bm 9 aa c<|bm 10 aa c<|bm 11 aa c<|aK 12 aa (fun _ _=>bG aa) c<|aK 13 aa (fun _ _=>aE) c<|hn ag<|O<|rt<|a8 aa<|⟨by unfold qy; rw [decide_eq_false J]; rfl,G.trans c⟩
theorem Gv (B tb:Nat) (U:ek) (F:aC) (xs:List bg) (n k:Int) (w:World) (ad:dK w B tb U F xs) (I:dU F xs):
 bf ao 23 (a7 [aU tb,.int .i64 n,.int .i64 k]) w (fun v w'=>v= .bool (l0 F xs n k)∧Wk w w'):=by
 refine enter func23 aa ntmps23 aa<|ak fun ai=>ay<|ai<|ak fun aj=>p mv<|p mv<|e<|cl rK (tG B tb U F xs n w ad I) aa fun v12 aD au=> ?_
 obtain ⟨⟨a12,rfl,ah⟩,hE12⟩:=au
 obtain ⟨O,V,rfl⟩:=c5 ah
 have aL:=hE12.size
 refine p mv<|p (xt aa aa)<|p (xt aa aa)<|e<|al pd fun am aO aG ac ap=> ?_
 have aM:=ac.size
 refine e<|dd jy aa aa aa aa (ap) (by simp) fun A Z an=> ?_
 have Y:Wk aD A:=ac.md.trans' Z fun q aH h=>by omega
 have aI:=Z.size
 have ax:bE A.heap am [str (iQ xs n),.slice O (flagsOf xs n).length V]:=an
 have C:=hE12.trans Y
 have aw:=ad.wk C
 refine ay<|aj<|aB fun E=> ?_
 have c:(fun w'=>Wk A w') A.drew:=(Md.refl _ _).drew
 refine bR (fun w'=>Wk A w') aa wide c<|aK 0 aa (fun _ _=>mv) c<|aK 1 aa (fun _ _=>mv) c<|kH (t:=16) aa (fun ae=> ?_) fun ae=> ?_
 refine bw 2 aa (fun _ _=>mv) c<|bw 3 aa (fun _ _=>ge aa aa) c<|aK 4 aa (fun _ _=>bO aa) c<|aK 5 aa (fun _ _=>mv) c<|kH (t:=20) aa (fun az=> ?_) fun az=> ?_
 refine bw 6 aa (fun _ _=>mv) c<|bw 7 aa (fun _ _=>lt aa aa) c<|aK 8 aa (fun _ _=>bO aa) c<|aK 9 aa (fun _ _=>mv) c<|kH (t:=24) aa (fun aA=> ?_) fun aA=> ?_
 obtain ⟨k,rfl⟩:∃ m:Nat,k=(m:Int):=⟨k.toNat,ab⟩
 refine bw 10 aa (fun _ _=>fa qE aa) c<|bw 11 aa (fun w' J=>ld mj aa<|Wk.aJ J<|ax.bu 1) c<|bw 12 aa (fun _ _=>mv) c<|bw 13 aa (fun _ _=>mv) c<|bw 14 aa (fun _ _=>nc aa) c<|bw 15 aa (fun _ _=>fa tO aa) c<|bw 16 aa (fun _ _=>fa wg aa) c<|bw 17 aa (fun _ _=>lW tp aa aa ab) c<|bw 18 aa (fun w' J=>ld bZ aa<|Wk.aJ J<|H2 aw ab) c<|lV 19 aa ag aa aa aa<|cl DQ (FK O V (flagsOf xs n) (F.sp.getD k 0) A.drew (((aY ah).2.wk Y).wk c)<|by have :=(sw I n).1; omega) aa fun aN aF av=> ?_
 obtain ⟨rfl,aq⟩:=av
 have G:(fun w'=>Wk A w') aF:=c.trans aq
 refine ⟨G,?_⟩
 exact aK 20 aa (fun _ _=>bO aa) G<|aK 21 aa (fun _ _=>aE) G<|hn ag<|E<|rt<|a8 aa<|⟨by unfold l0 r9; rw [decide_eq_true (show 0≤((k:Nat):Int)∧((k:Nat):Int) < 5 by omega),jL,FL (sw I n).2.2]; rfl,C.trans G⟩
 exact bm 10 aa c<|bm 11 aa c<|bm 12 aa c<|bm 13 aa c<|bm 14 aa c<|bm 15 aa c<|bm 16 aa c<|bm 17 aa c<|bm 18 aa c<|bm 19 aa c<|aK 20 aa (fun _ _=>bG aa) c<|aK 21 aa (fun _ _=>aE) c<|hn ag<|E<|rt<|a8 aa<|⟨by unfold l0; rw [decide_eq_false (show ¬(0≤k∧k < 5) by omega)]; rfl,C.trans c⟩
 exact bm 6 aa c<|bm 7 aa c<|aK 8 aa (fun _ _=>bG aa) c<|aK 9 aa (fun _ _=>mv) c<|bm 10 aa c<|bm 11 aa c<|bm 12 aa c<|bm 13 aa c<|bm 14 aa c<|bm 15 aa c<|bm 16 aa c<|bm 17 aa c<|bm 18 aa c<|bm 19 aa c<|aK 20 aa (fun _ _=>bG aa) c<|aK 21 aa (fun _ _=>aE) c<|hn ag<|E<|rt<|a8 aa<|⟨by unfold l0; rw [decide_eq_false (show ¬(0≤k∧k < 5) by omega)]; rfl,C.trans c⟩
 exact bm 2 aa c<|bm 3 aa c<|aK 4 aa (fun _ _=>bG aa) c<|aK 5 aa (fun _ _=>mv) c<|bm 6 aa c<|bm 7 aa c<|aK 8 aa (fun _ _=>bG aa) c<|aK 9 aa (fun _ _=>mv) c<|bm 10 aa c<|bm 11 aa c<|bm 12 aa c<|bm 13 aa c<|bm 14 aa c<|bm 15 aa c<|bm 16 aa c<|bm 17 aa c<|bm 18 aa c<|bm 19 aa c<|aK 20 aa (fun _ _=>bG aa) c<|aK 21 aa (fun _ _=>aE) c<|hn ag<|E<|rt<|a8 aa<|⟨by unfold l0 r9; rw [(vB ae).2,decide_eq_false (show ¬(F.sp.getD k.toNat 0≠0∧F.sp.getD k.toNat 0∈[]) from fun h=>by cases h.2),xX]; rfl,C.trans c⟩
end Go.Hb.jQ
end
section
namespace Go.Hb
open Go.Hb.iJ Go.Hb.iX Go.Hb.jQ
theorem r5 {l:List Nat} {i:Nat} (h:i < l.length):(l.map fG)[i]? =some (fG<|l.getD i 0):=by rw [fF,cU,bX h]; rfl
end Go.Hb
end
section
namespace Go.Hb
open Go.Hb.pF
theorem VQ {ps:List Tx} {w:Tx} {i:Nat} (hi:i < ps.length) (h:fy (ps.getD i []) (w.getD i 0)=false):oo ps w=false :=by
 unfold oo
 rw [Bool.and_eq_false_iff]
 refine .inr ?_
 rw [List.all_eq_false]
 exact ⟨i,by simpa using hi,by rw [h]; exact c7⟩
theorem VS {ps:List Tx} {w:Tx} (c:ps.length≤w.length) (h:∀ i,i < ps.length→fy (ps.getD i []) (w.getD i 0)=true):oo ps w=true :=by
 unfold oo
 rw [gp,decide_eq_true c,kP]
 exact ⟨aa,fun i hi=>h i<|by simpa using hi⟩
theorem VR {ps:List Tx} {w:Tx} (h:w.length < ps.length):oo ps w=false :=by
 unfold oo; rw [decide_eq_false ab]; rfl
theorem Rc (s pr:List UInt8) (w:World) (hs:s.length≤1099511627776) (hp:pr.length≤1099511627776):
 bf ao 167 (a7 [str s,str pr]) w (fun v w'=>v= .bool (decide (s.take pr.length=pr))∧Wk w w'):=by
 refine enter func167 aa ntmps167 aa<|ak fun c=>ay<|c<|ak fun A=>au (str s)<|au (str pr)<|e<|cl yZ (Aj s pr _ hs hp) aa fun G I E=> ?_
 obtain ⟨rfl,C⟩:=E
 exact ay<|A<|rt<|a8 aa<|⟨aa,C⟩
theorem Re (s pr:List UInt8) (w:World) (hs:s.length≤1099511627776) (hp:pr.length≤1099511627776):
 bf ao 165 (a7 [str s,str pr]) w (fun v w'=>v= .bool (decide (pr.length≤s.length∧s.drop (s.length - pr.length)=pr))∧Wk w w'):=by
 refine enter func165 aa ntmps165 aa<|ak fun c=>ay<|c<|ak fun A=>au (str s)<|au (str pr)<|e<|cl vJ (wv s pr _ hs hp) aa fun G I E=> ?_
 obtain ⟨rfl,C⟩:=E
 exact ay<|A<|rt<|a8 aa<|⟨aa,C⟩
theorem T3 (ps:List Tx) (a:Option Addr) (c:Nat) (i:Nat) (b:UInt8) (w:World) (E:aG w.heap a (kF ps)) (hi:i < ps.length) (ag:ps.length≤4096):
 bf ao 221 (a7 [.agg [.slice a ps.length c].toArray,aj i,.int .u8 b.toNat]) w (fun v w'=>v= .bool (fy (ps.getD i []) b)∧Wk w w'):=by
 refine enter func221 aa ntmps221 aa<|ak fun I=>e<|jm aa fun O G ac A V=> ?_
 have C:bE G.heap O [.slice a ps.length c]:=V
 refine ay<|I<|ak fun J=>au (aj i)<|p (ge aa aa)<|p mv<|gs (t:=9) aa (fun ae=> ?_) fun h=>absurd ab h
 refine a6 aa (aH (aj i) aa)<|a6 aa (fa lS aa)<|a6 aa (ld mR aa<|C.bu 0)<|a6 aa (bP p6 aa aa)<|a6 aa (lt aa aa)<|p (bO aa)<|p mv<|gs (t:=16) aa (fun ad=> ?_) fun h=>absurd ab h
 refine a6 aa (fa lS aa)<|a6 aa (ld mR aa<|C.bu 0)<|a6 aa (aH (aj i) aa)<|a6 aa (bc EL aa aa ab<|aG.ok (E.wk A.md)<|Ec ab)<|a6 aa (cE kg aa (aa)<|Eb (E.wk A.md) hi)<|a6 aa (aH (.int .u8 b.toNat) aa)<|eg aa aa aa<|cl y1 (FM (fy<|ps.getD i []) b G) aa fun v23 ah Z=> ?_
 obtain ⟨rfl,Y⟩:=Z
 exact p (bO aa)<|ay<|J<|rt<|a8 aa<|⟨aa,A.md.trans Y⟩
theorem He (ps:List Tx) (a:Option Addr) (c:Nat) (s:Tx) (w:World) (aF:aG w.heap a (kF ps)) (aM:ps.length≤4096):
 bf ao 168 (a7 [.agg [.slice a ps.length c].toArray,str s]) w (fun v w'=>v= .bool (oo ps s)∧Wk w w'):=by
 refine enter func168 aa ntmps168 aa<|ak fun am=>e<|jm aa fun ac al aT I aD=> ?_
 have V:bE al.heap ac [.slice a ps.length c]:=aD
 refine ay<|am<|aB fun aq=>ak fun av=>au (str s)<|p (dC u9 aa aa)<|p (fa lS aa)<|p (ld mR aa<|V.bu 0)<|p (bP p6 aa aa)<|p (lt aa aa)<|nl<|av<|cd aa (fun aJ=> ?_) fun aJ=> ?_
 exact ak fun J=>ay<|J<|rt<|tr<|a8 aa<|⟨by rw [VR ab]; rfl,I.md⟩
 refine aR<|aq<|aB fun J=>ak fun aw=>p (fa lS aa)<|p (ld mR aa<|V.bu 0)<|p (bP p6 aa aa)<|p mv<|nl<|aw<|az<|lp (fun ae G C=> ∃ (i:Nat),(i≤ps.length)∧(∀ k,k < i→fy (ps.getD k []) (s.getD k 0)=true)∧(Wk al C)∧(G 1=str s)∧(G 2=aU ac)∧(G 14=aj (ps.length))∧(G 15=aj i)∧(ps.length - i=ae)) _ ⟨0,ab,(fun k hk=>absurd hk<|Nat.not_lt_zero _),(Md.refl _ _),aa,aa,aa,aa,aa⟩ ?_
 rintro ae G C ⟨i,hi,ai,E,aN,aQ,aO,aP,rfl⟩
 refine fx 1 aN<|fx 2 aQ<|fx 14 aO<|fx 15 aP<|ak fun ax=>p (lt aa aa)<|nl<|ax<|aB fun aA=>cd aa (fun aL=> ?_) fun aL=> ?_
 refine aR<|aA<|aB fun O=>az<|ak fun aC=>au (aj i)<|p (cg (aj i) aa)<|nl<|aC<|aB fun an=> ?_
 have A:(fun w'=>Wk C w') C.drew:=(Md.refl _ _).drew
 refine bR (fun w'=>Wk C w') aa wide A<|aK 0 aa (fun w' aI=>cE mi aa (aa) fun j aV=>(Wk.B aI<|Wk.B E V).bu j) A<|bY 1 aa (aj i) A<|bY 2 aa (str s) A<|bY 3 aa (aj i) A<|aK 4 aa (fun _ _=>kj u9 aa aa ab) A<|he 5 aa ag<|cl Mc (T3 ps a c i (s.getD i 0) C.drew (aF.wk<|I.md.trans<|E.trans A) ab aM) aa fun v23 aS aH=> ?_
 obtain ⟨rfl,Y⟩:=aH
 have ah:(fun w'=>Wk C w') aS:=A.trans Y
 refine ⟨ah,?_⟩
 refine aK 6 aa (fun _ _=>no aa) ah<|hn ag<|an<|cb aa (fun Z=> ?_) fun Z=> ?_
 exact ak fun ap=>ay<|ap<|rt<|br<|tr<|tr<|br<|tr<|a8 aa<|⟨by rw [VQ (i:=i) ab (by simpa using Z)]; rfl,I.md.trans<|E.trans<|A.trans Y⟩
 exact aR<|bn<|O<|rg aa<|p (ad aa aa<|cz ab)<|p mv<|nl<|tn<|⟨_,ab,i+1,ab,(fun k hk=>by rcases nS.1 hk with h | rfl; exact ai k h; simpa using Z),(E.trans<|A.trans Y),aa,aa,aa,aa,aa⟩
 exact ext<|bj<|bj<|be<|J<|ak fun O=>p aE<|nl<|O<|rt<|a8 aa<|⟨by rw [VS ab (fun k hk=>ai k ab)]; rfl,I.md.trans E⟩
section
variable {r:cJ} {s:Tx}
theorem Qt (h:(eb r.cond).2≠0):gB r s=false :=by unfold gB; rw [decide_eq_false (fun h2=>h h2.1)]; rfl
theorem Qu (h:s.length≤r.strip.length):gB r s=false :=by unfold gB; rw [decide_eq_false (fun h2=>by omega)]; rfl
variable (h:(eb r.cond).2=0) (h1:r.strip.length < s.length)
include h h1
theorem E6 (hk:r.kind=2):gB r s=(decide (s.drop (s.length - r.strip.length)=r.strip) && tE (eb r.cond).1 s):=by unfold gB; rw [decide_eq_true ⟨h,h1⟩,if_pos hk]; rfl
theorem E5 (hk:r.kind=1):gB r s=(decide (s.take r.strip.length=r.strip) && oo (eb r.cond).1 s):=by unfold gB; rw [decide_eq_true ⟨h,h1⟩,if_neg ab,if_pos hk]; rfl
omit h h1 in
theorem Qs (hk:r.kind≠1) (c:r.kind≠2):gB r s=false :=by unfold gB; rw [if_neg c,if_neg hk,xX]
end
theorem Ub (ps:List Tx) (a:Option Addr) (c:Nat) (s:Tx) (w:World) (ac:aG w.heap a (kF ps)) (ai:ps.length≤4096) (an:s.length≤1073741824):
 bf ao 166 (a7 [.agg [.slice a ps.length c].toArray,str s]) w (fun v w'=>v= .bool (tE ps s)∧Wk w w'):=by
 refine enter func166 aa ntmps166 aa<|ak fun V=>e<|jm aa fun Y C al J Z=> ?_
 have I:bE C.heap Y [.slice a ps.length c]:=Z
 refine ay<|V<|aB fun O=> ?_
 have A:(fun w'=>Wk C w') C.drew:=(Md.refl _ _).drew
 refine bR (fun w'=>Wk C w') aa wide A<|bY 0 aa (str s) A<|aK 1 aa (fun _ _=>dC u9 aa aa) A<|aK 2 aa (fun _ _=>fa lS aa) A<|aK 3 aa (fun w' E=>ld mR aa<|Wk.aJ E<|I.bu 0) A<|aK 4 aa (fun _ _=>bP p6 aa aa) A<|aK 5 aa (fun _ _=>ge aa aa) A<|aK 6 aa (fun _ _=>mv) A<|kH (t:=11) aa (fun ah=> ?_) fun ah=> ?_
 refine bw 7 aa (fun w' E=>cE mi aa (aa) fun j am=>(Wk.B E I).bu j) A<|bw 8 aa (fun _ _=>aH (str s) aa) A<|bw 9 aa (fun _ _=>aH (str s) aa) A<|bw 10 aa (fun _ _=>dC u9 aa aa) A<|bw 11 aa (fun _ _=>fa lS aa) A<|bw 12 aa (fun w' E=>ld mR aa<|Wk.aJ E<|I.bu 0) A<|bw 13 aa (fun _ _=>bP p6 aa aa) A<|bw 14 aa (fun _ _=>dz ((s.length - ps.length:Nat):Int) aa aa<|bl ab ab) A<|bw 15 aa (fun _ _=>o0 u9 aa aa ab) A<|lV 16 aa ag aa aa aa<|cl Dt (He ps a c (s.drop<|s.length - ps.length) C.drew (ac.wk<|J.md.trans A) ai) aa fun v21 aj ae=> ?_
 obtain ⟨rfl,ad⟩:=ae
 have G:(fun w'=>Wk C w') aj:=A.trans ad
 refine ⟨G,?_⟩
 exact aK 17 aa (fun _ _=>bO aa) G<|aK 18 aa (fun _ _=>aE) G<|hn ag<|O<|rt<|a8 aa<|⟨by unfold tE; rw [decide_eq_true (show ps.length≤s.length by omega)]; rfl,J.md.trans G⟩
 exact bm 7 aa A<|bm 8 aa A<|bm 9 aa A<|bm 10 aa A<|bm 11 aa A<|bm 12 aa A<|bm 13 aa A<|bm 14 aa A<|bm 15 aa A<|bm 16 aa A<|aK 17 aa (fun _ _=>bG aa) A<|aK 18 aa (fun _ _=>aE) A<|hn ag<|O<|rt<|a8 aa<|⟨by unfold tE; rw [decide_eq_false (show ¬ps.length≤s.length by omega)]; rfl,J.md.trans A⟩
theorem E7 (r:cJ) (u:Value) (s:Tx) (w:World) (bg:r.strip.length≤1048576) (ba:r.add.length≤1048576) (aW:r.cond.length≤1048576) (aZ:s.length≤1073741824):
 bf ao 104 (a7 [.agg (dG (r,u)).toArray,str s]) w (fun v w'=>v= .bool (gB r s)∧Wk w w'):=by
 refine enter func104 aa ntmps104 aa<|ak fun aq=>e<|jm aa fun aC ap a3 aj aF=> ?_
 have bd:((r,u):cJ×Value).1.strip.length=r.strip.length:=rfl
 have bc:((r,u):cJ×Value).1.kind=r.kind:=rfl
 have bb:((r,u):cJ×Value).1.add.length=r.add.length:=rfl
 have ag:bE ap.heap aC (dG (r,u)):=aF
 refine ay<|aq<|ak fun av=>p (fa Fk aa)<|p (ld cR aa<|ag.bu 5)<|e<|cl Ds (Ej r.cond ap aW) aa fun v10 a0 aL=> ?_
 obtain ⟨⟨ac,rfl,an⟩,hE10⟩:=aL
 obtain ⟨a,c,rfl⟩:=c5 an
 have ai:=(aY an).2
 have a5:=Ei r.cond
 have bi:=aj.size
 have bh:=hE10.size
 refine p mv<|p (xt aa aa)<|p (xt aa aa)<|e<|al xQ fun aD bo a4 am aG=> ?_
 have bj:=am.size
 refine e<|dd pM aa aa aa aa (aG) (by simp) fun Y aK aE=> ?_
 have J:Wk a0 Y:=am.md.trans' aK fun q a9 h=>by omega
 have ah:bE Y.heap aD [.slice a (eb r.cond).1.length c]:=aE
 have I:=Wk.B (hE10.trans J) ag
 have A:=aj.md.trans<|hE10.trans J
 refine ay<|av<|aB fun aw=>ak fun ae=>p mv<|p (gF aa aa)<|p mv<|gs (t:=15) aa (fun aQ=> ?_) fun aQ=> ?_
 refine aT aa<|aT aa<|aT aa<|aT aa<|aT aa<|aT aa<|p (bO aa)<|nl<|ae<|ct aa<|ak fun C=>ay<|C<|rt ?_
 exact tr<|a8 aa<|⟨by rw [Qt ab]; rfl,A⟩
 refine a6 aa (aH (str s) aa)<|a6 aa (dC u9 aa aa)<|a6 aa (fa pO aa)<|a6 aa (ld cR aa<|I.bu 3)<|a6 aa (dC u9 aa aa)<|a6 aa (le aa aa)<|p (bG aa)<|nl<|ae<|cd aa (fun aX=> ?_) fun aX=> ?_
 exact ak fun C=>ay<|C<|rt<|tr<|a8 aa<|⟨by rw [Qu ab]; rfl,A⟩
 refine aR<|aw<|aB fun C=>ak fun ax=>p (fa tP aa)<|p (ld bH aa<|I.bu 0)<|nl<|ax<|az<|ak fun aA=>p (cx aa aa)<|ay<|aA ?_
 refine cd aa (fun aV=> ?_) fun aV=> ?_
 refine ak fun E=>au (str s)<|p (fa pO aa)<|p (ld cR aa<|I.bu 3)<|e<|cl LW (Re s r.strip Y ab ab) aa fun v30 a1 aM=> ?_
 obtain ⟨rfl,O⟩:=aM
 refine p mv<|gb (t:=31) aa (fun ad=> ?_) fun ad=> ?_
 refine a6 aa (cE mi aa (aa) fun j aS=>(Wk.B O ah).bu j)<|a6 aa (aH (str s) aa)<|eg aa aa aa<|cl LX (Ub (eb r.cond).1 a c s a1 (ai.wk<|J.trans O) ab aZ) aa fun bk bl aN=> ?_
 obtain ⟨rfl,aI⟩:=aN
 exact p (bO aa)<|ay<|E<|rt<|br<|tr<|a8 aa<|⟨by rw [E6 ab ab ab,decide_eq_true (of_decide_eq_true ad).2]; rfl,A.trans<|O.trans aI⟩
 exact aT aa<|aT aa<|aT aa<|p (bG aa)<|ay<|E<|rt<|br<|tr<|a8 aa<|⟨by rw [E6 ab ab ab,decide_eq_false (fun h=>of_decide_eq_false ad ⟨ab,h⟩)]; rfl,A.trans O⟩
 refine ak fun E=>p (cx aa aa)<|ay<|E<|cd aa (fun aU=> ?_) fun aU=> ?_
 refine ak fun G=>au (str s)<|p (fa pO aa)<|p (ld cR aa<|I.bu 3)<|e<|cl LY (Rc s r.strip Y ab ab) aa fun v41 a2 aO=> ?_
 obtain ⟨rfl,V⟩:=aO
 refine p mv<|gb (t:=42) aa (fun Z=> ?_) fun Z=> ?_
 refine a6 aa (cE mi aa (aa) fun j aS=>(Wk.B V ah).bu j)<|a6 aa (aH (str s) aa)<|eg aa aa aa<|cl Dt (He (eb r.cond).1 a c s a2 (ai.wk<|J.trans V) ab) aa fun v45 bm aP=> ?_
 obtain ⟨rfl,aJ⟩:=aP
 exact p (bO aa)<|ay<|G<|rt<|br<|tr<|a8 aa<|⟨by rw [E5 ab ab ab,Z]; rfl,A.trans<|V.trans aJ⟩
 exact aT aa<|aT aa<|aT aa<|p (bG aa)<|ay<|G<|rt<|br<|tr<|a8 aa<|⟨by rw [E5 ab ab ab,Z]; rfl,A.trans V⟩
 exact aR<|bn<|C<|ak fun G=>ay<|G<|rt<|a8 aa<|⟨by rw [Qs ab ab]; rfl,A⟩
def kq (s p:Tx):Tx:=if p.length≤s.length∧s.drop (s.length - p.length)=p then s.take (s.length - p.length) else s
theorem C7 {r:cJ} {s:Tx} (h:gB r s=false):dy r s=none:=if_neg<|by rw [h]; exact c7
theorem vZ {r:cJ} {s:Tx} (h:gB r s=true):r.strip.length < s.length∧(r.kind=2→s.drop (s.length - r.strip.length)=r.strip)∧(r.kind≠2→s.take r.strip.length=r.strip):=by
 unfold gB at h
 rw [gp,decide_eq_true_eq] at h
 refine ⟨h.1.2,fun hk=> ?_,fun hk=> ?_⟩
 · have h2:=h.2; rw [if_pos hk,gp] at h2; exact of_decide_eq_true h2.1
 · have h2:=h.2; rw [if_neg hk] at h2
   split at h2
   · rw [gp] at h2; exact of_decide_eq_true h2.1
   · cases h2
theorem Lb {r:cJ} {s:Tx} (h:gB r s=true) (hk:r.kind=2):dy r s=some (kq s r.strip++r.add):=by
 have h1:=vZ h
 unfold dy kq; rw [if_pos h,if_pos hk,if_pos ⟨ab,h1.2.1 hk⟩]
theorem K0 {r:cJ} {s:Tx} (h:gB r s=true) (hk:r.kind≠2):dy r s=some (r.add++eO s r.strip):=by
 have h1:=vZ h
 unfold dy eO; rw [if_pos h,if_neg hk,if_pos (h1.2.2 hk)]
theorem Lc {r:cJ} {s:Tx} (h:gB r s=true) (hk:r.kind=2):dy r s=some (s.take (s.length - r.strip.length)++r.add):=by
 unfold dy; rw [if_pos h,if_pos hk]
theorem La {r:cJ} {s:Tx} (h:gB r s=true) (hk:r.kind≠2):dy r s=some (r.add++s.drop r.strip.length):=by
 unfold dy; rw [if_pos h,if_neg hk]
def xa (x:Option Tx):Value:= .tuple #[str (x.getD []),.bool x.isSome]
theorem Wq (s pr:List UInt8) (w:World) (hs:s.length≤1099511627776) (hp:pr.length≤1099511627776):
 bf ao 209 (a7 [str s,str pr]) w (fun v w'=>v=str (kq s pr)∧Wk w w'):=by
 refine enter func209 aa ntmps209 aa<|ak fun G=>ay<|G<|aB fun I=>ak fun J=>au (str s)<|au (str pr)<|e<|cl vJ (wv s pr _ hs hp) aa fun V Y O=> ?_
 obtain ⟨rfl,E⟩:=O
 refine nl<|J<|cb aa (fun A=> ?_) fun A=> ?_
 have C:=of_decide_eq_true A
 exact ak fun c=>au (str s)<|au (str s)<|p (dC u9 aa aa)<|au (str pr)<|p (dC u9 aa aa)<|p (dz ((s.length - pr.length:Nat):Int) aa aa<|bl ab ab)<|p (sr u9 aa aa ab)<|ay<|c<|rt<|tr<|a8 aa<|⟨by show str (s.take (((s.length - pr.length:Nat):Int)).toNat)=_; unfold kq; rw [if_pos C]; rfl,E⟩
 have C:=of_decide_eq_false A
 exact aR<|I<|ak fun c=>au (str s)<|p (cg (str s) aa)<|nl<|c<|rt<|a8 aa<|⟨by show str s=_; unfold kq; rw [if_neg C],E⟩
theorem Ws (s pr:List UInt8) (w:World) (hs:s.length≤1099511627776) (hp:pr.length≤1099511627776):
 bf ao 145 (a7 [str s,str pr]) w (fun v w'=>v=str (kq s pr)∧Wk w w'):=by
 refine enter func145 aa ntmps145 aa<|ak fun c=>ay<|c<|ak fun A=>au (str s)<|au (str pr)<|e<|cl DD (Wq s pr _ hs hp) aa fun G I E=> ?_
 obtain ⟨rfl,C⟩:=E
 exact ay<|A<|rt<|a8 aa<|⟨aa,C⟩
theorem vA (r:cJ) (u:Value) (s:Tx) (w:World) (aF:r.strip.length≤1048576) (aC:r.add.length≤1048576) (aD:r.cond.length≤1048576) (aG:s.length≤1073741824):
 bf ao 89 (a7 [.agg (dG (r,u)).toArray,str s]) w (fun v w'=>v=xa (dy r s)∧Wk w w'):=by
 refine enter func89 aa ntmps89 aa<|ak fun ai=>e<|jm aa fun an ah aL aw ap=> ?_
 have aQ:((r,u):cJ×Value).1.strip.length=r.strip.length:=rfl
 have aP:((r,u):cJ×Value).1.kind=r.kind:=rfl
 have aO:((r,u):cJ×Value).1.add.length=r.add.length:=rfl
 have ad:bE ah.heap an (dG (r,u)):=ap
 refine p aE<|ay<|ai<|aB fun aj=>ak fun al=>p (cE jx aa (aa) fun j aN=>ad.bu j)<|au (str s)<|e<|cl Dj (E7 r u s ah aF aC aD aG) aa fun aT c aA=> ?_
 obtain ⟨rfl,ae⟩:=aA
 have J:=Wk.B ae ad
 have Z:=aw.md.trans ae
 refine p (no aa)<|nl<|al<|cb aa (fun ac=> ?_) fun ac=> ?_
 have O:gB r s=false :=by simpa using ac
 exact ak fun V=>p aE<|ay<|V<|rt<|tr<|f2 aa aa aa<|⟨by rw [C7 O]; rfl,Z⟩
 have O:gB r s=true :=by simpa using ac
 have aM:=(vZ O).1
 refine aR<|aj<|aB fun V=>ak fun am=>p (fa tP aa)<|p (ld bH aa<|J.bu 0)<|p (cx aa aa)<|nl<|am<|cd aa (fun hk=> ?_) fun hk=> ?_
 refine aB fun Y=> ?_
 have C:(fun w'=>Wk c w') c.drew:=(Md.refl _ _).drew
 refine bR (fun w'=>Wk c w') aa wide C<|bY 0 aa (str s) C<|aK 1 aa (fun _ _=>fa pO aa) C<|aK 2 aa (fun w' A=>ld cR aa<|Wk.aJ A<|J.bu 3) C<|aK 4 aa (fun _ _=>fa tR aa) C<|aK 5 aa (fun w' A=>ld cR aa<|Wk.aJ A<|J.bu 4) C<|he 3 aa ag<|cl Dp (Ws s r.strip c.drew ab ab) aa fun aS aH ax=> ?_
 obtain ⟨rfl,aq⟩:=ax
 have G:(fun w'=>Wk c w') aH:=C.trans aq
 refine ⟨G,?_⟩
 exact aK 6 aa (fun _ _=>cc aa aa (by have :(kq s r.strip).length≤s.length:=(by unfold kq; split <;> simp <;> omega); omega)) G<|aK 7 aa (fun _ _=>aE) G<|aK 8 aa (fun _ _=>aE) G<|hn ag<|Y<|rt<|tr<|f2 aa aa aa<|⟨by rw [Lb O ab]; rfl,Z.trans G⟩
 refine aR<|V<|aB fun Y=> ?_
 have E:(fun w'=>Wk c w') c.drew:=(Md.refl _ _).drew
 refine bR (fun w'=>Wk c w') aa wide E<|aK 0 aa (fun _ _=>fa tR aa) E<|aK 1 aa (fun w' A=>ld cR aa<|Wk.aJ A<|J.bu 4) E<|bY 2 aa (str s) E<|aK 3 aa (fun _ _=>fa pO aa) E<|aK 4 aa (fun w' A=>ld cR aa<|Wk.aJ A<|J.bu 3) E<|he 5 aa ag<|cl Dq (H4 s r.strip c.drew ab ab) aa fun v25 aI az=> ?_
 obtain ⟨rfl,av⟩:=az
 have I:(fun w'=>Wk c w') aI:=E.trans av
 refine ⟨I,?_⟩
 exact aK 6 aa (fun _ _=>cc aa aa (by have :(eO s r.strip).length≤s.length:=(by unfold eO; split <;> simp); omega)) I<|aK 7 aa (fun _ _=>aE) I<|aK 8 aa (fun _ _=>aE) I<|hn ag<|Y<|rt<|f2 aa aa aa<|⟨by rw [K0 O ab]; rfl,Z.trans I⟩
end Go.Hb
end
section
namespace Go.Hb
open Go.Hb.iJ Go.Hb.iX Go.Hb.jQ
def cT (d:bo):List Value:= [str d.cy,.int .i64 (d.dW:Nat),.int .i64 d.fst,.int .i64 d.snd,.int .i64 d.pre]
def fA (l:List bo):List Value:=l.flatMap cT
def oR (d:bo):Array Value:= #[.agg (cT d).toArray]
theorem lj {h:Array Obj} {b e:Nat} {L:List Value} (c:h[b]? =some (.cells L.toArray e (0,0))):bE h b L:=⟨e,c⟩
def Rn (F:aC) (n:Int):Prop :=n= -1∨(0≤n∧n < F.rules.length)
section
variable {F:aC} {xs:List bg} {e:Nat} {f s p:Int}
theorem Q9 (c:f= -1) (hp:p= -1):eU F xs e f s p= !r9 F xs e 0:=by unfold eU; rw [if_pos c,decide_eq_false (fun h=>h hp)]; rfl
theorem Ra (c:f= -1) (hp:p≠ -1):eU F xs e f s p=true :=by unfold eU; rw [if_pos c,decide_eq_true hp]; rfl
theorem FI (c:f≠ -1) (h:qy F (if s= -1 then f else s)=false):eU F xs e f s p=false :=by unfold eU; rw [if_neg c,if_pos h]
theorem FH (c:f≠ -1) (h:qy F (if s= -1 then f else s)=true) (hp:p= -1):eU F xs e f s p=true :=by unfold eU; rw [if_neg c,if_neg (by rw [h]; exact c7),decide_eq_true hp]; rfl
theorem r6 (c:f≠ -1) (h:qy F (if s= -1 then f else s)=true) (hp:p≠ -1):eU F xs e f s p=(nZ F f && nZ F s && nZ F p):=by unfold eU; rw [if_neg c,if_neg (by rw [h]; exact c7),decide_eq_false hp]; rfl
theorem OA:nZ F (-1)=true :=by unfold nZ; rw [decide_eq_true rfl]; rfl
theorem tA {k:Nat} {r:cJ} (c:F.rules[k]? =some r):nZ F k=r.gv:=by
 unfold nZ
 rw [decide_eq_false ab,jL,cU,c]; rfl
end
theorem S1 (F:aC) (xs:List bg) (e:Int):l0 F xs e 0=r9 F xs e 0:=rfl
theorem HY {α β:Type} {g:α→Option β} {l:List α} {i:Nat} (d:α) (h:i < l.length):(l.take<|i+1).filterMap g=(l.take i).filterMap g++(g<|l.getD i d).toList:=by
 rw [k8 l i d h,Cy]
 congr 1
structure qo where
 ar:Option Addr
 cr:Nat
 rn:List Value
 ap:Option Addr
 cp:Nat
def nk (tb l:Nat) (K:qo) (F:aC) (e:Int) (word:Tx) (ps:List Nat):List Value:= [.pointer (some ⟨tb,0,none⟩),.slice K.ar F.rules.length K.cr,.int .i64 e,str word,.slice K.ap ps.length K.cp,.func (.yield l) #[] #[]]
structure iM (w:World) (fp:Nat→Prop) (S0 mb tb l:Nat) (K:qo) (F:aC) (e:Int) (word:Tx) (ps:List Nat):Prop where
 lo:S0≤mb
 cells:w.heap[mb]? =some (.cells (nk tb l K F e word ps).toArray 201 (0,0))
 nf:¬fp mb
 ru:bq w S0 134 7 (.slice K.ar F.rules.length K.cr) F.rules.length (gd<|F.rules.zip K.rn)
 rf:∀ k,(bC K.ar F.rules.length K.cr).ownBlock=some k→¬fp k
 rn:K.rn.length=F.rules.length
 pr:bq w S0 3 1 (.slice K.ap ps.length K.cp) ps.length (ps.map fG)
 pf:∀ k,(bC K.ap ps.length K.cp).ownBlock=some k→¬fp k
section
variable {w w':World} {fp fp':Nat→Prop} {S0 mb tb l:Nat} {K:qo} {F:aC} {e:Int} {word:Tx} {ps:List Nat}
theorem iM.gw (h:iM w fp S0 mb tb l K F e word ps) (c:Gw S0 fp w fp' w'):iM w' fp' S0 mb tb l K F e word ps:=
 ⟨h.lo,(c.az h.cells h.lo h.nf).1,(c.az h.cells h.lo h.nf).2,(c.own h.ru h.rf).1,(c.own h.ru h.rf).2,h.rn,(c.own h.pr h.pf).1,(c.own h.pr h.pf).2⟩
theorem iM.wk (h:iM w fp S0 mb tb l K F e word ps) (hm:Wk w w'):iM w' fp S0 mb tb l K F e word ps:=h.gw<|Gw.wk hm
theorem iM.ud (h:iM w fp S0 mb tb l K F e word ps) {G:Nat→Prop} (hm:Md G w w') {L:List Nat} (A:TF w L G) (c:(L.contains 203 || L.contains 136 || L.contains 5)=false):iM w' fp S0 mb tb l K F e word ps:=by
 simp only [pk] at c
 exact ⟨h.lo,hm.gZ A h.cells c.1.1,h.nf,cX h.ru hm A c.1.2,h.rf,h.rn,cX h.pr hm A c.2,h.pf⟩
theorem iM.iy (h:iM w fp S0 mb tb l K F e word ps) {k:Nat} {r:cJ} (c:F.rules[k]? =some r):∃ u,(F.rules.zip K.rn)[k]? =some (r,u):=by
 have hk:=(eR.1 c).1
 have A:k < K.rn.length:=by rw [h.rn]; exact hk
 exact ⟨K.rn[k],jj.2 ⟨c,bX A⟩⟩
end
theorem Ba {α:Type} {a b c:List α} (h:b <+:c):a++b <+:a++c:=by obtain ⟨t,rfl⟩:=h; exact ⟨t,by rw [ea]⟩
theorem OG {F:aC} {xs:List bg} {e:Nat} {word:Tx} {f s:Int} {p:Nat} (h:eU F xs e f s p=false):iO F xs e word f s p=none:=if_neg<|by rw [h]; exact c7
theorem OF {F:aC} {xs:List bg} {e:Nat} {word:Tx} {f s:Int} {p:Nat} (h:dy (F.rules.getD p dq) word=none):iO F xs e word f s p=none:=by unfold iO; rw [h]; split <;> rfl
theorem OH {F:aC} {xs:List bg} {e:Nat} {word v:Tx} {f s:Int} {p:Nat} (h:eU F xs e f s p=true) (h1:dy (F.rules.getD p dq) word=some v):iO F xs e word f s p=some ⟨v,e,f,s,p⟩:=by unfold iO; rw [if_pos h,h1]; rfl
theorem Ah (B tb:Nat) (U:ek) (F:aC) (xs:List bg) (ar:Option Addr) (cr:Nat) (rn:List Value) (word:Tx) (en:Nat) (f s pp:Int) (w:World) (a2:dK w B tb U F xs) (aJ:dU F xs) (aX:aG w.heap ar (gd<|F.rules.zip rn)) (au:rn.length=F.rules.length) (al:Rn F f) (hs:Rn F s) (hp:Rn F pp):
 bf ao 49 (a7 [aU tb,.slice ar F.rules.length cr,.agg (cT ⟨word,en,f,s,pp⟩).toArray]) w (fun v w'=>v= .bool (eU F xs en f s pp)∧Wk w w'):=by
 refine enter func49 aa ntmps49 aa<|ak fun aS=>e<|jm aa fun aV aA c aH aW=> ?_
 have bi:=aH.size
 have ad:=a2.wk aH.md
 have c:bE aA.heap aV [str word,aj en,.int .i64 f,.int .i64 s,.int .i64 pp]:=aW
 have C:Wk w aA:=aH.md
 have O:=aX.wk aH.md
 refine ay<|aS<|aB fun aN=>az<|ak fun aO=>p (fa lT aa)<|p (ld bH aa<|c.bu 2)<|p (lt aa aa)<|p mv<|gs (t:=11) aa (fun aL=> ?_) fun aL=> ?_
 refine a6 aa (fa n4 aa)<|a6 aa (ld bH aa<|c.bu 4)<|a6 aa (lt aa aa)<|p (bO aa)<|ay<|aO<|cd aa (fun bd=> ?_) fun bd=> ?_
 refine ak fun am=>p mv<|p (fa oU aa)<|p (ld bH aa<|c.bu 1)<|e<|cl DF (Gv B tb U F xs (en:Nat) 0 aA ad aJ) aa fun bj bl aZ=> ?_
 obtain ⟨rfl,aY⟩:=aZ
 refine p (no aa)<|ay<|am<|rt<|br<|tr<|a8 aa ?_
 have A:eU F xs en f s pp= !l0 F xs en 0:=by rw [Q9 (by unfold Rn at al; omega) (by unfold Rn at hp; omega),S1]
 exact ⟨Eq.trans (b:=bU<|!l0 F xs en 0) aa (congrArg bU A.symm),C.trans aY⟩
 refine ak fun am=>p (fa lT aa)<|p (ld bH aa<|c.bu 2)<|p (lt aa aa)<|ay<|am<|cd aa (fun a3=> ?_) fun h=>absurd aL h
 refine ak fun an=>ay<|an<|rt<|br<|tr<|a8 aa ?_
 have A:eU F xs en f s pp=true :=by exact Ra (by unfold Rn at al; omega) ab
 exact ⟨Eq.trans (b:=bU<|true) aa (congrArg bU A.symm),C⟩
 refine aT aa<|aT aa<|aT aa<|p (bG aa)<|ay<|aO<|cf aa<|ak fun am=>p (fa lT aa)<|p (ld bH aa<|c.bu 2)<|p (lt aa aa)<|ay<|am<|cd aa (fun h=>absurd h aL) fun a3=> ?_
 refine aB fun an=>ak fun aP=>p (fa lU aa)<|p (ld bH aa<|c.bu 3)<|p (lt aa aa)<|p mv<|gs (t:=29) aa (fun aM=> ?_) fun aM=> ?_
 refine a6 aa mv<|a6 aa (fa lT aa)<|a6 aa (ld bH aa<|c.bu 2)<|eg aa aa aa<|cl DZ (EG B tb U F xs f aA ad aJ) aa fun v33 bm a0=> ?_
 obtain ⟨rfl,aD⟩:=a0
 have ad:=ad.wk aD
 have c:=Wk.B aD c
 have C:=C.trans aD
 have O:=O.wk aD
 refine a6 aa (no aa)<|p (bO aa)<|ay<|aP<|cb aa (fun E=> ?_) fun E=> ?_
 refine aR<|an<|ct (congrArg bU E)<|ak fun ac=>ay<|ac<|rt<|br<|tr<|a8 aa ?_
 have A:eU F xs en f s pp=false :=by exact FI ab<|by rw [if_pos (show s= -1 by unfold Rn at hs; omega)]; simpa using E
 exact ⟨Eq.trans (b:=bU<|false) aa (congrArg bU A.symm),C⟩
 refine rg aa<|p (fa lU aa)<|p (ld bH aa<|c.bu 3)<|p (ge aa aa)<|p mv<|gs (t:=39) aa (fun h=>absurd h ab) fun a5=>aT aa<|aT aa<|aT aa<|aT aa<|aT aa<|p (bG aa)<|p aE<|nl<|an<|cf aa<|ak fun ac=>p (fa n4 aa)<|p (ld bH aa<|c.bu 4)<|p (lt aa aa)<|p aE ?_
 refine nl<|ac<|cd aa (fun aK=> ?_) fun aK=> ?_
 refine ak fun J=>ay<|J<|rt<|br<|tr<|a8 aa ?_
 have A:eU F xs en f s pp=true :=by exact FH ab (by rw [if_pos (show s= -1 by unfold Rn at hs; omega)]; simpa using E)<|by unfold Rn at hp; omega
 exact ⟨Eq.trans (b:=bU<|true) aa (congrArg bU A.symm),C⟩
 obtain ⟨I,rfl⟩:∃ m:Nat,pp=(m:Int):=⟨(pp).toNat,by unfold Rn at hp; omega⟩
 obtain ⟨ah,Y⟩:∃ r,F.rules[I]? =some r:=⟨_,bX<|by unfold Rn at hp; omega⟩
 have ax:(F.rules.zip rn)[I]? =some (ah,rn[I]'(by rw [au]; exact (eR.1 Y).1)):=jj.2 ⟨Y,bX _⟩
 have aq:=tA Y
 have bb:=(eR.1 Y).1
 obtain ⟨G,rfl⟩:∃ m:Nat,f=(m:Int):=⟨(f).toNat,by unfold Rn at al; omega⟩
 obtain ⟨rf,V⟩:∃ r,F.rules[G]? =some r:=⟨_,bX<|by unfold Rn at al; omega⟩
 have av:(F.rules.zip rn)[G]? =some (rf,rn[G]'(by rw [au]; exact (eR.1 V).1)):=jj.2 ⟨V,bX _⟩
 have ap:=tA V
 have ba:=(eR.1 V).1
 have ai:=O
 refine aR<|bn<|aN<|ak fun J=>p mv<|p (fa n4 aa)<|p (ld bH aa<|c.bu 4)<|p (bc kG aa aa ab<|aG.ok (O)<|k3 ax)<|p (fa tQ aa)<|p (ld jS aa<|ic (f:=dG) (m:=7) (fun _=>rfl) ai ax 2 aw)<|p mv<|gb (t:=56) aa (fun ag=> ?_) fun ag=> ?_
 refine a6 aa mv<|a6 aa (fa lT aa)<|a6 aa (ld bH aa<|c.bu 2)<|a6 aa (bc kG aa aa ab<|aG.ok (O)<|k3 av)<|a6 aa (fa tQ aa)<|a6 aa (ld jS aa<|ic (f:=dG) (m:=7) (fun _=>rfl) ai av 2 aw)<|p (bO aa)<|p mv<|gb (t:=64) aa (fun ae=> ?_) fun ae=> ?_
 refine a6 aa (fa lU aa)<|a6 aa (ld bH aa<|c.bu 3)<|a6 aa (lt aa aa)<|a6 aa mv<|gs (t:=68) aa (fun a9=> ?_) fun h=>absurd aM h
 refine aT aa<|aT aa<|aT aa<|aT aa<|aT aa<|aT aa<|a6 aa (bO aa)<|p (bO aa)<|ay<|J<|rt<|a8 aa ?_
 have A:eU F xs en ((G:Nat):Int) s ((I:Nat):Int)=true :=by rw [r6 ab (by rw [if_pos (show s= -1 by unfold Rn at hs; omega)]; simpa using E) ab,ap,aq,show s= -1 by (unfold Rn at hs; omega),OA,(show rf.gv=true from ae),(show ah.gv=true from ag)]; rfl
 exact ⟨Eq.trans (b:=bU<|true) aa (congrArg bU A.symm),C⟩
 refine aT aa<|aT aa<|aT aa<|aT aa<|fS aa<|fS aa<|fS aa<|fS aa<|fS aa<|fS aa<|aT aa<|p (bG aa)<|ay<|J<|rt<|a8 aa ?_
 have A:eU F xs en ((G:Nat):Int) s ((I:Nat):Int)=false :=by rw [r6 ab (by rw [if_pos (show s= -1 by unfold Rn at hs; omega)]; simpa using E) ab,ap,(show rf.gv=false from ae)]; rfl
 exact ⟨Eq.trans (b:=bU<|false) aa (congrArg bU A.symm),C⟩
 refine aT aa<|aT aa<|aT aa<|aT aa<|aT aa<|aT aa<|p (bG aa)<|p mv<|aT aa<|aT aa<|aT aa<|aT aa<|fS aa<|fS aa<|fS aa<|fS aa<|fS aa<|fS aa<|aT aa<|p (bG aa)<|ay<|J<|rt<|a8 aa ?_
 have A:eU F xs en ((G:Nat):Int) s ((I:Nat):Int)=false :=by rw [r6 ab (by rw [if_pos (show s= -1 by unfold Rn at hs; omega)]; simpa using E) ab,aq,(show ah.gv=false from ag),xX]
 exact ⟨Eq.trans (b:=bU<|false) aa (congrArg bU A.symm),C⟩
 refine aT aa<|aT aa<|aT aa<|aT aa<|aT aa<|p (bG aa)<|p aE<|nl<|aP<|cf aa<|rg aa<|p (fa lU aa)<|p (ld bH aa<|c.bu 3)<|p (ge aa aa)<|p mv<|gs (t:=39) aa (fun a5=> ?_) fun h=>absurd ab h
 refine a6 aa mv<|a6 aa (fa lU aa)<|a6 aa (ld bH aa<|c.bu 3)<|eg aa aa aa<|cl DZ (EG B tb U F xs s aA ad aJ) aa fun bk bo a1=> ?_
 obtain ⟨rfl,aF⟩:=a1
 have ad:=ad.wk aF
 have c:=Wk.B aF c
 have C:=C.trans aF
 have O:=O.wk aF
 refine a6 aa (no aa)<|p (bO aa)<|ay<|an<|cb aa (fun E=> ?_) fun E=> ?_
 refine ak fun ac=>ay<|ac<|rt<|br<|tr<|a8 aa ?_
 have A:eU F xs en f s pp=false :=by exact FI ab<|by rw [if_neg (show ¬s= -1 by omega)]; simpa using E
 exact ⟨Eq.trans (b:=bU<|false) aa (congrArg bU A.symm),C⟩
 refine ak fun ac=>p (fa n4 aa)<|p (ld bH aa<|c.bu 4)<|p (lt aa aa)<|ay<|ac<|cd aa (fun aK=> ?_) fun aK=> ?_
 refine ak fun J=>ay<|J<|rt<|br<|tr<|a8 aa ?_
 have A:eU F xs en f s pp=true :=by exact FH ab (by rw [if_neg (show ¬s= -1 by omega)]; simpa using E)<|by unfold Rn at hp; omega
 exact ⟨Eq.trans (b:=bU<|true) aa (congrArg bU A.symm),C⟩
 obtain ⟨I,rfl⟩:∃ m:Nat,pp=(m:Int):=⟨(pp).toNat,by unfold Rn at hp; omega⟩
 obtain ⟨ah,Y⟩:∃ r,F.rules[I]? =some r:=⟨_,bX<|by unfold Rn at hp; omega⟩
 have ax:(F.rules.zip rn)[I]? =some (ah,rn[I]'(by rw [au]; exact (eR.1 Y).1)):=jj.2 ⟨Y,bX _⟩
 have aq:=tA Y
 have bb:=(eR.1 Y).1
 obtain ⟨G,rfl⟩:∃ m:Nat,f=(m:Int):=⟨(f).toNat,by unfold Rn at al; omega⟩
 obtain ⟨rf,V⟩:∃ r,F.rules[G]? =some r:=⟨_,bX<|by unfold Rn at al; omega⟩
 have av:(F.rules.zip rn)[G]? =some (rf,rn[G]'(by rw [au]; exact (eR.1 V).1)):=jj.2 ⟨V,bX _⟩
 have ap:=tA V
 have ba:=(eR.1 V).1
 obtain ⟨Z,rfl⟩:∃ m:Nat,s=(m:Int):=⟨(s).toNat,by unfold Rn at hs; omega⟩
 obtain ⟨rs,aI⟩:∃ r,F.rules[Z]? =some r:=⟨_,bX<|by unfold Rn at hs; omega⟩
 have aQ:(F.rules.zip rn)[Z]? =some (rs,rn[Z]'(by rw [au]; exact (eR.1 aI).1)):=jj.2 ⟨aI,bX _⟩
 have a4:=tA aI
 have bh:=(eR.1 aI).1
 have ai:=O
 refine aR<|bn<|aN<|ak fun J=>p mv<|p (fa n4 aa)<|p (ld bH aa<|c.bu 4)<|p (bc kG aa aa ab<|aG.ok (O)<|k3 ax)<|p (fa tQ aa)<|p (ld jS aa<|ic (f:=dG) (m:=7) (fun _=>rfl) ai ax 2 aw)<|p mv<|gb (t:=56) aa (fun ag=> ?_) fun ag=> ?_
 refine a6 aa mv<|a6 aa (fa lT aa)<|a6 aa (ld bH aa<|c.bu 2)<|a6 aa (bc kG aa aa ab<|aG.ok (O)<|k3 av)<|a6 aa (fa tQ aa)<|a6 aa (ld jS aa<|ic (f:=dG) (m:=7) (fun _=>rfl) ai av 2 aw)<|p (bO aa)<|p mv<|gb (t:=64) aa (fun ae=> ?_) fun ae=> ?_
 refine a6 aa (fa lU aa)<|a6 aa (ld bH aa<|c.bu 3)<|a6 aa (lt aa aa)<|a6 aa mv<|gs (t:=68) aa (fun h=>absurd h aM) fun a9=>a6 aa mv<|a6 aa (fa lU aa)<|a6 aa (ld bH aa<|c.bu 3)<|a6 aa (bc kG aa aa ab<|aG.ok (O)<|k3 aQ)<|a6 aa (fa tQ aa)<|a6 aa (ld jS aa<|ic (f:=dG) (m:=7) (fun _=>rfl) ai aQ 2 aw)<|a6 aa (bG aa)<|p (bO aa)<|ay<|J<|rt<|a8 aa ?_
 have A:eU F xs en ((G:Nat):Int) ((Z:Nat):Int) ((I:Nat):Int)=rs.gv:=by rw [r6 ab (by rw [if_neg (show ¬((Z:Nat):Int)= -1 by omega)]; simpa using E) ab,ap,a4,aq,(show rf.gv=true from ae),(show ah.gv=true from ag),Bool.true_and,Bool.and_true]
 exact ⟨Eq.trans (b:=bU<|rs.gv) aa (congrArg bU A.symm),C⟩
 refine aT aa<|aT aa<|aT aa<|aT aa<|fS aa<|fS aa<|fS aa<|fS aa<|fS aa<|fS aa<|aT aa<|p (bG aa)<|ay<|J<|rt<|a8 aa ?_
 have A:eU F xs en ((G:Nat):Int) ((Z:Nat):Int) ((I:Nat):Int)=false :=by rw [r6 ab (by rw [if_neg (show ¬((Z:Nat):Int)= -1 by omega)]; simpa using E) ab,ap,(show rf.gv=false from ae)]; rfl
 exact ⟨Eq.trans (b:=bU<|false) aa (congrArg bU A.symm),C⟩
 refine aT aa<|aT aa<|aT aa<|aT aa<|aT aa<|aT aa<|p (bG aa)<|p mv<|aT aa<|aT aa<|aT aa<|aT aa<|fS aa<|fS aa<|fS aa<|fS aa<|fS aa<|fS aa<|aT aa<|p (bG aa)<|ay<|J<|rt<|a8 aa ?_
 have A:eU F xs en ((G:Nat):Int) ((Z:Nat):Int) ((I:Nat):Int)=false :=by rw [r6 ab (by rw [if_neg (show ¬((Z:Nat):Int)= -1 by omega)]; simpa using E) ab,aq,(show ah.gv=false from ag),xX]
 exact ⟨Eq.trans (b:=bU<|false) aa (congrArg bU A.symm),C⟩
end Go.Hb
end
section
namespace Go.Hb
open Go.Hb.iJ Go.Hb.iX Go.Hb.jQ
theorem iw {F:aC} {xs:List bg} (h:dU F xs) {k:Nat} {r:cJ} (c:F.rules[k]? =some r):r.strip.length≤1048576∧r.add.length≤1048576∧r.cond.length≤1048576∧r.add.length≤32:=by
 have :=(h.iy c).2.2; unfold pG at this; omega
theorem QM {α β:Type} {g:α→Option β} (l:List α) (i:Nat):(l.take i).filterMap g <+:l.filterMap g:=by
 conv =>rhs; rw [← vg i l,Cy]
 exact sY _ _
theorem Ng {F:aC} {xs:List bg} {e:Nat} {word:Tx} {f s:Int} {pre tl c:List bo} {x:bo} (h:c=pre++(eT F xs e word f s++tl)) (A:kE F xs e word f s= [x]):
 c=pre++x::((aM F (flagsOf xs e) 1).filterMap (iO F xs e word f s)++tl):=by
 rw [h]; unfold eT; rw [A,ea]; rfl
theorem Nf {F:aC} {xs:List bg} {e:Nat} {word:Tx} {f s:Int} {pre tl c:List bo} {i:Nat} {x:bo} (h:c=pre++(eT F xs e word f s++tl)) (hi:i < (aM F (flagsOf xs e) 1).length) (A:iO F xs e word f s ((aM F (flagsOf xs e) 1).getD i 0)=some x):
 c=(pre++(kE F xs e word f s++((aM F (flagsOf xs e) 1).take i).filterMap (iO F xs e word f s)))++x::(((aM F (flagsOf xs e) 1).drop<|i+1).filterMap (iO F xs e word f s)++tl):=by
 have h2:(aM F (flagsOf xs e) 1).filterMap (iO F xs e word f s)=((aM F (flagsOf xs e) 1).take i).filterMap (iO F xs e word f s)++x::((aM F (flagsOf xs e) 1).drop<|i+1).filterMap (iO F xs e word f s):=by
  conv =>lhs; rw [← vg (i+1) (aM F (flagsOf xs e) 1),Cy,HY 0 hi,A]
  rw [ea]; rfl
 unfold eT at h
 rw [h,h2]
 simp only [ea,List.cons_append]
theorem zV {α β:Type} {g:α→List β} {l:List α} {i:Nat} (d:α) (h:i < l.length):(l.take<|i+1).flatMap g=(l.take i).flatMap g++g (l.getD i d):=by
 rw [k8 l i d h,q8,sS]
theorem Fb {α β:Type} {g:α→List β} {l:List α} {i:Nat} (d:α) (h:i < l.length):l.flatMap g=(l.take i).flatMap g++(g (l.getD i d)++(l.drop<|i+1).flatMap g):=by
 conv =>lhs; rw [← vg (i+1) l,q8,zV d h]
 rw [ea]
theorem Bb {α:Type} {C q s D R:List α} (c:R=C++(s++D)) (A:q <+:s):C++q <+:R:=by rw [c]; exact Ba<|A.trans<|sY _ _
theorem zg (B tb:Nat) (U:ek) (F:aC) (xs:List bg) (ai:dU F xs) (O S0 mb:Nat) (bI:List bo) (av:Bool→List bo→(Nat→Prop)→World→Prop) (I:Yc ao O S0 oR bI (fun W=>dK W B tb U F xs) av) (K:qo) (bK:Int) (V:Tx) (ps:List Nat) (pre:List bo) (fp:Nat→Prop) (en:Nat) (word:Tx) (f s:Int) (w:World) (aT:iM w fp S0 mb tb O K F bK V ps) (b1:av true pre fp w) (c5:bK=(en:Int)) (db:ps=aM F (flagsOf xs en) 1) (ch:Rn F f) (hs:Rn F s) (dw:word.length≤1000) (tl:List bo) (cj:bI=pre++(eT F xs en word f s++tl)):
 bf ao 147 (a7 [aU mb,str word,.int .i64 f,.int .i64 s]) w (fun v w'=> ∃ b q fp',v= .bool b∧av b (pre++q) fp' w'∧Gw S0 fp w fp' w'∧q <+:eT F xs en word f s∧(b=true→q=eT F xs en word f s)):=by
 have c6:=I.lt _ _ _ _ b1
 have dt:=se F (flagsOf xs (en:Int)) 1
 have dv:=ai.len
 subst c5
 subst db
 refine enter func147 aa ntmps147 aa<|ak fun cs=>ay<|cs<|ak fun cA=>p mv<|p mv<|p (nc aa)<|p (fa Ab aa)<|p (ld bH aa<|(aV aT.cells).trans aa)<|p mv<|p mv<|p (du (ps:= [(0,str word),(1,aj en),(2,.int .i64 f),(3,.int .i64 s),(4,.int .i64 (-1))]) (L:= [str word,aj en,.int .i64 f,.int .i64 s,.int .i64 (-1)]) xz aa<|aa)<|e<|dY sI fun c dA ds ca cM=> ?_
 have dx:=ca.size
 refine e<|fk rP aa aa aa aa cM aw fun a0 cR cJ=> ?_
 have a2:Wk w a0:=ca.md.trans' cR fun q ck h=>by omega
 have c3:a0.heap[c]? =some (.cells (cT ⟨word,en,f,s,-1⟩).toArray 49 (0,0)):=cJ
 have b2:=I.wk b1<|a2.trans (Md.refl _ _).drew
 have aW:=aT.wk<|a2.trans (Md.refl _ _).drew
 have ci:¬fp c:=fun h=>by have :=c6 c h; omega
 have aZ:S0≤c:=by have :=aT.lo; have :=(bT.1 aT.cells).1; omega
 refine nl<|cA<|aB fun cB=> ?_
 refine e8 (fun aN aL=> ∃ (aA:Bool) (ac:Nat→Prop),(av (!aA) (pre++kE F xs en word f s) ac aL)∧(iM aL ac S0 mb tb O K F (en:Int) V<|aM F (flagsOf xs en) 1)∧(aL.heap[c]? =some (.cells (cT ⟨word,en,f,s,-1⟩).toArray 49 (0,0)))∧(¬ac c)∧(Gw S0 fp w ac aL)∧(aN 0=aU mb)∧(aN 1=str word)∧(aN 9=aU c)∧(aN 40= .bool aA)) ?_ ?_
 have J:(fun w'=>w'.heap[mb]? =some (.cells (nk tb O K F (en:Int) V<|aM F (flagsOf xs en) 1).toArray 201 (0,0))∧w'.heap[c]? =some (.cells (cT ⟨word,en,f,s,-1⟩).toArray 49 (0,0))) a0.drew:=⟨aW.cells,c3⟩
 refine IG (fun w'=>w'.heap[mb]? =some (.cells (nk tb O K F (en:Int) V<|aM F (flagsOf xs en) 1).toArray 201 (0,0))∧w'.heap[c]? =some (.cells (cT ⟨word,en,f,s,-1⟩).toArray 49 (0,0))) aa wide J ?_
 refine yp 0 aa ag (fun _ _=>mv) J ?_
 refine yp 1 aa ag (fun _ _=>nc aa) J ?_
 refine yp 2 aa ag (fun _ _=>fa rZ aa) J ?_
 refine yp 3 aa ag (fun w' A=>ld gM aa<|(aV A.1).trans aa) J ?_
 refine yp 4 aa ag (fun _ _=>mv) J ?_
 refine yp 5 aa ag (fun _ _=>nc aa) J ?_
 refine yp 6 aa ag (fun _ _=>fa tX aa) J ?_
 refine yp 7 aa ag (fun w' A=>ld jR aa<|(aV A.1).trans aa) J ?_
 refine yp 8 aa ag (fun w' A=>cE kR aa (aa) fun j bC=>(lj A.2).bu j) J ?_
 refine ye 9 aa ag<|cl zb (Ah B tb U F xs K.ar K.cr K.rn word en f s (-1) a0.drew (I.cap _ _ _ _ b2) ai (aY aW.ru).2 aW.rn ch hs<|.inl aa) aa fun v31 bE cV=> ?_
 obtain ⟨rfl,aO⟩:=cV
 have b4:=I.wk b2 aO
 have a9:=aW.wk aO
 have bU:Gw S0 fp w fp bE:=Gw.wk<|(a2.trans (Md.refl _ _).drew).trans aO
 have C:(fun w'=>w'.heap[mb]? =some (.cells (nk tb O K F (en:Int) V<|aM F (flagsOf xs en) 1).toArray 201 (0,0))∧w'.heap[c]? =some (.cells (cT ⟨word,en,f,s,-1⟩).toArray 49 (0,0))) bE:=⟨a9.cells,Wk.az aO J.2⟩
 refine ⟨C,?_⟩
 refine yp 10 aa ag (fun _ _=>mv) C ?_
 refine IE (t:=32) aa (fun bA=> ?_) fun bA=> ?_
 have aX:kE F xs en word f s= [⟨word,en,f,s,-1⟩]:=if_pos bA
 refine mG 11 aa ag aa aa aa (fun _ _=>mv) C ?_
 refine mG 12 aa ag aa aa aa (fun _ _=>nc aa) C ?_
 refine mG 13 aa ag aa aa aa (fun _ _=>fa Fu aa) C ?_
 refine mG 14 aa ag aa aa aa (fun w' A=>ld CQ aa<|(aV A.1).trans aa) C ?_
 refine mG 15 aa ag aa aa aa (fun w' A=>cE kR aa (aa) fun j bC=>(lj A.2).bu j) C ?_
 refine IH 16 aa ag aa aa aa aa aa (I.yl pre ⟨word,en,f,s,-1⟩ _ fp bE (Ng cj aX) b4) fun cH dn cW=> ?_
 obtain ⟨cI,cP,a3⟩:=cW
 have b8:=a9.gw a3
 have bv:=a3.az C.2 aZ ci
 have bi:(fun w'=>w'.heap[mb]? =some (.cells (nk tb O K F (en:Int) V<|aM F (flagsOf xs en) 1).toArray 201 (0,0))∧w'.heap[c]? =some (.cells (cT ⟨word,en,f,s,-1⟩).toArray 49 (0,0))) dn:=⟨b8.cells,bv.1⟩
 refine ⟨bi,?_⟩
 refine mG 17 aa ag aa aa aa (fun _ _=>no aa) bi ?_
 refine yp 18 aa ag (fun _ _=>bO aa) bi ?_
 refine yn ag ?_
 exact tn<|⟨(!cH),cI,(by rw [Bool.not_not,aX]; exact cP),b8,bv.1,bv.2,(bU.trans a3),aa,aa,aa,aa⟩
 have aX:kE F xs en word f s= []:=if_neg<|by rw [bA]; exact c7
 refine lI 11 aa ag aa aa aa aa C ?_
 refine lI 12 aa ag aa aa aa aa C ?_
 refine lI 13 aa ag aa aa aa aa C ?_
 refine lI 14 aa ag aa aa aa aa C ?_
 refine lI 15 aa ag aa aa aa aa C ?_
 refine lI 16 aa ag aa aa aa aa C ?_
 refine lI 17 aa ag aa aa aa aa C ?_
 refine yp 18 aa ag (fun _ _=>bG aa) C ?_
 refine yn ag ?_
 exact tn<|⟨false,fp,(by rw [aX,eu]; exact b4),a9,C.2,ci,bU,aa,aa,aa,aa⟩
 rintro aN aL ⟨aA,ac,aS,b7,c4,c9,bS,dc,dd,df,de⟩
 refine fx 0 dc<|fx 1 dd<|fx 9 df<|fx 40 de<|cb aa (fun bp=> ?_) fun bp=> ?_
 refine ak fun a1=>ay<|a1<|rt<|tr<|a8 aa ?_
 have bl:aA=true :=bp
 rw [bl] at aS
 exact ⟨false,_,ac,aa,aS,bS,(by unfold eT; exact sY _ _),fun h=>by cases h⟩
 refine aR<|cB<|aB fun a1=>ak fun cC=>au (aU mb)<|p (nc aa)<|p (fa Ft aa)<|p (ld vv aa<|(aV b7.cells).trans aa)<|p (bP o3 aa aa)<|p mv<|nl<|cC<|az<|lp (fun bM ah aq=> ∃ (i:Nat) (Y:Nat→Prop) (aI:Tx) (pp:Int),(i≤(aM F (flagsOf xs en) 1).length)∧(av true (pre++(kE F xs en word f s++((aM F (flagsOf xs en) 1).take i).filterMap (iO F xs en word f s))) Y aq)∧(iM aq Y S0 mb tb O K F (en:Int) V<|aM F (flagsOf xs en) 1)∧(aq.heap[c]? =some (.cells (cT ⟨aI,en,f,s,pp⟩).toArray 49 (0,0)))∧(¬Y c)∧(Gw S0 fp w Y aq)∧(ah 0=aU mb)∧(ah 1=str word)∧(ah 9=aU c)∧(ah 44= .slice K.ap (aM F (flagsOf xs en) 1).length K.cp)∧(ah 45=aj ((aM F (flagsOf xs en) 1).length))∧(ah 46=aj i)∧((aM F (flagsOf xs en) 1).length - i=bM)) _ ⟨0,ac,word,-1,ab,((by have bl:aA=false :=bp; rw [bl] at aS; simpa using aS)),b7,c4,c9,bS,aa,aa,aa,aa,aa,aa,aa⟩ ?_
 rintro bM ah aq ⟨i,Y,aI,pp,hi,a5,bb,bz,aF,b0,dg,dh,dl,di,dj,dk,rfl⟩
 refine fx 0 dg<|fx 1 dh<|fx 9 dl<|fx 44 di<|fx 45 dj<|fx 46 dk<|ak fun cD=>p (lt aa aa)<|nl<|cD<|aB fun cF=>cd aa (fun c2=> ?_) fun c2=> ?_
 refine aR<|cF<|aB fun ax=>az<|ak fun cG=>p (bc oS aa aa ab<|aG.ok ((aY bb.pr).2)<|c8 ab)<|p (ld bH aa<|aG.iY (i:=i) (aY bb.pr).2<|r5 ab)<|ay<|cG<|ak fun ct=>p mv<|p (fa n4 aa)<|e<|bW eZ aa aa (v:= .int .i64 (((aM F (flagsOf xs en) 1).getD i 0:Nat):Int)) aa bz (by show 4 < 5; omega) fun an ba cL=> ?_
 have ce:an.heap[c]? =some (.cells (cT ⟨aI,en,f,s,((aM F (flagsOf xs en) 1).getD i 0:Nat)⟩).toArray 49 (0,0)):=cL
 have c1:TF aq [51] (fun q=>q=c):=TF.eq (dD bz) aw
 have b5:=I.ur a5 bz aZ aF ba
 have aD:=bb.ud ba c1 aw
 have cN:=Gw.Gy b0 ba fun k hk=>by subst hk; omega
 have da:=mz.1<|e6 (d:=0) (show i < (aM F (flagsOf xs en) 1).length by omega)
 obtain ⟨r,ae⟩:∃ r,F.rules[(aM F (flagsOf xs en) 1).getD i 0]? =some r:=⟨_,bX da.1⟩
 have cm:F.rules.getD ((aM F (flagsOf xs en) 1).getD i 0) dq=r:=by rw [cU,ae]; rfl
 have am:=HY (g:=iO F xs en word f s) 0 (show i < (aM F (flagsOf xs en) 1).length by omega)
 refine nl<|ct<|aB fun cu=>aB fun cv=> ?_
 have G:(fun w'=>Wk an w') an.drew:=(Md.refl _ _).drew
 refine bR (fun w'=>Wk an w') aa wide G<|bY 0 aa (aU mb) G<|aK 1 aa (fun _ _=>nc aa) G<|aK 2 aa (fun _ _=>fa rZ aa) G<|aK 3 aa (fun w' A=>ld gM aa<|Wk.aJ A<|(aV aD.cells).trans aa) G<|bY 4 aa (aU mb) G<|aK 5 aa (fun _ _=>nc aa) G<|aK 6 aa (fun _ _=>fa tX aa) G<|aK 7 aa (fun w' A=>ld jR aa<|Wk.aJ A<|(aV aD.cells).trans aa) G<|aK 8 aa (fun w' A=>cE kR aa (aa) fun j bC=>(Md.B A (lj ce) fun h=>h).bu j) G<|he 9 aa ag<|cl zb (Ah B tb U F xs K.ar K.cr K.rn aI en f s ((aM F (flagsOf xs en) 1).getD i 0:Nat) an.drew (I.cap _ _ _ _<|I.wk b5 G) ai ((aY aD.ru).2.wk G) aD.rn ch hs<|.inr ab) aa fun dz cq cX=> ?_
 obtain ⟨rfl,bN⟩:=cX
 have aQ:=G.trans bN
 have b6:=I.wk b5 aQ
 have Z:=aD.wk aQ
 have cg:=Wk.az aQ ce
 have bZ:=cN.trans<|Gw.wk aQ
 have cc:(fun w'=>Wk an w') cq:=G.trans bN
 refine ⟨cc,?_⟩
 refine aK 10 aa (fun _ _=>no aa) cc<|hn ag<|cv<|cb aa (fun bq=> ?_) fun bq=> ?_
 have bB:eU F xs en f s ((aM F (flagsOf xs en) 1).getD i 0:Nat)=false :=by simpa using bq
 have bR:=OG (word:=word) bB
 rw [bR] at am
 exact ext<|bj<|be<|ax<|rg aa<|p (ad aa aa<|cz ab)<|p mv<|nl<|tn<|⟨_,ab,i+1,Y,aI,_,ab,(by rw [am]; simpa using b6),Z,cg,aF,bZ,aa,aa,aa,aa,aa,aa,aa⟩
 have bB:eU F xs en f s ((aM F (flagsOf xs en) 1).getD i 0:Nat)=true :=by simpa using bq
 refine aR<|cu<|ak fun cw=>au (aU mb)<|p (nc aa)<|p (fa tX aa)<|p (ld jR aa<|(aV Z.cells).trans aa)<|p mv<|p (bc kG aa aa ab<|aG.ok ((aY Z.ru).2)<|k3 (Z.iy ae).choose_spec)<|p (cE jx aa (aa)<|ic (f:=dG) (m:=7) (fun _=>rfl) (aY Z.ru).2 (Z.iy ae).choose_spec)<|au (str word)<|e<|cl vL (vA r (Z.iy ae).choose word cq (iw ai ae).1 (iw ai ae).2.1 (iw ai ae).2.2.1 ab) aa fun v72 dp cY=> ?_
 obtain ⟨rfl,aP⟩:=cY
 have cQ:=I.wk b6 aP
 have cS:=Z.wk aP
 have bx:=Wk.az aP cg
 have cO:=bZ.trans<|Gw.wk aP
 refine p mv<|p (xt aa aa)<|p (xt aa aa)<|p aE<|ay<|cw<|aB fun cx=>rg aa<|p mv<|p (fa r4 aa)<|e<|bW oP aa aa (v:=str<|(dy r word).getD []) aa bx (by show 0 < 5; omega) fun bD a6 cK=> ?_
 have bt:bD.heap[c]? =some (.cells (cT ⟨((dy r word).getD []),en,f,s,((aM F (flagsOf xs en) 1).getD i 0:Nat)⟩).toArray 49 (0,0)):=cK
 have c0:TF dp [51] (fun q=>q=c):=TF.eq (dD bx) aw
 have b3:=I.wk (I.ur cQ bx aZ aF a6) (Md.refl _ _).drew
 have bd:=(cS.ud a6 c0 aw).wk (Md.refl _ _).drew
 have bQ:=(Gw.Gy cO a6 fun k hk=>by subst hk; omega).trans<|Gw.wk (Md.refl _ _).drew
 refine nl<|cx<|aB fun bF=> ?_
 have E:(fun w'=>w'.heap[mb]? =some (.cells (nk tb O K F (en:Int) V<|aM F (flagsOf xs en) 1).toArray 201 (0,0))∧w'.heap[c]? =some (.cells (cT ⟨((dy r word).getD []),en,f,s,((aM F (flagsOf xs en) 1).getD i 0:Nat)⟩).toArray 49 (0,0))) bD.drew:=⟨bd.cells,bt⟩
 refine IG (fun w'=>w'.heap[mb]? =some (.cells (nk tb O K F (en:Int) V<|aM F (flagsOf xs en) 1).toArray 201 (0,0))∧w'.heap[c]? =some (.cells (cT ⟨((dy r word).getD []),en,f,s,((aM F (flagsOf xs en) 1).getD i 0:Nat)⟩).toArray 49 (0,0))) aa wide E ?_
 refine yp 0 aa ag (fun _ _=>mv) E ?_
 refine yp 1 aa ag (fun _ _=>mv) E ?_
 refine IE (t:=78) aa (fun bk=> ?_) fun bk=> ?_
 obtain ⟨v,cn⟩:∃ v,dy r word=some v:=me.1 bk
 have bR:=OH (word:=word) bB<|by rw [cm]; exact cn
 rw [bR] at am
 have co:(dy r word).getD []=v:=by rw [cn]; rfl
 refine mG 2 aa ag aa aa aa (fun _ _=>aH (aU mb) aa) E ?_
 refine mG 3 aa ag aa aa aa (fun _ _=>nc aa) E ?_
 refine mG 4 aa ag aa aa aa (fun _ _=>fa Fu aa) E ?_
 refine mG 5 aa ag aa aa aa (fun w' A=>ld CQ aa<|(aV A.1).trans aa) E ?_
 refine mG 6 aa ag aa aa aa (fun w' A=>cE kR aa (aa) fun j bC=>(lj A.2).bu j) E ?_
 refine IH 7 aa ag aa aa aa aa aa (I.yl (pre++(kE F xs en word f s++((aM F (flagsOf xs en) 1).take i).filterMap (iO F xs en word f s))) ⟨(dy r word).getD [],en,f,s,((aM F (flagsOf xs en) 1).getD i 0:Nat)⟩ _ Y bD.drew (Nf cj ab<|by rw [bR,co]) b3) fun bJ dr cZ=> ?_
 obtain ⟨bL,al,a4⟩:=cZ
 have b9:=bd.gw a4
 have bw:=a4.az bt aZ aF
 have bV:=bQ.trans a4
 rw [co] at al
 have ck:(kE F xs en word f s++((aM F (flagsOf xs en) 1).take i).filterMap (iO F xs en word f s))++ [⟨v,en,f,s,((aM F (flagsOf xs en) 1).getD i 0:Nat)⟩]=kE F xs en word f s++((aM F (flagsOf xs en) 1).take<|i+1).filterMap (iO F xs en word f s):=by rw [am,ea]; rfl
 rw [ea pre,ck] at al
 have bh:(fun w'=>w'.heap[mb]? =some (.cells (nk tb O K F (en:Int) V<|aM F (flagsOf xs en) 1).toArray 201 (0,0))∧w'.heap[c]? =some (.cells (cT ⟨((dy r word).getD []),en,f,s,((aM F (flagsOf xs en) 1).getD i 0:Nat)⟩).toArray 49 (0,0))) dr:=⟨b9.cells,bw.1⟩
 refine ⟨bh,?_⟩
 refine mG 8 aa ag aa aa aa (fun _ _=>no aa) bh ?_
 refine yp 9 aa ag (fun _ _=>bO aa) bh ?_
 refine yn ag ?_
 refine bF<|cb aa (fun bs=> ?_) fun bs=> ?_
 refine ak fun cy=>ay<|cy<|rt<|br<|tr<|tr<|br<|tr<|a8 aa ?_
 have bm:bJ=false :=by simpa using bs
 rw [bm] at al
 exact ⟨false,_,bL,aa,al,bV,(by unfold eT; exact Ba<|QM _ _),fun h=>by cases h⟩
 exact aR<|bn<|ax<|rg aa<|p (ad aa aa<|cz ab)<|p mv<|nl<|tn<|⟨_,ab,i+1,bL,_,_,ab,((by have bm:bJ=true :=(by simpa using bs); rw [bm] at al; exact al)),b9,bw.1,bw.2,bV,aa,aa,aa,aa,aa,aa,aa⟩
 have bR:=OF (xs:=xs) (e:=en) (f:=f) (s:=s) (word:=word) (p:=(aM F (flagsOf xs en) 1).getD i 0)<|by rw [cm]; simpa using bk
 rw [bR] at am
 refine lI 2 aa ag aa aa aa aa E ?_
 refine lI 3 aa ag aa aa aa aa E ?_
 refine lI 4 aa ag aa aa aa aa E ?_
 refine lI 5 aa ag aa aa aa aa E ?_
 refine lI 6 aa ag aa aa aa aa E ?_
 refine lI 7 aa ag aa aa aa aa E ?_
 refine lI 8 aa ag aa aa aa aa E ?_
 refine yp 9 aa ag (fun _ _=>bG aa) E ?_
 refine yn ag ?_
 refine bF<|cf aa<|aR<|bn<|ax<|rg aa<|p (ad aa aa<|cz ab)<|p mv ?_
 exact nl<|tn<|⟨_,ab,i+1,Y,_,_,ab,(by rw [am]; simpa using b3),bd,bt,aF,bQ,aa,aa,aa,aa,aa,aa,aa⟩
 refine ext<|bj<|bj<|be<|a1<|ak fun ax=>p aE<|nl<|ax<|rt<|a8 aa ?_
 rw [fu ab] at a5
 exact ⟨true,_,Y,aa,a5,b0,yr _,fun _=>rfl⟩
set_option maxHeartbeats 4000000 in
theorem U7 (B tb:Nat) (U:ek) (F:aC) (xs:List bg) (c:dU F xs) (am S0 mb:Nat) (aq:List bo) (V:Bool→List bo→(Nat→Prop)→World→Prop) (E:Yc ao am S0 oR aq (fun W=>dK W B tb U F xs) V) (K:qo) (pre:List bo) (fp:Nat→Prop) (en:Nat) (x:bg) (w:World) (aF:iM w fp S0 mb tb am K F (en:Int) x.1 (aM F (flagsOf xs en) 1)) (cZ:V true pre fp w) (cB:xs[en]? =some x) (tl:List bo) (cs:aq=pre++(gi F xs en++tl)):
 bf ao 92 (a7 [aU mb]) w (fun v w'=> ∃ b q fp',v= .bool b∧V b (pre++q) fp' w'∧Gw S0 fp w fp' w'∧q <+:gi F xs en∧(b=true→q=gi F xs en)):=by
 obtain ⟨dO,dP,dQ,bd⟩:=rG cB
 have a3:gi F xs en=eT F xs en x.1 (-1) (-1)++(aM F (flagsOf xs en) 2).flatMap (gC F xs en):=by unfold gi; rw [bd]
 have dY:=(c.tH x<|fU cB).1
 have dV:=c.len
 have dR:S0≤w.heap.size:=by have :=aF.lo; have :=(bT.1 aF.cells).1; omega
 have dS:=se F (flagsOf xs (en:Int)) 2
 refine enter func92 aa ntmps92 aa<|ak fun cD=>ay<|cD<|aB fun cN=>ak fun cQ=>au (aU mb)<|au (aU mb)<|p (nc aa)<|p (fa Ac aa)<|p (ld cR aa<|(aV aF.cells).trans aa)<|e<|cl yT (zg B tb U F xs c am S0 mb aq V E K (en:Int) x.1 _ pre fp en x.1 (-1) (-1) w aF cZ aa aa (.inl aa) (.inl aa) ab ((aM F (flagsOf xs en) 2).flatMap (gC F xs en)++tl)<|by rw [cs,a3,ea]) aa fun d2 aN c6=> ?_
 obtain ⟨bV,dJ,bh,rfl,a1,aZ,dp,dr⟩:=c6
 have bt:=aF.gw aZ
 refine p (no aa)<|nl<|cQ<|cb aa (fun bx=> ?_) fun bx=> ?_
 obtain rfl :bV=false :=by simpa using bx
 exact ak fun bb=>ay<|bb<|rt<|tr<|a8 aa<|⟨false,dJ,bh,aa,a1,aZ,(by rw [a3]; exact dp.trans<|sY _ _),fun h=>by cases h⟩
 obtain rfl :bV=true :=by simpa using bx
 obtain rfl :=dr rfl
 refine aR<|cN<|aB fun bb=>aB fun cS=> ?_
 have A:(fun w'=>Wk aN w') aN.drew:=(Md.refl _ _).drew
 refine bR (fun w'=>Wk aN w') aa wide A<|bY 0 aa (aU mb) A<|aK 1 aa (fun _ _=>nc aa) A<|aK 2 aa (fun _ _=>fa rZ aa) A<|aK 3 aa (fun w' O=>ld gM aa<|Wk.aJ O<|(aV bt.cells).trans aa) A<|bY 4 aa (aU mb) A<|aK 5 aa (fun _ _=>nc aa) A<|aK 6 aa (fun _ _=>fa Ab aa) A<|aK 7 aa (fun w' O=>ld bH aa<|Wk.aJ O<|(aV bt.cells).trans aa) A<|aK 10 aa (fun _ _=>mv) A<|he 8 aa ag<|cl DR (HU B tb U F xs (en:Int) aN.drew (E.cap _ _ _ _<|E.wk a1 A) c) aa fun v26 dL c7=> ?_
 obtain ⟨bF,b1⟩:=c7
 obtain ⟨ai,al,rfl⟩:=c5 bF
 have bk:=A.trans b1
 have c1:=E.wk a1 bk
 have c4:=bt.wk bk
 have cY:=aZ.trans<|Gw.wk bk
 have dZ:=A.size
 have dh:∀ q,(bC ai (aM F (flagsOf xs en) 2).length al).ownBlock=some q→¬bh q:=fun q bM h=>by have h1:=(da bF bM).1; have h2:=E.lt _ _ _ _ a1 q h; omega
 have dl:=fj bF (show S0≤_ by have :=aZ.size; omega)
 have cc:(fun w'=>Wk aN w') dL:=A.trans b1
 refine ⟨cc,?_⟩
 refine aK 9 aa (fun _ _=>bP o3 aa aa) cc<|hn ag<|cS<|az<|lp (fun ax aO G=> ∃ (i:Nat) (Y:Nat→Prop),(i≤(aM F (flagsOf xs en) 2).length)∧(V true (pre++(eT F xs en x.1 (-1) (-1)++((aM F (flagsOf xs en) 2).take i).flatMap (gC F xs en))) Y G)∧(iM G Y S0 mb tb am K F (en:Int) x.1<|aM F (flagsOf xs en) 1)∧(bq G S0 3 1 (.slice ai (aM F (flagsOf xs en) 2).length al) (aM F (flagsOf xs en) 2).length<|(aM F (flagsOf xs en) 2).map fG)∧(∀ q,(bC ai (aM F (flagsOf xs en) 2).length al).ownBlock=some q→¬Y q)∧(Gw S0 fp w Y G)∧(aO 0=aU mb)∧(aO 26= .slice ai (aM F (flagsOf xs en) 2).length al)∧(aO 27=aj ((aM F (flagsOf xs en) 2).length))∧(aO 28=aj i)∧((aM F (flagsOf xs en) 2).length - i=ax)) _ ⟨0,bh,ab,(by simpa using c1),c4,dl,dh,cY,aa,aa,aa,aa,aa⟩ ?_
 rintro ax aO G ⟨i,Y,hi,bp,Z,bK,ch,b6,ds,dt,du,dv,rfl⟩
 refine fx 0 ds<|fx 26 dt<|fx 27 du<|fx 28 dv<|ak fun cT=>p (lt aa aa)<|nl<|cT<|aB fun cV=>cd aa (fun df=> ?_) fun df=> ?_
 refine aR<|cV<|aB fun aP=>az<|ak fun cW=>p (bc oS aa aa ab<|aG.ok ((aY bK).2)<|c8 ab)<|p (ld bH aa<|aG.iY (i:=i) (aY bK).2<|r5 ab)<|ay<|cW<|aB fun cF=> ?_
 have dH:=mz.1<|e6 (d:=0) (show i < (aM F (flagsOf xs en) 2).length by omega)
 obtain ⟨r,ae⟩:∃ r,F.rules[((aM F (flagsOf xs en) 2).getD i 0)]? =some r:=⟨_,bX dH.1⟩
 have cx:F.rules.getD ((aM F (flagsOf xs en) 2).getD i 0) dq=r:=by rw [cU,ae]; rfl
 have bN:=zV (g:=gC F xs en) 0 (show i < (aM F (flagsOf xs en) 2).length by omega)
 have C:(fun w'=>Wk G w') G.drew:=(Md.refl _ _).drew
 refine bR (fun w'=>Wk G w') aa wide C<|bY 0 aa (aU mb) C<|aK 1 aa (fun _ _=>nc aa) C<|aK 2 aa (fun _ _=>fa tX aa) C<|aK 3 aa (fun w' O=>ld jR aa<|Wk.aJ O<|(aV Z.cells).trans aa) C<|aK 4 aa (fun _ _=>mv) C<|aK 5 aa (fun _ _=>bc kG aa aa ab<|aG.ok ((aY Z.ru).2)<|k3 (Z.iy ae).choose_spec) C<|aK 6 aa (fun w' O=>cE jx aa (aa) fun j dj=>ic (f:=dG) (m:=7) (fun _=>rfl) ((aY Z.ru).2.wk O) (Z.iy ae).choose_spec j dj) C<|bY 7 aa (aU mb) C<|aK 8 aa (fun _ _=>nc aa) C<|aK 9 aa (fun _ _=>fa Ac aa) C<|aK 10 aa (fun w' O=>ld cR aa<|Wk.aJ O<|(aV Z.cells).trans aa) C<|he 11 aa ag<|cl vL (vA r (Z.iy ae).choose x.1 G.drew (iw c ae).1 (iw c ae).2.1 (iw c ae).2.2.1 ab) aa fun v44 cC c9=> ?_
 obtain ⟨rfl,b2⟩:=c9
 have aX:=C.trans b2
 have b9:=E.wk bp aX
 have bv:=Z.wk aX
 have b5:=b6.trans<|Gw.wk aX
 have cm:=ba bK aX
 have av:(fun w'=>Wk G w') cC:=C.trans b2
 refine ⟨av,?_⟩
 refine aK 12 aa (fun _ _=>mv) av<|aK 13 aa (fun _ _=>xt aa aa) av<|aK 14 aa (fun _ _=>xt aa aa) av<|aK 15 aa (fun _ _=>aE) av<|aK 16 aa (fun _ _=>aE) av<|hn ag<|cF<|aB fun cG=>ak fun cH=>p mv<|p (no aa)<|nl<|cH<|cb aa (fun bz=> ?_) fun bz=> ?_
 have aI:dy r x.1=none:=by simpa using bz
 have bR:gC F xs en ((aM F (flagsOf xs en) 2).getD i 0)= []:=by unfold gC; rw [cx,bd,aI]
 rw [bR,eu] at bN
 exact ext<|bj<|be<|aP<|rg aa<|p (ad aa aa<|cz ab)<|p mv<|nl<|tn<|⟨_,ab,i+1,Y,ab,(by rw [bN]; exact b9),bv,cm,ch,b5,aa,aa,aa,aa,aa⟩
 obtain ⟨wd,aI⟩:∃ v,dy r x.1=some v:=me.1<|by simpa using bz
 have aw:((dy r x.1).getD [])=wd:=by rw [aI]; rfl
 have bR:gC F xs en ((aM F (flagsOf xs en) 2).getD i 0)=eT F xs en wd (((aM F (flagsOf xs en) 2).getD i 0):Nat) (-1)++(aM F (bI F (((aM F (flagsOf xs en) 2).getD i 0):Nat)) 2).flatMap (jK F xs en wd (((aM F (flagsOf xs en) 2).getD i 0):Nat)):=by unfold gC; rw [cx,bd,aI]
 have dX:=(rF (iw c ae).2.2.2 aI).2
 have bD:gi F xs en=(eT F xs en x.1 (-1) (-1)++((aM F (flagsOf xs en) 2).take i).flatMap (gC F xs en))++(gC F xs en ((aM F (flagsOf xs en) 2).getD i 0)++((aM F (flagsOf xs en) 2).drop<|i+1).flatMap (gC F xs en)):=by rw [a3,Fb 0 (show i < (aM F (flagsOf xs en) 2).length by omega),ea]
 have ce:aq=(pre++(eT F xs en x.1 (-1) (-1)++((aM F (flagsOf xs en) 2).take i).flatMap (gC F xs en)))++(gC F xs en ((aM F (flagsOf xs en) 2).getD i 0)++(((aM F (flagsOf xs en) 2).drop<|i+1).flatMap (gC F xs en)++tl)):=by rw [cs,bD]; simp only [ea]
 refine aR<|cG<|aB fun cI=>ak fun cJ=>au (aU mb)<|p mv<|p mv<|e<|cl yT (zg B tb U F xs c am S0 mb aq V E K (en:Int) x.1 _ (pre++(eT F xs en x.1 (-1) (-1)++((aM F (flagsOf xs en) 2).take i).flatMap (gC F xs en))) Y en ((dy r x.1).getD []) ((((aM F (flagsOf xs en) 2).getD i 0):Nat):Int) (-1) cC bv b9 aa aa (.inr ab) (.inl aa) (by rw [aw]; omega) ((aM F (bI F (((aM F (flagsOf xs en) 2).getD i 0):Nat)) 2).flatMap (jK F xs en wd (((aM F (flagsOf xs en) 2).getD i 0):Nat))++(((aM F (flagsOf xs en) 2).drop<|i+1).flatMap (gC F xs en)++tl))<|by rw [aw,ce,bR]; simp only [ea]) aa fun d3 dM db=> ?_
 obtain ⟨bW,d0,bi,rfl,aD,bm,ct,cu⟩:=db
 rw [aw] at ct cu
 have ca:=bv.gw bm
 have bl:=b5.trans bm
 have cn:=bm.own cm ch
 refine p (no aa)<|nl<|cJ<|cb aa (fun bA=> ?_) fun bA=> ?_
 obtain rfl :bW=false :=by simpa using bA
 refine ak fun a9=>ay<|a9<|rt<|tr<|br<|tr<|tr<|br<|tr<|a8 aa ?_
 rw [ea] at aD
 exact ⟨false,_,bi,aa,aD,bl,Bb bD (by rw [bR]; exact ct.trans<|sY _ _),fun h=>by cases h⟩
 obtain rfl :bW=true :=by simpa using bA
 obtain rfl :=cu rfl
 refine aR<|cI<|ak fun a9=>au (aU mb)<|p (nc aa)<|p (fa rZ aa)<|p (ld gM aa<|(aV ca.cells).trans aa)<|p mv<|e<|cl za (Bp B tb U F xs (((aM F (flagsOf xs en) 2).getD i 0):Nat) dM (E.cap _ _ _ _ aD) c) aa fun v59 d6 dc=> ?_
 obtain ⟨bJ,aW⟩:=dc
 obtain ⟨aQ,aS,rfl⟩:=c5 bJ
 have c0:=E.wk aD aW
 have c2:=ca.wk aW
 have cX:=bl.trans<|Gw.wk aW
 have dk:=ba cn.1 aW
 have di:∀ q,(bC aQ (aM F (bI F (((aM F (flagsOf xs en) 2).getD i 0):Nat)) 2).length aS).ownBlock=some q→¬bi q:=fun q bM h=>by have h1:=(da bJ bM).1; have h2:=E.lt _ _ _ _ aD q h; omega
 have dn:=fj bJ (show S0≤_ by have :=bl.size; omega)
 have dT:=se F (bI F (((aM F (flagsOf xs en) 2).getD i 0):Nat)) 2
 refine p (bP o3 aa aa)<|p mv<|nl<|a9<|az<|lp (fun ax I ap=> ∃ (k:Nat) (J:Nat→Prop),(k≤(aM F (bI F (((aM F (flagsOf xs en) 2).getD i 0):Nat)) 2).length)∧(V true ((pre++(eT F xs en x.1 (-1) (-1)++((aM F (flagsOf xs en) 2).take i).flatMap (gC F xs en)))++(eT F xs en wd (((aM F (flagsOf xs en) 2).getD i 0):Nat) (-1)++((aM F (bI F (((aM F (flagsOf xs en) 2).getD i 0):Nat)) 2).take k).flatMap (jK F xs en wd (((aM F (flagsOf xs en) 2).getD i 0):Nat)))) J ap)∧(iM ap J S0 mb tb am K F (en:Int) x.1<|aM F (flagsOf xs en) 1)∧(bq ap S0 3 1 (.slice ai (aM F (flagsOf xs en) 2).length al) (aM F (flagsOf xs en) 2).length<|(aM F (flagsOf xs en) 2).map fG)∧(∀ q,(bC ai (aM F (flagsOf xs en) 2).length al).ownBlock=some q→¬J q)∧(bq ap S0 3 1 (.slice aQ (aM F (bI F (((aM F (flagsOf xs en) 2).getD i 0):Nat)) 2).length aS) (aM F (bI F (((aM F (flagsOf xs en) 2).getD i 0):Nat)) 2).length<|(aM F (bI F (((aM F (flagsOf xs en) 2).getD i 0):Nat)) 2).map fG)∧(∀ q,(bC aQ (aM F (bI F (((aM F (flagsOf xs en) 2).getD i 0):Nat)) 2).length aS).ownBlock=some q→¬J q)∧(Gw S0 fp w J ap)∧(I 0=aU mb)∧(I 4= .int .i64 (((aM F (flagsOf xs en) 2).getD i 0):Nat))∧(I 5=str ((dy r x.1).getD []))∧(I 26= .slice ai (aM F (flagsOf xs en) 2).length al)∧(I 27=aj ((aM F (flagsOf xs en) 2).length))∧(I 28=aj i)∧(I 59= .slice aQ (aM F (bI F (((aM F (flagsOf xs en) 2).getD i 0):Nat)) 2).length aS)∧(I 60= .int .i64 ((aM F (bI F (((aM F (flagsOf xs en) 2).getD i 0):Nat)) 2).length:Nat))∧(I 61=aj k)∧((aM F (bI F (((aM F (flagsOf xs en) 2).getD i 0):Nat)) 2).length - k=ax)) _ ⟨0,bi,ab,(by simpa using c0),c2,dk,cn.2,dn,di,cX,aa,aa,aa,aa,aa,aa,aa,aa,aa,aa⟩ ?_
 rintro ax I ap ⟨k,J,hk,bs,ac,co,bE,bL,ci,b7,dw,dB,dC,dx,dz,dA,dD,dE,dF,rfl⟩
 refine fx 0 dw<|fx 4 dB<|fx 5 dC<|fx 26 dx<|fx 27 dz<|fx 28 dA<|fx 59 dD<|fx 60 dE<|fx 61 dF<|ak fun cK=>p (lt aa aa)<|nl<|cK<|aB fun cL=>cd aa (fun dg=> ?_) fun dg=> ?_
 refine aR<|cL<|aB fun bS=>az<|ak fun cM=>p (bc oS aa aa ab<|aG.ok ((aY bL).2)<|c8 ab)<|p (ld bH aa<|aG.iY (i:=k) (aY bL).2<|r5 ab)<|ay<|cM<|aB fun cO=> ?_
 have dI:=mz.1<|e6 (d:=0) (show k < (aM F (bI F (((aM F (flagsOf xs en) 2).getD i 0):Nat)) 2).length by omega)
 obtain ⟨an,ah⟩:∃ r,F.rules[((aM F (bI F (((aM F (flagsOf xs en) 2).getD i 0):Nat)) 2).getD k 0)]? =some r:=⟨_,bX dI.1⟩
 have cy:F.rules.getD ((aM F (bI F (((aM F (flagsOf xs en) 2).getD i 0):Nat)) 2).getD k 0) dq=an:=by rw [cU,ah]; rfl
 have a4:=zV (g:=jK F xs en wd (((aM F (flagsOf xs en) 2).getD i 0):Nat)) 0 (show k < (aM F (bI F (((aM F (flagsOf xs en) 2).getD i 0):Nat)) 2).length by omega)
 refine rg aa<|au (aU mb)<|p (nc aa)<|p (fa tX aa)<|p (ld jR aa<|(aV ac.cells).trans aa)<|p mv<|p (bc kG aa aa ab<|aG.ok ((aY ac.ru).2)<|k3 (ac.iy ah).choose_spec)<|p (cE jx aa (aa)<|ic (f:=dG) (m:=7) (fun _=>rfl) (aY ac.ru).2 (ac.iy ah).choose_spec)<|au (str<|(dy r x.1).getD [])<|e<|cl vL (vA an (ac.iy ah).choose ((dy r x.1).getD []) ap (iw c ah).1 (iw c ah).2.1 (iw c ah).2.2.1<|by rw [aw]; omega) aa fun d4 dN dd=> ?_
 obtain ⟨rfl,aA⟩:=dd
 have b8:=E.wk bs aA
 have bu:=ac.wk aA
 have b3:=b7.trans<|Gw.wk aA
 have cj:=ba co aA
 have cp:=ba bL aA
 refine p mv<|p (xt aa aa)<|p (xt aa aa)<|p aE<|ay<|cO<|aB fun bU=>rg aa<|p mv<|p mv<|gb (t:=78) aa (fun bw=> ?_) fun bw=> ?_
 obtain ⟨v2,cA⟩:∃ v,dy an ((dy r x.1).getD [])=some v:=me.1 bw
 have bQ:(dy an<|(dy r x.1).getD []).getD []=v2:=by rw [cA]; rfl
 have a5:dy an wd=some v2:=by rw [← aw]; exact cA
 have aL:jK F xs en wd (((aM F (flagsOf xs en) 2).getD i 0):Nat) ((aM F (bI F (((aM F (flagsOf xs en) 2).getD i 0):Nat)) 2).getD k 0)=eT F xs en v2 (((aM F (flagsOf xs en) 2).getD i 0):Nat) (((aM F (bI F (((aM F (flagsOf xs en) 2).getD i 0):Nat)) 2).getD k 0):Nat):=by unfold jK; rw [cy,a5]
 have dW:=(rF (iw c ah).2.2.2 a5).2
 have cg:gC F xs en ((aM F (flagsOf xs en) 2).getD i 0)=(eT F xs en wd (((aM F (flagsOf xs en) 2).getD i 0):Nat) (-1)++((aM F (bI F (((aM F (flagsOf xs en) 2).getD i 0):Nat)) 2).take k).flatMap (jK F xs en wd (((aM F (flagsOf xs en) 2).getD i 0):Nat)))++(jK F xs en wd (((aM F (flagsOf xs en) 2).getD i 0):Nat) ((aM F (bI F (((aM F (flagsOf xs en) 2).getD i 0):Nat)) 2).getD k 0)++((aM F (bI F (((aM F (flagsOf xs en) 2).getD i 0):Nat)) 2).drop<|k+1).flatMap (jK F xs en wd (((aM F (flagsOf xs en) 2).getD i 0):Nat))):=by rw [bR,Fb (g:=jK F xs en wd (((aM F (flagsOf xs en) 2).getD i 0):Nat)) 0 (show k < (aM F (bI F (((aM F (flagsOf xs en) 2).getD i 0):Nat)) 2).length by omega),ea]
 refine a6 aa (aH (aU mb) aa)<|a6 aa mv<|a6 aa (aH (.int .i64 (((aM F (flagsOf xs en) 2).getD i 0):Nat)) aa)<|a6 aa mv<|eg aa aa aa<|cl yT (zg B tb U F xs c am S0 mb aq V E K (en:Int) x.1 _ ((pre++(eT F xs en x.1 (-1) (-1)++((aM F (flagsOf xs en) 2).take i).flatMap (gC F xs en)))++(eT F xs en wd (((aM F (flagsOf xs en) 2).getD i 0):Nat) (-1)++((aM F (bI F (((aM F (flagsOf xs en) 2).getD i 0):Nat)) 2).take k).flatMap (jK F xs en wd (((aM F (flagsOf xs en) 2).getD i 0):Nat)))) J en ((dy an<|(dy r x.1).getD []).getD []) ((((aM F (flagsOf xs en) 2).getD i 0):Nat):Int) ((((aM F (bI F (((aM F (flagsOf xs en) 2).getD i 0):Nat)) 2).getD k 0):Nat):Int) dN bu b8 aa aa (.inr ab) (.inr ab) (by rw [bQ]; omega) (((aM F (bI F (((aM F (flagsOf xs en) 2).getD i 0):Nat)) 2).drop<|k+1).flatMap (jK F xs en wd (((aM F (flagsOf xs en) 2).getD i 0):Nat))++(((aM F (flagsOf xs en) 2).drop<|i+1).flatMap (gC F xs en)++tl))<|by rw [bQ,ce,cg,aL]; simp only [ea]) aa fun d5 d7 de=> ?_
 obtain ⟨bZ,d1,b0,rfl,a2,a0,cv,cw⟩:=de
 rw [bQ] at cv cw
 have c3:=bu.gw a0
 have b4:=b3.trans a0
 have ck:=a0.own cj bE
 have cq:=a0.own cp ci
 refine a6 aa (no aa)<|p (bO aa)<|nl<|bU<|cb aa (fun bB=> ?_) fun bB=> ?_
 obtain rfl :bZ=false :=by simpa using bB
 refine ak fun cP=>ay<|cP<|rt<|br<|tr<|tr<|br<|br<|tr<|tr<|br<|tr<|a8 aa ?_
 rw [ea,ea] at a2
 exact ⟨false,_,b0,aa,a2,b4,Bb bD (Bb cg<|by rw [aL]; exact cv),fun h=>by cases h⟩
 obtain rfl :bZ=true :=by simpa using bB
 obtain rfl :=cw rfl
 rw [aL] at a4
 exact aR<|bn<|bS<|rg aa<|p (ad aa aa<|cz ab)<|p mv<|nl<|tn<|⟨_,ab,k+1,b0,ab,(by rw [a4,← ea (eT F xs en wd (((aM F (flagsOf xs en) 2).getD i 0):Nat)<|-1)]; rw [ea] at a2; exact a2),c3,ck.1,ck.2,cq.1,cq.2,b4,aa,aa,aa,aa,aa,aa,aa,aa,aa,aa⟩
 have a5:dy an wd=none:=by rw [← aw]; simpa using bw
 have aL:jK F xs en wd (((aM F (flagsOf xs en) 2).getD i 0):Nat) ((aM F (bI F (((aM F (flagsOf xs en) 2).getD i 0):Nat)) 2).getD k 0)= []:=by unfold jK; rw [cy,a5]
 rw [aL,eu] at a4
 refine aT aa<|aT aa<|aT aa<|aT aa<|aT aa<|aT aa<|p (bG aa)<|nl<|bU<|cf aa<|aR<|bn<|bS<|rg aa<|p (ad aa aa<|cz ab)<|p mv ?_
 exact nl<|tn<|⟨_,ab,k+1,J,ab,(by rw [a4]; exact b8),bu,cj,bE,cp,ci,b3,aa,aa,aa,aa,aa,aa,aa,aa,aa,aa⟩
 exact ext<|bj<|bj<|be<|bn<|aP<|rg aa<|p (ad aa aa<|cz ab)<|p mv<|nl<|tn<|⟨_,ab,i+1,J,ab,(by rw [bN,bR]; rw [fu (show (aM F (bI F (((aM F (flagsOf xs en) 2).getD i 0):Nat)) 2).length≤k by omega),ea] at bs; rw [← ea (eT F xs en x.1 (-1)<|-1)]; exact bs),ac,co,bE,b7,aa,aa,aa,aa,aa⟩
 refine ext<|bj<|bj<|be<|bb<|ak fun aP=>p aE<|nl<|aP<|rt<|a8 aa ?_
 rw [fu ab,← a3] at bp
 exact ⟨true,_,Y,aa,bp,b6,yr _,fun _=>rfl⟩
end Go.Hb
end
section
namespace Go.Hb.lL
open Go.Hb.iJ Go.Hb.iX Go.Hb.jQ
noncomputable def oQ (F:aC) (xs:List bg) (n:Int):List bo:=if 0≤n∧n < xs.length then gi F xs n.toNat else []
theorem tC {F:aC} {xs:List bg} {k:Nat} (h:k < xs.length):oQ F xs k=gi F xs k:=by unfold oQ; rw [if_pos ab,jL]
theorem O9 {F:aC} {xs:List bg} {n:Int} (h:¬(0≤n∧n < xs.length)):oQ F xs n= []:=if_neg h
noncomputable def c4 (F:aC) (xs:List bg) (k:Nat):List bo:=(fM k).flatMap<|gi F xs
theorem CY (F:aC) (xs:List bg) (k:Nat):c4 F xs (k+1)=c4 F xs k++gi F xs k:=by unfold c4; rw [JN,q8,sS]
theorem KK {F:aC} {xs:List bg} {k n:Nat} (h:k < n):∃ tl,c4 F xs n=c4 F xs k++(gi F xs k++tl):=by
 induction n with
 | zero=>omega
 | succ n A=>
   rw [CY]
   rcases nS.1 h with h | rfl
   · obtain ⟨tl,c⟩:=A h; exact ⟨tl++gi F xs n,by rw [c]; simp only [ea]⟩
   · exact ⟨[],by rw [eu]⟩
def ju (W:World) (b:Nat) (c:Option Addr):Prop :=W.heap[b]? =some (.cells [.pointer c].toArray 24 (0,0))
def dA (W:World) (b:Nat) (n:Int):Prop :=W.heap[b]? =some (.cells [.int .i64 n].toArray 3 (0,0))
theorem Lj (B tb:Nat) (U:ek) (F:aC) (xs:List bg) (c S0:Nat) (w:World) (G:dK w B tb U F xs) (C:dU F xs) (ac:S0≤w.heap.size):
 bf ao 52 (a7 [aU tb,.func (.yield c) #[] #[]]) w (fun v w'=> ∃ mb K,v=aU mb∧iM w' (fun _=>False) S0 mb tb c K F 0 [] []∧Wk w w'):=by
 refine enter func52 aa ntmps52 aa<|ak fun I=>ay<|I<|ak fun J=>au (aU tb)<|au (aU tb)<|p (nc aa)<|p (fa tN aa)<|p (ld eY aa<|(aV G.cells).trans aa)<|e<|cl tw (th B U.fb U.mc F U.V w G.fl (by have :=C.len; omega) C.nx) aa fun v10 ah Z=> ?_
 obtain ⟨⟨⟨v9,v10,v11,v12,sa,rn⟩,rfl,hax⟩,hE10⟩:=Z
 obtain ⟨ar,cr,A⟩:=c5 hax.et
 have A:v12=_:=A
 subst A
 have ag:=hE10.size
 have ad:rn.length=F.rules.length:=by have :=hax.nx.1; rwa [e9] at this
 exact p (zK zL aa aa)<|au (.func (.yield c) #[] #[])<|p (du (ps:= [(0,aU tb),(1,.slice ar F.rules.length cr),(5,.func (.yield c) #[] #[])]) (L:= [aU tb,.slice ar F.rules.length cr,.int .i64 0,.string ⟨⟨[]⟩⟩,.slice none 0 0,.func (.yield c) #[] #[]]) VP aa<|aa)<|e<|pL aa fun O ai ae E Y=>ay<|J<|rt<|a8 aa<|⟨O,⟨ar,cr,rn,none,0⟩,aa,⟨ab,Y,id,ba (fj hax.et ac) E.md,fun _ _=>id,ad,eh _ _ _ _,fun _ _=>id⟩,hE10.trans E.md⟩
theorem wY (B tb:Nat) (U:ek) (F:aC) (xs:List bg) (ax:dU F xs) (G S0 mb:Nat) (au:List bo) (ad:Bool→List bo→(Nat→Prop)→World→Prop) (C:Yc ao G S0 oR au (fun W=>dK W B tb U F xs) ad) (K:qo) (aS:Int) (aQ:Tx) (ps:List Nat) (pre:List bo) (fp:Nat→Prop) (n:Int) (w:World) (Z:iM w fp S0 mb tb G K F aS aQ ps) (aA:ad true pre fp w) (tl:List bo) (bM:au=pre++(oQ F xs n++tl)):
 bf ao 54 (a7 [aU mb,.int .i64 n]) w (fun v w'=> ∃ b q fp' bh bk bS bP,v= .bool b∧ad b (pre++q) fp' w'∧iM w' fp' S0 mb tb G bh F bk bS bP∧q <+:oQ F xs n∧(b=true→q=oQ F xs n)):=by
 have b1:=C.lt _ _ _ _ aA
 have bH:=C.cap _ _ _ _ aA
 have bZ:S0≤w.heap.size:=by have :=Z.lo; have :=(bT.1 Z.cells).1; omega
 refine enter func54 aa ntmps54 aa<|ak fun a9=>ay<|a9<|ak fun ba=>p mv<|p (nc aa)<|p (fa rZ aa)<|p (ld gM aa<|(aV Z.cells).trans aa)<|p mv<|e<|cl rK (tG B tb U F xs n w bH ax) aa fun b5 b7 bB=> ?_
 obtain ⟨⟨bU,rfl,bJ⟩,hE13⟩:=bB
 obtain ⟨J,O,rfl⟩:=c5 bJ
 have b3:=hE13.size
 refine p mv<|p (xt aa aa)<|p (xt aa aa)<|e<|al pd fun E b9 a1 aZ br=> ?_
 have b4:=aZ.size
 refine e<|dd jy aa aa aa aa (br) (by simp) fun I bA bm=> ?_
 have az:Wk w I:=(hE13.trans aZ.md).trans' bA fun q an h=>by omega
 have a1:bE I.heap E [str (iQ xs n),.slice J (flagsOf xs n).length O]:=bm
 have aT:=C.wk aA az
 have aW:=Z.wk az
 have b2:=az.size
 refine ay<|ba<|aB fun bb=>ak fun bc=>p mv<|p (no aa)<|nl<|bc<|cb aa (fun ac=> ?_) fun ac=> ?_
 have bL:¬(0≤n∧n < xs.length):=fun h=>by rw [decide_eq_true h] at ac; cases ac
 exact ak fun aq=>ay<|aq<|rt<|tr<|a8 aa<|⟨true,[],fp,K,aS,aQ,ps,aa,by rw [eu]; exact aT,aW,List.nil_prefix,fun _=>(O9 bL).symm⟩
 have b0:0≤n∧n < xs.length:=uP fun h=>by rw [decide_eq_false h] at ac; cases ac
 obtain ⟨k,rfl⟩:∃ k:Nat,n=(k:Int):=⟨n.toNat,ab⟩
 obtain ⟨x,a3⟩:∃ x,xs[k]? =some x:=⟨_,bX ab⟩
 obtain ⟨bj,bV,av,bY⟩:=rG a3
 have aD:=C.wk aT (Md.refl (fun _=>False) I).drew
 have aX:=aW.wk (Md.refl (fun _=>False) I).drew
 have aI:E≠mb:=fun h=>by have :=(bT.1 Z.cells).1; omega
 refine aR<|bb<|aB fun aq=> ?_
 have A:(fun w'=>bE w'.heap E [str (iQ xs (k:Int)),.slice J (flagsOf xs (k:Int)).length O]∧Hb.aJ w'.heap mb 0=some (aU tb)) I.drew:=⟨a1,(aV aX.cells).trans rfl⟩
 refine bR (fun w'=>bE w'.heap E [str (iQ xs (k:Int)),.slice J (flagsOf xs (k:Int)).length O]∧Hb.aJ w'.heap mb 0=some (aU tb)) aa wide A<|aK 0 aa (fun _ _=>mv) A<|aK 1 aa (fun _ _=>mv) A<|aK 2 aa (fun _ _=>mv) A<|aK 3 aa (fun _ _=>mv) A<|aK 4 aa (fun _ _=>fa wq aa) A<|aK 5 aa (fun w' aH=>ld cR aa<|aH.1.bu 0) A<|aK 6 aa (fun _ _=>mv) A<|aK 7 aa (fun _ _=>nc aa) A<|aK 8 aa (fun _ _=>fa rZ aa) A<|aK 9 aa (fun w' aH=>ld gM aa<|aH.2) A<|aK 10 aa (fun _ _=>mv) A<|he 11 aa ag<|cl DS (Hd B tb U F xs (k:Int) I.drew (C.cap _ _ _ _ aD) ax) aa fun b6 a4 bD=> ?_
 obtain ⟨aP,ae⟩:=bD
 obtain ⟨V,Y,rfl⟩:=c5 aP
 have bv:=C.wk aD ae
 have c:=aX.wk ae
 have bI:∀ q,(bC V (aM F (flagsOf xs (k:Int)) 1).length Y).ownBlock=some q→¬fp q:=fun q an h=>by have h1:=(da aP an).1; have h2:=C.lt _ _ _ _ aD q h; omega
 have bK:=fj aP (show S0≤_ by have :I.heap.size≤I.drew.heap.size:=cj _; omega)
 have ah:(fun w'=>bE w'.heap E [str (iQ xs (k:Int)),.slice J (flagsOf xs (k:Int)).length O]∧Hb.aJ w'.heap mb 0=some (aU tb)) a4:=⟨Wk.B ae A.1,Wk.aJ ae A.2⟩
 refine ⟨ah,?_⟩
 refine aK 12 aa (fun _ _=>nc aa) ah<|aK 13 aa (fun _ _=>fa Ab aa) ah<|he 14 aa ag<|bW eZ aa aa (v:=aj k) aa c.cells (by show 2 < 6; omega) fun a5 aE bn=> ?_
 have aL:a5.heap[mb]? =some (.cells (nk tb G K F (k:Int) aQ ps).toArray 201 (0,0)):=bn
 have bw:=C.ur bv c.cells c.lo c.nf aE
 have ai:(fun w'=>bE w'.heap E [str (iQ xs (k:Int)),.slice J (flagsOf xs (k:Int)).length O]∧Hb.aJ w'.heap mb 0=some (aU tb)) a5:=⟨Md.B aE ah.1 aI,(aV aL).trans rfl⟩
 refine ⟨ai,?_⟩
 refine aK 15 aa (fun _ _=>nc aa) ai<|aK 16 aa (fun _ _=>fa Ac aa) ai<|he 17 aa ag<|bW oP aa aa (v:=str<|iQ xs (k:Int)) aa aL (by show 3 < 6; omega) fun a6 aF bp=> ?_
 have aN:a6.heap[mb]? =some (.cells (nk tb G K F (k:Int) (iQ xs (k:Int)) ps).toArray 201 (0,0)):=bp
 have bx:=C.ur bw aL c.lo c.nf aF
 have am:(fun w'=>bE w'.heap E [str (iQ xs (k:Int)),.slice J (flagsOf xs (k:Int)).length O]∧Hb.aJ w'.heap mb 0=some (aU tb)) a6:=⟨Md.B aF ai.1 aI,(aV aN).trans rfl⟩
 refine ⟨am,?_⟩
 refine aK 18 aa (fun _ _=>nc aa) am<|aK 19 aa (fun _ _=>fa Ft aa) am<|he 20 aa ag<|bW Es aa aa (v:= .slice V (aM F (flagsOf xs (k:Int)) 1).length Y) aa aN (by show 4 < 6; omega) fun ap aG bq=> ?_
 have aO:ap.heap[mb]? =some (.cells (nk tb G ⟨K.ar,K.cr,K.rn,V,Y⟩ F (k:Int) (iQ xs (k:Int))<|aM F (flagsOf xs (k:Int)) 1).toArray 201 (0,0)):=bq
 rw [bj] at aO
 have bz:=C.ur bx aN c.lo c.nf aG
 have a2:=(aE.trans' aF fun q an h=>h).trans' aG fun q an h=>h
 have a0:TF a4 [203] (fun q=>q=mb):=TF.eq (dD c.cells) aw
 have aY:iM ap fp S0 mb tb G ⟨K.ar,K.cr,K.rn,V,Y⟩ F (k:Int) x.1 (aM F (flagsOf xs (k:Int)) 1):=⟨c.lo,aO,c.nf,cX c.ru a2 a0 aw,c.rf,c.rn,cX bK a2 a0 aw,bI⟩
 have bG:(fun w'=>bE w'.heap E [str (iQ xs (k:Int)),.slice J (flagsOf xs (k:Int)).length O]∧Hb.aJ w'.heap mb 0=some (aU tb)) ap:=⟨Md.B aG am.1 aI,(aV aO).trans rfl⟩
 refine ⟨bG,?_⟩
 refine hn ag<|aq<|ak fun bd=>p mv<|e<|cl M5 (U7 B tb U F xs ax G S0 mb au ad C ⟨K.ar,K.cr,K.rn,V,Y⟩ pre fp k x ap aY bz a3 tl<|by rw [bM,tC av]) aa fun v37 b8 bF=> ?_
 obtain ⟨bi,bQ,bl,rfl,bt,bs,bN,bO⟩:=bF
 exact ay<|bd<|rt<|a8 aa<|⟨bi,bQ,bl,_,_,_,_,aa,bt,aY.gw bs,by rw [tC av]; exact bN,fun h=>by rw [tC av]; exact bO h⟩
theorem yH (A:Option Addr) (w:World):
 bf ao 28 (a7 [.pointer A]) w (fun v w'=> ∃ c,v= .func (.func 51) #[] #[aU c]∧w.heap.size≤c∧ju w' c A∧Wk w w'):=by
 exact enter func28 aa ntmps28 aa<|ak fun C=>e<|rJ aa aa fun G V O J I=>ay<|C<|ak fun E=>p AL<|ay<|E<|rt<|a8 aa<|⟨G,aa,ab,I,J.md⟩
theorem KI (B tb:Nat) (U:ek) (F:aC) (xs:List bg) (Z:dU F xs) (V A:Nat) (C:Bool→List bo→(Nat→Prop)→World→Prop) (w:World) (al:C true [] (fun _=>False) w) (c:Yc ao A w.heap.size oR (c4 F xs xs.length) (fun W=>dK W B tb U F xs∧ju W V (some ⟨tb,0,none⟩)) C):
 bf ao 51 (a7 [.func (.yield A) #[] #[],aU V]) w (fun v w'=> ∃ b pre fp,C b pre fp w'∧pre <+:(c4 F xs xs.length)∧(b=true→pre=(c4 F xs xs.length))):=by
 obtain ⟨aZ,aq⟩:=c.cap _ _ _ _ al
 have a9:=Z.xl
 refine enter func51 aa ntmps51 aa<|aB fun aD=>ak fun aF=>p (ld gM aa<|(aV aq).trans aa)<|p (iZ nz aa aa)<|nl<|aF<|cf (aa)<|aR<|aD<|ak fun aG=>p (ld gM aa<|(aV aq).trans aa)<|au (.func (.yield A) #[] #[])<|e<|cl ML (Lj B tb U F xs A w.heap.size w aZ Z<|cj _) aa fun v9 bd aY=> ?_
 obtain ⟨mb,K,rfl,aQ,aN⟩:=aY
 refine ay<|aG<|ak fun aI=>ay<|aI<|az<|lp (fun ai J I=> ∃ (i:Nat) (E:Nat→Prop) (O:qo) (Y:Int) (ad:Tx) (ps:List Nat),(i≤xs.length)∧(C true (c4 F xs i) E I)∧(iM I E w.heap.size mb tb A O F Y ad ps)∧(J 1=aU V)∧(J 3=aU mb)∧(J 4=aj i)∧(xs.length - i=ai)) _ ⟨0,_,K,0,[],[],ab,(c.wk al aN),aQ,aa,aa,aa,aa⟩ ?_
 rintro ai J I ⟨i,E,O,Y,ad,ps,hi,G,aS,a1,a2,a3,rfl⟩
 refine fx 1 a1<|fx 3 a2<|fx 4 a3<|aB fun aJ=>ak fun ae=>au (aj i)<|p (ld gM aa<|(aV (c.cap _ _ _ _ G).2).trans aa)<|p (nc aa)<|p (fa zY aa)<|p (ld yG aa<|(aV (c.cap _ _ _ _ G).1.cells).trans aa)<|e<|cl MM (Ps B U.wb U.mb U.va U.vs xs I (c.cap _ _ _ _ G).1.wd ab) aa fun bb a5 aW=> ?_
 obtain ⟨rfl,am⟩:=aW
 have ap:=c.wk G am
 have aP:=aS.wk am
 refine p (lt aa aa)<|p mv<|gs (t:=17) aa (fun a0=> ?_) fun a0=> ?_
 obtain ⟨tl,aA⟩:=KK (F:=F) (xs:=xs) (show i < xs.length by omega)
 have av:oQ F xs (i:Int)=gi F xs i:=tC ab
 refine a6 aa (aH (aU mb) aa)<|a6 aa (aH (aj i) aa)<|eg aa aa aa<|cl MN (wY B tb U F xs Z A w.heap.size mb (c4 F xs xs.length) C (c.W8 fun W h=>h.1) O Y ad ps (c4 F xs i) E (i:Int) a5 aP ap tl<|by rw [av]; exact aA) aa fun v20 bc aX=> ?_
 obtain ⟨ag,ba,ah,aL,aM,a8,a4,rfl,an,aO,aw,ax⟩:=aX
 rw [av] at aw ax
 refine p (bO aa)<|nl<|ae<|cb aa (fun ac=> ?_) fun ac=> ?_
 obtain rfl :ag=true :=by simpa using ac
 obtain rfl :=ax rfl
 exact aR<|aJ<|aB fun aK=>az<|aR<|bn<|aK<|rg aa<|au (aj i)<|p (bK ((i+1:Nat):Int) aa aa<|bl ab ab)<|p aE<|nl<|tn<|⟨_,ab,i+1,ah,aL,aM,a8,a4,ab,(by rw [CY]; exact an),aO,aa,aa,aa,aa⟩
 obtain rfl :ag=false :=by simpa using ac
 exact ext<|bj<|bj<|be<|f0 aa<|⟨false,_,ah,an,(by rw [aA]; exact Ba<|aw.trans<|sY _ _),fun h=>by cases h⟩
 refine aT aa<|aT aa<|aT aa<|p (bG aa)<|nl<|ae<|cf aa<|ext<|bj<|bj<|be<|f0 aa ?_
 obtain rfl :i=xs.length:=ab
 exact ⟨true,_,E,ap,yr _,fun _=>rfl⟩
theorem KH (A I:Nat) (c:Bool→List bo→(Nat→Prop)→World→Prop) (w:World) (E:c true [] (fun _=>False) w) (G:ju w A none):
 bf ao 51 (a7 [.func (.yield I) #[] #[],aU A]) w (fun v w'=> ∃ b pre fp,c b pre fp w'∧pre <+:([]:List bo)∧(b=true→pre=([]:List bo))):=by
 exact enter func51 aa ntmps51 aa<|aB fun J=>ak fun C=>p (ld gM aa<|(aV G).trans aa)<|p (iZ nz aa aa)<|nl<|C<|ct (aa)<|rt<|tr<|tK aa<|⟨true,[],_,E,yr _,fun _=>rfl⟩
theorem CZ (B tb:Nat) (U:ek) (F:aC) (xs:List bg) (E:dU F xs) (c:Nat):yw ao 51 #[.pointer (some ⟨c,0,none⟩)] oR (c4 F xs xs.length) (fun W=>dK W B tb U F xs∧ju W c (some ⟨tb,0,none⟩)):=
 fun l A W C G=>j7 (KI B tb U F xs E c l A W C G) fun e w' ⟨v,he,I⟩=>⟨⟨v,he⟩,I⟩
theorem KJ (c:Nat):yw ao 51 #[.pointer (some ⟨c,0,none⟩)] oR [] (fun W=>ju W c none):=
 fun l C W A E=>j7 (KH c l C W A<|E.cap _ _ _ _ A) fun e w' ⟨v,he,G⟩=>⟨⟨v,he⟩,G⟩
end Go.Hb.lL
end
section
namespace Go.Hb.s9
open Go.Hb.iJ Go.Hb.iX Go.Hb.jQ
def Bd (acc:List bo):Prop :=acc.length≤eo acc∧eo acc≤acc.length*1000∧acc.length≤2000000
section
variable {q:Option Tx} {most limit:Int} {a L M:List bo} {d:bo}
end
theorem Ly (acc:List bo) (d:bo):eo (acc++ [d])=eo acc+d.cy.length:=by rw [De,Lx]
section
variable {w w' w'':World} {fp fp' fp'':Nat→Prop} {S0 xb:Nat} {dv:Bool} {q:Option Tx} {most limit:Int} {acc:List bo}
end
end Go.Hb.s9
end
section
namespace Go.Hb
open Go.Hb.iJ Go.Hb.iX Go.Hb.jQ Go.Hb.lL Go.Hb.s9
section
variable {w w':World} {fp fp':Nat→Prop} {S0 xb:Nat} {dv:Bool} {q:Option Tx} {most limit:Int} {acc:List bo}
end
theorem Pa {F:aC} {xs:List bg} (c:dU F xs) (n:Int):∀ d∈oQ F xs n,1≤d.cy.length∧d.cy.length≤200:=by
 intro d hd
 unfold oQ at hd
 split at hd
 · rename_i h
   obtain ⟨k,rfl⟩:∃ k:Nat,n=(k:Int):=⟨n.toNat,ab⟩
   have A:xs[k]? =some xs[k]:=bX ab
   have C:xs.getD k ([],[])=xs[k]:=by rw [cU,A]; rfl
   rw [jL] at hd
   have h1:=c.ne _<|fU A
   have h2:=(c.tH _<|fU A).1
   have :=Pc (fun q E=>(c.fs.2 q E).2) (by rw [C]; exact h1) d hd
   rw [C] at this
   omega
 · cases hd
end Go.Hb
end
section
namespace Go.Hb
open Go.Hb.iJ Go.Hb.iX Go.Hb.jQ Go.Hb.lL Go.Hb.s9
def pE (W:World) (b:Nat) (v:Bool):Prop :=W.heap[b]? =some (.cells [.bool v].toArray 4 (0,0))
def jX (L:List bo) (most:Int):Int×Int×Bool:=if most < 0∨min most 1048576 < (eo L:Nat) then (0,0,false) else (((L.length:Nat):Int),((eo L:Nat):Int),true)
theorem wH {L:List bo} {most:Int} (h:most < 0∨min most 1048576 < (eo L:Nat)):jX L most=(0,0,false):=if_pos h
theorem GA {L:List bo} {most:Int} (h:¬(most < 0∨min most 1048576 < (eo L:Nat))):jX L most=(((L.length:Nat):Int),((eo L:Nat):Int),true):=if_neg h
theorem Df {p L:List bo} (h:p <+:L):eo p≤eo L:=by obtain ⟨t,rfl⟩:=h; rw [De]; omega
theorem CX {F:aC} {xs:List bg} (c:dU F xs):∀ d∈c4 F xs xs.length,1≤d.cy.length∧d.cy.length≤200:=by
 intro d hd
 unfold c4 at hd
 obtain ⟨k,hk,hd⟩:=nO.1 hd
 rw [← tC (F:=F) (xs:=xs) (List.mem_range.1 hk)] at hd
 exact Pa c _ d hd
theorem GC (B tb:Nat) (U:ek) (F:aC) (xs:List bg) (most:Int) (w:World) (b3:dK w B tb U F xs) (a1:dU F xs):
 bf ao 27 (a7 [.pointer (some ⟨tb,0,none⟩),.int .i64 most]) w (fun v w'=>v= .tuple #[.int .i64 (jX (c4 F xs xs.length) most).1,.int .i64 (jX (c4 F xs xs.length) most).2.1,.bool (jX (c4 F xs xs.length) most).2.2]∧Wk w w'):=by
 refine qA [] func27 aa ntmps27 aa ?_
 refine cG<|cV<|rg aa<|e<|rJ aa aa fun am cN ct a5 bC=> ?_
 have cC:=a5.size
 refine e<|dY sH fun C cO cu aP bE=> ?_
 have cE:=aP.size
 refine e<|dY sH fun E cP cv aF bF=> ?_
 have cF:=aF.size
 refine e<|dY uK fun Y av cw ap bI=> ?_
 have cH:=ap.size
 have a4:Wk w av:=((a5.md.trans aP.md).trans aF.md).trans ap.md
 have aU:dA av am most:=Wk.az (aP.md.trans<|aF.md.trans ap.md) bC
 have a8:dA av C 0:=Wk.az (aF.md.trans ap.md) bE
 have a9:dA av E 0:=Wk.az ap.md bF
 have ba:pE av Y false :=bI
 refine nl<|cK<|cG<|cG<|cV<|rg aa<|p (ld bH aa<|(aV aU).trans aa)<|p (lt aa aa)<|nl<|cK<|cV<|cd aa (fun bd=> ?_) fun bd=> ?_
 refine sq fun bp aL=>rg aa<|e<|bW eZ aa aa (v:= .int .i64 0) aa a8 (by simp) fun cJ aM bz=>e<|bW eZ aa aa (v:= .int .i64 0) aa (aM.az a9 fun h=>by omega) (by simp) fun cL aN bA=>e<|bW nb aa aa (v:= .bool false) aa (aN.az (aM.az ba fun h=>by omega) fun h=>by omega) (by simp) fun cM aO bB=>nl<|tn<|aL _ _<|rt<|prt<|EP aa (gR aa bH<|(aV<|aO.az (aN.az bz fun h=>by omega) fun h=>by omega).trans aa) (gR aa bH<|(aV<|aO.az bA fun h=>by omega).trans aa) (gR aa jS<|(aV bB).trans aa) ?_
 exact ⟨by rw [wH (.inl bd)]; rfl,((a4.trans' aM fun q ak h=>by omega).trans' aN fun q ak h=>by omega).trans' aO fun q ak h=>by omega⟩
 refine aR<|cK<|cG<|cV<|rg aa<|p (ld bH aa<|(aV aU).trans aa)<|p (mn aa aa)<|e<|bW eZ aa aa (v:= .int .i64<|min most 1048576) aa aU (by simp) fun bm an bD=> ?_
 have bQ:Wk w bm:=a4.trans' an fun q ak h=>by omega
 have cD:=an.size
 refine nl<|cK<|cG<|cG<|cV<|rg aa<|p mv<|e<|cl y7 (yH (some ⟨tb,0,none⟩) bm) aa fun cI J bZ=> ?_
 obtain ⟨ax,rfl,cz,a6,al⟩:=bZ
 have cB:=al.size
 have aJ:Wk w J:=bQ.trans al
 have bc:=(bT.1 a6).1
 have bb:am < J.heap.size:=ab
 have aq:C < J.heap.size:=ab
 have au:E < J.heap.size:=ab
 have aW:Y < J.heap.size:=ab
 have b6:dA J am (min most 1048576):=Wk.az al bD
 have b7:dA J C 0:=Wk.az al<|an.az a8 fun h=>by omega
 have b8:dA J E 0:=Wk.az al<|an.az a9 fun h=>by omega
 have b9:pE J Y false :=Wk.az al<|an.az ba fun h=>by omega
 have aY:∀ {W:World},(∃ G:Nat→Prop,Md G J W∧∀ k,G k→k=C∨k=E∨k=Y)→dK W B tb U F xs:=fun ⟨G,hm,ca⟩=>b3.wk<|aJ.trans' hm fun k hk ae=>by have :=ca k ae; omega
 refine nl<|cK ?_
 apply Bg (oR) (c4 F xs xs.length) (fun W=>dK W B tb U F xs∧ju W ax (some ⟨tb,0,none⟩)) (fun pre fp A=>dA A C (pre.length:Nat)∧dA A E (eo pre:Nat)∧dA A am (min most 1048576)∧pE A Y false∧(∀ k,¬fp k)∧ju A ax (some ⟨tb,0,none⟩)∧(∃ G:Nat→Prop,Md G J A∧∀ k,G k→k=C∨k=E∨k=Y)∧(pre.length≤eo pre∧(eo pre:Int)≤(min most 1048576))) (fun r pre fp A=>r=true∧dA A C 0∧dA A E 0∧dA A am (min most 1048576)∧pE A Y false∧(∀ k,¬fp k)∧ju A ax (some ⟨tb,0,none⟩)∧(∃ G:Nat→Prop,Md G J A∧∀ k,G k→k=C∨k=E∨k=Y)∧(min most 1048576) < (eo pre:Int)) rfl vK (fun _=>rfl) (CZ B tb U F xs a1 ax) (⟨b7,b8,b6,b9,fun _=>id,a6,⟨fun _=>False,Md.refl _ _,fun _ h=>h.elim⟩,cj _,by show (0:Int)≤_; omega⟩) (fun pre fp W ⟨h1,h2,h3,h4,h5,O,Z,ah⟩=>⟨⟨aY Z,O⟩,fun k hk=>absurd hk<|h5 k⟩) (fun r pre fp W ⟨aZ,h1,h2,h3,h4,h5,O,Z,ah⟩=>⟨⟨aY Z,O⟩,fun k hk=>absurd hk<|h5 k⟩) (fun pre fp W bq F ⟨h1,h2,h3,h4,h5,O,Z,ah⟩ hm I=>⟨iD h1 hm aq I,iD h2 hm au I,iD h3 hm bb I,iD h4 hm aW I,h5,iD O hm bc I,(by obtain ⟨G,g1,g2⟩:=Z; exact ⟨G,g1.trans' hm (fun k hk ae=>by have :=(I k ae).1; omega),g2⟩),ah⟩) (fun r pre fp W bq F ⟨aZ,h1,h2,h3,h4,h5,O,Z,ah⟩ hm I=>⟨aZ,iD h1 hm aq I,iD h2 hm au I,iD h3 hm bb I,iD h4 hm aW I,h5,iD O hm bc I,(by obtain ⟨G,g1,g2⟩:=Z; exact ⟨G,g1.trans' hm (fun k hk ae=>by have :=(I k ae).1; omega),g2⟩),ah⟩) (fun x b A=>A.heap[b]? =some (.cells (cT x).toArray 49 (0,0))) (yJ (f:=cT))
 intro l x A K c
 exact rg aa<|e<|dY sI fun aX cU cx bY bL=>e<|fk rP aa aa aa aa bL aw fun cQ bX bG=>nl<|tn<|c aX _ (bY.md.trans' bX fun q ak h=>by omega) bG
 intro l pre x rest fp aX A cf aK bv
 obtain ⟨h1,h2,h3,h4,h5,O,Z,ah⟩:=aK
 have cA:=CX a1 x<|by rw [cf]; simp
 refine az<|sq fun bp aL=>rg aa<|p (ld bH aa<|(aV h1).trans aa)<|p (bK ((pre.length+1:Nat):Int) aa aa<|bl ab ab)<|e<|bW eZ aa aa (v:= .int .i64 ((pre.length+1:Nat):Int)) aa h1 (by simp) fun cS V bJ=> ?_
 have cb:(pre++ [x]).length=pre.length+1:=by simp
 have b4:TF A [5] (fun q=>q=C):=TF.eq (dD h1) aw
 have bw:=V.gZ b4 bv aw
 have ay:=V.az h2 fun h=>by omega
 have bs:=V.az h3 fun h=>by omega
 have bt:=V.az h4 fun h=>by omega
 have bu:=V.az O fun h=>by omega
 refine nl<|tn<|aL _ _<|sq fun cp bS=>rg aa<|p (ld bH aa<|(aV ay).trans aa)<|p (fa r4 aa)<|p (ld cR aa<|(aV bw).trans aa)<|p (dC u9 aa aa)<|p (bK ((eo pre+x.cy.length:Nat):Int) aa aa<|bl ab ab)<|e<|bW eZ aa aa (v:= .int .i64 ((eo pre+x.cy.length:Nat):Int)) aa ay (by simp) fun cW ac aA=> ?_
 have aT:=Ly pre x
 have aG:=ac.az bJ fun h=>by omega
 have aH:=ac.az bs fun h=>by omega
 have aI:=ac.az bt fun h=>by omega
 have a0:=ac.az bu fun h=>by omega
 refine nl<|tn<|bS _ _<|sq fun cq bU=>rg aa<|p (ld bH aa<|(aV aA).trans aa)<|p (ld bH aa<|(aV aH).trans aa)<|p (gt aa aa)<|nl<|tn<|bU _ _<|cd aa (fun cc=> ?_) fun cc=> ?_
 refine sq fun cs bV=>rg aa<|e<|bW eZ aa aa (v:= .int .i64 0) aa aG (by simp) fun cX ad bM=>e<|bW eZ aa aa (v:= .int .i64 0) aa (ad.az aA fun h=>by omega) (by simp) fun cY ai bN=>e<|bW nb aa aa (v:= .bool false) aa (ai.az (ad.az aI fun h=>by omega) fun h=>by omega) (by simp) fun bo aj bO=> ?_
 have ch:dA bo C 0:=aj.az (ai.az bM fun h=>by omega) fun h=>by omega
 have ci:dA bo E 0:=aj.az bN fun h=>by omega
 have cg:=aj.az (ai.az (ad.az aH fun h=>by omega) fun h=>by omega) fun h=>by omega
 have ck:=aj.az (ai.az (ad.az a0 fun h=>by omega) fun h=>by omega) fun h=>by omega
 exact nl<|tn<|bV _ _<|rt<|br<|⟨((((eS.md V fun k hk=>⟨_,_,_,hk ▸ h1⟩).trans<|eS.md ac fun k hk=>⟨_,_,_,hk ▸ ay⟩).trans<|eS.md ad fun k hk=>⟨_,_,_,hk ▸ aG⟩).trans<|eS.md ai fun k hk=>⟨_,_,_,hk ▸ (ad.az aA fun h=>by omega)⟩).trans (eS.md aj fun k hk=>⟨_,_,_,hk ▸ (ai.az (ad.az aI fun h=>by omega) fun h=>by omega)⟩),fp,((((Gw.md V (fun k hk=> .inr<|by subst hk; exact aq) fun _ h=> .inl h).trans<|Gw.md ac (fun k hk=> .inr<|by subst hk; exact au) fun _ h=> .inl h).trans<|Gw.md ad (fun k hk=> .inr<|by subst hk; exact aq) fun _ h=> .inl h).trans<|Gw.md ai (fun k hk=> .inr<|by subst hk; exact au) fun _ h=> .inl h).trans (Gw.md aj (fun k hk=> .inr<|by subst hk; exact aW) fun _ h=> .inl h),aa,ch,ci,cg,bO,h5,ck,(by obtain ⟨G,g1,g2⟩:=Z; exact ⟨fun k=>k=C∨k=E∨k=Y,(((((g1.mono fun k _ hk=>g2 k hk).trans' V fun _ _ h=> .inl h).trans' ac fun _ _ h=> .inr<|.inl h).trans' ad fun _ _ h=> .inl h).trans' ai fun _ _ h=> .inr<|.inl h).trans' aj (fun _ _ h=> .inr<|.inr h),fun _ h=>h⟩),by rw [aT]; omega⟩
 exact aR<|bn<|⟨((eS.md V fun k hk=>⟨_,_,_,hk ▸ h1⟩).trans<|eS.md ac fun k hk=>⟨_,_,_,hk ▸ ay⟩),fp,((Gw.md V (fun k hk=> .inr<|by subst hk; exact aq) fun _ h=> .inl h).trans<|Gw.md ac (fun k hk=> .inr<|by subst hk; exact au) fun _ h=> .inl h),(by rw [cb]; exact aG),(by rw [aT]; exact aA),aH,aI,h5,a0,(by obtain ⟨G,g1,g2⟩:=Z; exact ⟨fun k=>k=C∨k=E∨k=Y,((g1.mono fun k _ hk=>g2 k hk).trans' V fun _ _ h=> .inl h).trans' ac (fun _ _ h=> .inr<|.inl h),fun _ h=>h⟩),ab,by rw [aT]; omega⟩
 intro D A bP aK c
 obtain ⟨fp,h1,h2,h3,h4,h5,O,⟨G,g1,g2⟩,ah⟩:=aK
 refine cK<|cG<|cV ?_
 have aS:(fun w'=>dA w' C ((c4 F xs xs.length).length:Nat)∧dA w' E (eo (c4 F xs xs.length):Nat)) A.drew:=⟨h1,h2⟩
 refine bR (fun w'=>dA w' C ((c4 F xs xs.length).length:Nat)∧dA w' E (eo (c4 F xs xs.length):Nat)) aa wide aS<|hp 0 aa ag (fun w' aQ=>ld bH aa<|(aV aQ.1).trans aa) aS<|hp 1 aa ag (fun w' aQ=>ld bH aa<|(aV aQ.2).trans aa) aS<|he 2 aa ag<|bW eZ aa aa (v:= .int .i64 ((c4 F xs xs.length).length:Nat)) aa h1 (by simp) fun cm aB a2=> ?_
 have c:=(aB.dv D (bT.1 c).1 fun h=>by have h:=h; subst h; rw [h1] at c; cases c).trans c
 have i2:=aB.az h2 fun h=>by omega
 have i6:=aB.az h4 fun h=>by omega
 have b0:(fun w'=>dA w' C ((c4 F xs xs.length).length:Nat)∧dA w' E (eo (c4 F xs xs.length):Nat)) cm:=⟨a2,i2⟩
 refine ⟨b0,?_⟩
 refine he 3 aa ag<|bW eZ aa aa (v:= .int .i64 (eo (c4 F xs xs.length):Nat)) aa i2 (by simp) fun cn aD a3=> ?_
 have c:=(aD.dv D (bT.1 c).1 fun h=>by have h:=h; subst h; rw [i2] at c; cases c).trans c
 have bh:=aD.az a2 fun h=>by omega
 have bi:=aD.az i6 fun h=>by omega
 have b1:(fun w'=>dA w' C ((c4 F xs xs.length).length:Nat)∧dA w' E (eo (c4 F xs xs.length):Nat)) cn:=⟨bh,a3⟩
 refine ⟨b1,?_⟩
 refine he 4 aa ag<|bW nb aa aa (v:= .bool true) aa bi (by simp) fun co aE bx=> ?_
 have c:=(aE.dv D (bT.1 c).1 fun h=>by have h:=h; subst h; rw [bi] at c; cases c).trans c
 have bj:=aE.az bh fun h=>by omega
 have bk:=aE.az a3 fun h=>by omega
 have b2:(fun w'=>dA w' C ((c4 F xs xs.length).length:Nat)∧dA w' E (eo (c4 F xs xs.length):Nat)) co:=⟨bj,bk⟩
 refine ⟨b2,?_⟩
 refine hn ag<|cK<|sn<|vX aa c (gR aa bH<|lP ((aV bj).trans aa) c fun _ _ _ h=>by cases h) (gR aa bH<|lP ((aV bk).trans aa) c fun _ _ _ h=>by cases h) (gR aa jS<|lP ((aV bx).trans aa) c fun _ _ _ h=>by cases h) ?_
 exact ⟨by rw [GA ab]; rfl,(((((aJ.trans' g1 fun k hk ae=>by have :=g2 k ae; omega).trans (Md.refl (fun _=>False) A).drew).trans' aB fun q ak h=>by omega).trans' aD fun q ak h=>by omega).trans' aE fun q ak h=>by omega).trans' (l1 _ _ _) fun k hk h=>by omega⟩
 exact fun _ _ _ _ _ h _=>by obtain ⟨_,h,_⟩:=h; cases h
 intro D A pre bP ce b5 c
 obtain ⟨fp,_,h1,h2,h3,h4,h5,O,⟨G,g1,g2⟩,ah⟩:=b5
 refine prt<|vX aa c (gR aa bH<|lP ((aV h1).trans aa) c fun _ _ _ h=>by cases h) (gR aa bH<|lP ((aV h2).trans aa) c fun _ _ _ h=>by cases h) (gR aa jS<|lP ((aV h4).trans aa) c fun _ _ _ h=>by cases h) ?_
 exact ⟨by rw [wH (.inr<|by have :=Df ce; omega)]; rfl,(aJ.trans' g1 fun k hk ae=>by have :=g2 k ae; omega).trans' (l1 _ _ _) fun k hk h=>by omega⟩
theorem S8 (most:Int) (w:World):
 bf ao 27 (a7 [.pointer none,.int .i64 most]) w (fun v w'=>v= .tuple #[.int .i64 (jX ([]:List bo) most).1,.int .i64 (jX ([]:List bo) most).2.1,.bool (jX ([]:List bo) most).2.2]∧Wk w w'):=by
 refine qA [] func27 aa ntmps27 aa ?_
 refine cG<|cV<|rg aa<|e<|rJ aa aa fun ae bY bE aK a8=> ?_
 have bM:=aK.size
 refine e<|dY sH fun E bZ bF ay ba=> ?_
 have bO:=ay.size
 refine e<|dY sH fun I b0 bG aq bb=> ?_
 have bP:=aq.size
 refine e<|dY uK fun V ak bI aj bd=> ?_
 have bQ:=aj.size
 have aH:Wk w ak:=((aK.md.trans ay.md).trans aq.md).trans aj.md
 have aC:dA ak ae most:=Wk.az (ay.md.trans<|aq.md.trans aj.md) a8
 have aM:dA ak E 0:=Wk.az (aq.md.trans aj.md) ba
 have aN:dA ak I 0:=Wk.az aj.md bb
 have aO:pE ak V false :=bd
 refine nl<|cK<|cG<|cG<|cV<|rg aa<|p (ld bH aa<|(aV aC).trans aa)<|p (lt aa aa)<|nl<|cK<|cV<|cd aa (fun aW=> ?_) fun aW=> ?_
 refine sq fun bC bj=>rg aa<|e<|bW eZ aa aa (v:= .int .i64 0) aa aM (by simp) fun bU au a4=>e<|bW eZ aa aa (v:= .int .i64 0) aa (au.az aN fun h=>by omega) (by simp) fun bV av a5=>e<|bW nb aa aa (v:= .bool false) aa (av.az (au.az aO fun h=>by omega) fun h=>by omega) (by simp) fun bX ax a6=>nl<|tn<|bj _ _<|rt<|prt<|EP aa (gR aa bH<|(aV<|ax.az (av.az a4 fun h=>by omega) fun h=>by omega).trans aa) (gR aa bH<|(aV<|ax.az a5 fun h=>by omega).trans aa) (gR aa jS<|(aV a6).trans aa) ?_
 exact ⟨by rw [wH (.inl aW)]; rfl,((aH.trans' au fun q ac h=>by omega).trans' av fun q ac h=>by omega).trans' ax fun q ac h=>by omega⟩
 refine aR<|cK<|cG<|cV<|rg aa<|p (ld bH aa<|(aV aC).trans aa)<|p (mn aa aa)<|e<|bW eZ aa aa (v:= .int .i64<|min most 1048576) aa aC (by simp) fun a1 ai a9=> ?_
 have bi:Wk w a1:=aH.trans' ai fun q ac h=>by omega
 have bN:=ai.size
 refine nl<|cK<|cG<|cG<|cV<|rg aa<|p mv<|e<|cl y7 (yH none a1) aa fun bS J bm=> ?_
 obtain ⟨al,rfl,bK,aL,ad⟩:=bm
 have bL:=ad.size
 have aI:Wk w J:=bi.trans ad
 have aU:=(bT.1 aL).1
 have aP:ae < J.heap.size:=ab
 have aQ:E < J.heap.size:=ab
 have aS:I < J.heap.size:=ab
 have aT:V < J.heap.size:=ab
 have bs:dA J ae (min most 1048576):=Wk.az ad a9
 have bt:dA J E 0:=Wk.az ad<|ai.az aM fun h=>by omega
 have bu:dA J I 0:=Wk.az ad<|ai.az aN fun h=>by omega
 have bv:pE J V false :=Wk.az ad<|ai.az aO fun h=>by omega
 refine nl<|cK ?_
 apply Bg (oR) (([]:List bo)) (fun W=>ju W al none) (fun pre fp A=>dA A E (pre.length:Nat)∧dA A I (eo pre:Nat)∧dA A ae (min most 1048576)∧pE A V false∧(∀ k,¬fp k)∧ju A al none∧(∃ G:Nat→Prop,Md G J A∧∀ k,G k→k=E∨k=I∨k=V)∧(pre.length≤eo pre∧(eo pre:Int)≤(min most 1048576))) (fun r pre fp A=>r=true∧dA A E 0∧dA A I 0∧dA A ae (min most 1048576)∧pE A V false∧(∀ k,¬fp k)∧ju A al none∧(∃ G:Nat→Prop,Md G J A∧∀ k,G k→k=E∨k=I∨k=V)∧(min most 1048576) < (eo pre:Int)) rfl vK (fun _=>rfl) (KJ al) (⟨bt,bu,bs,bv,fun _=>id,aL,⟨fun _=>False,Md.refl _ _,fun _ h=>h.elim⟩,cj _,by show (0:Int)≤_; omega⟩) (fun pre fp W ⟨h1,h2,h3,h4,h5,O,ah,Y⟩=>⟨O,fun k hk=>absurd hk<|h5 k⟩) (fun r pre fp W ⟨aE,h1,h2,h3,h4,h5,O,ah,Y⟩=>⟨O,fun k hk=>absurd hk<|h5 k⟩) (fun pre fp W a2 F ⟨h1,h2,h3,h4,h5,O,ah,Y⟩ hm C=>⟨iD h1 hm aQ C,iD h2 hm aS C,iD h3 hm aP C,iD h4 hm aT C,h5,iD O hm aU C,(by obtain ⟨G,g1,g2⟩:=ah; exact ⟨G,g1.trans' hm (fun k hk Z=>by have :=(C k Z).1; omega),g2⟩),Y⟩) (fun r pre fp W a2 F ⟨aE,h1,h2,h3,h4,h5,O,ah,Y⟩ hm C=>⟨aE,iD h1 hm aQ C,iD h2 hm aS C,iD h3 hm aP C,iD h4 hm aT C,h5,iD O hm aU C,(by obtain ⟨G,g1,g2⟩:=ah; exact ⟨G,g1.trans' hm (fun k hk Z=>by have :=(C k Z).1; omega),g2⟩),Y⟩) (fun x b A=>A.heap[b]? =some (.cells (cT x).toArray 49 (0,0))) (yJ (f:=cT))
 intro l x A K c
 exact rg aa<|e<|dY sI fun aD b2 bJ bl bg=>e<|fk rP aa aa aa aa bg aw fun b1 bk bc=>nl<|tn<|c aD _ (bl.md.trans' bk fun q ac h=>by omega) bc
 intro l pre x rest fp aD A bx aJ bD
 cases pre <;> cases bx
 intro D A bh aJ c
 obtain ⟨fp,h1,h2,h3,h4,h5,O,⟨G,g1,g2⟩,Y⟩:=aJ
 refine cK<|cG<|cV ?_
 have aB:(fun w'=>dA w' E (([]:List bo).length:Nat)∧dA w' I (eo ([]:List bo):Nat)) A.drew:=⟨h1,h2⟩
 refine bR (fun w'=>dA w' E (([]:List bo).length:Nat)∧dA w' I (eo ([]:List bo):Nat)) aa wide aB<|hp 0 aa ag (fun w' aA=>ld bH aa<|(aV aA.1).trans aa) aB<|hp 1 aa ag (fun w' aA=>ld bH aa<|(aV aA.2).trans aa) aB<|he 2 aa ag<|bW eZ aa aa (v:= .int .i64 (([]:List bo).length:Nat)) aa h1 (by simp) fun bz am aF=> ?_
 have c:=(am.dv D (bT.1 c).1 fun h=>by have h:=h; subst h; rw [h1] at c; cases c).trans c
 have i2:=am.az h2 fun h=>by omega
 have i6:=am.az h4 fun h=>by omega
 have bn:(fun w'=>dA w' E (([]:List bo).length:Nat)∧dA w' I (eo ([]:List bo):Nat)) bz:=⟨aF,i2⟩
 refine ⟨bn,?_⟩
 refine he 3 aa ag<|bW eZ aa aa (v:= .int .i64 (eo ([]:List bo):Nat)) aa i2 (by simp) fun bA an aG=> ?_
 have c:=(an.dv D (bT.1 c).1 fun h=>by have h:=h; subst h; rw [i2] at c; cases c).trans c
 have aX:=an.az aF fun h=>by omega
 have aY:=an.az i6 fun h=>by omega
 have bp:(fun w'=>dA w' E (([]:List bo).length:Nat)∧dA w' I (eo ([]:List bo):Nat)) bA:=⟨aX,aG⟩
 refine ⟨bp,?_⟩
 refine he 4 aa ag<|bW nb aa aa (v:= .bool true) aa aY (by simp) fun bB ap a3=> ?_
 have c:=(ap.dv D (bT.1 c).1 fun h=>by have h:=h; subst h; rw [aY] at c; cases c).trans c
 have aZ:=ap.az aX fun h=>by omega
 have a0:=ap.az aG fun h=>by omega
 have bq:(fun w'=>dA w' E (([]:List bo).length:Nat)∧dA w' I (eo ([]:List bo):Nat)) bB:=⟨aZ,a0⟩
 refine ⟨bq,?_⟩
 refine hn ag<|cK<|sn<|vX aa c (gR aa bH<|lP ((aV aZ).trans aa) c fun _ _ _ h=>by cases h) (gR aa bH<|lP ((aV a0).trans aa) c fun _ _ _ h=>by cases h) (gR aa jS<|lP ((aV a3).trans aa) c fun _ _ _ h=>by cases h) ?_
 exact ⟨by rw [GA ab]; rfl,(((((aI.trans' g1 fun k hk Z=>by have :=g2 k Z; omega).trans (Md.refl (fun _=>False) A).drew).trans' am fun q ac h=>by omega).trans' an fun q ac h=>by omega).trans' ap fun q ac h=>by omega).trans' (l1 _ _ _) fun k hk h=>by omega⟩
 exact fun _ _ _ _ _ h _=>by obtain ⟨_,h,_⟩:=h; cases h
 intro D A pre bh bw br c
 obtain ⟨fp,_,h1,h2,h3,h4,h5,O,⟨G,g1,g2⟩,Y⟩:=br
 refine prt<|vX aa c (gR aa bH<|lP ((aV h1).trans aa) c fun _ _ _ h=>by cases h) (gR aa bH<|lP ((aV h2).trans aa) c fun _ _ _ h=>by cases h) (gR aa jS<|lP ((aV h4).trans aa) c fun _ _ _ h=>by cases h) ?_
 exact ⟨by rw [wH (.inr<|by have :=Df bw; omega)]; rfl,(aI.trans' g1 fun k hk Z=>by have :=g2 k Z; omega).trans' (l1 _ _ _) fun k hk h=>by omega⟩
end Go.Hb
end
section
namespace Go.Hb
open Go.Hb.iJ Go.Hb.iX Go.Hb.jQ Go.Hb.lL Go.Hb.s9
theorem EJ (c s1:Tx) (a0 C G d0 A E c1 d1:Int) (w:World):(binOp .eql 49 (.agg [str c,.int .i64 a0,.int .i64 C,.int .i64 G,.int .i64 d0].toArray)<|.agg [str s1,.int .i64 A,.int .i64 E,.int .i64 c1,.int .i64 d1].toArray).run ao w= .ok (.bool<|decide (c=s1∧a0=A∧C=E∧G=c1∧d0=d1)) w:=by
 have J:=underlying9
 have O:=underlying3
 have I:ao.underlying 49=some (.struct<|ao.fieldsOf 49):=ag
 have hp:ao.stoodInHeld 49=false :=ag
 rw [run_eql_struct,show (10000:Nat)=9999 +1 from rfl,run_equalIn_agg w 9999 49 _ _ I hp]
 simp only [Program.fieldsOf,underlying49]
 have hs:(str c=str s1)=(c=s1):=by unfold str; simp
 unfold str at*
 go_simp
 by_cases h1:c=s1 <;> by_cases h2:a0=A <;> by_cases h3:C=E <;> by_cases h4:G=c1 <;> by_cases h5:d0=d1 <;> simp [h1,h2,h3,h4,h5]
section
variable {N:Fm} {σ:Nat→Value} {w:World} {dst:Option Nat} {ty:TypeId} {pos :String} {af:Array Edge} {g:Option (Nat×Bool)} {x y:Operand}
theorem PX {V:TypeId} {G s1:Tx} {a0 A E d0 c C c1 d1:Int} (J:ev N σ x= .agg [str G,.int .i64 a0,.int .i64 A,.int .i64 E,.int .i64 d0].toArray) (O:ev N σ y= .agg [str s1,.int .i64 c,.int .i64 C,.int .i64 c1,.int .i64 d1].toArray):
 (execOp (ev N σ) ⟨dst,.binOp .eql 49 x y V,ty,pos,af,g⟩).run ao w= .ok (.value<|.bool<|decide (G=s1∧a0=c∧A=C∧E=c1∧d0=d1)) w:=by
 have hm:ao.eqGuardType ao.depth 49=false :=ag
 have I:=run_eqGuard_agg w .eql 49 x y [str G,.int .i64 a0,.int .i64 A,.int .i64 E,.int .i64 d0].toArray [str s1,.int .i64 c,.int .i64 C,.int .i64 c1,.int .i64 d1].toArray hm
 have he:=EJ G s1 a0 A E d0 c C c1 d1 w
 simp only [execOp,J,O,Sem.run_bind,I,he,Result.andThen_ok,Sem.run_pure]
end
theorem zz {l:List bo} (h:0 < l.length):fA l≠[]:=zT (f:=cT) (m:=5) (fun _=>rfl) aw h
theorem xc {w:World} {B e:Nat} {a:Option Addr} {L:List bo} {c:Nat} (h:bq w B e 5 (.slice a L.length c) L.length (fA L)):aG w.heap a (fA L):=(aY h).2
end Go.Hb
end
