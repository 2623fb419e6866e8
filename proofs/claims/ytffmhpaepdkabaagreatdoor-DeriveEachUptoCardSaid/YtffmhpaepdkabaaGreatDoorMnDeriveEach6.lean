/-
  Walks and plain laws that the law rests on, laid together. No conditions but those that each theorem names.
-/
import Derived.Test.YtffmhpaepdkabaaGreatDoorMnDeriveEach5
set_option linter.unusedVariables false
set_option maxRecDepth 20000
set_option maxHeartbeats 1000000
open Bool renaming or_eq_false_iff→nm
open Classical renaming not_not→jq
open Decidable renaming of_not_not→DP
open Go.Proofs.Tryz renaming prog→aw
open Go.Value renaming bool→bT,oneCell'→gC,ownBlock→iU,slice→bR,tuple→gz
open Go.World renaming ownsRow→bu,ownsRow_nil→dx
open List renaming all_cons→tS,all_eq_true→ma,append_assoc→dF,append_nil→ek,drop_drop→r4,drop_eq_getElem_cons→MW,drop_eq_nil_of_le→gV,drop_take→r5,eq_nil_of_length_eq_zero→fS,ext_getElem?→pW,filter_append→MY,filter_nil→M0,flatMap_append→n8,flatMap_singleton→pX,getD_cons_zero→lO,getD_eq_getElem?_getD→cV,getElem?_append_left→me,getElem?_append_right→mN,getElem?_cons_zero→tU,getElem?_drop→qV,getElem?_eq_getElem→cD,getElem?_eq_some_iff→fJ,getElem?_set→kW,getElem?_take→oS,getElem?_zip_eq_some→jx,length→jy,length_append→bL,length_cons→cT,length_drop→fP,length_eq_zero_iff→wg,length_map→fK,length_nil→ga,length_pos_iff→lx,length_set→wh,length_singleton→e5,length_take→dT,length_zip→zC,map_append→iq,mem_append→jz,mem_cons→gr,mem_cons_of_mem→tX,mem_filter→Nb,mem_of_getElem?→iP,mem_of_mem_take→Nc,mem_singleton→j4,not_mem_nil→tZ,take_of_length_le→eN,take_succ_cons→p4,toArray→bh
open Nat renaming add_comm→Np,add_le_add_left→zH,le_refl→cB,le_trans→gd,lt_or_ge→fg,zero_le→jD
open Option.some renaming inj→qW,injEq→fQ
open Prod.mk renaming injEq→se
open UInt8 renaming toNat_inj→kX,toNat_lt→iV
open Go.Proofs.Tryz
open Go.Hb.dX Go.Proofs Go.Hb.fk Go.Hb.gh

section
namespace Go.Hb.kI
open Go.Hb.lP Go.Hb.nq Go.Hb.kn Go.Hb.iu Go.Hb.jQ Go.Hb.wv Go.Hb.j7
theorem Tm:Bn aw 58 3=some (52,3):=aj
def pw (q:bF×Value):List Value:= [str q.1.1,q.2]
def j9 (l:List (bF×Value)):List Value:=l.flatMap pw
theorem GW (l:List (bF×Value)) (q:bF×Value):j9 (l++ [q])=j9 l++pw q:=by simp [j9]
theorem Sh (l:List (bF×Value)):(j9 l).length=l.length*2:=oz (f:=pw) (m:=2) (fun _=>rfl) l
theorem rF {w:World} {B e size n k:Nat} {v:Value} {xs:List Value} (h:bu w B e size v n xs) (hk:v.ownBlock=some k) (q:∀ cur z,w.heap[k]?≠some (.cells cur e z)):False:=by
 rcases h.2 with ⟨rfl,rfl⟩ | ⟨g,cap,cur,rfl,_,i,_⟩
 · cases hk
 · have a:g=k:=by simpa [iU] using hk
   subst a
   exact q _ _ i
structure mR (w:World) (B:Nat) (f:Value→Option Value) (xs:List bF):Prop where
 own:∀ s:Tx,bu w B 3 1 ((f<|str s).getD<|bR none 0 0) (idxs s xs).length ((idxs s xs).map bP)
 nil:∀ s:Tx,idxs s xs= []→(f<|str s).getD (bR none 0 0)=(bR none 0 0)
theorem mR.md {G:Nat→Prop} {w w':World} {B:Nat} {f:Value→Option Value} {xs:List bF} (h:mR w B f xs) (hm:Md G w w') (a:∀ k,G k→∀ cur z,w.heap[k]?≠some (.cells cur 3 z)):mR w' B f xs:=by
 refine ⟨fun s=> ?_,h.nil⟩
 refine cX (h.own s) hm fun k hk q=> ?_
 exact rF (h.own s) hk fun cur z i=>a k q cur z i
theorem CM {w:World} {B B' k n i:Nat} {v q:Value} {xs A:List Value} (h:bu w B 3 1 v n xs) (I:bu w B' 3 1 q i A) (hk:v.ownBlock=some k) (M:q.ownBlock=some k) (hn:0 < n) (Z:0 < i):xs[0]? =A[0]? :=by
 rcases h.2 with ⟨rfl,rfl⟩ | ⟨g,cap,cur,rfl,_,J,_,_,_,O⟩
 · omega
 · rcases I.2 with ⟨rfl,rfl⟩ | ⟨G,V,Y,rfl,_,a,_,_,_,U⟩
   · omega
   · have C:g=k:=by simpa [iU] using hk
     have E:G=k:=by simpa [iU] using M
     subst C E
     rw [J] at a
     cases a
     rw [← O,← U,oS,oS,if_pos ab,if_pos ab]
theorem mR.sep {w:World} {B k:Nat} {f:Value→Option Value} {xs:List bF} {s t:Tx} (h:mR w B f xs) (G:s≠t) (hs:((f<|str s).getD<|bR none 0 0).ownBlock=some k):((f<|str t).getD<|bR none 0 0).ownBlock≠some k:=by
 intro a
 have A:idxs s xs≠[]:=fun e=>by rw [h.nil s e] at hs; cases hs
 have C:idxs t xs≠[]:=fun e=>by rw [h.nil t e] at a; cases a
 have he:=CM (h.own s) (h.own t) hs a (lx.2 A)<|lx.2 C
 cases h1:idxs s xs with
 | nil=>exact A h1
 | cons i l=>
   cases h2:idxs t xs with
   | nil=>exact C h2
   | cons j m=>
     rw [h1,h2] at he
     have E:i=j:=by have h:=he; simp only [List.map_cons,tU,fQ,bP,Value.int.injEq,true_and] at h; omega
     subst E
     have m1:i∈idxs s xs:=by rw [h1]; simp
     have q:i∈idxs t xs:=by rw [h2]; simp
     unfold idxs at m1 q
     have I:=of_decide_eq_true (Nb.1 m1).2
     have J:=of_decide_eq_true (Nb.1 q).2
     exact G<|I.symm.trans J
theorem mR.put {w q I:World} {B mb:Nat} {f:Value→Option Value} {xs:List bF} {x:bF} {v:Value} (h:mR w B f xs) (hm:Md (fun k=>((f<|str x.1).getD<|bR none 0 0).ownBlock=some k) w q)
 (G:bu q B 3 1 v (idxs x.1 xs++ [xs.length]).length ((idxs x.1 xs++ [xs.length]).map bP)) (E:∀ cur z,q.heap[mb]?≠some (.cells cur 3 z)) (C:Md (fun k=>k=mb) q I):mR I B (bV f (str x.1) v) (xs++ [x]):=by
 refine ⟨fun s=> ?_,fun s hs=> ?_⟩
 · by_cases a:x.1=s
   · subst a
     rw [vd,Cd,if_pos rfl]
     exact cX G C fun k hk i=>rF G hk fun cur z A=>E cur z<|i ▸ A
   · rw [tj (fun e=>a (str_inj.1 e).symm),Cd,if_neg a,ek]
     have h1:=cX (h.own s) hm fun k hk i=>h.sep a i hk
     exact cX h1 C fun k hk i=>rF h1 hk fun cur z A=>E cur z<|i ▸ A
 · rw [Cd] at hs
   by_cases a:x.1=s
   · rw [if_pos a] at hs; simp at hs
   · rw [if_neg a,ek] at hs
     rw [tj (fun e=>a (str_inj.1 e).symm)]; exact h.nil s hs
structure lz (w:World) (B wb mb:Nat) (va:Value) (vs:List Value) (xs:List bF):Prop where
 cells:w.heap[wb]? =some (.cells [va,.map (some mb)].toArray 186 (0,0))
 own:bu w B 72 2 va xs.length (j9<|xs.zip vs)
 fl:ez w B 51 vs (xs.map (·.2))
 mp:∃ f,du w.heap mb jn f∧mR w B f xs
theorem lz.md {G:Nat→Prop} {w w':World} {B wb mb:Nat} {va:Value} {vs:List Value} {xs:List bF} (h:lz w B wb mb va vs xs) (hm:Md G w w') {L:List Nat} (a:TF w L G) (q:(L.contains 188 || L.contains 74 || L.contains 53 || L.contains 5)=false) (E:¬G mb):lz w' B wb mb va vs xs:=by
 simp only [nm] at q
 obtain ⟨⟨⟨h1,h2⟩,h3⟩,h4⟩:=q
 obtain ⟨f,A,C⟩:=h.mp
 exact ⟨hm.gA a h.cells h1,cj h.own hm a h2,h.fl.md hm (fun k hk cur z i=>a.no (dw i) h3 hk),⟨f,A.md hm E,C.md hm fun k hk cur z i=>a.no (dw i) h4 hk⟩⟩
theorem lz.wk {w w':World} {B wb mb:Nat} {va:Value} {vs:List Value} {xs:List bF} (h:lz w B wb mb va vs xs) (hm:Wk w w'):lz w' B wb mb va vs xs:=h.md (L:= []) hm (fun _ hk=>hk.elim) rfl id
theorem A3 {F:aT} {t:Tx} {ln:Nat} {row:List Tx} {rows:List Rw} (h:¬65536 < t.length) (h1:bQ t=(ln,row)::rows) (h2:(k9 row).2≠0):∃ e:Nat,(k9 row).2=(e:Int)∧ff F t= .error (ln,e):=by
 unfold k9 at h2 ⊢
 by_cases a:row.length≠1
 · rw [if_pos a]; exact ⟨111,rfl,RW h h1 a⟩
 · rw [if_neg a] at h2 ⊢
   have h3:=pG (s:=row.getD 0 []) (most:=8192) h2
   exact ⟨13,h3.2,RZ h h1 (jq.1 a) h3.1⟩
theorem GK {F:aT} {t:Tx} {ln:Nat} {row:List Tx} {rows:List Rw} (h:¬65536 < t.length) (h1:bQ t=(ln,row)::rows) (h2:(k9 row).2=0):∃ n:Nat,(k9 row).1=n∧n≤8192∧ff F t=e7 F ((bJ t).length+1) n rows:=by
 unfold k9 at h2 ⊢
 by_cases a:row.length≠1
 · rw [if_pos a] at h2; cases h2
 · rw [if_neg a] at h2 ⊢
   exact ⟨_,aa,by have :=qA (row.getD 0 []) 8192 h2; omega,GM h h1 (jq.1 a)<|nO h2⟩
theorem y1 {u:Tx} {a:Value} (h:a.oneCell'=true):[str u,a].all gC=true :=by rw [tS,tS,h]; rfl
def NJ (l e:Nat):Value:= .agg [.int .i64 2,.int .i64 (l:Nat),.int .i64 (e:Nat)].toArray
def NF (w':World) (B0:Nat) (xs:List bF) (v:Value):Prop := ∃ B wb mb va vs,B0≤B∧v= .tuple #[.pointer (some ⟨wb,0,none⟩),.agg [.int .i64 0,.int .i64 0,.int .i64 0].toArray]∧lz w' B wb mb va vs xs∧B0≤wb∧B0≤mb
def ND (e:Nat×Nat) (v:Value):Prop :=v= .tuple #[.pointer none,NJ e.1 e.2]
def lR (F:aT) (t:Tx) (w:World) (v:Value) (w':World):Prop :=(match ff F t with | .ok xs=>NF w' w.heap.size xs v | .error e=>ND e v)∧Wk w w'
theorem lR.no {F:aT} {t:Tx} {w w':World} {l e:Nat} (h:ff F t= .error (l,e)) (hm:Wk w w'):lR F t w (.tuple #[.pointer none,.agg [.int .i64 2,.int .i64 (l:Nat),.int .i64 (e:Nat)].toArray]) w':=by
 unfold lR; rw [h]; exact ⟨rfl,hm⟩
theorem R7 (B fb mc:Nat) (F:aT) (V:e6) (t:Tx) (w:World) (cw:dU w B fb mc F V) (d1:∃ seen,kH F [] seen) (e5:Nx F) (hs:t.length≤1048576):
 bo aw 46 (bh [aR fb,str t]) w (lR F t w):=by
 refine enter func46 aa ntmps46 aa<|ag fun de=>p aB<|e<|fi pT fun bN fE fT cy co=> ?_
 have cn:bO fE.heap bN [.int .i64 0,.int .i64 0,.int .i64 0]:=⟨_,co⟩
 refine nl<|de<|aC fun dn=>ag fun ds=>au (aR fb)<|p (m4 vF aa aa)<|nl<|ds<|cf (aa)<|aO<|dn<|ag fun dt=>au (str t)<|e<|cl FY (KQ t _ hs) aa fun gy ce ek=> ?_
 obtain ⟨⟨fJ,rfl,cL⟩,hE22⟩:=ek
 have cu:=cy.md.trans hE22
 have gj:=cy.size
 refine p mv<|p (xt aa aa)<|p (xt aa aa)<|p aB<|ay<|dt<|aC fun dv=>ag fun dy=>p mv<|p (dj aa aa)<|nl<|dy<|cd aa (fun b7=> ?_) fun b7=> ?_
 have cH:65536 < t.length:=Classical.byContradiction fun h=>b7<|by rw [if_neg h]
 refine ag fun bB=>p mv<|e<|cl sH (sN 0 (if 65536 < t.length then 10 else 0) ce) aa fun v28 gH el=> ?_
 obtain ⟨rfl,bT⟩:=el
 have gf:=(hE22.trans bT).size
 refine p aB<|e<|da jU aa aa aa aa (Wk.B (hE22.trans bT) cn) (by simp) fun gU ed dX=>nl<|bB<|rt<|tr<|eA aa ee (dP (cs:= [.int .i64 2,.int .i64 0,.int .i64 (if 65536 < t.length then 10 else 0)]) aa k5 aa fun j an=>dX.bE j) ?_
 have h:=lR.no (F:=F) (GN cH)<|(cu.trans bT).trans' ed fun q C h=>by omega
 show lR F t w (.tuple #[.pointer none,.agg [.int .i64 2,.int .i64 0,.int .i64 (if 65536 < t.length then 10 else 0)].toArray]) _
 rw [if_pos cH]
 exact h
 have a3:¬65536 < t.length:=fun h=>b7<|by rw [if_pos h]; decide
 rw [if_neg a3] at cL
 obtain ⟨c7,ci,rfl⟩:=cC cL
 have f2:=nL t
 refine aO<|dv<|ag fun bB=>au (str t)<|e<|cl FX (Km t _ hs) aa fun v31 aq em=> ?_
 obtain ⟨⟨a31,rfl,cK⟩,hE31⟩:=em
 rw [if_neg a3] at cK
 obtain ⟨db,bp,bq⟩:=cK
 obtain ⟨ar,cr,rfl⟩:=cC bp
 have ax:=cu.trans hE31
 have aP:=Wk.B (hE22.trans hE31) cn
 have gg:=(hE22.trans hE31).size
 have c5:=yG t
 refine p mv<|p (xt aa aa)<|p (xt aa aa)<|p aB<|ay<|bB<|aC fun dz=>ag fun dA=>p mv<|p (bK y2 aa aa)<|p (bI aa aa)<|nl<|dA<|cd aa (fun b8=> ?_) fun b8=> ?_
 have e4:bQ t= []:=fS ab
 refine ag fun bs=>p mv<|p (bK eV aa aa)<|p (bG (((bJ t).length+1:Nat):Int) aa aa<|bl ab ab)<|e<|cl sH (sN ((bJ t).length+1:Nat) 116 aq) aa fun v40 gI en=> ?_
 obtain ⟨rfl,bV⟩:=en
 have gh:=bV.size
 exact p aB<|e<|da jU aa aa aa aa (Wk.B bV aP) (by simp) fun gW ef dY=>nl<|bs<|rt<|tr<|eA aa ee (dP (cs:= [.int .i64 2,ak ((bJ t).length+1),.int .i64 116]) aa k5 aa fun j an=>dY.bE j)<|lR.no (GO a3 e4)<|(ax.trans bV).trans' ef fun q C h=>by omega
 obtain ⟨⟨c9,aK⟩,rest,U⟩:∃ q rest,bQ t=q::rest:=by
  cases h:bQ t with
  | nil=>rw [h] at b8; exact absurd rfl b8
  | cons q rest=>exact ⟨q,rest,rfl⟩
 have cb:=bq.1
 rw [U] at bp bq cb c5
 obtain ⟨⟨aI,fz⟩,rvs',rfl⟩:∃ q cc,db=q::cc:=by
  cases db with
  | nil=>exact absurd cb<|by simp
  | cons q cc=>exact ⟨q,cc,rfl⟩
 obtain ⟨fe,c3⟩:=bq.2 0 (aI,fz) (c9,aK) rfl rfl
 obtain rfl :aI=c9:=fe
 obtain ⟨a0,dB,rfl⟩:=c3.slice
 have aZ:=(a8 bp).2
 have eQ:=(a8 bp).1
 have cQ:∀ q∈(aI,aK)::rest,q.2.length≤70000∧∀ x∈q.2,x.length≤70000:=fun q C=>by
  have h:=yH (show q∈bQ t by rw [U]; exact C)
  exact ⟨ab,fun x ft=>by have :=(h.2.2.2.2 x ft).2; omega⟩
 have cP:=cQ _<|List.mem_cons_self ..
 simp only [cT] at cb c5 eQ
 refine aO<|dz<|ag fun bs=>p mv<|p (ba sS aa aa (by rw [U]; simp only [cT]; omega)<|aJ.ok (aZ)<|lK<|by simp)<|p (c8 wS aa (aa)<|lL (i:=0) aZ aa)<|e<|cl Qi (RV aI aK ce.heap.size a0 dB aq c3 cP.2 cP.1) aa fun gz fD eo=> ?_
 obtain ⟨rfl,aD⟩:=eo
 have gi:=aD.size
 refine p mv<|p (xt aa aa)<|p (xt aa aa)<|p aB<|ay<|bs<|aC fun df=>ag fun dg=>p mv<|p (dj aa aa)<|nl<|dg<|cd aa (fun cI=> ?_) fun cI=> ?_
 obtain ⟨fO,eW,b5⟩:=A3 (F:=F) a3 U cI
 refine ag fun bt=>p mv<|p (ba sS aa aa (by rw [U]; simp only [cT]; omega)<|aJ.ok (aZ.wk aD)<|lK<|by simp)<|p (fa xU aa)<|p (ld bC aa<|lL (i:=0) (aZ.wk aD) aa 0 az)<|p mv<|e<|cl sH (sN (aI:Nat) (k9 aK).2 fD) aa fun gA gJ ep=> ?_
 obtain ⟨rfl,bW⟩:=ep
 have gk:=bW.size
 refine p aB<|e<|da jU aa aa aa aa (Wk.B (aD.trans bW) aP) (by simp) fun gO d9 dH=>nl<|bt<|rt<|tr<|eA aa ee (dP (cs:= [.int .i64 2,ak aI,.int .i64 (k9 aK).2]) aa k5 aa fun j an=>dH.bE j) ?_
 have h:=lR.no b5<|(ax.trans<|aD.trans bW).trans' d9 fun q C h=>by omega
 show lR F t w (.tuple #[.pointer none,.agg [.int .i64 2,ak aI,.int .i64 (k9 aK).2].toArray]) _
 rw [eW]
 exact h
 obtain ⟨n,cS,f3,b5⟩:=GK (F:=F) a3 U (show (k9 aK).2=0 by omega)
 have d8:=cw.wk<|ax.trans aD
 obtain ⟨seen,cp⟩:=d1
 have f0:=cp.len
 refine aO<|df<|ag fun bt=>e<|uY fun Y gK fW b3 dV=> ?_
 have gl:=b3.size
 refine p (cU (ps:= [(1,.map (some Y))]) (L:= [.slice none 0 0,.map (some Y)]) XZ aa<|aa)<|e<|ot aa fun E fF fX bd dW=> ?_
 have gm:=bd.size
 have d5:=aD.trans<|b3.md.trans bd.md
 refine ay<|bt<|ag fun dh=>au (aR fb)<|e<|cl As (zQ B fb mc F V fF (d8.wk<|b3.md.trans bd.md) ab e5) aa fun gB gL er=> ?_
 obtain ⟨⟨fI,rfl,_⟩,hE60⟩:=er
 have gn:=hE60.size
 refine p (S1 Tm EK aa aa)<|e<|al Zj fun bH gD fQ bb dI=> ?_
 have f7:=bb.size
 refine e<|da RF aa aa aa aa (dI) (by simp) fun M a6 dJ=> ?_
 have d3:Wk aq M:=(d5.trans<|hE60.trans bb.md).trans' a6 fun q C h=>by omega
 have f9:=a6.size
 have eK:M.heap[E]? =some (.cells [.slice none 0 0,.map (some Y)].toArray 186 (0,0)):=a6.aM (Wk.aM (hE60.trans bb.md) dW) fun h=>by omega
 have e1:du M.heap Y jn (fun _=>none):=du.md (du.wk (du.nil dV)<|bd.md.trans<|hE60.trans bb.md) a6 fun h=>by omega
 have ey:lz M M.heap.size E Y (.slice none 0 0) [] []:=⟨eK,dx _ _ _ _,ez.nil _ _ _,⟨_,e1,⟨fun s=>dx _ _ _ _,fun s _=>rfl⟩⟩⟩
 have eH:bO M.heap bH [bg (F.sp.getD 0 0),bg (F.sp.getD 1 0),bg (F.sp.getD 2 0),bg (F.sp.getD 3 0),bg (F.sp.getD 4 0)]:=dJ
 have cq:aJ aq.heap (gp ar cr 1 2) (kF rvs'):=by
  have h:=aZ.drop (cap:=cr) (k:=1) (size:=2)<|by rw [Kt]; simp only [cT]; omega
  exact h
 have eD:iQ F ((bJ t).length+1) (ff F t) [] (n - 0) (rest.drop 0):=by rw [b5]; exact iQ.start
 refine nl<|dh<|aC fun di=>ag fun dk=>p mv<|p (vv sS aa aa<|by rw [U]; simp only [cT]; omega)<|p (bK y2 aa aa)<|p mv<|nl<|dk<|aM<|lp (fun ck ae av=> ∃ (i:Nat) (xs:List bF) (vs:List Value) (va:Value),(i≤rest.length∧i≤n)∧(xs.length=i)∧(iQ F ((bJ t).length+1) (ff F t) xs (n - i)<|rest.drop i)∧(lz av M.heap.size E Y va vs xs)∧(Wk aq av)∧(bO av.heap bH [bg (F.sp.getD 0 0),bg (F.sp.getD 1 0),bg (F.sp.getD 2 0),bg (F.sp.getD 3 0),bg (F.sp.getD 4 0)])∧(M.heap.size≤av.heap.size)∧(ae 0=aR fb)∧(ae 5=aR bN)∧(ae 6= .slice c7 (bJ t).length ci)∧(ae 10=ak n)∧(ae 11=aR E)∧(ae 12=aR bH)∧(ae 63= .slice (gp ar cr 1 2) rest.length (cr - 1))∧(ae 64=ak (rest.length))∧(ae 65=ak i)∧(rest.length - i=ck)) _ ⟨0,[],[],.slice none 0 0,ab,aa,eD,ey,d3,eH,(cB _),aa,aa,aa,(by first | rfl | (rw [← cS]; rfl)),aa,aa,(by first | rfl | (rw [U]; rfl)),(by first | rfl | (rw [U]; rfl)),aa,aa⟩ ?_
 rintro ck ae av ⟨i,xs,vs,va,hi,c6,ah,aN,O,cF,gu,fg,fm,fo,fh,fj,fk,fq,fr,fs,rfl⟩
 refine fx 0 fg<|fx 5 fm<|fx 6 fo<|fx 10 fh<|fx 11 fj<|fx 12 fk<|fx 63 fq<|fx 64 fr<|fx 65 fs<|ag fun dl=>p (lt aa aa)<|nl<|dl<|aC fun dm=>cd aa (fun eN=> ?_) fun eN=> ?_
 refine aO<|dm<|aC fun bv=>aM<|aC fun bw=> ?_
 obtain ⟨⟨ln,r⟩,hri⟩:∃ q,rest[i]? =some q:=⟨_,cD ab⟩
 have eT:rest.drop i=(ln,r)::rest.drop (i+1):=by rw [MW ab]; rw [cD ab] at hri; rw [qW hri]
 obtain ⟨p,c4⟩:∃ p,rvs'[i]? =some p:=⟨_,cD ab⟩
 obtain ⟨dC,cE⟩:=bq.2 (i+1) p (ln,r) c4 hri
 obtain ⟨fy,gw⟩:=p
 obtain rfl :ln=fy:=dC.symm
 obtain ⟨a,c,rfl⟩:=cE.slice
 have cR:=cQ (ln,r)<|tX _<|iP hri
 rw [eT] at ah
 refine rg aa<|au (ak i)<|p (ba sS aa aa ab<|aJ.ok (cq.wk O)<|lK ab)<|p (c8 wS aa (aa)<|lL (cq.wk O) c4)<|e<|al L8 fun ch gF bj b2 dL=> ?_
 have ga:=b2.size
 refine p (cO (ak i) aa)<|e<|da Gu aa aa aa aa (dL) (by simp) fun aV b1 dN=> ?_
 have a5:Wk aq aV:=(O.trans b2.md).trans' b1 fun q C h=>by omega
 have ct:Wk av aV:=b2.md.trans' b1 fun q C h=>by omega
 have bj:bO aV.heap ch [ak ln,.slice a r.length c]:=dN
 have gc:=b1.size
 refine nl<|bw<|aC fun aX=>ag fun dp=>au (ak i)<|au (ak n)<|p (bI aa aa)<|nl<|dp<|cd aa (fun eO=> ?_) fun eO=> ?_
 refine ag fun bx=>p (fa xU aa)<|p (ld bC aa<|(bj.aQ 0).trans aa)<|e<|cl sH (sN (ln:Nat) 116 aV) aa fun v75 gM es=> ?_
 obtain ⟨rfl,bY⟩:=es
 have gq:=bY.size
 refine p aB<|e<|da jU aa aa aa aa (Wk.B (a5.trans bY) aP) (by simp) fun gP ea dO=>nl<|bx<|rt<|tr<|br<|tr<|tr<|br<|tr<|eA aa ee (dP (cs:= [.int .i64 2,ak ln,.int .i64 116]) aa k5 aa fun j an=>dO.bE j) ?_
 rw [show n - i=0 by omega] at ah
 exact lR.no ah.more<|(ax.trans<|a5.trans bY).trans' ea fun q C h=>by omega
 refine aO<|aX<|ag fun bx=>au (aR fb)<|p (c8 EK aa (aa) fun j an=>(Wk.B ct cF).bE j)<|p (c8 wS aa (aa) fun j an=>bj.bE j)<|e<|cl Qj (RQ B fb mc F V ln r ce.heap.size a c aV (cw.wk<|ax.trans a5) ⟨seen,cp⟩ (cE.wk a5) cR.2 cR.1) aa fun fB fG et=> ?_
 obtain ⟨d7,bZ⟩:=et
 obtain ⟨A,aY,cj,rfl,c2,cM⟩:∃ (u:Tx) (a:Value) (e:Nat),fB= .tuple #[.agg [str u,a].toArray,ak e]∧a.oneCell'=true∧((e=0∧∃ l,fV F r= .ok (u,l)∧bu fG aV.heap.size 51 1 a l.length (l.map bg))∨(e≠0∧fV F r= .error e)):=by
  rcases d7 with ⟨x,a,h1,h2,h3⟩ | ⟨e,h1,h2,h3⟩
  exact ⟨x.1,a,0,h2,eU h3,.inl ⟨aa,x.2,h1,h3⟩⟩
  exact ⟨_,_,e,h3,aa,.inr ⟨h2,h1⟩⟩
 have gr:=bZ.size
 refine p mv<|p (xt aa aa)<|p (xt aa aa)<|e<|fi qL fun bM gG fR bc cm=> ?_
 have gb:=bc.size
 refine e<|fZ ku aa aa aa (y1 c2) cm az fun ao a9 dQ=> ?_
 have aL:Wk av ao:=(ct.trans<|bZ.trans bc.md).trans' a9 fun q C h=>by omega
 have cG:ao.heap[bM]? =some (.cells [str A,aY].toArray 72 (0,0)):=dQ
 have gd:=a9.size
 have eI:bO ao.heap ch [ak ln,.slice a r.length c]:=a9.B (Wk.B (bZ.trans bc.md) bj) fun h=>by omega
 refine ay<|bx<|aC fun dq=>ag fun dr=>p mv<|p (dj aa aa)<|nl<|dr<|cd aa (fun eP=> ?_) fun eP=> ?_
 obtain ⟨f4,hex⟩:=cM.resolve_left fun h=>by omega
 refine ag fun bA=>p (fa xU aa)<|p (ld bC aa<|(eI.aQ 0).trans aa)<|p mv<|e<|cl sH (sN (ln:Nat) (cj:Nat) ao) aa fun gC gN eu=> ?_
 obtain ⟨rfl,b0⟩:=eu
 have gs:=b0.size
 exact p aB<|e<|da jU aa aa aa aa (Wk.B (O.trans<|aL.trans b0) aP) (by simp) fun gR eb dR=>nl<|bA<|rt<|tr<|br<|tr<|tr<|br<|tr<|eA aa ee (dP (cs:= [.int .i64 2,ak ln,ak cj]) aa k5 aa fun j an=>dR.bE j)<|lR.no (ah.bad ab hex)<|(ax.trans<|O.trans<|aL.trans b0).trans' eb fun q C h=>by omega
 obtain ⟨_,aH,hex,e9⟩:=cM.resolve_right fun h=>by omega
 have bi:=aN.wk aL
 have e3:¬(va.ownBlock=some E):=dE bi.own bi.cells az
 have e2:¬(va.ownBlock=some bM):=fun h=>by have :=(dG aN.own h).2; omega
 have gv:=aL.size
 refine aO<|dq<|aC fun bA=> ?_
 have aG:(fun w'=>Md (fun q=>va.ownBlock=some q) ao w') ao.drew:=(Md.refl _ _).drew
 refine eS (fun w'=>Md (fun q=>va.ownBlock=some q) ao w') 10 aa wide aG<|bD 0 aa (aR E) aG<|bD 1 aa (aR E) aG<|bz 2 aa (fun _=>nc aa) (fun _=>aG)<|bz 3 aa (fun _=>fa xT aa) (fun _=>aG)<|dM 4 aa (fun w' I=>ld ug aa<|Md.aQ I ((a7 bi.cells).trans aa) e3) aG<|dM 5 aa (fun w' I=>c8 lD aa (aa) fun j an=>bO.bE ⟨_,Md.aM I cG e2⟩ j) aG<|gQ 6 aa aj<|kK yV aa aa aa fun fN fH fY eh d0=> ?_
 have aE:=il eh.md
 have J:=bi.wk aE
 have gt:=aE.size
 have cz:(fun w'=>Md (fun q=>va.ownBlock=some q) ao w') fH:=Md.mono aE fun _ _ h=>h.elim
 refine ⟨cz,?_⟩
 refine gQ 7 aa aj<|ap yV (J.own) aa ab aa (aJ.dZ d0) (aa) (y1 c2) ab ab fun a4 cg c0 ac fw f1=> ?_
 obtain ⟨f,cN,eZ⟩:=J.mp
 have a1:=ac.aM J.cells<|dE J.own J.cells az
 have c1:bu cg M.heap.size 72 2 a4 (xs++ [(A,aH)]).length (j9<|(xs++ [(A,aH)]).zip<|vs++ [aY]):=by
  have e0:xs.length=vs.length:=by have :=J.fl.1; rw [fK] at this; omega
  rw [List.zip_append e0,List.zip_cons_cons,List.zip_nil_right,GW,bL]; exact c0
 have fw:=ac.size
 have eE:=ac.B (Wk.B (aL.trans aE) cF) fun h=>by have :=(dG J.own h).1; omega
 have eJ:=ac.aM (Wk.aM aE cG) fun h=>by have :=(dG aN.own h).2; omega
 have d6:Wk aq cg:=(O.trans<|aL.trans aE).trans' ac fun q C h=>by have :=(dG J.own h).1; omega
 have b4:(fun w'=>Md (fun q=>va.ownBlock=some q) ao w') cg:=cz.trans' ac fun _ _ h=>h
 refine ⟨b4,?_⟩
 refine bz 8 aa (fun _=>nc aa) (fun _=>b4)<|bz 9 aa (fun _=>fa xT aa) (fun _=>b4)<|dK 10 aa aj aj<|cJ GC aa aa (v:=a4) (eU c0) a1 (by show _ < 2; omega) fun aA ai dD=> ?_
 have bk:aA.heap[E]? =some (.cells [a4,.map (some Y)].toArray 186 (0,0)):=dD
 have f5:=ai.size
 have d2:Wk aq aA:=d6.trans' ai fun q C h=>by omega
 have eF:=ai.B eE fun h=>by omega
 have b6:=ai.aM eJ fun h=>by omega
 have cY:=cX c1 ai fun q C h=>dE c1 a1 az<|h ▸ C
 have ew:Tg aA M.heap.size 51 aH.length aY (aH.map bg):=((((((Tg.jN e9).mono ab).wk bc.md).md a9<|fu cm az).wk aE).md ac<|ij J.own az).md ai<|fu a1 az
 have eX:=((J.fl.md ac<|ij J.own az).md ai<|fu a1 az).snoc ew
 have b9:=(cN.md ac fun h=>rF J.own h fun cur z=>cN.pF).md ai fun h=>by omega
 have bm:=(eZ.md ac<|ij J.own az).md ai<|fu a1 az
 have ca:¬(((f<|str A).getD<|bR none 0 0).ownBlock=some E):=dE (bm.own A) bk az
 have cV:¬(((f<|str A).getD<|bR none 0 0).ownBlock=some bM):=dE (bm.own A) b6 az
 have cW:¬(((f<|str A).getD<|bR none 0 0).ownBlock=some Y):=fun h=>rF (bm.own A) h fun cur z=>b9.pF
 refine eR aj<|bA ?_
 have G:(fun w'=>Md (fun q=>((f<|str A).getD<|bR none 0 0).ownBlock=some q) aA w') aA.drew:=(Md.refl _ _).drew
 refine eS (fun w'=>Md (fun q=>((f<|str A).getD<|bR none 0 0).ownBlock=some q) aA w') 16 aa wide G<|lq 0 aa aj (fun _ _=>aU (aR E) aa) G<|lq 1 aa aj (fun _ _=>nc aa) G<|lq 2 aa aj (fun _ _=>fa HM aa) G<|lq 3 aa aj (fun w' I=>ld EI aa<|Md.aQ I ((a7 bk).trans aa) ca) G<|lq 4 aa aj (fun _ _=>fa BO aa) G<|lq 5 aa aj (fun w' I=>ld bU aa<|Md.aQ I ((a7 b6).trans aa) cV) G<|lq 6 aa aj (fun _ _=>aU (aR E) aa) G<|lq 7 aa aj (fun _ _=>nc aa) G<|lq 8 aa aj (fun _ _=>fa HM aa) G<|lq 9 aa aj (fun w' I=>ld EI aa<|Md.aQ I ((a7 bk).trans aa) ca) G<|lq 10 aa aj (fun _ _=>fa BO aa) G<|lq 11 aa aj (fun w' I=>ld bU aa<|Md.aQ I ((a7 b6).trans aa) cV) G<|lq 12 aa aj (fun w' I=>oD Lv Zs je (du.md (b9) I cW) aa aa (⟨_,aa⟩)<|aa) G<|lq 13 aa aj (fun _ _=>aU (ak i) aa) G<|gQ 14 aa aj<|fU nd aa aa fun fM fC fP eg dF=> ?_
 have Z:=il eg.md
 have aS:=bm.md Z fun _ hk=>hk.elim
 have f6:=Z.size
 have cA:(fun w'=>Md (fun q=>((f<|str A).getD<|bR none 0 0).ownBlock=some q) aA w') fC:=Md.mono Z fun _ _ h=>h.elim
 refine ⟨cA,?_⟩
 refine gQ 15 aa aj<|ap nd (aS.own A) aa ab aa (aJ.dZ dF) (aa) (aa) (by have :=ID A xs; omega) (by have :=ID A xs; omega) fun fA dc e7 am fv a2=> ?_
 have fv:=am.size
 have a2:=(b9.wk Z).md am cW
 have fc:bu dc M.heap.size 3 1 fA (idxs A xs++ [xs.length]).length ((idxs A xs++ [xs.length]).map bP):=by
  rw [bL,iq,c6]; exact e7
 have ev:(fun w'=>Md (fun q=>((f<|str A).getD<|bR none 0 0).ownBlock=some q) aA w') dc:=cA.trans' am fun _ _ h=>h
 refine ⟨ev,?_⟩
 refine dK 16 aa aj aj<|tA Lv je (a2) aa aa aa (⟨_,aa⟩) fun dd aF ei=> ?_
 have fd:=mR.put (x:=(A,aH)) aS am fc (fun cur z=>a2.pF) aF
 have eM:=aF.aM (am.aM (Wk.aM Z bk) ca) fun h=>by omega
 have cZ:=cX (aW cY Z) am fun q C=>mA (aW cY Z) (aS.own A) az C
 have e8:=cX cZ aF fun q C h=>rF cZ C fun cur z=>h ▸ a2.pF
 have eY:=((eX.wk Z).md am<|ij (aS.own A) az).md aF fun k hk cur z h=>a2.pF<|hk ▸ h
 have eB:lz dd M.heap.size E Y a4 (vs++ [aY]) (xs++ [(A,aH)]):=⟨eM,e8,by rw [iq]; exact eY,⟨_,ei,fd⟩⟩
 have d4:Wk aq dd:=((d2.trans Z).trans' am fun q C h=>by have :=(dG (aS.own A) h).1; omega).trans' aF fun q C h=>by omega
 have eG:=aF.B (am.B (Wk.B Z eF) fun h=>by have :=(dG (aS.own A) h).1; omega) fun h=>by omega
 have ge:=aF.size
 exact eR aj<|bn<|bv<|rg aa<|p (ad aa aa<|bX ab)<|p mv<|nl<|tn<|⟨_,ab,i+1,xs++ [(A,aH)],vs++ [aY],a4,ab,(by rw [bL,c6]; rfl),(by rw [show n - (i+1)=n - i - 1 by omega]; exact ah.step ab hex),eB,d4,eG,(ab),aa,aa,aa,(by first | rfl | (rw [← cS]; rfl)),aa,aa,(by first | rfl | (rw [U]; rfl)),(by first | rfl | (rw [U]; rfl)),aa,aa⟩
 refine ext<|bf<|bf<|be<|di<|aC fun bv=>aC fun bw=> ?_
 obtain ⟨fL,cv,rfl⟩:=cC aN.own
 refine rg aa<|au (aR E)<|p (nc aa)<|p (fa xT aa)<|p (ld ug aa<|(a7 aN.cells).trans aa)<|p (bK y6 aa aa)<|au (ak n)<|p (lt aa aa)<|nl<|bw<|cd aa (fun eL=> ?_) fun eL=> ?_
 refine ag fun aX=>au (.slice c7 (bJ t).length ci)<|p (bK eV aa aa)<|p (bG (((bJ t).length+1:Nat):Int) aa aa<|bl ab ab)<|e<|cl sH (sN ((bJ t).length+1:Nat) 116 av) aa fun gx gE ej=> ?_
 obtain ⟨rfl,bS⟩:=ej
 have f8:=bS.size
 refine p aB<|e<|da jU aa aa aa aa (Wk.B (O.trans bS) aP) (by simp) fun gS ec dS=>nl<|aX<|rt<|tr<|eA aa ee (dP (cs:= [.int .i64 2,ak ((bJ t).length+1),.int .i64 116]) aa k5 aa fun j an=>dS.bE j) ?_
 rw [gV ab] at ah
 exact lR.no (ah.ends ab)<|(ax.trans<|O.trans bS).trans' ec fun q C h=>by omega
 refine aO<|bv<|ag fun aX=>au (aR E)<|p (cU (ps:= []) (L:= [.int .i64 0,.int .i64 0,.int .i64 0]) tq aa<|aa)<|p (cO (aR E) aa)<|e<|da jU aa aa aa aa (Wk.B O aP) (by simp) fun gT cx dT=>nl<|aX<|rt<|eA aa ee (dP (cs:= [.int .i64 0,.int .i64 0,.int .i64 0]) aa k5 aa fun j an=>dT.bE j) ?_
 rw [gV ab,show n - i=0 by omega] at ah
 have eC:=ah.done
 have ex:TF av [49] (fun q=>q=bN):=TF.eq (dw<|Wk.aM (hE22.trans<|hE31.trans O) co) az
 unfold lR
 rw [eC]
 exact ⟨⟨M.heap.size,E,Y,_,vs,ab,aa,aN.md cx ex az (fun h=>by omega),ab,ab⟩,(ax.trans O).trans' cx fun q C h=>by omega⟩
end Go.Hb.kI
end
section
namespace Go.Hb
open Go.Hb.iu Go.Hb.jQ Go.Hb.kI
theorem Ze {α:Type} {f:α×Value→List Value} {m c i:Nat} (A:∀ q,(f q).length=m) (C:c < m) (hs:∀ a u v,(f (a,u)).set c v=f (a,v)) {rs:List α} {vs:List Value} {v:Value} (hi:i < rs.length) (J:i < vs.length):((rs.zip vs).flatMap f).set (i*m+c) v=(rs.zip<|vs.set i v).flatMap f:=by
 obtain ⟨r,I⟩:∃ r,rs[i]? =some r:=⟨_,cD hi⟩
 obtain ⟨u,hu⟩:∃ u,vs[i]? =some u:=⟨_,cD J⟩
 have M:(rs.zip vs)[i]? =some (r,u):=jx.2 ⟨I,hu⟩
 have V:rs.zip (vs.set i v)=(rs.zip vs).set i (r,v):=by
  apply pW
  intro j
  rw [kW]
  by_cases E:i=j
  · subst E
    rw [if_pos rfl,if_pos (fJ.1 M).1]
    exact jx.2 ⟨I,by simp [J]⟩
  · rw [if_neg E]
    cases h1:(rs.zip vs)[j]? with
    | none=>
      rw [List.getElem?_eq_none_iff,zC] at h1 ⊢
      rw [wh]; exact h1
    | some q=>
      have h2:=jx.1 h1
      exact jx.2 ⟨h2.1,by rw [kW,if_neg E]; exact h2.2⟩
 have Y:(rs.zip vs).length=min rs.length vs.length:=zC
 have G:((rs.zip vs).flatMap f).length=(rs.zip vs).length*m:=oz A _
 have hle:i*m+m≤(rs.zip vs).length*m:=by rw [← Nat.succ_mul]; exact Nat.mul_le_mul_right _ ab
 rw [V,HC A _ ab]
 apply pW
 intro j
 have O:=fun c C=>Bt A (c:=c) M C
 have U:(((rs.zip vs).flatMap f).take<|i*m).length=i*m:=by rw [dT,G]; omega
 rw [kW]
 by_cases h1:j < i*m
 · rw [if_neg ab,dF,me ab,oS,if_pos h1]
 · rw [dF,mN ab,U]
   by_cases h2:j < i*m+m
   · rw [me (by rw [A]; omega)]
     obtain ⟨d,rfl⟩:∃ d,j=i*m+d:=⟨j - i*m,ab⟩
     rw [O d ab,show i*m+d - i*m=d by omega,← hs r u v,kW]
     by_cases h3:c=d
     · subst h3; rw [if_pos rfl,if_pos rfl,if_pos (by rw [G]; omega),if_pos (by rw [A]; exact C)]
     · rw [if_neg ab,if_neg h3]
   · rw [if_neg ab,mN (by rw [A]; omega),A,qV]
     congr 1; omega
theorem Sm {xs:List bF} {vs:List Value} {i:Nat} {v:Value} (hi:i < xs.length) (a:i < vs.length):(j9<|xs.zip vs).set (i*2 +1) v=j9 (xs.zip<|vs.set i v):=Ze (f:=pw) (m:=2) (c:=1) (fun _=>rfl) az (fun _ _ _=>rfl) hi a
theorem uy {l:List (bF×Value)} {i:Nat} {q:bF×Value} (h:l[i]? =some q):j9 l≠[]:=fun h2=>by
 have h3:=Sh l
 have h4:=(fJ.1 h).1
 rw [h2] at h3
 have h5:0=l.length*2:=h3
 omega
theorem Sl {w:World} {B e:Nat} {xs:List bF} {vs:List Value} {A:List (List Nat)} (h:ez w B e vs A):(j9<|xs.zip vs).all gC=true :=by
 rw [ma]
 intro v a
 obtain ⟨q,i,a⟩:=List.mem_flatMap.1 a
 have h1:=ma.1 (zW h) q.2 (List.of_mem_zip i).2
 simp only [pw,gr,tZ,or_false] at a
 rcases a with rfl | rfl
 · rfl
 · exact h1
def oZ (w:World) (B:Nat) (vs:List Value) (a:List (List Nat)):Prop :=vs.length=a.length∧∀ (i:Nat) v l,vs[i]? =some v→a[i]? =some l→bu w B 51 1 v l.length (l.map bg)
theorem oZ.t {w:World} {B:Nat} {vs:List Value} {a:List (List Nat)} (h:oZ w B vs a):ez w B 51 vs a:=⟨h.1,fun i v l h1 h2=>Tg.jN<|h.2 i v l h1 h2⟩
theorem ER {G:Nat→Prop} {w w':World} {B:Nat} {vs:List Value} {a:List (List Nat)} (h:oZ w B vs a) (hm:Md G w w') (q:∀ k,G k→∀ cur z,w.heap[k]?≠some (.cells cur 51 z)):oZ w' B vs a:=⟨h.1,fun i v l h1 h2=>cX (h.2 i v l h1 h2) hm fun k hk A=>rF (h.2 i v l h1 h2) hk<|q k A⟩
theorem N2 (w:World) (B:Nat):oZ w B [] []:=⟨rfl,fun i v l a=>by simp at a⟩
theorem N1 {w:World} {B i:Nat} {vs:List Value} {a:List (List Nat)} {v:Value} (h:oZ w B (vs.take i) (a.take i)) (hi:i < a.length) (E:i < vs.length) (C:bu w B 51 1 v (a.getD i []).length ((a.getD i []).map bg)):oZ w B ((vs.set i v).take<|i+1) (a.take<|i+1):=by
 refine ⟨by simp; have :=h.1; simp at this; omega,fun j u l h1 h2=> ?_⟩
 rw [oS] at h1 h2
 by_cases q:j < i+1
 · rw [if_pos q] at h1 h2
   rw [kW] at h1
   by_cases A:i=j
   · subst A
     rw [if_pos rfl,if_pos E] at h1
     cases h1
     rw [show a.getD i []=l by rw [cV,h2]; rfl] at C
     exact C
   · rw [if_neg A] at h1
     exact h.2 j u l (by rw [oS,if_pos ab]; exact h1)<|by rw [oS,if_pos ab]; exact h2
 · rw [if_neg q] at h1; cases h1
theorem RP (B wb mb:Nat) (va:Value) (vs:List Value) (xs:List bF) (w:World) (G:lz w B wb mb va vs xs) (a0:xs.length≤70000) (aI:∀ x∈xs,x.2.length≤64):
 bo aw 47 (bh [aR wb]) w (fun v w'=>(∃ vs,bu w' w.heap.size 72 2 v xs.length (j9<|xs.zip vs)∧ez w' w.heap.size 51 vs (xs.map (·.2))∧oZ w' w.heap.size vs (xs.map (·.2)))∧Wk w w'):=by
 refine enter func47 aa ntmps47 aa<|ag fun am=>ay<|am<|aC fun ao=>ag fun ap=>au (aR wb)<|p (m4 LA aa aa)<|nl<|ap<|cf (aa)<|aO<|ao<|aC fun aq=>rg aa<|au (aR wb)<|p (nc aa)<|p (fa xT aa)<|p (ld ug aa<|(a7 G.cells).trans aa)<|e<|cl Qk (QF va xs.length (j9<|xs.zip vs) w (Rd.jN G.own) (Sl G.fl) ab) aa fun v11 a3 aE=> ?_
 obtain ⟨ai,aB⟩:=aE
 obtain ⟨C,kr,rfl⟩:=cC ai
 have aT:vs.length=xs.length:=by have :=G.fl.1; rwa [fK] at this
 refine ay<|aq<|aC fun ar=>ag fun av=>p mv<|p (bK y6 aa aa)<|p mv<|nl<|av<|aM<|lp (fun ah M E=> ∃ (i:Nat) (sa:List Value),(i≤xs.length)∧(sa.length=xs.length)∧(sa.drop i=vs.drop i)∧(oZ E w.heap.size (sa.take i)<|(xs.map (·.2)).take i)∧(bu E w.heap.size 72 2 (.slice C xs.length kr) xs.length<|j9<|xs.zip sa)∧(Wk w E)∧(M 3= .slice C xs.length kr)∧(M 13=ak (xs.length))∧(M 14=ak i)∧(xs.length - i=ah)) _ ⟨0,vs,ab,aT,aa,(N2 _ _),ai,aB,aa,aa,aa,aa⟩ ?_
 rintro ah M E ⟨i,sa,hi,aS,al,J,A,I,aQ,aN,aP,rfl⟩
 refine fx 3 aQ<|fx 13 aN<|fx 14 aP<|ag fun ax=>p (lt aa aa)<|nl<|ax<|aC fun aA=>cd aa (fun aH=> ?_) fun aH=> ?_
 refine aO<|aA<|aC fun O=>aM<|aC fun an=> ?_
 obtain ⟨a2,aU,V⟩:=ez.get (G.wk I).fl (show i < (xs.map (·.2)).length by rw [fK]; omega)
 obtain ⟨ae,ci,rfl⟩:=V.slice
 obtain ⟨x,ac⟩:∃ x,xs[i]? =some x:=⟨_,cD ab⟩
 have aY:(xs.map (·.2)).getD i []=x.2:=by rw [cV,List.getElem?_map,ac]; rfl
 have aV:=aI x<|iP ac
 rw [← aY] at aV
 have Z:(xs.zip sa)[i]? =some (x,.slice ae ((xs.map (·.2)).getD i []).length ci):=jx.2 ⟨ac,(A7 al).trans aU⟩
 refine rg aa<|au (ak i)<|p (cO (ak i) aa)<|nl<|an<|rg aa<|au (.slice C xs.length kr)<|au (ak i)<|au (.slice C xs.length kr)<|au (ak i)<|p (ba Be aa aa ab<|aJ.ok ((a8 A).2)<|uy Z)<|p (fa rq aa)<|p (ld mT aa<|fw (f:=pw) (m:=2) (fun _=>rfl) (a8 A).2 Z 1 az)<|e<|cl q9 (sI ae ((xs.map (·.2)).getD i []).length ci (((xs.map (·.2)).getD i []).map bg) E V.cM.2 (by simp) (fun h=>Tg.tg V (by simp) h) (sy _) ab) aa fun v24 a4 aF=> ?_
 obtain ⟨Y,a⟩:=aF
 have a1:=a.size
 refine p (ba Be aa aa ab<|aJ.ok ((a8<|aW A a).2)<|uy Z)<|p (fa rq aa)<|e<|tt (j:=i*2 +1) (aW A a) sM aa aa (eU Y) (by rw [Int.toNat_natCast]; omega) ab fun aZ U aj=> ?_
 rw [Sm ab ab] at aj
 have aD:Wk w aZ:=Wk.own (I.trans a) (aW A a) U ab
 have aK:=cX (ew Y (show w.heap.size≤E.heap.size from I.size)) U fun q aL=>mA Y (aW A a) az aL
 have aG:=ER (ER J a fun _ hk=>hk.elim) U<|ij (aW A a) az
 exact nl<|bn<|O<|rg aa<|p (ad aa aa<|bX ab)<|p mv<|nl<|tn<|⟨_,ab,i+1,sa.set i v24,ab,(by rw [wh]; exact aS),(jQ.set_drop al),(N1 aG (by rw [fK]; omega) ab aK),aj,aD,aa,aa,aa,aa⟩
 refine ext<|bf<|bf<|be<|ar<|ag fun O=>au (.slice C xs.length kr)<|p (cO (.slice C xs.length kr) aa)<|nl<|O<|rt<|aX aa ?_
 rw [eN ab,eN (by rw [fK]; omega)] at J
 exact ⟨⟨sa,A,J.t,J⟩,I⟩
end Go.Hb
end
section
namespace Go.Hb.jG
open Go.Hb.lP Go.Hb.nq
def m8 (c:db):List Value:= [bP c.flag,.int .i64 (c.kind:Nat),.bool c.et,.int .i64 (c.first:Nat),.int .i64 (c.count:Nat)]
def qs (l:List db):List Value:=l.flatMap m8
def jv (q:dd×Value):List Value:= [.int .i64 (q.1.kind:Nat),bP q.1.flag,.bool q.1.et,str q.1.strip,str q.1.add,str q.1.cond,q.2,.int .i64 (q.1.line:Nat)]
def mr (l:List (dd×Value)):List Value:=l.flatMap jv
def ir (w:World) (B e:Nat) (vs:List Value) (a:List (List Nat)):Prop :=vs.length=a.length∧∀ (i:Nat) v l,vs[i]? =some v→a[i]? =some l→Tg w B e l.length v (l.map bP)
theorem ir.nil (w:World) (B e:Nat):ir w B e [] []:=⟨rfl,fun i v l a=>by simp at a⟩
theorem ir.md {F:Nat→Prop} {w w':World} {B e:Nat} {vs:List Value} {a:List (List Nat)} (h:ir w B e vs a) (hm:Md F w w') (q:∀ k,F k→∀ cur z,w.heap[k]?≠some (.cells cur e z)):ir w' B e vs a:=⟨h.1,fun i v l h1 h2=>(h.2 i v l h1 h2).md hm q⟩
theorem ir.wk {w w':World} {B e:Nat} {vs:List Value} {a:List (List Nat)} (h:ir w B e vs a) (hm:Wk w w'):ir w' B e vs a:=h.md hm fun _ hk=>hk.elim
theorem ir.snoc {w:World} {B e:Nat} {vs:List Value} {q:List (List Nat)} {v:Value} {l:List Nat} (a:ir w B e vs q) (C:Tg w B e l.length v (l.map bP)):ir w B e (vs++ [v]) (q++ [l]):=by
 refine ⟨by rw [bL,bL,a.1]; rfl,fun i E G h1 h2=> ?_⟩
 have A:=a.1
 by_cases hi:i < vs.length
 · rw [me hi] at h1
   rw [me ab] at h2
   exact a.2 i E G h1 h2
 · rw [mN ab] at h1
   rw [mN ab,← A] at h2
   cases hj:i - vs.length with
   | zero=>rw [hj] at h1 h2; cases h1; cases h2; exact C
   | succ j=>rw [hj] at h1; simp at h1
theorem ir.get {w:World} {B e i:Nat} {vs:List Value} {a:List (List Nat)} (h:ir w B e vs a) (hi:i < a.length):∃ v,vs[i]? =some v∧Tg w B e (a.getD i []).length v ((a.getD i []).map bP):=by
 have h1:i < vs.length:=by rw [h.1]; exact hi
 refine ⟨vs[i],cD h1,h.2 i _ _ (cD h1) ?_⟩
 rw [cV,cD hi]; rfl
structure gj where
 rb:Nat
 fb:Nat
 eof:Nat
 vr:Value
 vs:List (Nat×Value)
 rows:List Rw
structure ep where
 v9:Value
 v10:Value
 v11:Value
 v12:Value
 sa:List Value
 rn:List Value
def nI (F:aT) (V:ep):List Value:= [.int .i64 (F.kind:Nat),str F.rh,str F.tr,bP (F.sp.getD 0 0),bP (F.sp.getD 1 0),bP (F.sp.getD 2 0),bP (F.sp.getD 3 0),bP (F.sp.getD 4 0),.int .i64 (F.least:Nat),V.v9,V.v10,V.v11,V.v12]
def If (H:gj) (k:Nat) (vh:Value) (ln:Nat):List Value:= [.pointer (some ⟨H.fb,0,none⟩),H.vr,.int .i64 (k:Nat),.int .i64 (H.eof:Nat),vh,.int .i64 (ln:Nat)]
structure eF (w:World) (B B0 fb:Nat) (F:aT) (V:ep):Prop where
 cells:w.heap[fb]? =some (.cells (nI F V).toArray 181 (0,0))
 o9:bu w B 369 2 V.v9 F.dm.length (kT F.dm)
 eT:bu w B 75 1 V.v10 F.aliases.length V.sa
 al:ir w B0 3 V.sa F.aliases
 eu:bu w B 242 5 V.v11 F.bw.length (qs F.bw)
 dD:bu w B 174 8 V.v12 F.rules.length (mr<|F.rules.zip V.rn)
 nx:ir w B0 3 V.rn (F.rules.map (·.next))
 lo:B≤fb
 fO:F.sp.length=5
theorem eF.md {G:Nat→Prop} {w w':World} {B B0 fb:Nat} {F:aT} {V:ep} (h:eF w B B0 fb F V) (hm:Md G w w') {L:List Nat} (a:TF w L G) (i:(L.contains 183 || L.contains 371 || L.contains 77 || L.contains 5 || L.contains 244 || L.contains 176)=false):eF w' B B0 fb F V:=by
 simp only [nm] at i
 obtain ⟨⟨⟨⟨⟨h1,h2⟩,h3⟩,h4⟩,h5⟩,h6⟩:=i
 have q:∀ k,G k→∀ cur z,w.heap[k]?≠some (.cells cur 3 z):=fun k hk cur z A=>a.no (dw A) h4 hk
 exact ⟨hm.gA a h.cells h1,cj h.o9 hm a h2,cj h.eT hm a h3,h.al.md hm q,cj h.eu hm a h5,cj h.dD hm a h6,h.nx.md hm q,h.lo,h.fO⟩
theorem eF.wk {w w':World} {B B0 fb:Nat} {F:aT} {V:ep} (h:eF w B B0 fb F V) (hm:Wk w w'):eF w' B B0 fb F V:=h.md (L:= []) hm (fun _ hk=>hk.elim) rfl
structure nu (w:World) (B B0 fb:Nat) (F:aT) (V:ep):Prop where
 cells:w.heap[fb]? =some (.cells (nI F V).toArray 181 (0,0))
 eT:bu w B 75 1 V.v10 F.aliases.length V.sa
 al:ir w B0 3 V.sa F.aliases
theorem eF.r {w:World} {B B0 fb:Nat} {F:aT} {V:ep} (h:eF w B B0 fb F V):nu w B B0 fb F V:=⟨h.cells,h.eT,h.al⟩
theorem nu.md {G:Nat→Prop} {w w':World} {B B0 fb:Nat} {F:aT} {V:ep} (h:nu w B B0 fb F V) (hm:Md G w w') {L:List Nat} (a:TF w L G) (i:(L.contains 183 || L.contains 77 || L.contains 5)=false):nu w' B B0 fb F V:=by
 simp only [nm] at i
 obtain ⟨⟨h1,h3⟩,h4⟩:=i
 exact ⟨hm.gA a h.cells h1,cj h.eT hm a h3,h.al.md hm fun k hk cur z q=>a.no (dw q) h4 hk⟩
theorem nu.wk {w w':World} {B B0 fb:Nat} {F:aT} {V:ep} (h:nu w B B0 fb F V) (hm:Wk w w'):nu w' B B0 fb F V:=h.md (L:= []) hm (fun _ hk=>hk.elim) rfl
theorem eF.put {w w':World} {B B0 fb:Nat} {F F':aT} {V:ep} (h:eF w B B0 fb F V) (hm:Md (fun k=>k=fb) w w') (q:w'.heap[fb]? =some (.cells (nI F' V).toArray 181 (0,0))) (h1:F'.dm=F.dm) (h2:F'.aliases=F.aliases) (h3:F'.bw=F.bw) (h4:F'.rules=F.rules) (h5:F'.sp.length=5):eF w' B B0 fb F' V:=by
 have a:TF w [183] (fun k=>k=fb):=TF.eq (dw h.cells) az
 have i:∀ k,k=fb→∀ cur z,w.heap[k]?≠some (.cells cur 3 z):=fu h.cells az
 exact ⟨q,h1 ▸ cj h.o9 hm a az,h2 ▸ cj h.eT hm a az,h2 ▸ h.al.md hm i,h3 ▸ cj h.eu hm a az,h4 ▸ cj h.dD hm a az,h4 ▸ h.nx.md hm i,h.lo,h5⟩
theorem eF.zZ {w i E:World} {B B0 fb:Nat} {F:aT} {V:ep} {v:Value} {x:Tx×Tx} (h:eF w B B0 fb F V) (hm:Md (fun k=>V.v9.ownBlock=some k) w i) (J:bu i B 369 2 v (F.dm++ [x]).length (kT<|F.dm++ [x])) (a:Md (fun k=>k=fb) i E) (M:E.heap[fb]? =some (.cells (nI {F with dm:=F.dm++ [x]} {V with v9:=v}).toArray 181 (0,0))):eF E B B0 fb {F with dm:=F.dm++ [x]} {V with v9:=v} :=by
 have q:TF w [371] (fun k=>V.v9.ownBlock=some k):=TF.own h.o9 az
 have C:=hm.gA q h.cells az
 have A:TF i [183] (fun k=>k=fb):=TF.eq (dw C) az
 have G:∀ k,V.v9.ownBlock=some k→∀ cur z,w.heap[k]?≠some (.cells cur 3 z):=ij h.o9 az
 have I:∀ k,k=fb→∀ cur z,i.heap[k]?≠some (.cells cur 3 z):=fu C az
 exact ⟨M,cX J a (fun k hk O=>dE J C az<|O ▸ hk),cj (cj h.eT hm q az) a A az,(h.al.md hm G).md a I,cj (cj h.eu hm q az) a A az,cj (cj h.dD hm q az) a A az,(h.nx.md hm G).md a I,h.lo,h.fO⟩
theorem eF.zX {w i I:World} {B B0 fb:Nat} {F:aT} {V:ep} {v:Value} {x:List Nat} {vx:Value} (h:eF w B B0 fb F V) (U:Tg w B0 3 x.length vx (x.map bP)) (hm:Md (fun k=>V.v10.ownBlock=some k) w i) (J:bu i B 75 1 v (F.aliases++ [x]).length (V.sa++ [vx])) (a:Md (fun k=>k=fb) i I) (M:I.heap[fb]? =some (.cells (nI {F with aliases:=F.aliases++ [x]} {V with v10:=v,sa:=V.sa++ [vx]}).toArray 181 (0,0))):eF I B B0 fb {F with aliases:=F.aliases++ [x]} {V with v10:=v,sa:=V.sa++ [vx]} :=by
 have q:TF w [77] (fun k=>V.v10.ownBlock=some k):=TF.own h.eT az
 have C:=hm.gA q h.cells az
 have A:TF i [183] (fun k=>k=fb):=TF.eq (dw C) az
 have E:∀ k,V.v10.ownBlock=some k→∀ cur z,w.heap[k]?≠some (.cells cur 3 z):=ij h.eT az
 have G:∀ k,k=fb→∀ cur z,i.heap[k]?≠some (.cells cur 3 z):=fu C az
 exact ⟨M,cj (cj h.o9 hm q az) a A az,cX J a (fun k hk O=>dE J C az<|O ▸ hk),((h.al.md hm E).md a G).snoc ((U.md hm E).md a G),cj (cj h.eu hm q az) a A az,cj (cj h.dD hm q az) a A az,(h.nx.md hm E).md a G,h.lo,h.fO⟩
theorem eF.zY {w i E:World} {B B0 fb:Nat} {F:aT} {V:ep} {v:Value} {x:db} (h:eF w B B0 fb F V) (hm:Md (fun k=>V.v11.ownBlock=some k) w i) (J:bu i B 242 5 v (F.bw++ [x]).length (qs<|F.bw++ [x])) (a:Md (fun k=>k=fb) i E) (M:E.heap[fb]? =some (.cells (nI {F with bw:=F.bw++ [x]} {V with v11:=v}).toArray 181 (0,0))):eF E B B0 fb {F with bw:=F.bw++ [x]} {V with v11:=v} :=by
 have q:TF w [244] (fun k=>V.v11.ownBlock=some k):=TF.own h.eu az
 have C:=hm.gA q h.cells az
 have A:TF i [183] (fun k=>k=fb):=TF.eq (dw C) az
 have G:∀ k,V.v11.ownBlock=some k→∀ cur z,w.heap[k]?≠some (.cells cur 3 z):=ij h.eu az
 have I:∀ k,k=fb→∀ cur z,i.heap[k]?≠some (.cells cur 3 z):=fu C az
 exact ⟨M,cj (cj h.o9 hm q az) a A az,cj (cj h.eT hm q az) a A az,(h.al.md hm G).md a I,cX J a (fun k hk O=>dE J C az<|O ▸ hk),cj (cj h.dD hm q az) a A az,(h.nx.md hm G).md a I,h.lo,h.fO⟩
theorem eF.wY {w i I:World} {B B0 fb:Nat} {F:aT} {V:ep} {v:Value} {x:dd} {vx:Value} (h:eF w B B0 fb F V) (U:Tg w B0 3 x.next.length vx (x.next.map bP)) (hm:Md (fun k=>V.v12.ownBlock=some k) w i) (J:bu i B 174 8 v (F.rules++ [x]).length (mr<|(F.rules++ [x]).zip<|V.rn++ [vx])) (a:Md (fun k=>k=fb) i I) (M:I.heap[fb]? =some (.cells (nI {F with rules:=F.rules++ [x]} {V with v12:=v,rn:=V.rn++ [vx]}).toArray 181 (0,0))):eF I B B0 fb {F with rules:=F.rules++ [x]} {V with v12:=v,rn:=V.rn++ [vx]} :=by
 have q:TF w [176] (fun k=>V.v12.ownBlock=some k):=TF.own h.dD az
 have C:=hm.gA q h.cells az
 have A:TF i [183] (fun k=>k=fb):=TF.eq (dw C) az
 have E:∀ k,V.v12.ownBlock=some k→∀ cur z,w.heap[k]?≠some (.cells cur 3 z):=ij h.dD az
 have G:∀ k,k=fb→∀ cur z,i.heap[k]?≠some (.cells cur 3 z):=fu C az
 exact ⟨M,cj (cj h.o9 hm q az) a A az,cj (cj h.eT hm q az) a A az,(h.al.md hm E).md a G,cj (cj h.eu hm q az) a A az,cX J a (fun k hk O=>dE J C az<|O ▸ hk),(by rw [iq]; exact ((h.nx.md hm E).md a G).snoc<|(U.md hm E).md a G),h.lo,h.fO⟩
structure gY (w:World) (B:Nat) (H:gj) (k ln:Nat) (seen:List Tx) (vh:Value):Prop where
 cells:w.heap[H.rb]? =some (.cells (If H k vh ln).toArray 236 (0,0))
 hd:bu w B 9 1 vh seen.length (seen.map str)
 lo:B≤H.rb
section
variable {w w':World} {B k ln:Nat} {H:gj} {seen:List Tx} {vh:Value}
theorem gY.md {G:Nat→Prop} (h:gY w B H k ln seen vh) (hm:Md G w w') {L:List Nat} (i:TF w L G) (a:(L.contains 238 || L.contains 11)=false):gY w' B H k ln seen vh:=by
 simp only [nm] at a
 exact ⟨hm.gA i h.cells a.1,cj h.hd hm i a.2,h.lo⟩
theorem gY.wk (h:gY w B H k ln seen vh) (hm:Wk w w'):gY w' B H k ln seen vh:=h.md (L:= []) hm (fun _ hk=>hk.elim) rfl
theorem gY.fb {B0:Nat} {a:aT} {V:ep} (h:gY w B H k ln seen vh) (i:eF w B B0 H.fb a V) (hm:Md (fun k=>k=H.fb) w w'):gY w' B H k ln seen vh:=h.md hm (TF.eq (L:= [183]) (dw i.cells) az) az
theorem gY.own {B' e s n:Nat} {v:Value} {xs:List Value} (h:gY w B H k ln seen vh) (i:bu w B' e s v n xs) (hm:Md (fun k=>v.ownBlock=some k) w w') (a:([e+2].contains 238 || [e+2].contains 11)=false):gY w' B H k ln seen vh:=h.md hm (TF.own (L:= [e+2]) i<|by simp) a
theorem gY.ox {cs:Array Value} {z:Nat×Nat} (h:gY w B H k ln seen vh) (a:w.heap[H.fb]? =some (.cells cs 181 z)) (hm:Md (fun k=>k=H.fb) w w'):gY w' B H k ln seen vh:=h.md hm (TF.eq (L:= [183]) (dw a) az) az
theorem gY.dB {k' ln':Nat} (h:gY w B H k ln seen vh) (hm:Md (fun k=>k=H.rb) w w') (a:w'.heap[H.rb]? =some (.cells (If H k' vh ln').toArray 236 (0,0))):gY w' B H k' ln' seen vh:=⟨a,cj h.hd hm (TF.eq (L:= [238]) (dw h.cells) az) az,h.lo⟩
theorem eF.rb {B0:Nat} {a:aT} {V:ep} (h:eF w B B0 H.fb a V) (i:gY w B H k ln seen vh) (hm:Md (fun k=>k=H.rb) w w'):eF w' B B0 H.fb a V:=h.md hm (TF.eq (L:= [238]) (dw i.cells) az) az
end
structure nr (F:aT) (rows:List Rw) (seen:List Tx):Prop where
 len:F.dm.length+F.aliases.length+F.bw.length+F.rules.length+rows.length≤70000
 sl:seen.length+rows.length≤70000
 row:∀ q∈rows,q.2≠[]∧q.2.length≤70000∧∀ x∈q.2,x.length≤70000
 kd:F.kind=1∨F.kind=2∨F.kind=3
def GS (a:World) (H:gj):Prop := ∃ B0,Tg a B0 237 H.rows.length H.vr (kF H.vs)∧gZ a B0 9 H.vs H.rows∧H.rows.length≤70000
def mh (a w:World) (H:gj) (F:aT) (k ln:Nat) (seen:List Tx):Prop := ∃ V vh,eF w a.heap.size 0 H.fb F V∧gY w a.heap.size H k ln seen vh∧nr F (H.rows.drop k) seen∧Wk a w∧k≤H.rows.length
def NI (w':World) (H:gj) (X:Except (Nat×Nat) (aT×List Rw)) (v:Value):Prop := ∃ l e:Nat,X= .error (l,e)∧e≠0∧v= .int .i64 (e:Nat)∧Hb.aQ w'.heap H.rb 5=some (.int .i64 (l:Nat))
def fL (a:World) (H:gj) (seen:List Tx) (X:Except (Nat×Nat) (aT×List Rw)) (v:Value) (w':World):Prop :=((∃ F' k' ln',X= .ok (F',H.rows.drop k')∧v= .int .i64 (0:Nat)∧mh a w' H F' k' ln' seen)∨NI w' H X v)∧Wk a w'
theorem nr.po {F:aT} {q:Rw} {rest:List Rw} {seen:List Tx} (h:nr F (q::rest) seen):nr F rest seen:=⟨by have :=h.len; simp only [cT] at this; omega,by have :=h.sl; simp only [cT] at this; omega,fun a h2=>h.row a (tX _ h2),h.kd⟩
theorem gY.dq {w:World} {B:Nat} {H:gj} {k ln:Nat} {seen:List Tx} {vh:Value} (h:gY w B H k ln seen vh):Hb.aQ w.heap H.rb 5=some (.int .i64 (ln:Nat)):=(a7 h.cells).trans rfl
theorem GS.get {C w:World} {H:gj} {k:Nat} (h:GS C H) (hm:Wk C w) (hk:k < H.rows.length):∃ n r ar cr a c,H.rows.drop k=(n,r)::H.rows.drop (k+1)∧H.vr= .slice a H.rows.length c∧aJ w.heap a (kF H.vs)∧H.vs[k]? =some (n,.slice ar r.length cr)∧(∃ B0,Tg C B0 9 r.length (.slice ar r.length cr) (r.map str))∧H.vs.length=H.rows.length:=by
 obtain ⟨B0,h1,h2,_⟩:=h
 obtain ⟨a,c,G⟩:=h1.slice
 have I:=h2.1
 obtain ⟨q,A⟩:∃ q,H.rows[k]? =some q:=⟨_,cD hk⟩
 obtain ⟨n,r⟩:=q
 obtain ⟨p,hp⟩:∃ p,H.vs[k]? =some p:=⟨_,cD ab⟩
 obtain ⟨E,i⟩:=h2.2 k p (n,r) hp A
 obtain ⟨J,M⟩:=p
 simp only at E i
 subst E
 obtain ⟨ar,cr,rfl⟩:=i.slice
 rw [G] at h1
 refine ⟨J,r,ar,cr,a,c,?_,G,(h1.wk hm).cM.2,hp,⟨B0,i⟩,I⟩
 rw [MW hk]
 rw [cD hk] at A
 rw [qW A]
end Go.Hb.jG
end
namespace Go.Hb
theorem Vz {l:List UInt8} {j:Nat} {b:UInt8} (h:j < l.length):b∈l.take (j+1)↔b∈l.take j∨l.getD j 0=b:=by
 rw [fH l j 0 h,jz,j4,eq_comm (a:=b)]
theorem vj (s:List UInt8) (w:World) (hs:s.length≤1048576):
 bo aw 176 (bh [str s]) w (fun v w'=>v= .bool (gu s)∧Wk w w'):=by
 refine enter func176 aa ntmps176 aa<|ag fun M=>ay<|M<|aC fun O=>ag fun U=>ay<|U<|aM<|lp (fun G C J=> ∃ (i:Nat),(i≤s.length)∧(∀ j,j < i→iR (s.getD j 0)=true)∧(Wk w J)∧(C 0=str s)∧(C 3= .int .i64 i)∧(s.length - i=G)) _ ⟨0,ab,(fun j I=>by omega),(Md.refl _ _),aa,aa,aa⟩ ?_
 rintro G C J ⟨i,hi,hp,a,ah,ai,rfl⟩
 refine fx 0 ah<|fx 3 ai<|aC fun V=>ag fun Y=>au (.int .i64 i)<|au (str s)<|p (cy u9 aa aa)<|p (lt aa aa)<|nl<|Y<|cd aa (fun ac=> ?_) fun ac=> ?_
 refine aO<|V<|aC fun q=>aM<|ag fun E=>au (str s)<|au (.int .i64 i)<|p (eQ u9 aa aa ab)<|p (lt aa aa)<|p mv<|gs (t:=14) aa (fun ae=> ?_) fun ae=> ?_
 exact aH aa<|aH aa<|aH aa<|aH aa<|p (bB aa)<|nl<|E<|ct aa<|ag fun A=>ay<|A<|rt<|br<|tr<|tr<|br<|tr<|aX aa<|⟨by show bT false =_; rw [sG (i:=i) ab (Bp ab)],a⟩
 refine aI aa (aU (str s) aa)<|aI aa (aU (.int .i64 i) aa)<|aI aa (eQ u9 aa aa ab)<|aI aa (bI aa aa)<|p (bq aa)<|nl<|E<|cd aa (fun Z=> ?_) fun Z=> ?_
 exact ag fun A=>ay<|A<|rt<|br<|tr<|tr<|br<|tr<|aX aa<|⟨by show bT false =_; rw [sG (i:=i) ab (Bp ab)],a⟩
 have aj:iR (s.getD i 0)=true :=SV ab ab
 exact aO<|bn<|q<|rg aa<|au (.int .i64 i)<|p (ad aa aa<|bX ab)<|p aB<|nl<|tn<|⟨_,ab,i+1,ab,(fun j I=>by rcases fg j i with h | h <;> first | exact hp j h | (rw [show j=i by omega]; exact aj)),a,aa,aa,aa⟩
 exact ext<|bf<|bf<|be<|O<|ag fun q=>p aB<|nl<|q<|rt<|aX aa<|⟨by show bT true =_; rw [uk (fun j I=>hp j ab)],a⟩
theorem yL (s:List UInt8) (w:World) (hs:s.length≤1048576):
 bo aw 180 (bh [str s]) w (fun v w'=>v=J0 (bA s)∧Wk w w'):=by
 refine enter func180 aa ntmps180 aa<|ag fun al=>p aB<|p aB<|p aB<|ay<|al<|ag fun ar=>e<|mW ik fun ae bg bk aP aG=> ?_
 have a4:bu bg w.heap.size 5 1 (.slice (some ⟨ae,0,none⟩) 0 0) (([]:List UInt8)).length (U8<|([]:List UInt8)):=aG _ ab
 refine ay<|ar<|ag fun av=>ay<|av<|aC fun ax=>aM<|lp (fun ah O C=> ∃ (i:Nat) (acc:List UInt8) (Z:Value),(i≤s.length∧acc.length≤i)∧(bu C w.heap.size 5 1 (Z) (acc).length<|U8<|acc)∧(Wk w C)∧(jo acc (s.drop i)=bA s)∧(O 0=str s)∧(O 6=Z)∧(O 7= .int .i64 i)∧(s.length - i=ah)) _ ⟨0,[],.slice (some ⟨ae,0,none⟩) 0 0,(by simp),a4,aP.md,aa,aa,aa,aa,aa⟩ ?_
 rintro ah O C ⟨i,acc,Z,hi,A,q,hd,a5,a6,a7,rfl⟩
 refine fx 0 a5<|fx 6 a6<|fx 7 a7 ?_
 obtain ⟨I,J,rfl⟩:=cC A
 refine aC fun az=>ag fun aA=>au (.int .i64 i)<|au (str s)<|p (cy u9 aa aa)<|p (lt aa aa)<|nl<|aA<|cd aa (fun aS=> ?_) fun aS=> ?_
 refine aO<|az<|aM<|aC fun V=>ag fun aD=>au (str s)<|au (.int .i64 i)<|p (eQ u9 aa aa ab)<|p (bI aa aa)<|nl<|aD<|cd aa (fun aT=> ?_) fun aT=> ?_
 have aR:(s.getD i 0).toNat=47:=ab
 refine aC fun G=> ?_
 have a:(fun w'=>Wk C w') C.drew:=(Md.refl _ _).drew
 exact bM (fun w'=>Wk C w') aa wide a<|bH 0 aa (.slice I acc.length J) a<|bH 2 aa (str s) a<|bH 3 aa (.int .i64 i) a<|aE 4 aa (fun _ _=>bG ((i+1:Nat):Int) aa aa<|bl ab ab) a<|aE 5 aa (fun _ _=>l7 u9 aa aa ab) a<|aE 1 aa (fun w' aQ=>mZ mX aa ((a8<|aW A aQ).2)<|aa) a<|aE 6 aa (fun _ _=>aB) a<|aE 7 aa (fun _ _=>aB) a<|aE 8 aa (fun _ _=>aB) a<|aE 9 aa (fun _ _=>aB) a<|hn aj<|G<|rt<|tr<|br<|tr<|br<|tr<|f4 aa aa aa aa aa<|⟨by rw [← hd,drop_cons 0 (by omega :i < s.length),DE aR]; rfl,Md.trans q (Md.refl _ _).drew⟩
 refine aO<|V ?_
 refine ej (fun U ac=> ∃ (k:Nat),(k < s.length∧i≤k∧k≤i+1)∧(Wk w ac)∧(bu ac w.heap.size 5 1 (.slice I acc.length J) (acc).length<|U8<|acc)∧(jo (acc++ [s.getD k 0]) (s.drop<|k+1)=bA s)∧(U 0=str s)∧(U 6= .slice I acc.length J)∧(U 7= .int .i64 k)) ?_ ?_
 refine ag fun G=>au (str s)<|au (.int .i64 i)<|p (eQ u9 aa aa ab)<|p (bI aa aa)<|nl<|G<|cd aa (fun aV=> ?_) fun aV=> ?_
 have M:(s.getD i 0).toNat=92:=ab
 refine ag fun am=>au (.int .i64 i)<|p (bG ((i+1:Nat):Int) aa aa<|bl ab ab)<|ay<|am<|aC fun an=>ag fun ao=>p mv<|au (str s)<|p (cy u9 aa aa)<|p (ge aa aa)<|nl<|ao<|cd aa (fun aX=> ?_) fun aX=> ?_
 exact ag fun E=>p aB<|p aB<|p aB<|ay<|E<|rt<|tr<|tr<|br<|tr<|br<|tr<|f4 aa aa aa aa aa<|⟨by rw [← hd,drop_cons 0 (by omega :i < s.length),gV ab,DB M]; rfl,q⟩
 refine aO<|an<|ag fun E=>au (str s)<|p mv<|p (eQ u9 aa aa ab)<|p (dj aa aa)<|p mv<|gs (t:=37) aa (fun a0=> ?_) fun a0=> ?_
 refine aI aa (aU (str s) aa)<|aI aa mv<|aI aa (eQ u9 aa aa ab)<|aI aa (dj aa aa)<|p (bB aa)<|p mv<|gs (t:=43) aa (fun a1=> ?_) fun a1=> ?_
 refine aI aa (aU (str s) aa)<|aI aa mv<|aI aa (eQ u9 aa aa ab)<|aI aa (dj aa aa)<|p (bB aa)<|nl<|E<|cd aa (fun aY=> ?_) fun aY=> ?_
 exact ag fun aq=>p aB<|p aB<|p aB<|ay<|aq<|rt<|tr<|br<|tr<|br<|tr<|f4 aa aa aa aa aa<|⟨by rw [← hd,drop_cons 0 (by omega :i < s.length),drop_cons 0 (by omega :i+1 < s.length),DC M (by rw [k8]; exact decide_eq_false ab)]; rfl,q⟩
 exact aO<|tn<|⟨i+1,ab,q,A,(by rw [← hd,drop_cons 0 (by omega :i < s.length),drop_cons 0 (by omega :i+1 < s.length),vI M (by rw [k8]; exact decide_eq_true ab)]),aa,aa,aa⟩
 exact aH aa<|aH aa<|aH aa<|aH aa<|p (bq aa)<|nl<|E<|cf aa<|aO<|tn<|⟨i+1,ab,q,A,(by rw [← hd,drop_cons 0 (by omega :i < s.length),drop_cons 0 (by omega :i+1 < s.length),vI M (by rw [k8]; exact decide_eq_true ab)]),aa,aa,aa⟩
 exact aH aa<|aH aa<|aH aa<|aH aa<|p (bq aa)<|p mv<|aH aa<|aH aa<|aH aa<|aH aa<|p (bq aa)<|nl<|E<|cf aa<|aO<|tn<|⟨i+1,ab,q,A,(by rw [← hd,drop_cons 0 (by omega :i < s.length),drop_cons 0 (by omega :i+1 < s.length),vI M (by rw [k8]; exact decide_eq_true ab)]),aa,aa,aa⟩
 exact aO<|tn<|⟨i,ab,q,A,(by rw [← hd,drop_cons 0 (by omega :i < s.length),DD ab ab]),aa,aa,aa⟩
 rintro U ac ⟨k,hk,aL,ak,aZ,a9,ba,bb⟩
 refine fx 0 a9<|fx 6 ba<|fx 7 bb<|ag fun G=>au (.slice I acc.length J)<|au (str s)<|au (.int .i64 k)<|p (eQ u9 aa aa ab)<|e<|fU ik aa aa fun bi bd bj Y aF=> ?_
 have ai:Wk w bd:=Md.trans aL Y.md
 refine e<|ap ik (aW ak Y.md) aa (by have :=ai.size; omega) aa (aJ.dZ aF) (aa) (aa) ab ab fun bc bs a2 aN bp bm=> ?_
 have aK:=Wk.own ai (aW ak Y.md) aN<|cB _
 have a3:=qD a2
 exact ay<|G<|rg aa<|au (.int .i64 k)<|p (bG ((k+1:Nat):Int) aa aa<|bl ab ab)<|p aB<|nl<|bn<|tn<|⟨_,ab,k+1,acc++ [s.getD k 0],bc,(by rw [bL,e5]; omega),a3,aK,aZ,aa,aa,aa,aa⟩
 refine ext<|bf<|bf<|be<|ax<|ag fun V=>au (.slice I acc.length J)<|p (mZ mX aa ((a8 A).2)<|aa)<|p aB<|p aB<|p aB<|ay<|V<|rt<|f4 aa aa aa aa aa ?_
 exact ⟨by rw [← hd,gV ab,ze]; rfl,q⟩
theorem WZ (s:List UInt8) (w:World) (hs:s.length≤1048576):
 bo aw 177 (bh [str s]) w (fun v w'=>v= .tuple #[str (letE s).1,.int .i64 (letE s).2]∧Wk w w'):=by
 refine enter func177 aa ntmps177 aa<|ag fun aS=>p aB<|ay<|aS<|ag fun aY=>au (str s)<|e<|cl uq (vj s _ hs) aa fun v10 bE a9=> ?_
 obtain ⟨rfl,ai⟩:=a9
 refine ay<|aY<|aC fun aZ=>ag fun aN=>au (str s)<|p (cy u9 aa aa)<|p (bI aa aa)<|p mv<|gs (t:=14) aa (fun ax=> ?_) fun ax=> ?_
 exact aH aa<|aH aa<|p (bB aa)<|nl<|aN<|ct aa<|ag fun V=>p aB<|ay<|V<|rt<|tr<|f2 aa aa aa<|⟨by show gz #[str [],.int .i64 21]=_; unfold letE; rw [if_pos (.inl<|wg.1 ab)]; rfl,ai⟩
 refine aI aa mv<|aI aa (no aa)<|p (bq aa)<|nl<|aN<|cb aa (fun ak=> ?_) fun ak=> ?_
 exact ag fun V=>p aB<|ay<|V<|rt<|tr<|f2 aa aa aa<|⟨by show gz #[str [],.int .i64 21]=_; unfold letE; rw [if_pos (.inr<|by simpa using ak)]; rfl,ai⟩
 refine aO<|aZ<|ag fun V=>e<|mW ik fun aP aR bC a7 a5=> ?_
 have bl:bu aR w.heap.size 5 1 (.slice (some ⟨aP,0,none⟩) 0 0) (([]:List UInt8)).length (U8<|([]:List UInt8)):=a5 _<|by have :=ai.size; omega
 have a6:Wk w aR:=Md.trans ai a7.md
 refine ay<|V<|aC fun a0=>ag fun a1=>p aB<|nl<|a1<|aM<|lp (fun Y an am=> ∃ (i:Nat) (aD:Value),(i≤s.length)∧(bu am w.heap.size 5 1 (aD) (lets<|s.take i).length<|U8<|lets<|s.take i)∧(Wk w am)∧(an 0=str s)∧(an 5=aD)∧(an 6= .int .i64 i)∧(s.length - i=Y)) _ ⟨0,.slice (some ⟨aP,0,none⟩) 0 0,ab,bl,a6,aa,aa,aa,aa⟩ ?_
 rintro Y an am ⟨i,aD,hi,A,Z,bm,bp,br,rfl⟩
 refine fx 0 bm<|fx 5 bp<|fx 6 br ?_
 obtain ⟨C,E,rfl⟩:=cC A
 have bi:=Cn<|s.take i
 rw [dT] at bi
 refine aC fun a2=>ag fun a3=>au (.int .i64 i)<|au (str s)<|p (cy u9 aa aa)<|p (lt aa aa)<|nl<|a3<|cd aa (fun bd=> ?_) fun bd=> ?_
 refine aO<|a2<|aC fun M=>aM<|ag fun aT=>p aB<|nl<|aT<|aC fun aK=>ag fun aV=>ay<|aV<|aM ?_
 refine lp (fun Y O ah=> ∃ (j:Nat) (ob:Bool),(j≤(lets<|s.take i).length)∧(ob=decide (s.getD i 0∈(lets<|s.take i).take j))∧(Wk am ah)∧(O 0=str s)∧(O 5= .slice C (lets<|s.take i).length E)∧(O 6= .int .i64 i)∧(O 7= .bool ob)∧(O 8= .int .i64 j)∧((lets<|s.take i).length - j=Y)) _ ⟨0,false,ab,aa,(Md.refl _ _),aa,aa,aa,aa,aa,aa⟩ ?_
 rintro Y O ah ⟨j,ob,bD,al,a,bs,bt,bv,bw,bx,rfl⟩
 refine fx 0 bs<|fx 5 bt<|fx 6 bv<|fx 7 bw<|fx 8 bx<|aC fun aX=>ag fun aL=>au (.int .i64 j)<|au (.slice C (lets<|s.take i).length E)<|p (bK mK aa aa)<|p (lt aa aa)<|p mv<|gs (t:=29) aa (fun bj=> ?_) fun bj=> ?_
 refine aI aa (aU (.bool ob) aa)<|aI aa (no aa)<|p (bB aa)<|nl<|aL<|cb aa (fun av=> ?_) fun av=> ?_
 have bk:¬s.getD i 0∈(lets<|s.take i).take j:=of_decide_eq_false<|by rw [← al]; simpa using av
 refine aO<|aX<|aC fun U=>aM ?_
 have q:(fun w'=>Wk ah w') ah.drew:=(Md.refl _ _).drew
 exact bM (fun w'=>Wk ah w') aa wide q<|bH 0 aa (.slice C (lets<|s.take i).length E) q<|bH 1 aa (.int .i64 j) q<|aE 2 aa (fun _ _=>ba lX aa aa ab<|aJ.ok ((a8<|aW A a).2)<|pN ab) q<|aE 3 aa (fun w' bb=>ld o8 aa<|Wk.aQ bb<|pM (i:=j) (a8<|aW A a).2 ab) q<|bH 4 aa (str s) q<|bH 5 aa (.int .i64 i) q<|aE 6 aa (fun _ _=>eQ u9 aa aa ab) q<|aE 7 aa (fun _ _=>bI aa aa) q<|aE 8 aa (fun _ _=>aB) q<|hn aj<|bn<|U<|rg aa<|au (.int .i64 j)<|p (ad aa aa<|bX ab)<|p aB<|nl<|tn<|⟨_,ab,j+1,decide (((lets<|s.take i).getD j 0).toNat=((s.getD i 0).toNat:Int)),ab,(decide_eq_decide.2<|by rw [Vz ab]; constructor <;> intro h <;> first | exact .inr (kX.1 ab) | (rcases h with h | h <;> first | exact absurd h bk | (rw [h]))),(Md.trans a (Md.refl _ _).drew),aa,aa,aa,aa,aa,aa⟩
 have ae:ob=decide (s.getD i 0∈lets (s.take i)):=by
  have h1:ob=true :=by simpa using av
  rw [h1] at al
  rw [h1]; exact (decide_eq_true<|Nc<|of_decide_eq_true al.symm).symm
 refine ext<|bf<|bf<|be<|aK<|ag fun U=>au (.bool ob)<|p (no aa)<|nl<|U<|cb aa (fun I=> ?_) fun I=> ?_
 have J:¬s.getD i 0∈lets (s.take i):=of_decide_eq_false<|by rw [← ae]; simpa using I
 refine rg aa<|au (.slice C (lets<|s.take i).length E)<|au (str s)<|au (.int .i64 i)<|p (eQ u9 aa aa ab)<|e<|fU ik aa aa fun a4 aG bc G ao=> ?_
 have ac:Wk w aG:=Md.trans (Md.trans Z a) G.md
 refine e<|ap ik (aW (aW A a) G.md) aa (by have :=ac.size; omega) aa (aJ.dZ ao) (aa) (aa) ab ab fun aF bA az ar bz bg=> ?_
 have aq:=Wk.own ac (aW (aW A a) G.md) ar<|cB _
 have aA:=qD az
 exact p aB<|nl<|bn<|M<|rg aa<|au (.int .i64 i)<|p (ad aa aa<|bX ab)<|p aB<|nl<|tn<|⟨_,ab,i+1,aF,ab,(by rw [qy ab,if_neg J]; exact aA),aq,aa,aa,aa,aa⟩
 have J:s.getD i 0∈lets (s.take i):=of_decide_eq_true<|by rw [← ae]; simpa using I
 exact aO<|bn<|M<|rg aa<|au (.int .i64 i)<|p (ad aa aa<|bX ab)<|p aB<|nl<|tn<|⟨_,ab,i+1,.slice C (lets<|s.take i).length E,ab,(by rw [qy ab,if_pos J]; exact aW A a),(Md.trans Z a),aa,aa,aa,aa⟩
 have ae:ob=decide (s.getD i 0∈lets (s.take i)):=by rw [al,eN ab]
 refine aH aa<|aH aa<|p (bq aa)<|nl<|aL<|cf aa<|ext<|bf<|bf<|be<|aK<|ag fun U=>au (.bool ob)<|p (no aa)<|nl<|U<|cb aa (fun I=> ?_) fun I=> ?_
 have J:¬s.getD i 0∈lets (s.take i):=of_decide_eq_false<|by rw [← ae]; simpa using I
 refine rg aa<|au (.slice C (lets<|s.take i).length E)<|au (str s)<|au (.int .i64 i)<|p (eQ u9 aa aa ab)<|e<|fU ik aa aa fun a4 aG bc G ao=> ?_
 have ac:Wk w aG:=Md.trans (Md.trans Z a) G.md
 refine e<|ap ik (aW (aW A a) G.md) aa (by have :=ac.size; omega) aa (aJ.dZ ao) (aa) (aa) ab ab fun aF bA az ar bz bg=> ?_
 have aq:=Wk.own ac (aW (aW A a) G.md) ar<|cB _
 have aA:=qD az
 exact p aB<|nl<|bn<|M<|rg aa<|au (.int .i64 i)<|p (ad aa aa<|bX ab)<|p aB<|nl<|tn<|⟨_,ab,i+1,aF,ab,(by rw [qy ab,if_neg J]; exact aA),aq,aa,aa,aa,aa⟩
 have J:s.getD i 0∈lets (s.take i):=of_decide_eq_true<|by rw [← ae]; simpa using I
 exact aO<|bn<|M<|rg aa<|au (.int .i64 i)<|p (ad aa aa<|bX ab)<|p aB<|nl<|tn<|⟨_,ab,i+1,.slice C (lets<|s.take i).length E,ab,(by rw [qy ab,if_pos J]; exact aW A a),(Md.trans Z a),aa,aa,aa,aa⟩
 exact ext<|bf<|bf<|be<|a0<|ag fun M=>au (.slice C (lets<|s.take i).length E)<|p (mZ mX aa ((a8 A).2)<|aa)<|p aB<|ay<|M<|rt<|f2 aa aa aa<|⟨by show gz #[str (lets<|s.take i),.int .i64 0]=_; unfold letE; rw [if_neg (fun h=>h.elim (fun h=>by rw [h] at ax; exact ax aa) fun h=>by rw [h] at ak; cases ak),show s.take i=s from eN ab]; rfl,Z⟩
end Go.Hb
section
namespace Go.Hb
open Go.Hb.iu
theorem Yq {L:List Nat} (h:¬L.length≤64) (h2:L.length≤65) {M:List Nat} (h1:L=M.take 65) (x:Nat):L=(M++ [x]).take 65:=by
 have h3:=congrArg jy h1
 rw [dT] at h3
 rw [List.take_append_of_le_length ab,← h1]
theorem Yr {L:List Nat} (h:L.length≤64) {M:List Nat} (h1:L=M.take 65) (x:Nat):L++ [x]=(M++ [x]).take 65:=by
 have h3:=congrArg jy h1
 rw [dT] at h3
 rw [eN (by rw [bL,e5]; omega)]
 rw [eN ab] at h1; rw [h1]
theorem YJ {l out:List Nat} {nx:Int} (h:p6 l out nx) (q:nx < 65536):out.length≤65536:=by
 have h1:∀ x∈out,x < 65536:=fun x a=>by have :=((h.2 x).1 a).2; omega
 have h2:out.Nodup:=h.1.imp fun i=>by omega
 have h3:=List.Nodup.length_le_of_subset h2 fun x a=>List.mem_range.2<|h1 x a
 simpa using h3
theorem C5 (b:UInt8) (w:World):
 bo aw 273 (bh [.int .u8 b.toNat]) w (fun v w'=>v= .bool (jh b)∧Wk w w'):=by
 refine enter func273 aa ntmps273 aa<|ag fun i=>ay<|i<|ag fun a=>au (.int .u8 b.toNat)<|p (ge aa aa)<|p mv<|gs (t:=5) aa (fun C=> ?_) fun C=> ?_
 refine aI aa (aU (.int .u8 b.toNat) aa)<|aI aa (le aa aa)<|p (bB aa)<|p mv<|gs (t:=9) aa (fun E=> ?_) fun E=> ?_
 refine aI aa (aU (.int .u8 b.toNat) aa)<|aI aa (dj aa aa)<|p (bB aa)<|p mv<|gs (t:=13) aa (fun q=> ?_) fun q=> ?_
 refine aI aa (aU (.int .u8 b.toNat) aa)<|aI aa (dj aa aa)<|p (bB aa)<|p mv<|gs (t:=17) aa (fun A=> ?_) fun A=> ?_
 exact aI aa (aU (.int .u8 b.toNat) aa)<|aI aa (dj aa aa)<|p (bB aa)<|ay<|a<|rt<|aX aa<|⟨by show bT (decide _)=_; rw [oI]; exact bv (by constructor <;> intro h <;> first | exact ⟨ab,ab,ab,ab,h⟩ | exact h.2.2.2.2),Md.refl _ _⟩
 exact aH aa<|aH aa<|p (bq aa)<|ay<|a<|rt<|aX aa<|⟨by show bT false =_; rw [oI,decide_eq_false ab],Md.refl _ _⟩
 exact aH aa<|aH aa<|p (bq aa)<|p mv<|aH aa<|aH aa<|p (bq aa)<|p aB<|nl<|a<|rt<|aX aa<|⟨by show bT false =_; rw [oI,decide_eq_false ab],Md.refl _ _⟩
 exact aH aa<|aH aa<|p (bq aa)<|p mv<|aH aa<|aH aa<|p (bq aa)<|p mv<|aH aa<|aH aa<|p (bq aa)<|ay<|a<|rt<|aX aa<|⟨by show bT false =_; rw [oI,decide_eq_false ab],Md.refl _ _⟩
 exact aH aa<|aH aa<|p (bq aa)<|p mv<|aH aa<|aH aa<|p (bq aa)<|p mv<|aH aa<|aH aa<|p (bq aa)<|p mv<|aH aa<|aH aa<|p (bq aa)<|p aB<|nl<|a<|rt<|aX aa<|⟨by show bT false =_; rw [oI,decide_eq_false ab],Md.refl _ _⟩
theorem LK (kind:Nat) (s:List UInt8) (w:World) (hk:kind=1∨kind=2∨kind=3) (hs:s.length≤1048576):
 bo aw 258 (bh [ak kind,str s]) w (fun v w'=>v=bP (eI kind s)∧Wk w w'):=by
 refine enter func258 aa ntmps258 aa<|ag fun ah=>ay<|ah<|aC fun al=>ag fun am=>au (ak kind)<|nl<|am<|aM<|ag fun an=>p (bI aa aa)<|p aB<|nl<|an<|cd aa (fun av=> ?_) fun av=> ?_
 refine aC fun M=>ag fun q=>au (str s)<|p (cy u9 aa aa)<|p (dj aa aa)<|p mv<|gs (t:=15) aa (fun aD=> ?_) fun aD=> ?_
 exact aH aa<|aH aa<|aH aa<|aH aa<|p (bB aa)<|nl<|q<|ct aa<|ag fun i=>ay<|i<|rt<|tr<|br<|tr<|aX aa<|⟨by rw [sT ab (fun h=>by omega) (fun h=>by omega)]; rfl,Md.refl _ _⟩
 refine aI aa (aU (str s) aa)<|aI aa (jd 0 u9 aa aa ab)<|eg aa aa aa<|cl AD (C5 (s.getD 0 0) _) aa fun aG aK ao=> ?_
 obtain ⟨rfl,Z⟩:=ao
 refine aI aa (no aa)<|p (bq aa)<|nl<|q<|cb aa (fun G=> ?_) fun G=> ?_
 exact ag fun i=>ay<|i<|rt<|tr<|br<|tr<|aX aa<|⟨by rw [sT ab (fun h=>by rw [h.2.2] at G; cases G) (fun h=>by omega)]; rfl,Z⟩
 exact aO<|M<|ag fun i=>au (str s)<|p (jd 0 u9 aa aa ab)<|p (lG u3 pO aa<|bX<|by have :=iV (s.getD 0 0); omega)<|p aB<|nl<|i<|rt<|br<|tr<|aX aa<|⟨by rw [Hs ⟨ab,ab,by simpa using G⟩]; rfl,Z⟩
 refine ag fun M=>p (bI aa aa)<|ay<|M<|cd aa (fun ax=> ?_) fun ax=> ?_
 refine aC fun q=>ag fun i=>au (str s)<|p (cy u9 aa aa)<|p (dj aa aa)<|nl<|i<|cd aa (fun aA=> ?_) fun aA=> ?_
 exact ag fun C=>ay<|C<|rt<|tr<|br<|tr<|aX aa<|⟨by rw [sT ab (fun h=>by omega) (fun h=>by omega)]; rfl,Md.refl _ _⟩
 refine aO<|q<|ag fun C=>au (str s)<|p (jd 0 u9 aa aa ab)<|e<|cl AD (C5 (s.getD 0 0) _) aa fun v31 aL ap=> ?_
 obtain ⟨rfl,O⟩:=ap
 refine ay<|C<|ag fun E=>au (str s)<|p (jd 1 u9 aa aa ab)<|e<|cl AD (C5 (s.getD 1 0) _) aa fun aJ V aq=> ?_
 obtain ⟨rfl,U⟩:=aq
 refine ay<|E<|aC fun ai=>ag fun Y=>p mv<|p (no aa)<|p mv<|gb (t:=37) aa (fun J=> ?_) fun J=> ?_
 exact aH aa<|aH aa<|p (bB aa)<|nl<|Y<|ct aa<|ag fun A=>ay<|A<|rt<|tr<|br<|tr<|aX aa<|⟨by rw [sT ab (fun h=>by omega) (fun h=>by rw [h.2.2.1] at J; cases J)]; rfl,Md.trans O U⟩
 refine aI aa mv<|aI aa (no aa)<|p (bq aa)<|nl<|Y<|cb aa (fun I=> ?_) fun I=> ?_
 exact ag fun A=>ay<|A<|rt<|tr<|br<|tr<|aX aa<|⟨by rw [sT ab (fun h=>by omega) (fun h=>by rw [h.2.2.2] at I; cases I)]; rfl,Md.trans O U⟩
 refine aO<|ai<|aC fun A=> ?_
 have g0:=iV<|s.getD 0 0
 have g1:=iV<|s.getD 1 0
 have a:(fun w'=>Wk V w') V.drew:=(Md.refl _ _).drew
 exact bM (fun w'=>Wk V w') aa wide a<|bH 0 aa (str s) a<|aE 1 aa (fun _ _=>jd 0 u9 aa aa ab) a<|aE 2 aa (fun _ _=>lG u3 pO aa<|bX<|by have :=iV (s.getD 0 0); omega) a<|aE 3 aa (fun _ _=>oE ((256 *(s.getD 0 0).toNat:Nat):Int) aa aa<|bl ab ab) a<|bH 4 aa (str s) a<|aE 5 aa (fun _ _=>jd 1 u9 aa aa ab) a<|aE 6 aa (fun _ _=>lG u3 pO aa<|bX<|by have :=iV (s.getD 1 0); omega) a<|aE 7 aa (fun _ _=>bG ((256 *(s.getD 0 0).toNat+(s.getD 1 0).toNat:Nat):Int) aa aa<|bl ab ab) a<|aE 8 aa (fun _ _=>aB) a<|hn aj<|A<|rt<|br<|tr<|aX aa<|⟨by rw [Ht ⟨ab,ab,by simpa using J,by simpa using I⟩]; rfl,(Md.trans O U).drew⟩
 refine aO<|bn<|al<|ag fun q=>au (str s)<|e<|cl q8 (rI s 65535 _ hs az) aa fun v51 aN ar=> ?_
 obtain ⟨rfl,ac⟩:=ar
 have aF:=Jz s
 refine p mv<|p (xt aa aa)<|p (xt aa aa)<|p aB<|ay<|q<|aC fun i=>ag fun C=>p mv<|p (dj aa aa)<|nl<|C<|cd aa (fun ae=> ?_) fun ae=> ?_
 exact ag fun E=>ay<|E<|rt<|tr<|aX aa<|⟨by rw [Bs ab]; unfold bP; exact iv (by have h1:=ae; unfold eb at*; split <;> first | rfl | (rename_i h2; rw [if_neg h2] at h1; exact absurd aa h1)),ac⟩
 exact aO<|i<|ag fun E=>p mv<|ay<|E<|rt<|aX aa<|⟨by rw [Bs ab]; rfl,ac⟩
theorem W9 (kind:Nat) (s:List UInt8) (w:World) (hk:kind=1∨kind=2∨kind=3) (hs:s.length≤1048576):
 bo aw 232 (bh [ak kind,str s]) w (fun v w'=>v= .tuple #[bP (gN kind s).1,ak ((gN kind s).2)]∧Wk w w'):=by
 refine enter func232 aa ntmps232 aa<|ag fun q=>p aB<|ay<|q<|aC fun A=>aC fun C=>rg aa<|au (ak kind)<|p (lt aa aa)<|p mv<|gs (t:=9) aa (fun h=>absurd h ab) fun U=>aI aa (aU (ak kind) aa)<|aI aa (gt aa aa)<|p (bq aa)<|nl<|C<|cd aa (fun h=>absurd h ab) fun O=>aO<|A<|ag fun E=>au (ak kind)<|au (str s)<|e<|cl FM (LK kind s _ hk hs) aa fun V Y J=> ?_
 obtain ⟨rfl,i⟩:=J
 refine ay<|E<|aC fun G=>ag fun I=>p mv<|p (bI aa aa)<|nl<|I<|cd aa (fun M=> ?_) fun M=> ?_
 exact ag fun a=>p aB<|ay<|a<|rt<|tr<|f2 aa aa aa<|⟨by unfold gN; rw [if_pos (show eI kind s=0 by omega)]; rfl,i⟩
 exact aO<|G<|ag fun a=>p mv<|p aB<|p aB<|nl<|a<|rt<|f2 aa aa aa<|⟨by unfold gN; rw [if_neg (show ¬eI kind s=0 by omega)]; rfl,i⟩
theorem Wj (kind:Nat) (s:List UInt8) (w:World) (hk:kind=1∨kind=2∨kind=3) (hs:s.length≤1048576):
 bo aw 261 (bh [ak kind,str s]) w (fun v w'=>bu w' w.heap.size 9 1 (v) (dH kind s).length ((dH kind s).map str)∧Wk w w'):=by
 refine enter func261 aa ntmps261 aa<|ag fun aG=>ay<|aG<|ag fun aK=>p aB<|nl<|aK<|aC fun aL=>ag fun aN=>au (ak kind)<|p (bI aa aa)<|nl<|aN<|cd aa (fun aY=> ?_) fun aY=> ?_
 refine ag fun ah=>ay<|ah<|aC fun ai=>ag fun aj=>ay<|aj<|aM<|lp (fun V M E=> ∃ (i A:Nat) (a:List (List UInt8)) (q:Value),((i≤s.length∧A≤i∧a.length≤i∧a++fG 44 ((s.take i).drop A) (s.drop i)=fG 44 [] s)∨(i=s.length+1∧a=fG 44 [] s))∧(bu E w.heap.size 9 1 (q) (a).length<|(a).map str)∧(Wk w E)∧(M 0=ak kind)∧(M 1=str s)∧(M 5=q)∧(M 6=ak A)∧(M 7=ak i)∧(s.length+1 - i=V)) _ ⟨0,0,[],.slice none 0 0,(.inl ⟨ab,ab,by simp,aa⟩),(dx _ _ _ _),(Md.refl _ _),aa,aa,aa,aa,aa,aa⟩ ?_
 rintro V M E ⟨i,A,a,q,hi,C,I,a8,a9,ba,bb,bc,rfl⟩
 refine fx 0 a8<|fx 1 a9<|fx 5 ba<|fx 6 bb<|fx 7 bc<|aC fun al=>ag fun U=>au (ak i)<|au (str s)<|p (cy u9 aa aa)<|p (le aa aa)<|nl<|U<|cd aa (fun aZ=> ?_) fun aZ=> ?_
 refine aO<|al<|aC fun G=>aM<|aC fun ac=> ?_
 obtain ⟨bE,bH,bF,hd⟩:=hi.resolve_right fun h=>by omega
 refine rg aa<|au (ak i)<|au (str s)<|p (cy u9 aa aa)<|p (bI aa aa)<|p mv<|gs (t:=22) aa (fun a3=> ?_) fun a3=> ?_
 have bM:a++ [(s.take i).drop A]=fG 44 [] s:=by rw [← hd,gV (show s.length≤i by omega),fG]
 refine aH aa<|aH aa<|aH aa<|aH aa<|p (bB aa)<|nl<|ac<|ct aa<|ag fun ae=>au (q)<|au (str s)<|au (ak A)<|au (ak i)<|p (l6 u9 aa aa aa ab)<|e<|fU fN aa aa fun aP aD aV J am=> ?_
 have Y:Wk w aD:=Md.trans I J.md
 refine e<|ap fN (aW C J.md) aa (by have :=Y.size; omega) aa (aJ.dZ am) (aa) (aa) ab ab fun aA bw ax ao bt a2=> ?_
 have an:=Wk.own Y (aW C J.md) ao<|cB _
 have az:=mB ax
 exact ay<|ae<|rg aa<|au (ak i)<|p (bG ((i+1:Nat):Int) aa aa<|bl ab ab)<|p aB<|nl<|bn<|G<|rg aa<|au (ak i)<|p (bG ((i+1:Nat):Int) aa aa<|bl ab ab)<|p aB<|nl<|tn<|⟨_,ab,i+1,i+1,a++ [(s.take i).drop A],aA,(.inr ⟨ab,bM⟩),az,an,aa,aa,aa,aa,aa,aa⟩
 refine aI aa (aU (str s) aa)<|aI aa (aU (ak i) aa)<|aI aa (eQ u9 aa aa ab)<|aI aa (bI aa aa)<|p (bq aa)<|nl<|ac<|cd aa (fun ar=> ?_) fun ar=> ?_
 have bM:a++ [(s.take i).drop A]++fG 44 [] (s.drop<|i+1)=fG 44 [] s:=by rw [← hd,drop_cons 0 (show i < s.length by omega),fG,if_pos (kX.1 (by have bA:(44:UInt8).toNat=44:=rfl; omega)),dF]; rfl
 refine ag fun ae=>au (q)<|au (str s)<|au (ak A)<|au (ak i)<|p (l6 u9 aa aa aa ab)<|e<|fU fN aa aa fun aP aD aV J am=> ?_
 have Y:Wk w aD:=Md.trans I J.md
 refine e<|ap fN (aW C J.md) aa (by have :=Y.size; omega) aa (aJ.dZ am) (aa) (aa) ab ab fun aA bw ax ao bt a2=> ?_
 have an:=Wk.own Y (aW C J.md) ao<|cB _
 have az:=mB ax
 exact ay<|ae<|rg aa<|au (ak i)<|p (bG ((i+1:Nat):Int) aa aa<|bl ab ab)<|p aB<|nl<|bn<|G<|rg aa<|au (ak i)<|p (bG ((i+1:Nat):Int) aa aa<|bl ab ab)<|p aB<|nl<|tn<|⟨_,ab,i+1,i+1,a++ [(s.take i).drop A],aA,(.inl ⟨ab,ab,(by rw [bL,e5]; omega),by rw [show (s.take<|i+1).drop (i+1)= [] from gV (by rw [dT]; omega)]; exact bM⟩),az,an,aa,aa,aa,aa,aa,aa⟩
 have bM:a++fG 44 ((s.take<|i+1).drop A) (s.drop<|i+1)=fG 44 [] s:=by rw [← hd,drop_cons 0 (show i < s.length by omega),fG,if_neg (fun h=>by rw [h] at ar; exact ar rfl),← vt 0 ab ab]
 exact aO<|bn<|G<|rg aa<|au (ak i)<|p (bG ((i+1:Nat):Int) aa aa<|bl ab ab)<|p aB<|nl<|tn<|⟨_,ab,i+1,A,a,q,(.inl ⟨ab,ab,ab,bM⟩),C,I,aa,aa,aa,aa,aa,aa⟩
 refine ext<|bf<|bf<|be<|ai<|ag fun G=>au (q)<|p (cO (q) aa)<|nl<|G<|rt<|tr<|aX aa ?_
 have av:a=dH kind s:=by unfold dH; rw [if_pos ab]; rcases hi with h | h <;> first | omega | exact h.2
 exact ⟨by rw [← av]; exact C,I⟩
 refine aO<|aL<|aC fun ah=>ag fun ai=>ay<|ai<|aM<|lp (fun V Z E=> ∃ (i:Nat) (a:List (List UInt8)) (q:Value),(i≤s.length+kind∧a.length≤i)∧(a++chunks kind (s.drop i)=chunks kind s)∧(bu E w.heap.size 9 1 (q) (a).length<|(a).map str)∧(Wk w E)∧(Z 0=ak kind)∧(Z 1=str s)∧(Z 5=q)∧(Z 8=ak i)∧(s.length - i=V)) _ ⟨0,[],.slice none 0 0,(by simp),aa,(dx _ _ _ _),(Md.refl _ _),aa,aa,aa,aa,aa⟩ ?_
 rintro V Z E ⟨i,a,q,hi,hd,C,I,bd,bg,bi,bj,rfl⟩
 refine fx 0 bd<|fx 1 bg<|fx 5 bi<|fx 8 bj<|aC fun aj=>ag fun al=>au (ak i)<|au (str s)<|p (cy u9 aa aa)<|p (lt aa aa)<|nl<|al<|cd aa (fun a0=> ?_) fun a0=> ?_
 have a5:s.drop i≠[]:=fun h=>by have :=congrArg jy h; rw [fP,ga] at this; omega
 refine aO<|aj<|aC fun U=>aM<|ag fun G=>au (ak i)<|au (ak kind)<|p (bG ((i+kind:Nat):Int) aa aa<|bl ab ab)<|ay<|G ?_
 refine ej (fun O aF=> ∃ (j:Nat),(i≤j∧j≤s.length∧(s.take j).drop i=(s.drop i).take kind)∧(aF=E)∧(O 0=ak kind)∧(O 1=str s)∧(O 5=q)∧(O 8=ak i)∧(O 9=ak j)) ?_ ?_
 refine ag fun ac=>p mv<|au (str s)<|p (cy u9 aa aa)<|p (gt aa aa)<|nl<|ac<|cd aa (fun a1=> ?_) fun a1=> ?_
 exact rg aa<|au (str s)<|p (cy u9 aa aa)<|p aB<|nl<|tn<|⟨s.length,(by refine ⟨ab,ab,?_⟩; rw [List.take_length,eN (by rw [fP]; omega)]),aa,aa,aa,aa,aa,aa⟩
 exact aO<|tn<|⟨i+kind,(by refine ⟨ab,ab,?_⟩; rw [r5,Nat.add_sub_cancel_left]),aa,aa,aa,aa,aa,aa⟩
 rintro O aF ⟨j,a4,aS,bk,bm,bp,br,bs⟩
 refine fx 0 bk<|fx 1 bm<|fx 5 bp<|fx 8 br<|fx 9 bs ?_
 subst aS
 refine rg aa<|au (q)<|au (str s)<|au (ak i)<|au (ak j)<|p (l6 u9 aa aa aa ab)<|e<|fU fN aa aa fun bz bx bC aq aQ=> ?_
 have aE:Wk w bx:=Md.trans I aq.md
 refine e<|ap fN (aW C aq.md) aa (by have :=aE.size; omega) aa (aJ.dZ aQ) (aa) (aa) ab ab fun bv bK a6 aT bJ bD=> ?_
 have aR:=Wk.own aE (aW C aq.md) aT<|cB _
 have a7:=mB a6
 exact p aB<|nl<|bn<|U<|rg aa<|au (ak i)<|au (ak kind)<|p (bG ((i+kind:Nat):Int) aa aa<|bl ab ab)<|p aB<|nl<|tn<|⟨_,ab,i+kind,a++ [(s.drop i).take kind],bv,(by rw [bL,e5]; omega),(by rw [← hd,xj (k:=kind) ab a5,dF,r4]; rfl),(by rw [← a4.2.2]; exact a7),aR,aa,aa,aa,aa,aa⟩
 refine ext<|bf<|bf<|be<|ah<|ag fun U=>au (q)<|p (cO (q) aa)<|nl<|U<|rt<|aX aa ?_
 have av:a=dH kind s:=by unfold dH; rw [if_neg ab,← hd,gV ab,xk,ek]
 exact ⟨by rw [← av]; exact C,I⟩
theorem W8 (l:List Nat) (a:Option Addr) (c:Nat) (w:World) (A:aJ w.heap a (l.map bP)) (bb:l.length≤1048576) (aQ:∀ x∈l,x < 65536):
 bo aw 262 (bh [.slice a l.length c]) w (fun v w'=>bu w' w.heap.size 3 1 (v) (kh l).length ((kh l).map bP)∧Wk w w'):=by
 refine enter func262 aa ntmps262 aa<|ag fun am=>ay<|am<|ag fun an=>p aB<|nl<|an<|ag fun ao=>ay<|ao<|aM<|lp (fun O V U=> ∃ (out:List Nat) (last:Int) (G:Value),(-1≤last∧last < 65536)∧(p6 l out last)∧(bu U w.heap.size 3 1 (G) (out).length<|(out).map bP)∧(Wk w U)∧(out.length≤65536)∧(V 0= .slice a l.length c)∧(V 3=G)∧(V 4= .int .i64 last)∧((65536 - last).toNat=O)) _ ⟨[],-1,.slice none 0 0,(az),(p6.nil l),(dx _ _ _ _),(Md.refl _ _),(jD _),aa,aa,aa,aa⟩ ?_
 rintro O V U ⟨out,last,G,bc,al,ae,aE,bi,aT,aV,aY,rfl⟩
 refine fx 0 aT<|fx 3 aV<|fx 4 aY<|aM<|ag fun aq=>ay<|aq<|aC fun ar=>ag fun av=>ay<|av<|aM<|lp (fun O J ah=> ∃ (i:Nat) (nx:Int),(i≤l.length∧ -1≤nx)∧(k0 l last i nx)∧(Wk w ah)∧(Wk U ah)∧(J 0= .slice a l.length c)∧(J 3=G)∧(J 4= .int .i64 last)∧(J 5= .int .i64 nx)∧(J 6=ak i)∧(l.length - i=O)) _ ⟨0,-1,(ab),(k0.nil l last),aE,(Md.refl _ _),aa,aa,aa,aa,aa,aa⟩ ?_
 rintro O J ah ⟨i,nx,hi,C,q,E,aZ,a0,a1,a2,a3,rfl⟩
 refine fx 0 aZ<|fx 3 a0<|fx 4 a1<|fx 5 a2<|fx 6 a3<|aC fun ax=>ag fun aA=>au (ak i)<|au (.slice a l.length c)<|p (bK ng aa aa)<|p (lt aa aa)<|nl<|aA<|cd aa (fun aK=> ?_) fun aK=> ?_
 refine aO<|ax<|aC fun I=>aM<|ag fun M=>au (.slice a l.length c)<|au (ak i)<|p (ba kb aa aa ab<|aJ.ok (A.wk q)<|bS ab)<|p (ld bC aa<|yq (f:=bP) (i:=i) 0 (A.wk q) ab)<|au (.int .i64 last)<|p (gt aa aa)<|p mv<|gs (t:=19) aa (fun aN=> ?_) fun aN=> ?_
 refine aI aa (aU (.int .i64 nx) aa)<|aI aa (lt aa aa)<|aI aa mv<|gs (t:=22) aa (fun aP=> ?_) fun aP=> ?_
 exact aH aa<|aH aa<|aH aa<|aH aa<|aH aa<|aH aa<|aI aa (bB aa)<|p (bB aa)<|nl<|M<|ct aa<|rg aa<|au (.slice a l.length c)<|au (ak i)<|p (ba kb aa aa ab<|aJ.ok (A.wk q)<|bS ab)<|p (ld bC aa<|yq (f:=bP) (i:=i) 0 (A.wk q) ab)<|p aB<|nl<|bn<|I<|rg aa<|au (ak i)<|p (bG ((i+1:Nat):Int) aa aa<|bl ab ab)<|p aB<|nl<|tn<|⟨_,ab,i+1,((l.getD i 0:Nat):Int),(ab),(C.take ab ab<|.inl ab),q,E,aa,aa,aa,aa,aa,aa⟩
 refine aI aa (aU (.slice a l.length c) aa)<|aI aa (aU (ak i) aa)<|aI aa (ba kb aa aa ab<|aJ.ok (A.wk q)<|bS ab)<|aI aa (ld bC aa<|yq (f:=bP) (i:=i) 0 (A.wk q) ab)<|aI aa (aU (.int .i64 nx) aa)<|aI aa (lt aa aa)<|aI aa (bq aa)<|p (bB aa)<|nl<|M<|cd aa (fun aL=> ?_) fun aL=> ?_
 exact rg aa<|au (.slice a l.length c)<|au (ak i)<|p (ba kb aa aa ab<|aJ.ok (A.wk q)<|bS ab)<|p (ld bC aa<|yq (f:=bP) (i:=i) 0 (A.wk q) ab)<|p aB<|nl<|bn<|I<|rg aa<|au (ak i)<|p (bG ((i+1:Nat):Int) aa aa<|bl ab ab)<|p aB<|nl<|tn<|⟨_,ab,i+1,((l.getD i 0:Nat):Int),(ab),(C.take ab ab<|.inr ab),q,E,aa,aa,aa,aa,aa,aa⟩
 exact aO<|bn<|I<|rg aa<|au (ak i)<|p (bG ((i+1:Nat):Int) aa aa<|bl ab ab)<|p aB<|nl<|tn<|⟨_,ab,i+1,nx,(ab),(C.skip<|.inr ⟨ab,ab⟩),q,E,aa,aa,aa,aa,aa,aa⟩
 exact aH aa<|aH aa<|aH aa<|eh aa<|eh aa<|eh aa<|eh aa<|eh aa<|eh aa<|aH aa<|p (bq aa)<|nl<|M<|cf aa<|aO<|bn<|I<|rg aa<|au (ak i)<|p (bG ((i+1:Nat):Int) aa aa<|bl ab ab)<|p aB<|nl<|tn<|⟨_,ab,i+1,nx,(ab),(C.skip<|.inl ab),q,E,aa,aa,aa,aa,aa,aa⟩
 refine ext<|bf<|bf<|be<|ar<|aC fun I=>ag fun M=>au (.int .i64 nx)<|p (lt aa aa)<|nl<|M<|cd aa (fun ac=> ?_) fun ac=> ?_
 refine ag fun Y=>au (G)<|p (cO (G) aa)<|nl<|Y<|rt<|tr<|br<|tr<|br<|aX aa ?_
 have a4:=k0.done (by rw [show i=l.length by omega] at C; exact C) al ac
 exact ⟨by rw [← a4]; exact aW ae E,q⟩
 obtain ⟨m,hm,aR,bd,aj⟩:=k0.more (by rw [show i=l.length by omega] at C; exact C) al ac
 have bg:=aQ m hm
 refine aO<|I<|ag fun Y=>au (G)<|au (.int .i64 nx)<|e<|fU nd aa aa fun a7 a6 a8 Z aD=> ?_
 have ai:Wk w a6:=Md.trans q Z.md
 refine e<|ap nd (aW (aW ae E) Z.md) aa (by have :=ai.size; omega) aa (aJ.dZ aD) (aa) (aa) ab ab fun a5 bk aS aG bj a9=> ?_
 have aF:=Wk.own ai (aW (aW ae E) Z.md) aG<|cB _
 exact ay<|Y<|rg aa<|au (.int .i64 nx)<|p (cO (.int .i64 nx) aa)<|nl<|bn<|tn<|⟨_,ab,out++ [m],nx,a5,(ab),aj,(by rw [bL,iq]; subst aR; exact aS),aF,(YJ aj ab),aa,aa,aa,aa⟩
theorem Kj (kind:Nat) (s:List UInt8) (w:World) (hk:kind=1∨kind=2∨kind=3) (hs:s.length≤1048576):
 bo aw 235 (bh [ak kind,str s]) w (fun v w'=>(∃ a,v= .tuple #[a,ak ((ea kind s).2)]∧bu w' w.heap.size 3 1 (a) ((ea kind s).1).length (((ea kind s).1).map bP))∧Wk w w'):=by
 refine enter func235 aa ntmps235 aa<|ag fun aF=>p aB<|ay<|aF<|aC fun aL=>aC fun aN=>rg aa<|au (ak kind)<|p (lt aa aa)<|p mv<|gs (t:=12) aa (fun h=>absurd h ab) fun bx=>aI aa (aU (ak kind) aa)<|aI aa (gt aa aa)<|p (bq aa)<|nl<|aN<|cd aa (fun h=>absurd h ab) fun bv=>aO<|aL<|aC fun aP=>ag fun aQ=>au (str s)<|p (cy u9 aa aa)<|p (bI aa aa)<|nl<|aQ<|cd aa (fun C=> ?_) fun C=> ?_
 refine ag fun am=>p aB<|ay<|am<|rt<|tr<|f2 aa aa aa ?_
 have aD:s= []:=fS ab
 exact ⟨⟨.slice none 0 0,by unfold ea; rw [if_pos aD]; rfl,by unfold ea; rw [if_pos aD]; exact dx _ _ _ _⟩,Md.refl _ _⟩
 refine aO<|aP<|ag fun am=>ay<|am<|aC fun aR=>rg aa<|au (ak kind)<|au (str s)<|e<|cl Pw (Wj kind s _ hk hs) aa fun v21 ai a0=> ?_
 obtain ⟨az,ae⟩:=a0
 obtain ⟨Z,ac,rfl⟩:=cC az
 have ax:=(a8 az).2
 have bz:=JQ (kind:=kind) (s:=s) ab
 refine ay<|aR<|aC fun aS=>ag fun aT=>p aB<|nl<|aT<|aM<|lp (fun ar M aq=> ∃ (i:Nat) (fs:List Nat) (an:Value),(i≤(dH kind s).length∧fs.length≤65)∧(¬∃ x∈(dH kind s).take i,eI kind x=0)∧(fs=(((dH kind s).take i).map<|eI kind).take 65)∧(bu aq ai.heap.size 3 1 (an) (fs).length<|(fs).map bP)∧(Wk ai aq)∧(M 0=ak kind)∧(M 1=str s)∧(M 6=an)∧(M 7= .slice Z (dH kind s).length ac)∧(M 8=ak i)∧((dH kind s).length - i=ar)) _ ⟨0,[],.slice none 0 0,(by simp),(by rintro ⟨x,ah,_⟩; simp at ah),aa,(dx _ _ _ _),(Md.refl _ _),aa,aa,aa,aa,aa,aa⟩ ?_
 rintro ar M aq ⟨i,fs,an,hi,V,U,J,q,bb,bc,bd,bg,bi,rfl⟩
 refine fx 0 bb<|fx 1 bc<|fx 6 bd<|fx 7 bg<|fx 8 bi<|aC fun aG=>ag fun aH=>au (ak i)<|au (.slice Z (dH kind s).length ac)<|p (bK eV aa aa)<|p (lt aa aa)<|nl<|aH<|cd aa (fun a3=> ?_) fun a3=> ?_
 refine aO<|aG<|aC fun Y=>aM<|aC fun aj=> ?_
 obtain ⟨E,G,rfl⟩:=cC J
 refine rg aa<|au (ak kind)<|au (.slice Z (dH kind s).length ac)<|au (ak i)<|p (ba cI aa aa ab<|aJ.ok (ax.wk q)<|bS ab)<|p (ld bU aa<|cg.get (i:=i) (ax.wk q) ab)<|e<|cl FM (LK kind ((dH kind s).getD i []) _ hk<|by have :=JR (kind:=kind) ab (ya (d:= []) (show i < (dH kind s).length by omega)); omega) aa fun bB bC a1=> ?_
 obtain ⟨rfl,I⟩:=a1
 refine ay<|aj<|aC fun O=>ag fun aK=>p mv<|p (bI aa aa)<|nl<|aK<|cd aa (fun a4=> ?_) fun a4=> ?_
 refine ag fun al=>p aB<|ay<|al<|rt<|tr<|br<|tr<|tr<|br<|tr<|f2 aa aa aa ?_
 have A:ea kind s=([],31):=by unfold ea; rw [if_neg (fun h=>by rw [h] at C; exact C rfl),if_pos ⟨_,ya (d:= []) (show i < (dH kind s).length by omega),ab⟩]
 exact ⟨⟨.slice none 0 0,by rw [A]; rfl,by rw [A]; exact dx _ _ _ _⟩,Md.trans ae<|Md.trans q I⟩
 refine aO<|O<|ag fun al=>au (.slice E fs.length G)<|p (bK ng aa aa)<|p (le aa aa)<|nl<|al<|cd aa (fun a5=> ?_) fun a5=> ?_
 refine rg aa<|au (.slice E fs.length G)<|p mv<|e<|fU nd aa aa fun bs bm bt ao aV=> ?_
 have av:Wk ai bm:=Md.trans (Md.trans q I) ao.md
 refine e<|ap nd (aW (aW J I) ao.md) aa (by have :=av.size; omega) aa (aJ.dZ aV) (aa) (aa) ab ab fun aE bp a7 aZ bA bw=> ?_
 have aX:=Wk.own av (aW (aW J I) ao.md) aZ<|cB _
 have a9:bu bp ai.heap.size 3 1 (aE) (fs++ [eI kind ((dH kind s).getD i [])]).length ((fs++ [eI kind ((dH kind s).getD i [])]).map bP):=by
  rw [bL,iq]; exact a7
 exact p aB<|nl<|bn<|Y<|rg aa<|au (ak i)<|p (bG ((i+1:Nat):Int) aa aa<|bl ab ab)<|p aB<|nl<|tn<|⟨_,ab,i+1,fs++ [eI kind ((dH kind s).getD i [])],aE,(by rw [bL,e5]; omega),(Bg ab V ab),(by rw [fH _ i [] ab,iq]; exact Yr ab U _),a9,aX,aa,aa,aa,aa,aa,aa⟩
 exact aO<|bn<|Y<|rg aa<|au (ak i)<|p (bG ((i+1:Nat):Int) aa aa<|bl ab ab)<|p aB<|nl<|tn<|⟨_,ab,i+1,fs,.slice E fs.length G,ab,(Bg ab V ab),(by rw [fH _ i [] ab,iq]; exact Yq ab ab U _),(aW J I),(Md.trans q I),aa,aa,aa,aa,aa,aa⟩
 refine ext<|bf<|bf<|be<|aS<|aC fun Y=>aC fun aj=> ?_
 obtain ⟨E,G,rfl⟩:=cC J
 have bj:(dH kind s).take i=(dH kind s):=eN ab
 rw [bj] at U V
 refine rg aa<|au (.slice Z (dH kind s).length ac)<|p (bK eV aa aa)<|p (gt aa aa)<|nl<|aj<|cd aa (fun a6=> ?_) fun a6=> ?_
 refine ag fun O=>p aB<|ay<|O<|rt<|tr<|f2 aa aa aa ?_
 have A:ea kind s=([],32):=by unfold ea; rw [if_neg (fun h=>by rw [h] at C; exact C rfl),if_neg V,if_pos ab]
 exact ⟨⟨.slice none 0 0,by rw [A]; rfl,by rw [A]; exact dx _ _ _ _⟩,Md.trans ae q⟩
 refine aO<|Y<|ag fun O=>au (.slice E fs.length G)<|e<|cl Px (W8 fs E G _ (a8 J).2 ab fun x ah=>by rw [U] at ah; obtain ⟨y,_,rfl⟩:=List.mem_map.1 (Nc ah); exact Hr _ _) aa fun bk bD a2=> ?_
 obtain ⟨aA,aY⟩:=a2
 refine p aB<|ay<|O<|rt<|f2 aa aa aa ?_
 have A:ea kind s=(kh ((dH kind s).map<|eI kind),0):=by unfold ea; rw [if_neg (fun h=>by rw [h] at C; exact C rfl),if_neg V,if_neg ab]
 rw [U,eN (by rw [fK]; omega)] at aA
 exact ⟨⟨bk,by rw [A]; rfl,by rw [A]; exact ew aA<|by have :=ae.size; have :=q.size; omega⟩,Md.trans ae<|Md.trans q aY⟩
end Go.Hb
end
section
namespace Go.Hb
open Go.Hb.od
theorem Us {l:List UInt8} {i:Nat} {x:UInt8} (h:i < l.length) (h1:¬x∈l.take i) (h2:¬((l.getD i 0).toNat:Int)=(x.toNat:Int)):¬x∈l.take (i+1):=by
 rw [fH l i 0 h,jz,j4]
 rintro (h3 | h3)
 · exact h1 h3
 · exact h2<|by rw [h3]
theorem Ur {l:List UInt8} {i:Nat} {x:UInt8} (h:i < l.length) (h2:((l.getD i 0).toNat:Int)=(x.toNat:Int)):x∈l:=by
 have e:l.getD i 0=x:=kX.1 ab
 rw [← e]; exact dV h
def ph (s:List UInt8) (i:Nat):Int:=if e8 93 (s.drop i) < 0 then -1 else ((i+(s.drop i).idxOf 93:Nat):Int)
theorem QT {s:List UInt8} {i k:Nat} (hk:i≤k∧k < s.length) (a:∀ j,i≤j→j < k→s.getD j 0≠93) (q:s.getD k 0=93):ph s i=(k:Nat):=by
 have h:=IL (x:=93) (l:=s.drop i) (i:=k - i) (by rw [fP]; omega) (fun j A=>by rw [cV,qV,← cV]; exact a _ ab ab)<|by rw [cV,qV,← cV,show i+(k - i)=k by omega]; exact q
 have h2:=rr (c:=93) (l:=s.drop i) ab
 unfold ph
 rw [if_neg ab]
 omega
theorem QU {s:List UInt8} {i:Nat} (q:∀ j,i≤j→j < s.length→s.getD j 0≠93):ph s i= -1:=by
 have h:=IM (x:=93) (l:=s.drop i) fun j a=>by rw [fP] at a; rw [cV,qV,← cV]; exact q _ ab ab
 unfold ph
 rw [if_pos ab]
theorem QS {s:List UInt8} {i:Nat} (hi:i < s.length) (q:s.getD i 0=91):(ph s i < 0↔¬(s.drop<|i+1).idxOf 93 < (s.drop<|i+1).length)∧(¬ph s i < 0→ph s i=((i+1 +(s.drop<|i+1).idxOf 93:Nat):Int)):=by
 have e:s.drop i=91::s.drop (i+1):=by rw [drop_cons 0 hi,q]
 have a:(91::s.drop (i+1)).idxOf 93=(s.drop<|i+1).idxOf 93 +1:=by rw [List.idxOf_cons]; rfl
 unfold ph e8
 rw [e,a,cT]
 by_cases h:(s.drop<|i+1).idxOf 93 < (s.drop<|i+1).length
 · rw [if_pos (show (s.drop<|i+1).idxOf 93 +1 < (s.drop<|i+1).length+1 by omega)]
   rw [if_neg ab]
   refine ⟨⟨fun h1=>by omega,fun h1=>absurd h h1⟩,fun _=>by omega⟩
 · rw [if_neg (show ¬(s.drop<|i+1).idxOf 93 +1 < (s.drop<|i+1).length+1 by omega)]
   rw [if_pos (show (-1:Int) < 0 from by decide)]
   refine ⟨⟨fun _=>h,fun _=>by decide⟩,fun h1=>absurd az h1⟩
theorem Wb {w:World} {B e:Nat} {v:Value} {l:List (List UInt8)} {x:List UInt8} (h:w.ownsRow B e 1 v (l.length+1) (l.map str++ [str x])):w.ownsRow B e 1 v (l++ [x]).length ((l++ [x]).map str):=by
 rw [bL,iq]; exact h
theorem Oy {f:UInt8→Bool} :(bytesOf fun x=> !f x).length=0↔(bytesOf f).length=256:=by
 have :=Oz f 256
 unfold bytesOf; omega
theorem I9 {h:Array Obj} {a:Option Addr} {l:List (List UInt8)} {i:Nat} (q:aJ h a (l.map str)) (hi:i < l.length):Hb.aQ h (bk a) (fo a+i*1 +0)=some (str<|l.getD i []):=cg.get (i:=i) q hi
theorem Qz {s t r:List UInt8} (h:iz s=some (t,r)):(t.length=1∨3≤t.length)∧t.length≤s.length:=by
 cases s with
 | nil=>cases h
 | cons b l=>
   simp only [iz] at h
   split at h
   · split at h
     · rename_i a
       simp only [fQ,se] at h
       obtain ⟨rfl,_⟩:=h
       simp only [cT,dT]
       omega
     · cases h
   · simp only [fQ,se] at h
     obtain ⟨rfl,_⟩:=h
     simp
theorem Rl:∀ (f:Nat) (s:List UInt8) (xs:List (List UInt8)),lW f s=some xs→∀ t∈xs,(t.length=1∨3≤t.length)∧t.length≤s.length:=by
 intro f
 induction f with
 | zero=>intro s xs h t a; simp only [lW] at h; split at h <;> first | (cases h; cases a) | cases h
 | succ f i=>
   intro s xs h t a
   simp only [lW] at h
   split at h
   · cases h; cases a
   · cases hc:iz s with
     | none=>rw [hc] at h; cases h
     | some q=>
       obtain ⟨u,r⟩:=q
       rw [hc] at h
       simp only at h
       cases hr:lW f r with
       | none=>rw [hr] at h; cases h
       | some A=>
         rw [hr] at h
         cases h
         rcases gr.1 a with rfl | a
         · exact Qz hc
         · have h1:=i r A hr t a
           have h2:=AQ hc
           exact ⟨h1.1,ab⟩
theorem Gj {s:List UInt8} :(∀ t∈(di s).1,(t.length=1∨3≤t.length)∧t.length≤s.length)∧(di s).1.length≤16:=by
 unfold di
 split
 · exact ⟨(fun t a=>by cases a),jD _⟩
 · split
   · exact ⟨(fun t a=>by cases a),jD _⟩
   · split
     · exact ⟨(fun t a=>by cases a),jD _⟩
     · rename_i xs h
       split
       · exact ⟨(fun t a=>by cases a),jD _⟩
       · exact ⟨(fun t a=>Rl _ _ _ h t a),by simp only; omega⟩
theorem GP {s:List UInt8} {k:Nat} :(s.drop k).getD 0 0=s.getD k 0:=by rw [cV,qV,← cV]; rfl
theorem E3 {s:List UInt8} {i m:Nat} (a:s.getD i 0=91) (h:i+1 +m < s.length):91::(s.drop<|i+1).take (m+1)=(s.take<|i+1 +m+1).drop i:=by
 rw [r5,drop_cons 0 (show i < s.length by omega),a,show i+1 +m+1 - i=m+1 +1 by omega,p4]
theorem VZ {s:List UInt8} {i:Nat} (h:i < s.length):(s.take<|i+1).drop i= [s.getD i 0]:=by
 rw [r5,drop_cons 0 h,show i+1 - i=0 +1 by omega,p4,List.take_zero]
theorem NR {t:List UInt8} {b:UInt8} (h:t.length=1) (h1:¬t= [46]):((t.getD 0 0).toNat:Int)=(b.toNat:Int)↔t.getD 0 0=46∨t.getD 0 0=b:=by
 match t,h with
 | [c],_=>
   simp only [lO] at*
   constructor
   · intro h2; exact .inr<|kX.1 ab
   · rintro (h2 | h2)
     · exact absurd (by rw [h2]) h1
     · rw [h2]
theorem IJ {b:UInt8} (h:(b.toNat:Int)=94):b=94:=kX.1 (by have :(94:UInt8).toNat=94:=rfl; omega)
theorem VV {b:UInt8} (h:¬(b.toNat:Int)=94):b≠94:=by rintro rfl; exact h rfl
theorem JH {l:List UInt8} {x:UInt8} (h:l.length=1) (a:l.getD 0 0=x):l= [x]:=by
 match l,h with
 | [c],_=>simp only [lO] at a; rw [a]
theorem Xz {f:UInt8→Bool} (h:¬(bytesOf f).length=256) (h1:(bytesOf f).length=1) (h2:(bytesOf f).getD 0 0=46):gR f= [91,46,93]:=by
 have e:=JH h1 h2
 have h3:¬f 93=true :=fun h4=>by have :=(E9 f 93).2 h4; rw [e] at this; simp at this
 unfold gR; rw [if_neg h,if_neg (fun h4=>h4.2.1 h2),if_neg h3,e]; rfl
theorem XA {f:UInt8→Bool} (h:¬(bytesOf f).length=256) (h1:(bytesOf f).length=1) (h2:(bytesOf f).getD 0 0=91):gR f= [91,91,93]:=by
 have e:=JH h1 h2
 have h3:¬f 93=true :=fun h4=>by have :=(E9 f 93).2 h4; rw [e] at this; simp at this
 unfold gR; rw [if_neg h,if_neg (fun h4=>h4.2.2 h2),if_neg h3,e]; rfl
theorem I3 (s:List UInt8) (b:UInt8) (w:World) (hs:s.length≤1048576):
 bo aw 263 (bh [str s,.int .u8 b.toNat]) w (fun v w'=>v= .bool (decide (b∈s))∧Wk w w'):=by
 refine enter func263 aa ntmps263 aa<|ag fun I=>ay<|I<|aC fun J=>ag fun M=>ay<|M<|aM<|lp (fun E a G=> ∃ (i:Nat),(i≤s.length)∧(¬b∈s.take i)∧(G=w)∧(a 0=str s)∧(a 1= .int .u8 b.toNat)∧(a 5=ak i)∧(s.length - i=E)) _ ⟨0,ab,(by simp),aa,aa,aa,aa,aa⟩ ?_
 rintro E a G ⟨i,hi,C,Z,ae,ah,ai,rfl⟩
 refine fx 0 ae<|fx 1 ah<|fx 5 ai ?_
 subst Z
 refine aC fun O=>ag fun U=>au (ak i)<|au (str s)<|p (cy u9 aa aa)<|p (lt aa aa)<|nl<|U<|cd aa (fun ac=> ?_) fun ac=> ?_
 refine aO<|O<|aC fun q=>aM<|ag fun V=>au (str s)<|au (ak i)<|p (eQ u9 aa aa ab)<|au (.int .u8 b.toNat)<|p (bI aa aa)<|nl<|V<|cd aa (fun A=> ?_) fun A=> ?_
 exact ag fun Y=>ay<|Y<|rt<|br<|tr<|tr<|br<|tr<|aX aa<|⟨by show bT true =_; rw [decide_eq_true (Ur ab A)],Md.refl _ _⟩
 exact aO<|bn<|q<|rg aa<|au (ak i)<|p (ad aa aa<|bX ab)<|p aB<|nl<|tn<|⟨_,ab,i+1,ab,(Us ab C A),aa,aa,aa,aa,aa⟩
 exact ext<|bf<|bf<|be<|J<|ag fun q=>p aB<|nl<|q<|rt<|aX aa<|⟨by show bT false =_; rw [eN ab] at C; rw [decide_eq_false C],Md.refl _ _⟩
theorem Ez (t:List UInt8) (b:UInt8) (w:World) (ak:t.length=1∨3≤t.length) (al:t.length≤1048576):
 bo aw 237 (bh [.agg [str t].toArray,.int .u8 b.toNat]) w (fun v w'=>v= .bool (cE t b)∧Wk w w'):=by
 refine enter func237 aa ntmps237 aa<|ag fun E=>e<|iY aa fun ah ao aj i U=>ay<|E<|ag fun G=>p (fa Te aa)<|p (ld bU aa<|U.aQ 0)<|ay<|G<|aC fun I=>ag fun J=>p mv<|p (cy u9 aa aa)<|p (bI aa aa)<|nl<|J<|cd aa (fun ae=> ?_) fun ae=> ?_
 refine ag fun a=>p mv<|p (dW aa aa)<|p mv<|gs (t:=14) aa (fun C=> ?_) fun C=> ?_
 exact aH aa<|aH aa<|aH aa<|aH aa<|p (bB aa)<|ay<|a<|rt<|tr<|aX aa<|⟨by show bT true =_; unfold cE; rw [if_pos (show t.length=1 by omega)]; rw [decide_eq_true (.inl<|by rw [C]; rfl)],i.md⟩
 exact aI aa mv<|aI aa (jd 0 u9 aa aa ab)<|aI aa (aU (.int .u8 b.toNat) aa)<|aI aa (bI aa aa)<|p (bq aa)<|ay<|a<|rt<|tr<|aX aa<|⟨by show bT (decide _)=_; unfold cE; rw [if_pos (show t.length=1 by omega)]; exact congrArg bT (decide_eq_decide.2<|NR ab C),i.md⟩
 refine aO<|I<|aC fun a=>ag fun M=>p mv<|p (jd 1 u9 aa aa ab)<|p (bI aa aa)<|nl<|M<|cd aa (fun A=> ?_) fun A=> ?_
 refine ag fun q=>p mv<|p mv<|p (cy u9 aa aa)<|p (dN ((t.length - 1:Nat):Int) aa aa<|bl ab ab)<|p (l6 u9 aa aa aa ab)<|au (.int .u8 b.toNat)<|e<|cl FO (I3 ((t.take<|t.length - 1).drop 2) b _<|by simp only [fP,dT]; omega) aa fun am ap Z=> ?_
 obtain ⟨rfl,V⟩:=Z
 exact ay<|q<|ag fun O=>p mv<|p (no aa)<|p aB<|nl<|O<|rt<|tr<|aX aa<|⟨by show bT (!decide _)=_; unfold cE; rw [if_neg (show ¬t.length=1 by omega),if_pos (kX.1 (by have ai:(94:UInt8).toNat=94:=aa; omega))],Md.trans i.md V⟩
 refine aO<|a<|ag fun q=>p mv<|p mv<|p (cy u9 aa aa)<|p (dN ((t.length - 1:Nat):Int) aa aa<|bl ab ab)<|p (l6 u9 aa aa aa ab)<|au (.int .u8 b.toNat)<|e<|cl FO (I3 ((t.take<|t.length - 1).drop 1) b _<|by simp only [fP,dT]; omega) aa fun an aq ac=> ?_
 obtain ⟨rfl,Y⟩:=ac
 exact ay<|q<|rt<|aX aa<|⟨by unfold cE; rw [if_neg (show ¬t.length=1 by omega),if_neg (fun h=>by rw [h] at A; exact A aa)]; rfl,Md.trans i.md Y⟩
theorem EA (t:List UInt8) (b:UInt8) (bi:Int) (w:World) (i:t.length=1∨3≤t.length) (q:t.length≤1048576) (a:(b.toNat:Int)=bi):bo aw 237 (bh [.agg [str t].toArray,.int .u8 bi]) w (fun v w'=>v= .bool (cE t b)∧Wk w w'):=by
 subst a; exact Ez t b w i q
theorem EB (t:List UInt8) (q:Bool) (w:World) (aT:t.length=1∨3≤t.length) (aU:t.length≤1048576):
 bo aw 304 (bh [.agg [str t].toArray,.bool q]) w (fun v w'=>bu w' w.heap.size 5 1 (v) (bytesOf fun x=>decide (cE t x=q)).length (U8<|bytesOf fun x=>decide (cE t x=q))∧Wk w w'):=by
 refine enter func304 aa ntmps304 aa<|ag fun ah=>e<|iY aa fun ar J a0 ac av=>ay<|ah<|ag fun ai=>e<|mW ik fun V aY a2 aE az=> ?_
 have aK:bu aY J.heap.size 5 1 (.slice (some ⟨V,0,none⟩) 0 0) (([]:List UInt8)).length (U8<|([]:List UInt8)):=az _ ab
 refine ay<|ai<|aC fun aj=>ag fun al=>p aB<|nl<|al<|aM<|lp (fun Y C U=> ∃ (i:Nat) (a:Value),(i≤256)∧(bu U J.heap.size 5 1 (a) (lU (fun x=>decide (cE t x=q)) i).length<|U8<|lU (fun x=>decide (cE t x=q)) i)∧(Wk J U)∧(C 1= .bool q)∧(C 2=aR ar)∧(C 5=a)∧(C 6=ak i)∧(256 - i=Y)) _ ⟨0,.slice (some ⟨V,0,none⟩) 0 0,ab,aK,aE.md,aa,aa,aa,aa,aa⟩ ?_
 rintro Y C U ⟨i,a,hi,I,G,aL,aN,aP,aS,rfl⟩
 refine fx 1 aL<|fx 2 aN<|fx 5 aP<|fx 6 aS ?_
 have a3:=qg (fun x=>decide (cE t x=q)) i
 refine aC fun am=>ag fun an=>au (ak i)<|p (lt aa aa)<|nl<|an<|cd aa (fun aG=> ?_) fun aG=> ?_
 refine aO<|am<|aC fun E=>aM<|ag fun ao=>p (c8 sw aa (aa) (show ∀ j,j < 1→Hb.aQ _ _ (0 +j)= [str t][j]? from fun j a5=>by cases j with | zero=>exact (G.B av).aQ 0 | succ j=>omega))<|au (ak i)<|p (lG u5 qK aa<|tF ab)<|e<|cl Ax (EA t (UInt8.ofNat i) _ _ aT aU<|y7 i ab) aa fun a7 a8 aF=> ?_
 obtain ⟨rfl,A⟩:=aF
 refine ay<|ao<|ag fun aq=>p mv<|au (.bool q)<|p (G2 u4 aa aa)<|nl<|aq<|cd aa (fun O=> ?_) fun O=> ?_
 refine rg aa<|au (a)<|au (ak i)<|p (lG u5 qK aa<|tF ab)<|e<|fU ik aa aa fun aZ aV a1 M ax=> ?_
 have Z:Wk J aV:=Md.trans (Md.trans G A) M.md
 refine e<|ap ik (aW (aW I A) M.md) aa (by have :=Z.size; omega) aa (aJ.dZ ax) (aa) (aa) ab ab fun v24 a9 ae aD a6 a4=> ?_
 have aA:=Wk.own Z (aW (aW I A) M.md) aD<|cB _
 rw [← y7 i ab] at ae
 have aI:=qD ae
 exact p aB<|nl<|bn<|E<|rg aa<|au (ak i)<|p (bG ((i+1:Nat):Int) aa aa<|bl ab ab)<|p aB<|nl<|tn<|⟨_,ab,i+1,v24,ab,(by rw [sF,if_pos (decide_eq_true O)]; exact aI),aA,aa,aa,aa,aa,aa⟩
 exact aO<|bn<|E<|rg aa<|au (ak i)<|p (bG ((i+1:Nat):Int) aa aa<|bl ab ab)<|p aB<|nl<|tn<|⟨_,ab,i+1,a,ab,(by rw [sF,if_neg (fun h=>O<|of_decide_eq_true h),ek]; exact aW I A),(Md.trans G A),aa,aa,aa,aa,aa⟩
 refine ext<|bf<|bf<|be<|aj<|ag fun E=>au (a)<|p (cO (a) aa)<|nl<|E<|rt<|aX aa ?_
 have aH:i=256:=ab
 subst aH
 exact ⟨ew I ac.md.size,Md.trans ac.md G⟩
theorem XB (t:List UInt8) (w:World) (aI:t.length=1∨3≤t.length) (aK:t.length≤1048576):
 bo aw 294 (bh [.agg [str t].toArray]) w (fun v w'=>v=str (gR<|cE t)∧Wk w w'):=by
 have cn:(bytesOf<|cE t).length≤256:=qg _ 256
 have cm:(bytesOf fun x=> !cE t x).length≤256:=qg _ 256
 have bN:=Oy (f:=cE t)
 refine enter func294 aa ntmps294 aa ?_
 refine aC fun bb=> ?_
 refine rg aa ?_
 refine e<|iY aa fun bs cr ce bE aY=> ?_
 refine p aB ?_
 refine nl ?_
 refine bb ?_
 refine aC fun bk=> ?_
 refine rg aa ?_
 refine p (c8 sw aa (aa) (show ∀ j,j < 1→Hb.aQ _ _ (0 +j)= [str t][j]? from fun j a5=>by cases j with | zero=>exact (aY).aQ 0 | succ j=>omega)) ?_
 refine e<|cl FV (EB t true _ aI aK) aa fun v10 cs bH=> ?_
 obtain ⟨aF,a0⟩:=bH
 rw [E8 (g:=cE t) (fun x=>by cases cE t x <;> rfl)] at aF
 obtain ⟨Y,Z,rfl⟩:=cC aF
 have a:=(a8 aF).2
 have aZ:=a0.B aY
 refine p aB ?_
 refine nl ?_
 refine bk ?_
 refine aC fun bm=> ?_
 refine rg aa ?_
 refine p (c8 sw aa (aa) (show ∀ j,j < 1→Hb.aQ _ _ (0 +j)= [str t][j]? from fun j a5=>by cases j with | zero=>exact (aZ).aQ 0 | succ j=>omega)) ?_
 refine e<|cl FV (EB t false _ aI aK) aa fun v12 b3 bJ=> ?_
 obtain ⟨aG,aq⟩:=bJ
 rw [E8 (g:=fun x=> !cE t x) (fun x=>by cases cE t x <;> rfl)] at aG
 obtain ⟨b7,ca,rfl⟩:=cC aG
 have a:=a.wk aq
 have bt:=aq.B aZ
 have ae:Wk w b3:=Md.trans bE.md<|Md.trans a0 aq
 refine p aB ?_
 refine nl ?_
 refine bm ?_
 refine aC fun bp=> ?_
 refine aC fun bq=> ?_
 refine rg aa ?_
 refine p mv ?_
 refine p (bK mK aa aa) ?_
 refine p (bI aa aa) ?_
 refine nl ?_
 refine bq ?_
 refine cd aa (fun bO=> ?_) fun bO=> ?_
 refine aC fun am=> ?_
 refine rg aa ?_
 refine p aB ?_
 refine nl ?_
 refine am ?_
 refine rt ?_
 refine tr ?_
 refine aX aa ?_
 exact ⟨by unfold gR; rw [if_pos (bN.1 ab)]; rfl,ae⟩
 refine aO ?_
 refine bp ?_
 refine aC fun am=> ?_
 refine aC fun br=> ?_
 refine rg aa ?_
 refine p mv ?_
 refine p (bK mK aa aa) ?_
 refine p (bI aa aa) ?_
 refine nl ?_
 refine br ?_
 refine cd aa (fun bP=> ?_) fun bP=> ?_
 refine aC fun an=> ?_
 refine aC fun ao=> ?_
 refine rg aa ?_
 refine p mv ?_
 refine p (ba lX aa aa ab<|aJ.ok (a)<|pN ab) ?_
 refine p (ld o8 aa<|pM (i:=0) a ab) ?_
 refine p (bI aa aa) ?_
 refine nl ?_
 refine ao ?_
 refine cd aa (fun ay=> ?_) fun ay=> ?_
 refine aC fun O=> ?_
 refine rg aa ?_
 refine p aB ?_
 refine nl ?_
 refine O ?_
 refine rt ?_
 refine tr ?_
 refine tr ?_
 refine aX aa ?_
 exact ⟨by rw [Xz ab ab (Cg ay)]; rfl,ae⟩
 refine aO ?_
 refine an ?_
 refine aC fun O=> ?_
 refine aC fun U=> ?_
 refine rg aa ?_
 refine p mv ?_
 refine p (ba lX aa aa ab<|aJ.ok (a)<|pN ab) ?_
 refine p (ld o8 aa<|pM (i:=0) a ab) ?_
 refine p (bI aa aa) ?_
 refine nl ?_
 refine U ?_
 refine cd aa (fun aA=> ?_) fun aA=> ?_
 refine aC fun V=> ?_
 refine rg aa ?_
 refine p aB ?_
 refine nl ?_
 refine V ?_
 refine rt ?_
 refine tr ?_
 refine tr ?_
 refine aX aa ?_
 exact ⟨by rw [XA ab ab (yh aA)]; rfl,ae⟩
 refine aO ?_
 refine O ?_
 refine aC fun V=> ?_
 refine rg aa ?_
 refine au (.slice Y (bytesOf<|cE t).length Z) ?_
 refine p (mZ mX aa (a)<|aa) ?_
 refine p aB ?_
 refine nl ?_
 refine V ?_
 refine rt ?_
 refine tr ?_
 refine aX aa ?_
 exact ⟨by unfold gR; rw [if_neg (show ¬(bytesOf<|cE t).length=256 by omega),if_pos ⟨ab,CD ay,vb aA⟩]; rfl,ae⟩
 refine aO ?_
 refine am ?_
 refine aC fun an=> ?_
 refine rg aa ?_
 refine p (c8 sw aa (aa) (show ∀ j,j < 1→Hb.aQ _ _ (0 +j)= [str t][j]? from fun j a5=>by cases j with | zero=>exact (bt).aQ 0 | succ j=>omega)) ?_
 refine e<|cl Ax (EA t 93 _ _ aI aK aa) aa fun v30 J bM=> ?_
 obtain ⟨rfl,G⟩:=bM
 have ar:=Md.trans ae G
 refine p aB ?_
 refine nl ?_
 refine an ?_
 refine aC fun ao=> ?_
 refine aC fun O=> ?_
 refine rg aa ?_
 refine p mv ?_
 refine nl ?_
 refine O ?_
 refine cb aa (fun aD=> ?_) fun aD=> ?_
 refine aC fun U=> ?_
 refine rg aa ?_
 refine p mv ?_
 refine p (mZ mX aa ((a8<|aW aG G).2)<|aa) ?_
 refine p (cc aa aa<|by simp only [cT,ga]; omega) ?_
 refine p (cc aa aa<|by simp only [cT,ga,bL]; omega) ?_
 refine p aB ?_
 refine nl ?_
 refine U ?_
 refine rt ?_
 refine tr ?_
 refine aX aa ?_
 exact ⟨by unfold gR; rw [if_neg (show ¬(bytesOf<|cE t).length=256 by omega),if_neg (show ¬((bytesOf<|cE t).length=1∧_) from fun h=>by omega),if_pos aD]; rfl,ar⟩
 refine aO ?_
 refine ao ?_
 refine aC fun U=> ?_
 refine rg aa ?_
 refine e<|mW ik fun aS b4 cf bF bv=> ?_
 have bV:bu b4 J.heap.size 5 1 (.slice (some ⟨aS,0,none⟩) 0 0) (([]:List UInt8)).length (U8<|([]:List UInt8)):=bv _ ab
 refine p aB ?_
 refine nl ?_
 refine U ?_
 refine aC fun V=> ?_
 refine rg aa ?_
 refine p aB ?_
 refine nl ?_
 refine V ?_
 refine aC fun bc=> ?_
 refine aC fun bd=> ?_
 refine rg aa ?_
 refine p aB ?_
 refine nl ?_
 refine bd ?_
 refine aM ?_
 refine lp (fun aV M aN=> ∃ (i:Nat) (ob:Bool) (ai:Value),(i≤(bytesOf<|cE t).length)∧(ob=decide (94∈(bytesOf<|cE t).take i))∧(bu aN J.heap.size 5 1 (ai) (((bytesOf<|cE t).take i).filter fun b=>decide (b≠94)).length<|U8<|((bytesOf<|cE t).take i).filter fun b=>decide (b≠94))∧(Wk J aN)∧(M 1=aR bs)∧(M 3= .slice Y (bytesOf<|cE t).length Z)∧(M 6=ai)∧(M 7= .bool ob)∧(M 8=ak i)∧((bytesOf<|cE t).length - i=aV)) _ ⟨0,false,.slice (some ⟨aS,0,none⟩) 0 0,ab,aa,bV,bF.md,aa,aa,aa,aa,aa,aa⟩ ?_
 rintro aV M aN ⟨i,ob,ai,hi,I,A,q,bW,bX,bY,bZ,b0,rfl⟩
 refine fx 1 bW<|fx 3 bX<|fx 6 bY<|fx 7 bZ<|fx 8 b0 ?_
 have ck:(((bytesOf<|cE t).take i).filter fun b=>decide (b≠94)).length≤256:=gd (List.length_filter_le _ _)<|by rw [dT]; omega
 refine aC fun bg=> ?_
 refine aC fun bi=> ?_
 refine rg aa ?_
 refine au (ak i) ?_
 refine au (.slice Y (bytesOf<|cE t).length Z) ?_
 refine p (bK mK aa aa) ?_
 refine p (lt aa aa) ?_
 refine nl ?_
 refine bi ?_
 refine cd aa (fun bQ=> ?_) fun bQ=> ?_
 refine aO ?_
 refine bg ?_
 refine aC fun E=> ?_
 refine aM ?_
 refine aC fun bj=> ?_
 refine rg aa ?_
 refine au (.slice Y (bytesOf<|cE t).length Z) ?_
 refine au (ak i) ?_
 refine p (ba lX aa aa ab<|aJ.ok (a.wk<|Md.trans G q)<|pN ab) ?_
 refine p (ld o8 aa<|pM (i:=i) (a.wk<|Md.trans G q) ab) ?_
 refine p (bI aa aa) ?_
 refine nl ?_
 refine bj ?_
 refine cd aa (fun aE=> ?_) fun aE=> ?_
 have ac:=IJ aE
 refine rg aa ?_
 refine p aB ?_
 refine nl ?_
 refine bn ?_
 refine E ?_
 refine rg aa ?_
 refine au (ak i) ?_
 refine p (bG ((i+1:Nat):Int) aa aa<|bl ab ab) ?_
 refine p aB ?_
 refine nl ?_
 refine tn ?_
 exact ⟨_,ab,i+1,true,ai,ab,(by rw [fH _ i 0 ab,ac,decide_eq_true (by simp)]),(by rw [fH _ i 0 ab,ac,MY,List.filter_cons_of_neg (by simp),M0,ek]; exact A),q,aa,aa,aa,aa,aa,aa⟩
 have ac:=VV aE
 refine rg aa ?_
 refine au (ai) ?_
 refine au (.slice Y (bytesOf<|cE t).length Z) ?_
 refine au (ak i) ?_
 refine p (ba lX aa aa ab<|aJ.ok (a.wk<|Md.trans G q)<|pN ab) ?_
 refine p (ld o8 aa<|pM (i:=i) (a.wk<|Md.trans G q) ab) ?_
 refine e<|fU ik aa aa fun b8 b5 cg av bw=> ?_
 have a1:Wk J b5:=Md.trans q av.md
 refine e<|ap ik (aW A av.md) aa (by have :=a1.size; omega) aa (aJ.dZ bw) (aa) (aa) ab ab fun b2 ct bS bC co ci=> ?_
 have bz:=Wk.own a1 (aW A av.md) bC<|cB _
 have bT:=qD bS
 refine p aB ?_
 refine nl ?_
 refine bn ?_
 refine E ?_
 refine rg aa ?_
 refine au (ak i) ?_
 refine p (bG ((i+1:Nat):Int) aa aa<|bl ab ab) ?_
 refine p aB ?_
 refine nl ?_
 refine tn ?_
 exact ⟨_,ab,i+1,ob,b2,ab,(by rw [fH _ i 0 ab,I]; exact decide_eq_decide.2<|by rw [jz,j4]; exact ⟨.inl,fun h=>h.elim id fun h=>absurd h.symm ac⟩),(by rw [fH _ i 0 ab,MY,List.filter_cons_of_pos (by simpa using ac),M0]; exact bT),bz,aa,aa,aa,aa,aa,aa⟩
 refine ext ?_
 refine bf ?_
 refine bf ?_
 refine be ?_
 refine bc ?_
 refine ej (fun a9 aL=> ∃ (aj:Option Addr) (C al:Nat),(((bytesOf<|cE t).filter (fun b=>decide (b≠94))++(if 94∈(bytesOf<|cE t) then [94] else [])).length=C)∧(bu aL J.heap.size 5 1 (.slice aj C al) C<|U8<|(bytesOf<|cE t).filter (fun b=>decide (b≠94))++(if 94∈(bytesOf<|cE t) then [94] else []))∧(Wk w aL)∧(C≤300)∧(a9 6= .slice aj C al)) ?_ ?_
 refine aC fun E=> ?_
 obtain ⟨aP,aT,rfl⟩:=cC A
 have ah:(bytesOf<|cE t).take i=bytesOf (cE t):=eN ab
 rw [ah] at I
 refine rg aa ?_
 refine au (.bool ob) ?_
 refine nl ?_
 refine E ?_
 refine cb aa (fun ag=> ?_) fun ag=> ?_
 refine rg aa ?_
 refine p (aU (.slice aP (((bytesOf<|cE t).take i).filter fun b=>decide (b≠94)).length aT) aa) ?_
 refine e<|fU ik aa aa fun b9 b6 ch ax bx=> ?_
 have a3:Wk J b6:=Md.trans q ax.md
 refine e<|ap ik (aW A ax.md) aa (by have :=a3.size; omega) aa (aJ.dZ bx) (aa) (aa) ab ab fun cq cu aH bD cp cj=> ?_
 have bA:=Wk.own a3 (aW A ax.md) bD<|cB _
 rw [ah] at aH
 have a7:=qD (x:=94) aH
 obtain ⟨a2,c2,rfl⟩:=cC aH
 refine p aB ?_
 refine nl ?_
 refine tn ?_
 exact ⟨a2,_,c2,(by rw [if_pos (of_decide_eq_true<|I ▸ ag),bL]; rfl),(by rw [if_pos (of_decide_eq_true<|I ▸ ag)]; rw [bL] at a7; exact a7),(Md.trans ar bA),(by rw [← ah]; omega),aa⟩
 refine aO ?_
 refine tn ?_
 exact ⟨aP,_,aT,(by rw [if_neg (of_decide_eq_false<|I ▸ ag),ek,ah]),(by rw [if_neg (of_decide_eq_false<|I ▸ ag),ek]; have h3:=A; rw [ah] at h3 ⊢; exact h3),(Md.trans ar q),(ab),aa⟩
 rintro a9 aL ⟨aj,C,al,a6,bU,bB,bR,b1⟩
 refine fx 6 b1 ?_
 have a4:((bytesOf<|cE t).filter (fun b=>decide (b≠94))++(if 94∈(bytesOf<|cE t) then [94] else [])).length≤300:=by rw [a6]; exact bR
 refine aC fun E=> ?_
 refine rg aa ?_
 refine au (.slice aj C al) ?_
 refine p (mZ mX aa ((a8 bU).2)<|a6) ?_
 refine p (cc aa aa<|gd (zH a4 _) az) ?_
 refine p (cc aa aa<|by rw [bL]; exact gd (Nat.add_le_add_right (zH a4 _) _) az) ?_
 refine p aB ?_
 refine nl ?_
 refine E ?_
 refine rt ?_
 refine aX aa ?_
 exact ⟨by unfold gR; rw [if_neg (show ¬(bytesOf<|cE t).length=256 by omega),if_neg (show ¬((bytesOf<|cE t).length=1∧_) from fun h=>by omega),if_neg (show ¬cE t 93=true from by rw [aD]; exact Bool.noConfusion)]; rfl,bB⟩
theorem QO (s:List UInt8) (i:Nat) (w:World) (hs:s.length≤1048576) (hi:i≤s.length):
 bo aw 236 (bh [str s,ak i]) w (fun v w'=>v= .int .i64 (ph s i)∧Wk w w'):=by
 refine enter func236 aa ntmps236 aa<|ag fun J=>ay<|J<|aC fun M=>aM<|lp (fun G E I=> ∃ (k:Nat),(i≤k∧k≤s.length)∧(∀ j,i≤j→j < k→s.getD j 0≠93)∧(I=w)∧(E 0=str s)∧(E 1=ak k)∧(s.length - k=G)) _ ⟨i,ab,(fun j h1 h2=>by omega),aa,aa,aa,aa⟩ ?_
 rintro G E I ⟨k,hk,C,Z,ae,ah,rfl⟩
 refine fx 0 ae<|fx 1 ah ?_
 subst Z
 refine aC fun O=>ag fun U=>au (ak k)<|au (str s)<|p (cy u9 aa aa)<|p (lt aa aa)<|nl<|U<|cd aa (fun ac=> ?_) fun ac=> ?_
 refine aO<|O<|aM<|aC fun a=>ag fun V=>au (str s)<|au (ak k)<|p (eQ u9 aa aa ab)<|p (bI aa aa)<|nl<|V<|cd aa (fun A=> ?_) fun A=> ?_
 have q:s.getD k 0=93:=kX.1 (by have :(93:UInt8).toNat=93:=rfl; omega)
 exact ag fun Y=>au (ak k)<|p (cO (ak k) aa)<|nl<|Y<|rt<|tr<|br<|tr<|br<|tr<|aX aa<|⟨by rw [QT (k:=k) ab C q]; rfl,Md.refl _ _⟩
 have q:s.getD k 0≠93:=fun h=>by rw [h] at A; exact A rfl
 exact aO<|a<|rg aa<|au (ak k)<|p (bG ((k+1:Nat):Int) aa aa<|bl ab ab)<|p aB<|nl<|bn<|tn<|⟨_,ab,k+1,ab,(fun j h1 h2=>by rcases fg j k with h | h <;> first | exact C j h1 h | (rw [show j=k by omega]; exact q)),aa,aa,aa,aa⟩
 exact ext<|bf<|bf<|be<|M<|ag fun a=>p aB<|nl<|a<|rt<|aX aa<|⟨by rw [QU (fun j h1 h2=>C j h1 ab)]; rfl,Md.refl _ _⟩
theorem JY (s:List UInt8) (w:World) (hs:s.length≤1048576):
 bo aw 186 (bh [str s]) w (fun v w'=>(∃ a,v= .tuple #[a,ak ((di s).2)]∧bu w' w.heap.size 349 1 (a) ((di s).1).length (((di s).1).map str))∧Wk w w'):=by
 refine enter func186 aa ntmps186 aa<|ag fun aS=>p aB<|ay<|aS<|aC fun aV=>aC fun aG=>rg aa<|au (str s)<|p (cy u9 aa aa)<|p (bI aa aa)<|p mv<|gs (t:=11) aa (fun C=> ?_) fun C=> ?_
 exact aH aa<|aH aa<|aH aa<|p (bB aa)<|nl<|aG<|ct aa<|aC fun ai=>rg aa<|p aB<|ay<|ai<|rt<|tr<|f2 aa aa aa<|⟨⟨.slice none 0 0,by unfold di; rw [if_pos (.inl<|fS ab)]; rfl,by unfold di; rw [if_pos (.inl<|fS ab)]; exact dx _ _ _ _⟩,Md.refl _ _⟩
 refine aI aa (aU (str s) aa)<|aI aa (cy u9 aa aa)<|aI aa (gt aa aa)<|p (bq aa)<|nl<|aG<|cd aa (fun a6=> ?_) fun a6=> ?_
 exact ag fun ai=>p aB<|ay<|ai<|rt<|tr<|f2 aa aa aa<|⟨⟨.slice none 0 0,by unfold di; rw [if_pos (.inr ab)]; rfl,by unfold di; rw [if_pos (.inr ab)]; exact dx _ _ _ _⟩,Md.refl _ _⟩
 refine aO<|aV<|ag fun ai=>ay<|ai<|aC fun aX=>ag fun aY=>au (str s)<|p (dW aa aa)<|nl<|aY<|cd aa (fun J=> ?_) fun J=> ?_
 refine ag fun aq=>p mv<|p aB<|ay<|aq<|rt<|tr<|f2 aa aa aa ?_
 have aQ:¬(s= []∨512 < s.length):=fun h=>h.elim (fun h=>by rw [h] at C; exact C rfl) fun h=>by omega
 exact ⟨⟨.slice none 0 0,by unfold di; rw [if_neg aQ,if_pos J]; rfl,by unfold di; rw [if_neg aQ,if_pos J]; exact dx _ _ _ _⟩,Md.refl _ _⟩
 refine aO<|aX<|ag fun aq=>ay<|aq<|aC fun aZ=>aM<|lp (fun aK an aE=> ∃ (i:Nat) (A:List (List UInt8)) (Z:Value),(i≤s.length∧A.length≤i)∧(ko s i A)∧(bu aE w.heap.size 349 1 (Z) (A).length<|(A).map str)∧(Wk w aE)∧(an 0=str s)∧(an 4=Z)∧(an 5=ak i)∧(s.length - i=aK)) _ ⟨0,[],.slice none 0 0,(by simp),(ko.start s),(dx _ _ _ _),(Md.refl _ _),aa,aa,aa,aa⟩ ?_
 rintro aK an aE ⟨i,A,Z,hi,Y,aj,G,bk,bm,bp,rfl⟩
 refine fx 0 bk<|fx 4 bm<|fx 5 bp<|aC fun a0=>ag fun aT=>au (ak i)<|au (str s)<|p (cy u9 aa aa)<|p (lt aa aa)<|nl<|aT<|cd aa (fun a7=> ?_) fun a7=> ?_
 refine aO<|a0<|aM<|ag fun ao=>au (ak i)<|p (bG ((i+1:Nat):Int) aa aa<|bl ab ab)<|p aB<|nl<|ao ?_
 refine ej (fun al aD=> ∃ (j:Nat),(i < j∧j≤s.length)∧(ko s j<|A++ [(s.take j).drop i])∧(bu aD w.heap.size 349 1 (Z) (A).length<|(A).map str)∧(Wk w aD)∧(al 0=str s)∧(al 4=Z)∧(al 5=ak i)∧(al 6=ak j)) ?_ ?_
 refine ag fun ac=>au (str s)<|au (ak i)<|p (eQ u9 aa aa ab)<|p (bI aa aa)<|nl<|ac<|cd aa (fun az=> ?_) fun az=> ?_
 refine ag fun ae=>au (str s)<|au (ak i)<|e<|cl Pk (QO s i _ hs ab) aa fun v31 bM a5=> ?_
 obtain ⟨rfl,U⟩:=a5
 have I:=yh az
 obtain ⟨aN,a9⟩:=QS (show i < s.length by omega) I
 have V:=drop_cons (l:=s) (i:=i) 0 ab
 have bE:(s.drop<|i+1).length=s.length - (i+1):=fP
 refine ay<|ae<|aC fun aF=>ag fun am=>p mv<|p (lt aa aa)<|p mv<|gs (t:=34) aa (fun ba=> ?_) fun ba=> ?_
 have E:iz (s.drop i)=none:=by
  rw [V,I]
  exact xm aa fun h=>(aN.1 ab) h.1
 have M:=Y.bad ab E
 refine aH aa<|aH aa<|aH aa<|aH aa<|p (bB aa)<|p mv<|aH aa<|aH aa<|aH aa<|aH aa<|aH aa<|eh aa<|eh aa<|eh aa<|eh aa<|eh aa<|aH aa<|p (bB aa)<|nl<|am<|ct aa<|ag fun ah=>p aB<|ay<|ah<|rt<|tr<|tr<|br<|tr<|br<|tr<|f2 aa aa aa ?_
 have q:di s=([],41):=by unfold di; rw [if_neg (fun h=>h.elim (fun h=>by rw [h] at C; exact C rfl) fun h=>by omega),if_neg J,M]
 exact ⟨⟨.slice none 0 0,by rw [q]; rfl,by rw [q]; exact dx _ _ _ _⟩,Md.trans G U⟩
 have bD:=a9 ab
 have aP:(s.drop<|i+1).idxOf 93 < (s.drop<|i+1).length:=DP fun h=>by have :=aN.2 h; omega
 refine aI aa mv<|aI aa (aU (ak i) aa)<|aI aa (bG ((i+1:Nat):Int) aa aa<|bl ab ab)<|aI aa (bI aa aa)<|p (bq aa)<|p mv<|gs (t:=40) aa (fun bb=> ?_) fun bb=> ?_
 have E:iz (s.drop i)=none:=by
  rw [V,I]
  exact xm aa fun h=>h.2.1 ab
 have M:=Y.bad ab E
 refine aH aa<|aH aa<|aH aa<|aH aa<|aH aa<|eh aa<|eh aa<|eh aa<|eh aa<|eh aa<|aH aa<|p (bB aa)<|nl<|am<|ct aa<|aC fun ah=>rg aa<|p aB<|ay<|ah<|rt<|tr<|tr<|br<|tr<|br<|tr<|f2 aa aa aa ?_
 have q:di s=([],41):=by unfold di; rw [if_neg (fun h=>h.elim (fun h=>by rw [h] at C; exact C rfl) fun h=>by omega),if_neg J,M]
 exact ⟨⟨.slice none 0 0,by rw [q]; rfl,by rw [q]; exact dx _ _ _ _⟩,Md.trans G U⟩
 refine aI aa mv<|aI aa (aU (ak i) aa)<|aI aa (bG ((i+2:Nat):Int) aa aa<|bl ab ab)<|aI aa (bI aa aa)<|aI aa mv<|gs (t:=45) aa (fun bc=> ?_) fun bc=> ?_
 refine aI aa (aU (str s) aa)<|aI aa (aU (ak i) aa)<|aI aa (bG ((i+1:Nat):Int) aa aa<|bl ab ab)<|aI aa (eQ u9 aa aa ab)<|aI aa (bI aa aa)<|aI aa (bB aa)<|p (bq aa)<|nl<|am<|cd aa (fun aA=> ?_) fun aA=> ?_
 have E:iz (s.drop i)=none:=by
  rw [V,I]
  exact xm aa fun h=>h.2.2 ⟨ab,by rw [GP]; exact IJ aA⟩
 have M:=Y.bad ab E
 refine ag fun ah=>p aB<|ay<|ah<|rt<|tr<|tr<|br<|tr<|br<|tr<|f2 aa aa aa ?_
 have q:di s=([],41):=by unfold di; rw [if_neg (fun h=>h.elim (fun h=>by rw [h] at C; exact C rfl) fun h=>by omega),if_neg J,M]
 exact ⟨⟨.slice none 0 0,by rw [q]; rfl,by rw [q]; exact dx _ _ _ _⟩,Md.trans G U⟩
 have E:iz (s.drop i)=some (91::(s.drop<|i+1).take ((s.drop<|i+1).idxOf 93 +1),(s.drop<|i+1).drop ((s.drop<|i+1).idxOf 93 +1)):=by
  rw [V,I]
  exact AR aa aP ab fun h=>aA<|by rw [← GP,h.2]; rfl
 have O:=Y.step (j:=i+1 +(s.drop<|i+1).idxOf 93 +1) E<|by rw [r4]; rfl
 rw [E3 I ab] at O
 exact aO<|aF<|rg aa<|p mv<|p (bG ((i+1 +(s.drop<|i+1).idxOf 93 +1:Nat):Int) aa aa<|bl ab ab)<|p aB<|nl<|tn<|⟨i+1 +(s.drop<|i+1).idxOf 93 +1,(ab),O,(aW aj U),(Md.trans G U),aa,aa,aa,aa⟩
 have E:iz (s.drop i)=some (91::(s.drop<|i+1).take ((s.drop<|i+1).idxOf 93 +1),(s.drop<|i+1).drop ((s.drop<|i+1).idxOf 93 +1)):=by
  rw [V,I]
  exact AR aa aP ab fun h=>by omega
 have O:=Y.step (j:=i+1 +(s.drop<|i+1).idxOf 93 +1) E<|by rw [r4]; rfl
 rw [E3 I ab] at O
 refine aH aa<|aH aa<|aH aa<|aH aa<|aH aa<|aI aa (bq aa)<|p (bq aa)<|nl<|am<|cf aa<|aO<|aF<|rg aa<|p mv<|p (bG ((i+1 +(s.drop<|i+1).idxOf 93 +1:Nat):Int) aa aa<|bl ab ab)<|p aB ?_
 exact nl<|tn<|⟨i+1 +(s.drop<|i+1).idxOf 93 +1,(ab),O,(aW aj U),(Md.trans G U),aa,aa,aa,aa⟩
 have bg:=vb az
 have V:=drop_cons (l:=s) (i:=i) 0 ab
 have E:iz (s.drop i)=some ([s.getD i 0],s.drop (i+1)):=by rw [V]; exact F6 bg
 have O:=Y.step (j:=i+1) E rfl
 rw [← VZ (show i < s.length by omega)] at O
 exact aO<|tn<|⟨i+1,(ab),O,aj,G,aa,aa,aa,aa⟩
 rintro al aD ⟨j,bH,bd,aR,a3,bs,bt,bv,bw⟩
 refine fx 0 bs<|fx 4 bt<|fx 5 bv<|fx 6 bw<|ag fun ac=>au (Z)<|au (str s)<|au (ak i)<|au (ak j)<|p (l6 u9 aa aa aa ab)<|p (cU (ps:= [(0,str ((s.take j).drop i))]) (L:= [str ((s.take j).drop i)]) X6 aa<|aa)<|e<|kK KL aa aa aa fun bA bz bC ax a1=> ?_
 have aL:Wk w bz:=Md.trans a3 ax.md
 refine e<|ap KL (aW aR ax.md) aa (by have :=aL.size; omega) aa (aJ.dZ a1) (aa) (aa) ab ab fun bx bN bi a4 bJ bF=> ?_
 have a2:=Wk.own aL (aW aR ax.md) a4<|cB _
 have bj:=Wb bi
 exact ay<|ac<|rg aa<|au (ak j)<|p (cO (ak j) aa)<|nl<|bn<|tn<|⟨_,ab,j,A++ [(s.take j).drop i],bx,(by rw [bL,e5]; omega),bd,bj,a2,aa,aa,aa,aa⟩
 refine ext<|bf<|bf<|be<|aZ<|aC fun ao=>aC fun ac=> ?_
 obtain ⟨ar,av,rfl⟩:=cC aj
 have M:=Y.done ab
 refine rg aa<|au (.slice ar A.length av)<|p (bK rP aa aa)<|p (gt aa aa)<|nl<|ac<|cd aa (fun a8=> ?_) fun a8=> ?_
 refine ag fun ae=>p aB<|ay<|ae<|rt<|tr<|f2 aa aa aa ?_
 have q:di s=([],42):=by unfold di; rw [if_neg (fun h=>h.elim (fun h=>by rw [h] at C; exact C rfl) fun h=>by omega),if_neg J,M]; exact if_pos ab
 exact ⟨⟨.slice none 0 0,by rw [q]; rfl,by rw [q]; exact dx _ _ _ _⟩,G⟩
 refine aO<|ao<|ag fun ae=>au (.slice ar A.length av)<|p (cO (.slice ar A.length av) aa)<|p aB<|nl<|ae<|rt<|f2 aa aa aa ?_
 have q:di s=(A,0):=by unfold di; rw [if_neg (fun h=>h.elim (fun h=>by rw [h] at C; exact C rfl) fun h=>by omega),if_neg J,M]; exact if_neg ab
 exact ⟨⟨_,by rw [q]; rfl,by rw [q]; exact aj⟩,G⟩
theorem Xc (ps:List (List UInt8)) (a:Option Addr) (c:Nat) (w:World) (M:aJ w.heap a (ps.map str)) (hn:ps.length≤4096) (O:∀ t∈ps,(t.length=1∨3≤t.length)∧t.length≤1048576):
 bo aw 275 (bh [.slice a ps.length c]) w (fun v w'=>v=str (l5 ps)∧Wk w w'):=by
 refine enter func275 aa ntmps275 aa<|ag fun U=>ay<|U<|aC fun Y=>ag fun Z=>au (.slice a ps.length c)<|p (bK rP aa aa)<|p (bI aa aa)<|nl<|Z<|cd aa (fun G=> ?_) fun G=> ?_
 exact ag fun C=>ay<|C<|rt<|tr<|aX aa<|⟨by unfold l5; rw [if_pos (fS ab)]; rfl,Md.refl _ _⟩
 refine aO<|Y<|ag fun C=>ay<|C<|aC fun ac=>ag fun ae=>ay<|ae<|aM<|lp (fun J A I=> ∃ (i:Nat),(i≤ps.length)∧(Wk w I)∧(((ps.take i).flatMap fun t=>gR<|cE t).length≤i*300)∧(A 0= .slice a ps.length c)∧(A 3=str ((ps.take i).flatMap fun t=>gR<|cE t))∧(A 4=ak i)∧(ps.length - i=J)) _ ⟨0,ab,(Md.refl _ _),(by simp),aa,(by first | rfl | (rw [fH ps i [] ab,n8,pX]; rfl)),aa,aa⟩ ?_
 rintro J A I ⟨i,hi,q,hlen,an,ao,ap,rfl⟩
 refine fx 0 an<|fx 3 ao<|fx 4 ap<|aC fun ah=>ag fun ai=>au (ak i)<|au (.slice a ps.length c)<|p (bK rP aa aa)<|p (lt aa aa)<|nl<|ai<|cd aa (fun am=> ?_) fun am=> ?_
 refine aO<|ah<|aC fun E=>aM<|ag fun V=>au (.slice a ps.length c)<|au (ak i)<|p (ba G7 aa aa ab<|aJ.ok (M.wk q)<|bS ab)<|p (c8 sw aa (aa) (show ∀ j,j < 1→Hb.aQ I.heap (bk a) (fo a+i*1 +j)= [str (ps.getD i [])][j]? from fun j aq=>by cases j with | zero=>exact (I9 (M.wk q) ab) | succ j=>omega))<|e<|cl PN (XB (ps.getD i []) _ (O _<|dV ab).1 (O _<|dV ab).2) aa fun av ax al=> ?_
 obtain ⟨rfl,aj⟩:=al
 have ar:=Db<|cE<|ps.getD i []
 exact ay<|V<|rg aa<|au (str<|(ps.take i).flatMap fun t=>gR<|cE t)<|p mv<|p (cc aa aa ab)<|p aB<|nl<|bn<|E<|rg aa<|au (ak i)<|p (bG ((i+1:Nat):Int) aa aa<|bl ab ab)<|p aB<|nl<|tn<|⟨_,ab,i+1,ab,(Md.trans q aj),(by rw [fH ps i [] ab,n8,pX,bL]; omega),aa,(by first | rfl | (rw [fH ps i [] ab,n8,pX]; rfl)),aa,aa⟩
 exact ext<|bf<|bf<|be<|ac<|ag fun E=>au (str<|(ps.take i).flatMap fun t=>gR<|cE t)<|p (cO (str<|(ps.take i).flatMap fun t=>gR<|cE t) aa)<|nl<|E<|rt<|aX aa<|⟨by unfold l5; rw [if_neg (fun h=>by rw [h] at G; exact G aa),show ps.take i=ps from eN ab]; rfl,q⟩
end Go.Hb
end
section
namespace Go.Hb
open Go.Hb.j7
theorem H7 {α:Type} {l:List α} {i:Nat} {d:α} (h:i < l.length):l.getD i d∈l:=by
 rw [cV,cD h]; exact List.getElem_mem h
theorem C1 (s:List UInt8) (w:World) (hs:s.length≤1048576):
 bo aw 113 (bh [str s]) w (fun v w'=>bu w' w.heap.size 9 1 (v) (bJ s).length ((bJ s).map str)∧Wk w w'):=by
 refine enter func113 aa ntmps113 aa<|ag fun aU=>ay<|aU ?_
 refine ej (fun aT aS=>(Wk w aS)∧(aT 0=str (kU s))) ?_ ?_
 refine ag fun aj=>au (str s)<|e<|cl OY (Ct s _) aa fun b9 ch bl=> ?_
 obtain ⟨rfl,aK⟩:=bl
 refine nl<|aj<|cb aa (fun Y=> ?_) fun Y=> ?_
 have b2:=Vs Y
 exact rg aa<|au (str s)<|p (l7 u9 aa aa ab)<|p aB<|nl<|tn<|⟨aK,by show str (s.drop 3)=_; rw [YH Y]⟩
 exact aO<|tn<|⟨aK,by show str s=_; rw [YG Y]⟩
 rintro aT aS ⟨aE,bB⟩
 refine fx 0 bB ?_
 have b4:=y8 s
 refine ag fun aj=>ay<|aj<|ag fun aV=>e<|mW ik fun ax aQ bR bi a3=> ?_
 have bz:bu aQ w.heap.size 5 1 (.slice (some ⟨ax,0,none⟩) 0 0) (([]:List UInt8)).length (U8<|([]:List UInt8)):=a3 _<|by have :=aE.size; omega
 have a9:Wk w aQ:=Md.trans aE bi.md
 refine ay<|aV<|ag fun aY=>ay<|aY<|aC fun aZ=>ag fun a0=>ay<|a0<|aM<|lp (fun aD G ac=> ∃ (i:Nat) (q:List (List UInt8)) (a:List UInt8) (ob:Bool) (C Z:Value),(i≤(kU s).length)∧(q++fX a ((kU s).drop i)=bJ s)∧(ob=decide (a≠[]))∧(a.length≤i)∧(Wk w ac)∧(bu ac w.heap.size 9 1 (C) (q).length<|(q).map str)∧(bu ac w.heap.size 5 1 (Z) (a).length<|U8<|a)∧(G 0=str (kU s))∧(G 3=C)∧(G 4=Z)∧(G 5= .bool ob)∧(G 6= .int .i64 i)∧((kU s).length - i=aD)) _ ⟨0,[],[],false,.slice none 0 0,.slice (some ⟨ax,0,none⟩) 0 0,ab,aa,aa,(by simp),a9,(dx _ _ _ _),bz,aa,aa,aa,aa,aa,aa⟩ ?_
 rintro aD G ac ⟨i,q,a,ob,C,Z,hi,hd,aP,bW,U,E,A,bC,bD,bE,bF,bG,rfl⟩
 refine fx 0 bC<|fx 3 bD<|fx 4 bE<|fx 5 bF<|fx 6 bG ?_
 have bY:q.length≤s.length+1:=by have h1:=congrArg jy hd; have h2:=nL s; rw [bL] at h1; omega
 have b3:=U.size
 refine aC fun a1=>ag fun a2=>au (.int .i64 i)<|au (str<|kU s)<|p (cy u9 aa aa)<|p (lt aa aa)<|nl<|a2<|cd aa (fun bp=> ?_) fun bp=> ?_
 refine aO<|a1<|aC fun J=>aM<|aC fun ae=>ag fun I=>au (str<|kU s)<|au (.int .i64 i)<|p (eQ u9 aa aa ab)<|p (dj aa aa)<|nl<|I<|cd aa (fun ao=> ?_) fun ao=> ?_
 refine ag fun ah=>au (Z)<|au (str<|kU s)<|au (.int .i64 i)<|p (eQ u9 aa aa ab)<|e<|fU ik aa aa fun bO bK bS V a4=> ?_
 have aF:Wk w bK:=Md.trans U V.md
 refine e<|ap ik (aW A V.md) aa (by have :=aF.size; omega) aa (aJ.dZ a4) (aa) (aa) ab ab fun bH ca bq aL b5 bZ=> ?_
 have ba:=Wk.own aF (aW A V.md) aL<|cB _
 have br:=qD bq
 have bx:=cX (aW E V.md) aL fun k hk=>mA E A az hk
 exact ay<|ah<|ag fun ai=>ay<|ai<|ext<|bf<|be<|J<|rg aa<|au (.int .i64 i)<|p (ad aa aa<|bX ab)<|p aB<|nl<|tn<|⟨_,ab,i+1,q,a++ [(kU s).getD i 0],true,C,bH,ab,(by rw [drop_cons 0 ab,Cr (VT ao)] at hd; exact hd),(by simp),(by rw [bL,e5]; omega),ba,bx,br,aa,aa,aa,aa,aa,aa⟩
 have bm:=UH<|DP ao
 obtain ⟨M,O,rfl⟩:=cC A
 refine aO<|ae<|ag fun ah=>au (C)<|au (.slice M a.length O)<|e<|cl Fq (GU a M O _ (a8 A).2 ab (a8 A).1) aa fun v30 cc bj=> ?_
 obtain ⟨rfl,ak⟩:=bj
 refine e<|fU fN aa aa fun bP bM bT am a5=> ?_
 have aG:Wk w bM:=Md.trans (Md.trans U ak) am.md
 refine e<|ap fN (aW (aW E ak) am.md) aa (by have :=aG.size; omega) aa (aJ.dZ a5) (aa) (aa) ab ab fun bI ce bs bd b6 b0=> ?_
 have aH:=Wk.own aG (aW (aW E ak) am.md) bd<|cB _
 have bt:=mB bs
 refine ay<|ah<|ag fun ai=>e<|mW ik fun aA aR bU aN a6=> ?_
 have bb:Wk w aR:=Md.trans aH aN.md
 have bA:bu aR w.heap.size 5 1 (.slice (some ⟨aA,0,none⟩) 0 0) (([]:List UInt8)).length (U8<|([]:List UInt8)):=a6 _<|by have :=aH.size; omega
 exact ay<|ai<|rg aa<|p aB<|nl<|bn<|J<|rg aa<|au (.int .i64 i)<|p (ad aa aa<|bX ab)<|p aB<|nl<|tn<|⟨_,ab,i+1,q++ [jK a],[],false,bI,.slice (some ⟨aA,0,none⟩) 0 0,ab,(by rw [drop_cons 0 ab,bm,I7] at hd; rw [dF]; exact hd),aa,(by simp),bb,(aW bt aN.md),bA,aa,aa,aa,aa,aa,aa⟩
 refine ext<|bf<|bf<|be<|aZ<|aC fun J=>ag fun ae=>au (.bool ob)<|nl<|ae<|cb aa (fun aq=> ?_) fun aq=> ?_
 have av:a≠[]:=by have :=aP.symm.trans aq; exact of_decide_eq_true this
 obtain ⟨M,O,rfl⟩:=cC A
 refine rg aa<|au (C)<|au (.slice M a.length O)<|e<|cl Fq (GU a M O _ (a8 A).2 ab (a8 A).1) aa fun v37 cf bk=> ?_
 obtain ⟨rfl,al⟩:=bk
 refine e<|fU fN aa aa fun bQ bN bV an a7=> ?_
 have aI:Wk w bN:=Md.trans (Md.trans U al) an.md
 refine e<|ap fN (aW (aW E al) an.md) aa (by have :=aI.size; omega) aa (aJ.dZ a7) (aa) (aa) ab ab fun b8 cg bv bg b7 b1=> ?_
 have bc:=Wk.own aI (aW (aW E al) an.md) bg<|cB _
 have bw:=mB bv
 refine ay<|J<|ag fun I=>p mv<|p aB<|nl<|I<|rt<|aX aa ?_
 have ar:q++ [jK a]=bJ s:=by rw [← hd,show List.drop i (kU s)= [] from gV ab,I6 av]
 exact ⟨by rw [← ar]; exact bw,bc⟩
 have av:a= []:=DP<|of_decide_eq_false<|aP.symm.trans aq
 refine aO<|J<|ag fun I=>au (C)<|p (cO (C) aa)<|nl<|I<|rt<|aX aa ?_
 have ar:q=bJ s:=by rw [← hd,show List.drop i (kU s)= [] from gV ab,av,Cs,ek]
 exact ⟨by rw [← ar]; exact E,U⟩
set_option maxHeartbeats 1000000 in
theorem Ko (s:List UInt8) (w:World) (hs:s.length≤1048576):
 bo aw 112 (bh [str s]) w (fun v w'=>(∃ a,v= .tuple #[a,.int .i64 (if 65536 < s.length then 10 else 0)]∧(if 65536 < s.length then a= .slice none 0 0 else ∃ vs,bu w' w.heap.size 237 2 a (bQ s).length (kF vs)∧gZ w' w.heap.size 9 vs (bQ s)))∧Wk w w'):=by
 refine enter func112 aa ntmps112 aa<|ag fun bb=>p aB<|ay<|bb<|aC fun bj=>aC fun bk=>rg aa<|au (str s)<|p (cy u9 aa aa)<|p (gt aa aa)<|nl<|bk<|cd aa (fun bD=> ?_) fun bD=> ?_
 refine ag fun aN=>p aB<|ay<|aN<|rt<|tr<|f2 aa aa aa ?_
 have aq:65536 < s.length:=ab
 exact ⟨⟨.slice none 0 0,by show gz #[.slice none 0 0,.int .i64 10]=_; rw [if_pos aq],by rw [if_pos aq]⟩,Md.refl _ _⟩
 refine aO<|bj<|ag fun aN=>ay<|aN<|aC fun bm=>rg aa<|au (str s)<|e<|cl Ad (C1 s _ hs) aa fun ck ai bz=> ?_
 obtain ⟨a7,aS⟩:=bz
 obtain ⟨ax,aD,rfl⟩:=cC a7
 have a5:=(a8 a7).2
 have ce:=nL s
 refine ay<|bm<|aC fun bp=>ag fun br=>p aB<|nl<|br<|aM<|lp (fun al aL aK=> ∃ (i:Nat) (M:Value) (vs:List (Nat×Value)),(i≤(bJ s).length)∧(Wk ai aK)∧(bu aK ai.heap.size 237 2 M (ll 1<|(bJ s).take i).length<|kF vs)∧(gZ aK ai.heap.size 9 vs<|ll 1<|(bJ s).take i)∧(aL 4=M)∧(aL 5= .slice ax (bJ s).length aD)∧(aL 6= .int .i64 i)∧((bJ s).length - i=al)) _ ⟨0,.slice none 0 0,[],ab,(Md.refl _ _),(dx _ _ _ _),(gZ.nil _ _ _),aa,aa,aa,aa⟩ ?_
 rintro al aL aK ⟨i,M,vs,hi,an,J,ah,bT,bV,bW,rfl⟩
 refine fx 4 bT<|fx 5 bV<|fx 6 bW ?_
 have bR:=C4 ((bJ s).take i) 1
 rw [dT] at bR
 have ch:=an.size
 refine aC fun bs=>aC fun bt=> ?_
 have cc:((bJ s).getD i []).length≤s.length:=by rcases fg i (bJ s).length with h | h <;> first | exact Cp (H7 h) | (rw [cV,List.getElem?_eq_none h]; exact jD _)
 refine rg aa<|au (.int .i64 i)<|au (.slice ax (bJ s).length aD)<|p (bK eV aa aa)<|p (lt aa aa)<|nl<|bt<|cd aa (fun bE=> ?_) fun bE=> ?_
 refine aO<|bs<|aC fun ac=>aM<|ag fun bc=>p aB<|nl<|bc<|ag fun bd=>au (.slice ax (bJ s).length aD)<|au (.int .i64 i)<|p (ba cI aa aa ab<|aJ.ok (a5.wk an)<|bS ab)<|p (ld bU aa<|cg.get (i:=i) (a5.wk an) ab)<|e<|cl OX (WU ((bJ s).getD i []) _ ab) aa fun cm aG bA=> ?_
 obtain ⟨a9,E⟩:=bA
 obtain ⟨av,aA,rfl⟩:=cC a9
 have aE:=(a8 a9).2
 have ae:Wk ai aG:=Md.trans an E
 have ca:=uE ((bJ s).getD i []) []
 refine ay<|bd<|aC fun a2=>ag fun bg=>p aB<|nl<|bg<|aM<|lp (fun al Z a1=> ∃ (j:Nat) (aF:Value),(j≤(cH []<|(bJ s).getD i []).length)∧(∀ q,q < j→vm ((cH []<|(bJ s).getD i []).getD q [])=false)∧(Wk aG a1)∧(bu a1 aG.heap.size 9 1 (aF) ((cH []<|(bJ s).getD i []).take j).length<|((cH []<|(bJ s).getD i []).take j).map str)∧(Z 4=M)∧(Z 5= .slice ax (bJ s).length aD)∧(Z 6= .int .i64 i)∧(Z 7=aF)∧(Z 8= .slice av (cH []<|(bJ s).getD i []).length aA)∧(Z 9= .int .i64 j)∧((cH []<|(bJ s).getD i []).length - j=al)) _ ⟨0,.slice none 0 0,ab,(fun q bP=>by omega),(Md.refl _ _),(dx _ _ _ _),aa,aa,aa,aa,aa,aa,aa⟩ ?_
 rintro al Z a1 ⟨j,aF,a6,aY,A,U,bY,bZ,b0,b1,b2,b3,rfl⟩
 refine fx 4 bY<|fx 5 bZ<|fx 6 b0<|fx 7 b1<|fx 8 b2<|fx 9 b3 ?_
 have cb:((cH []<|(bJ s).getD i []).take j).length≤j:=by rw [dT]; omega
 have ci:=A.size
 refine aC fun bi=>ag fun a3=>au (.int .i64 j)<|au (.slice av (cH []<|(bJ s).getD i []).length aA)<|p (bK eV aa aa)<|p (lt aa aa)<|p mv<|gs (t:=30) aa (fun bI=> ?_) fun bI=> ?_
 refine aI aa (aU (.slice av (cH []<|(bJ s).getD i []).length aA) aa)<|aI aa (aU (.int .i64 j) aa)<|aI aa (ba cI aa aa ab<|aJ.ok (aE.wk A)<|bS ab)<|aI aa (ld bU aa<|cg.get (i:=j) (aE.wk A) ab)<|aI aa (jd 0 u9 aa aa<|lx.2 (Bw _ _ _<|H7 ab).1)<|aI aa (dj aa aa)<|p (bB aa)<|nl<|a3<|cd aa (fun bF=> ?_) fun bF=> ?_
 refine aO<|bi<|aC fun aj=>aM<|rg aa<|au (aF)<|au (.slice av (cH []<|(bJ s).getD i []).length aA)<|au (.int .i64 j)<|p (ba cI aa aa ab<|aJ.ok (aE.wk A)<|bS ab)<|p (ld bU aa<|cg.get (i:=j) (aE.wk A) ab)<|e<|fU fN aa aa fun b7 b5 b8 aV bv=> ?_
 have a4:Wk aG b5:=Md.trans A aV.md
 refine e<|ap fN (aW U aV.md) aa (by have :=a4.size; omega) aa (aJ.dZ bv) (aa) (aa) ab ab fun v46 cn bM bx cj b9=> ?_
 have bw:=Wk.own a4 (aW U aV.md) bx<|cB _
 have bN:=mB bM
 exact p aB<|nl<|bn<|aj<|rg aa<|au (.int .i64 j)<|p (ad aa aa<|bX ab)<|p aB<|nl<|tn<|⟨_,ab,j+1,v46,ab,(fun q bP=>by rcases fg q j with h | h <;> first | exact aY q h | (rw [show q=j by omega]; exact decide_eq_false ab)),bw,(by rw [fH _ j [] ab]; exact bN),aa,aa,aa,aa,aa,aa,aa⟩
 have ao:nK (cH []<|(bJ s).getD i [])=((cH []<|(bJ s).getD i []).take j):=yj a6 aY<|.inr<|decide_eq_true ab
 obtain ⟨G,I,rfl⟩:=cC U
 refine ext<|bf<|bf<|be<|a2<|ag fun aj=>p (aU (.slice G ((cH []<|(bJ s).getD i []).take j).length I) aa)<|p (bK eV aa aa)<|p (gt aa aa)<|nl<|aj<|cd aa (fun Y=> ?_) fun Y=> ?_
 have O:lg ((bJ s).getD i []) (1 +i)= [(i+1,((cH []<|(bJ s).getD i []).take j))]:=by unfold lg; rw [ao,if_neg (fun h=>by rw [h] at Y; simp at Y),Np]
 refine rg aa<|au (M)<|au (.int .i64 i)<|p (bG ((i+1:Nat):Int) aa aa<|bl ab ab)<|p (aU (.slice G ((cH []<|(bJ s).getD i []).take j).length I) aa)<|p (cU (ps:= [(0,ak (i+1)),(1,.slice G ((cH []<|(bJ s).getD i []).take j).length I)]) (L:= [ak (i+1),.slice G ((cH []<|(bJ s).getD i []).take j).length I]) KU aa<|aa)<|e<|kK yP aa aa aa fun aP ar bC C aQ=> ?_
 have aR:bO ar.heap aP [ak (i+1),.slice G ((cH []<|(bJ s).getD i []).take j).length I]:=aQ
 have am:Wk ai ar:=Md.trans ae<|Md.trans A C.md
 refine e<|ap yP (aW (aW (aW J E) A) C.md) aa (by have :=am.size; omega) aa (aJ.dZ aR) (aa) (aa) ab ab fun a0 b6 aX V b4 bH=> ?_
 have aT:=Wk.own am (aW (aW (aW J E) A) C.md) V<|cB _
 have aZ:=((((ah.wk E).wk A).wk C.md).md V<|ij (aW (aW (aW J E) A) C.md) az).snoc (n:=i+1)<|Tg.jN<|ew (cX (aW U C.md) V fun k hk=>mA (aW U C.md) (aW (aW (aW J E) A) C.md) az hk)<|by have :=Md.size ae; omega
 exact p aB<|nl<|bn<|ac<|rg aa<|au (.int .i64 i)<|p (ad aa aa<|bX ab)<|p aB<|nl<|tn<|⟨_,ab,i+1,a0,vs++ [(i+1,.slice G ((cH []<|(bJ s).getD i []).take j).length I)],ab,aT,(by rw [fH _ i [] ab,nb,show ((bJ s).take i).length=i from by rw [dT]; omega,O,bL,C9]; exact aX),(by rw [fH _ i [] ab,nb,show ((bJ s).take i).length=i from by rw [dT]; omega,O]; exact aZ),aa,aa,aa,aa⟩
 have O:∀ n,lg ((bJ s).getD i []) n= []:=fun n=>by unfold lg; rw [ao,if_pos (wg.1 ab)]
 exact aO<|bn<|ac<|rg aa<|au (.int .i64 i)<|p (ad aa aa<|bX ab)<|p aB<|nl<|tn<|⟨_,ab,i+1,M,vs,ab,(Md.trans ae A),(by rw [fH _ i [] ab,nb,O,ek]; exact aW (aW J E) A),(by rw [fH _ i [] ab,nb,O,ek]; exact (ah.wk E).wk A),aa,aa,aa,aa⟩
 have ao:nK (cH []<|(bJ s).getD i [])=((cH []<|(bJ s).getD i []).take j):=yj a6 aY<|.inl ab
 obtain ⟨G,I,rfl⟩:=cC U
 refine aH aa<|aH aa<|aH aa<|aH aa<|aH aa<|aH aa<|p (bq aa)<|nl<|a3<|cf aa<|ext<|bf<|bf<|be<|a2<|aC fun aj=> ?_
 refine rg aa<|p (aU (.slice G ((cH []<|(bJ s).getD i []).take j).length I) aa)<|p (bK eV aa aa)<|p (gt aa aa)<|nl<|aj<|cd aa (fun Y=> ?_) fun Y=> ?_
 have O:lg ((bJ s).getD i []) (1 +i)= [(i+1,((cH []<|(bJ s).getD i []).take j))]:=by unfold lg; rw [ao,if_neg (fun h=>by rw [h] at Y; simp at Y),Np]
 refine rg aa<|au (M)<|au (.int .i64 i)<|p (bG ((i+1:Nat):Int) aa aa<|bl ab ab)<|p (aU (.slice G ((cH []<|(bJ s).getD i []).take j).length I) aa)<|p (cU (ps:= [(0,ak (i+1)),(1,.slice G ((cH []<|(bJ s).getD i []).take j).length I)]) (L:= [ak (i+1),.slice G ((cH []<|(bJ s).getD i []).take j).length I]) KU aa<|aa)<|e<|kK yP aa aa aa fun aP ar bC C aQ=> ?_
 have aR:bO ar.heap aP [ak (i+1),.slice G ((cH []<|(bJ s).getD i []).take j).length I]:=aQ
 have am:Wk ai ar:=Md.trans ae<|Md.trans A C.md
 refine e<|ap yP (aW (aW (aW J E) A) C.md) aa (by have :=am.size; omega) aa (aJ.dZ aR) (aa) (aa) ab ab fun a0 b6 aX V b4 bH=> ?_
 have aT:=Wk.own am (aW (aW (aW J E) A) C.md) V<|cB _
 have aZ:=((((ah.wk E).wk A).wk C.md).md V<|ij (aW (aW (aW J E) A) C.md) az).snoc (n:=i+1)<|Tg.jN<|ew (cX (aW U C.md) V fun k hk=>mA (aW U C.md) (aW (aW (aW J E) A) C.md) az hk)<|by have :=Md.size ae; omega
 exact p aB<|nl<|bn<|ac<|rg aa<|au (.int .i64 i)<|p (ad aa aa<|bX ab)<|p aB<|nl<|tn<|⟨_,ab,i+1,a0,vs++ [(i+1,.slice G ((cH []<|(bJ s).getD i []).take j).length I)],ab,aT,(by rw [fH _ i [] ab,nb,show ((bJ s).take i).length=i from by rw [dT]; omega,O,bL,C9]; exact aX),(by rw [fH _ i [] ab,nb,show ((bJ s).take i).length=i from by rw [dT]; omega,O]; exact aZ),aa,aa,aa,aa⟩
 have O:∀ n,lg ((bJ s).getD i []) n= []:=fun n=>by unfold lg; rw [ao,if_pos (wg.1 ab)]
 exact aO<|bn<|ac<|rg aa<|au (.int .i64 i)<|p (ad aa aa<|bX ab)<|p aB<|nl<|tn<|⟨_,ab,i+1,M,vs,ab,(Md.trans ae A),(by rw [fH _ i [] ab,nb,O,ek]; exact aW (aW J E) A),(by rw [fH _ i [] ab,nb,O,ek]; exact (ah.wk E).wk A),aa,aa,aa,aa⟩
 refine ext<|bf<|bf<|be<|bp<|ag fun ac=>au (M)<|p (cO (M) aa)<|ay<|ac<|rt<|f2 aa aa aa ?_
 have aq:¬65536 < s.length:=ab
 rw [show (bJ s).take i=bJ s from eN ab] at J ah
 exact ⟨⟨M,by show gz #[M,.int .i64 0]=_; rw [if_neg aq],by rw [if_neg aq]; exact ⟨vs,ew J aS.size,ah.mono aS.size⟩⟩,Md.trans aS an⟩
end Go.Hb
end
section
namespace Go.Hb
open Go.Hb.jG Go.Hb.lP Go.Hb.nq Go.Hb.j7
theorem vw {s:Tx} {k:Tx} {i:Nat} (h:s=k) (h1:k∈ec) (h2:ec.idxOf k=i):pK s=(i:Nat):=by subst h; unfold pK; rw [if_pos h1,h2]
theorem XN {s:Tx} (h:s∉ec):pK s= -1:=if_neg h
def tk:List Tx:= [ig,iJ,iS,kf,e9,eJ]
theorem LQ {s:Tx} (h:s∈ec):width s=2:=if_pos<|.inl h
theorem YY {s:Tx} (h:s∈tk):width s=2:=by
 unfold width
 rw [if_pos]
 simpa [tk] using Or.inr (gr.1 h)
theorem LR {s:Tx} (h:s=fE∨s=dp):width s=4:=by
 unfold width
 rw [if_neg,if_pos h]
 rcases h with rfl | rfl <;> decide
theorem YZ {s:Tx} (h:s∉ec) (h1:s∉tk) (h2:s≠fE) (h3:s≠dp):width s=0:=by
 unfold width
 rw [if_neg,if_neg (by simp [h2,h3])]
 intro h4
 rcases h4 with h4 | h4
 · exact h h4
 · exact h1<|by simpa [tk] using h4
theorem Ia {F:aT} {V:ep} {i:Nat} (hi:i < 5):(nI F V).toArray[0 +3 +((i:Nat):Int).toNat*1]? =some (bP<|F.sp.getD i 0):=by
 match i,hi with
 | 0,_=>rfl
 | 1,_=>rfl
 | 2,_=>rfl
 | 3,_=>rfl
 | 4,_=>rfl
theorem Jg {x:Nat} {l:List Nat} (h:∀ j,j < l.length→l.getD j 0≠x):x∉l:=fun hm=>by
 obtain ⟨j,a,e⟩:=nM 0 hm
 exact h j a e
theorem SP {x:Nat} :∀ {cs:List db} {i:Nat} {c:db},(∀ j,j < i→(cs.getD j nA).flag≠x)→cs[i]? =some c→c.flag=x→dY cs x=some c:=by
 intro cs
 induction cs with
 | nil=>intro i c _ h; simp at h
 | cons a l E=>
   intro i c A hi C
   unfold dY
   rw [List.find?_cons]
   cases i with
   | zero=>simp only [tU,fQ] at hi; subst hi; simp [C]
   | succ i=>
     have q:=A 0 ab
     simp only [lO] at q
     rw [decide_eq_false q]
     exact E (i:=i) (fun j G=>by have :=A (j+1) ab; simpa using this) (by simpa using hi) C
theorem SR {x:Nat} {cs:List db} (h:∀ j,j < cs.length→(cs.getD j nA).flag≠x):dY cs x=none:=by
 unfold dY
 rw [List.find?_eq_none]
 intro c a
 obtain ⟨j,i,e⟩:=nM nA a
 have :=h j i
 rw [e] at this
 simpa using this
theorem Tq (l:List db):(qs l).length=l.length*5:=oz (f:=m8) (m:=5) (fun _=>rfl) _
theorem x9 {l:List db} (h:0 < l.length):qs l≠[]:=fun h2=>by have :=congrArg jy h2; rw [Tq] at this; simp at this; omega
theorem ur {l:List db} {i:Nat} (h:i < l.length):l[i]? =some (l.getD i nA):=by rw [cV,cD h]; rfl
theorem GH {F:aT} {x:Nat} (h:x∈F.sp):eG F x=true :=by unfold eG; rw [decide_eq_true h]; rfl
theorem GI {F:aT} {x:Nat} (h:x∉F.sp):eG F x=(dY F.bw x).isSome:=by unfold eG; rw [decide_eq_false h]; rfl
theorem yD {s:Tx} (h:s∈ec∨s=eJ∨s=fE∨s=dp):s∈lk:=by
 rcases h with h | rfl | rfl | rfl
 · have :∀ k∈ec,k∈lk:=az
   exact this s h
 all_goals decide
theorem V8 {s:Tx} (h:s∉ec) (h1:s≠eJ) (h2:s≠fE) (h3:s≠dp):s∉lk:=by
 intro h4
 have :∀ k∈lk,k∈ec∨k=eJ∨k=fE∨k=dp:=az
 rcases this s h4 with h5 | h5 | h5 | h5
 · exact h h5
 · exact h1 h5
 · exact h2 h5
 · exact h3 h5
theorem yE {seen:List Tx} (h:∀ j,j < seen.length→seen.getD j []∉lk):ordered seen=true :=by
 rw [CK]
 intro k hk i
 obtain ⟨j,a,e⟩:=nM [] i
 exact h j a<|e ▸ hk
theorem B7 (s:Tx) (w:World):
 bo aw 173 (bh [str s]) w (fun v w'=>v= .int .i64 (pK s)∧w'=w):=by
 refine enter func173 aa ntmps173 aa<|ag fun U=>ay<|U<|aC fun V=>ag fun Y=>au (str s)<|nl<|Y<|aM<|ag fun Z=>p (dW aa aa)<|p aB<|nl<|Z<|cd aa (fun J=> ?_) fun J=> ?_
 exact ag fun a=>ay<|a<|rt<|br<|tr<|aX aa<|⟨by rw [vw (k:=kg) (i:=0) J az az]; rfl,aa⟩
 refine ag fun a=>p (dW aa aa)<|ay<|a<|cd aa (fun M=> ?_) fun M=> ?_
 exact ag fun q=>ay<|q<|rt<|br<|tr<|aX aa<|⟨by rw [vw (k:=kA) (i:=1) M az az]; rfl,aa⟩
 refine ag fun q=>p (dW aa aa)<|ay<|q<|cd aa (fun O=> ?_) fun O=> ?_
 exact ag fun A=>ay<|A<|rt<|br<|tr<|aX aa<|⟨by rw [vw (k:=kP) (i:=2) O az az]; rfl,aa⟩
 refine ag fun A=>p (dW aa aa)<|ay<|A<|cd aa (fun G=> ?_) fun G=> ?_
 exact ag fun C=>ay<|C<|rt<|br<|tr<|aX aa<|⟨by rw [vw (k:=lf) (i:=3) G az az]; rfl,aa⟩
 refine ag fun C=>p (dW aa aa)<|ay<|C<|cd aa (fun I=> ?_) fun I=> ?_
 exact ag fun E=>ay<|E<|rt<|br<|tr<|aX aa<|⟨by rw [vw (k:=lJ) (i:=4) I az az]; rfl,aa⟩
 exact aO<|bn<|V<|ag fun E=>ay<|E<|rt<|aX aa<|⟨by rw [XN (by unfold ec; simp only [gr,tZ,or_false,not_or]; exact ⟨J,M,O,G,I⟩)]; rfl,aa⟩
theorem TU (s:Tx) (w:World):
 bo aw 114 (bh [str s]) w (fun v w'=>v=ak (width s)∧Wk w w'):=by
 refine enter func114 aa ntmps114 aa<|ag fun ai=>ay<|ai<|ag fun am=>au (str s)<|e<|cl Al (B7 s w) aa fun v5 aD ax=> ?_
 obtain ⟨rfl,aA⟩:=ax
 have q:Wk w aD:=by rw [aA]; exact Md.refl _ _
 refine ay<|am<|aC fun an=>ag fun ao=>p mv<|p (ge aa aa)<|nl<|ao<|cd aa (fun M=> ?_) fun M=> ?_
 have C:=tp.1 M
 exact ag fun E=>ay<|E<|rt<|tr<|aX aa<|⟨by rw [LQ C]; rfl,q⟩
 have C:s∉ec:=fun h=>M<|tp.2 h
 refine aO<|an<|aC fun E=>ag fun ap=>au (str s)<|nl<|ap<|aM ?_
 refine ej (fun O ac=> ∃ (b:Bool),(b=decide (s∈tk))∧(Wk w ac)∧(O 8=str s)∧(O 9= .bool b)) ?_ ?_
 refine ag fun i=>p (dW aa aa)<|ay<|i<|cd aa (fun a=> ?_) fun a=> ?_
 exact aO<|tn<|⟨_,(by rw [a]; decide),q,aa,aa⟩
 refine ag fun aq=>p (dW aa aa)<|ay<|aq<|cd aa (fun a=> ?_) fun a=> ?_
 exact aO<|tn<|⟨_,(by rw [a]; decide),q,aa,aa⟩
 refine ag fun ar=>p (dW aa aa)<|ay<|ar<|cd aa (fun a=> ?_) fun a=> ?_
 exact aO<|tn<|⟨_,(by rw [a]; decide),q,aa,aa⟩
 refine ag fun aj=>p (dW aa aa)<|ay<|aj<|cd aa (fun a=> ?_) fun a=> ?_
 exact aO<|tn<|⟨_,(by rw [a]; decide),q,aa,aa⟩
 refine ag fun al=>p (dW aa aa)<|ay<|al<|cd aa (fun a=> ?_) fun a=> ?_
 exact aO<|tn<|⟨_,(by rw [a]; decide),q,aa,aa⟩
 exact rg aa<|p (dW aa aa)<|p aB<|nl<|tn<|⟨_,(by clear C; unfold tk; simp_all [ig,iJ,iS,kf,e9,eJ]),q,aa,aa⟩
 rintro O ac ⟨b,J,I,Z,ab⟩
 refine fx 8 Z<|fx 9 ab<|cb aa (fun a=> ?_) fun a=> ?_
 exact ag fun i=>ay<|i<|rt<|br<|tr<|aX aa<|⟨by rw [YY (of_decide_eq_true<|J.symm.trans a)]; rfl,I⟩
 refine ej (fun ah ae=> ∃ (G:Bool),(G=decide (s=fE∨s=dp))∧(Wk w ae)∧(ah 16= .bool G)) ?_ ?_
 refine ag fun i=>p (dW aa aa)<|ay<|i<|cd aa (fun A=> ?_) fun A=> ?_
 exact aO<|tn<|⟨_,(by rw [A]; decide),I,aa⟩
 exact rg aa<|p (dW aa aa)<|p aB<|nl<|tn<|⟨_,(by clear J Z ab; simp [fE,dp,A]),I,aa⟩
 rintro ah ae ⟨G,Y,V,az⟩
 refine fx 16 az<|cb aa (fun A=> ?_) fun A=> ?_
 exact ag fun i=>ay<|i<|rt<|br<|tr<|aX aa<|⟨by rw [LR (of_decide_eq_true<|Y.symm.trans A)]; rfl,V⟩
 refine aO<|bn<|E<|ag fun i=>ay<|i<|rt<|aX aa ?_
 have av:=of_decide_eq_false<|J.symm.trans a
 have U:=of_decide_eq_false<|Y.symm.trans A
 exact ⟨by rw [YZ C av (fun h=>U<|.inl h) (fun h=>U<|.inr h)]; rfl,V⟩
theorem B8 (B:Nat) (H:gj) (k ln:Nat) (seen:List Tx) (vh:Value) (key:Tx) (w:World) (a:gY w B H k ln seen vh) (ao:seen.length≤70000):
 bo aw 115 (bh [aR H.rb,str key]) w (fun v w'=>v= .bool (decide (key∈seen))∧w'=w):=by
 obtain ⟨am,an,rfl⟩:=cC a.hd
 refine enter func115 aa ntmps115 aa<|ag fun M=>ay<|M<|aC fun O=>ag fun U=>ay<|U<|aM<|lp (fun E q J=> ∃ (i:Nat),(i≤seen.length)∧(∀ j,j < i→seen.getD j []≠key)∧(J=w)∧(q 0=aR H.rb)∧(q 1=str key)∧(q 5=ak i)∧(seen.length - i=E)) _ ⟨0,ab,(fun j G=>by omega),aa,aa,aa,aa,aa⟩ ?_
 rintro E q J ⟨i,hi,I,ae,ai,aj,al,rfl⟩
 refine fx 0 ai<|fx 1 aj<|fx 5 al ?_
 subst ae
 refine aC fun V=>ag fun Y=>au (ak i)<|au (aR H.rb)<|p (nc aa)<|p (fa pA aa)<|p (ld jS aa<|(a7 a.cells).trans aa)<|p (bK eV aa aa)<|p (lt aa aa)<|nl<|Y<|cd aa (fun ah=> ?_) fun ah=> ?_
 refine aO<|V<|aC fun A=>aM<|ag fun Z=>au (aR H.rb)<|p (nc aa)<|p (fa pA aa)<|p (ld jS aa<|(a7 a.cells).trans aa)<|au (ak i)<|p (ba cI aa aa ab<|aJ.ok ((a8 a.hd).2)<|bS ab)<|p (ld bU aa<|cg.get (i:=i) (a8 a.hd).2 ab)<|au (str key)<|p (dW aa aa)<|nl<|Z<|cd aa (fun C=> ?_) fun C=> ?_
 exact ag fun ac=>ay<|ac<|rt<|br<|tr<|tr<|br<|tr<|aX aa<|⟨by rw [decide_eq_true (show key∈seen from C ▸ dV ab)]; rfl,aa⟩
 exact aO<|bn<|A<|rg aa<|au (ak i)<|p (ad aa aa<|bX ab)<|p aB<|nl<|tn<|⟨_,ab,i+1,ab,(fun j G=>by rcases fg j i with h | h <;> first | exact I j h | (rw [show j=i by omega]; exact C)),aa,aa,aa,aa,aa⟩
 exact ext<|bf<|bf<|be<|O<|ag fun A=>p aB<|nl<|A<|rt<|aX aa<|⟨by rw [decide_eq_false (show ¬key∈seen from fun h=>by obtain ⟨j,G,e⟩:=nM [] h; exact I j ab e)]; rfl,aa⟩
theorem BW (B B0 fb:Nat) (F:aT) (V:ep) (x:Nat) (w:World) (U:eF w B B0 fb F V) (aN:F.bw.length≤70000):
 bo aw 117 (bh [aR fb,bP x]) w (fun v w'=>v= .tuple #[.agg (m8<|(dY F.bw x).getD nA).toArray,.bool (dY F.bw x).isSome]∧Wk w w'):=by
 obtain ⟨aq,kr,Z⟩:=cC U.eu
 refine enter func117 aa ntmps117 aa<|ag fun ah=>e<|al rR fun ar ac aL E M=> ?_
 have O:=U.wk E.md
 have G:Hb.aQ ac.heap fb 11=some (.slice aq F.bw.length kr):=by rw [← Z]; exact (a7 O.cells).trans rfl
 have a:=O.eu
 rw [Z] at a
 refine ay<|ah<|aC fun ai=>ag fun aj=>p aB<|nl<|aj<|aM<|lp (fun J q ae=> ∃ (i:Nat),(i≤F.bw.length)∧(∀ j,j < i→(F.bw.getD j nA).flag≠x)∧(ae=ac)∧(q 0=aR fb)∧(q 1=bP x)∧(q 4=aR ar)∧(q 6=ak i)∧(F.bw.length - i=J)) _ ⟨0,ab,(fun j A=>by omega),aa,aa,aa,aa,aa,aa⟩ ?_
 rintro J q ae ⟨i,hi,I,aA,aG,aH,aI,aK,rfl⟩
 refine fx 0 aG<|fx 1 aH<|fx 4 aI<|fx 6 aK ?_
 subst aA
 refine aC fun am=>ag fun an=>au (ak i)<|au (aR fb)<|p (nc aa)<|p (fa pz aa)<|p (ld p7 aa<|G)<|p (bK Ds aa aa)<|p (lt aa aa)<|nl<|an<|cd aa (fun aF=> ?_) fun aF=> ?_
 refine aO<|am<|aC fun C=>aM<|ag fun ao=>au (aR fb)<|p (nc aa)<|p (fa pz aa)<|p (ld p7 aa<|G)<|au (ak i)<|p (ba xE aa aa ab<|aJ.ok ((a8 a).2)<|x9 ab)<|p (fa BK aa)<|p (ld bC aa<|fw (f:=m8) (m:=5) (fun _=>rfl) (a8 a).2 (ur (by omega :i < F.bw.length)) 0 az)<|au (bP x)<|p (bI aa aa)<|nl<|ao<|cd aa (fun Y=> ?_) fun Y=> ?_
 exact ag fun ap=>au (aR fb)<|p (nc aa)<|p (fa pz aa)<|p (ld p7 aa<|G)<|au (ak i)<|p (ba xE aa aa ab<|aJ.ok ((a8 a).2)<|x9 ab)<|p (c8 sv aa (aa)<|fw (f:=m8) (m:=5) (fun _=>rfl) (a8 a).2<|ur (by omega :i < F.bw.length))<|e<|da qi aa aa aa aa (M) (by simp) fun aP aD av=>ay<|ap<|rt<|br<|tr<|tr<|br<|tr<|eA aa (dP (cs:=m8<|F.bw.getD i nA) aa sv aa fun j A=>av.bE j) ee<|⟨by rw [SP I (ur ab) ab]; rfl,E.md.trans' aD fun k hk h=>by omega⟩
 exact aO<|bn<|C<|rg aa<|au (ak i)<|p (ad aa aa<|bX ab)<|p aB<|nl<|tn<|⟨_,ab,i+1,ab,(fun j A=>by rcases fg j i with h | h <;> first | exact I j h | (rw [show j=i by omega]; exact fun h2=>Y<|by rw [h2])),aa,aa,aa,aa,aa,aa⟩
 exact ext<|bf<|bf<|be<|ai<|ag fun C=>p (cU (ps:= []) (L:= [.int .i64 0,.int .i64 0,.bool false,.int .i64 0,.int .i64 0]) KV aa<|aa)<|e<|da qi aa aa aa aa (M) (by simp) fun aS aE ax=>ay<|C<|rt<|eA aa (dP (cs:=m8 nA) aa sv aa fun j A=>ax.bE j) ee<|⟨by rw [SR (fun j A=>I j ab)]; rfl,E.md.trans' aE fun k hk h=>by omega⟩
theorem Tr (B B0 fb:Nat) (F:aT) (V:ep) (x:Nat) (w:World) (C:eF w B B0 fb F V) (aq:F.bw.length≤70000):
 bo aw 233 (bh [aR fb,bP x]) w (fun v w'=>v= .bool (eG F x)∧Wk w w'):=by
 have aE:=C.fO
 refine enter func233 aa ntmps233 aa<|ag fun U=>ay<|U<|aC fun Y=>ag fun Z=>ay<|Z<|aM<|lp (fun G a E=> ∃ (i:Nat),(i≤5)∧(∀ j,j < i→F.sp.getD j 0≠x)∧(E=w)∧(a 0=aR fb)∧(a 1=bP x)∧(a 5=ak i)∧(5 - i=G)) _ ⟨0,ab,(fun j M=>by omega),aa,aa,aa,aa,aa⟩ ?_
 rintro G a E ⟨i,hi,O,aj,ar,av,ax,rfl⟩
 refine fx 0 ar<|fx 1 av<|fx 5 ax ?_
 subst aj
 refine aC fun ac=>ag fun ae=>au (ak i)<|p (lt aa aa)<|nl<|ae<|cd aa (fun ap=> ?_) fun ap=> ?_
 refine aO<|ac<|aC fun q=>aM<|ag fun A=>au (aR fb)<|au (ak i)<|p (nc aa)<|p (fa sY aa)<|p (ke sA aa aa ab)<|p (ld bC aa<|(a7 C.cells).trans<|Ia (i:=i) ab)<|au (bP x)<|p (bI aa aa)<|nl<|A<|cd aa (fun J=> ?_) fun J=> ?_
 exact ag fun ah=>ay<|ah<|rt<|br<|tr<|tr<|br<|tr<|aX aa<|⟨by rw [GH (show x∈F.sp from by obtain rfl :F.sp.getD i 0=x:=ab; exact dV ab)]; rfl,Md.refl _ _⟩
 exact aO<|bn<|q<|rg aa<|au (ak i)<|p (ad aa aa<|bX ab)<|p aB<|nl<|tn<|⟨_,ab,i+1,ab,(fun j M=>by rcases fg j i with h | h <;> first | exact O j h | (rw [show j=i by omega]; exact fun h2=>J<|by rw [h2])),aa,aa,aa,aa,aa⟩
 refine ext<|bf<|bf<|be<|Y<|ag fun q=>au (aR fb)<|au (bP x)<|e<|cl Af (BW B B0 fb F V x E C aq) aa fun aG aH ao=> ?_
 obtain ⟨rfl,I⟩:=ao
 have aF:=I.size
 exact p mv<|p (xt aa aa)<|p (xt aa aa)<|e<|al rR fun az aI aD an ai=>e<|da qi aa aa aa aa (ai) (by simp) fun aJ am aA=>ay<|q<|ag fun A=>p mv<|ay<|A<|rt<|aX aa<|⟨by rw [GI (Jg fun j M=>O j ab)]; rfl,(I.trans an.md).trans' am fun k hk h=>by omega⟩
theorem BX (s:Tx) (w:World) (hs:s.length≤1048576):
 bo aw 274 (bh [str s]) w (fun v w'=>v=ak (gF s)∧Wk w w'):=by
 refine enter func274 aa ntmps274 aa<|ag fun J=>ay<|J<|ag fun M=>au (str s)<|e<|cl uq (vj s w hs) aa fun v5 ae V=> ?_
 obtain ⟨rfl,i⟩:=V
 refine ay<|M<|aC fun O=>ag fun E=>au (str s)<|p (cy u9 aa aa)<|p (bI aa aa)<|p mv<|gs (t:=9) aa (fun G=> ?_) fun G=> ?_
 have ac:=fS (show s.length=0 by omega)
 exact aH aa<|aH aa<|p (bB aa)<|nl<|E<|ct aa<|ag fun a=>ay<|a<|rt<|tr<|aX aa<|⟨by rw [xI (.inl ac)]; rfl,i⟩
 have I:s≠[]:=fun h=>G<|by rw [h]; rfl
 refine aI aa mv<|aI aa (no aa)<|p (bq aa)<|nl<|E<|cb aa (fun q=> ?_) fun q=> ?_
 refine ag fun a=>ay<|a<|rt<|tr<|aX aa ?_
 have Y:gu s=false :=by simpa using q
 exact ⟨by rw [xI (.inr Y)]; rfl,i⟩
 refine aO<|O<|aC fun a=>ag fun U=>au (str s)<|p (cy u9 aa aa)<|p (gt aa aa)<|nl<|U<|cd aa (fun Z=> ?_) fun Z=> ?_
 refine ag fun A=>ay<|A<|rt<|tr<|aX aa ?_
 have C:gu s=true :=by simpa using q
 exact ⟨by rw [Hk I C ab]; rfl,i⟩
 refine aO<|a<|ag fun A=>ay<|A<|rt<|aX aa ?_
 have C:gu s=true :=by simpa using q
 exact ⟨by rw [Hl I C ab]; rfl,i⟩
theorem B5 (s:Tx) (G:Bool) (w:World) (hs:s.length≤1048576):
 bo aw 259 (bh [str s,.bool G]) w (fun v w'=>(∃ (a:Tx) (e:Nat),v= .tuple #[str a,ak e]∧((eB G s= .ok a∧e=0)∨(eB G s= .error e∧e≠0)))∧Wk w w'):=by
 have ao:=rQ s
 refine enter func259 aa ntmps259 aa<|ag fun al=>p aB<|ay<|al<|aC fun ai=>aC fun aj=>rg aa<|au (.bool G)<|au (.bool G)<|gb (t:=11) aa (fun J=> ?_) fun J=> ?_
 refine aI aa (aU (str s) aa)<|aI aa (dW aa aa)<|p (bB aa)<|nl<|aj<|cd aa (fun ac=> ?_) fun ac=> ?_
 exact ag fun I=>p aB<|ay<|I<|rt<|tr<|f2 aa aa aa<|⟨⟨[],0,aa,.inl ⟨by rw [J]; exact JO ac,aa⟩⟩,Md.refl _ _⟩
 have q:eB G s=eB false s:=by rw [J]; exact CR ac
 refine aO<|ai<|ag fun I=>au (str s)<|e<|cl xf (yL s w hs) aa fun am ah Y=> ?_
 obtain ⟨rfl,E⟩:=Y
 refine p mv<|p (xt aa aa)<|p (xt aa aa)<|p (xt aa aa)<|p (xt aa aa)<|p aB<|p aB<|p aB<|ay<|I<|aC fun M=>ag fun O=>p mv<|p (dj aa aa)<|nl<|O<|cd aa (fun ae=> ?_) fun ae=> ?_
 exact ag fun A=>p mv<|p aB<|ay<|A<|rt<|tr<|f2 aa aa aa<|⟨⟨[],_,aa,.inr ⟨q.trans (CN ab),ab⟩⟩,E⟩
 refine aO<|M<|aC fun A=>ag fun U=>p mv<|nl<|U<|cb aa (fun i=> ?_) fun i=> ?_
 exact ag fun C=>p aB<|ay<|C<|rt<|tr<|f2 aa aa aa<|⟨⟨[],114,aa,.inr ⟨q.trans (CO ab i),az⟩⟩,E⟩
 refine aO<|A<|ag fun C=>p mv<|p mv<|e<|cl AE (BX (bA s).1 ah ab) aa fun v28 an Z=> ?_
 obtain ⟨rfl,V⟩:=Z
 refine p aB<|ay<|C<|rt<|f2 aa aa aa ?_
 refine ⟨⟨(bA s).1,gF (bA s).1,aa,?_⟩,E.trans V⟩
 by_cases h:gF (bA s).1=0
 exact .inl ⟨q.trans (CQ ab i h),h⟩
 exact .inr ⟨q.trans (CP ab i h),h⟩
 have q:eB G s=eB false s:=by rw [J]
 refine aH aa<|aH aa<|p (bq aa)<|nl<|aj<|cf aa<|aO<|ai<|ag fun I=>au (str s)<|e<|cl xf (yL s w hs) aa fun am ah Y=> ?_
 obtain ⟨rfl,E⟩:=Y
 refine p mv<|p (xt aa aa)<|p (xt aa aa)<|p (xt aa aa)<|p (xt aa aa)<|p aB<|p aB<|p aB<|ay<|I<|aC fun M=>ag fun O=>p mv<|p (dj aa aa)<|nl<|O<|cd aa (fun ae=> ?_) fun ae=> ?_
 exact ag fun A=>p mv<|p aB<|ay<|A<|rt<|tr<|f2 aa aa aa<|⟨⟨[],_,aa,.inr ⟨q.trans (CN ab),ab⟩⟩,E⟩
 refine aO<|M<|aC fun A=>ag fun U=>p mv<|nl<|U<|cb aa (fun i=> ?_) fun i=> ?_
 exact ag fun C=>p aB<|ay<|C<|rt<|tr<|f2 aa aa aa<|⟨⟨[],114,aa,.inr ⟨q.trans (CO ab i),az⟩⟩,E⟩
 refine aO<|A<|ag fun C=>p mv<|p mv<|e<|cl AE (BX (bA s).1 ah ab) aa fun v28 an Z=> ?_
 obtain ⟨rfl,V⟩:=Z
 refine p aB<|ay<|C<|rt<|f2 aa aa aa ?_
 refine ⟨⟨(bA s).1,gF (bA s).1,aa,?_⟩,E.trans V⟩
 by_cases h:gF (bA s).1=0
 exact .inl ⟨q.trans (CQ ab i h),h⟩
 exact .inr ⟨q.trans (CP ab i h),h⟩
theorem H8 (B fb:Nat) (F:aT) (V:ep) (s:Tx) (w:World) (C:nu w B 0 fb F V) (hk:F.kind=1∨F.kind=2∨F.kind=3) (aD:F.aliases.length≤70000) (hs:s.length≤1048576):
 bo aw 181 (bh [aR fb,str s]) w (fun v w'=>(∃ (a:Value) (e:Nat),v= .tuple #[a,ak e]∧a.oneCell'=true∧((∃ l,e=0∧fR F.kind F.aliases s= .ok l∧Tg w' 0 3 l.length a (l.map bP))∨(e≠0∧fR F.kind F.aliases s= .error e)))∧Wk w w'):=by
 obtain ⟨am,ao,ac⟩:=cC C.eT
 have M:=C.eT
 rw [ac] at M
 have I:Hb.aQ w.heap fb 10=some (.slice am F.aliases.length ao):=by rw [← ac]; exact (a7 C.cells).trans rfl
 refine enter func181 aa ntmps181 aa<|ag fun ae=>p aB<|ay<|ae<|aC fun ah=>aC fun ai=>rg aa<|au (aR fb)<|p (nc aa)<|p (fa uI aa)<|p (ld wP aa<|I)<|p (bK Lu aa aa)<|p (bI aa aa)<|nl<|ai<|cd aa (fun J=> ?_) fun J=> ?_
 have q:F.aliases= []:=fS ab
 refine ag fun G=>au (aR fb)<|p (nc aa)<|p (fa sX aa)<|p (ld bC aa<|(a7 C.cells).trans aa)<|au (str s)<|e<|cl FH (Kj F.kind s _ hk hs) aa fun aF aK ap=> ?_
 obtain ⟨⟨aA,rfl,Z⟩,hE19⟩:=ap
 refine p (xt aa aa)<|p (xt aa aa)<|p aB<|ay<|G<|rt<|tr<|f2 aa aa aa ?_
 obtain ⟨a0,an,rfl⟩:=cC Z
 refine ⟨⟨_,_,aa,aa,?_⟩,hE19⟩
 by_cases h:(ea F.kind s).2=0
 exact .inl ⟨_,h,by rw [xN q]; exact x7 h,(Tg.jN Z).mono<|jD _⟩
 exact .inr ⟨h,by rw [xN q]; exact x6 h⟩
 have q:F.aliases≠[]:=fun h=>by rw [h] at J; exact J rfl
 refine aO<|ah<|ag fun G=>au (str s)<|au (aR fb)<|p (nc aa)<|p (fa uI aa)<|p (ld wP aa<|I)<|p (bK Lu aa aa)<|e<|cl q8 (rI s (F.aliases.length:Nat) _ hs ab) aa fun aG aL aq=> ?_
 obtain ⟨rfl,i⟩:=aq
 refine p mv<|p (xt aa aa)<|p (xt aa aa)<|p aB<|ay<|G<|aC fun aj=>ag fun U=>p mv<|p (dj aa aa)<|p mv<|gs (t:=34) aa (fun av=> ?_) fun av=> ?_
 exact aH aa<|aH aa<|p (bB aa)<|nl<|U<|ct aa<|ag fun A=>p aB<|ay<|A<|rt<|tr<|f2 aa aa aa<|⟨⟨.slice none 0 0,13,aa,aa,.inr ⟨az,Hv q (pG ab).1⟩⟩,i⟩
 refine aI aa mv<|aI aa (bI aa aa)<|p (bq aa)<|nl<|U<|cd aa (fun ar=> ?_) fun ar=> ?_
 refine ag fun A=>p aB<|ay<|A<|rt<|tr<|f2 aa aa aa ?_
 have E:=nO (by omega :(eb s (F.aliases.length:Nat)).2=0)
 rw [show (eb s (F.aliases.length:Nat)).1=0 from by omega] at E
 exact ⟨⟨.slice none 0 0,13,aa,aa,.inr ⟨az,Hz q E⟩⟩,i⟩
 refine aO<|aj<|aC fun A=> ?_
 have E:=nO (by omega :(eb s (F.aliases.length:Nat)).2=0)
 have aE:=qA s (F.aliases.length:Nat) ab
 have ax:(eb s (F.aliases.length:Nat)).1 - 1 < F.aliases.length:=ab
 obtain ⟨v51,O,Y⟩:=ir.get (C.al.wk i) ax
 refine rg aa<|au (aR fb)<|p (nc aa)<|p (fa uI aa)<|p (ld wP aa<|Wk.aQ i I)<|p mv<|p (dN (((eb s (F.aliases.length:Nat)).1 - 1:Nat):Int) aa aa<|bl ab ab)<|p (ba SE aa aa ab<|aJ.ok ((a8<|aW M i).2) fun h=>by rw [h] at O; cases O)<|p (ld pc aa<|aJ.gL (a8<|aW M i).2 O)<|p aB<|ay<|A<|rt<|f2 aa aa aa ?_
 obtain ⟨a0,an,rfl⟩:=Y.slice
 exact ⟨⟨_,0,aa,aa,.inl ⟨_,aa,Hy q E ab,Y⟩⟩,i⟩
theorem H9 (B:Nat) (H:gj) (F:aT) (V:ep) (k ln:Nat) (seen:List Tx) (vh:Value) (s:Tx) (w:World) (E:eF w B 0 H.fb F V) (G:gY w B H k ln seen vh) (hk:F.kind=1∨F.kind=2∨F.kind=3) (ah:F.bw.length≤70000) (hs:s.length≤1048576):
 bo aw 174 (bh [aR H.rb,str s]) w (fun v w'=>(∃ x e:Nat,v= .tuple #[bP x,ak e]∧((gH F s= .ok x∧x≠0∧e=0)∨(gH F s= .error e∧e≠0)))∧Wk w w'):=by
 refine enter func174 aa ntmps174 aa<|ag fun I=>p aB<|ay<|I<|ag fun J=>au (aR H.rb)<|p (nc aa)<|p (fa lI aa)<|p (ld ib aa<|(a7 G.cells).trans aa)<|p (nc aa)<|p (fa sX aa)<|p (ld bC aa<|(a7 E.cells).trans aa)<|au (str s)<|e<|cl Pg (W9 F.kind s w hk hs) aa fun aj ai Z=> ?_
 obtain ⟨rfl,a⟩:=Z
 refine p mv<|p (xt aa aa)<|p (xt aa aa)<|p aB<|ay<|J<|aC fun M=>ag fun O=>p mv<|p (dj aa aa)<|nl<|O<|cd aa (fun ae=> ?_) fun ae=> ?_
 exact ag fun i=>p mv<|p aB<|ay<|i<|rt<|tr<|f2 aa aa aa<|⟨⟨0,(gN F.kind s).2,aa,.inr ⟨H3 ab,ab⟩⟩,a⟩
 refine aO<|M<|ag fun i=>au (aR H.rb)<|p (nc aa)<|p (fa lI aa)<|p (ld ib aa<|(a7 (G.wk a).cells).trans aa)<|p mv<|e<|cl Ph (Tr B 0 H.fb F V (gN F.kind s).1 ai (E.wk a) ah) aa fun al am ac=> ?_
 obtain ⟨rfl,C⟩:=ac
 refine ay<|i<|aC fun U=>ag fun Y=>p mv<|nl<|Y<|cb aa (fun A=> ?_) fun A=> ?_
 exact ag fun q=>p aB<|ay<|q<|rt<|tr<|f2 aa aa aa<|⟨⟨0,115,aa,.inr ⟨H4 ab A,az⟩⟩,a.trans C⟩
 exact aO<|U<|ag fun q=>p mv<|p aB<|p aB<|nl<|q<|rt<|f2 aa aa aa<|⟨⟨_,0,aa,.inl ⟨H5 ab A,HU ab,aa⟩⟩,a.trans C⟩
theorem TN (ah:World) (H:gj) (F:aT) (k ln:Nat) (seen r:List Tx) (aK:Nat) (ar:Option Addr) (cr:Nat) (w:World) (aY:mh ah w H F k ln seen) (aZ:Tg w aK 9 r.length (.slice ar r.length cr) (r.map str)) (bc:r.length=2) (bd:∀ x∈r,x.length≤70000):
 bo aw 175 (bh [aR H.rb,.slice ar r.length cr]) w (fL ah H seen<|kB F seen (H.rows.drop k) ln r):=by
 obtain ⟨V,vh,q,a,C,G,aD⟩:=aY
 have aG:=aZ.cM
 have bb:=a.lo
 have a9:=C.len
 obtain ⟨a5,a6,rfl⟩:=cC a.hd
 have bg:=C.sl
 refine enter func175 aa ntmps175 aa<|ag fun aL=>ay<|aL<|aC fun aN=>ag fun aP=>ay<|aP<|aM<|lp (fun aF al aE=> ∃ (i:Nat),(i≤seen.length)∧(∀ j,j < i→seen.getD j []∉lk)∧(aE=w)∧(al 0=aR H.rb)∧(al 1= .slice ar r.length cr)∧(al 5=ak i)∧(seen.length - i=aF)) _ ⟨0,ab,(fun j ac=>by omega),aa,aa,aa,aa,aa⟩ ?_
 rintro aF al aE ⟨i,hi,ae,aV,a1,a2,a3,rfl⟩
 refine fx 0 a1<|fx 1 a2<|fx 5 a3 ?_
 subst aV
 refine aC fun aQ=>ag fun aS=>au (ak i)<|au (aR H.rb)<|p (nc aa)<|p (fa pA aa)<|p (ld jS aa<|(a7 a.cells).trans aa)<|p (bK eV aa aa)<|p (lt aa aa)<|nl<|aS<|cd aa (fun a0=> ?_) fun a0=> ?_
 refine aO<|aQ<|aC fun O=>aM<|ag fun ao=>au (aR H.rb)<|p (nc aa)<|p (fa pA aa)<|p (ld jS aa<|(a7 a.cells).trans aa)<|au (ak i)<|p (ba cI aa aa ab<|aJ.ok ((a8 a.hd).2)<|bS ab)<|p (ld bU aa<|cg.get (i:=i) (a8 a.hd).2 ab)<|e<|cl Al (B7 (seen.getD i []) aE) aa fun bi bj aW=> ?_
 obtain ⟨rfl,a4⟩:=aW
 subst a4
 refine ay<|ao<|ag fun M=>p mv<|p (ge aa aa)<|p mv<|gs (t:=26) aa (fun av=> ?_) fun av=> ?_
 exact aH aa<|aH aa<|aH aa<|aH aa<|aH aa<|aH aa<|aH aa<|aH aa<|p (bB aa)<|p mv<|aH aa<|aH aa<|aH aa<|aH aa<|aH aa<|aH aa<|aH aa<|aH aa<|p (bB aa)<|p mv<|aH aa<|aH aa<|aH aa<|aH aa<|aH aa<|aH aa<|aH aa<|aH aa<|p (bB aa)<|nl<|M<|ct aa<|ag fun A=>ay<|A<|rt<|br<|tr<|tr<|br<|tr<|aX aa<|⟨.inr ⟨ln,113,uT (k:=seen.getD i []) (yD<|.inl<|tp.1 av) (dV ab),az,aa,a.dq⟩,G⟩
 refine aI aa (aU (aR H.rb) aa)<|aI aa (nc aa)<|aI aa (fa pA aa)<|aI aa (ld jS aa<|(a7 a.cells).trans aa)<|aI aa (aU (ak i) aa)<|aI aa (ba cI aa aa ab<|aJ.ok ((a8 a.hd).2)<|bS ab)<|aI aa (ld bU aa<|cg.get (i:=i) (a8 a.hd).2 ab)<|aI aa (dW aa aa)<|p (bq aa)<|p mv<|gs (t:=36) aa (fun ax=> ?_) fun ax=> ?_
 exact aH aa<|aH aa<|aH aa<|aH aa<|aH aa<|aH aa<|aH aa<|aH aa<|p (bB aa)<|p mv<|aH aa<|aH aa<|aH aa<|aH aa<|aH aa<|aH aa<|aH aa<|aH aa<|p (bB aa)<|nl<|M<|ct aa<|ag fun A=>ay<|A<|rt<|br<|tr<|tr<|br<|tr<|aX aa<|⟨.inr ⟨ln,113,uT (k:=seen.getD i []) (yD<|.inr<|.inl ax) (dV ab),az,aa,a.dq⟩,G⟩
 refine aI aa (aU (aR H.rb) aa)<|aI aa (nc aa)<|aI aa (fa pA aa)<|aI aa (ld jS aa<|(a7 a.cells).trans aa)<|aI aa (aU (ak i) aa)<|aI aa (ba cI aa aa ab<|aJ.ok ((a8 a.hd).2)<|bS ab)<|aI aa (ld bU aa<|cg.get (i:=i) (a8 a.hd).2 ab)<|aI aa (dW aa aa)<|p (bq aa)<|p mv<|gs (t:=46) aa (fun aA=> ?_) fun aA=> ?_
 refine aH aa<|aH aa<|aH aa<|aH aa<|aH aa<|aH aa<|aH aa<|aH aa<|p (bB aa)<|nl<|M<|ct aa<|ag fun A=>p aB<|nl<|A<|rt<|br<|tr<|tr<|br<|tr<|aX aa ?_
 exact ⟨.inr ⟨ln,113,uT (k:=seen.getD i []) (yD<|.inr<|.inr<|.inl aA) (dV ab),az,aa,a.dq⟩,G⟩
 refine aI aa (aU (aR H.rb) aa)<|aI aa (nc aa)<|aI aa (fa pA aa)<|aI aa (ld jS aa<|(a7 a.cells).trans aa)<|aI aa (aU (ak i) aa)<|aI aa (ba cI aa aa ab<|aJ.ok ((a8 a.hd).2)<|bS ab)<|aI aa (ld bU aa<|cg.get (i:=i) (a8 a.hd).2 ab)<|aI aa (dW aa aa)<|p (bq aa)<|nl<|M<|cd aa (fun ap=> ?_) fun ap=> ?_
 exact ag fun A=>ay<|A<|rt<|br<|tr<|tr<|br<|tr<|aX aa<|⟨.inr ⟨ln,113,uT (k:=seen.getD i []) (yD<|.inr<|.inr<|.inr ap) (dV ab),az,aa,a.dq⟩,G⟩
 exact aO<|bn<|O<|rg aa<|au (ak i)<|p (ad aa aa<|bX ab)<|p aB<|nl<|tn<|⟨_,ab,i+1,ab,(fun j ac=>by rcases fg j i with h | h <;> first | exact ae j h | (rw [show j=i by omega]; exact V8 (fun h=>av<|tp.2 h) ax aA ap)),aa,aa,aa,aa,aa⟩
 refine ext<|bf<|bf<|be<|aN<|aC fun O=>ag fun ao=>au (.slice ar r.length cr)<|p (ba cI aa aa ab<|aJ.ok (aG.2)<|bS ab)<|p (ld bU aa<|cg.get (i:=1) aG.2 ab)<|nl<|ao<|aM<|ag fun M=>p (dW aa aa)<|ay<|M<|cd aa (fun Z=> ?_) fun Z=> ?_
 refine rg aa<|au (aR H.rb)<|p (nc aa)<|p (fa lI aa)<|p (ld ib aa<|(a7 a.cells).trans aa)<|p (nc aa)<|p (fa sX aa)<|e<|cJ gB aa aa (v:=ak 1) aa q.cells (by show _ < 13; omega) fun ai E U=>nl<|bn<|O<|ag fun A=>ay<|A<|rt<|aX aa ?_
 have J:ordered seen=true :=yE fun j ac=>ae j ab
 have hk:jw (r.getD 1 [])=1:=by unfold jw; rw [if_pos (show r.getD 1 []=ry from Z)]
 have Y:=q.put (F':= {F with kind:=1}) E U rfl rfl rfl rfl q.fO
 have I:Wk ah ai:=G.trans' E fun k hk h=>by have :=q.lo; omega
 exact ⟨.inl ⟨_,k,ln,(ym J ab).trans (by rw [hk]),aa,⟨V,_,Y,a.fb q E,⟨C.len,C.sl,C.row,by show 1=1∨1=2∨1=3; decide⟩,I,aD⟩⟩,I⟩
 refine ag fun A=>p (dW aa aa)<|ay<|A<|cd aa (fun aj=> ?_) fun aj=> ?_
 refine rg aa<|au (aR H.rb)<|p (nc aa)<|p (fa lI aa)<|p (ld ib aa<|(a7 a.cells).trans aa)<|p (nc aa)<|p (fa sX aa)<|e<|cJ gB aa aa (v:=ak 2) aa q.cells (by show _ < 13; omega) fun ai E U=>nl<|bn<|O<|ag fun am=>ay<|am<|rt<|aX aa ?_
 have J:ordered seen=true :=yE fun j ac=>ae j ab
 have hk:jw (r.getD 1 [])=2:=by unfold jw; rw [if_neg (show ¬r.getD 1 []=ry from Z),if_pos (show r.getD 1 []=tc from aj)]
 have Y:=q.put (F':= {F with kind:=2}) E U rfl rfl rfl rfl q.fO
 have I:Wk ah ai:=G.trans' E fun k hk h=>by have :=q.lo; omega
 exact ⟨.inl ⟨_,k,ln,(ym J ab).trans (by rw [hk]),aa,⟨V,_,Y,a.fb q E,⟨C.len,C.sl,C.row,by show 2=1∨2=2∨2=3; decide⟩,I,aD⟩⟩,I⟩
 refine ag fun am=>p (dW aa aa)<|ay<|am<|cd aa (fun aq=> ?_) fun aq=> ?_
 refine rg aa<|au (aR H.rb)<|p (nc aa)<|p (fa lI aa)<|p (ld ib aa<|(a7 a.cells).trans aa)<|p (nc aa)<|p (fa sX aa)<|e<|cJ gB aa aa (v:=ak 3) aa q.cells (by show _ < 13; omega) fun ai E U=>nl<|bn<|O<|ag fun an=>ay<|an<|rt<|aX aa ?_
 have J:ordered seen=true :=yE fun j ac=>ae j ab
 have hk:jw (r.getD 1 [])=3:=by unfold jw; rw [if_neg (show ¬r.getD 1 []=ry from Z),if_neg (show ¬r.getD 1 []=tc from aj),if_pos (show r.getD 1 []=uU from aq)]
 have Y:=q.put (F':= {F with kind:=3}) E U rfl rfl rfl rfl q.fO
 have I:Wk ah ai:=G.trans' E fun k hk h=>by have :=q.lo; omega
 exact ⟨.inl ⟨_,k,ln,(ym J ab).trans (by rw [hk]),aa,⟨V,_,Y,a.fb q E,⟨C.len,C.sl,C.row,by show 3=1∨3=2∨3=3; decide⟩,I,aD⟩⟩,I⟩
 refine ag fun an=>ay<|an<|rt<|br<|tr<|aX aa ?_
 have J:ordered seen=true :=yE fun j ac=>ae j ab
 exact ⟨.inr ⟨ln,114,IS J (by unfold jw; rw [if_neg (show ¬r.getD 1 []=ry from Z),if_neg (show ¬r.getD 1 []=tc from aj),if_neg (show ¬r.getD 1 []=uU from aq)]),az,aa,a.dq⟩,G⟩
end Go.Hb
end
