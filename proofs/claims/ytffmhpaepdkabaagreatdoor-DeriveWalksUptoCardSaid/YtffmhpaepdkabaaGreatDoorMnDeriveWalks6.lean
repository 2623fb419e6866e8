/-
  Walks and plain laws that the law rests on, laid together. No conditions but those that each theorem names.
-/
import Derived.Test.YtffmhpaepdkabaaGreatDoorMnDeriveWalks5
set_option linter.unusedVariables false
set_option maxRecDepth 20000
set_option maxHeartbeats 1000000
open Bool renaming or_eq_false_iff→nA
open Classical renaming not_not→jr
open Decidable renaming of_not_not→Ec
open Go.Proofs.Tryz renaming prog→aw
open Go.Value renaming bool→bU,oneCell'→gF,ownBlock→iW,slice→bS,tuple→gD
open Go.World renaming ownsRow→bw,ownsRow_nil→dC
open List renaming all_cons→uh,all_eq_true→ml,append_assoc→dH,append_nil→ei,drop_drop→ss,drop_eq_getElem_cons→Nt,drop_eq_nil_of_le→gV,drop_take→su,eq_nil_of_length_eq_zero→fY,ext_getElem?→qa,filter_append→Nv,filter_nil→NA,flatMap_append→nC,flatMap_singleton→o5,getD_cons_zero→lT,getD_eq_getElem?_getD→da,getElem?_append_left→mm,getElem?_append_right→mV,getElem?_cons_zero→uj,getElem?_drop→ri,getElem?_eq_getElem→cI,getElem?_eq_some_iff→fS,getElem?_set→k5,getElem?_take→o6,getElem?_zip_eq_some→jz,length→jD,length_append→bM,length_cons→c7,length_drop→fT,length_eq_zero_iff→wV,length_map→fM,length_nil→fU,length_pos_iff→lF,length_set→wW,length_singleton→e9,length_take→dQ,length_zip→zT,map_append→ir,mem_append→jF,mem_cons→e7,mem_cons_of_mem→rj,mem_filter→NL,mem_of_getElem?→iR,mem_of_mem_take→NM,mem_singleton→j5,not_mem_nil→uu,take_of_length_le→eU,take_succ_cons→qe,toArray→bh
open Nat renaming add_comm→NX,add_le_add_left→zX,le_refl→cD,le_trans→gk,lt_or_ge→fu,zero_le→jG
open Option.some renaming inj→rk,injEq→fV
open Prod.mk renaming injEq→sD
open UInt8 renaming toNat_inj→k6,toNat_lt→iX
open Go.Proofs.Tryz
open Go.Hb.ea Go.Proofs Go.Hb.fw Go.Hb.gl

section
namespace Go.Hb.kN
open Go.Hb.lU Go.Hb.nE Go.Hb.kq Go.Hb.iw Go.Hb.jR Go.Hb.xe Go.Hb.j8
theorem TX:BE aw 58 3=some (52,3):=aj
def pI (q:bH×Value):List Value:= [str q.1.1,q.2]
def kb (l:List (bH×Value)):List Value:=l.flatMap pI
theorem Hp (l:List (bH×Value)) (q:bH×Value):kb (l++ [q])=kb l++pI q:=by simp [kb]
theorem SQ (l:List (bH×Value)):(kb l).length=l.length*2:=nT (f:=pI) (m:=2) (fun _=>rfl) l
theorem rU {w:World} {B e size n k:Nat} {v:Value} {xs:List Value} (h:bw w B e size v n xs) (hk:v.ownBlock=some k) (q:∀ cur z,w.heap[k]?≠some (.cells cur e z)):False:=by
 rcases h.2 with ⟨rfl,rfl⟩ | ⟨g,cap,cur,rfl,_,i,_⟩
 · cases hk
 · have a:g=k:=by simpa [iW] using hk
   subst a
   exact q _ _ i
structure mZ (w:World) (B:Nat) (f:Value→Option Value) (xs:List bH):Prop where
 own:∀ s:Tx,bw w B 3 1 ((f<|str s).getD<|bS none 0 0) (idxs s xs).length ((idxs s xs).map bQ)
 nil:∀ s:Tx,idxs s xs= []→(f<|str s).getD (bS none 0 0)=(bS none 0 0)
theorem mZ.md {G:Nat→Prop} {w w':World} {B:Nat} {f:Value→Option Value} {xs:List bH} (h:mZ w B f xs) (hm:Md G w w') (a:∀ k,G k→∀ cur z,w.heap[k]?≠some (.cells cur 3 z)):mZ w' B f xs:=by
 refine ⟨fun s=> ?_,h.nil⟩
 refine dz (h.own s) hm fun k hk q=> ?_
 exact rU (h.own s) hk fun cur z i=>a k q cur z i
theorem C5 {w:World} {B B' k n i:Nat} {v q:Value} {xs A:List Value} (h:bw w B 3 1 v n xs) (I:bw w B' 3 1 q i A) (hk:v.ownBlock=some k) (M:q.ownBlock=some k) (hn:0 < n) (Z:0 < i):xs[0]? =A[0]? :=by
 rcases h.2 with ⟨rfl,rfl⟩ | ⟨g,cap,cur,rfl,_,J,_,_,_,O⟩
 · omega
 · rcases I.2 with ⟨rfl,rfl⟩ | ⟨G,V,Y,rfl,_,a,_,_,_,U⟩
   · omega
   · have C:g=k:=by simpa [iW] using hk
     have E:G=k:=by simpa [iW] using M
     subst C E
     rw [J] at a
     cases a
     rw [← O,← U,o6,o6,if_pos ab,if_pos ab]
theorem mZ.sep {w:World} {B k:Nat} {f:Value→Option Value} {xs:List bH} {s t:Tx} (h:mZ w B f xs) (G:s≠t) (hs:((f<|str s).getD<|bS none 0 0).ownBlock=some k):((f<|str t).getD<|bS none 0 0).ownBlock≠some k:=by
 intro a
 have A:idxs s xs≠[]:=fun e=>by rw [h.nil s e] at hs; cases hs
 have C:idxs t xs≠[]:=fun e=>by rw [h.nil t e] at a; cases a
 have he:=C5 (h.own s) (h.own t) hs a (lF.2 A)<|lF.2 C
 cases h1:idxs s xs with
 | nil=>exact A h1
 | cons i l=>
   cases h2:idxs t xs with
   | nil=>exact C h2
   | cons j m=>
     rw [h1,h2] at he
     have E:i=j:=by have h:=he; simp only [List.map_cons,uj,fV,bQ,Value.int.injEq,true_and] at h; omega
     subst E
     have m1:i∈idxs s xs:=by rw [h1]; simp
     have q:i∈idxs t xs:=by rw [h2]; simp
     unfold idxs at m1 q
     have I:=of_decide_eq_true (NL.1 m1).2
     have J:=of_decide_eq_true (NL.1 q).2
     exact G<|I.symm.trans J
theorem mZ.put {w q I:World} {B mb:Nat} {f:Value→Option Value} {xs:List bH} {x:bH} {v:Value} (h:mZ w B f xs) (hm:Md (fun k=>((f<|str x.1).getD<|bS none 0 0).ownBlock=some k) w q)
 (G:bw q B 3 1 v (idxs x.1 xs++ [xs.length]).length ((idxs x.1 xs++ [xs.length]).map bQ)) (E:∀ cur z,q.heap[mb]?≠some (.cells cur 3 z)) (C:Md (fun k=>k=mb) q I):mZ I B (bW f (str x.1) v) (xs++ [x]):=by
 refine ⟨fun s=> ?_,fun s hs=> ?_⟩
 · by_cases a:x.1=s
   · subst a
     rw [vB,Ct,if_pos rfl]
     exact dz G C fun k hk i=>rU G hk fun cur z A=>E cur z<|i ▸ A
   · rw [tE (fun e=>a (str_inj.1 e).symm),Ct,if_neg a,ei]
     have h1:=dz (h.own s) hm fun k hk i=>h.sep a i hk
     exact dz h1 C fun k hk i=>rU h1 hk fun cur z A=>E cur z<|i ▸ A
 · rw [Ct] at hs
   by_cases a:x.1=s
   · rw [if_pos a] at hs; simp at hs
   · rw [if_neg a,ei] at hs
     rw [tE (fun e=>a (str_inj.1 e).symm)]; exact h.nil s hs
structure k9 (w:World) (B wb mb:Nat) (va:Value) (vs:List Value) (xs:List bH):Prop where
 cells:w.heap[wb]? =some (.cells [va,.map (some mb)].toArray 186 (0,0))
 own:bw w B 72 2 va xs.length (kb<|xs.zip vs)
 fl:eB w B 51 vs (xs.map (·.2))
 mp:∃ f,dy w.heap mb jo f∧mZ w B f xs
theorem k9.md {G:Nat→Prop} {w w':World} {B wb mb:Nat} {va:Value} {vs:List Value} {xs:List bH} (h:k9 w B wb mb va vs xs) (hm:Md G w w') {L:List Nat} (a:TF w L G) (q:(L.contains 188 || L.contains 74 || L.contains 53 || L.contains 5)=false) (E:¬G mb):k9 w' B wb mb va vs xs:=by
 simp only [nA] at q
 obtain ⟨⟨⟨h1,h2⟩,h3⟩,h4⟩:=q
 obtain ⟨f,A,C⟩:=h.mp
 exact ⟨hm.ic a h.cells h1,cx h.own hm a h2,h.fl.md hm (fun k hk cur z i=>a.no (dA i) h3 hk),⟨f,A.md hm E,C.md hm fun k hk cur z i=>a.no (dA i) h4 hk⟩⟩
theorem k9.wk {w w':World} {B wb mb:Nat} {va:Value} {vs:List Value} {xs:List bH} (h:k9 w B wb mb va vs xs) (hm:Wk w w'):k9 w' B wb mb va vs xs:=h.md (L:= []) hm (fun _ hk=>hk.elim) rfl id
theorem Bj {F:aU} {t:Tx} {ln:Nat} {row:List Tx} {rows:List Rw} (h:¬65536 < t.length) (h1:bR t=(ln,row)::rows) (h2:(ll row).2≠0):∃ e:Nat,(ll row).2=(e:Int)∧fq F t= .error (ln,e):=by
 unfold ll at h2 ⊢
 by_cases a:row.length≠1
 · rw [if_pos a]; exact ⟨111,rfl,SC h h1 a⟩
 · rw [if_neg a] at h2 ⊢
   have h3:=pQ (s:=row.getD 0 []) (most:=8192) h2
   exact ⟨13,h3.2,SF h h1 (jr.1 a) h3.1⟩
theorem Hf {F:aU} {t:Tx} {ln:Nat} {row:List Tx} {rows:List Rw} (h:¬65536 < t.length) (h1:bR t=(ln,row)::rows) (h2:(ll row).2=0):∃ n:Nat,(ll row).1=n∧n≤8192∧fq F t=fi F ((bL t).length+1) n rows:=by
 unfold ll at h2 ⊢
 by_cases a:row.length≠1
 · rw [if_pos a] at h2; cases h2
 · rw [if_neg a] at h2 ⊢
   exact ⟨_,aa,by have :=qN (row.getD 0 []) 8192 h2; omega,Hh h h1 (jr.1 a)<|n8 h2⟩
theorem zh {u:Tx} {a:Value} (h:a.oneCell'=true):[str u,a].all gF=true :=by rw [uh,uh,h]; rfl
def Oc (l e:Nat):Value:= .agg [.int .i64 2,.int .i64 (l:Nat),.int .i64 (e:Nat)].toArray
def N8 (w':World) (B0:Nat) (xs:List bH) (v:Value):Prop := ∃ B wb mb va vs,B0≤B∧v= .tuple #[.pointer (some ⟨wb,0,none⟩),.agg [.int .i64 0,.int .i64 0,.int .i64 0].toArray]∧k9 w' B wb mb va vs xs∧B0≤wb∧B0≤mb
def N7 (e:Nat×Nat) (v:Value):Prop :=v= .tuple #[.pointer none,Oc e.1 e.2]
def lW (F:aU) (t:Tx) (w:World) (v:Value) (w':World):Prop :=(match fq F t with | .ok xs=>N8 w' w.heap.size xs v | .error e=>N7 e v)∧Wk w w'
theorem lW.no {F:aU} {t:Tx} {w w':World} {l e:Nat} (h:fq F t= .error (l,e)) (hm:Wk w w'):lW F t w (.tuple #[.pointer none,.agg [.int .i64 2,.int .i64 (l:Nat),.int .i64 (e:Nat)].toArray]) w':=by
 unfold lW; rw [h]; exact ⟨rfl,hm⟩
theorem SJ (B fb mc:Nat) (F:aU) (V:ff) (t:Tx) (w:World) (cw:dX w B fb mc F V) (d0:∃ seen,kM F [] seen) (e5:Nx F) (hs:t.length≤1048576):
 bp aw 46 (bh [aT fb,str t]) w (lW F t w):=by
 refine enter func46 aa ntmps46 aa<|ag fun dc=>p aE<|e<|fg p7 fun bN fE fS cy co=> ?_
 have cn:bP fE.heap bN [.int .i64 0,.int .i64 0,.int .i64 0]:=⟨_,co⟩
 refine nl<|dc<|aB fun dm=>ag fun dr=>au (aT fb)<|p (lN vV aa aa)<|nl<|dr<|cf (aa)<|aQ<|dm<|ag fun ds=>au (str t)<|e<|cl Gt (Lx t _ hs) aa fun gy ce ek=> ?_
 obtain ⟨⟨fJ,rfl,cK⟩,hE22⟩:=ek
 have cu:=cy.md.trans hE22
 have gi:=cy.size
 refine p mv<|p (xt aa aa)<|p (xt aa aa)<|p aE<|ay<|ds<|aB fun dt=>ag fun du=>p mv<|p (cO aa aa)<|nl<|du<|cd aa (fun b7=> ?_) fun b7=> ?_
 have cG:65536 < t.length:=Classical.byContradiction fun h=>b7<|by rw [if_neg h]
 refine ag fun bC=>p mv<|e<|cl sW (s6 0 (if 65536 < t.length then 10 else 0) ce) aa fun v28 gI el=> ?_
 obtain ⟨rfl,bT⟩:=el
 have ge:=(hE22.trans bT).size
 refine p aE<|e<|dj jV aa aa aa aa (Wk.B (hE22.trans bT) cn) (by simp) fun gU ed dW=>nl<|bC<|rt<|tr<|eD aa ej (dT (cs:= [.int .i64 2,.int .i64 0,.int .i64 (if 65536 < t.length then 10 else 0)]) aa lh aa fun j an=>dW.bG j) ?_
 have h:=lW.no (F:=F) (Hi cG)<|(cu.trans bT).trans' ed fun q C h=>by omega
 show lW F t w (.tuple #[.pointer none,.agg [.int .i64 2,.int .i64 0,.int .i64 (if 65536 < t.length then 10 else 0)].toArray]) _
 rw [if_pos cG]
 exact h
 have a2:¬65536 < t.length:=fun h=>b7<|by rw [if_pos h]; decide
 rw [if_neg a2] at cK
 obtain ⟨c5,ci,rfl⟩:=cE cK
 have f0:=nY t
 refine aQ<|dt<|ag fun bC=>au (str t)<|e<|cl Gs (KV t _ hs) aa fun v31 aq em=> ?_
 obtain ⟨⟨a31,rfl,cJ⟩,hE31⟩:=em
 rw [if_neg a2] at cJ
 obtain ⟨c9,bo,bq⟩:=cJ
 obtain ⟨ar,cr,rfl⟩:=cE bo
 have ax:=cu.trans hE31
 have aN:=Wk.B (hE22.trans hE31) cn
 have gf:=(hE22.trans hE31).size
 have c3:=yV t
 refine p mv<|p (xt aa aa)<|p (xt aa aa)<|p aE<|ay<|bC<|aB fun dv=>ag fun dw=>p mv<|p (bJ zi aa aa)<|p (bK aa aa)<|nl<|dw<|cd aa (fun b8=> ?_) fun b8=> ?_
 have e4:bR t= []:=fY ab
 refine ag fun bs=>p mv<|p (bJ eZ aa aa)<|p (bF (((bL t).length+1:Nat):Int) aa aa<|bl ab ab)<|e<|cl sW (s6 ((bL t).length+1:Nat) 116 aq) aa fun v40 gJ en=> ?_
 obtain ⟨rfl,bU⟩:=en
 have gg:=bU.size
 exact p aE<|e<|dj jV aa aa aa aa (Wk.B bU aN) (by simp) fun gW ee dY=>nl<|bs<|rt<|tr<|eD aa ej (dT (cs:= [.int .i64 2,ak ((bL t).length+1),.int .i64 116]) aa lh aa fun j an=>dY.bG j)<|lW.no (Hj a2 e4)<|(ax.trans bU).trans' ee fun q C h=>by omega
 obtain ⟨⟨c6,aK⟩,rest,U⟩:∃ q rest,bR t=q::rest:=by
  cases h:bR t with
  | nil=>rw [h] at b8; exact absurd rfl b8
  | cons q rest=>exact ⟨q,rest,rfl⟩
 have cb:=bq.1
 rw [U] at bo bq cb c3
 obtain ⟨⟨aI,fy⟩,rvs',rfl⟩:∃ q cc,c9=q::cc:=by
  cases c9 with
  | nil=>exact absurd cb<|by simp
  | cons q cc=>exact ⟨q,cc,rfl⟩
 obtain ⟨fd,c1⟩:=bq.2 0 (aI,fy) (c6,aK) rfl rfl
 obtain rfl :aI=c6:=fd
 obtain ⟨a0,dx,rfl⟩:=c1.slice
 have aY:=(ba bo).2
 have eT:=(ba bo).1
 have cP:∀ q∈(aI,aK)::rest,q.2.length≤70000∧∀ x∈q.2,x.length≤70000:=fun q C=>by
  have h:=yW (show q∈bR t by rw [U]; exact C)
  exact ⟨ab,fun x ft=>by have :=(h.2.2.2.2 x ft).2; omega⟩
 have cN:=cP _<|List.mem_cons_self ..
 simp only [c7] at cb c3 eT
 refine aQ<|dv<|ag fun bs=>p mv<|p (bc ta aa aa (by rw [U]; simp only [c7]; omega)<|aO.ok (aY)<|lQ<|by simp)<|p (di xn aa (aa)<|lR (i:=0) aY aa)<|e<|cl QP (SB aI aK ce.heap.size a0 dx aq c1 cN.2 cN.1) aa fun gz fD eo=> ?_
 obtain ⟨rfl,aC⟩:=eo
 have gh:=aC.size
 refine p mv<|p (xt aa aa)<|p (xt aa aa)<|p aE<|ay<|bs<|aB fun dd=>ag fun de=>p mv<|p (cO aa aa)<|nl<|de<|cd aa (fun cH=> ?_) fun cH=> ?_
 obtain ⟨fO,eV,b5⟩:=Bj (F:=F) a2 U cH
 refine ag fun bt=>p mv<|p (bc ta aa aa (by rw [U]; simp only [c7]; omega)<|aO.ok (aY.wk aC)<|lQ<|by simp)<|p (fa yf aa)<|p (ld bz aa<|lR (i:=0) (aY.wk aC) aa 0 az)<|p mv<|e<|cl sW (s6 (aI:Nat) (ll aK).2 fD) aa fun gA gK ep=> ?_
 obtain ⟨rfl,bW⟩:=ep
 have gk:=bW.size
 refine p aE<|e<|dj jV aa aa aa aa (Wk.B (aC.trans bW) aN) (by simp) fun gP d8 dF=>nl<|bt<|rt<|tr<|eD aa ej (dT (cs:= [.int .i64 2,ak aI,.int .i64 (ll aK).2]) aa lh aa fun j an=>dF.bG j) ?_
 have h:=lW.no b5<|(ax.trans<|aC.trans bW).trans' d8 fun q C h=>by omega
 show lW F t w (.tuple #[.pointer none,.agg [.int .i64 2,ak aI,.int .i64 (ll aK).2].toArray]) _
 rw [eV]
 exact h
 obtain ⟨n,cR,f1,b5⟩:=Hf (F:=F) a2 U (show (ll aK).2=0 by omega)
 have d7:=cw.wk<|ax.trans aC
 obtain ⟨seen,cp⟩:=d0
 have fW:=cp.len
 refine aQ<|dd<|ag fun bt=>e<|vt fun Y gL fT b3 dU=> ?_
 have gl:=b3.size
 refine p (c8 (ps:= [(1,.map (some Y))]) (L:= [.slice none 0 0,.map (some Y)]) YA aa<|aa)<|e<|oE aa fun E fF fU bd dV=> ?_
 have gm:=bd.size
 have d4:=aC.trans<|b3.md.trans bd.md
 refine ay<|bt<|ag fun df=>au (aT fb)<|e<|cl AJ (Ab B fb mc F V fF (d7.wk<|b3.md.trans bd.md) ab e5) aa fun gB gM er=> ?_
 obtain ⟨⟨fI,rfl,_⟩,hE60⟩:=er
 have gn:=hE60.size
 refine p (TD TX E7 aa aa)<|e<|al ZV fun bD gD fQ a9 dG=> ?_
 have f5:=a9.size
 refine e<|dj Sj aa aa aa aa (dG) (by simp) fun M a5 dH=> ?_
 have d2:Wk aq M:=(d4.trans<|hE60.trans a9.md).trans' a5 fun q C h=>by omega
 have f7:=a5.size
 have eK:M.heap[E]? =some (.cells [.slice none 0 0,.map (some Y)].toArray 186 (0,0)):=a5.aJ (Wk.aJ (hE60.trans a9.md) dV) fun h=>by omega
 have e1:dy M.heap Y jo (fun _=>none):=dy.md (dy.wk (dy.nil dU)<|bd.md.trans<|hE60.trans a9.md) a5 fun h=>by omega
 have ey:k9 M M.heap.size E Y (.slice none 0 0) [] []:=⟨eK,dC _ _ _ _,eB.nil _ _ _,⟨_,e1,⟨fun s=>dC _ _ _ _,fun s _=>rfl⟩⟩⟩
 have eH:bP M.heap bD [bj (F.sp.getD 0 0),bj (F.sp.getD 1 0),bj (F.sp.getD 2 0),bj (F.sp.getD 3 0),bj (F.sp.getD 4 0)]:=dH
 have cq:aO aq.heap (gv ar cr 1 2) (kK rvs'):=by
  have h:=aY.drop (cap:=cr) (k:=1) (size:=2)<|by rw [Lb]; simp only [c7]; omega
  exact h
 have eC:iS F ((bL t).length+1) (fq F t) [] (n - 0) (rest.drop 0):=by rw [b5]; exact iS.start
 refine nl<|df<|aB fun dg=>ag fun dh=>p mv<|p (vO ta aa aa<|by rw [U]; simp only [c7]; omega)<|p (bJ zi aa aa)<|p mv<|nl<|dh<|aJ<|lp (fun ck ae av=> ∃ (i:Nat) (xs:List bH) (vs:List Value) (va:Value),(i≤rest.length∧i≤n)∧(xs.length=i)∧(iS F ((bL t).length+1) (fq F t) xs (n - i)<|rest.drop i)∧(k9 av M.heap.size E Y va vs xs)∧(Wk aq av)∧(bP av.heap bD [bj (F.sp.getD 0 0),bj (F.sp.getD 1 0),bj (F.sp.getD 2 0),bj (F.sp.getD 3 0),bj (F.sp.getD 4 0)])∧(M.heap.size≤av.heap.size)∧(ae 0=aT fb)∧(ae 5=aT bN)∧(ae 6= .slice c5 (bL t).length ci)∧(ae 10=ak n)∧(ae 11=aT E)∧(ae 12=aT bD)∧(ae 63= .slice (gv ar cr 1 2) rest.length (cr - 1))∧(ae 64=ak (rest.length))∧(ae 65=ak i)∧(rest.length - i=ck)) _ ⟨0,[],[],.slice none 0 0,ab,aa,eC,ey,d2,eH,(cD _),aa,aa,aa,(by first | rfl | (rw [← cR]; rfl)),aa,aa,(by first | rfl | (rw [U]; rfl)),(by first | rfl | (rw [U]; rfl)),aa,aa⟩ ?_
 rintro ck ae av ⟨i,xs,vs,va,hi,c4,ah,aM,O,cC,gt,fe,fk,fm,fh,fi,fj,fo,fr,fs,rfl⟩
 refine fx 0 fe<|fx 5 fk<|fx 6 fm<|fx 10 fh<|fx 11 fi<|fx 12 fj<|fx 63 fo<|fx 64 fr<|fx 65 fs<|ag fun dk=>p (lt aa aa)<|nl<|dk<|aB fun dl=>cd aa (fun eN=> ?_) fun eN=> ?_
 refine aQ<|dl<|aB fun bu=>aJ<|aB fun bv=> ?_
 obtain ⟨⟨ln,r⟩,hri⟩:∃ q,rest[i]? =some q:=⟨_,cI ab⟩
 have eU:rest.drop i=(ln,r)::rest.drop (i+1):=by rw [Nt ab]; rw [cI ab] at hri; rw [rk hri]
 obtain ⟨p,c2⟩:∃ p,rvs'[i]? =some p:=⟨_,cI ab⟩
 obtain ⟨dB,cB⟩:=bq.2 (i+1) p (ln,r) c2 hri
 obtain ⟨fw,gw⟩:=p
 obtain rfl :ln=fw:=dB.symm
 obtain ⟨a,c,rfl⟩:=cB.slice
 have cQ:=cP (ln,r)<|rj _<|iR hri
 rw [eU] at ah
 refine rg aa<|au (ak i)<|p (bc ta aa aa ab<|aO.ok (cq.wk O)<|lQ ab)<|p (di xn aa (aa)<|lR (cq.wk O) c2)<|e<|al MF fun ch gG bi b2 dJ=> ?_
 have f8:=b2.size
 refine p (cU (ak i) aa)<|e<|dj G0 aa aa aa aa (dJ) (by simp) fun aS b1 dK=> ?_
 have a4:Wk aq aS:=(O.trans b2.md).trans' b1 fun q C h=>by omega
 have ct:Wk av aS:=b2.md.trans' b1 fun q C h=>by omega
 have bi:bP aS.heap ch [ak ln,.slice a r.length c]:=dK
 have gb:=b1.size
 refine nl<|bv<|aB fun aW=>ag fun dn=>au (ak i)<|au (ak n)<|p (bK aa aa)<|nl<|dn<|cd aa (fun eO=> ?_) fun eO=> ?_
 refine ag fun bx=>p (fa yf aa)<|p (ld bz aa<|(bi.aR 0).trans aa)<|e<|cl sW (s6 (ln:Nat) 116 aS) aa fun v75 gN es=> ?_
 obtain ⟨rfl,bX⟩:=es
 have gp:=bX.size
 refine p aE<|e<|dj jV aa aa aa aa (Wk.B (a4.trans bX) aN) (by simp) fun gQ d9 dL=>nl<|bx<|rt<|tr<|br<|tr<|tr<|br<|tr<|eD aa ej (dT (cs:= [.int .i64 2,ak ln,.int .i64 116]) aa lh aa fun j an=>dL.bG j) ?_
 rw [show n - i=0 by omega] at ah
 exact lW.no ah.more<|(ax.trans<|a4.trans bX).trans' d9 fun q C h=>by omega
 refine aQ<|aW<|ag fun bx=>au (aT fb)<|p (di E7 aa (aa) fun j an=>(Wk.B ct cC).bG j)<|p (di xn aa (aa) fun j an=>bi.bG j)<|e<|cl QQ (Sw B fb mc F V ln r ce.heap.size a c aS (cw.wk<|ax.trans a4) ⟨seen,cp⟩ (cB.wk a4) cQ.2 cQ.1) aa fun fB fG et=> ?_
 obtain ⟨d6,bZ⟩:=et
 obtain ⟨A,aX,cj,rfl,c0,cL⟩:∃ (u:Tx) (a:Value) (e:Nat),fB= .tuple #[.agg [str u,a].toArray,ak e]∧a.oneCell'=true∧((e=0∧∃ l,ga F r= .ok (u,l)∧bw fG aS.heap.size 51 1 a l.length (l.map bj))∨(e≠0∧ga F r= .error e)):=by
  rcases d6 with ⟨x,a,h1,h2,h3⟩ | ⟨e,h1,h2,h3⟩
  exact ⟨x.1,a,0,h2,eS h3,.inl ⟨aa,x.2,h1,h3⟩⟩
  exact ⟨_,_,e,h3,aa,.inr ⟨h2,h1⟩⟩
 have gq:=bZ.size
 refine p mv<|p (xt aa aa)<|p (xt aa aa)<|e<|fg qX fun bI gH fR bb cm=> ?_
 have f9:=bb.size
 refine e<|gj kD aa aa aa (zh c0) cm az fun ao a8 dM=> ?_
 have aL:Wk av ao:=(ct.trans<|bZ.trans bb.md).trans' a8 fun q C h=>by omega
 have cF:ao.heap[bI]? =some (.cells [str A,aX].toArray 72 (0,0)):=dM
 have gc:=a8.size
 have eI:bP ao.heap ch [ak ln,.slice a r.length c]:=a8.B (Wk.B (bZ.trans bb.md) bi) fun h=>by omega
 refine ay<|bx<|aB fun dp=>ag fun dq=>p mv<|p (cO aa aa)<|nl<|dq<|cd aa (fun eP=> ?_) fun eP=> ?_
 obtain ⟨f2,hex⟩:=cL.resolve_left fun h=>by omega
 refine ag fun bA=>p (fa yf aa)<|p (ld bz aa<|(eI.aR 0).trans aa)<|p mv<|e<|cl sW (s6 (ln:Nat) (cj:Nat) ao) aa fun gC gO eu=> ?_
 obtain ⟨rfl,b0⟩:=eu
 have gr:=b0.size
 exact p aE<|e<|dj jV aa aa aa aa (Wk.B (O.trans<|aL.trans b0) aN) (by simp) fun gR ea dN=>nl<|bA<|rt<|tr<|br<|tr<|tr<|br<|tr<|eD aa ej (dT (cs:= [.int .i64 2,ak ln,ak cj]) aa lh aa fun j an=>dN.bG j)<|lW.no (ah.bad ab hex)<|(ax.trans<|O.trans<|aL.trans b0).trans' ea fun q C h=>by omega
 obtain ⟨_,aH,hex,e8⟩:=cL.resolve_right fun h=>by omega
 have bg:=aM.wk aL
 have e3:¬(va.ownBlock=some E):=dI bg.own bg.cells az
 have e2:¬(va.ownBlock=some bI):=fun h=>by have :=(dS aM.own h).2; omega
 have gu:=aL.size
 refine aQ<|dp<|aB fun bA=> ?_
 have aG:(fun w'=>Md (fun q=>va.ownBlock=some q) ao w') ao.drew:=(Md.refl _ _).drew
 refine eR (fun w'=>Md (fun q=>va.ownBlock=some q) ao w') 10 aa wide aG<|bE 0 aa (aT E) aG<|bE 1 aa (aT E) aG<|bB 2 aa (fun _=>nc aa) (fun _=>aG)<|bB 3 aa (fun _=>fa uZ aa) (fun _=>aG)<|dP 4 aa (fun w' I=>ld sO aa<|Md.aR I ((a7 bg.cells).trans aa) e3) aG<|dP 5 aa (fun w' I=>di lJ aa (aa) fun j an=>bP.bG ⟨_,Md.aJ I cF e2⟩ j) aG<|gE 6 aa aj<|kQ y9 aa aa aa fun fN fH fV eg dZ=> ?_
 have aD:=im eg.md
 have J:=bg.wk aD
 have gs:=aD.size
 have cz:(fun w'=>Md (fun q=>va.ownBlock=some q) ao w') fH:=Md.mono aD fun _ _ h=>h.elim
 refine ⟨cz,?_⟩
 refine gE 7 aa aj<|ap y9 (J.own) aa ab aa (aO.ec dZ) (aa) (zh c0) ab ab fun a3 cg cY ac fv fX=> ?_
 obtain ⟨f,cM,eY⟩:=J.mp
 have aZ:=ac.aJ J.cells<|dI J.own J.cells az
 have cZ:bw cg M.heap.size 72 2 a3 (xs++ [(A,aH)]).length (kb<|(xs++ [(A,aH)]).zip<|vs++ [aX]):=by
  have e0:xs.length=vs.length:=by have :=J.fl.1; rw [fM] at this; omega
  rw [List.zip_append e0,List.zip_cons_cons,List.zip_nil_right,Hp,bM]; exact cY
 have fv:=ac.size
 have eE:=ac.B (Wk.B (aL.trans aD) cC) fun h=>by have :=(dS J.own h).1; omega
 have eJ:=ac.aJ (Wk.aJ aD cF) fun h=>by have :=(dS aM.own h).2; omega
 have d5:Wk aq cg:=(O.trans<|aL.trans aD).trans' ac fun q C h=>by have :=(dS J.own h).1; omega
 have b4:(fun w'=>Md (fun q=>va.ownBlock=some q) ao w') cg:=cz.trans' ac fun _ _ h=>h
 refine ⟨b4,?_⟩
 refine bB 8 aa (fun _=>nc aa) (fun _=>b4)<|bB 9 aa (fun _=>fa uZ aa) (fun _=>b4)<|dO 10 aa aj aj<|cT G7 aa aa (v:=a3) (eS cY) aZ (by show _ < 2; omega) fun aA ai dD=> ?_
 have bk:aA.heap[E]? =some (.cells [a3,.map (some Y)].toArray 186 (0,0)):=dD
 have f3:=ai.size
 have d1:Wk aq aA:=d5.trans' ai fun q C h=>by omega
 have eF:=ai.B eE fun h=>by omega
 have b6:=ai.aJ eJ fun h=>by omega
 have cW:=dz cZ ai fun q C h=>dI cZ aZ az<|h ▸ C
 have ew:Tg aA M.heap.size 51 aH.length aX (aH.map bj):=((((((Tg.jP e8).mono ab).wk bb.md).md a8<|fz cm az).wk aD).md ac<|ik J.own az).md ai<|fz aZ az
 have eW:=((J.fl.md ac<|ik J.own az).md ai<|fz aZ az).snoc ew
 have b9:=(cM.md ac fun h=>rU J.own h fun cur z=>cM.pP).md ai fun h=>by omega
 have bm:=(eY.md ac<|ik J.own az).md ai<|fz aZ az
 have ca:¬(((f<|str A).getD<|bS none 0 0).ownBlock=some E):=dI (bm.own A) bk az
 have cS:¬(((f<|str A).getD<|bS none 0 0).ownBlock=some bI):=dI (bm.own A) b6 az
 have cV:¬(((f<|str A).getD<|bS none 0 0).ownBlock=some Y):=fun h=>rU (bm.own A) h fun cur z=>b9.pP
 refine eQ aj<|bA ?_
 have G:(fun w'=>Md (fun q=>((f<|str A).getD<|bS none 0 0).ownBlock=some q) aA w') aA.drew:=(Md.refl _ _).drew
 refine eR (fun w'=>Md (fun q=>((f<|str A).getD<|bS none 0 0).ownBlock=some q) aA w') 16 aa wide G<|lq 0 aa aj (fun _ _=>aV (aT E) aa) G<|lq 1 aa aj (fun _ _=>nc aa) G<|lq 2 aa aj (fun _ _=>fa Ii aa) G<|lq 3 aa aj (fun w' I=>ld E5 aa<|Md.aR I ((a7 bk).trans aa) ca) G<|lq 4 aa aj (fun _ _=>fa B8 aa) G<|lq 5 aa aj (fun w' I=>ld bV aa<|Md.aR I ((a7 b6).trans aa) cS) G<|lq 6 aa aj (fun _ _=>aV (aT E) aa) G<|lq 7 aa aj (fun _ _=>nc aa) G<|lq 8 aa aj (fun _ _=>fa Ii aa) G<|lq 9 aa aj (fun w' I=>ld E5 aa<|Md.aR I ((a7 bk).trans aa) ca) G<|lq 10 aa aj (fun _ _=>fa B8 aa) G<|lq 11 aa aj (fun w' I=>ld bV aa<|Md.aR I ((a7 b6).trans aa) cS) G<|lq 12 aa aj (fun w' I=>oM L2 Z4 jg (dy.md (b9) I cV) aa aa (⟨_,aa⟩)<|aa) G<|lq 13 aa aj (fun _ _=>aV (ak i) aa) G<|gE 14 aa aj<|fZ nq aa aa fun fL fC fP ef dE=> ?_
 have Z:=im ef.md
 have aP:=bm.md Z fun _ hk=>hk.elim
 have f4:=Z.size
 have cA:(fun w'=>Md (fun q=>((f<|str A).getD<|bS none 0 0).ownBlock=some q) aA w') fC:=Md.mono Z fun _ _ h=>h.elim
 refine ⟨cA,?_⟩
 refine gE 15 aa aj<|ap nq (aP.own A) aa ab aa (aO.ec dE) (aa) (aa) (by have :=Ja A xs; omega) (by have :=Ja A xs; omega) fun fA da e6 am fu a1=> ?_
 have fu:=am.size
 have a1:=(b9.wk Z).md am cV
 have e9:bw da M.heap.size 3 1 fA (idxs A xs++ [xs.length]).length ((idxs A xs++ [xs.length]).map bQ):=by
  rw [bM,ir,c4]; exact e6
 have ev:(fun w'=>Md (fun q=>((f<|str A).getD<|bS none 0 0).ownBlock=some q) aA w') da:=cA.trans' am fun _ _ h=>h
 refine ⟨ev,?_⟩
 refine dO 16 aa aj aj<|tQ L2 jg (a1) aa aa aa (⟨_,aa⟩) fun db aF eh=> ?_
 have fc:=mZ.put (x:=(A,aH)) aP am e9 (fun cur z=>a1.pP) aF
 have eM:=aF.aJ (am.aJ (Wk.aJ Z bk) ca) fun h=>by omega
 have cX:=dz (a6 cW Z) am fun q C=>mI (a6 cW Z) (aP.own A) az C
 have e7:=dz cX aF fun q C h=>rU cX C fun cur z=>h ▸ a1.pP
 have eX:=((eW.wk Z).md am<|ik (aP.own A) az).md aF fun k hk cur z h=>a1.pP<|hk ▸ h
 have ez:k9 db M.heap.size E Y a3 (vs++ [aX]) (xs++ [(A,aH)]):=⟨eM,e7,by rw [ir]; exact eX,⟨_,eh,fc⟩⟩
 have d3:Wk aq db:=((d1.trans Z).trans' am fun q C h=>by have :=(dS (aP.own A) h).1; omega).trans' aF fun q C h=>by omega
 have eG:=aF.B (am.B (Wk.B Z eF) fun h=>by have :=(dS (aP.own A) h).1; omega) fun h=>by omega
 have gd:=aF.size
 exact eQ aj<|bn<|bu<|rg aa<|p (ad aa aa<|bY ab)<|p mv<|nl<|tn<|⟨_,ab,i+1,xs++ [(A,aH)],vs++ [aX],a3,ab,(by rw [bM,c4]; rfl),(by rw [show n - (i+1)=n - i - 1 by omega]; exact ah.step ab hex),ez,d3,eG,(ab),aa,aa,aa,(by first | rfl | (rw [← cR]; rfl)),aa,aa,(by first | rfl | (rw [U]; rfl)),(by first | rfl | (rw [U]; rfl)),aa,aa⟩
 refine ext<|bf<|bf<|be<|dg<|aB fun bu=>aB fun bv=> ?_
 obtain ⟨fK,cv,rfl⟩:=cE aM.own
 refine rg aa<|au (aT E)<|p (nc aa)<|p (fa uZ aa)<|p (ld sO aa<|(a7 aM.cells).trans aa)<|p (bJ vW aa aa)<|au (ak n)<|p (lt aa aa)<|nl<|bv<|cd aa (fun eL=> ?_) fun eL=> ?_
 refine ag fun aW=>au (.slice c5 (bL t).length ci)<|p (bJ eZ aa aa)<|p (bF (((bL t).length+1:Nat):Int) aa aa<|bl ab ab)<|e<|cl sW (s6 ((bL t).length+1:Nat) 116 av) aa fun gx gF ei=> ?_
 obtain ⟨rfl,bO⟩:=ei
 have f6:=bO.size
 refine p aE<|e<|dj jV aa aa aa aa (Wk.B (O.trans bO) aN) (by simp) fun gS eb dQ=>nl<|aW<|rt<|tr<|eD aa ej (dT (cs:= [.int .i64 2,ak ((bL t).length+1),.int .i64 116]) aa lh aa fun j an=>dQ.bG j) ?_
 rw [gV ab] at ah
 exact lW.no (ah.ends ab)<|(ax.trans<|O.trans bO).trans' eb fun q C h=>by omega
 refine aQ<|bu<|ag fun aW=>au (aT E)<|p (c8 (ps:= []) (L:= [.int .i64 0,.int .i64 0,.int .i64 0]) tH aa<|aa)<|p (cU (aT E) aa)<|e<|dj jV aa aa aa aa (Wk.B O aN) (by simp) fun gT cx dR=>nl<|aW<|rt<|eD aa ej (dT (cs:= [.int .i64 0,.int .i64 0,.int .i64 0]) aa lh aa fun j an=>dR.bG j) ?_
 rw [gV ab,show n - i=0 by omega] at ah
 have eA:=ah.done
 have ex:TF av [49] (fun q=>q=bN):=TF.eq (dA<|Wk.aJ (hE22.trans<|hE31.trans O) co) az
 unfold lW
 rw [eA]
 exact ⟨⟨M.heap.size,E,Y,_,vs,ab,aa,aM.md cx ex az (fun h=>by omega),ab,ab⟩,(ax.trans O).trans' cx fun q C h=>by omega⟩
end Go.Hb.kN
end
section
namespace Go.Hb
open Go.Hb.iw Go.Hb.jR Go.Hb.kN
theorem ZQ {α:Type} {f:α×Value→List Value} {m c i:Nat} (A:∀ q,(f q).length=m) (C:c < m) (hs:∀ a u v,(f (a,u)).set c v=f (a,v)) {rs:List α} {vs:List Value} {v:Value} (hi:i < rs.length) (J:i < vs.length):((rs.zip vs).flatMap f).set (i*m+c) v=(rs.zip<|vs.set i v).flatMap f:=by
 obtain ⟨r,I⟩:∃ r,rs[i]? =some r:=⟨_,cI hi⟩
 obtain ⟨u,hu⟩:∃ u,vs[i]? =some u:=⟨_,cI J⟩
 have M:(rs.zip vs)[i]? =some (r,u):=jz.2 ⟨I,hu⟩
 have V:rs.zip (vs.set i v)=(rs.zip vs).set i (r,v):=by
  apply qa
  intro j
  rw [k5]
  by_cases E:i=j
  · subst E
    rw [if_pos rfl,if_pos (fS.1 M).1]
    exact jz.2 ⟨I,by simp [J]⟩
  · rw [if_neg E]
    cases h1:(rs.zip vs)[j]? with
    | none=>
      rw [List.getElem?_eq_none_iff,zT] at h1 ⊢
      rw [wW]; exact h1
    | some q=>
      have h2:=jz.1 h1
      exact jz.2 ⟨h2.1,by rw [k5,if_neg E]; exact h2.2⟩
 have Y:(rs.zip vs).length=min rs.length vs.length:=zT
 have G:((rs.zip vs).flatMap f).length=(rs.zip vs).length*m:=nT A _
 have hle:i*m+m≤(rs.zip vs).length*m:=by rw [← Nat.succ_mul]; exact Nat.mul_le_mul_right _ ab
 rw [V,H7 A _ ab]
 apply qa
 intro j
 have O:=fun c C=>BK A (c:=c) M C
 have U:(((rs.zip vs).flatMap f).take<|i*m).length=i*m:=by rw [dQ,G]; omega
 rw [k5]
 by_cases h1:j < i*m
 · rw [if_neg ab,dH,mm ab,o6,if_pos h1]
 · rw [dH,mV ab,U]
   by_cases h2:j < i*m+m
   · rw [mm (by rw [A]; omega)]
     obtain ⟨d,rfl⟩:∃ d,j=i*m+d:=⟨j - i*m,ab⟩
     rw [O d ab,show i*m+d - i*m=d by omega,← hs r u v,k5]
     by_cases h3:c=d
     · subst h3; rw [if_pos rfl,if_pos rfl,if_pos (by rw [G]; omega),if_pos (by rw [A]; exact C)]
     · rw [if_neg ab,if_neg h3]
   · rw [if_neg ab,mV (by rw [A]; omega),A,ri]
     congr 1; omega
theorem SW {xs:List bH} {vs:List Value} {i:Nat} {v:Value} (hi:i < xs.length) (a:i < vs.length):(kb<|xs.zip vs).set (i*2 +1) v=kb (xs.zip<|vs.set i v):=ZQ (f:=pI) (m:=2) (c:=1) (fun _=>rfl) az (fun _ _ _=>rfl) hi a
theorem uN {l:List (bH×Value)} {i:Nat} {q:bH×Value} (h:l[i]? =some q):kb l≠[]:=fun h2=>by
 have h3:=SQ l
 have h4:=(fS.1 h).1
 rw [h2] at h3
 have h5:0=l.length*2:=h3
 omega
theorem SV {w:World} {B e:Nat} {xs:List bH} {vs:List Value} {A:List (List Nat)} (h:eB w B e vs A):(kb<|xs.zip vs).all gF=true :=by
 rw [ml]
 intro v a
 obtain ⟨q,i,a⟩:=List.mem_flatMap.1 a
 have h1:=ml.1 (Ah h) q.2 (List.of_mem_zip i).2
 simp only [pI,e7,uu,or_false] at a
 rcases a with rfl | rfl
 · rfl
 · exact h1
def pk (w:World) (B:Nat) (vs:List Value) (a:List (List Nat)):Prop :=vs.length=a.length∧∀ (i:Nat) v l,vs[i]? =some v→a[i]? =some l→bw w B 51 1 v l.length (l.map bj)
theorem pk.t {w:World} {B:Nat} {vs:List Value} {a:List (List Nat)} (h:pk w B vs a):eB w B 51 vs a:=⟨h.1,fun i v l h1 h2=>Tg.jP<|h.2 i v l h1 h2⟩
theorem Fg {G:Nat→Prop} {w w':World} {B:Nat} {vs:List Value} {a:List (List Nat)} (h:pk w B vs a) (hm:Md G w w') (q:∀ k,G k→∀ cur z,w.heap[k]?≠some (.cells cur 51 z)):pk w' B vs a:=⟨h.1,fun i v l h1 h2=>dz (h.2 i v l h1 h2) hm fun k hk A=>rU (h.2 i v l h1 h2) hk<|q k A⟩
theorem OD (w:World) (B:Nat):pk w B [] []:=⟨rfl,fun i v l a=>by simp at a⟩
theorem OC {w:World} {B i:Nat} {vs:List Value} {a:List (List Nat)} {v:Value} (h:pk w B (vs.take i) (a.take i)) (hi:i < a.length) (E:i < vs.length) (C:bw w B 51 1 v (a.getD i []).length ((a.getD i []).map bj)):pk w B ((vs.set i v).take<|i+1) (a.take<|i+1):=by
 refine ⟨by simp; have :=h.1; simp at this; omega,fun j u l h1 h2=> ?_⟩
 rw [o6] at h1 h2
 by_cases q:j < i+1
 · rw [if_pos q] at h1 h2
   rw [k5] at h1
   by_cases A:i=j
   · subst A
     rw [if_pos rfl,if_pos E] at h1
     cases h1
     rw [show a.getD i []=l by rw [da,h2]; rfl] at C
     exact C
   · rw [if_neg A] at h1
     exact h.2 j u l (by rw [o6,if_pos ab]; exact h1)<|by rw [o6,if_pos ab]; exact h2
 · rw [if_neg q] at h1; cases h1
theorem SH (B wb mb:Nat) (va:Value) (vs:List Value) (xs:List bH) (w:World) (i:k9 w B wb mb va vs xs) (G:xs.length≤70000):
 bp aw 44 (bh [aT wb]) w (fun v w'=>v=ak (xs.length)∧Wk w w'):=by
 obtain ⟨a,c,rfl⟩:=cE i.own
 exact enter func44 aa ntmps44 aa<|ag fun q=>ay<|q<|aB fun A=>ag fun C=>au (aT wb)<|p (lN DQ aa aa)<|nl<|C<|cf (aa)<|aQ<|A<|aB fun E=>rg aa<|au (aT wb)<|p (nc aa)<|p (fa uZ aa)<|p (ld sO aa<|(a7 i.cells).trans aa)<|p (bJ vW aa aa)<|p aE<|nl<|E<|rt<|aX aa<|⟨aa,Md.refl _ _⟩
theorem Sv (B wb mb:Nat) (va:Value) (vs:List Value) (xs:List bH) (w:World) (G:k9 w B wb mb va vs xs) (aZ:xs.length≤70000) (aI:∀ x∈xs,x.2.length≤64):
 bp aw 47 (bh [aT wb]) w (fun v w'=>(∃ vs,bw w' w.heap.size 72 2 v xs.length (kb<|xs.zip vs)∧eB w' w.heap.size 51 vs (xs.map (·.2))∧pk w' w.heap.size vs (xs.map (·.2)))∧Wk w w'):=by
 refine enter func47 aa ntmps47 aa<|ag fun am=>ay<|am<|aB fun ao=>ag fun ap=>au (aT wb)<|p (lN DQ aa aa)<|nl<|ap<|cf (aa)<|aQ<|ao<|aB fun aq=>rg aa<|au (aT wb)<|p (nc aa)<|p (fa uZ aa)<|p (ld sO aa<|(a7 G.cells).trans aa)<|e<|cl QR (Re va xs.length (kb<|xs.zip vs) w (Rd.jP G.own) (SV G.fl) ab) aa fun v11 a2 aE=> ?_
 obtain ⟨ai,aC⟩:=aE
 obtain ⟨C,kz,rfl⟩:=cE ai
 have aS:vs.length=xs.length:=by have :=G.fl.1; rwa [fM] at this
 refine ay<|aq<|aB fun ar=>ag fun av=>p mv<|p (bJ vW aa aa)<|p mv<|nl<|av<|aJ<|lp (fun ah M E=> ∃ (i:Nat) (sa:List Value),(i≤xs.length)∧(sa.length=xs.length)∧(sa.drop i=vs.drop i)∧(pk E w.heap.size (sa.take i)<|(xs.map (·.2)).take i)∧(bw E w.heap.size 72 2 (.slice C xs.length kz) xs.length<|kb<|xs.zip sa)∧(Wk w E)∧(M 3= .slice C xs.length kz)∧(M 13=ak (xs.length))∧(M 14=ak i)∧(xs.length - i=ah)) _ ⟨0,vs,ab,aS,aa,(OD _ _),ai,aC,aa,aa,aa,aa⟩ ?_
 rintro ah M E ⟨i,sa,hi,aR,al,J,A,I,aP,aM,aN,rfl⟩
 refine fx 3 aP<|fx 13 aM<|fx 14 aN<|ag fun ax=>p (lt aa aa)<|nl<|ax<|aB fun aA=>cd aa (fun aH=> ?_) fun aH=> ?_
 refine aQ<|aA<|aB fun O=>aJ<|aB fun an=> ?_
 obtain ⟨a1,aU,V⟩:=eB.get (G.wk I).fl (show i < (xs.map (·.2)).length by rw [fM]; omega)
 obtain ⟨ae,ci,rfl⟩:=V.slice
 obtain ⟨x,ac⟩:∃ x,xs[i]? =some x:=⟨_,cI ab⟩
 have aW:(xs.map (·.2)).getD i []=x.2:=by rw [da,List.getElem?_map,ac]; rfl
 have aV:=aI x<|iR ac
 rw [← aW] at aV
 have Z:(xs.zip sa)[i]? =some (x,.slice ae ((xs.map (·.2)).getD i []).length ci):=jz.2 ⟨ac,(Bq al).trans aU⟩
 refine rg aa<|au (ak i)<|p (cU (ak i) aa)<|nl<|an<|rg aa<|au (.slice C xs.length kz)<|au (ak i)<|au (.slice C xs.length kz)<|au (ak i)<|p (bc Bx aa aa ab<|aO.ok ((ba A).2)<|uN Z)<|p (fa rL aa)<|p (ld m5 aa<|fA (f:=pI) (m:=2) (fun _=>rfl) (ba A).2 Z 1 az)<|e<|cl rD (sX ae ((xs.map (·.2)).getD i []).length ci (((xs.map (·.2)).getD i []).map bj) E V.cV.2 (by simp) (fun h=>Tg.tB V (by simp) h) (sP _) ab) aa fun v24 a3 aF=> ?_
 obtain ⟨Y,a⟩:=aF
 have a0:=a.size
 refine p (bc Bx aa aa ab<|aO.ok ((ba<|a6 A a).2)<|uN Z)<|p (fa rL aa)<|e<|tI (j:=i*2 +1) (a6 A a) s5 aa aa (eS Y) (by rw [Int.toNat_natCast]; omega) ab fun aY U aj=> ?_
 rw [SW ab ab] at aj
 have aD:Wk w aY:=Wk.own (I.trans a) (a6 A a) U ab
 have aK:=dz (eE Y (show w.heap.size≤E.heap.size from I.size)) U fun q aL=>mI Y (a6 A a) az aL
 have aG:=Fg (Fg J a fun _ hk=>hk.elim) U<|ik (a6 A a) az
 exact nl<|bn<|O<|rg aa<|p (ad aa aa<|bY ab)<|p mv<|nl<|tn<|⟨_,ab,i+1,sa.set i v24,ab,(by rw [wW]; exact aR),(jR.set_drop al),(OC aG (by rw [fM]; omega) ab aK),aj,aD,aa,aa,aa,aa⟩
 refine ext<|bf<|bf<|be<|ar<|ag fun O=>au (.slice C xs.length kz)<|p (cU (.slice C xs.length kz) aa)<|nl<|O<|rt<|aX aa ?_
 rw [eU ab,eU (by rw [fM]; omega)] at J
 exact ⟨⟨sa,A,J.t,J⟩,I⟩
end Go.Hb
end
section
namespace Go.Hb.jH
open Go.Hb.lU Go.Hb.nE
def nj (c:dm):List Value:= [bQ c.flag,.int .i64 (c.kind:Nat),.bool c.ew,.int .i64 (c.first:Nat),.int .i64 (c.count:Nat)]
def qD (l:List dm):List Value:=l.flatMap nj
def jx (q:dp×Value):List Value:= [.int .i64 (q.1.kind:Nat),bQ q.1.flag,.bool q.1.ew,str q.1.strip,str q.1.add,str q.1.cond,q.2,.int .i64 (q.1.line:Nat)]
def mC (l:List (dp×Value)):List Value:=l.flatMap jx
def iu (w:World) (B e:Nat) (vs:List Value) (a:List (List Nat)):Prop :=vs.length=a.length∧∀ (i:Nat) v l,vs[i]? =some v→a[i]? =some l→Tg w B e l.length v (l.map bQ)
theorem iu.nil (w:World) (B e:Nat):iu w B e [] []:=⟨rfl,fun i v l a=>by simp at a⟩
theorem iu.md {F:Nat→Prop} {w w':World} {B e:Nat} {vs:List Value} {a:List (List Nat)} (h:iu w B e vs a) (hm:Md F w w') (q:∀ k,F k→∀ cur z,w.heap[k]?≠some (.cells cur e z)):iu w' B e vs a:=⟨h.1,fun i v l h1 h2=>(h.2 i v l h1 h2).md hm q⟩
theorem iu.wk {w w':World} {B e:Nat} {vs:List Value} {a:List (List Nat)} (h:iu w B e vs a) (hm:Wk w w'):iu w' B e vs a:=h.md hm fun _ hk=>hk.elim
theorem iu.snoc {w:World} {B e:Nat} {vs:List Value} {q:List (List Nat)} {v:Value} {l:List Nat} (a:iu w B e vs q) (C:Tg w B e l.length v (l.map bQ)):iu w B e (vs++ [v]) (q++ [l]):=by
 refine ⟨by rw [bM,bM,a.1]; rfl,fun i E G h1 h2=> ?_⟩
 have A:=a.1
 by_cases hi:i < vs.length
 · rw [mm hi] at h1
   rw [mm ab] at h2
   exact a.2 i E G h1 h2
 · rw [mV ab] at h1
   rw [mV ab,← A] at h2
   cases hj:i - vs.length with
   | zero=>rw [hj] at h1 h2; cases h1; cases h2; exact C
   | succ j=>rw [hj] at h1; simp at h1
theorem iu.get {w:World} {B e i:Nat} {vs:List Value} {a:List (List Nat)} (h:iu w B e vs a) (hi:i < a.length):∃ v,vs[i]? =some v∧Tg w B e (a.getD i []).length v ((a.getD i []).map bQ):=by
 have h1:i < vs.length:=by rw [h.1]; exact hi
 refine ⟨vs[i],cI h1,h.2 i _ _ (cI h1) ?_⟩
 rw [da,cI hi]; rfl
structure gp where
 rb:Nat
 fb:Nat
 eof:Nat
 vr:Value
 vs:List (Nat×Value)
 rows:List Rw
structure eu where
 v9:Value
 v10:Value
 v11:Value
 v12:Value
 sa:List Value
 rn:List Value
def nV (F:aU) (V:eu):List Value:= [.int .i64 (F.kind:Nat),str F.rE,str F.tr,bQ (F.sp.getD 0 0),bQ (F.sp.getD 1 0),bQ (F.sp.getD 2 0),bQ (F.sp.getD 3 0),bQ (F.sp.getD 4 0),.int .i64 (F.least:Nat),V.v9,V.v10,V.v11,V.v12]
def IL (H:gp) (k:Nat) (vh:Value) (ln:Nat):List Value:= [.pointer (some ⟨H.fb,0,none⟩),H.vr,.int .i64 (k:Nat),.int .i64 (H.eof:Nat),vh,.int .i64 (ln:Nat)]
structure eI (w:World) (B B0 fb:Nat) (F:aU) (V:eu):Prop where
 cells:w.heap[fb]? =some (.cells (nV F V).toArray 181 (0,0))
 o9:bw w B 369 2 V.v9 F.dt.length (kZ F.dt)
 eY:bw w B 75 1 V.v10 F.aliases.length V.sa
 al:iu w B0 3 V.sa F.aliases
 ez:bw w B 242 5 V.v11 F.bA.length (qD F.bA)
 dK:bw w B 174 8 V.v12 F.rules.length (mC<|F.rules.zip V.rn)
 nx:iu w B0 3 V.rn (F.rules.map (·.next))
 lo:B≤fb
 fR:F.sp.length=5
theorem eI.md {G:Nat→Prop} {w w':World} {B B0 fb:Nat} {F:aU} {V:eu} (h:eI w B B0 fb F V) (hm:Md G w w') {L:List Nat} (a:TF w L G) (i:(L.contains 183 || L.contains 371 || L.contains 77 || L.contains 5 || L.contains 244 || L.contains 176)=false):eI w' B B0 fb F V:=by
 simp only [nA] at i
 obtain ⟨⟨⟨⟨⟨h1,h2⟩,h3⟩,h4⟩,h5⟩,h6⟩:=i
 have q:∀ k,G k→∀ cur z,w.heap[k]?≠some (.cells cur 3 z):=fun k hk cur z A=>a.no (dA A) h4 hk
 exact ⟨hm.ic a h.cells h1,cx h.o9 hm a h2,cx h.eY hm a h3,h.al.md hm q,cx h.ez hm a h5,cx h.dK hm a h6,h.nx.md hm q,h.lo,h.fR⟩
theorem eI.wk {w w':World} {B B0 fb:Nat} {F:aU} {V:eu} (h:eI w B B0 fb F V) (hm:Wk w w'):eI w' B B0 fb F V:=h.md (L:= []) hm (fun _ hk=>hk.elim) rfl
structure nH (w:World) (B B0 fb:Nat) (F:aU) (V:eu):Prop where
 cells:w.heap[fb]? =some (.cells (nV F V).toArray 181 (0,0))
 eY:bw w B 75 1 V.v10 F.aliases.length V.sa
 al:iu w B0 3 V.sa F.aliases
theorem eI.r {w:World} {B B0 fb:Nat} {F:aU} {V:eu} (h:eI w B B0 fb F V):nH w B B0 fb F V:=⟨h.cells,h.eY,h.al⟩
theorem nH.md {G:Nat→Prop} {w w':World} {B B0 fb:Nat} {F:aU} {V:eu} (h:nH w B B0 fb F V) (hm:Md G w w') {L:List Nat} (a:TF w L G) (i:(L.contains 183 || L.contains 77 || L.contains 5)=false):nH w' B B0 fb F V:=by
 simp only [nA] at i
 obtain ⟨⟨h1,h3⟩,h4⟩:=i
 exact ⟨hm.ic a h.cells h1,cx h.eY hm a h3,h.al.md hm fun k hk cur z q=>a.no (dA q) h4 hk⟩
theorem nH.wk {w w':World} {B B0 fb:Nat} {F:aU} {V:eu} (h:nH w B B0 fb F V) (hm:Wk w w'):nH w' B B0 fb F V:=h.md (L:= []) hm (fun _ hk=>hk.elim) rfl
theorem eI.put {w w':World} {B B0 fb:Nat} {F F':aU} {V:eu} (h:eI w B B0 fb F V) (hm:Md (fun k=>k=fb) w w') (q:w'.heap[fb]? =some (.cells (nV F' V).toArray 181 (0,0))) (h1:F'.dt=F.dt) (h2:F'.aliases=F.aliases) (h3:F'.bA=F.bA) (h4:F'.rules=F.rules) (h5:F'.sp.length=5):eI w' B B0 fb F' V:=by
 have a:TF w [183] (fun k=>k=fb):=TF.eq (dA h.cells) az
 have i:∀ k,k=fb→∀ cur z,w.heap[k]?≠some (.cells cur 3 z):=fz h.cells az
 exact ⟨q,h1 ▸ cx h.o9 hm a az,h2 ▸ cx h.eY hm a az,h2 ▸ h.al.md hm i,h3 ▸ cx h.ez hm a az,h4 ▸ cx h.dK hm a az,h4 ▸ h.nx.md hm i,h.lo,h5⟩
theorem eI.Ak {w i E:World} {B B0 fb:Nat} {F:aU} {V:eu} {v:Value} {x:Tx×Tx} (h:eI w B B0 fb F V) (hm:Md (fun k=>V.v9.ownBlock=some k) w i) (J:bw i B 369 2 v (F.dt++ [x]).length (kZ<|F.dt++ [x])) (a:Md (fun k=>k=fb) i E) (M:E.heap[fb]? =some (.cells (nV {F with dt:=F.dt++ [x]} {V with v9:=v}).toArray 181 (0,0))):eI E B B0 fb {F with dt:=F.dt++ [x]} {V with v9:=v} :=by
 have q:TF w [371] (fun k=>V.v9.ownBlock=some k):=TF.own h.o9 az
 have C:=hm.ic q h.cells az
 have A:TF i [183] (fun k=>k=fb):=TF.eq (dA C) az
 have G:∀ k,V.v9.ownBlock=some k→∀ cur z,w.heap[k]?≠some (.cells cur 3 z):=ik h.o9 az
 have I:∀ k,k=fb→∀ cur z,i.heap[k]?≠some (.cells cur 3 z):=fz C az
 exact ⟨M,dz J a (fun k hk O=>dI J C az<|O ▸ hk),cx (cx h.eY hm q az) a A az,(h.al.md hm G).md a I,cx (cx h.ez hm q az) a A az,cx (cx h.dK hm q az) a A az,(h.nx.md hm G).md a I,h.lo,h.fR⟩
theorem eI.Ai {w i I:World} {B B0 fb:Nat} {F:aU} {V:eu} {v:Value} {x:List Nat} {vx:Value} (h:eI w B B0 fb F V) (U:Tg w B0 3 x.length vx (x.map bQ)) (hm:Md (fun k=>V.v10.ownBlock=some k) w i) (J:bw i B 75 1 v (F.aliases++ [x]).length (V.sa++ [vx])) (a:Md (fun k=>k=fb) i I) (M:I.heap[fb]? =some (.cells (nV {F with aliases:=F.aliases++ [x]} {V with v10:=v,sa:=V.sa++ [vx]}).toArray 181 (0,0))):eI I B B0 fb {F with aliases:=F.aliases++ [x]} {V with v10:=v,sa:=V.sa++ [vx]} :=by
 have q:TF w [77] (fun k=>V.v10.ownBlock=some k):=TF.own h.eY az
 have C:=hm.ic q h.cells az
 have A:TF i [183] (fun k=>k=fb):=TF.eq (dA C) az
 have E:∀ k,V.v10.ownBlock=some k→∀ cur z,w.heap[k]?≠some (.cells cur 3 z):=ik h.eY az
 have G:∀ k,k=fb→∀ cur z,i.heap[k]?≠some (.cells cur 3 z):=fz C az
 exact ⟨M,cx (cx h.o9 hm q az) a A az,dz J a (fun k hk O=>dI J C az<|O ▸ hk),((h.al.md hm E).md a G).snoc ((U.md hm E).md a G),cx (cx h.ez hm q az) a A az,cx (cx h.dK hm q az) a A az,(h.nx.md hm E).md a G,h.lo,h.fR⟩
theorem eI.Aj {w i E:World} {B B0 fb:Nat} {F:aU} {V:eu} {v:Value} {x:dm} (h:eI w B B0 fb F V) (hm:Md (fun k=>V.v11.ownBlock=some k) w i) (J:bw i B 242 5 v (F.bA++ [x]).length (qD<|F.bA++ [x])) (a:Md (fun k=>k=fb) i E) (M:E.heap[fb]? =some (.cells (nV {F with bA:=F.bA++ [x]} {V with v11:=v}).toArray 181 (0,0))):eI E B B0 fb {F with bA:=F.bA++ [x]} {V with v11:=v} :=by
 have q:TF w [244] (fun k=>V.v11.ownBlock=some k):=TF.own h.ez az
 have C:=hm.ic q h.cells az
 have A:TF i [183] (fun k=>k=fb):=TF.eq (dA C) az
 have G:∀ k,V.v11.ownBlock=some k→∀ cur z,w.heap[k]?≠some (.cells cur 3 z):=ik h.ez az
 have I:∀ k,k=fb→∀ cur z,i.heap[k]?≠some (.cells cur 3 z):=fz C az
 exact ⟨M,cx (cx h.o9 hm q az) a A az,cx (cx h.eY hm q az) a A az,(h.al.md hm G).md a I,dz J a (fun k hk O=>dI J C az<|O ▸ hk),cx (cx h.dK hm q az) a A az,(h.nx.md hm G).md a I,h.lo,h.fR⟩
theorem eI.xv {w i I:World} {B B0 fb:Nat} {F:aU} {V:eu} {v:Value} {x:dp} {vx:Value} (h:eI w B B0 fb F V) (U:Tg w B0 3 x.next.length vx (x.next.map bQ)) (hm:Md (fun k=>V.v12.ownBlock=some k) w i) (J:bw i B 174 8 v (F.rules++ [x]).length (mC<|(F.rules++ [x]).zip<|V.rn++ [vx])) (a:Md (fun k=>k=fb) i I) (M:I.heap[fb]? =some (.cells (nV {F with rules:=F.rules++ [x]} {V with v12:=v,rn:=V.rn++ [vx]}).toArray 181 (0,0))):eI I B B0 fb {F with rules:=F.rules++ [x]} {V with v12:=v,rn:=V.rn++ [vx]} :=by
 have q:TF w [176] (fun k=>V.v12.ownBlock=some k):=TF.own h.dK az
 have C:=hm.ic q h.cells az
 have A:TF i [183] (fun k=>k=fb):=TF.eq (dA C) az
 have E:∀ k,V.v12.ownBlock=some k→∀ cur z,w.heap[k]?≠some (.cells cur 3 z):=ik h.dK az
 have G:∀ k,k=fb→∀ cur z,i.heap[k]?≠some (.cells cur 3 z):=fz C az
 exact ⟨M,cx (cx h.o9 hm q az) a A az,cx (cx h.eY hm q az) a A az,(h.al.md hm E).md a G,cx (cx h.ez hm q az) a A az,dz J a (fun k hk O=>dI J C az<|O ▸ hk),(by rw [ir]; exact ((h.nx.md hm E).md a G).snoc<|(U.md hm E).md a G),h.lo,h.fR⟩
structure gY (w:World) (B:Nat) (H:gp) (k ln:Nat) (seen:List Tx) (vh:Value):Prop where
 cells:w.heap[H.rb]? =some (.cells (IL H k vh ln).toArray 236 (0,0))
 hd:bw w B 9 1 vh seen.length (seen.map str)
 lo:B≤H.rb
section
variable {w w':World} {B k ln:Nat} {H:gp} {seen:List Tx} {vh:Value}
theorem gY.md {G:Nat→Prop} (h:gY w B H k ln seen vh) (hm:Md G w w') {L:List Nat} (i:TF w L G) (a:(L.contains 238 || L.contains 11)=false):gY w' B H k ln seen vh:=by
 simp only [nA] at a
 exact ⟨hm.ic i h.cells a.1,cx h.hd hm i a.2,h.lo⟩
theorem gY.wk (h:gY w B H k ln seen vh) (hm:Wk w w'):gY w' B H k ln seen vh:=h.md (L:= []) hm (fun _ hk=>hk.elim) rfl
theorem gY.fb {B0:Nat} {a:aU} {V:eu} (h:gY w B H k ln seen vh) (i:eI w B B0 H.fb a V) (hm:Md (fun k=>k=H.fb) w w'):gY w' B H k ln seen vh:=h.md hm (TF.eq (L:= [183]) (dA i.cells) az) az
theorem gY.own {B' e s n:Nat} {v:Value} {xs:List Value} (h:gY w B H k ln seen vh) (i:bw w B' e s v n xs) (hm:Md (fun k=>v.ownBlock=some k) w w') (a:([e+2].contains 238 || [e+2].contains 11)=false):gY w' B H k ln seen vh:=h.md hm (TF.own (L:= [e+2]) i<|by simp) a
theorem gY.oH {cs:Array Value} {z:Nat×Nat} (h:gY w B H k ln seen vh) (a:w.heap[H.fb]? =some (.cells cs 181 z)) (hm:Md (fun k=>k=H.fb) w w'):gY w' B H k ln seen vh:=h.md hm (TF.eq (L:= [183]) (dA a) az) az
theorem gY.dD {k' ln':Nat} (h:gY w B H k ln seen vh) (hm:Md (fun k=>k=H.rb) w w') (a:w'.heap[H.rb]? =some (.cells (IL H k' vh ln').toArray 236 (0,0))):gY w' B H k' ln' seen vh:=⟨a,cx h.hd hm (TF.eq (L:= [238]) (dA h.cells) az) az,h.lo⟩
theorem eI.rb {B0:Nat} {a:aU} {V:eu} (h:eI w B B0 H.fb a V) (i:gY w B H k ln seen vh) (hm:Md (fun k=>k=H.rb) w w'):eI w' B B0 H.fb a V:=h.md hm (TF.eq (L:= [238]) (dA i.cells) az) az
end
structure nG (F:aU) (rows:List Rw) (seen:List Tx):Prop where
 len:F.dt.length+F.aliases.length+F.bA.length+F.rules.length+rows.length≤70000
 sl:seen.length+rows.length≤70000
 row:∀ q∈rows,q.2≠[]∧q.2.length≤70000∧∀ x∈q.2,x.length≤70000
 kd:F.kind=1∨F.kind=2∨F.kind=3
def GS (a:World) (H:gp):Prop := ∃ B0,Tg a B0 237 H.rows.length H.vr (kK H.vs)∧gZ a B0 9 H.vs H.rows∧H.rows.length≤70000
def mq (a w:World) (H:gp) (F:aU) (k ln:Nat) (seen:List Tx):Prop := ∃ V vh,eI w a.heap.size 0 H.fb F V∧gY w a.heap.size H k ln seen vh∧nG F (H.rows.drop k) seen∧Wk a w∧k≤H.rows.length
def Ob (w':World) (H:gp) (X:Except (Nat×Nat) (aU×List Rw)) (v:Value):Prop := ∃ l e:Nat,X= .error (l,e)∧e≠0∧v= .int .i64 (e:Nat)∧Hb.aR w'.heap H.rb 5=some (.int .i64 (l:Nat))
def fO (a:World) (H:gp) (seen:List Tx) (X:Except (Nat×Nat) (aU×List Rw)) (v:Value) (w':World):Prop :=((∃ F' k' ln',X= .ok (F',H.rows.drop k')∧v= .int .i64 (0:Nat)∧mq a w' H F' k' ln' seen)∨Ob w' H X v)∧Wk a w'
theorem nG.pH {F:aU} {q:Rw} {rest:List Rw} {seen:List Tx} (h:nG F (q::rest) seen):nG F rest seen:=⟨by have :=h.len; simp only [c7] at this; omega,by have :=h.sl; simp only [c7] at this; omega,fun a h2=>h.row a (rj _ h2),h.kd⟩
theorem gY.dw {w:World} {B:Nat} {H:gp} {k ln:Nat} {seen:List Tx} {vh:Value} (h:gY w B H k ln seen vh):Hb.aR w.heap H.rb 5=some (.int .i64 (ln:Nat)):=(a7 h.cells).trans rfl
theorem GS.get {C w:World} {H:gp} {k:Nat} (h:GS C H) (hm:Wk C w) (hk:k < H.rows.length):∃ n r ar cr a c,H.rows.drop k=(n,r)::H.rows.drop (k+1)∧H.vr= .slice a H.rows.length c∧aO w.heap a (kK H.vs)∧H.vs[k]? =some (n,.slice ar r.length cr)∧(∃ B0,Tg C B0 9 r.length (.slice ar r.length cr) (r.map str))∧H.vs.length=H.rows.length:=by
 obtain ⟨B0,h1,h2,_⟩:=h
 obtain ⟨a,c,G⟩:=h1.slice
 have I:=h2.1
 obtain ⟨q,A⟩:∃ q,H.rows[k]? =some q:=⟨_,cI hk⟩
 obtain ⟨n,r⟩:=q
 obtain ⟨p,hp⟩:∃ p,H.vs[k]? =some p:=⟨_,cI ab⟩
 obtain ⟨E,i⟩:=h2.2 k p (n,r) hp A
 obtain ⟨J,M⟩:=p
 simp only at E i
 subst E
 obtain ⟨ar,cr,rfl⟩:=i.slice
 rw [G] at h1
 refine ⟨J,r,ar,cr,a,c,?_,G,(h1.wk hm).cV.2,hp,⟨B0,i⟩,I⟩
 rw [Nt hk]
 rw [cI hk] at A
 rw [rk A]
end Go.Hb.jH
end
namespace Go.Hb
theorem Wa {l:List UInt8} {j:Nat} {b:UInt8} (h:j < l.length):b∈l.take (j+1)↔b∈l.take j∨l.getD j 0=b:=by
 rw [fK l j 0 h,jF,j5,eq_comm (a:=b)]
theorem vE (s:List UInt8) (w:World) (hs:s.length≤1048576):
 bp aw 176 (bh [str s]) w (fun v w'=>v= .bool (gy s)∧Wk w w'):=by
 refine enter func176 aa ntmps176 aa<|ag fun M=>ay<|M<|aB fun O=>ag fun U=>ay<|U<|aJ<|lp (fun G C J=> ∃ (i:Nat),(i≤s.length)∧(∀ j,j < i→iT (s.getD j 0)=true)∧(Wk w J)∧(C 0=str s)∧(C 3= .int .i64 i)∧(s.length - i=G)) _ ⟨0,ab,(fun j I=>by omega),(Md.refl _ _),aa,aa,aa⟩ ?_
 rintro G C J ⟨i,hi,hp,a,ah,ai,rfl⟩
 refine fx 0 ah<|fx 3 ai<|aB fun V=>ag fun Y=>au (.int .i64 i)<|au (str s)<|p (cz u9 aa aa)<|p (lt aa aa)<|nl<|Y<|cd aa (fun ac=> ?_) fun ac=> ?_
 refine aQ<|V<|aB fun q=>aJ<|ag fun E=>au (str s)<|au (.int .i64 i)<|p (eX u9 aa aa ab)<|p (lt aa aa)<|p mv<|gs (t:=14) aa (fun ae=> ?_) fun ae=> ?_
 exact aI aa<|aI aa<|aI aa<|aI aa<|p (bC aa)<|nl<|E<|ct aa<|ag fun A=>ay<|A<|rt<|br<|tr<|tr<|br<|tr<|aX aa<|⟨by show bU false =_; rw [sV (i:=i) ab (BH ab)],a⟩
 refine aM aa (aV (str s) aa)<|aM aa (aV (.int .i64 i) aa)<|aM aa (eX u9 aa aa ab)<|aM aa (bK aa aa)<|p (bu aa)<|nl<|E<|cd aa (fun Z=> ?_) fun Z=> ?_
 exact ag fun A=>ay<|A<|rt<|br<|tr<|tr<|br<|tr<|aX aa<|⟨by show bU false =_; rw [sV (i:=i) ab (BH ab)],a⟩
 have aj:iT (s.getD i 0)=true :=Ty ab ab
 exact aQ<|bn<|q<|rg aa<|au (.int .i64 i)<|p (ad aa aa<|bY ab)<|p aE<|nl<|tn<|⟨_,ab,i+1,ab,(fun j I=>by rcases fu j i with h | h <;> first | exact hp j h | (rw [show j=i by omega]; exact aj)),a,aa,aa,aa⟩
 exact ext<|bf<|bf<|be<|O<|ag fun q=>p aE<|nl<|q<|rt<|aX aa<|⟨by show bU true =_; rw [uG (fun j I=>hp j ab)],a⟩
theorem y0 (s:List UInt8) (w:World) (hs:s.length≤1048576):
 bp aw 180 (bh [str s]) w (fun v w'=>v=KH (bD s)∧Wk w w'):=by
 refine enter func180 aa ntmps180 aa<|ag fun al=>p aE<|p aE<|p aE<|ay<|al<|ag fun ar=>e<|m7 il fun ae bg bk aN aF=> ?_
 have a3:bw bg w.heap.size 5 1 (.slice (some ⟨ae,0,none⟩) 0 0) (([]:List UInt8)).length (U8<|([]:List UInt8)):=aF _ ab
 refine ay<|ar<|ag fun av=>ay<|av<|aB fun ax=>aJ<|lp (fun ah O C=> ∃ (i:Nat) (acc:List UInt8) (Z:Value),(i≤s.length∧acc.length≤i)∧(bw C w.heap.size 5 1 (Z) (acc).length<|U8<|acc)∧(Wk w C)∧(jq acc (s.drop i)=bD s)∧(O 0=str s)∧(O 6=Z)∧(O 7= .int .i64 i)∧(s.length - i=ah)) _ ⟨0,[],.slice (some ⟨ae,0,none⟩) 0 0,(by simp),a3,aN.md,aa,aa,aa,aa,aa⟩ ?_
 rintro ah O C ⟨i,acc,Z,hi,A,q,hd,a4,a5,a7,rfl⟩
 refine fx 0 a4<|fx 6 a5<|fx 7 a7 ?_
 obtain ⟨I,J,rfl⟩:=cE A
 refine aB fun az=>ag fun aA=>au (.int .i64 i)<|au (str s)<|p (cz u9 aa aa)<|p (lt aa aa)<|nl<|aA<|cd aa (fun aS=> ?_) fun aS=> ?_
 refine aQ<|az<|aJ<|aB fun V=>ag fun aC=>au (str s)<|au (.int .i64 i)<|p (eX u9 aa aa ab)<|p (bK aa aa)<|nl<|aC<|cd aa (fun aT=> ?_) fun aT=> ?_
 have aR:(s.getD i 0).toNat=47:=ab
 refine aB fun G=> ?_
 have a:(fun w'=>Wk C w') C.drew:=(Md.refl _ _).drew
 exact bN (fun w'=>Wk C w') aa wide a<|bI 0 aa (.slice I acc.length J) a<|bI 2 aa (str s) a<|bI 3 aa (.int .i64 i) a<|aH 4 aa (fun _ _=>bF ((i+1:Nat):Int) aa aa<|bl ab ab) a<|aH 5 aa (fun _ _=>mh u9 aa aa ab) a<|aH 1 aa (fun w' aP=>na m8 aa ((ba<|a6 A aP).2)<|aa) a<|aH 6 aa (fun _ _=>aE) a<|aH 7 aa (fun _ _=>aE) a<|aH 8 aa (fun _ _=>aE) a<|aH 9 aa (fun _ _=>aE) a<|hn aj<|G<|rt<|tr<|br<|tr<|br<|tr<|f4 aa aa aa aa aa<|⟨by rw [← hd,drop_cons 0 (by omega :i < s.length),D2 aR]; rfl,Md.trans q (Md.refl _ _).drew⟩
 refine aQ<|V ?_
 refine ep (fun U ac=> ∃ (k:Nat),(k < s.length∧i≤k∧k≤i+1)∧(Wk w ac)∧(bw ac w.heap.size 5 1 (.slice I acc.length J) (acc).length<|U8<|acc)∧(jq (acc++ [s.getD k 0]) (s.drop<|k+1)=bD s)∧(U 0=str s)∧(U 6= .slice I acc.length J)∧(U 7= .int .i64 k)) ?_ ?_
 refine ag fun G=>au (str s)<|au (.int .i64 i)<|p (eX u9 aa aa ab)<|p (bK aa aa)<|nl<|G<|cd aa (fun aU=> ?_) fun aU=> ?_
 have M:(s.getD i 0).toNat=92:=ab
 refine ag fun am=>au (.int .i64 i)<|p (bF ((i+1:Nat):Int) aa aa<|bl ab ab)<|ay<|am<|aB fun an=>ag fun ao=>p mv<|au (str s)<|p (cz u9 aa aa)<|p (ge aa aa)<|nl<|ao<|cd aa (fun aW=> ?_) fun aW=> ?_
 exact ag fun E=>p aE<|p aE<|p aE<|ay<|E<|rt<|tr<|tr<|br<|tr<|br<|tr<|f4 aa aa aa aa aa<|⟨by rw [← hd,drop_cons 0 (by omega :i < s.length),gV ab,DY M]; rfl,q⟩
 refine aQ<|an<|ag fun E=>au (str s)<|p mv<|p (eX u9 aa aa ab)<|p (cO aa aa)<|p mv<|gs (t:=37) aa (fun aZ=> ?_) fun aZ=> ?_
 refine aM aa (aV (str s) aa)<|aM aa mv<|aM aa (eX u9 aa aa ab)<|aM aa (cO aa aa)<|p (bC aa)<|p mv<|gs (t:=43) aa (fun a0=> ?_) fun a0=> ?_
 refine aM aa (aV (str s) aa)<|aM aa mv<|aM aa (eX u9 aa aa ab)<|aM aa (cO aa aa)<|p (bC aa)<|nl<|E<|cd aa (fun aX=> ?_) fun aX=> ?_
 exact ag fun aq=>p aE<|p aE<|p aE<|ay<|aq<|rt<|tr<|br<|tr<|br<|tr<|f4 aa aa aa aa aa<|⟨by rw [← hd,drop_cons 0 (by omega :i < s.length),drop_cons 0 (by omega :i+1 < s.length),DZ M (by rw [lk]; exact decide_eq_false ab)]; rfl,q⟩
 exact aQ<|tn<|⟨i+1,ab,q,A,(by rw [← hd,drop_cons 0 (by omega :i < s.length),drop_cons 0 (by omega :i+1 < s.length),vZ M (by rw [lk]; exact decide_eq_true ab)]),aa,aa,aa⟩
 exact aI aa<|aI aa<|aI aa<|aI aa<|p (bu aa)<|nl<|E<|cf aa<|aQ<|tn<|⟨i+1,ab,q,A,(by rw [← hd,drop_cons 0 (by omega :i < s.length),drop_cons 0 (by omega :i+1 < s.length),vZ M (by rw [lk]; exact decide_eq_true ab)]),aa,aa,aa⟩
 exact aI aa<|aI aa<|aI aa<|aI aa<|p (bu aa)<|p mv<|aI aa<|aI aa<|aI aa<|aI aa<|p (bu aa)<|nl<|E<|cf aa<|aQ<|tn<|⟨i+1,ab,q,A,(by rw [← hd,drop_cons 0 (by omega :i < s.length),drop_cons 0 (by omega :i+1 < s.length),vZ M (by rw [lk]; exact decide_eq_true ab)]),aa,aa,aa⟩
 exact aQ<|tn<|⟨i,ab,q,A,(by rw [← hd,drop_cons 0 (by omega :i < s.length),D1 ab ab]),aa,aa,aa⟩
 rintro U ac ⟨k,hk,aK,ak,aY,a8,a9,bb⟩
 refine fx 0 a8<|fx 6 a9<|fx 7 bb<|ag fun G=>au (.slice I acc.length J)<|au (str s)<|au (.int .i64 k)<|p (eX u9 aa aa ab)<|e<|fZ il aa aa fun bi bd bj Y aD=> ?_
 have ai:Wk w bd:=Md.trans aK Y.md
 refine e<|ap il (a6 ak Y.md) aa (by have :=ai.size; omega) aa (aO.ec aD) (aa) (aa) ab ab fun bc bq a1 aL bo bm=> ?_
 have aG:=Wk.own ai (a6 ak Y.md) aL<|cD _
 have a2:=qP a1
 exact ay<|G<|rg aa<|au (.int .i64 k)<|p (bF ((k+1:Nat):Int) aa aa<|bl ab ab)<|p aE<|nl<|bn<|tn<|⟨_,ab,k+1,acc++ [s.getD k 0],bc,(by rw [bM,e9]; omega),a2,aG,aY,aa,aa,aa,aa⟩
 refine ext<|bf<|bf<|be<|ax<|ag fun V=>au (.slice I acc.length J)<|p (na m8 aa ((ba A).2)<|aa)<|p aE<|p aE<|p aE<|ay<|V<|rt<|f4 aa aa aa aa aa ?_
 exact ⟨by rw [← hd,gV ab,zt]; rfl,q⟩
theorem XA (s:List UInt8) (w:World) (hs:s.length≤1048576):
 bp aw 177 (bh [str s]) w (fun v w'=>v= .tuple #[str (letE s).1,.int .i64 (letE s).2]∧Wk w w'):=by
 refine enter func177 aa ntmps177 aa<|ag fun aS=>p aE<|ay<|aS<|ag fun aX=>au (str s)<|e<|cl uJ (vE s _ hs) aa fun v10 bE a8=> ?_
 obtain ⟨rfl,ai⟩:=a8
 refine ay<|aX<|aB fun aY=>ag fun aL=>au (str s)<|p (cz u9 aa aa)<|p (bK aa aa)<|p mv<|gs (t:=14) aa (fun ax=> ?_) fun ax=> ?_
 exact aI aa<|aI aa<|p (bC aa)<|nl<|aL<|ct aa<|ag fun V=>p aE<|ay<|V<|rt<|tr<|f2 aa aa aa<|⟨by show gD #[str [],.int .i64 21]=_; unfold letE; rw [if_pos (.inl<|wV.1 ab)]; rfl,ai⟩
 refine aM aa mv<|aM aa (no aa)<|p (bu aa)<|nl<|aL<|cb aa (fun ak=> ?_) fun ak=> ?_
 exact ag fun V=>p aE<|ay<|V<|rt<|tr<|f2 aa aa aa<|⟨by show gD #[str [],.int .i64 21]=_; unfold letE; rw [if_pos (.inr<|by simpa using ak)]; rfl,ai⟩
 refine aQ<|aY<|ag fun V=>e<|m7 il fun aN aP bB a7 a4=> ?_
 have bl:bw aP w.heap.size 5 1 (.slice (some ⟨aN,0,none⟩) 0 0) (([]:List UInt8)).length (U8<|([]:List UInt8)):=a4 _<|by have :=ai.size; omega
 have a5:Wk w aP:=Md.trans ai a7.md
 refine ay<|V<|aB fun aZ=>ag fun a0=>p aE<|nl<|a0<|aJ<|lp (fun Y an am=> ∃ (i:Nat) (aC:Value),(i≤s.length)∧(bw am w.heap.size 5 1 (aC) (lets<|s.take i).length<|U8<|lets<|s.take i)∧(Wk w am)∧(an 0=str s)∧(an 5=aC)∧(an 6= .int .i64 i)∧(s.length - i=Y)) _ ⟨0,.slice (some ⟨aN,0,none⟩) 0 0,ab,bl,a5,aa,aa,aa,aa⟩ ?_
 rintro Y an am ⟨i,aC,hi,A,Z,bm,bo,bq,rfl⟩
 refine fx 0 bm<|fx 5 bo<|fx 6 bq ?_
 obtain ⟨C,E,rfl⟩:=cE A
 have bi:=CD<|s.take i
 rw [dQ] at bi
 refine aB fun a1=>ag fun a2=>au (.int .i64 i)<|au (str s)<|p (cz u9 aa aa)<|p (lt aa aa)<|nl<|a2<|cd aa (fun bd=> ?_) fun bd=> ?_
 refine aQ<|a1<|aB fun M=>aJ<|ag fun aT=>p aE<|nl<|aT<|aB fun aG=>ag fun aU=>ay<|aU<|aJ ?_
 refine lp (fun Y O ah=> ∃ (j:Nat) (ob:Bool),(j≤(lets<|s.take i).length)∧(ob=decide (s.getD i 0∈(lets<|s.take i).take j))∧(Wk am ah)∧(O 0=str s)∧(O 5= .slice C (lets<|s.take i).length E)∧(O 6= .int .i64 i)∧(O 7= .bool ob)∧(O 8= .int .i64 j)∧((lets<|s.take i).length - j=Y)) _ ⟨0,false,ab,aa,(Md.refl _ _),aa,aa,aa,aa,aa,aa⟩ ?_
 rintro Y O ah ⟨j,ob,bD,al,a,br,bs,bt,bv,bx,rfl⟩
 refine fx 0 br<|fx 5 bs<|fx 6 bt<|fx 7 bv<|fx 8 bx<|aB fun aW=>ag fun aK=>au (.int .i64 j)<|au (.slice C (lets<|s.take i).length E)<|p (bJ mS aa aa)<|p (lt aa aa)<|p mv<|gs (t:=29) aa (fun bj=> ?_) fun bj=> ?_
 refine aM aa (aV (.bool ob) aa)<|aM aa (no aa)<|p (bC aa)<|nl<|aK<|cb aa (fun av=> ?_) fun av=> ?_
 have bk:¬s.getD i 0∈(lets<|s.take i).take j:=of_decide_eq_false<|by rw [← al]; simpa using av
 refine aQ<|aW<|aB fun U=>aJ ?_
 have q:(fun w'=>Wk ah w') ah.drew:=(Md.refl _ _).drew
 exact bN (fun w'=>Wk ah w') aa wide q<|bI 0 aa (.slice C (lets<|s.take i).length E) q<|bI 1 aa (.int .i64 j) q<|aH 2 aa (fun _ _=>bc l6 aa aa ab<|aO.ok ((ba<|a6 A a).2)<|pX ab) q<|aH 3 aa (fun w' a9=>ld pB aa<|Wk.aR a9<|pW (i:=j) (ba<|a6 A a).2 ab) q<|bI 4 aa (str s) q<|bI 5 aa (.int .i64 i) q<|aH 6 aa (fun _ _=>eX u9 aa aa ab) q<|aH 7 aa (fun _ _=>bK aa aa) q<|aH 8 aa (fun _ _=>aE) q<|hn aj<|bn<|U<|rg aa<|au (.int .i64 j)<|p (ad aa aa<|bY ab)<|p aE<|nl<|tn<|⟨_,ab,j+1,decide (((lets<|s.take i).getD j 0).toNat=((s.getD i 0).toNat:Int)),ab,(decide_eq_decide.2<|by rw [Wa ab]; constructor <;> intro h <;> first | exact .inr (k6.1 ab) | (rcases h with h | h <;> first | exact absurd h bk | (rw [h]))),(Md.trans a (Md.refl _ _).drew),aa,aa,aa,aa,aa,aa⟩
 have ae:ob=decide (s.getD i 0∈lets (s.take i)):=by
  have h1:ob=true :=by simpa using av
  rw [h1] at al
  rw [h1]; exact (decide_eq_true<|NM<|of_decide_eq_true al.symm).symm
 refine ext<|bf<|bf<|be<|aG<|ag fun U=>au (.bool ob)<|p (no aa)<|nl<|U<|cb aa (fun I=> ?_) fun I=> ?_
 have J:¬s.getD i 0∈lets (s.take i):=of_decide_eq_false<|by rw [← ae]; simpa using I
 refine rg aa<|au (.slice C (lets<|s.take i).length E)<|au (str s)<|au (.int .i64 i)<|p (eX u9 aa aa ab)<|e<|fZ il aa aa fun a3 aF bb G ao=> ?_
 have ac:Wk w aF:=Md.trans (Md.trans Z a) G.md
 refine e<|ap il (a6 (a6 A a) G.md) aa (by have :=ac.size; omega) aa (aO.ec ao) (aa) (aa) ab ab fun aD bA az ar bz bg=> ?_
 have aq:=Wk.own ac (a6 (a6 A a) G.md) ar<|cD _
 have aA:=qP az
 exact p aE<|nl<|bn<|M<|rg aa<|au (.int .i64 i)<|p (ad aa aa<|bY ab)<|p aE<|nl<|tn<|⟨_,ab,i+1,aD,ab,(by rw [qI ab,if_neg J]; exact aA),aq,aa,aa,aa,aa⟩
 have J:s.getD i 0∈lets (s.take i):=of_decide_eq_true<|by rw [← ae]; simpa using I
 exact aQ<|bn<|M<|rg aa<|au (.int .i64 i)<|p (ad aa aa<|bY ab)<|p aE<|nl<|tn<|⟨_,ab,i+1,.slice C (lets<|s.take i).length E,ab,(by rw [qI ab,if_pos J]; exact a6 A a),(Md.trans Z a),aa,aa,aa,aa⟩
 have ae:ob=decide (s.getD i 0∈lets (s.take i)):=by rw [al,eU ab]
 refine aI aa<|aI aa<|p (bu aa)<|nl<|aK<|cf aa<|ext<|bf<|bf<|be<|aG<|ag fun U=>au (.bool ob)<|p (no aa)<|nl<|U<|cb aa (fun I=> ?_) fun I=> ?_
 have J:¬s.getD i 0∈lets (s.take i):=of_decide_eq_false<|by rw [← ae]; simpa using I
 refine rg aa<|au (.slice C (lets<|s.take i).length E)<|au (str s)<|au (.int .i64 i)<|p (eX u9 aa aa ab)<|e<|fZ il aa aa fun a3 aF bb G ao=> ?_
 have ac:Wk w aF:=Md.trans (Md.trans Z a) G.md
 refine e<|ap il (a6 (a6 A a) G.md) aa (by have :=ac.size; omega) aa (aO.ec ao) (aa) (aa) ab ab fun aD bA az ar bz bg=> ?_
 have aq:=Wk.own ac (a6 (a6 A a) G.md) ar<|cD _
 have aA:=qP az
 exact p aE<|nl<|bn<|M<|rg aa<|au (.int .i64 i)<|p (ad aa aa<|bY ab)<|p aE<|nl<|tn<|⟨_,ab,i+1,aD,ab,(by rw [qI ab,if_neg J]; exact aA),aq,aa,aa,aa,aa⟩
 have J:s.getD i 0∈lets (s.take i):=of_decide_eq_true<|by rw [← ae]; simpa using I
 exact aQ<|bn<|M<|rg aa<|au (.int .i64 i)<|p (ad aa aa<|bY ab)<|p aE<|nl<|tn<|⟨_,ab,i+1,.slice C (lets<|s.take i).length E,ab,(by rw [qI ab,if_pos J]; exact a6 A a),(Md.trans Z a),aa,aa,aa,aa⟩
 exact ext<|bf<|bf<|be<|aZ<|ag fun M=>au (.slice C (lets<|s.take i).length E)<|p (na m8 aa ((ba A).2)<|aa)<|p aE<|ay<|M<|rt<|f2 aa aa aa<|⟨by show gD #[str (lets<|s.take i),.int .i64 0]=_; unfold letE; rw [if_neg (fun h=>h.elim (fun h=>by rw [h] at ax; exact ax aa) fun h=>by rw [h] at ak; cases ak),show s.take i=s from eU ab]; rfl,Z⟩
end Go.Hb
section
namespace Go.Hb
open Go.Hb.iw
theorem Y0 {L:List Nat} (h:¬L.length≤64) (h2:L.length≤65) {M:List Nat} (h1:L=M.take 65) (x:Nat):L=(M++ [x]).take 65:=by
 have h3:=congrArg jD h1
 rw [dQ] at h3
 rw [List.take_append_of_le_length ab,← h1]
theorem Y1 {L:List Nat} (h:L.length≤64) {M:List Nat} (h1:L=M.take 65) (x:Nat):L++ [x]=(M++ [x]).take 65:=by
 have h3:=congrArg jD h1
 rw [dQ] at h3
 rw [eU (by rw [bM,e9]; omega)]
 rw [eU ab] at h1; rw [h1]
theorem Zj {l out:List Nat} {nx:Int} (h:qg l out nx) (q:nx < 65536):out.length≤65536:=by
 have h1:∀ x∈out,x < 65536:=fun x a=>by have :=((h.2 x).1 a).2; omega
 have h2:out.Nodup:=h.1.imp fun i=>by omega
 have h3:=List.Nodup.length_le_of_subset h2 fun x a=>List.mem_range.2<|h1 x a
 simpa using h3
theorem Dq (b:UInt8) (w:World):
 bp aw 273 (bh [.int .u8 b.toNat]) w (fun v w'=>v= .bool (ji b)∧Wk w w'):=by
 refine enter func273 aa ntmps273 aa<|ag fun i=>ay<|i<|ag fun a=>au (.int .u8 b.toNat)<|p (ge aa aa)<|p mv<|gs (t:=5) aa (fun C=> ?_) fun C=> ?_
 refine aM aa (aV (.int .u8 b.toNat) aa)<|aM aa (le aa aa)<|p (bC aa)<|p mv<|gs (t:=9) aa (fun E=> ?_) fun E=> ?_
 refine aM aa (aV (.int .u8 b.toNat) aa)<|aM aa (cO aa aa)<|p (bC aa)<|p mv<|gs (t:=13) aa (fun q=> ?_) fun q=> ?_
 refine aM aa (aV (.int .u8 b.toNat) aa)<|aM aa (cO aa aa)<|p (bC aa)<|p mv<|gs (t:=17) aa (fun A=> ?_) fun A=> ?_
 exact aM aa (aV (.int .u8 b.toNat) aa)<|aM aa (cO aa aa)<|p (bC aa)<|ay<|a<|rt<|aX aa<|⟨by show bU (decide _)=_; rw [oS]; exact bv (by constructor <;> intro h <;> first | exact ⟨ab,ab,ab,ab,h⟩ | exact h.2.2.2.2),Md.refl _ _⟩
 exact aI aa<|aI aa<|p (bu aa)<|ay<|a<|rt<|aX aa<|⟨by show bU false =_; rw [oS,decide_eq_false ab],Md.refl _ _⟩
 exact aI aa<|aI aa<|p (bu aa)<|p mv<|aI aa<|aI aa<|p (bu aa)<|p aE<|nl<|a<|rt<|aX aa<|⟨by show bU false =_; rw [oS,decide_eq_false ab],Md.refl _ _⟩
 exact aI aa<|aI aa<|p (bu aa)<|p mv<|aI aa<|aI aa<|p (bu aa)<|p mv<|aI aa<|aI aa<|p (bu aa)<|ay<|a<|rt<|aX aa<|⟨by show bU false =_; rw [oS,decide_eq_false ab],Md.refl _ _⟩
 exact aI aa<|aI aa<|p (bu aa)<|p mv<|aI aa<|aI aa<|p (bu aa)<|p mv<|aI aa<|aI aa<|p (bu aa)<|p mv<|aI aa<|aI aa<|p (bu aa)<|p aE<|nl<|a<|rt<|aX aa<|⟨by show bU false =_; rw [oS,decide_eq_false ab],Md.refl _ _⟩
theorem Mj (kind:Nat) (s:List UInt8) (w:World) (hk:kind=1∨kind=2∨kind=3) (hs:s.length≤1048576):
 bp aw 258 (bh [ak kind,str s]) w (fun v w'=>v=bQ (eK kind s)∧Wk w w'):=by
 refine enter func258 aa ntmps258 aa<|ag fun ah=>ay<|ah<|aB fun al=>ag fun am=>au (ak kind)<|nl<|am<|aJ<|ag fun an=>p (bK aa aa)<|p aE<|nl<|an<|cd aa (fun av=> ?_) fun av=> ?_
 refine aB fun M=>ag fun q=>au (str s)<|p (cz u9 aa aa)<|p (cO aa aa)<|p mv<|gs (t:=15) aa (fun aC=> ?_) fun aC=> ?_
 exact aI aa<|aI aa<|aI aa<|aI aa<|p (bC aa)<|nl<|q<|ct aa<|ag fun i=>ay<|i<|rt<|tr<|br<|tr<|aX aa<|⟨by rw [tc ab (fun h=>by omega) (fun h=>by omega)]; rfl,Md.refl _ _⟩
 refine aM aa (aV (str s) aa)<|aM aa (je 0 u9 aa aa ab)<|eg aa aa aa<|cl AS (Dq (s.getD 0 0) _) aa fun aF aK ao=> ?_
 obtain ⟨rfl,Z⟩:=ao
 refine aM aa (no aa)<|p (bu aa)<|nl<|q<|cb aa (fun G=> ?_) fun G=> ?_
 exact ag fun i=>ay<|i<|rt<|tr<|br<|tr<|aX aa<|⟨by rw [tc ab (fun h=>by rw [h.2.2] at G; cases G) (fun h=>by omega)]; rfl,Z⟩
 exact aQ<|M<|ag fun i=>au (str s)<|p (je 0 u9 aa aa ab)<|p (lM u3 pY aa<|bY<|by have :=iX (s.getD 0 0); omega)<|p aE<|nl<|i<|rt<|br<|tr<|aX aa<|⟨by rw [HW ⟨ab,ab,by simpa using G⟩]; rfl,Z⟩
 refine ag fun M=>p (bK aa aa)<|ay<|M<|cd aa (fun ax=> ?_) fun ax=> ?_
 refine aB fun q=>ag fun i=>au (str s)<|p (cz u9 aa aa)<|p (cO aa aa)<|nl<|i<|cd aa (fun aA=> ?_) fun aA=> ?_
 exact ag fun C=>ay<|C<|rt<|tr<|br<|tr<|aX aa<|⟨by rw [tc ab (fun h=>by omega) (fun h=>by omega)]; rfl,Md.refl _ _⟩
 refine aQ<|q<|ag fun C=>au (str s)<|p (je 0 u9 aa aa ab)<|e<|cl AS (Dq (s.getD 0 0) _) aa fun v31 aL ap=> ?_
 obtain ⟨rfl,O⟩:=ap
 refine ay<|C<|ag fun E=>au (str s)<|p (je 1 u9 aa aa ab)<|e<|cl AS (Dq (s.getD 1 0) _) aa fun aG V aq=> ?_
 obtain ⟨rfl,U⟩:=aq
 refine ay<|E<|aB fun ai=>ag fun Y=>p mv<|p (no aa)<|p mv<|gb (t:=37) aa (fun J=> ?_) fun J=> ?_
 exact aI aa<|aI aa<|p (bC aa)<|nl<|Y<|ct aa<|ag fun A=>ay<|A<|rt<|tr<|br<|tr<|aX aa<|⟨by rw [tc ab (fun h=>by omega) (fun h=>by rw [h.2.2.1] at J; cases J)]; rfl,Md.trans O U⟩
 refine aM aa mv<|aM aa (no aa)<|p (bu aa)<|nl<|Y<|cb aa (fun I=> ?_) fun I=> ?_
 exact ag fun A=>ay<|A<|rt<|tr<|br<|tr<|aX aa<|⟨by rw [tc ab (fun h=>by omega) (fun h=>by rw [h.2.2.2] at I; cases I)]; rfl,Md.trans O U⟩
 refine aQ<|ai<|aB fun A=> ?_
 have g0:=iX<|s.getD 0 0
 have g1:=iX<|s.getD 1 0
 have a:(fun w'=>Wk V w') V.drew:=(Md.refl _ _).drew
 exact bN (fun w'=>Wk V w') aa wide a<|bI 0 aa (str s) a<|aH 1 aa (fun _ _=>je 0 u9 aa aa ab) a<|aH 2 aa (fun _ _=>lM u3 pY aa<|bY<|by have :=iX (s.getD 0 0); omega) a<|aH 3 aa (fun _ _=>oO ((256 *(s.getD 0 0).toNat:Nat):Int) aa aa<|bl ab ab) a<|bI 4 aa (str s) a<|aH 5 aa (fun _ _=>je 1 u9 aa aa ab) a<|aH 6 aa (fun _ _=>lM u3 pY aa<|bY<|by have :=iX (s.getD 1 0); omega) a<|aH 7 aa (fun _ _=>bF ((256 *(s.getD 0 0).toNat+(s.getD 1 0).toNat:Nat):Int) aa aa<|bl ab ab) a<|aH 8 aa (fun _ _=>aE) a<|hn aj<|A<|rt<|br<|tr<|aX aa<|⟨by rw [HX ⟨ab,ab,by simpa using J,by simpa using I⟩]; rfl,(Md.trans O U).drew⟩
 refine aQ<|bn<|al<|ag fun q=>au (str s)<|e<|cl rC (rX s 65535 _ hs az) aa fun v51 aN ar=> ?_
 obtain ⟨rfl,ac⟩:=ar
 have aD:=Ki s
 refine p mv<|p (xt aa aa)<|p (xt aa aa)<|p aE<|ay<|q<|aB fun i=>ag fun C=>p mv<|p (cO aa aa)<|nl<|C<|cd aa (fun ae=> ?_) fun ae=> ?_
 exact ag fun E=>ay<|E<|rt<|tr<|aX aa<|⟨by rw [BJ ab]; unfold bQ; exact iv (by have h1:=ae; unfold ee at*; split <;> first | rfl | (rename_i h2; rw [if_neg h2] at h1; exact absurd aa h1)),ac⟩
 exact aQ<|i<|ag fun E=>p mv<|ay<|E<|rt<|aX aa<|⟨by rw [BJ ab]; rfl,ac⟩
theorem XH (kind:Nat) (s:List UInt8) (w:World) (hk:kind=1∨kind=2∨kind=3) (hs:s.length≤1048576):
 bp aw 232 (bh [ak kind,str s]) w (fun v w'=>v= .tuple #[bQ (gP kind s).1,ak ((gP kind s).2)]∧Wk w w'):=by
 refine enter func232 aa ntmps232 aa<|ag fun q=>p aE<|ay<|q<|aB fun A=>aB fun C=>rg aa<|au (ak kind)<|p (lt aa aa)<|p mv<|gs (t:=9) aa (fun h=>absurd h ab) fun U=>aM aa (aV (ak kind) aa)<|aM aa (gt aa aa)<|p (bu aa)<|nl<|C<|cd aa (fun h=>absurd h ab) fun O=>aQ<|A<|ag fun E=>au (ak kind)<|au (str s)<|e<|cl Ge (Mj kind s _ hk hs) aa fun V Y J=> ?_
 obtain ⟨rfl,i⟩:=J
 refine ay<|E<|aB fun G=>ag fun I=>p mv<|p (bK aa aa)<|nl<|I<|cd aa (fun M=> ?_) fun M=> ?_
 exact ag fun a=>p aE<|ay<|a<|rt<|tr<|f2 aa aa aa<|⟨by unfold gP; rw [if_pos (show eK kind s=0 by omega)]; rfl,i⟩
 exact aQ<|G<|ag fun a=>p mv<|p aE<|p aE<|nl<|a<|rt<|f2 aa aa aa<|⟨by unfold gP; rw [if_neg (show ¬eK kind s=0 by omega)]; rfl,i⟩
theorem WV (kind:Nat) (s:List UInt8) (w:World) (hk:kind=1∨kind=2∨kind=3) (hs:s.length≤1048576):
 bp aw 261 (bh [ak kind,str s]) w (fun v w'=>bw w' w.heap.size 9 1 (v) (dM kind s).length ((dM kind s).map str)∧Wk w w'):=by
 refine enter func261 aa ntmps261 aa<|ag fun aG=>ay<|aG<|ag fun aH=>p aE<|nl<|aH<|aB fun aK=>ag fun aL=>au (ak kind)<|p (bK aa aa)<|nl<|aL<|cd aa (fun aW=> ?_) fun aW=> ?_
 refine ag fun ah=>ay<|ah<|aB fun ai=>ag fun aj=>ay<|aj<|aJ<|lp (fun V M E=> ∃ (i A:Nat) (a:List (List UInt8)) (q:Value),((i≤s.length∧A≤i∧a.length≤i∧a++fJ 44 ((s.take i).drop A) (s.drop i)=fJ 44 [] s)∨(i=s.length+1∧a=fJ 44 [] s))∧(bw E w.heap.size 9 1 (q) (a).length<|(a).map str)∧(Wk w E)∧(M 0=ak kind)∧(M 1=str s)∧(M 5=q)∧(M 6=ak A)∧(M 7=ak i)∧(s.length+1 - i=V)) _ ⟨0,0,[],.slice none 0 0,(.inl ⟨ab,ab,by simp,aa⟩),(dC _ _ _ _),(Md.refl _ _),aa,aa,aa,aa,aa,aa⟩ ?_
 rintro V M E ⟨i,A,a,q,hi,C,I,a8,a9,ba,bb,bc,rfl⟩
 refine fx 0 a8<|fx 1 a9<|fx 5 ba<|fx 6 bb<|fx 7 bc<|aB fun al=>ag fun U=>au (ak i)<|au (str s)<|p (cz u9 aa aa)<|p (le aa aa)<|nl<|U<|cd aa (fun aY=> ?_) fun aY=> ?_
 refine aQ<|al<|aB fun G=>aJ<|aB fun ac=> ?_
 obtain ⟨bE,bH,bG,hd⟩:=hi.resolve_right fun h=>by omega
 refine rg aa<|au (ak i)<|au (str s)<|p (cz u9 aa aa)<|p (bK aa aa)<|p mv<|gs (t:=22) aa (fun a2=> ?_) fun a2=> ?_
 have bN:a++ [(s.take i).drop A]=fJ 44 [] s:=by rw [← hd,gV (show s.length≤i by omega),fJ]
 refine aI aa<|aI aa<|aI aa<|aI aa<|p (bC aa)<|nl<|ac<|ct aa<|ag fun ae=>au (q)<|au (str s)<|au (ak A)<|au (ak i)<|p (mg u9 aa aa aa ab)<|e<|fZ fQ aa aa fun aN aC aU J am=> ?_
 have Y:Wk w aC:=Md.trans I J.md
 refine e<|ap fQ (a6 C J.md) aa (by have :=Y.size; omega) aa (aO.ec am) (aa) (aa) ab ab fun aA bv ax ao bs a1=> ?_
 have an:=Wk.own Y (a6 C J.md) ao<|cD _
 have az:=mJ ax
 exact ay<|ae<|rg aa<|au (ak i)<|p (bF ((i+1:Nat):Int) aa aa<|bl ab ab)<|p aE<|nl<|bn<|G<|rg aa<|au (ak i)<|p (bF ((i+1:Nat):Int) aa aa<|bl ab ab)<|p aE<|nl<|tn<|⟨_,ab,i+1,i+1,a++ [(s.take i).drop A],aA,(.inr ⟨ab,bN⟩),az,an,aa,aa,aa,aa,aa,aa⟩
 refine aM aa (aV (str s) aa)<|aM aa (aV (ak i) aa)<|aM aa (eX u9 aa aa ab)<|aM aa (bK aa aa)<|p (bu aa)<|nl<|ac<|cd aa (fun ar=> ?_) fun ar=> ?_
 have bN:a++ [(s.take i).drop A]++fJ 44 [] (s.drop<|i+1)=fJ 44 [] s:=by rw [← hd,drop_cons 0 (show i < s.length by omega),fJ,if_pos (k6.1 (by have bA:(44:UInt8).toNat=44:=rfl; omega)),dH]; rfl
 refine ag fun ae=>au (q)<|au (str s)<|au (ak A)<|au (ak i)<|p (mg u9 aa aa aa ab)<|e<|fZ fQ aa aa fun aN aC aU J am=> ?_
 have Y:Wk w aC:=Md.trans I J.md
 refine e<|ap fQ (a6 C J.md) aa (by have :=Y.size; omega) aa (aO.ec am) (aa) (aa) ab ab fun aA bv ax ao bs a1=> ?_
 have an:=Wk.own Y (a6 C J.md) ao<|cD _
 have az:=mJ ax
 exact ay<|ae<|rg aa<|au (ak i)<|p (bF ((i+1:Nat):Int) aa aa<|bl ab ab)<|p aE<|nl<|bn<|G<|rg aa<|au (ak i)<|p (bF ((i+1:Nat):Int) aa aa<|bl ab ab)<|p aE<|nl<|tn<|⟨_,ab,i+1,i+1,a++ [(s.take i).drop A],aA,(.inl ⟨ab,ab,(by rw [bM,e9]; omega),by rw [show (s.take<|i+1).drop (i+1)= [] from gV (by rw [dQ]; omega)]; exact bN⟩),az,an,aa,aa,aa,aa,aa,aa⟩
 have bN:a++fJ 44 ((s.take<|i+1).drop A) (s.drop<|i+1)=fJ 44 [] s:=by rw [← hd,drop_cons 0 (show i < s.length by omega),fJ,if_neg (fun h=>by rw [h] at ar; exact ar rfl),← vM 0 ab ab]
 exact aQ<|bn<|G<|rg aa<|au (ak i)<|p (bF ((i+1:Nat):Int) aa aa<|bl ab ab)<|p aE<|nl<|tn<|⟨_,ab,i+1,A,a,q,(.inl ⟨ab,ab,ab,bN⟩),C,I,aa,aa,aa,aa,aa,aa⟩
 refine ext<|bf<|bf<|be<|ai<|ag fun G=>au (q)<|p (cU (q) aa)<|nl<|G<|rt<|tr<|aX aa ?_
 have av:a=dM kind s:=by unfold dM; rw [if_pos ab]; rcases hi with h | h <;> first | omega | exact h.2
 exact ⟨by rw [← av]; exact C,I⟩
 refine aQ<|aK<|aB fun ah=>ag fun ai=>ay<|ai<|aJ<|lp (fun V Z E=> ∃ (i:Nat) (a:List (List UInt8)) (q:Value),(i≤s.length+kind∧a.length≤i)∧(a++chunks kind (s.drop i)=chunks kind s)∧(bw E w.heap.size 9 1 (q) (a).length<|(a).map str)∧(Wk w E)∧(Z 0=ak kind)∧(Z 1=str s)∧(Z 5=q)∧(Z 8=ak i)∧(s.length - i=V)) _ ⟨0,[],.slice none 0 0,(by simp),aa,(dC _ _ _ _),(Md.refl _ _),aa,aa,aa,aa,aa⟩ ?_
 rintro V Z E ⟨i,a,q,hi,hd,C,I,bd,bg,bi,bj,rfl⟩
 refine fx 0 bd<|fx 1 bg<|fx 5 bi<|fx 8 bj<|aB fun aj=>ag fun al=>au (ak i)<|au (str s)<|p (cz u9 aa aa)<|p (lt aa aa)<|nl<|al<|cd aa (fun aZ=> ?_) fun aZ=> ?_
 have a4:s.drop i≠[]:=fun h=>by have :=congrArg jD h; rw [fT,fU] at this; omega
 refine aQ<|aj<|aB fun U=>aJ<|ag fun G=>au (ak i)<|au (ak kind)<|p (bF ((i+kind:Nat):Int) aa aa<|bl ab ab)<|ay<|G ?_
 refine ep (fun O aF=> ∃ (j:Nat),(i≤j∧j≤s.length∧(s.take j).drop i=(s.drop i).take kind)∧(aF=E)∧(O 0=ak kind)∧(O 1=str s)∧(O 5=q)∧(O 8=ak i)∧(O 9=ak j)) ?_ ?_
 refine ag fun ac=>p mv<|au (str s)<|p (cz u9 aa aa)<|p (gt aa aa)<|nl<|ac<|cd aa (fun a0=> ?_) fun a0=> ?_
 exact rg aa<|au (str s)<|p (cz u9 aa aa)<|p aE<|nl<|tn<|⟨s.length,(by refine ⟨ab,ab,?_⟩; rw [List.take_length,eU (by rw [fT]; omega)]),aa,aa,aa,aa,aa,aa⟩
 exact aQ<|tn<|⟨i+kind,(by refine ⟨ab,ab,?_⟩; rw [su,Nat.add_sub_cancel_left]),aa,aa,aa,aa,aa,aa⟩
 rintro O aF ⟨j,a3,aS,bk,bm,bo,bq,br⟩
 refine fx 0 bk<|fx 1 bm<|fx 5 bo<|fx 8 bq<|fx 9 br ?_
 subst aS
 refine rg aa<|au (q)<|au (str s)<|au (ak i)<|au (ak j)<|p (mg u9 aa aa aa ab)<|e<|fZ fQ aa aa fun bz bx bB aq aP=> ?_
 have aD:Wk w bx:=Md.trans I aq.md
 refine e<|ap fQ (a6 C aq.md) aa (by have :=aD.size; omega) aa (aO.ec aP) (aa) (aa) ab ab fun bt bJ a5 aT bI bD=> ?_
 have aR:=Wk.own aD (a6 C aq.md) aT<|cD _
 have a7:=mJ a5
 exact p aE<|nl<|bn<|U<|rg aa<|au (ak i)<|au (ak kind)<|p (bF ((i+kind:Nat):Int) aa aa<|bl ab ab)<|p aE<|nl<|tn<|⟨_,ab,i+kind,a++ [(s.drop i).take kind],bt,(by rw [bM,e9]; omega),(by rw [← hd,xC (k:=kind) ab a4,dH,ss]; rfl),(by rw [← a3.2.2]; exact a7),aR,aa,aa,aa,aa,aa⟩
 refine ext<|bf<|bf<|be<|ah<|ag fun U=>au (q)<|p (cU (q) aa)<|nl<|U<|rt<|aX aa ?_
 have av:a=dM kind s:=by unfold dM; rw [if_neg ab,← hd,gV ab,xD,ei]
 exact ⟨by rw [← av]; exact C,I⟩
theorem XG (l:List Nat) (a:Option Addr) (c:Nat) (w:World) (A:aO w.heap a (l.map bQ)) (ba:l.length≤1048576) (aP:∀ x∈l,x < 65536):
 bp aw 262 (bh [.slice a l.length c]) w (fun v w'=>bw w' w.heap.size 3 1 (v) (kj l).length ((kj l).map bQ)∧Wk w w'):=by
 refine enter func262 aa ntmps262 aa<|ag fun am=>ay<|am<|ag fun an=>p aE<|nl<|an<|ag fun ao=>ay<|ao<|aJ<|lp (fun O V U=> ∃ (out:List Nat) (last:Int) (G:Value),(-1≤last∧last < 65536)∧(qg l out last)∧(bw U w.heap.size 3 1 (G) (out).length<|(out).map bQ)∧(Wk w U)∧(out.length≤65536)∧(V 0= .slice a l.length c)∧(V 3=G)∧(V 4= .int .i64 last)∧((65536 - last).toNat=O)) _ ⟨[],-1,.slice none 0 0,(az),(qg.nil l),(dC _ _ _ _),(Md.refl _ _),(jG _),aa,aa,aa,aa⟩ ?_
 rintro O V U ⟨out,last,G,bb,al,ae,aD,bi,aT,aU,aW,rfl⟩
 refine fx 0 aT<|fx 3 aU<|fx 4 aW<|aJ<|ag fun aq=>ay<|aq<|aB fun ar=>ag fun av=>ay<|av<|aJ<|lp (fun O J ah=> ∃ (i:Nat) (nx:Int),(i≤l.length∧ -1≤nx)∧(lf l last i nx)∧(Wk w ah)∧(Wk U ah)∧(J 0= .slice a l.length c)∧(J 3=G)∧(J 4= .int .i64 last)∧(J 5= .int .i64 nx)∧(J 6=ak i)∧(l.length - i=O)) _ ⟨0,-1,(ab),(lf.nil l last),aD,(Md.refl _ _),aa,aa,aa,aa,aa,aa⟩ ?_
 rintro O J ah ⟨i,nx,hi,C,q,E,aY,aZ,a0,a1,a2,rfl⟩
 refine fx 0 aY<|fx 3 aZ<|fx 4 a0<|fx 5 a1<|fx 6 a2<|aB fun ax=>ag fun aA=>au (ak i)<|au (.slice a l.length c)<|p (bJ nu aa aa)<|p (lt aa aa)<|nl<|aA<|cd aa (fun aH=> ?_) fun aH=> ?_
 refine aQ<|ax<|aB fun I=>aJ<|ag fun M=>au (.slice a l.length c)<|au (ak i)<|p (bc kf aa aa ab<|aO.ok (A.wk q)<|bT ab)<|p (ld bz aa<|yH (f:=bQ) (i:=i) 0 (A.wk q) ab)<|au (.int .i64 last)<|p (gt aa aa)<|p mv<|gs (t:=19) aa (fun aL=> ?_) fun aL=> ?_
 refine aM aa (aV (.int .i64 nx) aa)<|aM aa (lt aa aa)<|aM aa mv<|gs (t:=22) aa (fun aN=> ?_) fun aN=> ?_
 exact aI aa<|aI aa<|aI aa<|aI aa<|aI aa<|aI aa<|aM aa (bC aa)<|p (bC aa)<|nl<|M<|ct aa<|rg aa<|au (.slice a l.length c)<|au (ak i)<|p (bc kf aa aa ab<|aO.ok (A.wk q)<|bT ab)<|p (ld bz aa<|yH (f:=bQ) (i:=i) 0 (A.wk q) ab)<|p aE<|nl<|bn<|I<|rg aa<|au (ak i)<|p (bF ((i+1:Nat):Int) aa aa<|bl ab ab)<|p aE<|nl<|tn<|⟨_,ab,i+1,((l.getD i 0:Nat):Int),(ab),(C.take ab ab<|.inl ab),q,E,aa,aa,aa,aa,aa,aa⟩
 refine aM aa (aV (.slice a l.length c) aa)<|aM aa (aV (ak i) aa)<|aM aa (bc kf aa aa ab<|aO.ok (A.wk q)<|bT ab)<|aM aa (ld bz aa<|yH (f:=bQ) (i:=i) 0 (A.wk q) ab)<|aM aa (aV (.int .i64 nx) aa)<|aM aa (lt aa aa)<|aM aa (bu aa)<|p (bC aa)<|nl<|M<|cd aa (fun aK=> ?_) fun aK=> ?_
 exact rg aa<|au (.slice a l.length c)<|au (ak i)<|p (bc kf aa aa ab<|aO.ok (A.wk q)<|bT ab)<|p (ld bz aa<|yH (f:=bQ) (i:=i) 0 (A.wk q) ab)<|p aE<|nl<|bn<|I<|rg aa<|au (ak i)<|p (bF ((i+1:Nat):Int) aa aa<|bl ab ab)<|p aE<|nl<|tn<|⟨_,ab,i+1,((l.getD i 0:Nat):Int),(ab),(C.take ab ab<|.inr ab),q,E,aa,aa,aa,aa,aa,aa⟩
 exact aQ<|bn<|I<|rg aa<|au (ak i)<|p (bF ((i+1:Nat):Int) aa aa<|bl ab ab)<|p aE<|nl<|tn<|⟨_,ab,i+1,nx,(ab),(C.skip<|.inr ⟨ab,ab⟩),q,E,aa,aa,aa,aa,aa,aa⟩
 exact aI aa<|aI aa<|aI aa<|ek aa<|ek aa<|ek aa<|ek aa<|ek aa<|ek aa<|aI aa<|p (bu aa)<|nl<|M<|cf aa<|aQ<|bn<|I<|rg aa<|au (ak i)<|p (bF ((i+1:Nat):Int) aa aa<|bl ab ab)<|p aE<|nl<|tn<|⟨_,ab,i+1,nx,(ab),(C.skip<|.inl ab),q,E,aa,aa,aa,aa,aa,aa⟩
 refine ext<|bf<|bf<|be<|ar<|aB fun I=>ag fun M=>au (.int .i64 nx)<|p (lt aa aa)<|nl<|M<|cd aa (fun ac=> ?_) fun ac=> ?_
 refine ag fun Y=>au (G)<|p (cU (G) aa)<|nl<|Y<|rt<|tr<|br<|tr<|br<|aX aa ?_
 have a3:=lf.done (by rw [show i=l.length by omega] at C; exact C) al ac
 exact ⟨by rw [← a3]; exact a6 ae E,q⟩
 obtain ⟨m,hm,aR,bd,aj⟩:=lf.more (by rw [show i=l.length by omega] at C; exact C) al ac
 have bg:=aP m hm
 refine aQ<|I<|ag fun Y=>au (G)<|au (.int .i64 nx)<|e<|fZ nq aa aa fun a7 a5 a8 Z aC=> ?_
 have ai:Wk w a5:=Md.trans q Z.md
 refine e<|ap nq (a6 (a6 ae E) Z.md) aa (by have :=ai.size; omega) aa (aO.ec aC) (aa) (aa) ab ab fun a4 bk aS aG bj a9=> ?_
 have aF:=Wk.own ai (a6 (a6 ae E) Z.md) aG<|cD _
 exact ay<|Y<|rg aa<|au (.int .i64 nx)<|p (cU (.int .i64 nx) aa)<|nl<|bn<|tn<|⟨_,ab,out++ [m],nx,a4,(ab),aj,(by rw [bM,ir]; subst aR; exact aS),aF,(Zj aj ab),aa,aa,aa,aa⟩
theorem KR (kind:Nat) (s:List UInt8) (w:World) (hk:kind=1∨kind=2∨kind=3) (hs:s.length≤1048576):
 bp aw 235 (bh [ak kind,str s]) w (fun v w'=>(∃ a,v= .tuple #[a,ak ((ed kind s).2)]∧bw w' w.heap.size 3 1 (a) ((ed kind s).1).length (((ed kind s).1).map bQ))∧Wk w w'):=by
 refine enter func235 aa ntmps235 aa<|ag fun aF=>p aE<|ay<|aF<|aB fun aK=>aB fun aL=>rg aa<|au (ak kind)<|p (lt aa aa)<|p mv<|gs (t:=12) aa (fun h=>absurd h ab) fun bx=>aM aa (aV (ak kind) aa)<|aM aa (gt aa aa)<|p (bu aa)<|nl<|aL<|cd aa (fun h=>absurd h ab) fun bt=>aQ<|aK<|aB fun aN=>ag fun aP=>au (str s)<|p (cz u9 aa aa)<|p (bK aa aa)<|nl<|aP<|cd aa (fun C=> ?_) fun C=> ?_
 refine ag fun am=>p aE<|ay<|am<|rt<|tr<|f2 aa aa aa ?_
 have aC:s= []:=fY ab
 exact ⟨⟨.slice none 0 0,by unfold ed; rw [if_pos aC]; rfl,by unfold ed; rw [if_pos aC]; exact dC _ _ _ _⟩,Md.refl _ _⟩
 refine aQ<|aN<|ag fun am=>ay<|am<|aB fun aR=>rg aa<|au (ak kind)<|au (str s)<|e<|cl P4 (WV kind s _ hk hs) aa fun v21 ai aZ=> ?_
 obtain ⟨az,ae⟩:=aZ
 obtain ⟨Z,ac,rfl⟩:=cE az
 have ax:=(ba az).2
 have bz:=Kz (kind:=kind) (s:=s) ab
 refine ay<|aR<|aB fun aS=>ag fun aT=>p aE<|nl<|aT<|aJ<|lp (fun ar M aq=> ∃ (i:Nat) (fs:List Nat) (an:Value),(i≤(dM kind s).length∧fs.length≤65)∧(¬∃ x∈(dM kind s).take i,eK kind x=0)∧(fs=(((dM kind s).take i).map<|eK kind).take 65)∧(bw aq ai.heap.size 3 1 (an) (fs).length<|(fs).map bQ)∧(Wk ai aq)∧(M 0=ak kind)∧(M 1=str s)∧(M 6=an)∧(M 7= .slice Z (dM kind s).length ac)∧(M 8=ak i)∧((dM kind s).length - i=ar)) _ ⟨0,[],.slice none 0 0,(by simp),(by rintro ⟨x,ah,_⟩; simp at ah),aa,(dC _ _ _ _),(Md.refl _ _),aa,aa,aa,aa,aa,aa⟩ ?_
 rintro ar M aq ⟨i,fs,an,hi,V,U,J,q,a9,bb,bd,bg,bi,rfl⟩
 refine fx 0 a9<|fx 1 bb<|fx 6 bd<|fx 7 bg<|fx 8 bi<|aB fun aG=>ag fun aH=>au (ak i)<|au (.slice Z (dM kind s).length ac)<|p (bJ eZ aa aa)<|p (lt aa aa)<|nl<|aH<|cd aa (fun a2=> ?_) fun a2=> ?_
 refine aQ<|aG<|aB fun Y=>aJ<|aB fun aj=> ?_
 obtain ⟨E,G,rfl⟩:=cE J
 refine rg aa<|au (ak kind)<|au (.slice Z (dM kind s).length ac)<|au (ak i)<|p (bc cR aa aa ab<|aO.ok (ax.wk q)<|bT ab)<|p (ld bV aa<|cj.get (i:=i) (ax.wk q) ab)<|e<|cl Ge (Mj kind ((dM kind s).getD i []) _ hk<|by have :=KA (kind:=kind) ab (yw (d:= []) (show i < (dM kind s).length by omega)); omega) aa fun bB bC a0=> ?_
 obtain ⟨rfl,I⟩:=a0
 refine ay<|aj<|aB fun O=>ag fun aI=>p mv<|p (bK aa aa)<|nl<|aI<|cd aa (fun a3=> ?_) fun a3=> ?_
 refine ag fun al=>p aE<|ay<|al<|rt<|tr<|br<|tr<|tr<|br<|tr<|f2 aa aa aa ?_
 have A:ed kind s=([],31):=by unfold ed; rw [if_neg (fun h=>by rw [h] at C; exact C rfl),if_pos ⟨_,yw (d:= []) (show i < (dM kind s).length by omega),ab⟩]
 exact ⟨⟨.slice none 0 0,by rw [A]; rfl,by rw [A]; exact dC _ _ _ _⟩,Md.trans ae<|Md.trans q I⟩
 refine aQ<|O<|ag fun al=>au (.slice E fs.length G)<|p (bJ nu aa aa)<|p (le aa aa)<|nl<|al<|cd aa (fun a4=> ?_) fun a4=> ?_
 refine rg aa<|au (.slice E fs.length G)<|p mv<|e<|fZ nq aa aa fun bq bm bs ao aU=> ?_
 have av:Wk ai bm:=Md.trans (Md.trans q I) ao.md
 refine e<|ap nq (a6 (a6 J I) ao.md) aa (by have :=av.size; omega) aa (aO.ec aU) (aa) (aa) ab ab fun aD bo a7 aY bA bv=> ?_
 have aW:=Wk.own av (a6 (a6 J I) ao.md) aY<|cD _
 have a8:bw bo ai.heap.size 3 1 (aD) (fs++ [eK kind ((dM kind s).getD i [])]).length ((fs++ [eK kind ((dM kind s).getD i [])]).map bQ):=by
  rw [bM,ir]; exact a7
 exact p aE<|nl<|bn<|Y<|rg aa<|au (ak i)<|p (bF ((i+1:Nat):Int) aa aa<|bl ab ab)<|p aE<|nl<|tn<|⟨_,ab,i+1,fs++ [eK kind ((dM kind s).getD i [])],aD,(by rw [bM,e9]; omega),(Bz ab V ab),(by rw [fK _ i [] ab,ir]; exact Y1 ab U _),a8,aW,aa,aa,aa,aa,aa,aa⟩
 exact aQ<|bn<|Y<|rg aa<|au (ak i)<|p (bF ((i+1:Nat):Int) aa aa<|bl ab ab)<|p aE<|nl<|tn<|⟨_,ab,i+1,fs,.slice E fs.length G,ab,(Bz ab V ab),(by rw [fK _ i [] ab,ir]; exact Y0 ab ab U _),(a6 J I),(Md.trans q I),aa,aa,aa,aa,aa,aa⟩
 refine ext<|bf<|bf<|be<|aS<|aB fun Y=>aB fun aj=> ?_
 obtain ⟨E,G,rfl⟩:=cE J
 have bj:(dM kind s).take i=(dM kind s):=eU ab
 rw [bj] at U V
 refine rg aa<|au (.slice Z (dM kind s).length ac)<|p (bJ eZ aa aa)<|p (gt aa aa)<|nl<|aj<|cd aa (fun a5=> ?_) fun a5=> ?_
 refine ag fun O=>p aE<|ay<|O<|rt<|tr<|f2 aa aa aa ?_
 have A:ed kind s=([],32):=by unfold ed; rw [if_neg (fun h=>by rw [h] at C; exact C rfl),if_neg V,if_pos ab]
 exact ⟨⟨.slice none 0 0,by rw [A]; rfl,by rw [A]; exact dC _ _ _ _⟩,Md.trans ae q⟩
 refine aQ<|Y<|ag fun O=>au (.slice E fs.length G)<|e<|cl P5 (XG fs E G _ (ba J).2 ab fun x ah=>by rw [U] at ah; obtain ⟨y,_,rfl⟩:=List.mem_map.1 (NM ah); exact HV _ _) aa fun bk bD a1=> ?_
 obtain ⟨aA,aX⟩:=a1
 refine p aE<|ay<|O<|rt<|f2 aa aa aa ?_
 have A:ed kind s=(kj ((dM kind s).map<|eK kind),0):=by unfold ed; rw [if_neg (fun h=>by rw [h] at C; exact C rfl),if_neg V,if_neg ab]
 rw [U,eU (by rw [fM]; omega)] at aA
 exact ⟨⟨bk,by rw [A]; rfl,by rw [A]; exact eE aA<|by have :=ae.size; have :=q.size; omega⟩,Md.trans ae<|Md.trans q aX⟩
end Go.Hb
end
section
namespace Go.Hb
open Go.Hb.ox
theorem U1 {l:List UInt8} {i:Nat} {x:UInt8} (h:i < l.length) (h1:¬x∈l.take i) (h2:¬((l.getD i 0).toNat:Int)=(x.toNat:Int)):¬x∈l.take (i+1):=by
 rw [fK l i 0 h,jF,j5]
 rintro (h3 | h3)
 · exact h1 h3
 · exact h2<|by rw [h3]
theorem U0 {l:List UInt8} {i:Nat} {x:UInt8} (h:i < l.length) (h2:((l.getD i 0).toNat:Int)=(x.toNat:Int)):x∈l:=by
 have e:l.getD i 0=x:=k6.1 ab
 rw [← e]; exact dY h
def pE (s:List UInt8) (i:Nat):Int:=if fj 93 (s.drop i) < 0 then -1 else ((i+(s.drop i).idxOf 93:Nat):Int)
theorem Rt {s:List UInt8} {i k:Nat} (hk:i≤k∧k < s.length) (a:∀ j,i≤j→j < k→s.getD j 0≠93) (q:s.getD k 0=93):pE s i=(k:Nat):=by
 have h:=Ji (x:=93) (l:=s.drop i) (i:=k - i) (by rw [fT]; omega) (fun j A=>by rw [da,ri,← da]; exact a _ ab ab)<|by rw [da,ri,← da,show i+(k - i)=k by omega]; exact q
 have h2:=rM (c:=93) (l:=s.drop i) ab
 unfold pE
 rw [if_neg ab]
 omega
theorem Ru {s:List UInt8} {i:Nat} (q:∀ j,i≤j→j < s.length→s.getD j 0≠93):pE s i= -1:=by
 have h:=Jj (x:=93) (l:=s.drop i) fun j a=>by rw [fT] at a; rw [da,ri,← da]; exact q _ ab ab
 unfold pE
 rw [if_pos ab]
theorem Rs {s:List UInt8} {i:Nat} (hi:i < s.length) (q:s.getD i 0=91):(pE s i < 0↔¬(s.drop<|i+1).idxOf 93 < (s.drop<|i+1).length)∧(¬pE s i < 0→pE s i=((i+1 +(s.drop<|i+1).idxOf 93:Nat):Int)):=by
 have e:s.drop i=91::s.drop (i+1):=by rw [drop_cons 0 hi,q]
 have a:(91::s.drop (i+1)).idxOf 93=(s.drop<|i+1).idxOf 93 +1:=by rw [List.idxOf_cons]; rfl
 unfold pE fj
 rw [e,a,c7]
 by_cases h:(s.drop<|i+1).idxOf 93 < (s.drop<|i+1).length
 · rw [if_pos (show (s.drop<|i+1).idxOf 93 +1 < (s.drop<|i+1).length+1 by omega)]
   rw [if_neg ab]
   refine ⟨⟨fun h1=>by omega,fun h1=>absurd h h1⟩,fun _=>by omega⟩
 · rw [if_neg (show ¬(s.drop<|i+1).idxOf 93 +1 < (s.drop<|i+1).length+1 by omega)]
   rw [if_pos (show (-1:Int) < 0 from by decide)]
   refine ⟨⟨fun _=>h,fun _=>by decide⟩,fun h1=>absurd az h1⟩
theorem WM {w:World} {B e:Nat} {v:Value} {l:List (List UInt8)} {x:List UInt8} (h:w.ownsRow B e 1 v (l.length+1) (l.map str++ [str x])):w.ownsRow B e 1 v (l++ [x]).length ((l++ [x]).map str):=by
 rw [bM,ir]; exact h
theorem O4 {f:UInt8→Bool} :(bytesOf fun x=> !f x).length=0↔(bytesOf f).length=256:=by
 have :=O5 f 256
 unfold bytesOf; omega
theorem JF {h:Array Obj} {a:Option Addr} {l:List (List UInt8)} {i:Nat} (q:aO h a (l.map str)) (hi:i < l.length):Hb.aR h (bk a) (fo a+i*1 +0)=some (str<|l.getD i []):=cj.get (i:=i) q hi
theorem Q7 {s t r:List UInt8} (h:iF s=some (t,r)):(t.length=1∨3≤t.length)∧t.length≤s.length:=by
 cases s with
 | nil=>cases h
 | cons b l=>
   simp only [iF] at h
   split at h
   · split at h
     · rename_i a
       simp only [fV,sD] at h
       obtain ⟨rfl,_⟩:=h
       simp only [c7,dQ]
       omega
     · cases h
   · simp only [fV,sD] at h
     obtain ⟨rfl,_⟩:=h
     simp
theorem RV:∀ (f:Nat) (s:List UInt8) (xs:List (List UInt8)),l5 f s=some xs→∀ t∈xs,(t.length=1∨3≤t.length)∧t.length≤s.length:=by
 intro f
 induction f with
 | zero=>intro s xs h t a; simp only [l5] at h; split at h <;> first | (cases h; cases a) | cases h
 | succ f i=>
   intro s xs h t a
   simp only [l5] at h
   split at h
   · cases h; cases a
   · cases hc:iF s with
     | none=>rw [hc] at h; cases h
     | some q=>
       obtain ⟨u,r⟩:=q
       rw [hc] at h
       simp only at h
       cases hr:l5 f r with
       | none=>rw [hr] at h; cases h
       | some A=>
         rw [hr] at h
         cases h
         rcases e7.1 a with rfl | a
         · exact Q7 hc
         · have h1:=i r A hr t a
           have h2:=A4 hc
           exact ⟨h1.1,ab⟩
theorem GO {s:List UInt8} :(∀ t∈(dq s).1,(t.length=1∨3≤t.length)∧t.length≤s.length)∧(dq s).1.length≤16:=by
 unfold dq
 split
 · exact ⟨(fun t a=>by cases a),jG _⟩
 · split
   · exact ⟨(fun t a=>by cases a),jG _⟩
   · split
     · exact ⟨(fun t a=>by cases a),jG _⟩
     · rename_i xs h
       split
       · exact ⟨(fun t a=>by cases a),jG _⟩
       · exact ⟨(fun t a=>RV _ _ _ h t a),by simp only; omega⟩
theorem Hk {s:List UInt8} {k:Nat} :(s.drop k).getD 0 0=s.getD k 0:=by rw [da,ri,← da]; rfl
theorem Fw {s:List UInt8} {i m:Nat} (a:s.getD i 0=91) (h:i+1 +m < s.length):91::(s.drop<|i+1).take (m+1)=(s.take<|i+1 +m+1).drop i:=by
 rw [su,drop_cons 0 (show i < s.length by omega),a,show i+1 +m+1 - i=m+1 +1 by omega,qe]
theorem WC {s:List UInt8} {i:Nat} (h:i < s.length):(s.take<|i+1).drop i= [s.getD i 0]:=by
 rw [su,drop_cons 0 h,show i+1 - i=0 +1 by omega,qe,List.take_zero]
theorem Ol {t:List UInt8} {b:UInt8} (h:t.length=1) (h1:¬t= [46]):((t.getD 0 0).toNat:Int)=(b.toNat:Int)↔t.getD 0 0=46∨t.getD 0 0=b:=by
 match t,h with
 | [c],_=>
   simp only [lT] at*
   constructor
   · intro h2; exact .inr<|k6.1 ab
   · rintro (h2 | h2)
     · exact absurd (by rw [h2]) h1
     · rw [h2]
theorem Jg {b:UInt8} (h:(b.toNat:Int)=94):b=94:=k6.1 (by have :(94:UInt8).toNat=94:=rfl; omega)
theorem Wy {b:UInt8} (h:¬(b.toNat:Int)=94):b≠94:=by rintro rfl; exact h rfl
theorem Kq {l:List UInt8} {x:UInt8} (h:l.length=1) (a:l.getD 0 0=x):l= [x]:=by
 match l,h with
 | [c],_=>simp only [lT] at a; rw [a]
theorem Ya {f:UInt8→Bool} (h:¬(bytesOf f).length=256) (h1:(bytesOf f).length=1) (h2:(bytesOf f).getD 0 0=46):gS f= [91,46,93]:=by
 have e:=Kq h1 h2
 have h3:¬f 93=true :=fun h4=>by have :=(FD f 93).2 h4; rw [e] at this; simp at this
 unfold gS; rw [if_neg h,if_neg (fun h4=>h4.2.1 h2),if_neg h3,e]; rfl
theorem Yb {f:UInt8→Bool} (h:¬(bytesOf f).length=256) (h1:(bytesOf f).length=1) (h2:(bytesOf f).getD 0 0=91):gS f= [91,91,93]:=by
 have e:=Kq h1 h2
 have h3:¬f 93=true :=fun h4=>by have :=(FD f 93).2 h4; rw [e] at this; simp at this
 unfold gS; rw [if_neg h,if_neg (fun h4=>h4.2.2 h2),if_neg h3,e]; rfl
theorem Jz (s:List UInt8) (b:UInt8) (w:World) (hs:s.length≤1048576):
 bp aw 263 (bh [str s,.int .u8 b.toNat]) w (fun v w'=>v= .bool (decide (b∈s))∧Wk w w'):=by
 refine enter func263 aa ntmps263 aa<|ag fun I=>ay<|I<|aB fun J=>ag fun M=>ay<|M<|aJ<|lp (fun E a G=> ∃ (i:Nat),(i≤s.length)∧(¬b∈s.take i)∧(G=w)∧(a 0=str s)∧(a 1= .int .u8 b.toNat)∧(a 5=ak i)∧(s.length - i=E)) _ ⟨0,ab,(by simp),aa,aa,aa,aa,aa⟩ ?_
 rintro E a G ⟨i,hi,C,Z,ae,ah,ai,rfl⟩
 refine fx 0 ae<|fx 1 ah<|fx 5 ai ?_
 subst Z
 refine aB fun O=>ag fun U=>au (ak i)<|au (str s)<|p (cz u9 aa aa)<|p (lt aa aa)<|nl<|U<|cd aa (fun ac=> ?_) fun ac=> ?_
 refine aQ<|O<|aB fun q=>aJ<|ag fun V=>au (str s)<|au (ak i)<|p (eX u9 aa aa ab)<|au (.int .u8 b.toNat)<|p (bK aa aa)<|nl<|V<|cd aa (fun A=> ?_) fun A=> ?_
 exact ag fun Y=>ay<|Y<|rt<|br<|tr<|tr<|br<|tr<|aX aa<|⟨by show bU true =_; rw [decide_eq_true (U0 ab A)],Md.refl _ _⟩
 exact aQ<|bn<|q<|rg aa<|au (ak i)<|p (ad aa aa<|bY ab)<|p aE<|nl<|tn<|⟨_,ab,i+1,ab,(U1 ab C A),aa,aa,aa,aa,aa⟩
 exact ext<|bf<|bf<|be<|J<|ag fun q=>p aE<|nl<|q<|rt<|aX aa<|⟨by show bU false =_; rw [eU ab] at C; rw [decide_eq_false C],Md.refl _ _⟩
theorem EW (t:List UInt8) (b:UInt8) (w:World) (ak:t.length=1∨3≤t.length) (al:t.length≤1048576):
 bp aw 237 (bh [.agg [str t].toArray,.int .u8 b.toNat]) w (fun v w'=>v= .bool (cJ t b)∧Wk w w'):=by
 refine enter func237 aa ntmps237 aa<|ag fun E=>e<|iZ aa fun ah ao aj i U=>ay<|E<|ag fun G=>p (fa TR aa)<|p (ld bV aa<|U.aR 0)<|ay<|G<|aB fun I=>ag fun J=>p mv<|p (cz u9 aa aa)<|p (bK aa aa)<|nl<|J<|cd aa (fun ae=> ?_) fun ae=> ?_
 refine ag fun a=>p mv<|p (dZ aa aa)<|p mv<|gs (t:=14) aa (fun C=> ?_) fun C=> ?_
 exact aI aa<|aI aa<|aI aa<|aI aa<|p (bC aa)<|ay<|a<|rt<|tr<|aX aa<|⟨by show bU true =_; unfold cJ; rw [if_pos (show t.length=1 by omega)]; rw [decide_eq_true (.inl<|by rw [C]; rfl)],i.md⟩
 exact aM aa mv<|aM aa (je 0 u9 aa aa ab)<|aM aa (aV (.int .u8 b.toNat) aa)<|aM aa (bK aa aa)<|p (bu aa)<|ay<|a<|rt<|tr<|aX aa<|⟨by show bU (decide _)=_; unfold cJ; rw [if_pos (show t.length=1 by omega)]; exact congrArg bU (decide_eq_decide.2<|Ol ab C),i.md⟩
 refine aQ<|I<|aB fun a=>ag fun M=>p mv<|p (je 1 u9 aa aa ab)<|p (bK aa aa)<|nl<|M<|cd aa (fun A=> ?_) fun A=> ?_
 refine ag fun q=>p mv<|p mv<|p (cz u9 aa aa)<|p (dR ((t.length - 1:Nat):Int) aa aa<|bl ab ab)<|p (mg u9 aa aa aa ab)<|au (.int .u8 b.toNat)<|e<|cl Gg (Jz ((t.take<|t.length - 1).drop 2) b _<|by simp only [fT,dQ]; omega) aa fun am ap Z=> ?_
 obtain ⟨rfl,V⟩:=Z
 exact ay<|q<|ag fun O=>p mv<|p (no aa)<|p aE<|nl<|O<|rt<|tr<|aX aa<|⟨by show bU (!decide _)=_; unfold cJ; rw [if_neg (show ¬t.length=1 by omega),if_pos (k6.1 (by have ai:(94:UInt8).toNat=94:=aa; omega))],Md.trans i.md V⟩
 refine aQ<|a<|ag fun q=>p mv<|p mv<|p (cz u9 aa aa)<|p (dR ((t.length - 1:Nat):Int) aa aa<|bl ab ab)<|p (mg u9 aa aa aa ab)<|au (.int .u8 b.toNat)<|e<|cl Gg (Jz ((t.take<|t.length - 1).drop 1) b _<|by simp only [fT,dQ]; omega) aa fun an aq ac=> ?_
 obtain ⟨rfl,Y⟩:=ac
 exact ay<|q<|rt<|aX aa<|⟨by unfold cJ; rw [if_neg (show ¬t.length=1 by omega),if_neg (fun h=>by rw [h] at A; exact A aa)]; rfl,Md.trans i.md Y⟩
theorem EX (t:List UInt8) (b:UInt8) (bi:Int) (w:World) (i:t.length=1∨3≤t.length) (q:t.length≤1048576) (a:(b.toNat:Int)=bi):bp aw 237 (bh [.agg [str t].toArray,.int .u8 bi]) w (fun v w'=>v= .bool (cJ t b)∧Wk w w'):=by
 subst a; exact EW t b w i q
theorem EY (t:List UInt8) (q:Bool) (w:World) (aS:t.length=1∨3≤t.length) (aU:t.length≤1048576):
 bp aw 304 (bh [.agg [str t].toArray,.bool q]) w (fun v w'=>bw w' w.heap.size 5 1 (v) (bytesOf fun x=>decide (cJ t x=q)).length (U8<|bytesOf fun x=>decide (cJ t x=q))∧Wk w w'):=by
 refine enter func304 aa ntmps304 aa<|ag fun ah=>e<|iZ aa fun ar J aZ ac av=>ay<|ah<|ag fun ai=>e<|m7 il fun V aW a1 aD az=> ?_
 have aK:bw aW J.heap.size 5 1 (.slice (some ⟨V,0,none⟩) 0 0) (([]:List UInt8)).length (U8<|([]:List UInt8)):=az _ ab
 refine ay<|ai<|aB fun aj=>ag fun al=>p aE<|nl<|al<|aJ<|lp (fun Y C U=> ∃ (i:Nat) (a:Value),(i≤256)∧(bw U J.heap.size 5 1 (a) (l0 (fun x=>decide (cJ t x=q)) i).length<|U8<|l0 (fun x=>decide (cJ t x=q)) i)∧(Wk J U)∧(C 1= .bool q)∧(C 2=aT ar)∧(C 5=a)∧(C 6=ak i)∧(256 - i=Y)) _ ⟨0,.slice (some ⟨V,0,none⟩) 0 0,ab,aK,aD.md,aa,aa,aa,aa,aa⟩ ?_
 rintro Y C U ⟨i,a,hi,I,G,aL,aM,aN,aP,rfl⟩
 refine fx 1 aL<|fx 2 aM<|fx 5 aN<|fx 6 aP ?_
 have a2:=qo (fun x=>decide (cJ t x=q)) i
 refine aB fun am=>ag fun an=>au (ak i)<|p (lt aa aa)<|nl<|an<|cd aa (fun aG=> ?_) fun aG=> ?_
 refine aQ<|am<|aB fun E=>aJ<|ag fun ao=>p (di sM aa (aa) (show ∀ j,j < 1→Hb.aR _ _ (0 +j)= [str t][j]? from fun j a4=>by cases j with | zero=>exact (G.B av).aR 0 | succ j=>omega))<|au (ak i)<|p (lM u5 qW aa<|tV ab)<|e<|cl AN (EX t (UInt8.ofNat i) _ _ aS aU<|zn i ab) aa fun a7 a8 aF=> ?_
 obtain ⟨rfl,A⟩:=aF
 refine ay<|ao<|ag fun aq=>p mv<|au (.bool q)<|p (Hv u4 aa aa)<|nl<|aq<|cd aa (fun O=> ?_) fun O=> ?_
 refine rg aa<|au (a)<|au (ak i)<|p (lM u5 qW aa<|tV ab)<|e<|fZ il aa aa fun aY aV a0 M ax=> ?_
 have Z:Wk J aV:=Md.trans (Md.trans G A) M.md
 refine e<|ap il (a6 (a6 I A) M.md) aa (by have :=Z.size; omega) aa (aO.ec ax) (aa) (aa) ab ab fun v24 a9 ae aC a5 a3=> ?_
 have aA:=Wk.own Z (a6 (a6 I A) M.md) aC<|cD _
 rw [← zn i ab] at ae
 have aI:=qP ae
 exact p aE<|nl<|bn<|E<|rg aa<|au (ak i)<|p (bF ((i+1:Nat):Int) aa aa<|bl ab ab)<|p aE<|nl<|tn<|⟨_,ab,i+1,v24,ab,(by rw [sU,if_pos (decide_eq_true O)]; exact aI),aA,aa,aa,aa,aa,aa⟩
 exact aQ<|bn<|E<|rg aa<|au (ak i)<|p (bF ((i+1:Nat):Int) aa aa<|bl ab ab)<|p aE<|nl<|tn<|⟨_,ab,i+1,a,ab,(by rw [sU,if_neg (fun h=>O<|of_decide_eq_true h),ei]; exact a6 I A),(Md.trans G A),aa,aa,aa,aa,aa⟩
 refine ext<|bf<|bf<|be<|aj<|ag fun E=>au (a)<|p (cU (a) aa)<|nl<|E<|rt<|aX aa ?_
 have aH:i=256:=ab
 subst aH
 exact ⟨eE I ac.md.size,Md.trans ac.md G⟩
theorem Yd (t:List UInt8) (w:World) (aI:t.length=1∨3≤t.length) (aK:t.length≤1048576):
 bp aw 294 (bh [.agg [str t].toArray]) w (fun v w'=>v=str (gS<|cJ t)∧Wk w w'):=by
 have cn:(bytesOf<|cJ t).length≤256:=qo _ 256
 have cm:(bytesOf fun x=> !cJ t x).length≤256:=qo _ 256
 have bN:=O4 (f:=cJ t)
 refine enter func294 aa ntmps294 aa ?_
 refine aB fun a9=> ?_
 refine rg aa ?_
 refine e<|iZ aa fun bs cr ce bE aW=> ?_
 refine p aE ?_
 refine nl ?_
 refine a9 ?_
 refine aB fun bk=> ?_
 refine rg aa ?_
 refine p (di sM aa (aa) (show ∀ j,j < 1→Hb.aR _ _ (0 +j)= [str t][j]? from fun j a4=>by cases j with | zero=>exact (aW).aR 0 | succ j=>omega)) ?_
 refine e<|cl Gm (EY t true _ aI aK) aa fun v10 cs bH=> ?_
 obtain ⟨aF,aZ⟩:=bH
 rw [FC (g:=cJ t) (fun x=>by cases cJ t x <;> rfl)] at aF
 obtain ⟨Y,Z,rfl⟩:=cE aF
 have a:=(ba aF).2
 have aY:=aZ.B aW
 refine p aE ?_
 refine nl ?_
 refine bk ?_
 refine aB fun bm=> ?_
 refine rg aa ?_
 refine p (di sM aa (aa) (show ∀ j,j < 1→Hb.aR _ _ (0 +j)= [str t][j]? from fun j a4=>by cases j with | zero=>exact (aY).aR 0 | succ j=>omega)) ?_
 refine e<|cl Gm (EY t false _ aI aK) aa fun v12 b3 bI=> ?_
 obtain ⟨aG,aq⟩:=bI
 rw [FC (g:=fun x=> !cJ t x) (fun x=>by cases cJ t x <;> rfl)] at aG
 obtain ⟨b7,ca,rfl⟩:=cE aG
 have a:=a.wk aq
 have bt:=aq.B aY
 have ae:Wk w b3:=Md.trans bE.md<|Md.trans aZ aq
 refine p aE ?_
 refine nl ?_
 refine bm ?_
 refine aB fun bo=> ?_
 refine aB fun bq=> ?_
 refine rg aa ?_
 refine p mv ?_
 refine p (bJ mS aa aa) ?_
 refine p (bK aa aa) ?_
 refine nl ?_
 refine bq ?_
 refine cd aa (fun bO=> ?_) fun bO=> ?_
 refine aB fun am=> ?_
 refine rg aa ?_
 refine p aE ?_
 refine nl ?_
 refine am ?_
 refine rt ?_
 refine tr ?_
 refine aX aa ?_
 exact ⟨by unfold gS; rw [if_pos (bN.1 ab)]; rfl,ae⟩
 refine aQ ?_
 refine bo ?_
 refine aB fun am=> ?_
 refine aB fun br=> ?_
 refine rg aa ?_
 refine p mv ?_
 refine p (bJ mS aa aa) ?_
 refine p (bK aa aa) ?_
 refine nl ?_
 refine br ?_
 refine cd aa (fun bP=> ?_) fun bP=> ?_
 refine aB fun an=> ?_
 refine aB fun ao=> ?_
 refine rg aa ?_
 refine p mv ?_
 refine p (bc l6 aa aa ab<|aO.ok (a)<|pX ab) ?_
 refine p (ld pB aa<|pW (i:=0) a ab) ?_
 refine p (bK aa aa) ?_
 refine nl ?_
 refine ao ?_
 refine cd aa (fun ay=> ?_) fun ay=> ?_
 refine aB fun O=> ?_
 refine rg aa ?_
 refine p aE ?_
 refine nl ?_
 refine O ?_
 refine rt ?_
 refine tr ?_
 refine tr ?_
 refine aX aa ?_
 exact ⟨by rw [Ya ab ab (Cw ay)]; rfl,ae⟩
 refine aQ ?_
 refine an ?_
 refine aB fun O=> ?_
 refine aB fun U=> ?_
 refine rg aa ?_
 refine p mv ?_
 refine p (bc l6 aa aa ab<|aO.ok (a)<|pX ab) ?_
 refine p (ld pB aa<|pW (i:=0) a ab) ?_
 refine p (bK aa aa) ?_
 refine nl ?_
 refine U ?_
 refine cd aa (fun aA=> ?_) fun aA=> ?_
 refine aB fun V=> ?_
 refine rg aa ?_
 refine p aE ?_
 refine nl ?_
 refine V ?_
 refine rt ?_
 refine tr ?_
 refine tr ?_
 refine aX aa ?_
 exact ⟨by rw [Yb ab ab (yC aA)]; rfl,ae⟩
 refine aQ ?_
 refine O ?_
 refine aB fun V=> ?_
 refine rg aa ?_
 refine au (.slice Y (bytesOf<|cJ t).length Z) ?_
 refine p (na m8 aa (a)<|aa) ?_
 refine p aE ?_
 refine nl ?_
 refine V ?_
 refine rt ?_
 refine tr ?_
 refine aX aa ?_
 exact ⟨by unfold gS; rw [if_neg (show ¬(bytesOf<|cJ t).length=256 by omega),if_pos ⟨ab,CW ay,vy aA⟩]; rfl,ae⟩
 refine aQ ?_
 refine am ?_
 refine aB fun an=> ?_
 refine rg aa ?_
 refine p (di sM aa (aa) (show ∀ j,j < 1→Hb.aR _ _ (0 +j)= [str t][j]? from fun j a4=>by cases j with | zero=>exact (bt).aR 0 | succ j=>omega)) ?_
 refine e<|cl AN (EX t 93 _ _ aI aK aa) aa fun v30 J bL=> ?_
 obtain ⟨rfl,G⟩:=bL
 have ar:=Md.trans ae G
 refine p aE ?_
 refine nl ?_
 refine an ?_
 refine aB fun ao=> ?_
 refine aB fun O=> ?_
 refine rg aa ?_
 refine p mv ?_
 refine nl ?_
 refine O ?_
 refine cb aa (fun aC=> ?_) fun aC=> ?_
 refine aB fun U=> ?_
 refine rg aa ?_
 refine p mv ?_
 refine p (na m8 aa ((ba<|a6 aG G).2)<|aa) ?_
 refine p (cc aa aa<|by simp only [c7,fU]; omega) ?_
 refine p (cc aa aa<|by simp only [c7,fU,bM]; omega) ?_
 refine p aE ?_
 refine nl ?_
 refine U ?_
 refine rt ?_
 refine tr ?_
 refine aX aa ?_
 exact ⟨by unfold gS; rw [if_neg (show ¬(bytesOf<|cJ t).length=256 by omega),if_neg (show ¬((bytesOf<|cJ t).length=1∧_) from fun h=>by omega),if_pos aC]; rfl,ar⟩
 refine aQ ?_
 refine ao ?_
 refine aB fun U=> ?_
 refine rg aa ?_
 refine e<|m7 il fun aP b4 cf bG bu=> ?_
 have bV:bw b4 J.heap.size 5 1 (.slice (some ⟨aP,0,none⟩) 0 0) (([]:List UInt8)).length (U8<|([]:List UInt8)):=bu _ ab
 refine p aE ?_
 refine nl ?_
 refine U ?_
 refine aB fun V=> ?_
 refine rg aa ?_
 refine p aE ?_
 refine nl ?_
 refine V ?_
 refine aB fun bb=> ?_
 refine aB fun bd=> ?_
 refine rg aa ?_
 refine p aE ?_
 refine nl ?_
 refine bd ?_
 refine aJ ?_
 refine lp (fun aU M aM=> ∃ (i:Nat) (ob:Bool) (ai:Value),(i≤(bytesOf<|cJ t).length)∧(ob=decide (94∈(bytesOf<|cJ t).take i))∧(bw aM J.heap.size 5 1 (ai) (((bytesOf<|cJ t).take i).filter fun b=>decide (b≠94)).length<|U8<|((bytesOf<|cJ t).take i).filter fun b=>decide (b≠94))∧(Wk J aM)∧(M 1=aT bs)∧(M 3= .slice Y (bytesOf<|cJ t).length Z)∧(M 6=ai)∧(M 7= .bool ob)∧(M 8=ak i)∧((bytesOf<|cJ t).length - i=aU)) _ ⟨0,false,.slice (some ⟨aP,0,none⟩) 0 0,ab,aa,bV,bG.md,aa,aa,aa,aa,aa,aa⟩ ?_
 rintro aU M aM ⟨i,ob,ai,hi,I,A,q,bW,bX,bY,bZ,b0,rfl⟩
 refine fx 1 bW<|fx 3 bX<|fx 6 bY<|fx 7 bZ<|fx 8 b0 ?_
 have ck:(((bytesOf<|cJ t).take i).filter fun b=>decide (b≠94)).length≤256:=gk (List.length_filter_le _ _)<|by rw [dQ]; omega
 refine aB fun bg=> ?_
 refine aB fun bi=> ?_
 refine rg aa ?_
 refine au (ak i) ?_
 refine au (.slice Y (bytesOf<|cJ t).length Z) ?_
 refine p (bJ mS aa aa) ?_
 refine p (lt aa aa) ?_
 refine nl ?_
 refine bi ?_
 refine cd aa (fun bQ=> ?_) fun bQ=> ?_
 refine aQ ?_
 refine bg ?_
 refine aB fun E=> ?_
 refine aJ ?_
 refine aB fun bj=> ?_
 refine rg aa ?_
 refine au (.slice Y (bytesOf<|cJ t).length Z) ?_
 refine au (ak i) ?_
 refine p (bc l6 aa aa ab<|aO.ok (a.wk<|Md.trans G q)<|pX ab) ?_
 refine p (ld pB aa<|pW (i:=i) (a.wk<|Md.trans G q) ab) ?_
 refine p (bK aa aa) ?_
 refine nl ?_
 refine bj ?_
 refine cd aa (fun aD=> ?_) fun aD=> ?_
 have ac:=Jg aD
 refine rg aa ?_
 refine p aE ?_
 refine nl ?_
 refine bn ?_
 refine E ?_
 refine rg aa ?_
 refine au (ak i) ?_
 refine p (bF ((i+1:Nat):Int) aa aa<|bl ab ab) ?_
 refine p aE ?_
 refine nl ?_
 refine tn ?_
 exact ⟨_,ab,i+1,true,ai,ab,(by rw [fK _ i 0 ab,ac,decide_eq_true (by simp)]),(by rw [fK _ i 0 ab,ac,Nv,List.filter_cons_of_neg (by simp),NA,ei]; exact A),q,aa,aa,aa,aa,aa,aa⟩
 have ac:=Wy aD
 refine rg aa ?_
 refine au (ai) ?_
 refine au (.slice Y (bytesOf<|cJ t).length Z) ?_
 refine au (ak i) ?_
 refine p (bc l6 aa aa ab<|aO.ok (a.wk<|Md.trans G q)<|pX ab) ?_
 refine p (ld pB aa<|pW (i:=i) (a.wk<|Md.trans G q) ab) ?_
 refine e<|fZ il aa aa fun b8 b5 cg av bv=> ?_
 have a0:Wk J b5:=Md.trans q av.md
 refine e<|ap il (a6 A av.md) aa (by have :=a0.size; omega) aa (aO.ec bv) (aa) (aa) ab ab fun b2 ct bS bC co ci=> ?_
 have bz:=Wk.own a0 (a6 A av.md) bC<|cD _
 have bT:=qP bS
 refine p aE ?_
 refine nl ?_
 refine bn ?_
 refine E ?_
 refine rg aa ?_
 refine au (ak i) ?_
 refine p (bF ((i+1:Nat):Int) aa aa<|bl ab ab) ?_
 refine p aE ?_
 refine nl ?_
 refine tn ?_
 exact ⟨_,ab,i+1,ob,b2,ab,(by rw [fK _ i 0 ab,I]; exact decide_eq_decide.2<|by rw [jF,j5]; exact ⟨.inl,fun h=>h.elim id fun h=>absurd h.symm ac⟩),(by rw [fK _ i 0 ab,Nv,List.filter_cons_of_pos (by simpa using ac),NA]; exact bT),bz,aa,aa,aa,aa,aa,aa⟩
 refine ext ?_
 refine bf ?_
 refine bf ?_
 refine be ?_
 refine bb ?_
 refine ep (fun a8 aL=> ∃ (aj:Option Addr) (C al:Nat),(((bytesOf<|cJ t).filter (fun b=>decide (b≠94))++(if 94∈(bytesOf<|cJ t) then [94] else [])).length=C)∧(bw aL J.heap.size 5 1 (.slice aj C al) C<|U8<|(bytesOf<|cJ t).filter (fun b=>decide (b≠94))++(if 94∈(bytesOf<|cJ t) then [94] else []))∧(Wk w aL)∧(C≤300)∧(a8 6= .slice aj C al)) ?_ ?_
 refine aB fun E=> ?_
 obtain ⟨aN,aS,rfl⟩:=cE A
 have ah:(bytesOf<|cJ t).take i=bytesOf (cJ t):=eU ab
 rw [ah] at I
 refine rg aa ?_
 refine au (.bool ob) ?_
 refine nl ?_
 refine E ?_
 refine cb aa (fun ag=> ?_) fun ag=> ?_
 refine rg aa ?_
 refine p (aV (.slice aN (((bytesOf<|cJ t).take i).filter fun b=>decide (b≠94)).length aS) aa) ?_
 refine e<|fZ il aa aa fun b9 b6 ch ax bx=> ?_
 have a1:Wk J b6:=Md.trans q ax.md
 refine e<|ap il (a6 A ax.md) aa (by have :=a1.size; omega) aa (aO.ec bx) (aa) (aa) ab ab fun cq cu aH bD cp cj=> ?_
 have bA:=Wk.own a1 (a6 A ax.md) bD<|cD _
 rw [ah] at aH
 have a7:=qP (x:=94) aH
 obtain ⟨a2,c2,rfl⟩:=cE aH
 refine p aE ?_
 refine nl ?_
 refine tn ?_
 exact ⟨a2,_,c2,(by rw [if_pos (of_decide_eq_true<|I ▸ ag),bM]; rfl),(by rw [if_pos (of_decide_eq_true<|I ▸ ag)]; rw [bM] at a7; exact a7),(Md.trans ar bA),(by rw [← ah]; omega),aa⟩
 refine aQ ?_
 refine tn ?_
 exact ⟨aN,_,aS,(by rw [if_neg (of_decide_eq_false<|I ▸ ag),ei,ah]),(by rw [if_neg (of_decide_eq_false<|I ▸ ag),ei]; have h3:=A; rw [ah] at h3 ⊢; exact h3),(Md.trans ar q),(ab),aa⟩
 rintro a8 aL ⟨aj,C,al,a5,bU,bB,bR,b1⟩
 refine fx 6 b1 ?_
 have a3:((bytesOf<|cJ t).filter (fun b=>decide (b≠94))++(if 94∈(bytesOf<|cJ t) then [94] else [])).length≤300:=by rw [a5]; exact bR
 refine aB fun E=> ?_
 refine rg aa ?_
 refine au (.slice aj C al) ?_
 refine p (na m8 aa ((ba bU).2)<|a5) ?_
 refine p (cc aa aa<|gk (zX a3 _) az) ?_
 refine p (cc aa aa<|by rw [bM]; exact gk (Nat.add_le_add_right (zX a3 _) _) az) ?_
 refine p aE ?_
 refine nl ?_
 refine E ?_
 refine rt ?_
 refine aX aa ?_
 exact ⟨by unfold gS; rw [if_neg (show ¬(bytesOf<|cJ t).length=256 by omega),if_neg (show ¬((bytesOf<|cJ t).length=1∧_) from fun h=>by omega),if_neg (show ¬cJ t 93=true from by rw [aC]; exact Bool.noConfusion)]; rfl,bB⟩
theorem Ro (s:List UInt8) (i:Nat) (w:World) (hs:s.length≤1048576) (hi:i≤s.length):
 bp aw 236 (bh [str s,ak i]) w (fun v w'=>v= .int .i64 (pE s i)∧Wk w w'):=by
 refine enter func236 aa ntmps236 aa<|ag fun J=>ay<|J<|aB fun M=>aJ<|lp (fun G E I=> ∃ (k:Nat),(i≤k∧k≤s.length)∧(∀ j,i≤j→j < k→s.getD j 0≠93)∧(I=w)∧(E 0=str s)∧(E 1=ak k)∧(s.length - k=G)) _ ⟨i,ab,(fun j h1 h2=>by omega),aa,aa,aa,aa⟩ ?_
 rintro G E I ⟨k,hk,C,Z,ae,ah,rfl⟩
 refine fx 0 ae<|fx 1 ah ?_
 subst Z
 refine aB fun O=>ag fun U=>au (ak k)<|au (str s)<|p (cz u9 aa aa)<|p (lt aa aa)<|nl<|U<|cd aa (fun ac=> ?_) fun ac=> ?_
 refine aQ<|O<|aJ<|aB fun a=>ag fun V=>au (str s)<|au (ak k)<|p (eX u9 aa aa ab)<|p (bK aa aa)<|nl<|V<|cd aa (fun A=> ?_) fun A=> ?_
 have q:s.getD k 0=93:=k6.1 (by have :(93:UInt8).toNat=93:=rfl; omega)
 exact ag fun Y=>au (ak k)<|p (cU (ak k) aa)<|nl<|Y<|rt<|tr<|br<|tr<|br<|tr<|aX aa<|⟨by rw [Rt (k:=k) ab C q]; rfl,Md.refl _ _⟩
 have q:s.getD k 0≠93:=fun h=>by rw [h] at A; exact A rfl
 exact aQ<|a<|rg aa<|au (ak k)<|p (bF ((k+1:Nat):Int) aa aa<|bl ab ab)<|p aE<|nl<|bn<|tn<|⟨_,ab,k+1,ab,(fun j h1 h2=>by rcases fu j k with h | h <;> first | exact C j h1 h | (rw [show j=k by omega]; exact q)),aa,aa,aa,aa⟩
 exact ext<|bf<|bf<|be<|M<|ag fun a=>p aE<|nl<|a<|rt<|aX aa<|⟨by rw [Ru (fun j h1 h2=>C j h1 ab)]; rfl,Md.refl _ _⟩
theorem KF (s:List UInt8) (w:World) (hs:s.length≤1048576):
 bp aw 186 (bh [str s]) w (fun v w'=>(∃ a,v= .tuple #[a,ak ((dq s).2)]∧bw w' w.heap.size 349 1 (a) ((dq s).1).length (((dq s).1).map str))∧Wk w w'):=by
 refine enter func186 aa ntmps186 aa<|ag fun aS=>p aE<|ay<|aS<|aB fun aU=>aB fun aG=>rg aa<|au (str s)<|p (cz u9 aa aa)<|p (bK aa aa)<|p mv<|gs (t:=11) aa (fun C=> ?_) fun C=> ?_
 exact aI aa<|aI aa<|aI aa<|p (bC aa)<|nl<|aG<|ct aa<|aB fun ai=>rg aa<|p aE<|ay<|ai<|rt<|tr<|f2 aa aa aa<|⟨⟨.slice none 0 0,by unfold dq; rw [if_pos (.inl<|fY ab)]; rfl,by unfold dq; rw [if_pos (.inl<|fY ab)]; exact dC _ _ _ _⟩,Md.refl _ _⟩
 refine aM aa (aV (str s) aa)<|aM aa (cz u9 aa aa)<|aM aa (gt aa aa)<|p (bu aa)<|nl<|aG<|cd aa (fun a5=> ?_) fun a5=> ?_
 exact ag fun ai=>p aE<|ay<|ai<|rt<|tr<|f2 aa aa aa<|⟨⟨.slice none 0 0,by unfold dq; rw [if_pos (.inr ab)]; rfl,by unfold dq; rw [if_pos (.inr ab)]; exact dC _ _ _ _⟩,Md.refl _ _⟩
 refine aQ<|aU<|ag fun ai=>ay<|ai<|aB fun aW=>ag fun aX=>au (str s)<|p (dZ aa aa)<|nl<|aX<|cd aa (fun J=> ?_) fun J=> ?_
 refine ag fun aq=>p mv<|p aE<|ay<|aq<|rt<|tr<|f2 aa aa aa ?_
 have aP:¬(s= []∨512 < s.length):=fun h=>h.elim (fun h=>by rw [h] at C; exact C rfl) fun h=>by omega
 exact ⟨⟨.slice none 0 0,by unfold dq; rw [if_neg aP,if_pos J]; rfl,by unfold dq; rw [if_neg aP,if_pos J]; exact dC _ _ _ _⟩,Md.refl _ _⟩
 refine aQ<|aW<|ag fun aq=>ay<|aq<|aB fun aY=>aJ<|lp (fun aH an aD=> ∃ (i:Nat) (A:List (List UInt8)) (Z:Value),(i≤s.length∧A.length≤i)∧(ks s i A)∧(bw aD w.heap.size 349 1 (Z) (A).length<|(A).map str)∧(Wk w aD)∧(an 0=str s)∧(an 4=Z)∧(an 5=ak i)∧(s.length - i=aH)) _ ⟨0,[],.slice none 0 0,(by simp),(ks.start s),(dC _ _ _ _),(Md.refl _ _),aa,aa,aa,aa⟩ ?_
 rintro aH an aD ⟨i,A,Z,hi,Y,aj,G,bk,bm,bo,rfl⟩
 refine fx 0 bk<|fx 4 bm<|fx 5 bo<|aB fun aZ=>ag fun aT=>au (ak i)<|au (str s)<|p (cz u9 aa aa)<|p (lt aa aa)<|nl<|aT<|cd aa (fun a7=> ?_) fun a7=> ?_
 refine aQ<|aZ<|aJ<|ag fun ao=>au (ak i)<|p (bF ((i+1:Nat):Int) aa aa<|bl ab ab)<|p aE<|nl<|ao ?_
 refine ep (fun al aC=> ∃ (j:Nat),(i < j∧j≤s.length)∧(ks s j<|A++ [(s.take j).drop i])∧(bw aC w.heap.size 349 1 (Z) (A).length<|(A).map str)∧(Wk w aC)∧(al 0=str s)∧(al 4=Z)∧(al 5=ak i)∧(al 6=ak j)) ?_ ?_
 refine ag fun ac=>au (str s)<|au (ak i)<|p (eX u9 aa aa ab)<|p (bK aa aa)<|nl<|ac<|cd aa (fun az=> ?_) fun az=> ?_
 refine ag fun ae=>au (str s)<|au (ak i)<|e<|cl PT (Ro s i _ hs ab) aa fun v31 bL a4=> ?_
 obtain ⟨rfl,U⟩:=a4
 have I:=yC az
 obtain ⟨aL,a9⟩:=Rs (show i < s.length by omega) I
 have V:=drop_cons (l:=s) (i:=i) 0 ab
 have bE:(s.drop<|i+1).length=s.length - (i+1):=fT
 refine ay<|ae<|aB fun aF=>ag fun am=>p mv<|p (lt aa aa)<|p mv<|gs (t:=34) aa (fun ba=> ?_) fun ba=> ?_
 have E:iF (s.drop i)=none:=by
  rw [V,I]
  exact xE aa fun h=>(aL.1 ab) h.1
 have M:=Y.bad ab E
 refine aI aa<|aI aa<|aI aa<|aI aa<|p (bC aa)<|p mv<|aI aa<|aI aa<|aI aa<|aI aa<|aI aa<|ek aa<|ek aa<|ek aa<|ek aa<|ek aa<|aI aa<|p (bC aa)<|nl<|am<|ct aa<|ag fun ah=>p aE<|ay<|ah<|rt<|tr<|tr<|br<|tr<|br<|tr<|f2 aa aa aa ?_
 have q:dq s=([],41):=by unfold dq; rw [if_neg (fun h=>h.elim (fun h=>by rw [h] at C; exact C rfl) fun h=>by omega),if_neg J,M]
 exact ⟨⟨.slice none 0 0,by rw [q]; rfl,by rw [q]; exact dC _ _ _ _⟩,Md.trans G U⟩
 have bD:=a9 ab
 have aN:(s.drop<|i+1).idxOf 93 < (s.drop<|i+1).length:=Ec fun h=>by have :=aL.2 h; omega
 refine aM aa mv<|aM aa (aV (ak i) aa)<|aM aa (bF ((i+1:Nat):Int) aa aa<|bl ab ab)<|aM aa (bK aa aa)<|p (bu aa)<|p mv<|gs (t:=40) aa (fun bb=> ?_) fun bb=> ?_
 have E:iF (s.drop i)=none:=by
  rw [V,I]
  exact xE aa fun h=>h.2.1 ab
 have M:=Y.bad ab E
 refine aI aa<|aI aa<|aI aa<|aI aa<|aI aa<|ek aa<|ek aa<|ek aa<|ek aa<|ek aa<|aI aa<|p (bC aa)<|nl<|am<|ct aa<|aB fun ah=>rg aa<|p aE<|ay<|ah<|rt<|tr<|tr<|br<|tr<|br<|tr<|f2 aa aa aa ?_
 have q:dq s=([],41):=by unfold dq; rw [if_neg (fun h=>h.elim (fun h=>by rw [h] at C; exact C rfl) fun h=>by omega),if_neg J,M]
 exact ⟨⟨.slice none 0 0,by rw [q]; rfl,by rw [q]; exact dC _ _ _ _⟩,Md.trans G U⟩
 refine aM aa mv<|aM aa (aV (ak i) aa)<|aM aa (bF ((i+2:Nat):Int) aa aa<|bl ab ab)<|aM aa (bK aa aa)<|aM aa mv<|gs (t:=45) aa (fun bc=> ?_) fun bc=> ?_
 refine aM aa (aV (str s) aa)<|aM aa (aV (ak i) aa)<|aM aa (bF ((i+1:Nat):Int) aa aa<|bl ab ab)<|aM aa (eX u9 aa aa ab)<|aM aa (bK aa aa)<|aM aa (bC aa)<|p (bu aa)<|nl<|am<|cd aa (fun aA=> ?_) fun aA=> ?_
 have E:iF (s.drop i)=none:=by
  rw [V,I]
  exact xE aa fun h=>h.2.2 ⟨ab,by rw [Hk]; exact Jg aA⟩
 have M:=Y.bad ab E
 refine ag fun ah=>p aE<|ay<|ah<|rt<|tr<|tr<|br<|tr<|br<|tr<|f2 aa aa aa ?_
 have q:dq s=([],41):=by unfold dq; rw [if_neg (fun h=>h.elim (fun h=>by rw [h] at C; exact C rfl) fun h=>by omega),if_neg J,M]
 exact ⟨⟨.slice none 0 0,by rw [q]; rfl,by rw [q]; exact dC _ _ _ _⟩,Md.trans G U⟩
 have E:iF (s.drop i)=some (91::(s.drop<|i+1).take ((s.drop<|i+1).idxOf 93 +1),(s.drop<|i+1).drop ((s.drop<|i+1).idxOf 93 +1)):=by
  rw [V,I]
  exact A5 aa aN ab fun h=>aA<|by rw [← Hk,h.2]; rfl
 have O:=Y.step (j:=i+1 +(s.drop<|i+1).idxOf 93 +1) E<|by rw [ss]; rfl
 rw [Fw I ab] at O
 exact aQ<|aF<|rg aa<|p mv<|p (bF ((i+1 +(s.drop<|i+1).idxOf 93 +1:Nat):Int) aa aa<|bl ab ab)<|p aE<|nl<|tn<|⟨i+1 +(s.drop<|i+1).idxOf 93 +1,(ab),O,(a6 aj U),(Md.trans G U),aa,aa,aa,aa⟩
 have E:iF (s.drop i)=some (91::(s.drop<|i+1).take ((s.drop<|i+1).idxOf 93 +1),(s.drop<|i+1).drop ((s.drop<|i+1).idxOf 93 +1)):=by
  rw [V,I]
  exact A5 aa aN ab fun h=>by omega
 have O:=Y.step (j:=i+1 +(s.drop<|i+1).idxOf 93 +1) E<|by rw [ss]; rfl
 rw [Fw I ab] at O
 refine aI aa<|aI aa<|aI aa<|aI aa<|aI aa<|aM aa (bu aa)<|p (bu aa)<|nl<|am<|cf aa<|aQ<|aF<|rg aa<|p mv<|p (bF ((i+1 +(s.drop<|i+1).idxOf 93 +1:Nat):Int) aa aa<|bl ab ab)<|p aE ?_
 exact nl<|tn<|⟨i+1 +(s.drop<|i+1).idxOf 93 +1,(ab),O,(a6 aj U),(Md.trans G U),aa,aa,aa,aa⟩
 have bg:=vy az
 have V:=drop_cons (l:=s) (i:=i) 0 ab
 have E:iF (s.drop i)=some ([s.getD i 0],s.drop (i+1)):=by rw [V]; exact GA bg
 have O:=Y.step (j:=i+1) E rfl
 rw [← WC (show i < s.length by omega)] at O
 exact aQ<|tn<|⟨i+1,(ab),O,aj,G,aa,aa,aa,aa⟩
 rintro al aC ⟨j,bH,bd,aR,a2,bq,bs,bt,bv⟩
 refine fx 0 bq<|fx 4 bs<|fx 5 bt<|fx 6 bv<|ag fun ac=>au (Z)<|au (str s)<|au (ak i)<|au (ak j)<|p (mg u9 aa aa aa ab)<|p (c8 (ps:= [(0,str ((s.take j).drop i))]) (L:= [str ((s.take j).drop i)]) YF aa<|aa)<|e<|kQ Lt aa aa aa fun bA bz bB ax a0=> ?_
 have aK:Wk w bz:=Md.trans a2 ax.md
 refine e<|ap Lt (a6 aR ax.md) aa (by have :=aK.size; omega) aa (aO.ec a0) (aa) (aa) ab ab fun bx bN bi a3 bI bG=> ?_
 have a1:=Wk.own aK (a6 aR ax.md) a3<|cD _
 have bj:=WM bi
 exact ay<|ac<|rg aa<|au (ak j)<|p (cU (ak j) aa)<|nl<|bn<|tn<|⟨_,ab,j,A++ [(s.take j).drop i],bx,(by rw [bM,e9]; omega),bd,bj,a1,aa,aa,aa,aa⟩
 refine ext<|bf<|bf<|be<|aY<|aB fun ao=>aB fun ac=> ?_
 obtain ⟨ar,av,rfl⟩:=cE aj
 have M:=Y.done ab
 refine rg aa<|au (.slice ar A.length av)<|p (bJ r8 aa aa)<|p (gt aa aa)<|nl<|ac<|cd aa (fun a8=> ?_) fun a8=> ?_
 refine ag fun ae=>p aE<|ay<|ae<|rt<|tr<|f2 aa aa aa ?_
 have q:dq s=([],42):=by unfold dq; rw [if_neg (fun h=>h.elim (fun h=>by rw [h] at C; exact C rfl) fun h=>by omega),if_neg J,M]; exact if_pos ab
 exact ⟨⟨.slice none 0 0,by rw [q]; rfl,by rw [q]; exact dC _ _ _ _⟩,G⟩
 refine aQ<|ao<|ag fun ae=>au (.slice ar A.length av)<|p (cU (.slice ar A.length av) aa)<|p aE<|nl<|ae<|rt<|f2 aa aa aa ?_
 have q:dq s=(A,0):=by unfold dq; rw [if_neg (fun h=>h.elim (fun h=>by rw [h] at C; exact C rfl) fun h=>by omega),if_neg J,M]; exact if_neg ab
 exact ⟨⟨_,by rw [q]; rfl,by rw [q]; exact aj⟩,G⟩
theorem XK (ps:List (List UInt8)) (a:Option Addr) (c:Nat) (w:World) (M:aO w.heap a (ps.map str)) (hn:ps.length≤4096) (O:∀ t∈ps,(t.length=1∨3≤t.length)∧t.length≤1048576):
 bp aw 275 (bh [.slice a ps.length c]) w (fun v w'=>v=str (me ps)∧Wk w w'):=by
 refine enter func275 aa ntmps275 aa<|ag fun U=>ay<|U<|aB fun Y=>ag fun Z=>au (.slice a ps.length c)<|p (bJ r8 aa aa)<|p (bK aa aa)<|nl<|Z<|cd aa (fun G=> ?_) fun G=> ?_
 exact ag fun C=>ay<|C<|rt<|tr<|aX aa<|⟨by unfold me; rw [if_pos (fY ab)]; rfl,Md.refl _ _⟩
 refine aQ<|Y<|ag fun C=>ay<|C<|aB fun ac=>ag fun ae=>ay<|ae<|aJ<|lp (fun J A I=> ∃ (i:Nat),(i≤ps.length)∧(Wk w I)∧(((ps.take i).flatMap fun t=>gS<|cJ t).length≤i*300)∧(A 0= .slice a ps.length c)∧(A 3=str ((ps.take i).flatMap fun t=>gS<|cJ t))∧(A 4=ak i)∧(ps.length - i=J)) _ ⟨0,ab,(Md.refl _ _),(by simp),aa,(by first | rfl | (rw [fK ps i [] ab,nC,o5]; rfl)),aa,aa⟩ ?_
 rintro J A I ⟨i,hi,q,hlen,an,ao,ap,rfl⟩
 refine fx 0 an<|fx 3 ao<|fx 4 ap<|aB fun ah=>ag fun ai=>au (ak i)<|au (.slice a ps.length c)<|p (bJ r8 aa aa)<|p (lt aa aa)<|nl<|ai<|cd aa (fun am=> ?_) fun am=> ?_
 refine aQ<|ah<|aB fun E=>aJ<|ag fun V=>au (.slice a ps.length c)<|au (ak i)<|p (bc HB aa aa ab<|aO.ok (M.wk q)<|bT ab)<|p (di sM aa (aa) (show ∀ j,j < 1→Hb.aR I.heap (bk a) (fo a+i*1 +j)= [str (ps.getD i [])][j]? from fun j aq=>by cases j with | zero=>exact (JF (M.wk q) ab) | succ j=>omega))<|e<|cl Ql (Yd (ps.getD i []) _ (O _<|dY ab).1 (O _<|dY ab).2) aa fun av ax al=> ?_
 obtain ⟨rfl,aj⟩:=al
 have ar:=Dx<|cJ<|ps.getD i []
 exact ay<|V<|rg aa<|au (str<|(ps.take i).flatMap fun t=>gS<|cJ t)<|p mv<|p (cc aa aa ab)<|p aE<|nl<|bn<|E<|rg aa<|au (ak i)<|p (bF ((i+1:Nat):Int) aa aa<|bl ab ab)<|p aE<|nl<|tn<|⟨_,ab,i+1,ab,(Md.trans q aj),(by rw [fK ps i [] ab,nC,o5,bM]; omega),aa,(by first | rfl | (rw [fK ps i [] ab,nC,o5]; rfl)),aa,aa⟩
 exact ext<|bf<|bf<|be<|ac<|ag fun E=>au (str<|(ps.take i).flatMap fun t=>gS<|cJ t)<|p (cU (str<|(ps.take i).flatMap fun t=>gS<|cJ t) aa)<|nl<|E<|rt<|aX aa<|⟨by unfold me; rw [if_neg (fun h=>by rw [h] at G; exact G aa),show ps.take i=ps from eU ab]; rfl,q⟩
end Go.Hb
end
section
namespace Go.Hb
open Go.Hb.j8
theorem IE {α:Type} {l:List α} {i:Nat} {d:α} (h:i < l.length):l.getD i d∈l:=by
 rw [da,cI h]; exact List.getElem_mem h
theorem Dl (s:List UInt8) (w:World) (hs:s.length≤1048576):
 bp aw 113 (bh [str s]) w (fun v w'=>bw w' w.heap.size 9 1 (v) (bL s).length ((bL s).map str)∧Wk w w'):=by
 refine enter func113 aa ntmps113 aa<|ag fun aU=>ay<|aU ?_
 refine ep (fun aT aS=>(Wk w aS)∧(aT 0=str (k0 s))) ?_ ?_
 refine ag fun aj=>au (str s)<|e<|cl Px (CK s _) aa fun b9 ch bl=> ?_
 obtain ⟨rfl,aK⟩:=bl
 refine nl<|aj<|cb aa (fun Y=> ?_) fun Y=> ?_
 have b2:=V0 Y
 exact rg aa<|au (str s)<|p (mh u9 aa aa ab)<|p aE<|nl<|tn<|⟨aK,by show str (s.drop 3)=_; rw [Zh Y]⟩
 exact aQ<|tn<|⟨aK,by show str s=_; rw [Zg Y]⟩
 rintro aT aS ⟨aD,bB⟩
 refine fx 0 bB ?_
 have b4:=zo s
 refine ag fun aj=>ay<|aj<|ag fun aV=>e<|m7 il fun ax aP bR bi a2=> ?_
 have bz:bw aP w.heap.size 5 1 (.slice (some ⟨ax,0,none⟩) 0 0) (([]:List UInt8)).length (U8<|([]:List UInt8)):=a2 _<|by have :=aD.size; omega
 have a8:Wk w aP:=Md.trans aD bi.md
 refine ay<|aV<|ag fun aW=>ay<|aW<|aB fun aY=>ag fun aZ=>ay<|aZ<|aJ<|lp (fun aC G ac=> ∃ (i:Nat) (q:List (List UInt8)) (a:List UInt8) (ob:Bool) (C Z:Value),(i≤(k0 s).length)∧(q++gh a ((k0 s).drop i)=bL s)∧(ob=decide (a≠[]))∧(a.length≤i)∧(Wk w ac)∧(bw ac w.heap.size 9 1 (C) (q).length<|(q).map str)∧(bw ac w.heap.size 5 1 (Z) (a).length<|U8<|a)∧(G 0=str (k0 s))∧(G 3=C)∧(G 4=Z)∧(G 5= .bool ob)∧(G 6= .int .i64 i)∧((k0 s).length - i=aC)) _ ⟨0,[],[],false,.slice none 0 0,.slice (some ⟨ax,0,none⟩) 0 0,ab,aa,aa,(by simp),a8,(dC _ _ _ _),bz,aa,aa,aa,aa,aa,aa⟩ ?_
 rintro aC G ac ⟨i,q,a,ob,C,Z,hi,hd,aN,bW,U,E,A,bC,bD,bE,bF,bG,rfl⟩
 refine fx 0 bC<|fx 3 bD<|fx 4 bE<|fx 5 bF<|fx 6 bG ?_
 have bX:q.length≤s.length+1:=by have h1:=congrArg jD hd; have h2:=nY s; rw [bM] at h1; omega
 have b3:=U.size
 refine aB fun a0=>ag fun a1=>au (.int .i64 i)<|au (str<|k0 s)<|p (cz u9 aa aa)<|p (lt aa aa)<|nl<|a1<|cd aa (fun bo=> ?_) fun bo=> ?_
 refine aQ<|a0<|aB fun J=>aJ<|aB fun ae=>ag fun I=>au (str<|k0 s)<|au (.int .i64 i)<|p (eX u9 aa aa ab)<|p (cO aa aa)<|nl<|I<|cd aa (fun ao=> ?_) fun ao=> ?_
 refine ag fun ah=>au (Z)<|au (str<|k0 s)<|au (.int .i64 i)<|p (eX u9 aa aa ab)<|e<|fZ il aa aa fun bO bJ bS V a3=> ?_
 have aF:Wk w bJ:=Md.trans U V.md
 refine e<|ap il (a6 A V.md) aa (by have :=aF.size; omega) aa (aO.ec a3) (aa) (aa) ab ab fun bH ca bq aL b5 bZ=> ?_
 have a9:=Wk.own aF (a6 A V.md) aL<|cD _
 have br:=qP bq
 have bx:=dz (a6 E V.md) aL fun k hk=>mI E A az hk
 exact ay<|ah<|ag fun ai=>ay<|ai<|ext<|bf<|be<|J<|rg aa<|au (.int .i64 i)<|p (ad aa aa<|bY ab)<|p aE<|nl<|tn<|⟨_,ab,i+1,q,a++ [(k0 s).getD i 0],true,C,bH,ab,(by rw [drop_cons 0 ab,CH (Ww ao)] at hd; exact hd),(by simp),(by rw [bM,e9]; omega),a9,bx,br,aa,aa,aa,aa,aa,aa⟩
 have bm:=Vh<|Ec ao
 obtain ⟨M,O,rfl⟩:=cE A
 refine aQ<|ae<|ag fun ah=>au (C)<|au (.slice M a.length O)<|e<|cl FR (Hn a M O _ (ba A).2 ab (ba A).1) aa fun v30 cc bj=> ?_
 obtain ⟨rfl,ak⟩:=bj
 refine e<|fZ fQ aa aa fun bP bK bT am a4=> ?_
 have aG:Wk w bK:=Md.trans (Md.trans U ak) am.md
 refine e<|ap fQ (a6 (a6 E ak) am.md) aa (by have :=aG.size; omega) aa (aO.ec a4) (aa) (aa) ab ab fun bI ce bs bd b6 b0=> ?_
 have aH:=Wk.own aG (a6 (a6 E ak) am.md) bd<|cD _
 have bt:=mJ bs
 refine ay<|ah<|ag fun ai=>e<|m7 il fun aA aR bU aM a5=> ?_
 have bb:Wk w aR:=Md.trans aH aM.md
 have bA:bw aR w.heap.size 5 1 (.slice (some ⟨aA,0,none⟩) 0 0) (([]:List UInt8)).length (U8<|([]:List UInt8)):=a5 _<|by have :=aH.size; omega
 exact ay<|ai<|rg aa<|p aE<|nl<|bn<|J<|rg aa<|au (.int .i64 i)<|p (ad aa aa<|bY ab)<|p aE<|nl<|tn<|⟨_,ab,i+1,q++ [jM a],[],false,bI,.slice (some ⟨aA,0,none⟩) 0 0,ab,(by rw [drop_cons 0 ab,bm,JD] at hd; rw [dH]; exact hd),aa,(by simp),bb,(a6 bt aM.md),bA,aa,aa,aa,aa,aa,aa⟩
 refine ext<|bf<|bf<|be<|aY<|aB fun J=>ag fun ae=>au (.bool ob)<|nl<|ae<|cb aa (fun aq=> ?_) fun aq=> ?_
 have av:a≠[]:=by have :=aN.symm.trans aq; exact of_decide_eq_true this
 obtain ⟨M,O,rfl⟩:=cE A
 refine rg aa<|au (C)<|au (.slice M a.length O)<|e<|cl FR (Hn a M O _ (ba A).2 ab (ba A).1) aa fun v37 cf bk=> ?_
 obtain ⟨rfl,al⟩:=bk
 refine e<|fZ fQ aa aa fun bQ bN bV an a7=> ?_
 have aI:Wk w bN:=Md.trans (Md.trans U al) an.md
 refine e<|ap fQ (a6 (a6 E al) an.md) aa (by have :=aI.size; omega) aa (aO.ec a7) (aa) (aa) ab ab fun b8 cg bu bg b7 b1=> ?_
 have bc:=Wk.own aI (a6 (a6 E al) an.md) bg<|cD _
 have bv:=mJ bu
 refine ay<|J<|ag fun I=>p mv<|p aE<|nl<|I<|rt<|aX aa ?_
 have ar:q++ [jM a]=bL s:=by rw [← hd,show List.drop i (k0 s)= [] from gV ab,JC av]
 exact ⟨by rw [← ar]; exact bv,bc⟩
 have av:a= []:=Ec<|of_decide_eq_false<|aN.symm.trans aq
 refine aQ<|J<|ag fun I=>au (C)<|p (cU (C) aa)<|nl<|I<|rt<|aX aa ?_
 have ar:q=bL s:=by rw [← hd,show List.drop i (k0 s)= [] from gV ab,av,CI,ei]
 exact ⟨by rw [← ar]; exact E,U⟩
set_option maxHeartbeats 1000000 in
theorem KX (s:List UInt8) (w:World) (hs:s.length≤1048576):
 bp aw 112 (bh [str s]) w (fun v w'=>(∃ a,v= .tuple #[a,.int .i64 (if 65536 < s.length then 10 else 0)]∧(if 65536 < s.length then a= .slice none 0 0 else ∃ vs,bw w' w.heap.size 237 2 a (bR s).length (kK vs)∧gZ w' w.heap.size 9 vs (bR s)))∧Wk w w'):=by
 refine enter func112 aa ntmps112 aa<|ag fun a9=>p aE<|ay<|a9<|aB fun bj=>aB fun bk=>rg aa<|au (str s)<|p (cz u9 aa aa)<|p (gt aa aa)<|nl<|bk<|cd aa (fun bD=> ?_) fun bD=> ?_
 refine ag fun aL=>p aE<|ay<|aL<|rt<|tr<|f2 aa aa aa ?_
 have aq:65536 < s.length:=ab
 exact ⟨⟨.slice none 0 0,by show gD #[.slice none 0 0,.int .i64 10]=_; rw [if_pos aq],by rw [if_pos aq]⟩,Md.refl _ _⟩
 refine aQ<|bj<|ag fun aL=>ay<|aL<|aB fun bm=>rg aa<|au (str s)<|e<|cl As (Dl s _ hs) aa fun ck ai bz=> ?_
 obtain ⟨a7,aS⟩:=bz
 obtain ⟨ax,aC,rfl⟩:=cE a7
 have a4:=(ba a7).2
 have ce:=nY s
 refine ay<|bm<|aB fun bo=>ag fun bq=>p aE<|nl<|bq<|aJ<|lp (fun al aK aH=> ∃ (i:Nat) (M:Value) (vs:List (Nat×Value)),(i≤(bL s).length)∧(Wk ai aH)∧(bw aH ai.heap.size 237 2 M (lB 1<|(bL s).take i).length<|kK vs)∧(gZ aH ai.heap.size 9 vs<|lB 1<|(bL s).take i)∧(aK 4=M)∧(aK 5= .slice ax (bL s).length aC)∧(aK 6= .int .i64 i)∧((bL s).length - i=al)) _ ⟨0,.slice none 0 0,[],ab,(Md.refl _ _),(dC _ _ _ _),(gZ.nil _ _ _),aa,aa,aa,aa⟩ ?_
 rintro al aK aH ⟨i,M,vs,hi,an,J,ah,bS,bU,bW,rfl⟩
 refine fx 4 bS<|fx 5 bU<|fx 6 bW ?_
 have bQ:=Dp ((bL s).take i) 1
 rw [dQ] at bQ
 have cg:=an.size
 refine aB fun br=>aB fun bs=> ?_
 have cc:((bL s).getD i []).length≤s.length:=by rcases fu i (bL s).length with h | h <;> first | exact CF (IE h) | (rw [da,List.getElem?_eq_none h]; exact jG _)
 refine rg aa<|au (.int .i64 i)<|au (.slice ax (bL s).length aC)<|p (bJ eZ aa aa)<|p (lt aa aa)<|nl<|bs<|cd aa (fun bE=> ?_) fun bE=> ?_
 refine aQ<|br<|aB fun ac=>aJ<|ag fun bb=>p aE<|nl<|bb<|ag fun bd=>au (.slice ax (bL s).length aC)<|au (.int .i64 i)<|p (bc cR aa aa ab<|aO.ok (a4.wk an)<|bT ab)<|p (ld bV aa<|cj.get (i:=i) (a4.wk an) ab)<|e<|cl Pw (Xv ((bL s).getD i []) _ ab) aa fun cm aG bA=> ?_
 obtain ⟨a8,E⟩:=bA
 obtain ⟨av,aA,rfl⟩:=cE a8
 have aD:=(ba a8).2
 have ae:Wk ai aG:=Md.trans an E
 have ca:=uT ((bL s).getD i []) []
 refine ay<|bd<|aB fun a1=>ag fun bg=>p aE<|nl<|bg<|aJ<|lp (fun al Z a0=> ∃ (j:Nat) (aF:Value),(j≤(cQ []<|(bL s).getD i []).length)∧(∀ q,q < j→vH ((cQ []<|(bL s).getD i []).getD q [])=false)∧(Wk aG a0)∧(bw a0 aG.heap.size 9 1 (aF) ((cQ []<|(bL s).getD i []).take j).length<|((cQ []<|(bL s).getD i []).take j).map str)∧(Z 4=M)∧(Z 5= .slice ax (bL s).length aC)∧(Z 6= .int .i64 i)∧(Z 7=aF)∧(Z 8= .slice av (cQ []<|(bL s).getD i []).length aA)∧(Z 9= .int .i64 j)∧((cQ []<|(bL s).getD i []).length - j=al)) _ ⟨0,.slice none 0 0,ab,(fun q bO=>by omega),(Md.refl _ _),(dC _ _ _ _),aa,aa,aa,aa,aa,aa,aa⟩ ?_
 rintro al Z a0 ⟨j,aF,a5,aX,A,U,bX,bZ,b0,b1,b2,b3,rfl⟩
 refine fx 4 bX<|fx 5 bZ<|fx 6 b0<|fx 7 b1<|fx 8 b2<|fx 9 b3 ?_
 have cb:((cQ []<|(bL s).getD i []).take j).length≤j:=by rw [dQ]; omega
 have ch:=A.size
 refine aB fun bi=>ag fun a2=>au (.int .i64 j)<|au (.slice av (cQ []<|(bL s).getD i []).length aA)<|p (bJ eZ aa aa)<|p (lt aa aa)<|p mv<|gs (t:=30) aa (fun bI=> ?_) fun bI=> ?_
 refine aM aa (aV (.slice av (cQ []<|(bL s).getD i []).length aA) aa)<|aM aa (aV (.int .i64 j) aa)<|aM aa (bc cR aa aa ab<|aO.ok (aD.wk A)<|bT ab)<|aM aa (ld bV aa<|cj.get (i:=j) (aD.wk A) ab)<|aM aa (je 0 u9 aa aa<|lF.2 (BN _ _ _<|IE ab).1)<|aM aa (cO aa aa)<|p (bC aa)<|nl<|a2<|cd aa (fun bG=> ?_) fun bG=> ?_
 refine aQ<|bi<|aB fun aj=>aJ<|rg aa<|au (aF)<|au (.slice av (cQ []<|(bL s).getD i []).length aA)<|au (.int .i64 j)<|p (bc cR aa aa ab<|aO.ok (aD.wk A)<|bT ab)<|p (ld bV aa<|cj.get (i:=j) (aD.wk A) ab)<|e<|fZ fQ aa aa fun b7 b5 b8 aU bt=> ?_
 have a3:Wk aG b5:=Md.trans A aU.md
 refine e<|ap fQ (a6 U aU.md) aa (by have :=a3.size; omega) aa (aO.ec bt) (aa) (aa) ab ab fun v46 cn bK bx ci b9=> ?_
 have bv:=Wk.own a3 (a6 U aU.md) bx<|cD _
 have bN:=mJ bK
 exact p aE<|nl<|bn<|aj<|rg aa<|au (.int .i64 j)<|p (ad aa aa<|bY ab)<|p aE<|nl<|tn<|⟨_,ab,j+1,v46,ab,(fun q bO=>by rcases fu q j with h | h <;> first | exact aX q h | (rw [show q=j by omega]; exact decide_eq_false ab)),bv,(by rw [fK _ j [] ab]; exact bN),aa,aa,aa,aa,aa,aa,aa⟩
 have ao:nX (cQ []<|(bL s).getD i [])=((cQ []<|(bL s).getD i []).take j):=yE a5 aX<|.inr<|decide_eq_true ab
 obtain ⟨G,I,rfl⟩:=cE U
 refine ext<|bf<|bf<|be<|a1<|ag fun aj=>p (aV (.slice G ((cQ []<|(bL s).getD i []).take j).length I) aa)<|p (bJ eZ aa aa)<|p (gt aa aa)<|nl<|aj<|cd aa (fun Y=> ?_) fun Y=> ?_
 have O:lx ((bL s).getD i []) (1 +i)= [(i+1,((cQ []<|(bL s).getD i []).take j))]:=by unfold lx; rw [ao,if_neg (fun h=>by rw [h] at Y; simp at Y),NX]
 refine rg aa<|au (M)<|au (.int .i64 i)<|p (bF ((i+1:Nat):Int) aa aa<|bl ab ab)<|p (aV (.slice G ((cQ []<|(bL s).getD i []).take j).length I) aa)<|p (c8 (ps:= [(0,ak (i+1)),(1,.slice G ((cQ []<|(bL s).getD i []).take j).length I)]) (L:= [ak (i+1),.slice G ((cQ []<|(bL s).getD i []).take j).length I]) LA aa<|aa)<|e<|kQ y3 aa aa aa fun aN ar bB C aP=> ?_
 have aR:bP ar.heap aN [ak (i+1),.slice G ((cQ []<|(bL s).getD i []).take j).length I]:=aP
 have am:Wk ai ar:=Md.trans ae<|Md.trans A C.md
 refine e<|ap y3 (a6 (a6 (a6 J E) A) C.md) aa (by have :=am.size; omega) aa (aO.ec aR) (aa) (aa) ab ab fun aZ b6 aW V b4 bH=> ?_
 have aT:=Wk.own am (a6 (a6 (a6 J E) A) C.md) V<|cD _
 have aY:=((((ah.wk E).wk A).wk C.md).md V<|ik (a6 (a6 (a6 J E) A) C.md) az).snoc (n:=i+1)<|Tg.jP<|eE (dz (a6 U C.md) V fun k hk=>mI (a6 U C.md) (a6 (a6 (a6 J E) A) C.md) az hk)<|by have :=Md.size ae; omega
 exact p aE<|nl<|bn<|ac<|rg aa<|au (.int .i64 i)<|p (ad aa aa<|bY ab)<|p aE<|nl<|tn<|⟨_,ab,i+1,aZ,vs++ [(i+1,.slice G ((cQ []<|(bL s).getD i []).take j).length I)],ab,aT,(by rw [fK _ i [] ab,np,show ((bL s).take i).length=i from by rw [dQ]; omega,O,bM,Dv]; exact aW),(by rw [fK _ i [] ab,np,show ((bL s).take i).length=i from by rw [dQ]; omega,O]; exact aY),aa,aa,aa,aa⟩
 have O:∀ n,lx ((bL s).getD i []) n= []:=fun n=>by unfold lx; rw [ao,if_pos (wV.1 ab)]
 exact aQ<|bn<|ac<|rg aa<|au (.int .i64 i)<|p (ad aa aa<|bY ab)<|p aE<|nl<|tn<|⟨_,ab,i+1,M,vs,ab,(Md.trans ae A),(by rw [fK _ i [] ab,np,O,ei]; exact a6 (a6 J E) A),(by rw [fK _ i [] ab,np,O,ei]; exact (ah.wk E).wk A),aa,aa,aa,aa⟩
 have ao:nX (cQ []<|(bL s).getD i [])=((cQ []<|(bL s).getD i []).take j):=yE a5 aX<|.inl ab
 obtain ⟨G,I,rfl⟩:=cE U
 refine aI aa<|aI aa<|aI aa<|aI aa<|aI aa<|aI aa<|p (bu aa)<|nl<|a2<|cf aa<|ext<|bf<|bf<|be<|a1<|aB fun aj=> ?_
 refine rg aa<|p (aV (.slice G ((cQ []<|(bL s).getD i []).take j).length I) aa)<|p (bJ eZ aa aa)<|p (gt aa aa)<|nl<|aj<|cd aa (fun Y=> ?_) fun Y=> ?_
 have O:lx ((bL s).getD i []) (1 +i)= [(i+1,((cQ []<|(bL s).getD i []).take j))]:=by unfold lx; rw [ao,if_neg (fun h=>by rw [h] at Y; simp at Y),NX]
 refine rg aa<|au (M)<|au (.int .i64 i)<|p (bF ((i+1:Nat):Int) aa aa<|bl ab ab)<|p (aV (.slice G ((cQ []<|(bL s).getD i []).take j).length I) aa)<|p (c8 (ps:= [(0,ak (i+1)),(1,.slice G ((cQ []<|(bL s).getD i []).take j).length I)]) (L:= [ak (i+1),.slice G ((cQ []<|(bL s).getD i []).take j).length I]) LA aa<|aa)<|e<|kQ y3 aa aa aa fun aN ar bB C aP=> ?_
 have aR:bP ar.heap aN [ak (i+1),.slice G ((cQ []<|(bL s).getD i []).take j).length I]:=aP
 have am:Wk ai ar:=Md.trans ae<|Md.trans A C.md
 refine e<|ap y3 (a6 (a6 (a6 J E) A) C.md) aa (by have :=am.size; omega) aa (aO.ec aR) (aa) (aa) ab ab fun aZ b6 aW V b4 bH=> ?_
 have aT:=Wk.own am (a6 (a6 (a6 J E) A) C.md) V<|cD _
 have aY:=((((ah.wk E).wk A).wk C.md).md V<|ik (a6 (a6 (a6 J E) A) C.md) az).snoc (n:=i+1)<|Tg.jP<|eE (dz (a6 U C.md) V fun k hk=>mI (a6 U C.md) (a6 (a6 (a6 J E) A) C.md) az hk)<|by have :=Md.size ae; omega
 exact p aE<|nl<|bn<|ac<|rg aa<|au (.int .i64 i)<|p (ad aa aa<|bY ab)<|p aE<|nl<|tn<|⟨_,ab,i+1,aZ,vs++ [(i+1,.slice G ((cQ []<|(bL s).getD i []).take j).length I)],ab,aT,(by rw [fK _ i [] ab,np,show ((bL s).take i).length=i from by rw [dQ]; omega,O,bM,Dv]; exact aW),(by rw [fK _ i [] ab,np,show ((bL s).take i).length=i from by rw [dQ]; omega,O]; exact aY),aa,aa,aa,aa⟩
 have O:∀ n,lx ((bL s).getD i []) n= []:=fun n=>by unfold lx; rw [ao,if_pos (wV.1 ab)]
 exact aQ<|bn<|ac<|rg aa<|au (.int .i64 i)<|p (ad aa aa<|bY ab)<|p aE<|nl<|tn<|⟨_,ab,i+1,M,vs,ab,(Md.trans ae A),(by rw [fK _ i [] ab,np,O,ei]; exact a6 (a6 J E) A),(by rw [fK _ i [] ab,np,O,ei]; exact (ah.wk E).wk A),aa,aa,aa,aa⟩
 refine ext<|bf<|bf<|be<|bo<|ag fun ac=>au (M)<|p (cU (M) aa)<|ay<|ac<|rt<|f2 aa aa aa ?_
 have aq:¬65536 < s.length:=ab
 rw [show (bL s).take i=bL s from eU ab] at J ah
 exact ⟨⟨M,by show gD #[M,.int .i64 0]=_; rw [if_neg aq],by rw [if_neg aq]; exact ⟨vs,eE J aS.size,ah.mono aS.size⟩⟩,Md.trans aS an⟩
end Go.Hb
end
section
namespace Go.Hb
open Go.Hb.jH Go.Hb.lU Go.Hb.nE Go.Hb.j8
theorem vP {s:Tx} {k:Tx} {i:Nat} (h:s=k) (h1:k∈eh) (h2:eh.idxOf k=i):pU s=(i:Nat):=by subst h; unfold pU; rw [if_pos h1,h2]
theorem Yp {s:Tx} (h:s∉eh):pU s= -1:=if_neg h
def tF:List Tx:= [ij,iL,iU,kh,fk,eL]
theorem Mp {s:Tx} (h:s∈eh):width s=2:=if_pos<|.inl h
theorem ZA {s:Tx} (h:s∈tF):width s=2:=by
 unfold width
 rw [if_pos]
 simpa [tF] using Or.inr (e7.1 h)
theorem Mq {s:Tx} (h:s=fH∨s=du):width s=4:=by
 unfold width
 rw [if_neg,if_pos h]
 rcases h with rfl | rfl <;> decide
theorem ZB {s:Tx} (h:s∉eh) (h1:s∉tF) (h2:s≠fH) (h3:s≠du):width s=0:=by
 unfold width
 rw [if_neg,if_neg (by simp [h2,h3])]
 intro h4
 rcases h4 with h4 | h4
 · exact h h4
 · exact h1<|by simpa [tF] using h4
theorem IH {F:aU} {V:eu} {i:Nat} (hi:i < 5):(nV F V).toArray[0 +3 +((i:Nat):Int).toNat*1]? =some (bQ<|F.sp.getD i 0):=by
 match i,hi with
 | 0,_=>rfl
 | 1,_=>rfl
 | 2,_=>rfl
 | 3,_=>rfl
 | 4,_=>rfl
theorem JN {x:Nat} {l:List Nat} (h:∀ j,j < l.length→l.getD j 0≠x):x∉l:=fun hm=>by
 obtain ⟨j,a,e⟩:=nZ 0 hm
 exact h j a e
theorem Tr {x:Nat} :∀ {cs:List dm} {i:Nat} {c:dm},(∀ j,j < i→(cs.getD j nM).flag≠x)→cs[i]? =some c→c.flag=x→eb cs x=some c:=by
 intro cs
 induction cs with
 | nil=>intro i c _ h; simp at h
 | cons a l E=>
   intro i c A hi C
   unfold eb
   rw [List.find?_cons]
   cases i with
   | zero=>simp only [uj,fV] at hi; subst hi; simp [C]
   | succ i=>
     have q:=A 0 ab
     simp only [lT] at q
     rw [decide_eq_false q]
     exact E (i:=i) (fun j G=>by have :=A (j+1) ab; simpa using this) (by simpa using hi) C
theorem Tt {x:Nat} {cs:List dm} (h:∀ j,j < cs.length→(cs.getD j nM).flag≠x):eb cs x=none:=by
 unfold eb
 rw [List.find?_eq_none]
 intro c a
 obtain ⟨j,i,e⟩:=nZ nM a
 have :=h j i
 rw [e] at this
 simpa using this
theorem T1 (l:List dm):(qD l).length=l.length*5:=nT (f:=nj) (m:=5) (fun _=>rfl) _
theorem yv {l:List dm} (h:0 < l.length):qD l≠[]:=fun h2=>by have :=congrArg jD h2; rw [T1] at this; simp at this; omega
theorem uK {l:List dm} {i:Nat} (h:i < l.length):l[i]? =some (l.getD i nM):=by rw [da,cI h]; rfl
theorem Hc {F:aU} {x:Nat} (h:x∈F.sp):eJ F x=true :=by unfold eJ; rw [decide_eq_true h]; rfl
theorem Hd {F:aU} {x:Nat} (h:x∉F.sp):eJ F x=(eb F.bA x).isSome:=by unfold eJ; rw [decide_eq_false h]; rfl
theorem yS {s:Tx} (h:s∈eh∨s=eL∨s=fH∨s=du):s∈lA:=by
 rcases h with h | rfl | rfl | rfl
 · have :∀ k∈eh,k∈lA:=az
   exact this s h
 all_goals decide
theorem WJ {s:Tx} (h:s∉eh) (h1:s≠eL) (h2:s≠fH) (h3:s≠du):s∉lA:=by
 intro h4
 have :∀ k∈lA,k∈eh∨k=eL∨k=fH∨k=du:=az
 rcases this s h4 with h5 | h5 | h5 | h5
 · exact h h5
 · exact h1 h5
 · exact h2 h5
 · exact h3 h5
theorem yT {seen:List Tx} (h:∀ j,j < seen.length→seen.getD j []∉lA):ordered seen=true :=by
 rw [C3]
 intro k hk i
 obtain ⟨j,a,e⟩:=nZ [] i
 exact h j a<|e ▸ hk
theorem Cn (s:Tx) (w:World):
 bp aw 173 (bh [str s]) w (fun v w'=>v= .int .i64 (pU s)∧w'=w):=by
 refine enter func173 aa ntmps173 aa<|ag fun U=>ay<|U<|aB fun V=>ag fun Y=>au (str s)<|nl<|Y<|aJ<|ag fun Z=>p (dZ aa aa)<|p aE<|nl<|Z<|cd aa (fun J=> ?_) fun J=> ?_
 exact ag fun a=>ay<|a<|rt<|br<|tr<|aX aa<|⟨by rw [vP (k:=ki) (i:=0) J az az]; rfl,aa⟩
 refine ag fun a=>p (dZ aa aa)<|ay<|a<|cd aa (fun M=> ?_) fun M=> ?_
 exact ag fun q=>ay<|q<|rt<|br<|tr<|aX aa<|⟨by rw [vP (k:=kG) (i:=1) M az az]; rfl,aa⟩
 refine ag fun q=>p (dZ aa aa)<|ay<|q<|cd aa (fun O=> ?_) fun O=> ?_
 exact ag fun A=>ay<|A<|rt<|br<|tr<|aX aa<|⟨by rw [vP (k:=kV) (i:=2) O az az]; rfl,aa⟩
 refine ag fun A=>p (dZ aa aa)<|ay<|A<|cd aa (fun G=> ?_) fun G=> ?_
 exact ag fun C=>ay<|C<|rt<|br<|tr<|aX aa<|⟨by rw [vP (k:=lu) (i:=3) G az az]; rfl,aa⟩
 refine ag fun C=>p (dZ aa aa)<|ay<|C<|cd aa (fun I=> ?_) fun I=> ?_
 exact ag fun E=>ay<|E<|rt<|br<|tr<|aX aa<|⟨by rw [vP (k:=lP) (i:=4) I az az]; rfl,aa⟩
 exact aQ<|bn<|V<|ag fun E=>ay<|E<|rt<|aX aa<|⟨by rw [Yp (by unfold eh; simp only [e7,uu,or_false,not_or]; exact ⟨J,M,O,G,I⟩)]; rfl,aa⟩
theorem Us (s:Tx) (w:World):
 bp aw 114 (bh [str s]) w (fun v w'=>v=ak (width s)∧Wk w w'):=by
 refine enter func114 aa ntmps114 aa<|ag fun ai=>ay<|ai<|ag fun am=>au (str s)<|e<|cl AA (Cn s w) aa fun v5 aC ax=> ?_
 obtain ⟨rfl,aA⟩:=ax
 have q:Wk w aC:=by rw [aA]; exact Md.refl _ _
 refine ay<|am<|aB fun an=>ag fun ao=>p mv<|p (ge aa aa)<|nl<|ao<|cd aa (fun M=> ?_) fun M=> ?_
 have C:=tG.1 M
 exact ag fun E=>ay<|E<|rt<|tr<|aX aa<|⟨by rw [Mp C]; rfl,q⟩
 have C:s∉eh:=fun h=>M<|tG.2 h
 refine aQ<|an<|aB fun E=>ag fun ap=>au (str s)<|nl<|ap<|aJ ?_
 refine ep (fun O ac=> ∃ (b:Bool),(b=decide (s∈tF))∧(Wk w ac)∧(O 8=str s)∧(O 9= .bool b)) ?_ ?_
 refine ag fun i=>p (dZ aa aa)<|ay<|i<|cd aa (fun a=> ?_) fun a=> ?_
 exact aQ<|tn<|⟨_,(by rw [a]; decide),q,aa,aa⟩
 refine ag fun aq=>p (dZ aa aa)<|ay<|aq<|cd aa (fun a=> ?_) fun a=> ?_
 exact aQ<|tn<|⟨_,(by rw [a]; decide),q,aa,aa⟩
 refine ag fun ar=>p (dZ aa aa)<|ay<|ar<|cd aa (fun a=> ?_) fun a=> ?_
 exact aQ<|tn<|⟨_,(by rw [a]; decide),q,aa,aa⟩
 refine ag fun aj=>p (dZ aa aa)<|ay<|aj<|cd aa (fun a=> ?_) fun a=> ?_
 exact aQ<|tn<|⟨_,(by rw [a]; decide),q,aa,aa⟩
 refine ag fun al=>p (dZ aa aa)<|ay<|al<|cd aa (fun a=> ?_) fun a=> ?_
 exact aQ<|tn<|⟨_,(by rw [a]; decide),q,aa,aa⟩
 exact rg aa<|p (dZ aa aa)<|p aE<|nl<|tn<|⟨_,(by clear C; unfold tF; simp_all [ij,iL,iU,kh,fk,eL]),q,aa,aa⟩
 rintro O ac ⟨b,J,I,Z,ab⟩
 refine fx 8 Z<|fx 9 ab<|cb aa (fun a=> ?_) fun a=> ?_
 exact ag fun i=>ay<|i<|rt<|br<|tr<|aX aa<|⟨by rw [ZA (of_decide_eq_true<|J.symm.trans a)]; rfl,I⟩
 refine ep (fun ah ae=> ∃ (G:Bool),(G=decide (s=fH∨s=du))∧(Wk w ae)∧(ah 16= .bool G)) ?_ ?_
 refine ag fun i=>p (dZ aa aa)<|ay<|i<|cd aa (fun A=> ?_) fun A=> ?_
 exact aQ<|tn<|⟨_,(by rw [A]; decide),I,aa⟩
 exact rg aa<|p (dZ aa aa)<|p aE<|nl<|tn<|⟨_,(by clear J Z ab; simp [fH,du,A]),I,aa⟩
 rintro ah ae ⟨G,Y,V,az⟩
 refine fx 16 az<|cb aa (fun A=> ?_) fun A=> ?_
 exact ag fun i=>ay<|i<|rt<|br<|tr<|aX aa<|⟨by rw [Mq (of_decide_eq_true<|Y.symm.trans A)]; rfl,V⟩
 refine aQ<|bn<|E<|ag fun i=>ay<|i<|rt<|aX aa ?_
 have av:=of_decide_eq_false<|J.symm.trans a
 have U:=of_decide_eq_false<|Y.symm.trans A
 exact ⟨by rw [ZB C av (fun h=>U<|.inl h) (fun h=>U<|.inr h)]; rfl,V⟩
theorem Co (B:Nat) (H:gp) (k ln:Nat) (seen:List Tx) (vh:Value) (key:Tx) (w:World) (a:gY w B H k ln seen vh) (ao:seen.length≤70000):
 bp aw 115 (bh [aT H.rb,str key]) w (fun v w'=>v= .bool (decide (key∈seen))∧w'=w):=by
 obtain ⟨am,an,rfl⟩:=cE a.hd
 refine enter func115 aa ntmps115 aa<|ag fun M=>ay<|M<|aB fun O=>ag fun U=>ay<|U<|aJ<|lp (fun E q J=> ∃ (i:Nat),(i≤seen.length)∧(∀ j,j < i→seen.getD j []≠key)∧(J=w)∧(q 0=aT H.rb)∧(q 1=str key)∧(q 5=ak i)∧(seen.length - i=E)) _ ⟨0,ab,(fun j G=>by omega),aa,aa,aa,aa,aa⟩ ?_
 rintro E q J ⟨i,hi,I,ae,ai,aj,al,rfl⟩
 refine fx 0 ai<|fx 1 aj<|fx 5 al ?_
 subst ae
 refine aB fun V=>ag fun Y=>au (ak i)<|au (aT H.rb)<|p (nc aa)<|p (fa pK aa)<|p (ld jT aa<|(a7 a.cells).trans aa)<|p (bJ eZ aa aa)<|p (lt aa aa)<|nl<|Y<|cd aa (fun ah=> ?_) fun ah=> ?_
 refine aQ<|V<|aB fun A=>aJ<|ag fun Z=>au (aT H.rb)<|p (nc aa)<|p (fa pK aa)<|p (ld jT aa<|(a7 a.cells).trans aa)<|au (ak i)<|p (bc cR aa aa ab<|aO.ok ((ba a.hd).2)<|bT ab)<|p (ld bV aa<|cj.get (i:=i) (ba a.hd).2 ab)<|au (str key)<|p (dZ aa aa)<|nl<|Z<|cd aa (fun C=> ?_) fun C=> ?_
 exact ag fun ac=>ay<|ac<|rt<|br<|tr<|tr<|br<|tr<|aX aa<|⟨by rw [decide_eq_true (show key∈seen from C ▸ dY ab)]; rfl,aa⟩
 exact aQ<|bn<|A<|rg aa<|au (ak i)<|p (ad aa aa<|bY ab)<|p aE<|nl<|tn<|⟨_,ab,i+1,ab,(fun j G=>by rcases fu j i with h | h <;> first | exact I j h | (rw [show j=i by omega]; exact C)),aa,aa,aa,aa,aa⟩
 exact ext<|bf<|bf<|be<|O<|ag fun A=>p aE<|nl<|A<|rt<|aX aa<|⟨by rw [decide_eq_false (show ¬key∈seen from fun h=>by obtain ⟨j,G,e⟩:=nZ [] h; exact I j ab e)]; rfl,aa⟩
theorem Cf (B B0 fb:Nat) (F:aU) (V:eu) (x:Nat) (w:World) (U:eI w B B0 fb F V) (aM:F.bA.length≤70000):
 bp aw 117 (bh [aT fb,bQ x]) w (fun v w'=>v= .tuple #[.agg (nj<|(eb F.bA x).getD nM).toArray,.bool (eb F.bA x).isSome]∧Wk w w'):=by
 obtain ⟨aq,kz,Z⟩:=cE U.ez
 refine enter func117 aa ntmps117 aa<|ag fun ah=>e<|al sc fun ar ac aL E M=> ?_
 have O:=U.wk E.md
 have G:Hb.aR ac.heap fb 11=some (.slice aq F.bA.length kz):=by rw [← Z]; exact (a7 O.cells).trans rfl
 have a:=O.ez
 rw [Z] at a
 refine ay<|ah<|aB fun ai=>ag fun aj=>p aE<|nl<|aj<|aJ<|lp (fun J q ae=> ∃ (i:Nat),(i≤F.bA.length)∧(∀ j,j < i→(F.bA.getD j nM).flag≠x)∧(ae=ac)∧(q 0=aT fb)∧(q 1=bQ x)∧(q 4=aT ar)∧(q 6=ak i)∧(F.bA.length - i=J)) _ ⟨0,ab,(fun j A=>by omega),aa,aa,aa,aa,aa,aa⟩ ?_
 rintro J q ae ⟨i,hi,I,aA,aG,aH,aI,aK,rfl⟩
 refine fx 0 aG<|fx 1 aH<|fx 4 aI<|fx 6 aK ?_
 subst aA
 refine aB fun am=>ag fun an=>au (ak i)<|au (aT fb)<|p (nc aa)<|p (fa pJ aa)<|p (ld qh aa<|G)<|p (bJ DO aa aa)<|p (lt aa aa)<|nl<|an<|cd aa (fun aF=> ?_) fun aF=> ?_
 refine aQ<|am<|aB fun C=>aJ<|ag fun ao=>au (aT fb)<|p (nc aa)<|p (fa pJ aa)<|p (ld qh aa<|G)<|au (ak i)<|p (bc xX aa aa ab<|aO.ok ((ba a).2)<|yv ab)<|p (fa B4 aa)<|p (ld bz aa<|fA (f:=nj) (m:=5) (fun _=>rfl) (ba a).2 (uK (by omega :i < F.bA.length)) 0 az)<|au (bQ x)<|p (bK aa aa)<|nl<|ao<|cd aa (fun Y=> ?_) fun Y=> ?_
 exact ag fun ap=>au (aT fb)<|p (nc aa)<|p (fa pJ aa)<|p (ld qh aa<|G)<|au (ak i)<|p (bc xX aa aa ab<|aO.ok ((ba a).2)<|yv ab)<|p (di sL aa (aa)<|fA (f:=nj) (m:=5) (fun _=>rfl) (ba a).2<|uK (by omega :i < F.bA.length))<|e<|dj qq aa aa aa aa (M) (by simp) fun aN aC av=>ay<|ap<|rt<|br<|tr<|tr<|br<|tr<|eD aa (dT (cs:=nj<|F.bA.getD i nM) aa sL aa fun j A=>av.bG j) ej<|⟨by rw [Tr I (uK ab) ab]; rfl,E.md.trans' aC fun k hk h=>by omega⟩
 exact aQ<|bn<|C<|rg aa<|au (ak i)<|p (ad aa aa<|bY ab)<|p aE<|nl<|tn<|⟨_,ab,i+1,ab,(fun j A=>by rcases fu j i with h | h <;> first | exact I j h | (rw [show j=i by omega]; exact fun h2=>Y<|by rw [h2])),aa,aa,aa,aa,aa,aa⟩
 exact ext<|bf<|bf<|be<|ai<|ag fun C=>p (c8 (ps:= []) (L:= [.int .i64 0,.int .i64 0,.bool false,.int .i64 0,.int .i64 0]) LB aa<|aa)<|e<|dj qq aa aa aa aa (M) (by simp) fun aP aD ax=>ay<|C<|rt<|eD aa (dT (cs:=nj nM) aa sL aa fun j A=>ax.bG j) ej<|⟨by rw [Tt (fun j A=>I j ab)]; rfl,E.md.trans' aD fun k hk h=>by omega⟩
theorem T2 (B B0 fb:Nat) (F:aU) (V:eu) (x:Nat) (w:World) (C:eI w B B0 fb F V) (aq:F.bA.length≤70000):
 bp aw 233 (bh [aT fb,bQ x]) w (fun v w'=>v= .bool (eJ F x)∧Wk w w'):=by
 have aD:=C.fR
 refine enter func233 aa ntmps233 aa<|ag fun U=>ay<|U<|aB fun Y=>ag fun Z=>ay<|Z<|aJ<|lp (fun G a E=> ∃ (i:Nat),(i≤5)∧(∀ j,j < i→F.sp.getD j 0≠x)∧(E=w)∧(a 0=aT fb)∧(a 1=bQ x)∧(a 5=ak i)∧(5 - i=G)) _ ⟨0,ab,(fun j M=>by omega),aa,aa,aa,aa,aa⟩ ?_
 rintro G a E ⟨i,hi,O,aj,ar,av,ax,rfl⟩
 refine fx 0 ar<|fx 1 av<|fx 5 ax ?_
 subst aj
 refine aB fun ac=>ag fun ae=>au (ak i)<|p (lt aa aa)<|nl<|ae<|cd aa (fun ap=> ?_) fun ap=> ?_
 refine aQ<|ac<|aB fun q=>aJ<|ag fun A=>au (aT fb)<|au (ak i)<|p (nc aa)<|p (fa tj aa)<|p (kg sQ aa aa ab)<|p (ld bz aa<|(a7 C.cells).trans<|IH (i:=i) ab)<|au (bQ x)<|p (bK aa aa)<|nl<|A<|cd aa (fun J=> ?_) fun J=> ?_
 exact ag fun ah=>ay<|ah<|rt<|br<|tr<|tr<|br<|tr<|aX aa<|⟨by rw [Hc (show x∈F.sp from by obtain rfl :F.sp.getD i 0=x:=ab; exact dY ab)]; rfl,Md.refl _ _⟩
 exact aQ<|bn<|q<|rg aa<|au (ak i)<|p (ad aa aa<|bY ab)<|p aE<|nl<|tn<|⟨_,ab,i+1,ab,(fun j M=>by rcases fu j i with h | h <;> first | exact O j h | (rw [show j=i by omega]; exact fun h2=>J<|by rw [h2])),aa,aa,aa,aa,aa⟩
 refine ext<|bf<|bf<|be<|Y<|ag fun q=>au (aT fb)<|au (bQ x)<|e<|cl Av (Cf B B0 fb F V x E C aq) aa fun aG aH ao=> ?_
 obtain ⟨rfl,I⟩:=ao
 have aF:=I.size
 exact p mv<|p (xt aa aa)<|p (xt aa aa)<|e<|al sc fun az aI aC an ai=>e<|dj qq aa aa aa aa (ai) (by simp) fun aK am aA=>ay<|q<|ag fun A=>p mv<|ay<|A<|rt<|aX aa<|⟨by rw [Hd (JN fun j M=>O j ab)]; rfl,(I.trans an.md).trans' am fun k hk h=>by omega⟩
theorem Cg (s:Tx) (w:World) (hs:s.length≤1048576):
 bp aw 274 (bh [str s]) w (fun v w'=>v=ak (gI s)∧Wk w w'):=by
 refine enter func274 aa ntmps274 aa<|ag fun J=>ay<|J<|ag fun M=>au (str s)<|e<|cl uJ (vE s w hs) aa fun v5 ae V=> ?_
 obtain ⟨rfl,i⟩:=V
 refine ay<|M<|aB fun O=>ag fun E=>au (str s)<|p (cz u9 aa aa)<|p (bK aa aa)<|p mv<|gs (t:=9) aa (fun G=> ?_) fun G=> ?_
 have ac:=fY (show s.length=0 by omega)
 exact aI aa<|aI aa<|p (bC aa)<|nl<|E<|ct aa<|ag fun a=>ay<|a<|rt<|tr<|aX aa<|⟨by rw [x3 (.inl ac)]; rfl,i⟩
 have I:s≠[]:=fun h=>G<|by rw [h]; rfl
 refine aM aa mv<|aM aa (no aa)<|p (bu aa)<|nl<|E<|cb aa (fun q=> ?_) fun q=> ?_
 refine ag fun a=>ay<|a<|rt<|tr<|aX aa ?_
 have Y:gy s=false :=by simpa using q
 exact ⟨by rw [x3 (.inr Y)]; rfl,i⟩
 refine aQ<|O<|aB fun a=>ag fun U=>au (str s)<|p (cz u9 aa aa)<|p (gt aa aa)<|nl<|U<|cd aa (fun Z=> ?_) fun Z=> ?_
 refine ag fun A=>ay<|A<|rt<|tr<|aX aa ?_
 have C:gy s=true :=by simpa using q
 exact ⟨by rw [HO I C ab]; rfl,i⟩
 refine aQ<|a<|ag fun A=>ay<|A<|rt<|aX aa ?_
 have C:gy s=true :=by simpa using q
 exact ⟨by rw [HP I C ab]; rfl,i⟩
theorem Cl (s:Tx) (G:Bool) (w:World) (hs:s.length≤1048576):
 bp aw 259 (bh [str s,.bool G]) w (fun v w'=>(∃ (a:Tx) (e:Nat),v= .tuple #[str a,ak e]∧((eF G s= .ok a∧e=0)∨(eF G s= .error e∧e≠0)))∧Wk w w'):=by
 have ao:=r9 s
 refine enter func259 aa ntmps259 aa<|ag fun al=>p aE<|ay<|al<|aB fun ai=>aB fun aj=>rg aa<|au (.bool G)<|au (.bool G)<|gb (t:=11) aa (fun J=> ?_) fun J=> ?_
 refine aM aa (aV (str s) aa)<|aM aa (dZ aa aa)<|p (bC aa)<|nl<|aj<|cd aa (fun ac=> ?_) fun ac=> ?_
 exact ag fun I=>p aE<|ay<|I<|rt<|tr<|f2 aa aa aa<|⟨⟨[],0,aa,.inl ⟨by rw [J]; exact Kx ac,aa⟩⟩,Md.refl _ _⟩
 have q:eF G s=eF false s:=by rw [J]; exact Da ac
 refine aQ<|ai<|ag fun I=>au (str s)<|e<|cl xz (y0 s w hs) aa fun am ah Y=> ?_
 obtain ⟨rfl,E⟩:=Y
 refine p mv<|p (xt aa aa)<|p (xt aa aa)<|p (xt aa aa)<|p (xt aa aa)<|p aE<|p aE<|p aE<|ay<|I<|aB fun M=>ag fun O=>p mv<|p (cO aa aa)<|nl<|O<|cd aa (fun ae=> ?_) fun ae=> ?_
 exact ag fun A=>p mv<|p aE<|ay<|A<|rt<|tr<|f2 aa aa aa<|⟨⟨[],_,aa,.inr ⟨q.trans (C6 ab),ab⟩⟩,E⟩
 refine aQ<|M<|aB fun A=>ag fun U=>p mv<|nl<|U<|cb aa (fun i=> ?_) fun i=> ?_
 exact ag fun C=>p aE<|ay<|C<|rt<|tr<|f2 aa aa aa<|⟨⟨[],114,aa,.inr ⟨q.trans (C7 ab i),az⟩⟩,E⟩
 refine aQ<|A<|ag fun C=>p mv<|p mv<|e<|cl AT (Cg (bD s).1 ah ab) aa fun v28 an Z=> ?_
 obtain ⟨rfl,V⟩:=Z
 refine p aE<|ay<|C<|rt<|f2 aa aa aa ?_
 refine ⟨⟨(bD s).1,gI (bD s).1,aa,?_⟩,E.trans V⟩
 by_cases h:gI (bD s).1=0
 exact .inl ⟨q.trans (C9 ab i h),h⟩
 exact .inr ⟨q.trans (C8 ab i h),h⟩
 have q:eF G s=eF false s:=by rw [J]
 refine aI aa<|aI aa<|p (bu aa)<|nl<|aj<|cf aa<|aQ<|ai<|ag fun I=>au (str s)<|e<|cl xz (y0 s w hs) aa fun am ah Y=> ?_
 obtain ⟨rfl,E⟩:=Y
 refine p mv<|p (xt aa aa)<|p (xt aa aa)<|p (xt aa aa)<|p (xt aa aa)<|p aE<|p aE<|p aE<|ay<|I<|aB fun M=>ag fun O=>p mv<|p (cO aa aa)<|nl<|O<|cd aa (fun ae=> ?_) fun ae=> ?_
 exact ag fun A=>p mv<|p aE<|ay<|A<|rt<|tr<|f2 aa aa aa<|⟨⟨[],_,aa,.inr ⟨q.trans (C6 ab),ab⟩⟩,E⟩
 refine aQ<|M<|aB fun A=>ag fun U=>p mv<|nl<|U<|cb aa (fun i=> ?_) fun i=> ?_
 exact ag fun C=>p aE<|ay<|C<|rt<|tr<|f2 aa aa aa<|⟨⟨[],114,aa,.inr ⟨q.trans (C7 ab i),az⟩⟩,E⟩
 refine aQ<|A<|ag fun C=>p mv<|p mv<|e<|cl AT (Cg (bD s).1 ah ab) aa fun v28 an Z=> ?_
 obtain ⟨rfl,V⟩:=Z
 refine p aE<|ay<|C<|rt<|f2 aa aa aa ?_
 refine ⟨⟨(bD s).1,gI (bD s).1,aa,?_⟩,E.trans V⟩
 by_cases h:gI (bD s).1=0
 exact .inl ⟨q.trans (C9 ab i h),h⟩
 exact .inr ⟨q.trans (C8 ab i h),h⟩
theorem IF (B fb:Nat) (F:aU) (V:eu) (s:Tx) (w:World) (C:nH w B 0 fb F V) (hk:F.kind=1∨F.kind=2∨F.kind=3) (aC:F.aliases.length≤70000) (hs:s.length≤1048576):
 bp aw 181 (bh [aT fb,str s]) w (fun v w'=>(∃ (a:Value) (e:Nat),v= .tuple #[a,ak e]∧a.oneCell'=true∧((∃ l,e=0∧fX F.kind F.aliases s= .ok l∧Tg w' 0 3 l.length a (l.map bQ))∨(e≠0∧fX F.kind F.aliases s= .error e)))∧Wk w w'):=by
 obtain ⟨am,ao,ac⟩:=cE C.eY
 have M:=C.eY
 rw [ac] at M
 have I:Hb.aR w.heap fb 10=some (.slice am F.aliases.length ao):=by rw [← ac]; exact (a7 C.cells).trans rfl
 refine enter func181 aa ntmps181 aa<|ag fun ae=>p aE<|ay<|ae<|aB fun ah=>aB fun ai=>rg aa<|au (aT fb)<|p (nc aa)<|p (fa uX aa)<|p (ld xm aa<|I)<|p (bJ L1 aa aa)<|p (bK aa aa)<|nl<|ai<|cd aa (fun J=> ?_) fun J=> ?_
 have q:F.aliases= []:=fY ab
 refine ag fun G=>au (aT fb)<|p (nc aa)<|p (fa ti aa)<|p (ld bz aa<|(a7 C.cells).trans aa)<|au (str s)<|e<|cl F9 (KR F.kind s _ hk hs) aa fun aF aH ap=> ?_
 obtain ⟨⟨aA,rfl,Z⟩,hE19⟩:=ap
 refine p (xt aa aa)<|p (xt aa aa)<|p aE<|ay<|G<|rt<|tr<|f2 aa aa aa ?_
 obtain ⟨a0,an,rfl⟩:=cE Z
 refine ⟨⟨_,_,aa,aa,?_⟩,hE19⟩
 by_cases h:(ed F.kind s).2=0
 exact .inl ⟨_,h,by rw [x8 q]; exact yt h,(Tg.jP Z).mono<|jG _⟩
 exact .inr ⟨h,by rw [x8 q]; exact yr h⟩
 have q:F.aliases≠[]:=fun h=>by rw [h] at J; exact J rfl
 refine aQ<|ah<|ag fun G=>au (str s)<|au (aT fb)<|p (nc aa)<|p (fa uX aa)<|p (ld xm aa<|I)<|p (bJ L1 aa aa)<|e<|cl rC (rX s (F.aliases.length:Nat) _ hs ab) aa fun aG aJ aq=> ?_
 obtain ⟨rfl,i⟩:=aq
 refine p mv<|p (xt aa aa)<|p (xt aa aa)<|p aE<|ay<|G<|aB fun aj=>ag fun U=>p mv<|p (cO aa aa)<|p mv<|gs (t:=34) aa (fun av=> ?_) fun av=> ?_
 exact aI aa<|aI aa<|p (bC aa)<|nl<|U<|ct aa<|ag fun A=>p aE<|ay<|A<|rt<|tr<|f2 aa aa aa<|⟨⟨.slice none 0 0,13,aa,aa,.inr ⟨az,HZ q (pQ ab).1⟩⟩,i⟩
 refine aM aa mv<|aM aa (bK aa aa)<|p (bu aa)<|nl<|U<|cd aa (fun ar=> ?_) fun ar=> ?_
 refine ag fun A=>p aE<|ay<|A<|rt<|tr<|f2 aa aa aa ?_
 have E:=n8 (by omega :(ee s (F.aliases.length:Nat)).2=0)
 rw [show (ee s (F.aliases.length:Nat)).1=0 from by omega] at E
 exact ⟨⟨.slice none 0 0,13,aa,aa,.inr ⟨az,H4 q E⟩⟩,i⟩
 refine aQ<|aj<|aB fun A=> ?_
 have E:=n8 (by omega :(ee s (F.aliases.length:Nat)).2=0)
 have aD:=qN s (F.aliases.length:Nat) ab
 have ax:(ee s (F.aliases.length:Nat)).1 - 1 < F.aliases.length:=ab
 obtain ⟨v51,O,Y⟩:=iu.get (C.al.wk i) ax
 refine rg aa<|au (aT fb)<|p (nc aa)<|p (fa uX aa)<|p (ld xm aa<|Wk.aR i I)<|p mv<|p (dR (((ee s (F.aliases.length:Nat)).1 - 1:Nat):Int) aa aa<|bl ab ab)<|p (bc Tf aa aa ab<|aO.ok ((ba<|a6 M i).2) fun h=>by rw [h] at O; cases O)<|p (ld pC aa<|aO.gN (ba<|a6 M i).2 O)<|p aE<|ay<|A<|rt<|f2 aa aa aa ?_
 obtain ⟨a0,an,rfl⟩:=Y.slice
 exact ⟨⟨_,0,aa,aa,.inl ⟨_,aa,H3 q E ab,Y⟩⟩,i⟩
theorem IG (B:Nat) (H:gp) (F:aU) (V:eu) (k ln:Nat) (seen:List Tx) (vh:Value) (s:Tx) (w:World) (E:eI w B 0 H.fb F V) (G:gY w B H k ln seen vh) (hk:F.kind=1∨F.kind=2∨F.kind=3) (ah:F.bA.length≤70000) (hs:s.length≤1048576):
 bp aw 174 (bh [aT H.rb,str s]) w (fun v w'=>(∃ x e:Nat,v= .tuple #[bQ x,ak e]∧((gK F s= .ok x∧x≠0∧e=0)∨(gK F s= .error e∧e≠0)))∧Wk w w'):=by
 refine enter func174 aa ntmps174 aa<|ag fun I=>p aE<|ay<|I<|ag fun J=>au (aT H.rb)<|p (nc aa)<|p (fa lO aa)<|p (ld ib aa<|(a7 G.cells).trans aa)<|p (nc aa)<|p (fa ti aa)<|p (ld bz aa<|(a7 E.cells).trans aa)<|au (str s)<|e<|cl PQ (XH F.kind s w hk hs) aa fun aj ai Z=> ?_
 obtain ⟨rfl,a⟩:=Z
 refine p mv<|p (xt aa aa)<|p (xt aa aa)<|p aE<|ay<|J<|aB fun M=>ag fun O=>p mv<|p (cO aa aa)<|nl<|O<|cd aa (fun ae=> ?_) fun ae=> ?_
 exact ag fun i=>p mv<|p aE<|ay<|i<|rt<|tr<|f2 aa aa aa<|⟨⟨0,(gP F.kind s).2,aa,.inr ⟨IA ab,ab⟩⟩,a⟩
 refine aQ<|M<|ag fun i=>au (aT H.rb)<|p (nc aa)<|p (fa lO aa)<|p (ld ib aa<|(a7 (G.wk a).cells).trans aa)<|p mv<|e<|cl PR (T2 B 0 H.fb F V (gP F.kind s).1 ai (E.wk a) ah) aa fun al am ac=> ?_
 obtain ⟨rfl,C⟩:=ac
 refine ay<|i<|aB fun U=>ag fun Y=>p mv<|nl<|Y<|cb aa (fun A=> ?_) fun A=> ?_
 exact ag fun q=>p aE<|ay<|q<|rt<|tr<|f2 aa aa aa<|⟨⟨0,115,aa,.inr ⟨IB ab A,az⟩⟩,a.trans C⟩
 exact aQ<|U<|ag fun q=>p mv<|p aE<|p aE<|nl<|q<|rt<|f2 aa aa aa<|⟨⟨_,0,aa,.inl ⟨IC ab A,Is ab,aa⟩⟩,a.trans C⟩
theorem Ul (ah:World) (H:gp) (F:aU) (k ln:Nat) (seen r:List Tx) (aH:Nat) (ar:Option Addr) (cr:Nat) (w:World) (aY:mq ah w H F k ln seen) (aZ:Tg w aH 9 r.length (.slice ar r.length cr) (r.map str)) (bb:r.length=2) (bd:∀ x∈r,x.length≤70000):
 bp aw 175 (bh [aT H.rb,.slice ar r.length cr]) w (fO ah H seen<|kH F seen (H.rows.drop k) ln r):=by
 obtain ⟨V,vh,q,a,C,G,aC⟩:=aY
 have aG:=aZ.cV
 have a9:=a.lo
 have a8:=C.len
 obtain ⟨a5,a6,rfl⟩:=cE a.hd
 have bg:=C.sl
 refine enter func175 aa ntmps175 aa<|ag fun aK=>ay<|aK<|aB fun aL=>ag fun aN=>ay<|aN<|aJ<|lp (fun aF al aD=> ∃ (i:Nat),(i≤seen.length)∧(∀ j,j < i→seen.getD j []∉lA)∧(aD=w)∧(al 0=aT H.rb)∧(al 1= .slice ar r.length cr)∧(al 5=ak i)∧(seen.length - i=aF)) _ ⟨0,ab,(fun j ac=>by omega),aa,aa,aa,aa,aa⟩ ?_
 rintro aF al aD ⟨i,hi,ae,aS,a1,a2,a3,rfl⟩
 refine fx 0 a1<|fx 1 a2<|fx 5 a3 ?_
 subst aS
 refine aB fun aP=>ag fun aR=>au (ak i)<|au (aT H.rb)<|p (nc aa)<|p (fa pK aa)<|p (ld jT aa<|(a7 a.cells).trans aa)<|p (bJ eZ aa aa)<|p (lt aa aa)<|nl<|aR<|cd aa (fun a0=> ?_) fun a0=> ?_
 refine aQ<|aP<|aB fun O=>aJ<|ag fun ao=>au (aT H.rb)<|p (nc aa)<|p (fa pK aa)<|p (ld jT aa<|(a7 a.cells).trans aa)<|au (ak i)<|p (bc cR aa aa ab<|aO.ok ((ba a.hd).2)<|bT ab)<|p (ld bV aa<|cj.get (i:=i) (ba a.hd).2 ab)<|e<|cl AA (Cn (seen.getD i []) aD) aa fun bi bj aW=> ?_
 obtain ⟨rfl,a4⟩:=aW
 subst a4
 refine ay<|ao<|ag fun M=>p mv<|p (ge aa aa)<|p mv<|gs (t:=26) aa (fun av=> ?_) fun av=> ?_
 exact aI aa<|aI aa<|aI aa<|aI aa<|aI aa<|aI aa<|aI aa<|aI aa<|p (bC aa)<|p mv<|aI aa<|aI aa<|aI aa<|aI aa<|aI aa<|aI aa<|aI aa<|aI aa<|p (bC aa)<|p mv<|aI aa<|aI aa<|aI aa<|aI aa<|aI aa<|aI aa<|aI aa<|aI aa<|p (bC aa)<|nl<|M<|ct aa<|ag fun A=>ay<|A<|rt<|br<|tr<|tr<|br<|tr<|aX aa<|⟨.inr ⟨ln,113,vl (k:=seen.getD i []) (yS<|.inl<|tG.1 av) (dY ab),az,aa,a.dw⟩,G⟩
 refine aM aa (aV (aT H.rb) aa)<|aM aa (nc aa)<|aM aa (fa pK aa)<|aM aa (ld jT aa<|(a7 a.cells).trans aa)<|aM aa (aV (ak i) aa)<|aM aa (bc cR aa aa ab<|aO.ok ((ba a.hd).2)<|bT ab)<|aM aa (ld bV aa<|cj.get (i:=i) (ba a.hd).2 ab)<|aM aa (dZ aa aa)<|p (bu aa)<|p mv<|gs (t:=36) aa (fun ax=> ?_) fun ax=> ?_
 exact aI aa<|aI aa<|aI aa<|aI aa<|aI aa<|aI aa<|aI aa<|aI aa<|p (bC aa)<|p mv<|aI aa<|aI aa<|aI aa<|aI aa<|aI aa<|aI aa<|aI aa<|aI aa<|p (bC aa)<|nl<|M<|ct aa<|ag fun A=>ay<|A<|rt<|br<|tr<|tr<|br<|tr<|aX aa<|⟨.inr ⟨ln,113,vl (k:=seen.getD i []) (yS<|.inr<|.inl ax) (dY ab),az,aa,a.dw⟩,G⟩
 refine aM aa (aV (aT H.rb) aa)<|aM aa (nc aa)<|aM aa (fa pK aa)<|aM aa (ld jT aa<|(a7 a.cells).trans aa)<|aM aa (aV (ak i) aa)<|aM aa (bc cR aa aa ab<|aO.ok ((ba a.hd).2)<|bT ab)<|aM aa (ld bV aa<|cj.get (i:=i) (ba a.hd).2 ab)<|aM aa (dZ aa aa)<|p (bu aa)<|p mv<|gs (t:=46) aa (fun aA=> ?_) fun aA=> ?_
 refine aI aa<|aI aa<|aI aa<|aI aa<|aI aa<|aI aa<|aI aa<|aI aa<|p (bC aa)<|nl<|M<|ct aa<|ag fun A=>p aE<|nl<|A<|rt<|br<|tr<|tr<|br<|tr<|aX aa ?_
 exact ⟨.inr ⟨ln,113,vl (k:=seen.getD i []) (yS<|.inr<|.inr<|.inl aA) (dY ab),az,aa,a.dw⟩,G⟩
 refine aM aa (aV (aT H.rb) aa)<|aM aa (nc aa)<|aM aa (fa pK aa)<|aM aa (ld jT aa<|(a7 a.cells).trans aa)<|aM aa (aV (ak i) aa)<|aM aa (bc cR aa aa ab<|aO.ok ((ba a.hd).2)<|bT ab)<|aM aa (ld bV aa<|cj.get (i:=i) (ba a.hd).2 ab)<|aM aa (dZ aa aa)<|p (bu aa)<|nl<|M<|cd aa (fun ap=> ?_) fun ap=> ?_
 exact ag fun A=>ay<|A<|rt<|br<|tr<|tr<|br<|tr<|aX aa<|⟨.inr ⟨ln,113,vl (k:=seen.getD i []) (yS<|.inr<|.inr<|.inr ap) (dY ab),az,aa,a.dw⟩,G⟩
 exact aQ<|bn<|O<|rg aa<|au (ak i)<|p (ad aa aa<|bY ab)<|p aE<|nl<|tn<|⟨_,ab,i+1,ab,(fun j ac=>by rcases fu j i with h | h <;> first | exact ae j h | (rw [show j=i by omega]; exact WJ (fun h=>av<|tG.2 h) ax aA ap)),aa,aa,aa,aa,aa⟩
 refine ext<|bf<|bf<|be<|aL<|aB fun O=>ag fun ao=>au (.slice ar r.length cr)<|p (bc cR aa aa ab<|aO.ok (aG.2)<|bT ab)<|p (ld bV aa<|cj.get (i:=1) aG.2 ab)<|nl<|ao<|aJ<|ag fun M=>p (dZ aa aa)<|ay<|M<|cd aa (fun Z=> ?_) fun Z=> ?_
 refine rg aa<|au (aT H.rb)<|p (nc aa)<|p (fa lO aa)<|p (ld ib aa<|(a7 a.cells).trans aa)<|p (nc aa)<|p (fa ti aa)<|e<|cT gr aa aa (v:=ak 1) aa q.cells (by show _ < 13; omega) fun ai E U=>nl<|bn<|O<|ag fun A=>ay<|A<|rt<|aX aa ?_
 have J:ordered seen=true :=yT fun j ac=>ae j ab
 have hk:jy (r.getD 1 [])=1:=by unfold jy; rw [if_pos (show r.getD 1 []=rO from Z)]
 have Y:=q.put (F':= {F with kind:=1}) E U rfl rfl rfl rfl q.fR
 have I:Wk ah ai:=G.trans' E fun k hk h=>by have :=q.lo; omega
 exact ⟨.inl ⟨_,k,ln,(yF J ab).trans (by rw [hk]),aa,⟨V,_,Y,a.fb q E,⟨C.len,C.sl,C.row,by show 1=1∨1=2∨1=3; decide⟩,I,aC⟩⟩,I⟩
 refine ag fun A=>p (dZ aa aa)<|ay<|A<|cd aa (fun aj=> ?_) fun aj=> ?_
 refine rg aa<|au (aT H.rb)<|p (nc aa)<|p (fa lO aa)<|p (ld ib aa<|(a7 a.cells).trans aa)<|p (nc aa)<|p (fa ti aa)<|e<|cT gr aa aa (v:=ak 2) aa q.cells (by show _ < 13; omega) fun ai E U=>nl<|bn<|O<|ag fun am=>ay<|am<|rt<|aX aa ?_
 have J:ordered seen=true :=yT fun j ac=>ae j ab
 have hk:jy (r.getD 1 [])=2:=by unfold jy; rw [if_neg (show ¬r.getD 1 []=rO from Z),if_pos (show r.getD 1 []=tz from aj)]
 have Y:=q.put (F':= {F with kind:=2}) E U rfl rfl rfl rfl q.fR
 have I:Wk ah ai:=G.trans' E fun k hk h=>by have :=q.lo; omega
 exact ⟨.inl ⟨_,k,ln,(yF J ab).trans (by rw [hk]),aa,⟨V,_,Y,a.fb q E,⟨C.len,C.sl,C.row,by show 2=1∨2=2∨2=3; decide⟩,I,aC⟩⟩,I⟩
 refine ag fun am=>p (dZ aa aa)<|ay<|am<|cd aa (fun aq=> ?_) fun aq=> ?_
 refine rg aa<|au (aT H.rb)<|p (nc aa)<|p (fa lO aa)<|p (ld ib aa<|(a7 a.cells).trans aa)<|p (nc aa)<|p (fa ti aa)<|e<|cT gr aa aa (v:=ak 3) aa q.cells (by show _ < 13; omega) fun ai E U=>nl<|bn<|O<|ag fun an=>ay<|an<|rt<|aX aa ?_
 have J:ordered seen=true :=yT fun j ac=>ae j ab
 have hk:jy (r.getD 1 [])=3:=by unfold jy; rw [if_neg (show ¬r.getD 1 []=rO from Z),if_neg (show ¬r.getD 1 []=tz from aj),if_pos (show r.getD 1 []=vm from aq)]
 have Y:=q.put (F':= {F with kind:=3}) E U rfl rfl rfl rfl q.fR
 have I:Wk ah ai:=G.trans' E fun k hk h=>by have :=q.lo; omega
 exact ⟨.inl ⟨_,k,ln,(yF J ab).trans (by rw [hk]),aa,⟨V,_,Y,a.fb q E,⟨C.len,C.sl,C.row,by show 3=1∨3=2∨3=3; decide⟩,I,aC⟩⟩,I⟩
 refine ag fun an=>ay<|an<|rt<|br<|tr<|aX aa ?_
 have J:ordered seen=true :=yT fun j ac=>ae j ab
 exact ⟨.inr ⟨ln,114,Jn J (by unfold jy; rw [if_neg (show ¬r.getD 1 []=rO from Z),if_neg (show ¬r.getD 1 []=tz from aj),if_neg (show ¬r.getD 1 []=vm from aq)]),az,aa,a.dw⟩,G⟩
end Go.Hb
end
