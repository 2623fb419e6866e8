/-
  Walks and plain laws that the law rests on, laid together. No conditions but those that each theorem names.
-/
import Derived.Test.YtffmhpaepdkabaaGreatDoorMnDeriveMeasures5
set_option linter.unusedVariables false
set_option maxRecDepth 20000
set_option maxHeartbeats 1000000
open Bool renaming or_eq_false_iff→nv
open Classical renaming not_not→jk
open Decidable renaming of_not_not→D3
open Go.Proofs.Tryz renaming prog→ay
open Go.Value renaming bool→bQ,oneCell'→gB,ownBlock→jm,slice→bR,tuple→gz
open Go.World renaming ownsRow→bq,ownsRow_nil→dz
open List renaming all_cons→ub,all_eq_true→mj,append_assoc→dD,append_nil→eh,drop_drop→sh,drop_eq_getElem_cons→M5,drop_eq_nil_of_le→gU,drop_take→si,eq_nil_of_length_eq_zero→fW,ext_getElem?→p7,filter_append→M7,filter_nil→M9,flatMap_append→nw,flatMap_singleton→o0,getD_cons_zero→lT,getD_eq_getElem?_getD→cR,getElem?_append_left→ml,getElem?_append_right→mS,getElem?_cons_zero→ud,getElem?_drop→q8,getElem?_eq_getElem→cC,getElem?_eq_some_iff→fS,getElem?_set→k6,getElem?_take→o3,getElem?_zip_eq_some→jy,length→jz,length_append→bL,length_cons→cO,length_drop→fT,length_eq_zero_iff→wx,length_map→fM,length_nil→gC,length_pos_iff→lG,length_set→wy,length_singleton→fA,length_take→dR,length_zip→zH,map_append→iu,mem_append→jD,mem_cons→gu,mem_cons_of_mem→zI,mem_filter→Nl,mem_of_getElem?→iN,mem_of_mem_take→Nn,mem_singleton→j5,not_mem_nil→uh,take_of_length_le→eM,take_succ_cons→p9,toArray→bf
open Nat renaming add_comm→NB,add_le_add_left→zM,le_refl→cA,le_trans→gk,lt_or_ge→fi,zero_le→jP
open Option.some renaming inj→q9,injEq→fU
open Prod.mk renaming injEq→sv
open UInt8 renaming toNat_inj→k8,toNat_lt→iT
open Go.Proofs.Tryz
open Go.Hb.dT Go.Proofs Go.Hb.fj Go.Hb.fX

section
namespace Go.Hb.kr
open Go.Hb.lU Go.Hb.nz Go.Hb.j9 Go.Hb.gX Go.Hb.jF Go.Hb.wT Go.Hb.ka
theorem Ty:Bv ay 58 3=some (52,3):=aj
def pG (q:bD×Value):List Value:= [str q.1.1,q.2]
def ke (l:List (bD×Value)):List Value:=l.flatMap pG
theorem He (l:List (bD×Value)) (q:bD×Value):ke (l++ [q])=ke l++pG q:=by simp [ke]
theorem Ss (l:List (bD×Value)):(ke l).length=l.length*2:=oG (f:=pG) (m:=2) (fun _=>rfl) l
theorem rP {w:World} {B e size n k:Nat} {v:Value} {xs:List Value} (h:bq w B e size v n xs) (hk:v.ownBlock=some k) (q:∀ cur z,w.heap[k]?≠some (.cells cur e z)):False:=by
 rcases h.2 with ⟨rfl,rfl⟩ | ⟨g,cap,cur,rfl,_,i,_⟩
 · cases hk
 · have a:g=k:=by simpa [jm] using hk
   subst a
   exact q _ _ i
structure mW (w:World) (B:Nat) (f:Value→Option Value) (xs:List bD):Prop where
 own:∀ s:Tx,bq w B 3 1 ((f<|str s).getD<|bR none 0 0) (idxs s xs).length ((idxs s xs).map bN)
 nil:∀ s:Tx,idxs s xs= []→(f<|str s).getD (bR none 0 0)=(bR none 0 0)
theorem mW.md {G:Nat→Prop} {w w':World} {B:Nat} {f:Value→Option Value} {xs:List bD} (h:mW w B f xs) (hm:Md G w w') (a:∀ k,G k→∀ cur z,w.heap[k]?≠some (.cells cur 3 z)):mW w' B f xs:=by
 refine ⟨fun s=> ?_,h.nil⟩
 refine dq (h.own s) hm fun k hk q=> ?_
 exact rP (h.own s) hk fun cur z i=>a k q cur z i
theorem CX {w:World} {B B' k n i:Nat} {v q:Value} {xs A:List Value} (h:bq w B 3 1 v n xs) (I:bq w B' 3 1 q i A) (hk:v.ownBlock=some k) (M:q.ownBlock=some k) (hn:0 < n) (Z:0 < i):xs[0]? =A[0]? :=by
 rcases h.2 with ⟨rfl,rfl⟩ | ⟨g,cap,cur,rfl,_,J,_,_,_,O⟩
 · omega
 · rcases I.2 with ⟨rfl,rfl⟩ | ⟨G,V,Y,rfl,_,a,_,_,_,U⟩
   · omega
   · have C:g=k:=by simpa [jm] using hk
     have E:G=k:=by simpa [jm] using M
     subst C E
     rw [J] at a
     cases a
     rw [← O,← U,o3,o3,if_pos ab,if_pos ab]
theorem mW.sep {w:World} {B k:Nat} {f:Value→Option Value} {xs:List bD} {s t:Tx} (h:mW w B f xs) (G:s≠t) (hs:((f<|str s).getD<|bR none 0 0).ownBlock=some k):((f<|str t).getD<|bR none 0 0).ownBlock≠some k:=by
 intro a
 have A:idxs s xs≠[]:=fun e=>by rw [h.nil s e] at hs; cases hs
 have C:idxs t xs≠[]:=fun e=>by rw [h.nil t e] at a; cases a
 have he:=CX (h.own s) (h.own t) hs a (lG.2 A)<|lG.2 C
 cases h1:idxs s xs with
 | nil=>exact A h1
 | cons i l=>
   cases h2:idxs t xs with
   | nil=>exact C h2
   | cons j m=>
     rw [h1,h2] at he
     have E:i=j:=by have h:=he; simp only [List.map_cons,ud,fU,bN,Value.int.injEq,true_and] at h; omega
     subst E
     have m1:i∈idxs s xs:=by rw [h1]; simp
     have q:i∈idxs t xs:=by rw [h2]; simp
     unfold idxs at m1 q
     have I:=of_decide_eq_true (Nl.1 m1).2
     have J:=of_decide_eq_true (Nl.1 q).2
     exact G<|I.symm.trans J
theorem mW.put {w q I:World} {B mb:Nat} {f:Value→Option Value} {xs:List bD} {x:bD} {v:Value} (h:mW w B f xs) (hm:Md (fun k=>((f<|str x.1).getD<|bR none 0 0).ownBlock=some k) w q)
 (G:bq q B 3 1 v (idxs x.1 xs++ [xs.length]).length ((idxs x.1 xs++ [xs.length]).map bN)) (E:∀ cur z,q.heap[mb]?≠some (.cells cur 3 z)) (C:Md (fun k=>k=mb) q I):mW I B (bU f (str x.1) v) (xs++ [x]):=by
 refine ⟨fun s=> ?_,fun s hs=> ?_⟩
 · by_cases a:x.1=s
   · subst a
     rw [vq,Cm,if_pos rfl]
     exact dq G C fun k hk i=>rP G hk fun cur z A=>E cur z<|i ▸ A
   · rw [tx (fun e=>a (str_inj.1 e).symm),Cm,if_neg a,eh]
     have h1:=dq (h.own s) hm fun k hk i=>h.sep a i hk
     exact dq h1 C fun k hk i=>rP h1 hk fun cur z A=>E cur z<|i ▸ A
 · rw [Cm] at hs
   by_cases a:x.1=s
   · rw [if_pos a] at hs; simp at hs
   · rw [if_neg a,eh] at hs
     rw [tx (fun e=>a (str_inj.1 e).symm)]; exact h.nil s hs
structure la (w:World) (B wb mb:Nat) (va:Value) (vs:List Value) (xs:List bD):Prop where
 cells:w.heap[wb]? =some (.cells [va,.map (some mb)].toArray 186 (0,0))
 own:bq w B 72 2 va xs.length (ke<|xs.zip vs)
 fl:eu w B 51 vs (xs.map (·.2))
 mp:∃ f,dp w.heap mb ji f∧mW w B f xs
theorem la.md {G:Nat→Prop} {w w':World} {B wb mb:Nat} {va:Value} {vs:List Value} {xs:List bD} (h:la w B wb mb va vs xs) (hm:Md G w w') {L:List Nat} (a:TF w L G) (q:(L.contains 188 || L.contains 74 || L.contains 53 || L.contains 5)=false) (E:¬G mb):la w' B wb mb va vs xs:=by
 simp only [nv] at q
 obtain ⟨⟨⟨h1,h2⟩,h3⟩,h4⟩:=q
 obtain ⟨f,A,C⟩:=h.mp
 exact ⟨hm.gL a h.cells h1,cj h.own hm a h2,h.fl.md hm (fun k hk cur z i=>a.no (dt i) h3 hk),⟨f,A.md hm E,C.md hm fun k hk cur z i=>a.no (dt i) h4 hk⟩⟩
theorem la.wk {w w':World} {B wb mb:Nat} {va:Value} {vs:List Value} {xs:List bD} (h:la w B wb mb va vs xs) (hm:Wk w w'):la w' B wb mb va vs xs:=h.md (L:= []) hm (fun _ hk=>hk.elim) rfl id
theorem A9 {F:aR} {t:Tx} {ln:Nat} {row:List Tx} {rows:List Rw} (h:¬65536 < t.length) (h1:bP t=(ln,row)::rows) (h2:(lr row).2≠0):∃ e:Nat,(lr row).2=(e:Int)∧fg F t= .error (ln,e):=by
 unfold lr at h2 ⊢
 by_cases a:row.length≠1
 · rw [if_pos a]; exact ⟨111,rfl,Sg h h1 a⟩
 · rw [if_neg a] at h2 ⊢
   have h3:=pO (s:=row.getD 0 []) (most:=8192) h2
   exact ⟨13,h3.2,Sj h h1 (jk.1 a) h3.1⟩
theorem G3 {F:aR} {t:Tx} {ln:Nat} {row:List Tx} {rows:List Rw} (h:¬65536 < t.length) (h1:bP t=(ln,row)::rows) (h2:(lr row).2=0):∃ n:Nat,(lr row).1=n∧n≤8192∧fg F t=e8 F ((bH t).length+1) n rows:=by
 unfold lr at h2 ⊢
 by_cases a:row.length≠1
 · rw [if_pos a] at h2; cases h2
 · rw [if_neg a] at h2 ⊢
   exact ⟨_,aa,by have :=qJ (row.getD 0 []) 8192 h2; omega,G5 h h1 (jk.1 a)<|nW h2⟩
theorem y4 {u:Tx} {a:Value} (h:a.oneCell'=true):[str u,a].all gB=true :=by rw [ub,ub,h]; rfl
def NR (l e:Nat):Value:= .agg [.int .i64 2,.int .i64 (l:Nat),.int .i64 (e:Nat)].toArray
def NN (w':World) (B0:Nat) (xs:List bD) (v:Value):Prop := ∃ B wb mb va vs,B0≤B∧v= .tuple #[.pointer (some ⟨wb,0,none⟩),.agg [.int .i64 0,.int .i64 0,.int .i64 0].toArray]∧la w' B wb mb va vs xs∧B0≤wb∧B0≤mb
def NM (e:Nat×Nat) (v:Value):Prop :=v= .tuple #[.pointer none,NR e.1 e.2]
def lV (F:aR) (t:Tx) (w:World) (v:Value) (w':World):Prop :=(match fg F t with | .ok xs=>NN w' w.heap.size xs v | .error e=>NM e v)∧Wk w w'
theorem lV.no {F:aR} {t:Tx} {w w':World} {l e:Nat} (h:fg F t= .error (l,e)) (hm:Wk w w'):lV F t w (.tuple #[.pointer none,.agg [.int .i64 2,.int .i64 (l:Nat),.int .i64 (e:Nat)].toArray]) w':=by
 unfold lV; rw [h]; exact ⟨rfl,hm⟩
theorem Sn (B fb mc:Nat) (F:aR) (V:e6) (t:Tx) (w:World) (cu:dS w B fb mc F V) (d0:∃ seen,kM F [] seen) (e4:Nx F) (hs:t.length≤1048576):
 bm ay 46 (bf [aQ fb,str t]) w (lV F t w):=by
 refine enter func46 aa ntmps46 aa<|ag fun dd=>p aA<|e<|fk p4 fun bQ fD fR cy cn=> ?_
 have cm:bO fD.heap bQ [.int .i64 0,.int .i64 0,.int .i64 0]:=⟨_,cn⟩
 refine nl<|dd<|aB fun dl=>ag fun ds=>ak (aQ fb)<|p (kT vM aa aa)<|nl<|ds<|cf (aa)<|aM<|dl<|ag fun du=>ak (str t)<|e<|cl Gi (Le t _ hs) aa fun gx ce ej=> ?_
 obtain ⟨⟨fI,rfl,cL⟩,hE22⟩:=ej
 have ct:=cy.md.trans hE22
 have gh:=cy.size
 refine p mv<|p (xt aa aa)<|p (xt aa aa)<|p aA<|aw<|du<|aB fun dv=>ag fun dw=>p mv<|p (db aa aa)<|nl<|dw<|cd aa (fun b7=> ?_) fun b7=> ?_
 have cH:65536 < t.length:=Classical.byContradiction fun h=>b7<|by rw [if_neg h]
 refine ag fun bF=>p mv<|e<|cl sO (sT 0 (if 65536 < t.length then 10 else 0) ce) aa fun v28 gG ek=> ?_
 obtain ⟨rfl,bU⟩:=ek
 have gd:=(hE22.trans bU).size
 refine p aA<|e<|cW jT aa aa aa aa (Wk.B (hE22.trans bU) cm) (by simp) fun gT ed dW=>nl<|bF<|rt<|tr<|ew aa eb (dN (cs:= [.int .i64 2,.int .i64 0,.int .i64 (if 65536 < t.length then 10 else 0)]) aa lj aa fun j an=>dW.bG j) ?_
 have h:=lV.no (F:=F) (G6 cH)<|(ct.trans bU).trans' ed fun q C h=>by omega
 show lV F t w (.tuple #[.pointer none,.agg [.int .i64 2,.int .i64 0,.int .i64 (if 65536 < t.length then 10 else 0)].toArray]) _
 rw [if_pos cH]
 exact h
 have a4:¬65536 < t.length:=fun h=>b7<|by rw [if_pos h]; decide
 rw [if_neg a4] at cL
 obtain ⟨c6,uD,rfl⟩:=cB cL
 have fY:=nT t
 refine aM<|dv<|ag fun bF=>ak (str t)<|e<|cl Gh (KB t _ hs) aa fun v31 aq el=> ?_
 obtain ⟨⟨a31,rfl,cK⟩,hE31⟩:=el
 rw [if_neg a4] at cK
 obtain ⟨c8,bp,bs⟩:=cK
 obtain ⟨ar,cr,rfl⟩:=cB bp
 have ax:=ct.trans hE31
 have aS:=Wk.B (hE22.trans hE31) cm
 have ge:=(hE22.trans hE31).size
 have c4:=yJ t
 refine p mv<|p (xt aa aa)<|p (xt aa aa)<|p aA<|aw<|bF<|aB fun dx=>ag fun dy=>p mv<|p (bK y5 aa aa)<|p (bJ aa aa)<|nl<|dy<|cd aa (fun b8=> ?_) fun b8=> ?_
 have e3:bP t= []:=fW ab
 refine ag fun bt=>p mv<|p (bK eV aa aa)<|p (bE (((bH t).length+1:Nat):Int) aa aa<|bj ab ab)<|e<|cl sO (sT ((bH t).length+1:Nat) 116 aq) aa fun v40 gH em=> ?_
 obtain ⟨rfl,bV⟩:=em
 have gf:=bV.size
 exact p aA<|e<|cW jT aa aa aa aa (Wk.B bV aS) (by simp) fun gV ee dY=>nl<|bt<|rt<|tr<|ew aa eb (dN (cs:= [.int .i64 2,au ((bH t).length+1),.int .i64 116]) aa lj aa fun j an=>dY.bG j)<|lV.no (G7 a4 e3)<|(ax.trans bV).trans' ee fun q C h=>by omega
 obtain ⟨⟨c7,aL⟩,rest,U⟩:∃ q rest,bP t=q::rest:=by
  cases h:bP t with
  | nil=>rw [h] at b8; exact absurd rfl b8
  | cons q rest=>exact ⟨q,rest,rfl⟩
 have cb:=bs.1
 rw [U] at bp bs cb c4
 obtain ⟨⟨aK,fy⟩,rvs',rfl⟩:∃ q cc,c8=q::cc:=by
  cases c8 with
  | nil=>exact absurd cb<|by simp
  | cons q cc=>exact ⟨q,cc,rfl⟩
 obtain ⟨fd,c2⟩:=bs.2 0 (aK,fy) (c7,aL) rfl rfl
 obtain rfl :aK=c7:=fd
 obtain ⟨a0,dA,rfl⟩:=c2.slice
 have a1:=(a7 bp).2
 have eP:=(a7 bp).1
 have cR:∀ q∈(aK,aL)::rest,q.2.length≤70000∧∀ x∈q.2,x.length≤70000:=fun q C=>by
  have h:=yK (show q∈bP t by rw [U]; exact C)
  exact ⟨ab,fun x fs=>by have :=(h.2.2.2.2 x fs).2; omega⟩
 have cP:=cR _<|List.mem_cons_self ..
 simp only [cO] at cb c4 eP
 refine aM<|dx<|ag fun bt=>p mv<|p (a8 sX aa aa (by rw [U]; simp only [cO]; omega)<|aJ.ok (a1)<|lQ<|by simp)<|p (da xd aa (aa)<|lR (i:=0) a1 aa)<|e<|cl Qv (Sf aK aL ce.heap.size a0 dA aq c2 cP.2 cP.1) aa fun gy fC en=> ?_
 obtain ⟨rfl,aD⟩:=en
 have gg:=aD.size
 refine p mv<|p (xt aa aa)<|p (xt aa aa)<|p aA<|aw<|bt<|aB fun de=>ag fun df=>p mv<|p (db aa aa)<|nl<|df<|cd aa (fun cI=> ?_) fun cI=> ?_
 obtain ⟨fN,eT,b5⟩:=A9 (F:=F) a4 U cI
 refine ag fun bv=>p mv<|p (a8 sX aa aa (by rw [U]; simp only [cO]; omega)<|aJ.ok (a1.wk aD)<|lQ<|by simp)<|p (fa x5 aa)<|p (ld bu aa<|lR (i:=0) (a1.wk aD) aa 0 az)<|p mv<|e<|cl sO (sT (aK:Nat) (lr aL).2 fC) aa fun gz gI eo=> ?_
 obtain ⟨rfl,bW⟩:=eo
 have gi:=bW.size
 refine p aA<|e<|cW jT aa aa aa aa (Wk.B (aD.trans bW) aS) (by simp) fun gN d8 dF=>nl<|bv<|rt<|tr<|ew aa eb (dN (cs:= [.int .i64 2,au aK,.int .i64 (lr aL).2]) aa lj aa fun j an=>dF.bG j) ?_
 have h:=lV.no b5<|(ax.trans<|aD.trans bW).trans' d8 fun q C h=>by omega
 show lV F t w (.tuple #[.pointer none,.agg [.int .i64 2,au aK,.int .i64 (lr aL).2].toArray]) _
 rw [eT]
 exact h
 obtain ⟨n,cT,f0,b5⟩:=G3 (F:=F) a4 U (show (lr aL).2=0 by omega)
 have d7:=cu.wk<|ax.trans aD
 obtain ⟨seen,co⟩:=d0
 have fV:=co.len
 refine aM<|de<|ag fun bv=>e<|vg fun Y gJ fS b3 dU=> ?_
 have gk:=b3.size
 refine p (cQ (ps:= [(1,.map (some Y))]) (L:= [.slice none 0 0,.map (some Y)]) Yi aa<|aa)<|e<|oB aa fun E fE fT bh dV=> ?_
 have gl:=bh.size
 have d4:=aD.trans<|b3.md.trans bh.md
 refine aw<|bv<|ag fun dg=>ak (aQ fb)<|e<|cl AA (zU B fb mc F V fE (d7.wk<|b3.md.trans bh.md) ab e4) aa fun gA gK ep=> ?_
 obtain ⟨⟨fH,rfl,_⟩,hE60⟩:=ep
 have gm:=hE60.size
 refine p (Ta Ty EY aa aa)<|e<|al ZA fun bI gC fP bc dG=> ?_
 have f4:=bc.size
 refine e<|cW RT aa aa aa aa (dG) (by simp) fun M a9 dJ=> ?_
 have d2:Wk aq M:=(d4.trans<|hE60.trans bc.md).trans' a9 fun q C h=>by omega
 have f6:=a9.size
 have eJ:M.heap[E]? =some (.cells [.slice none 0 0,.map (some Y)].toArray 186 (0,0)):=a9.aH (Wk.aH (hE60.trans bc.md) dV) fun h=>by omega
 have e0:dp M.heap Y ji (fun _=>none):=dp.md (dp.wk (dp.nil dU)<|bh.md.trans<|hE60.trans bc.md) a9 fun h=>by omega
 have ez:la M M.heap.size E Y (.slice none 0 0) [] []:=⟨eJ,dz _ _ _ _,eu.nil _ _ _,⟨_,e0,⟨fun s=>dz _ _ _ _,fun s _=>rfl⟩⟩⟩
 have eG:bO M.heap bI [bg (F.sp.getD 0 0),bg (F.sp.getD 1 0),bg (F.sp.getD 2 0),bg (F.sp.getD 3 0),bg (F.sp.getD 4 0)]:=dJ
 have cp:aJ aq.heap (gq ar cr 1 2) (kL rvs'):=by
  have h:=a1.drop (cap:=cr) (k:=1) (size:=2)<|by rw [KH]; simp only [cO]; omega
  exact h
 have eC:iO F ((bH t).length+1) (fg F t) [] (n - 0) (rest.drop 0):=by rw [b5]; exact iO.start
 refine nl<|dg<|aB fun dh=>ag fun di=>p mv<|p (vF sX aa aa<|by rw [U]; simp only [cO]; omega)<|p (bK y5 aa aa)<|p mv<|nl<|di<|aH<|lp (fun cj ae av=> ∃ (i:Nat) (xs:List bD) (vs:List Value) (va:Value),(i≤rest.length∧i≤n)∧(xs.length=i)∧(iO F ((bH t).length+1) (fg F t) xs (n - i)<|rest.drop i)∧(la av M.heap.size E Y va vs xs)∧(Wk aq av)∧(bO av.heap bI [bg (F.sp.getD 0 0),bg (F.sp.getD 1 0),bg (F.sp.getD 2 0),bg (F.sp.getD 3 0),bg (F.sp.getD 4 0)])∧(M.heap.size≤av.heap.size)∧(ae 0=aQ fb)∧(ae 5=aQ bQ)∧(ae 6= .slice c6 (bH t).length uD)∧(ae 10=au n)∧(ae 11=aQ E)∧(ae 12=aQ bI)∧(ae 63= .slice (gq ar cr 1 2) rest.length (cr - 1))∧(ae 64=au (rest.length))∧(ae 65=au i)∧(rest.length - i=cj)) _ ⟨0,[],[],.slice none 0 0,ab,aa,eC,ez,d2,eG,(cA _),aa,aa,aa,(by first | rfl | (rw [← cT]; rfl)),aa,aa,(by first | rfl | (rw [U]; rfl)),(by first | rfl | (rw [U]; rfl)),aa,aa⟩ ?_
 rintro cj ae av ⟨i,xs,vs,va,hi,c5,ah,aP,O,cF,gt,fe,fj,fm,ff,fh,fi,fo,fq,fr,rfl⟩
 refine fx 0 fe<|fx 5 fj<|fx 6 fm<|fx 10 ff<|fx 11 fh<|fx 12 fi<|fx 63 fo<|fx 64 fq<|fx 65 fr<|ag fun dj=>p (lt aa aa)<|nl<|dj<|aB fun dk=>cd aa (fun eM=> ?_) fun eM=> ?_
 refine aM<|dk<|aB fun bw=>aH<|aB fun bx=> ?_
 obtain ⟨⟨ln,r⟩,hri⟩:∃ q,rest[i]? =some q:=⟨_,cC ab⟩
 have eQ:rest.drop i=(ln,r)::rest.drop (i+1):=by rw [M5 ab]; rw [cC ab] at hri; rw [q9 hri]
 obtain ⟨p,c3⟩:∃ p,rvs'[i]? =some p:=⟨_,cC ab⟩
 obtain ⟨dB,cE⟩:=bs.2 (i+1) p (ln,r) c3 hri
 obtain ⟨fw,gv⟩:=p
 obtain rfl :ln=fw:=dB.symm
 obtain ⟨a,c,rfl⟩:=cE.slice
 have cS:=cR (ln,r)<|zI _<|iN hri
 rw [eQ] at ah
 refine rg aa<|ak (au i)<|p (a8 sX aa aa ab<|aJ.ok (cp.wk O)<|lQ ab)<|p (da xd aa (aa)<|lR (cp.wk O) c3)<|e<|al Mj fun ch gE bk b2 dK=> ?_
 have f7:=b2.size
 refine p (cJ (au i) aa)<|e<|cW GO aa aa aa aa (dK) (by simp) fun aV b1 dL=> ?_
 have a6:Wk aq aV:=(O.trans b2.md).trans' b1 fun q C h=>by omega
 have cq:Wk av aV:=b2.md.trans' b1 fun q C h=>by omega
 have bk:bO aV.heap ch [au ln,.slice a r.length c]:=dL
 have f9:=b1.size
 refine nl<|bx<|aB fun aY=>ag fun dm=>ak (au i)<|ak (au n)<|p (bJ aa aa)<|nl<|dm<|cd aa (fun eN=> ?_) fun eN=> ?_
 refine ag fun bA=>p (fa x5 aa)<|p (ld bu aa<|(bk.aO 0).trans aa)<|e<|cl sO (sT (ln:Nat) 116 aV) aa fun v75 gL er=> ?_
 obtain ⟨rfl,bY⟩:=er
 have gn:=bY.size
 refine p aA<|e<|cW jT aa aa aa aa (Wk.B (a6.trans bY) aS) (by simp) fun gO d9 dO=>nl<|bA<|rt<|tr<|br<|tr<|tr<|br<|tr<|ew aa eb (dN (cs:= [.int .i64 2,au ln,.int .i64 116]) aa lj aa fun j an=>dO.bG j) ?_
 rw [show n - i=0 by omega] at ah
 exact lV.no ah.more<|(ax.trans<|a6.trans bY).trans' d9 fun q C h=>by omega
 refine aM<|aY<|ag fun bA=>ak (aQ fb)<|p (da EY aa (aa) fun j an=>(Wk.B cq cF).bG j)<|p (da xd aa (aa) fun j an=>bk.bG j)<|e<|cl Qw (R9 B fb mc F V ln r ce.heap.size a c aV (cu.wk<|ax.trans a6) ⟨seen,co⟩ (cE.wk a6) cS.2 cS.1) aa fun fA fF es=> ?_
 obtain ⟨d6,bZ⟩:=es
 obtain ⟨A,aZ,ci,rfl,c1,cM⟩:∃ (u:Tx) (a:Value) (e:Nat),fA= .tuple #[.agg [str u,a].toArray,au e]∧a.oneCell'=true∧((e=0∧∃ l,ga F r= .ok (u,l)∧bq fF aV.heap.size 51 1 a l.length (l.map bg))∨(e≠0∧ga F r= .error e)):=by
  rcases d6 with ⟨x,a,h1,h2,h3⟩ | ⟨e,h1,h2,h3⟩
  exact ⟨x.1,a,0,h2,eU h3,.inl ⟨aa,x.2,h1,h3⟩⟩
  exact ⟨_,_,e,h3,aa,.inr ⟨h2,h1⟩⟩
 have gp:=bZ.size
 refine p mv<|p (xt aa aa)<|p (xt aa aa)<|e<|fk qU fun bM gF fQ bd ck=> ?_
 have f8:=bd.size
 refine e<|gj kB aa aa aa (y4 c1) ck az fun ao bb dP=> ?_
 have aN:Wk av ao:=(cq.trans<|bZ.trans bd.md).trans' bb fun q C h=>by omega
 have cG:ao.heap[bM]? =some (.cells [str A,aZ].toArray 72 (0,0)):=dP
 have gb:=bb.size
 have eH:bO ao.heap ch [au ln,.slice a r.length c]:=bb.B (Wk.B (bZ.trans bd.md) bk) fun h=>by omega
 refine aw<|bA<|aB fun dn=>ag fun dr=>p mv<|p (db aa aa)<|nl<|dr<|cd aa (fun eO=> ?_) fun eO=> ?_
 obtain ⟨f1,hex⟩:=cM.resolve_left fun h=>by omega
 refine ag fun bB=>p (fa x5 aa)<|p (ld bu aa<|(eH.aO 0).trans aa)<|p mv<|e<|cl sO (sT (ln:Nat) (ci:Nat) ao) aa fun gB gM et=> ?_
 obtain ⟨rfl,b0⟩:=et
 have gr:=b0.size
 exact p aA<|e<|cW jT aa aa aa aa (Wk.B (O.trans<|aN.trans b0) aS) (by simp) fun gQ ea dQ=>nl<|bB<|rt<|tr<|br<|tr<|tr<|br<|tr<|ew aa eb (dN (cs:= [.int .i64 2,au ln,au ci]) aa lj aa fun j an=>dQ.bG j)<|lV.no (ah.bad ab hex)<|(ax.trans<|O.trans<|aN.trans b0).trans' ea fun q C h=>by omega
 obtain ⟨_,aI,hex,e8⟩:=cM.resolve_right fun h=>by omega
 have bi:=aP.wk aN
 have e2:¬(va.ownBlock=some E):=dC bi.own bi.cells az
 have e1:¬(va.ownBlock=some bM):=fun h=>by have :=(dM aP.own h).2; omega
 have gu:=aN.size
 refine aM<|dn<|aB fun bB=> ?_
 have aG:(fun w'=>Md (fun q=>va.ownBlock=some q) ao w') ao.drew:=(Md.refl _ _).drew
 refine eS (fun w'=>Md (fun q=>va.ownBlock=some q) ao w') 10 aa wide aG<|bC 0 aa (aQ E) aG<|bC 1 aa (aQ E) aG<|bz 2 aa (fun _=>nc aa) (fun _=>aG)<|bz 3 aa (fun _=>fa uT aa) (fun _=>aG)<|dI 4 aa (fun w' I=>ld sG aa<|Md.aO I ((aX bi.cells).trans aa) e2) aG<|dI 5 aa (fun w' I=>da lK aa (aa) fun j an=>bO.bG ⟨_,Md.aH I cG e1⟩ j) aG<|gP 6 aa aj<|kQ yY aa aa aa fun fL fG fU eg dZ=> ?_
 have aE:=iq eg.md
 have J:=bi.wk aE
 have gs:=aE.size
 have cz:(fun w'=>Md (fun q=>va.ownBlock=some q) ao w') fG:=Md.mono aE fun _ _ h=>h.elim
 refine ⟨cz,?_⟩
 refine gP 7 aa aj<|ap yY (J.own) aa ab aa (aJ.dX dZ) (aa) (y4 c1) ab ab fun a5 cg cZ ac fv fX=> ?_
 obtain ⟨f,cN,eY⟩:=J.mp
 have a2:=ac.aH J.cells<|dC J.own J.cells az
 have c0:bq cg M.heap.size 72 2 a5 (xs++ [(A,aI)]).length (ke<|(xs++ [(A,aI)]).zip<|vs++ [aZ]):=by
  have eZ:xs.length=vs.length:=by have :=J.fl.1; rw [fM] at this; omega
  rw [List.zip_append eZ,List.zip_cons_cons,List.zip_nil_right,He,bL]; exact cZ
 have fv:=ac.size
 have eD:=ac.B (Wk.B (aN.trans aE) cF) fun h=>by have :=(dM J.own h).1; omega
 have eI:=ac.aH (Wk.aH aE cG) fun h=>by have :=(dM aP.own h).2; omega
 have d5:Wk aq cg:=(O.trans<|aN.trans aE).trans' ac fun q C h=>by have :=(dM J.own h).1; omega
 have b4:(fun w'=>Md (fun q=>va.ownBlock=some q) ao w') cg:=cz.trans' ac fun _ _ h=>h
 refine ⟨b4,?_⟩
 refine bz 8 aa (fun _=>nc aa) (fun _=>b4)<|bz 9 aa (fun _=>fa uT aa) (fun _=>b4)<|dH 10 aa aj aj<|cw GW aa aa (v:=a5) (eU cZ) a2 (by show _ < 2; omega) fun aC ai dD=> ?_
 have bl:aC.heap[E]? =some (.cells [a5,.map (some Y)].toArray 186 (0,0)):=dD
 have f2:=ai.size
 have d1:Wk aq aC:=d5.trans' ai fun q C h=>by omega
 have eE:=ai.B eD fun h=>by omega
 have b6:=ai.aH eI fun h=>by omega
 have cX:=dq c0 ai fun q C h=>dC c0 a2 az<|h ▸ C
 have ex:Tg aC M.heap.size 51 aI.length aZ (aI.map bg):=((((((Tg.jM e8).mono ab).wk bd.md).md bb<|fu ck az).wk aE).md ac<|il J.own az).md ai<|fu a2 az
 have eW:=((J.fl.md ac<|il J.own az).md ai<|fu a2 az).snoc ex
 have b9:=(cN.md ac fun h=>rP J.own h fun cur z=>cN.pN).md ai fun h=>by omega
 have bo:=(eY.md ac<|il J.own az).md ai<|fu a2 az
 have ca:¬(((f<|str A).getD<|bR none 0 0).ownBlock=some E):=dC (bo.own A) bl az
 have cU:¬(((f<|str A).getD<|bR none 0 0).ownBlock=some bM):=dC (bo.own A) b6 az
 have cV:¬(((f<|str A).getD<|bR none 0 0).ownBlock=some Y):=fun h=>rP (bo.own A) h fun cur z=>b9.pN
 refine eR aj<|bB ?_
 have G:(fun w'=>Md (fun q=>((f<|str A).getD<|bR none 0 0).ownBlock=some q) aC w') aC.drew:=(Md.refl _ _).drew
 refine eS (fun w'=>Md (fun q=>((f<|str A).getD<|bR none 0 0).ownBlock=some q) aC w') 16 aa wide G<|lq 0 aa aj (fun _ _=>aT (aQ E) aa) G<|lq 1 aa aj (fun _ _=>nc aa) G<|lq 2 aa aj (fun _ _=>fa H5 aa) G<|lq 3 aa aj (fun w' I=>ld EW aa<|Md.aO I ((aX bl).trans aa) ca) G<|lq 4 aa aj (fun _ _=>fa BY aa) G<|lq 5 aa aj (fun w' I=>ld bT aa<|Md.aO I ((aX b6).trans aa) cU) G<|lq 6 aa aj (fun _ _=>aT (aQ E) aa) G<|lq 7 aa aj (fun _ _=>nc aa) G<|lq 8 aa aj (fun _ _=>fa H5 aa) G<|lq 9 aa aj (fun w' I=>ld EW aa<|Md.aO I ((aX bl).trans aa) ca) G<|lq 10 aa aj (fun _ _=>fa BY aa) G<|lq 11 aa aj (fun w' I=>ld bT aa<|Md.aO I ((aX b6).trans aa) cU) G<|lq 12 aa aj (fun w' I=>oL LH ZJ iZ (dp.md (b9) I cV) aa aa (⟨_,aa⟩)<|aa) G<|lq 13 aa aj (fun _ _=>aT (au i) aa) G<|gP 14 aa aj<|fZ nm aa aa fun fK fB fO ef dE=> ?_
 have Z:=iq ef.md
 have aU:=bo.md Z fun _ hk=>hk.elim
 have f3:=Z.size
 have cD:(fun w'=>Md (fun q=>((f<|str A).getD<|bR none 0 0).ownBlock=some q) aC w') fB:=Md.mono Z fun _ _ h=>h.elim
 refine ⟨cD,?_⟩
 refine gP 15 aa aj<|ap nm (aU.own A) aa ab aa (aJ.dX dE) (aa) (aa) (by have :=IW A xs; omega) (by have :=IW A xs; omega) fun fz c9 e5 am ft a3=> ?_
 have ft:=am.size
 have a3:=(b9.wk Z).md am cV
 have e9:bq c9 M.heap.size 3 1 fz (idxs A xs++ [xs.length]).length ((idxs A xs++ [xs.length]).map bN):=by
  rw [bL,iu,c5]; exact e5
 have ev:(fun w'=>Md (fun q=>((f<|str A).getD<|bR none 0 0).ownBlock=some q) aC w') c9:=cD.trans' am fun _ _ h=>h
 refine ⟨ev,?_⟩
 refine dH 16 aa aj aj<|tJ LH iZ (a3) aa aa aa (⟨_,aa⟩) fun dc aF eh=> ?_
 have fc:=mW.put (x:=(A,aI)) aU am e9 (fun cur z=>a3.pN) aF
 have eL:=aF.aH (am.aH (Wk.aH Z bl) ca) fun h=>by omega
 have cY:=dq (aW cX Z) am fun q C=>mG (aW cX Z) (aU.own A) az C
 have e7:=dq cY aF fun q C h=>rP cY C fun cur z=>h ▸ a3.pN
 have eX:=((eW.wk Z).md am<|il (aU.own A) az).md aF fun k hk cur z h=>a3.pN<|hk ▸ h
 have eA:la dc M.heap.size E Y a5 (vs++ [aZ]) (xs++ [(A,aI)]):=⟨eL,e7,by rw [iu]; exact eX,⟨_,eh,fc⟩⟩
 have d3:Wk aq dc:=((d1.trans Z).trans' am fun q C h=>by have :=(dM (aU.own A) h).1; omega).trans' aF fun q C h=>by omega
 have eF:=aF.B (am.B (Wk.B Z eE) fun h=>by have :=(dM (aU.own A) h).1; omega) fun h=>by omega
 have gc:=aF.size
 exact eR aj<|bn<|bw<|rg aa<|p (ad aa aa<|bX ab)<|p mv<|nl<|tn<|⟨_,ab,i+1,xs++ [(A,aI)],vs++ [aZ],a5,ab,(by rw [bL,c5]; rfl),(by rw [show n - (i+1)=n - i - 1 by omega]; exact ah.step ab hex),eA,d3,eF,(ab),aa,aa,aa,(by first | rfl | (rw [← cT]; rfl)),aa,aa,(by first | rfl | (rw [U]; rfl)),(by first | rfl | (rw [U]; rfl)),aa,aa⟩
 refine ext<|ba<|ba<|be<|dh<|aB fun bw=>aB fun bx=> ?_
 obtain ⟨fJ,cv,rfl⟩:=cB aP.own
 refine rg aa<|ak (aQ E)<|p (nc aa)<|p (fa uT aa)<|p (ld sG aa<|(aX aP.cells).trans aa)<|p (bK vN aa aa)<|ak (au n)<|p (lt aa aa)<|nl<|bx<|cd aa (fun eK=> ?_) fun eK=> ?_
 refine ag fun aY=>ak (.slice c6 (bH t).length uD)<|p (bK eV aa aa)<|p (bE (((bH t).length+1:Nat):Int) aa aa<|bj ab ab)<|e<|cl sO (sT ((bH t).length+1:Nat) 116 av) aa fun gw gD ei=> ?_
 obtain ⟨rfl,bS⟩:=ei
 have f5:=bS.size
 refine p aA<|e<|cW jT aa aa aa aa (Wk.B (O.trans bS) aS) (by simp) fun gR ec dR=>nl<|aY<|rt<|tr<|ew aa eb (dN (cs:= [.int .i64 2,au ((bH t).length+1),.int .i64 116]) aa lj aa fun j an=>dR.bG j) ?_
 rw [gU ab] at ah
 exact lV.no (ah.ends ab)<|(ax.trans<|O.trans bS).trans' ec fun q C h=>by omega
 refine aM<|bw<|ag fun aY=>ak (aQ E)<|p (cQ (ps:= []) (L:= [.int .i64 0,.int .i64 0,.int .i64 0]) tB aa<|aa)<|p (cJ (aQ E) aa)<|e<|cW jT aa aa aa aa (Wk.B O aS) (by simp) fun gS cx dT=>nl<|aY<|rt<|ew aa eb (dN (cs:= [.int .i64 0,.int .i64 0,.int .i64 0]) aa lj aa fun j an=>dT.bG j) ?_
 rw [gU ab,show n - i=0 by omega] at ah
 have eB:=ah.done
 have ey:TF av [49] (fun q=>q=bQ):=TF.eq (dt<|Wk.aH (hE22.trans<|hE31.trans O) cn) az
 unfold lV
 rw [eB]
 exact ⟨⟨M.heap.size,E,Y,_,vs,ab,aa,aP.md cx ey az (fun h=>by omega),ab,ab⟩,(ax.trans O).trans' cx fun q C h=>by omega⟩
end Go.Hb.kr
end
section
namespace Go.Hb
open Go.Hb.gX Go.Hb.jF Go.Hb.kr
theorem Zv {α:Type} {f:α×Value→List Value} {m c i:Nat} (A:∀ q,(f q).length=m) (C:c < m) (hs:∀ a u v,(f (a,u)).set c v=f (a,v)) {rs:List α} {vs:List Value} {v:Value} (hi:i < rs.length) (J:i < vs.length):((rs.zip vs).flatMap f).set (i*m+c) v=(rs.zip<|vs.set i v).flatMap f:=by
 obtain ⟨r,I⟩:∃ r,rs[i]? =some r:=⟨_,cC hi⟩
 obtain ⟨u,hu⟩:∃ u,vs[i]? =some u:=⟨_,cC J⟩
 have M:(rs.zip vs)[i]? =some (r,u):=jy.2 ⟨I,hu⟩
 have V:rs.zip (vs.set i v)=(rs.zip vs).set i (r,v):=by
  apply p7
  intro j
  rw [k6]
  by_cases E:i=j
  · subst E
    rw [if_pos rfl,if_pos (fS.1 M).1]
    exact jy.2 ⟨I,by simp [J]⟩
  · rw [if_neg E]
    cases h1:(rs.zip vs)[j]? with
    | none=>
      rw [List.getElem?_eq_none_iff,zH] at h1 ⊢
      rw [wy]; exact h1
    | some q=>
      have h2:=jy.1 h1
      exact jy.2 ⟨h2.1,by rw [k6,if_neg E]; exact h2.2⟩
 have Y:(rs.zip vs).length=min rs.length vs.length:=zH
 have G:((rs.zip vs).flatMap f).length=(rs.zip vs).length*m:=oG A _
 have hle:i*m+m≤(rs.zip vs).length*m:=by rw [← Nat.succ_mul]; exact Nat.mul_le_mul_right _ ab
 rw [V,HT A _ ab]
 apply p7
 intro j
 have O:=fun c C=>BA A (c:=c) M C
 have U:(((rs.zip vs).flatMap f).take<|i*m).length=i*m:=by rw [dR,G]; omega
 rw [k6]
 by_cases h1:j < i*m
 · rw [if_neg ab,dD,ml ab,o3,if_pos h1]
 · rw [dD,mS ab,U]
   by_cases h2:j < i*m+m
   · rw [ml (by rw [A]; omega)]
     obtain ⟨d,rfl⟩:∃ d,j=i*m+d:=⟨j - i*m,ab⟩
     rw [O d ab,show i*m+d - i*m=d by omega,← hs r u v,k6]
     by_cases h3:c=d
     · subst h3; rw [if_pos rfl,if_pos rfl,if_pos (by rw [G]; omega),if_pos (by rw [A]; exact C)]
     · rw [if_neg ab,if_neg h3]
   · rw [if_neg ab,mS (by rw [A]; omega),A,q8]
     congr 1; omega
theorem Sy {xs:List bD} {vs:List Value} {i:Nat} {v:Value} (hi:i < xs.length) (a:i < vs.length):(ke<|xs.zip vs).set (i*2 +1) v=ke (xs.zip<|vs.set i v):=Zv (f:=pG) (m:=2) (c:=1) (fun _=>rfl) az (fun _ _ _=>rfl) hi a
theorem uH {l:List (bD×Value)} {i:Nat} {q:bD×Value} (h:l[i]? =some q):ke l≠[]:=fun h2=>by
 have h3:=Ss l
 have h4:=(fS.1 h).1
 rw [h2] at h3
 have h5:0=l.length*2:=h3
 omega
theorem Sx {w:World} {B e:Nat} {xs:List bD} {vs:List Value} {A:List (List Nat)} (h:eu w B e vs A):(ke<|xs.zip vs).all gB=true :=by
 rw [mj]
 intro v a
 obtain ⟨q,i,a⟩:=List.mem_flatMap.1 a
 have h1:=mj.1 (z6 h) q.2 (List.of_mem_zip i).2
 simp only [pG,gu,uh,or_false] at a
 rcases a with rfl | rfl
 · rfl
 · exact h1
def pd (w:World) (B:Nat) (vs:List Value) (a:List (List Nat)):Prop :=vs.length=a.length∧∀ (i:Nat) v l,vs[i]? =some v→a[i]? =some l→bq w B 51 1 v l.length (l.map bg)
theorem pd.t {w:World} {B:Nat} {vs:List Value} {a:List (List Nat)} (h:pd w B vs a):eu w B 51 vs a:=⟨h.1,fun i v l h1 h2=>Tg.jM<|h.2 i v l h1 h2⟩
theorem E8 {G:Nat→Prop} {w w':World} {B:Nat} {vs:List Value} {a:List (List Nat)} (h:pd w B vs a) (hm:Md G w w') (q:∀ k,G k→∀ cur z,w.heap[k]?≠some (.cells cur 51 z)):pd w' B vs a:=⟨h.1,fun i v l h1 h2=>dq (h.2 i v l h1 h2) hm fun k hk A=>rP (h.2 i v l h1 h2) hk<|q k A⟩
theorem Oe (w:World) (B:Nat):pd w B [] []:=⟨rfl,fun i v l a=>by simp at a⟩
theorem Od {w:World} {B i:Nat} {vs:List Value} {a:List (List Nat)} {v:Value} (h:pd w B (vs.take i) (a.take i)) (hi:i < a.length) (E:i < vs.length) (C:bq w B 51 1 v (a.getD i []).length ((a.getD i []).map bg)):pd w B ((vs.set i v).take<|i+1) (a.take<|i+1):=by
 refine ⟨by simp; have :=h.1; simp at this; omega,fun j u l h1 h2=> ?_⟩
 rw [o3] at h1 h2
 by_cases q:j < i+1
 · rw [if_pos q] at h1 h2
   rw [k6] at h1
   by_cases A:i=j
   · subst A
     rw [if_pos rfl,if_pos E] at h1
     cases h1
     rw [show a.getD i []=l by rw [cR,h2]; rfl] at C
     exact C
   · rw [if_neg A] at h1
     exact h.2 j u l (by rw [o3,if_pos ab]; exact h1)<|by rw [o3,if_pos ab]; exact h2
 · rw [if_neg q] at h1; cases h1
theorem Sl (B wb mb:Nat) (va:Value) (vs:List Value) (xs:List bD) (w:World) (i:la w B wb mb va vs xs) (G:xs.length≤70000):
 bm ay 44 (bf [aQ wb]) w (fun v w'=>v=au (xs.length)∧Wk w w'):=by
 obtain ⟨a,c,rfl⟩:=cB i.own
 exact enter func44 aa ntmps44 aa<|ag fun q=>aw<|q<|aB fun A=>ag fun C=>ak (aQ wb)<|p (kT DH aa aa)<|nl<|C<|cf (aa)<|aM<|A<|aB fun E=>rg aa<|ak (aQ wb)<|p (nc aa)<|p (fa uT aa)<|p (ld sG aa<|(aX i.cells).trans aa)<|p (bK vN aa aa)<|p aA<|nl<|E<|rt<|aV aa<|⟨aa,Md.refl _ _⟩
theorem R8 (B wb mb:Nat) (va:Value) (vs:List Value) (xs:List bD) (w:World) (G:la w B wb mb va vs xs) (a1:xs.length≤70000) (aK:∀ x∈xs,x.2.length≤64):
 bm ay 47 (bf [aQ wb]) w (fun v w'=>(∃ vs,bq w' w.heap.size 72 2 v xs.length (ke<|xs.zip vs)∧eu w' w.heap.size 51 vs (xs.map (·.2))∧pd w' w.heap.size vs (xs.map (·.2)))∧Wk w w'):=by
 refine enter func47 aa ntmps47 aa<|ag fun am=>aw<|am<|aB fun ao=>ag fun ap=>ak (aQ wb)<|p (kT DH aa aa)<|nl<|ap<|cf (aa)<|aM<|ao<|aB fun aq=>rg aa<|ak (aQ wb)<|p (nc aa)<|p (fa uT aa)<|p (ld sG aa<|(aX G.cells).trans aa)<|e<|cl Qx (QS va xs.length (ke<|xs.zip vs) w (Rd.jM G.own) (Sx G.fl) ab) aa fun v11 a4 aE=> ?_
 obtain ⟨ai,aC⟩:=aE
 obtain ⟨C,ky,rfl⟩:=cB ai
 have aT:vs.length=xs.length:=by have :=G.fl.1; rwa [fM] at this
 refine aw<|aq<|aB fun ar=>ag fun av=>p mv<|p (bK vN aa aa)<|p mv<|nl<|av<|aH<|lp (fun ah M E=> ∃ (i:Nat) (sa:List Value),(i≤xs.length)∧(sa.length=xs.length)∧(sa.drop i=vs.drop i)∧(pd E w.heap.size (sa.take i)<|(xs.map (·.2)).take i)∧(bq E w.heap.size 72 2 (.slice C xs.length ky) xs.length<|ke<|xs.zip sa)∧(Wk w E)∧(M 3= .slice C xs.length ky)∧(M 13=au (xs.length))∧(M 14=au i)∧(xs.length - i=ah)) _ ⟨0,vs,ab,aT,aa,(Oe _ _),ai,aC,aa,aa,aa,aa⟩ ?_
 rintro ah M E ⟨i,sa,hi,aS,al,J,A,I,aR,aO,aP,rfl⟩
 refine fx 3 aR<|fx 13 aO<|fx 14 aP<|ag fun ax=>p (lt aa aa)<|nl<|ax<|aB fun aA=>cd aa (fun aI=> ?_) fun aI=> ?_
 refine aM<|aA<|aB fun O=>aH<|aB fun an=> ?_
 obtain ⟨a3,aU,V⟩:=eu.get (G.wk I).fl (show i < (xs.map (·.2)).length by rw [fM]; omega)
 obtain ⟨ae,ci,rfl⟩:=V.slice
 obtain ⟨x,ac⟩:∃ x,xs[i]? =some x:=⟨_,cC ab⟩
 have aZ:(xs.map (·.2)).getD i []=x.2:=by rw [cR,List.getElem?_map,ac]; rfl
 have aY:=aK x<|iN ac
 rw [← aZ] at aY
 have Z:(xs.zip sa)[i]? =some (x,.slice ae ((xs.map (·.2)).getD i []).length ci):=jy.2 ⟨ac,(Be al).trans aU⟩
 refine rg aa<|ak (au i)<|p (cJ (au i) aa)<|nl<|an<|rg aa<|ak (.slice C xs.length ky)<|ak (au i)<|ak (.slice C xs.length ky)<|ak (au i)<|p (a8 Bn aa aa ab<|aJ.ok ((a7 A).2)<|uH Z)<|p (fa rG aa)<|p (ld mZ aa<|fG (f:=pG) (m:=2) (fun _=>rfl) (a7 A).2 Z 1 az)<|e<|cl rA (sP ae ((xs.map (·.2)).getD i []).length ci (((xs.map (·.2)).getD i []).map bg) E V.cI.2 (by simp) (fun h=>Tg.tt V (by simp) h) (sH _) ab) aa fun v24 a5 aF=> ?_
 obtain ⟨Y,a⟩:=aF
 have a2:=a.size
 refine p (a8 Bn aa aa ab<|aJ.ok ((a7<|aW A a).2)<|uH Z)<|p (fa rG aa)<|e<|tC (j:=i*2 +1) (aW A a) sS aa aa (eU Y) (by rw [Int.toNat_natCast]; omega) ab fun a0 U aj=> ?_
 rw [Sy ab ab] at aj
 have aD:Wk w a0:=Wk.own (I.trans a) (aW A a) U ab
 have aL:=dq (ez Y (show w.heap.size≤E.heap.size from I.size)) U fun q aN=>mG Y (aW A a) az aN
 have aG:=E8 (E8 J a fun _ hk=>hk.elim) U<|il (aW A a) az
 exact nl<|bn<|O<|rg aa<|p (ad aa aa<|bX ab)<|p mv<|nl<|tn<|⟨_,ab,i+1,sa.set i v24,ab,(by rw [wy]; exact aS),(jF.set_drop al),(Od aG (by rw [fM]; omega) ab aL),aj,aD,aa,aa,aa,aa⟩
 refine ext<|ba<|ba<|be<|ar<|ag fun O=>ak (.slice C xs.length ky)<|p (cJ (.slice C xs.length ky) aa)<|nl<|O<|rt<|aV aa ?_
 rw [eM ab,eM (by rw [fM]; omega)] at J
 exact ⟨⟨sa,A,J.t,J⟩,I⟩
end Go.Hb
end
section
namespace Go.Hb.js
open Go.Hb.lU Go.Hb.nz
def ng (c:cX):List Value:= [bN c.flag,.int .i64 (c.kind:Nat),.bool c.ek,.int .i64 (c.first:Nat),.int .i64 (c.count:Nat)]
def qA (l:List cX):List Value:=l.flatMap ng
def jv (q:c7×Value):List Value:= [.int .i64 (q.1.kind:Nat),bN q.1.flag,.bool q.1.ek,str q.1.strip,str q.1.add,str q.1.cond,q.2,.int .i64 (q.1.line:Nat)]
def mA (l:List (c7×Value)):List Value:=l.flatMap jv
def iw (w:World) (B e:Nat) (vs:List Value) (a:List (List Nat)):Prop :=vs.length=a.length∧∀ (i:Nat) v l,vs[i]? =some v→a[i]? =some l→Tg w B e l.length v (l.map bN)
theorem iw.nil (w:World) (B e:Nat):iw w B e [] []:=⟨rfl,fun i v l a=>by simp at a⟩
theorem iw.md {F:Nat→Prop} {w w':World} {B e:Nat} {vs:List Value} {a:List (List Nat)} (h:iw w B e vs a) (hm:Md F w w') (q:∀ k,F k→∀ cur z,w.heap[k]?≠some (.cells cur e z)):iw w' B e vs a:=⟨h.1,fun i v l h1 h2=>(h.2 i v l h1 h2).md hm q⟩
theorem iw.wk {w w':World} {B e:Nat} {vs:List Value} {a:List (List Nat)} (h:iw w B e vs a) (hm:Wk w w'):iw w' B e vs a:=h.md hm fun _ hk=>hk.elim
theorem iw.snoc {w:World} {B e:Nat} {vs:List Value} {q:List (List Nat)} {v:Value} {l:List Nat} (a:iw w B e vs q) (C:Tg w B e l.length v (l.map bN)):iw w B e (vs++ [v]) (q++ [l]):=by
 refine ⟨by rw [bL,bL,a.1]; rfl,fun i E G h1 h2=> ?_⟩
 have A:=a.1
 by_cases hi:i < vs.length
 · rw [ml hi] at h1
   rw [ml ab] at h2
   exact a.2 i E G h1 h2
 · rw [mS ab] at h1
   rw [mS ab,← A] at h2
   cases hj:i - vs.length with
   | zero=>rw [hj] at h1 h2; cases h1; cases h2; exact C
   | succ j=>rw [hj] at h1; simp at h1
theorem iw.get {w:World} {B e i:Nat} {vs:List Value} {a:List (List Nat)} (h:iw w B e vs a) (hi:i < a.length):∃ v,vs[i]? =some v∧Tg w B e (a.getD i []).length v ((a.getD i []).map bN):=by
 have h1:i < vs.length:=by rw [h.1]; exact hi
 refine ⟨vs[i],cC h1,h.2 i _ _ (cC h1) ?_⟩
 rw [cR,cC hi]; rfl
structure gl where
 rb:Nat
 fb:Nat
 eof:Nat
 vr:Value
 vs:List (Nat×Value)
 rows:List Rw
structure ej where
 v9:Value
 v10:Value
 v11:Value
 v12:Value
 sa:List Value
 rn:List Value
def nQ (F:aR) (V:ej):List Value:= [.int .i64 (F.kind:Nat),str F.rB,str F.tr,bN (F.sp.getD 0 0),bN (F.sp.getD 1 0),bN (F.sp.getD 2 0),bN (F.sp.getD 3 0),bN (F.sp.getD 4 0),.int .i64 (F.least:Nat),V.v9,V.v10,V.v11,V.v12]
def Ix (H:gl) (k:Nat) (vh:Value) (ln:Nat):List Value:= [.pointer (some ⟨H.fb,0,none⟩),H.vr,.int .i64 (k:Nat),.int .i64 (H.eof:Nat),vh,.int .i64 (ln:Nat)]
structure eE (w:World) (B B0 fb:Nat) (F:aR) (V:ej):Prop where
 cells:w.heap[fb]? =some (.cells (nQ F V).toArray 181 (0,0))
 o9:bq w B 369 2 V.v9 F.dd.length (kZ F.dd)
 eT:bq w B 75 1 V.v10 F.aliases.length V.sa
 al:iw w B0 3 V.sa F.aliases
 ep:bq w B 242 5 V.v11 F.bw.length (qA F.bw)
 dB:bq w B 174 8 V.v12 F.rules.length (mA<|F.rules.zip V.rn)
 nx:iw w B0 3 V.rn (F.rules.map (·.next))
 lo:B≤fb
 fR:F.sp.length=5
theorem eE.md {G:Nat→Prop} {w w':World} {B B0 fb:Nat} {F:aR} {V:ej} (h:eE w B B0 fb F V) (hm:Md G w w') {L:List Nat} (a:TF w L G) (i:(L.contains 183 || L.contains 371 || L.contains 77 || L.contains 5 || L.contains 244 || L.contains 176)=false):eE w' B B0 fb F V:=by
 simp only [nv] at i
 obtain ⟨⟨⟨⟨⟨h1,h2⟩,h3⟩,h4⟩,h5⟩,h6⟩:=i
 have q:∀ k,G k→∀ cur z,w.heap[k]?≠some (.cells cur 3 z):=fun k hk cur z A=>a.no (dt A) h4 hk
 exact ⟨hm.gL a h.cells h1,cj h.o9 hm a h2,cj h.eT hm a h3,h.al.md hm q,cj h.ep hm a h5,cj h.dB hm a h6,h.nx.md hm q,h.lo,h.fR⟩
theorem eE.wk {w w':World} {B B0 fb:Nat} {F:aR} {V:ej} (h:eE w B B0 fb F V) (hm:Wk w w'):eE w' B B0 fb F V:=h.md (L:= []) hm (fun _ hk=>hk.elim) rfl
structure nB (w:World) (B B0 fb:Nat) (F:aR) (V:ej):Prop where
 cells:w.heap[fb]? =some (.cells (nQ F V).toArray 181 (0,0))
 eT:bq w B 75 1 V.v10 F.aliases.length V.sa
 al:iw w B0 3 V.sa F.aliases
theorem eE.r {w:World} {B B0 fb:Nat} {F:aR} {V:ej} (h:eE w B B0 fb F V):nB w B B0 fb F V:=⟨h.cells,h.eT,h.al⟩
theorem nB.md {G:Nat→Prop} {w w':World} {B B0 fb:Nat} {F:aR} {V:ej} (h:nB w B B0 fb F V) (hm:Md G w w') {L:List Nat} (a:TF w L G) (i:(L.contains 183 || L.contains 77 || L.contains 5)=false):nB w' B B0 fb F V:=by
 simp only [nv] at i
 obtain ⟨⟨h1,h3⟩,h4⟩:=i
 exact ⟨hm.gL a h.cells h1,cj h.eT hm a h3,h.al.md hm fun k hk cur z q=>a.no (dt q) h4 hk⟩
theorem nB.wk {w w':World} {B B0 fb:Nat} {F:aR} {V:ej} (h:nB w B B0 fb F V) (hm:Wk w w'):nB w' B B0 fb F V:=h.md (L:= []) hm (fun _ hk=>hk.elim) rfl
theorem eE.put {w w':World} {B B0 fb:Nat} {F F':aR} {V:ej} (h:eE w B B0 fb F V) (hm:Md (fun k=>k=fb) w w') (q:w'.heap[fb]? =some (.cells (nQ F' V).toArray 181 (0,0))) (h1:F'.dd=F.dd) (h2:F'.aliases=F.aliases) (h3:F'.bw=F.bw) (h4:F'.rules=F.rules) (h5:F'.sp.length=5):eE w' B B0 fb F' V:=by
 have a:TF w [183] (fun k=>k=fb):=TF.eq (dt h.cells) az
 have i:∀ k,k=fb→∀ cur z,w.heap[k]?≠some (.cells cur 3 z):=fu h.cells az
 exact ⟨q,h1 ▸ cj h.o9 hm a az,h2 ▸ cj h.eT hm a az,h2 ▸ h.al.md hm i,h3 ▸ cj h.ep hm a az,h4 ▸ cj h.dB hm a az,h4 ▸ h.nx.md hm i,h.lo,h5⟩
theorem eE.Aa {w i E:World} {B B0 fb:Nat} {F:aR} {V:ej} {v:Value} {x:Tx×Tx} (h:eE w B B0 fb F V) (hm:Md (fun k=>V.v9.ownBlock=some k) w i) (J:bq i B 369 2 v (F.dd++ [x]).length (kZ<|F.dd++ [x])) (a:Md (fun k=>k=fb) i E) (M:E.heap[fb]? =some (.cells (nQ {F with dd:=F.dd++ [x]} {V with v9:=v}).toArray 181 (0,0))):eE E B B0 fb {F with dd:=F.dd++ [x]} {V with v9:=v} :=by
 have q:TF w [371] (fun k=>V.v9.ownBlock=some k):=TF.own h.o9 az
 have C:=hm.gL q h.cells az
 have A:TF i [183] (fun k=>k=fb):=TF.eq (dt C) az
 have G:∀ k,V.v9.ownBlock=some k→∀ cur z,w.heap[k]?≠some (.cells cur 3 z):=il h.o9 az
 have I:∀ k,k=fb→∀ cur z,i.heap[k]?≠some (.cells cur 3 z):=fu C az
 exact ⟨M,dq J a (fun k hk O=>dC J C az<|O ▸ hk),cj (cj h.eT hm q az) a A az,(h.al.md hm G).md a I,cj (cj h.ep hm q az) a A az,cj (cj h.dB hm q az) a A az,(h.nx.md hm G).md a I,h.lo,h.fR⟩
theorem eE.z7 {w i I:World} {B B0 fb:Nat} {F:aR} {V:ej} {v:Value} {x:List Nat} {vx:Value} (h:eE w B B0 fb F V) (U:Tg w B0 3 x.length vx (x.map bN)) (hm:Md (fun k=>V.v10.ownBlock=some k) w i) (J:bq i B 75 1 v (F.aliases++ [x]).length (V.sa++ [vx])) (a:Md (fun k=>k=fb) i I) (M:I.heap[fb]? =some (.cells (nQ {F with aliases:=F.aliases++ [x]} {V with v10:=v,sa:=V.sa++ [vx]}).toArray 181 (0,0))):eE I B B0 fb {F with aliases:=F.aliases++ [x]} {V with v10:=v,sa:=V.sa++ [vx]} :=by
 have q:TF w [77] (fun k=>V.v10.ownBlock=some k):=TF.own h.eT az
 have C:=hm.gL q h.cells az
 have A:TF i [183] (fun k=>k=fb):=TF.eq (dt C) az
 have E:∀ k,V.v10.ownBlock=some k→∀ cur z,w.heap[k]?≠some (.cells cur 3 z):=il h.eT az
 have G:∀ k,k=fb→∀ cur z,i.heap[k]?≠some (.cells cur 3 z):=fu C az
 exact ⟨M,cj (cj h.o9 hm q az) a A az,dq J a (fun k hk O=>dC J C az<|O ▸ hk),((h.al.md hm E).md a G).snoc ((U.md hm E).md a G),cj (cj h.ep hm q az) a A az,cj (cj h.dB hm q az) a A az,(h.nx.md hm E).md a G,h.lo,h.fR⟩
theorem eE.z8 {w i E:World} {B B0 fb:Nat} {F:aR} {V:ej} {v:Value} {x:cX} (h:eE w B B0 fb F V) (hm:Md (fun k=>V.v11.ownBlock=some k) w i) (J:bq i B 242 5 v (F.bw++ [x]).length (qA<|F.bw++ [x])) (a:Md (fun k=>k=fb) i E) (M:E.heap[fb]? =some (.cells (nQ {F with bw:=F.bw++ [x]} {V with v11:=v}).toArray 181 (0,0))):eE E B B0 fb {F with bw:=F.bw++ [x]} {V with v11:=v} :=by
 have q:TF w [244] (fun k=>V.v11.ownBlock=some k):=TF.own h.ep az
 have C:=hm.gL q h.cells az
 have A:TF i [183] (fun k=>k=fb):=TF.eq (dt C) az
 have G:∀ k,V.v11.ownBlock=some k→∀ cur z,w.heap[k]?≠some (.cells cur 3 z):=il h.ep az
 have I:∀ k,k=fb→∀ cur z,i.heap[k]?≠some (.cells cur 3 z):=fu C az
 exact ⟨M,cj (cj h.o9 hm q az) a A az,cj (cj h.eT hm q az) a A az,(h.al.md hm G).md a I,dq J a (fun k hk O=>dC J C az<|O ▸ hk),cj (cj h.dB hm q az) a A az,(h.nx.md hm G).md a I,h.lo,h.fR⟩
theorem eE.xi {w i I:World} {B B0 fb:Nat} {F:aR} {V:ej} {v:Value} {x:c7} {vx:Value} (h:eE w B B0 fb F V) (U:Tg w B0 3 x.next.length vx (x.next.map bN)) (hm:Md (fun k=>V.v12.ownBlock=some k) w i) (J:bq i B 174 8 v (F.rules++ [x]).length (mA<|(F.rules++ [x]).zip<|V.rn++ [vx])) (a:Md (fun k=>k=fb) i I) (M:I.heap[fb]? =some (.cells (nQ {F with rules:=F.rules++ [x]} {V with v12:=v,rn:=V.rn++ [vx]}).toArray 181 (0,0))):eE I B B0 fb {F with rules:=F.rules++ [x]} {V with v12:=v,rn:=V.rn++ [vx]} :=by
 have q:TF w [176] (fun k=>V.v12.ownBlock=some k):=TF.own h.dB az
 have C:=hm.gL q h.cells az
 have A:TF i [183] (fun k=>k=fb):=TF.eq (dt C) az
 have E:∀ k,V.v12.ownBlock=some k→∀ cur z,w.heap[k]?≠some (.cells cur 3 z):=il h.dB az
 have G:∀ k,k=fb→∀ cur z,i.heap[k]?≠some (.cells cur 3 z):=fu C az
 exact ⟨M,cj (cj h.o9 hm q az) a A az,cj (cj h.eT hm q az) a A az,(h.al.md hm E).md a G,cj (cj h.ep hm q az) a A az,dq J a (fun k hk O=>dC J C az<|O ▸ hk),(by rw [iu]; exact ((h.nx.md hm E).md a G).snoc<|(U.md hm E).md a G),h.lo,h.fR⟩
structure gY (w:World) (B:Nat) (H:gl) (k ln:Nat) (seen:List Tx) (vh:Value):Prop where
 cells:w.heap[H.rb]? =some (.cells (Ix H k vh ln).toArray 236 (0,0))
 hd:bq w B 9 1 vh seen.length (seen.map str)
 lo:B≤H.rb
section
variable {w w':World} {B k ln:Nat} {H:gl} {seen:List Tx} {vh:Value}
theorem gY.md {G:Nat→Prop} (h:gY w B H k ln seen vh) (hm:Md G w w') {L:List Nat} (i:TF w L G) (a:(L.contains 238 || L.contains 11)=false):gY w' B H k ln seen vh:=by
 simp only [nv] at a
 exact ⟨hm.gL i h.cells a.1,cj h.hd hm i a.2,h.lo⟩
theorem gY.wk (h:gY w B H k ln seen vh) (hm:Wk w w'):gY w' B H k ln seen vh:=h.md (L:= []) hm (fun _ hk=>hk.elim) rfl
theorem gY.fb {B0:Nat} {a:aR} {V:ej} (h:gY w B H k ln seen vh) (i:eE w B B0 H.fb a V) (hm:Md (fun k=>k=H.fb) w w'):gY w' B H k ln seen vh:=h.md hm (TF.eq (L:= [183]) (dt i.cells) az) az
theorem gY.own {B' e s n:Nat} {v:Value} {xs:List Value} (h:gY w B H k ln seen vh) (i:bq w B' e s v n xs) (hm:Md (fun k=>v.ownBlock=some k) w w') (a:([e+2].contains 238 || [e+2].contains 11)=false):gY w' B H k ln seen vh:=h.md hm (TF.own (L:= [e+2]) i<|by simp) a
theorem gY.oE {cs:Array Value} {z:Nat×Nat} (h:gY w B H k ln seen vh) (a:w.heap[H.fb]? =some (.cells cs 181 z)) (hm:Md (fun k=>k=H.fb) w w'):gY w' B H k ln seen vh:=h.md hm (TF.eq (L:= [183]) (dt a) az) az
theorem gY.dy {k' ln':Nat} (h:gY w B H k ln seen vh) (hm:Md (fun k=>k=H.rb) w w') (a:w'.heap[H.rb]? =some (.cells (Ix H k' vh ln').toArray 236 (0,0))):gY w' B H k' ln' seen vh:=⟨a,cj h.hd hm (TF.eq (L:= [238]) (dt h.cells) az) az,h.lo⟩
theorem eE.rb {B0:Nat} {a:aR} {V:ej} (h:eE w B B0 H.fb a V) (i:gY w B H k ln seen vh) (hm:Md (fun k=>k=H.rb) w w'):eE w' B B0 H.fb a V:=h.md hm (TF.eq (L:= [238]) (dt i.cells) az) az
end
structure nA (F:aR) (rows:List Rw) (seen:List Tx):Prop where
 len:F.dd.length+F.aliases.length+F.bw.length+F.rules.length+rows.length≤70000
 sl:seen.length+rows.length≤70000
 row:∀ q∈rows,q.2≠[]∧q.2.length≤70000∧∀ x∈q.2,x.length≤70000
 kd:F.kind=1∨F.kind=2∨F.kind=3
def GS (a:World) (H:gl):Prop := ∃ B0,Tg a B0 237 H.rows.length H.vr (kL H.vs)∧gZ a B0 9 H.vs H.rows∧H.rows.length≤70000
def mo (a w:World) (H:gl) (F:aR) (k ln:Nat) (seen:List Tx):Prop := ∃ V vh,eE w a.heap.size 0 H.fb F V∧gY w a.heap.size H k ln seen vh∧nA F (H.rows.drop k) seen∧Wk a w∧k≤H.rows.length
def NQ (w':World) (H:gl) (X:Except (Nat×Nat) (aR×List Rw)) (v:Value):Prop := ∃ l e:Nat,X= .error (l,e)∧e≠0∧v= .int .i64 (e:Nat)∧Hb.aO w'.heap H.rb 5=some (.int .i64 (l:Nat))
def fN (a:World) (H:gl) (seen:List Tx) (X:Except (Nat×Nat) (aR×List Rw)) (v:Value) (w':World):Prop :=((∃ F' k' ln',X= .ok (F',H.rows.drop k')∧v= .int .i64 (0:Nat)∧mo a w' H F' k' ln' seen)∨NQ w' H X v)∧Wk a w'
theorem nA.pF {F:aR} {q:Rw} {rest:List Rw} {seen:List Tx} (h:nA F (q::rest) seen):nA F rest seen:=⟨by have :=h.len; simp only [cO] at this; omega,by have :=h.sl; simp only [cO] at this; omega,fun a h2=>h.row a (zI _ h2),h.kd⟩
theorem gY.dj {w:World} {B:Nat} {H:gl} {k ln:Nat} {seen:List Tx} {vh:Value} (h:gY w B H k ln seen vh):Hb.aO w.heap H.rb 5=some (.int .i64 (ln:Nat)):=(aX h.cells).trans rfl
theorem GS.get {C w:World} {H:gl} {k:Nat} (h:GS C H) (hm:Wk C w) (hk:k < H.rows.length):∃ n r ar cr a c,H.rows.drop k=(n,r)::H.rows.drop (k+1)∧H.vr= .slice a H.rows.length c∧aJ w.heap a (kL H.vs)∧H.vs[k]? =some (n,.slice ar r.length cr)∧(∃ B0,Tg C B0 9 r.length (.slice ar r.length cr) (r.map str))∧H.vs.length=H.rows.length:=by
 obtain ⟨B0,h1,h2,_⟩:=h
 obtain ⟨a,c,G⟩:=h1.slice
 have I:=h2.1
 obtain ⟨q,A⟩:∃ q,H.rows[k]? =some q:=⟨_,cC hk⟩
 obtain ⟨n,r⟩:=q
 obtain ⟨p,hp⟩:∃ p,H.vs[k]? =some p:=⟨_,cC ab⟩
 obtain ⟨E,i⟩:=h2.2 k p (n,r) hp A
 obtain ⟨J,M⟩:=p
 simp only at E i
 subst E
 obtain ⟨ar,cr,rfl⟩:=i.slice
 rw [G] at h1
 refine ⟨J,r,ar,cr,a,c,?_,G,(h1.wk hm).cI.2,hp,⟨B0,i⟩,I⟩
 rw [M5 hk]
 rw [cC hk] at A
 rw [q9 A]
end Go.Hb.js
end
namespace Go.Hb
theorem VO {l:List UInt8} {j:Nat} {b:UInt8} (h:j < l.length):b∈l.take (j+1)↔b∈l.take j∨l.getD j 0=b:=by
 rw [fK l j 0 h,jD,j5,eq_comm (a:=b)]
theorem vv (s:List UInt8) (w:World) (hs:s.length≤1048576):
 bm ay 176 (bf [str s]) w (fun v w'=>v= .bool (gv s)∧Wk w w'):=by
 refine enter func176 aa ntmps176 aa<|ag fun M=>aw<|M<|aB fun O=>ag fun U=>aw<|U<|aH<|lp (fun G C J=> ∃ (i:Nat),(i≤s.length)∧(∀ j,j < i→iP (s.getD j 0)=true)∧(Wk w J)∧(C 0=str s)∧(C 3= .int .i64 i)∧(s.length - i=G)) _ ⟨0,ab,(fun j I=>by omega),(Md.refl _ _),aa,aa,aa⟩ ?_
 rintro G C J ⟨i,hi,hp,a,ah,ai,rfl⟩
 refine fx 0 ah<|fx 3 ai<|aB fun V=>ag fun Y=>ak (.int .i64 i)<|ak (str s)<|p (cz u9 aa aa)<|p (lt aa aa)<|nl<|Y<|cd aa (fun ac=> ?_) fun ac=> ?_
 refine aM<|V<|aB fun q=>aH<|ag fun E=>ak (str s)<|ak (.int .i64 i)<|p (eQ u9 aa aa ab)<|p (lt aa aa)<|p mv<|gs (t:=14) aa (fun ae=> ?_) fun ae=> ?_
 exact aE aa<|aE aa<|aE aa<|aE aa<|p (bB aa)<|nl<|E<|ct aa<|ag fun A=>aw<|A<|rt<|br<|tr<|tr<|br<|tr<|aV aa<|⟨by show bQ false =_; rw [sN (i:=i) ab (Bx ab)],a⟩
 refine aI aa (aT (str s) aa)<|aI aa (aT (.int .i64 i) aa)<|aI aa (eQ u9 aa aa ab)<|aI aa (bJ aa aa)<|p (bp aa)<|nl<|E<|cd aa (fun Z=> ?_) fun Z=> ?_
 exact ag fun A=>aw<|A<|rt<|br<|tr<|tr<|br<|tr<|aV aa<|⟨by show bQ false =_; rw [sN (i:=i) ab (Bx ab)],a⟩
 have aj:iP (s.getD i 0)=true :=S5 ab ab
 exact aM<|bn<|q<|rg aa<|ak (.int .i64 i)<|p (ad aa aa<|bX ab)<|p aA<|nl<|tn<|⟨_,ab,i+1,ab,(fun j I=>by rcases fi j i with h | h <;> first | exact hp j h | (rw [show j=i by omega]; exact aj)),a,aa,aa,aa⟩
 exact ext<|ba<|ba<|be<|O<|ag fun q=>p aA<|nl<|q<|rt<|aV aa<|⟨by show bQ true =_; rw [uA (fun j I=>hp j ab)],a⟩
theorem yO (s:List UInt8) (w:World) (hs:s.length≤1048576):
 bm ay 180 (bf [str s]) w (fun v w'=>v=Ko (bA s)∧Wk w w'):=by
 refine enter func180 aa ntmps180 aa<|ag fun am=>p aA<|p aA<|p aA<|aw<|am<|ag fun au=>e<|m4 im fun ae bh bl aP aK=> ?_
 have a4:bq bh w.heap.size 5 1 (.slice (some ⟨ae,0,none⟩) 0 0) (([]:List UInt8)).length (U8<|([]:List UInt8)):=aK _ ab
 refine aw<|au<|ag fun av=>aw<|av<|aB fun ax=>aH<|lp (fun ah O C=> ∃ (i:Nat) (acc:List UInt8) (Z:Value),(i≤s.length∧acc.length≤i)∧(bq C w.heap.size 5 1 (Z) (acc).length<|U8<|acc)∧(Wk w C)∧(jj acc (s.drop i)=bA s)∧(O 0=str s)∧(O 6=Z)∧(O 7= .int .i64 i)∧(s.length - i=ah)) _ ⟨0,[],.slice (some ⟨ae,0,none⟩) 0 0,(by simp),a4,aP.md,aa,aa,aa,aa,aa⟩ ?_
 rintro ah O C ⟨i,acc,Z,hi,A,q,hd,a5,a6,a8,rfl⟩
 refine fx 0 a5<|fx 6 a6<|fx 7 a8 ?_
 obtain ⟨I,J,rfl⟩:=cB A
 refine aB fun az=>ag fun aD=>ak (.int .i64 i)<|ak (str s)<|p (cz u9 aa aa)<|p (lt aa aa)<|nl<|aD<|cd aa (fun aS=> ?_) fun aS=> ?_
 refine aM<|az<|aH<|aB fun V=>ag fun aF=>ak (str s)<|ak (.int .i64 i)<|p (eQ u9 aa aa ab)<|p (bJ aa aa)<|nl<|aF<|cd aa (fun aU=> ?_) fun aU=> ?_
 have aR:(s.getD i 0).toNat=47:=ab
 refine aB fun G=> ?_
 have a:(fun w'=>Wk C w') C.drew:=(Md.refl _ _).drew
 exact bI (fun w'=>Wk C w') aa wide a<|bF 0 aa (.slice I acc.length J) a<|bF 2 aa (str s) a<|bF 3 aa (.int .i64 i) a<|aC 4 aa (fun _ _=>bE ((i+1:Nat):Int) aa aa<|bj ab ab) a<|aC 5 aa (fun _ _=>mg u9 aa aa ab) a<|aC 1 aa (fun w' aQ=>m8 m5 aa ((a7<|aW A aQ).2)<|aa) a<|aC 6 aa (fun _ _=>aA) a<|aC 7 aa (fun _ _=>aA) a<|aC 8 aa (fun _ _=>aA) a<|aC 9 aa (fun _ _=>aA) a<|hn aj<|G<|rt<|tr<|br<|tr<|br<|tr<|f4 aa aa aa aa aa<|⟨by rw [← hd,drop_cons 0 (by omega :i < s.length),DS aR]; rfl,Md.trans q (Md.refl _ _).drew⟩
 refine aM<|V ?_
 refine ed (fun U ac=> ∃ (k:Nat),(k < s.length∧i≤k∧k≤i+1)∧(Wk w ac)∧(bq ac w.heap.size 5 1 (.slice I acc.length J) (acc).length<|U8<|acc)∧(jj (acc++ [s.getD k 0]) (s.drop<|k+1)=bA s)∧(U 0=str s)∧(U 6= .slice I acc.length J)∧(U 7= .int .i64 k)) ?_ ?_
 refine ag fun G=>ak (str s)<|ak (.int .i64 i)<|p (eQ u9 aa aa ab)<|p (bJ aa aa)<|nl<|G<|cd aa (fun aV=> ?_) fun aV=> ?_
 have M:(s.getD i 0).toNat=92:=ab
 refine ag fun an=>ak (.int .i64 i)<|p (bE ((i+1:Nat):Int) aa aa<|bj ab ab)<|aw<|an<|aB fun ao=>ag fun aq=>p mv<|ak (str s)<|p (cz u9 aa aa)<|p (ge aa aa)<|nl<|aq<|cd aa (fun aX=> ?_) fun aX=> ?_
 exact ag fun E=>p aA<|p aA<|p aA<|aw<|E<|rt<|tr<|tr<|br<|tr<|br<|tr<|f4 aa aa aa aa aa<|⟨by rw [← hd,drop_cons 0 (by omega :i < s.length),gU ab,DP M]; rfl,q⟩
 refine aM<|ao<|ag fun E=>ak (str s)<|p mv<|p (eQ u9 aa aa ab)<|p (db aa aa)<|p mv<|gs (t:=37) aa (fun a0=> ?_) fun a0=> ?_
 refine aI aa (aT (str s) aa)<|aI aa mv<|aI aa (eQ u9 aa aa ab)<|aI aa (db aa aa)<|p (bB aa)<|p mv<|gs (t:=43) aa (fun a1=> ?_) fun a1=> ?_
 refine aI aa (aT (str s) aa)<|aI aa mv<|aI aa (eQ u9 aa aa ab)<|aI aa (db aa aa)<|p (bB aa)<|nl<|E<|cd aa (fun aY=> ?_) fun aY=> ?_
 exact ag fun ar=>p aA<|p aA<|p aA<|aw<|ar<|rt<|tr<|br<|tr<|br<|tr<|f4 aa aa aa aa aa<|⟨by rw [← hd,drop_cons 0 (by omega :i < s.length),drop_cons 0 (by omega :i+1 < s.length),DQ M (by rw [ll]; exact decide_eq_false ab)]; rfl,q⟩
 exact aM<|tn<|⟨i+1,ab,q,A,(by rw [← hd,drop_cons 0 (by omega :i < s.length),drop_cons 0 (by omega :i+1 < s.length),vQ M (by rw [ll]; exact decide_eq_true ab)]),aa,aa,aa⟩
 exact aE aa<|aE aa<|aE aa<|aE aa<|p (bp aa)<|nl<|E<|cf aa<|aM<|tn<|⟨i+1,ab,q,A,(by rw [← hd,drop_cons 0 (by omega :i < s.length),drop_cons 0 (by omega :i+1 < s.length),vQ M (by rw [ll]; exact decide_eq_true ab)]),aa,aa,aa⟩
 exact aE aa<|aE aa<|aE aa<|aE aa<|p (bp aa)<|p mv<|aE aa<|aE aa<|aE aa<|aE aa<|p (bp aa)<|nl<|E<|cf aa<|aM<|tn<|⟨i+1,ab,q,A,(by rw [← hd,drop_cons 0 (by omega :i < s.length),drop_cons 0 (by omega :i+1 < s.length),vQ M (by rw [ll]; exact decide_eq_true ab)]),aa,aa,aa⟩
 exact aM<|tn<|⟨i,ab,q,A,(by rw [← hd,drop_cons 0 (by omega :i < s.length),DR ab ab]),aa,aa,aa⟩
 rintro U ac ⟨k,hk,aN,al,aZ,a9,bb,bc⟩
 refine fx 0 a9<|fx 6 bb<|fx 7 bc<|ag fun G=>ak (.slice I acc.length J)<|ak (str s)<|ak (.int .i64 k)<|p (eQ u9 aa aa ab)<|e<|fZ im aa aa fun bi bg bk Y aG=> ?_
 have ai:Wk w bg:=Md.trans aN Y.md
 refine e<|ap im (aW al Y.md) aa (by have :=ai.size; omega) aa (aJ.dX aG) (aa) (aa) ab ab fun bd bt a2 aO bs bo=> ?_
 have aL:=Wk.own ai (aW al Y.md) aO<|cA _
 have a3:=qL a2
 exact aw<|G<|rg aa<|ak (.int .i64 k)<|p (bE ((k+1:Nat):Int) aa aa<|bj ab ab)<|p aA<|nl<|bn<|tn<|⟨_,ab,k+1,acc++ [s.getD k 0],bd,(by rw [bL,fA]; omega),a3,aL,aZ,aa,aa,aa,aa⟩
 refine ext<|ba<|ba<|be<|ax<|ag fun V=>ak (.slice I acc.length J)<|p (m8 m5 aa ((a7 A).2)<|aa)<|p aA<|p aA<|p aA<|aw<|V<|rt<|f4 aa aa aa aa aa ?_
 exact ⟨by rw [← hd,gU ab,zh]; rfl,q⟩
theorem Xi (s:List UInt8) (w:World) (hs:s.length≤1048576):
 bm ay 177 (bf [str s]) w (fun v w'=>v= .tuple #[str (letE s).1,.int .i64 (letE s).2]∧Wk w w'):=by
 refine enter func177 aa ntmps177 aa<|ag fun aS=>p aA<|aw<|aS<|ag fun aY=>ak (str s)<|e<|cl uC (vv s _ hs) aa fun v10 bE bb=> ?_
 obtain ⟨rfl,ai⟩:=bb
 refine aw<|aY<|aB fun aZ=>ag fun aP=>ak (str s)<|p (cz u9 aa aa)<|p (bJ aa aa)<|p mv<|gs (t:=14) aa (fun ax=> ?_) fun ax=> ?_
 exact aE aa<|aE aa<|p (bB aa)<|nl<|aP<|ct aa<|ag fun V=>p aA<|aw<|V<|rt<|tr<|f2 aa aa aa<|⟨by show gz #[str [],.int .i64 21]=_; unfold letE; rw [if_pos (.inl<|wx.1 ab)]; rfl,ai⟩
 refine aI aa mv<|aI aa (no aa)<|p (bp aa)<|nl<|aP<|cb aa (fun al=> ?_) fun al=> ?_
 exact ag fun V=>p aA<|aw<|V<|rt<|tr<|f2 aa aa aa<|⟨by show gz #[str [],.int .i64 21]=_; unfold letE; rw [if_pos (.inr<|by simpa using al)]; rfl,ai⟩
 refine aM<|aZ<|ag fun V=>e<|m4 im fun aQ aR bC a9 a5=> ?_
 have bl:bq aR w.heap.size 5 1 (.slice (some ⟨aQ,0,none⟩) 0 0) (([]:List UInt8)).length (U8<|([]:List UInt8)):=a5 _<|by have :=ai.size; omega
 have a6:Wk w aR:=Md.trans ai a9.md
 refine aw<|V<|aB fun a0=>ag fun a1=>p aA<|nl<|a1<|aH<|lp (fun Y ao an=> ∃ (i:Nat) (aF:Value),(i≤s.length)∧(bq an w.heap.size 5 1 (aF) (lets<|s.take i).length<|U8<|lets<|s.take i)∧(Wk w an)∧(ao 0=str s)∧(ao 5=aF)∧(ao 6= .int .i64 i)∧(s.length - i=Y)) _ ⟨0,.slice (some ⟨aQ,0,none⟩) 0 0,ab,bl,a6,aa,aa,aa,aa⟩ ?_
 rintro Y ao an ⟨i,aF,hi,A,Z,bo,br,bs,rfl⟩
 refine fx 0 bo<|fx 5 br<|fx 6 bs ?_
 obtain ⟨C,E,rfl⟩:=cB A
 have bi:=Cx<|s.take i
 rw [dR] at bi
 refine aB fun a2=>ag fun a3=>ak (.int .i64 i)<|ak (str s)<|p (cz u9 aa aa)<|p (lt aa aa)<|nl<|a3<|cd aa (fun bg=> ?_) fun bg=> ?_
 refine aM<|a2<|aB fun M=>aH<|ag fun aU=>p aA<|nl<|aU<|aB fun aL=>ag fun aV=>aw<|aV<|aH ?_
 refine lp (fun Y O ah=> ∃ (j:Nat) (ob:Bool),(j≤(lets<|s.take i).length)∧(ob=decide (s.getD i 0∈(lets<|s.take i).take j))∧(Wk an ah)∧(O 0=str s)∧(O 5= .slice C (lets<|s.take i).length E)∧(O 6= .int .i64 i)∧(O 7= .bool ob)∧(O 8= .int .i64 j)∧((lets<|s.take i).length - j=Y)) _ ⟨0,false,ab,aa,(Md.refl _ _),aa,aa,aa,aa,aa,aa⟩ ?_
 rintro Y O ah ⟨j,ob,bD,am,a,bt,bu,bv,bw,bx,rfl⟩
 refine fx 0 bt<|fx 5 bu<|fx 6 bv<|fx 7 bw<|fx 8 bx<|aB fun aX=>ag fun aN=>ak (.int .i64 j)<|ak (.slice C (lets<|s.take i).length E)<|p (bK mP aa aa)<|p (lt aa aa)<|p mv<|gs (t:=29) aa (fun bj=> ?_) fun bj=> ?_
 refine aI aa (aT (.bool ob) aa)<|aI aa (no aa)<|p (bB aa)<|nl<|aN<|cb aa (fun av=> ?_) fun av=> ?_
 have bk:¬s.getD i 0∈(lets<|s.take i).take j:=of_decide_eq_false<|by rw [← am]; simpa using av
 refine aM<|aX<|aB fun U=>aH ?_
 have q:(fun w'=>Wk ah w') ah.drew:=(Md.refl _ _).drew
 exact bI (fun w'=>Wk ah w') aa wide q<|bF 0 aa (.slice C (lets<|s.take i).length E) q<|bF 1 aa (.int .i64 j) q<|aC 2 aa (fun _ _=>a8 l5 aa aa ab<|aJ.ok ((a7<|aW A a).2)<|pU ab) q<|aC 3 aa (fun w' bc=>ld pw aa<|Wk.aO bc<|pT (i:=j) (a7<|aW A a).2 ab) q<|bF 4 aa (str s) q<|bF 5 aa (.int .i64 i) q<|aC 6 aa (fun _ _=>eQ u9 aa aa ab) q<|aC 7 aa (fun _ _=>bJ aa aa) q<|aC 8 aa (fun _ _=>aA) q<|hn aj<|bn<|U<|rg aa<|ak (.int .i64 j)<|p (ad aa aa<|bX ab)<|p aA<|nl<|tn<|⟨_,ab,j+1,decide (((lets<|s.take i).getD j 0).toNat=((s.getD i 0).toNat:Int)),ab,(decide_eq_decide.2<|by rw [VO ab]; constructor <;> intro h <;> first | exact .inr (k8.1 ab) | (rcases h with h | h <;> first | exact absurd h bk | (rw [h]))),(Md.trans a (Md.refl _ _).drew),aa,aa,aa,aa,aa,aa⟩
 have ae:ob=decide (s.getD i 0∈lets (s.take i)):=by
  have h1:ob=true :=by simpa using av
  rw [h1] at am
  rw [h1]; exact (decide_eq_true<|Nn<|of_decide_eq_true am.symm).symm
 refine ext<|ba<|ba<|be<|aL<|ag fun U=>ak (.bool ob)<|p (no aa)<|nl<|U<|cb aa (fun I=> ?_) fun I=> ?_
 have J:¬s.getD i 0∈lets (s.take i):=of_decide_eq_false<|by rw [← ae]; simpa using I
 refine rg aa<|ak (.slice C (lets<|s.take i).length E)<|ak (str s)<|ak (.int .i64 i)<|p (eQ u9 aa aa ab)<|e<|fZ im aa aa fun a4 aK bd G aq=> ?_
 have ac:Wk w aK:=Md.trans (Md.trans Z a) G.md
 refine e<|ap im (aW (aW A a) G.md) aa (by have :=ac.size; omega) aa (aJ.dX aq) (aa) (aa) ab ab fun aG bA az au bz bh=> ?_
 have ar:=Wk.own ac (aW (aW A a) G.md) au<|cA _
 have aD:=qL az
 exact p aA<|nl<|bn<|M<|rg aa<|ak (.int .i64 i)<|p (ad aa aa<|bX ab)<|p aA<|nl<|tn<|⟨_,ab,i+1,aG,ab,(by rw [qF ab,if_neg J]; exact aD),ar,aa,aa,aa,aa⟩
 have J:s.getD i 0∈lets (s.take i):=of_decide_eq_true<|by rw [← ae]; simpa using I
 exact aM<|bn<|M<|rg aa<|ak (.int .i64 i)<|p (ad aa aa<|bX ab)<|p aA<|nl<|tn<|⟨_,ab,i+1,.slice C (lets<|s.take i).length E,ab,(by rw [qF ab,if_pos J]; exact aW A a),(Md.trans Z a),aa,aa,aa,aa⟩
 have ae:ob=decide (s.getD i 0∈lets (s.take i)):=by rw [am,eM ab]
 refine aE aa<|aE aa<|p (bp aa)<|nl<|aN<|cf aa<|ext<|ba<|ba<|be<|aL<|ag fun U=>ak (.bool ob)<|p (no aa)<|nl<|U<|cb aa (fun I=> ?_) fun I=> ?_
 have J:¬s.getD i 0∈lets (s.take i):=of_decide_eq_false<|by rw [← ae]; simpa using I
 refine rg aa<|ak (.slice C (lets<|s.take i).length E)<|ak (str s)<|ak (.int .i64 i)<|p (eQ u9 aa aa ab)<|e<|fZ im aa aa fun a4 aK bd G aq=> ?_
 have ac:Wk w aK:=Md.trans (Md.trans Z a) G.md
 refine e<|ap im (aW (aW A a) G.md) aa (by have :=ac.size; omega) aa (aJ.dX aq) (aa) (aa) ab ab fun aG bA az au bz bh=> ?_
 have ar:=Wk.own ac (aW (aW A a) G.md) au<|cA _
 have aD:=qL az
 exact p aA<|nl<|bn<|M<|rg aa<|ak (.int .i64 i)<|p (ad aa aa<|bX ab)<|p aA<|nl<|tn<|⟨_,ab,i+1,aG,ab,(by rw [qF ab,if_neg J]; exact aD),ar,aa,aa,aa,aa⟩
 have J:s.getD i 0∈lets (s.take i):=of_decide_eq_true<|by rw [← ae]; simpa using I
 exact aM<|bn<|M<|rg aa<|ak (.int .i64 i)<|p (ad aa aa<|bX ab)<|p aA<|nl<|tn<|⟨_,ab,i+1,.slice C (lets<|s.take i).length E,ab,(by rw [qF ab,if_pos J]; exact aW A a),(Md.trans Z a),aa,aa,aa,aa⟩
 exact ext<|ba<|ba<|be<|a0<|ag fun M=>ak (.slice C (lets<|s.take i).length E)<|p (m8 m5 aa ((a7 A).2)<|aa)<|p aA<|aw<|M<|rt<|f2 aa aa aa<|⟨by show gz #[str (lets<|s.take i),.int .i64 0]=_; unfold letE; rw [if_neg (fun h=>h.elim (fun h=>by rw [h] at ax; exact ax aa) fun h=>by rw [h] at al; cases al),show s.take i=s from eM ab]; rfl,Z⟩
end Go.Hb
section
namespace Go.Hb
open Go.Hb.gX
theorem YI {L:List Nat} (h:¬L.length≤64) (h2:L.length≤65) {M:List Nat} (h1:L=M.take 65) (x:Nat):L=(M++ [x]).take 65:=by
 have h3:=congrArg jz h1
 rw [dR] at h3
 rw [List.take_append_of_le_length ab,← h1]
theorem YJ {L:List Nat} (h:L.length≤64) {M:List Nat} (h1:L=M.take 65) (x:Nat):L++ [x]=(M++ [x]).take 65:=by
 have h3:=congrArg jz h1
 rw [dR] at h3
 rw [eM (by rw [bL,fA]; omega)]
 rw [eM ab] at h1; rw [h1]
theorem Y1 {l out:List Nat} {nx:Int} (h:qd l out nx) (q:nx < 65536):out.length≤65536:=by
 have h1:∀ x∈out,x < 65536:=fun x a=>by have :=((h.2 x).1 a).2; omega
 have h2:out.Nodup:=h.1.imp fun i=>by omega
 have h3:=List.Nodup.length_le_of_subset h2 fun x a=>List.mem_range.2<|h1 x a
 simpa using h3
theorem Di (b:UInt8) (w:World):
 bm ay 273 (bf [.int .u8 b.toNat]) w (fun v w'=>v= .bool (jb b)∧Wk w w'):=by
 refine enter func273 aa ntmps273 aa<|ag fun i=>aw<|i<|ag fun a=>ak (.int .u8 b.toNat)<|p (ge aa aa)<|p mv<|gs (t:=5) aa (fun C=> ?_) fun C=> ?_
 refine aI aa (aT (.int .u8 b.toNat) aa)<|aI aa (le aa aa)<|p (bB aa)<|p mv<|gs (t:=9) aa (fun E=> ?_) fun E=> ?_
 refine aI aa (aT (.int .u8 b.toNat) aa)<|aI aa (db aa aa)<|p (bB aa)<|p mv<|gs (t:=13) aa (fun q=> ?_) fun q=> ?_
 refine aI aa (aT (.int .u8 b.toNat) aa)<|aI aa (db aa aa)<|p (bB aa)<|p mv<|gs (t:=17) aa (fun A=> ?_) fun A=> ?_
 exact aI aa (aT (.int .u8 b.toNat) aa)<|aI aa (db aa aa)<|p (bB aa)<|aw<|a<|rt<|aV aa<|⟨by show bQ (decide _)=_; rw [oQ]; exact bv (by constructor <;> intro h <;> first | exact ⟨ab,ab,ab,ab,h⟩ | exact h.2.2.2.2),Md.refl _ _⟩
 exact aE aa<|aE aa<|p (bp aa)<|aw<|a<|rt<|aV aa<|⟨by show bQ false =_; rw [oQ,decide_eq_false ab],Md.refl _ _⟩
 exact aE aa<|aE aa<|p (bp aa)<|p mv<|aE aa<|aE aa<|p (bp aa)<|p aA<|nl<|a<|rt<|aV aa<|⟨by show bQ false =_; rw [oQ,decide_eq_false ab],Md.refl _ _⟩
 exact aE aa<|aE aa<|p (bp aa)<|p mv<|aE aa<|aE aa<|p (bp aa)<|p mv<|aE aa<|aE aa<|p (bp aa)<|aw<|a<|rt<|aV aa<|⟨by show bQ false =_; rw [oQ,decide_eq_false ab],Md.refl _ _⟩
 exact aE aa<|aE aa<|p (bp aa)<|p mv<|aE aa<|aE aa<|p (bp aa)<|p mv<|aE aa<|aE aa<|p (bp aa)<|p mv<|aE aa<|aE aa<|p (bp aa)<|p aA<|nl<|a<|rt<|aV aa<|⟨by show bQ false =_; rw [oQ,decide_eq_false ab],Md.refl _ _⟩
theorem LV (kind:Nat) (s:List UInt8) (w:World) (hk:kind=1∨kind=2∨kind=3) (hs:s.length≤1048576):
 bm ay 258 (bf [au kind,str s]) w (fun v w'=>v=bN (eH kind s)∧Wk w w'):=by
 refine enter func258 aa ntmps258 aa<|ag fun ah=>aw<|ah<|aB fun al=>ag fun am=>ak (au kind)<|nl<|am<|aH<|ag fun an=>p (bJ aa aa)<|p aA<|nl<|an<|cd aa (fun av=> ?_) fun av=> ?_
 refine aB fun M=>ag fun q=>ak (str s)<|p (cz u9 aa aa)<|p (db aa aa)<|p mv<|gs (t:=15) aa (fun aF=> ?_) fun aF=> ?_
 exact aE aa<|aE aa<|aE aa<|aE aa<|p (bB aa)<|nl<|q<|ct aa<|ag fun i=>aw<|i<|rt<|tr<|br<|tr<|aV aa<|⟨by rw [sY ab (fun h=>by omega) (fun h=>by omega)]; rfl,Md.refl _ _⟩
 refine aI aa (aT (str s) aa)<|aI aa (iY 0 u9 aa aa ab)<|eg aa aa aa<|cl AK (Di (s.getD 0 0) _) aa fun aJ aL ao=> ?_
 obtain ⟨rfl,Z⟩:=ao
 refine aI aa (no aa)<|p (bp aa)<|nl<|q<|cb aa (fun G=> ?_) fun G=> ?_
 exact ag fun i=>aw<|i<|rt<|tr<|br<|tr<|aV aa<|⟨by rw [sY ab (fun h=>by rw [h.2.2] at G; cases G) (fun h=>by omega)]; rfl,Z⟩
 exact aM<|M<|ag fun i=>ak (str s)<|p (iY 0 u9 aa aa ab)<|p (lN u3 pV aa<|bX<|by have :=iT (s.getD 0 0); omega)<|p aA<|nl<|i<|rt<|br<|tr<|aV aa<|⟨by rw [HJ ⟨ab,ab,by simpa using G⟩]; rfl,Z⟩
 refine ag fun M=>p (bJ aa aa)<|aw<|M<|cd aa (fun ax=> ?_) fun ax=> ?_
 refine aB fun q=>ag fun i=>ak (str s)<|p (cz u9 aa aa)<|p (db aa aa)<|nl<|i<|cd aa (fun aD=> ?_) fun aD=> ?_
 exact ag fun C=>aw<|C<|rt<|tr<|br<|tr<|aV aa<|⟨by rw [sY ab (fun h=>by omega) (fun h=>by omega)]; rfl,Md.refl _ _⟩
 refine aM<|q<|ag fun C=>ak (str s)<|p (iY 0 u9 aa aa ab)<|e<|cl AK (Di (s.getD 0 0) _) aa fun v31 aN ap=> ?_
 obtain ⟨rfl,O⟩:=ap
 refine aw<|C<|ag fun E=>ak (str s)<|p (iY 1 u9 aa aa ab)<|e<|cl AK (Di (s.getD 1 0) _) aa fun aK V aq=> ?_
 obtain ⟨rfl,U⟩:=aq
 refine aw<|E<|aB fun ai=>ag fun Y=>p mv<|p (no aa)<|p mv<|gb (t:=37) aa (fun J=> ?_) fun J=> ?_
 exact aE aa<|aE aa<|p (bB aa)<|nl<|Y<|ct aa<|ag fun A=>aw<|A<|rt<|tr<|br<|tr<|aV aa<|⟨by rw [sY ab (fun h=>by omega) (fun h=>by rw [h.2.2.1] at J; cases J)]; rfl,Md.trans O U⟩
 refine aI aa mv<|aI aa (no aa)<|p (bp aa)<|nl<|Y<|cb aa (fun I=> ?_) fun I=> ?_
 exact ag fun A=>aw<|A<|rt<|tr<|br<|tr<|aV aa<|⟨by rw [sY ab (fun h=>by omega) (fun h=>by rw [h.2.2.2] at I; cases I)]; rfl,Md.trans O U⟩
 refine aM<|ai<|aB fun A=> ?_
 have g0:=iT<|s.getD 0 0
 have g1:=iT<|s.getD 1 0
 have a:(fun w'=>Wk V w') V.drew:=(Md.refl _ _).drew
 exact bI (fun w'=>Wk V w') aa wide a<|bF 0 aa (str s) a<|aC 1 aa (fun _ _=>iY 0 u9 aa aa ab) a<|aC 2 aa (fun _ _=>lN u3 pV aa<|bX<|by have :=iT (s.getD 0 0); omega) a<|aC 3 aa (fun _ _=>oM ((256 *(s.getD 0 0).toNat:Nat):Int) aa aa<|bj ab ab) a<|bF 4 aa (str s) a<|aC 5 aa (fun _ _=>iY 1 u9 aa aa ab) a<|aC 6 aa (fun _ _=>lN u3 pV aa<|bX<|by have :=iT (s.getD 1 0); omega) a<|aC 7 aa (fun _ _=>bE ((256 *(s.getD 0 0).toNat+(s.getD 1 0).toNat:Nat):Int) aa aa<|bj ab ab) a<|aC 8 aa (fun _ _=>aA) a<|hn aj<|A<|rt<|br<|tr<|aV aa<|⟨by rw [HK ⟨ab,ab,by simpa using J,by simpa using I⟩]; rfl,(Md.trans O U).drew⟩
 refine aM<|bn<|al<|ag fun q=>ak (str s)<|e<|cl ry (rS s 65535 _ hs az) aa fun v51 aO ar=> ?_
 obtain ⟨rfl,ac⟩:=ar
 have aG:=JP s
 refine p mv<|p (xt aa aa)<|p (xt aa aa)<|p aA<|aw<|q<|aB fun i=>ag fun C=>p mv<|p (db aa aa)<|nl<|C<|cd aa (fun ae=> ?_) fun ae=> ?_
 exact ag fun E=>aw<|E<|rt<|tr<|aV aa<|⟨by rw [Bz ab]; unfold bN; exact iv (by have h1:=ae; unfold dZ at*; split <;> first | rfl | (rename_i h2; rw [if_neg h2] at h1; exact absurd aa h1)),ac⟩
 exact aM<|i<|ag fun E=>p mv<|aw<|E<|rt<|aV aa<|⟨by rw [Bz ab]; rfl,ac⟩
theorem Xp (kind:Nat) (s:List UInt8) (w:World) (hk:kind=1∨kind=2∨kind=3) (hs:s.length≤1048576):
 bm ay 232 (bf [au kind,str s]) w (fun v w'=>v= .tuple #[bN (gN kind s).1,au ((gN kind s).2)]∧Wk w w'):=by
 refine enter func232 aa ntmps232 aa<|ag fun q=>p aA<|aw<|q<|aB fun A=>aB fun C=>rg aa<|ak (au kind)<|p (lt aa aa)<|p mv<|gs (t:=9) aa (fun h=>absurd h ab) fun U=>aI aa (aT (au kind) aa)<|aI aa (gt aa aa)<|p (bp aa)<|nl<|C<|cd aa (fun h=>absurd h ab) fun O=>aM<|A<|ag fun E=>ak (au kind)<|ak (str s)<|e<|cl F4 (LV kind s _ hk hs) aa fun V Y J=> ?_
 obtain ⟨rfl,i⟩:=J
 refine aw<|E<|aB fun G=>ag fun I=>p mv<|p (bJ aa aa)<|nl<|I<|cd aa (fun M=> ?_) fun M=> ?_
 exact ag fun a=>p aA<|aw<|a<|rt<|tr<|f2 aa aa aa<|⟨by unfold gN; rw [if_pos (show eH kind s=0 by omega)]; rfl,i⟩
 exact aM<|G<|ag fun a=>p mv<|p aA<|p aA<|nl<|a<|rt<|f2 aa aa aa<|⟨by unfold gN; rw [if_neg (show ¬eH kind s=0 by omega)]; rfl,i⟩
theorem WB (kind:Nat) (s:List UInt8) (w:World) (hk:kind=1∨kind=2∨kind=3) (hs:s.length≤1048576):
 bm ay 261 (bf [au kind,str s]) w (fun v w'=>bq w' w.heap.size 9 1 (v) (dF kind s).length ((dF kind s).map str)∧Wk w w'):=by
 refine enter func261 aa ntmps261 aa<|ag fun aK=>aw<|aK<|ag fun aL=>p aA<|nl<|aL<|aB fun aN=>ag fun aO=>ak (au kind)<|p (bJ aa aa)<|nl<|aO<|cd aa (fun aY=> ?_) fun aY=> ?_
 refine ag fun ah=>aw<|ah<|aB fun ai=>ag fun aj=>aw<|aj<|aH<|lp (fun V M E=> ∃ (i A:Nat) (a:List (List UInt8)) (q:Value),((i≤s.length∧A≤i∧a.length≤i∧a++fJ 44 ((s.take i).drop A) (s.drop i)=fJ 44 [] s)∨(i=s.length+1∧a=fJ 44 [] s))∧(bq E w.heap.size 9 1 (q) (a).length<|(a).map str)∧(Wk w E)∧(M 0=au kind)∧(M 1=str s)∧(M 5=q)∧(M 6=au A)∧(M 7=au i)∧(s.length+1 - i=V)) _ ⟨0,0,[],.slice none 0 0,(.inl ⟨ab,ab,by simp,aa⟩),(dz _ _ _ _),(Md.refl _ _),aa,aa,aa,aa,aa,aa⟩ ?_
 rintro V M E ⟨i,A,a,q,hi,C,I,a8,a9,bb,bc,bd,rfl⟩
 refine fx 0 a8<|fx 1 a9<|fx 5 bb<|fx 6 bc<|fx 7 bd<|aB fun al=>ag fun U=>ak (au i)<|ak (str s)<|p (cz u9 aa aa)<|p (le aa aa)<|nl<|U<|cd aa (fun aZ=> ?_) fun aZ=> ?_
 refine aM<|al<|aB fun G=>aH<|aB fun ac=> ?_
 obtain ⟨bF,bH,bG,hd⟩:=hi.resolve_right fun h=>by omega
 refine rg aa<|ak (au i)<|ak (str s)<|p (cz u9 aa aa)<|p (bJ aa aa)<|p mv<|gs (t:=22) aa (fun a3=> ?_) fun a3=> ?_
 have bI:a++ [(s.take i).drop A]=fJ 44 [] s:=by rw [← hd,gU (show s.length≤i by omega),fJ]
 refine aE aa<|aE aa<|aE aa<|aE aa<|p (bB aa)<|nl<|ac<|ct aa<|ag fun ae=>ak (q)<|ak (str s)<|ak (au A)<|ak (au i)<|p (me u9 aa aa aa ab)<|e<|fZ fQ aa aa fun aP aD aX J am=> ?_
 have Y:Wk w aD:=Md.trans I J.md
 refine e<|ap fQ (aW C J.md) aa (by have :=Y.size; omega) aa (aJ.dX am) (aa) (aa) ab ab fun aC bw ax ao bu a2=> ?_
 have an:=Wk.own Y (aW C J.md) ao<|cA _
 have az:=mH ax
 exact aw<|ae<|rg aa<|ak (au i)<|p (bE ((i+1:Nat):Int) aa aa<|bj ab ab)<|p aA<|nl<|bn<|G<|rg aa<|ak (au i)<|p (bE ((i+1:Nat):Int) aa aa<|bj ab ab)<|p aA<|nl<|tn<|⟨_,ab,i+1,i+1,a++ [(s.take i).drop A],aC,(.inr ⟨ab,bI⟩),az,an,aa,aa,aa,aa,aa,aa⟩
 refine aI aa (aT (str s) aa)<|aI aa (aT (au i) aa)<|aI aa (eQ u9 aa aa ab)<|aI aa (bJ aa aa)<|p (bp aa)<|nl<|ac<|cd aa (fun ar=> ?_) fun ar=> ?_
 have bI:a++ [(s.take i).drop A]++fJ 44 [] (s.drop<|i+1)=fJ 44 [] s:=by rw [← hd,drop_cons 0 (show i < s.length by omega),fJ,if_pos (k8.1 (by have bA:(44:UInt8).toNat=44:=rfl; omega)),dD]; rfl
 refine ag fun ae=>ak (q)<|ak (str s)<|ak (au A)<|ak (au i)<|p (me u9 aa aa aa ab)<|e<|fZ fQ aa aa fun aP aD aX J am=> ?_
 have Y:Wk w aD:=Md.trans I J.md
 refine e<|ap fQ (aW C J.md) aa (by have :=Y.size; omega) aa (aJ.dX am) (aa) (aa) ab ab fun aC bw ax ao bu a2=> ?_
 have an:=Wk.own Y (aW C J.md) ao<|cA _
 have az:=mH ax
 exact aw<|ae<|rg aa<|ak (au i)<|p (bE ((i+1:Nat):Int) aa aa<|bj ab ab)<|p aA<|nl<|bn<|G<|rg aa<|ak (au i)<|p (bE ((i+1:Nat):Int) aa aa<|bj ab ab)<|p aA<|nl<|tn<|⟨_,ab,i+1,i+1,a++ [(s.take i).drop A],aC,(.inl ⟨ab,ab,(by rw [bL,fA]; omega),by rw [show (s.take<|i+1).drop (i+1)= [] from gU (by rw [dR]; omega)]; exact bI⟩),az,an,aa,aa,aa,aa,aa,aa⟩
 have bI:a++fJ 44 ((s.take<|i+1).drop A) (s.drop<|i+1)=fJ 44 [] s:=by rw [← hd,drop_cons 0 (show i < s.length by omega),fJ,if_neg (fun h=>by rw [h] at ar; exact ar rfl),← vD 0 ab ab]
 exact aM<|bn<|G<|rg aa<|ak (au i)<|p (bE ((i+1:Nat):Int) aa aa<|bj ab ab)<|p aA<|nl<|tn<|⟨_,ab,i+1,A,a,q,(.inl ⟨ab,ab,ab,bI⟩),C,I,aa,aa,aa,aa,aa,aa⟩
 refine ext<|ba<|ba<|be<|ai<|ag fun G=>ak (q)<|p (cJ (q) aa)<|nl<|G<|rt<|tr<|aV aa ?_
 have av:a=dF kind s:=by unfold dF; rw [if_pos ab]; rcases hi with h | h <;> first | omega | exact h.2
 exact ⟨by rw [← av]; exact C,I⟩
 refine aM<|aN<|aB fun ah=>ag fun ai=>aw<|ai<|aH<|lp (fun V Z E=> ∃ (i:Nat) (a:List (List UInt8)) (q:Value),(i≤s.length+kind∧a.length≤i)∧(a++chunks kind (s.drop i)=chunks kind s)∧(bq E w.heap.size 9 1 (q) (a).length<|(a).map str)∧(Wk w E)∧(Z 0=au kind)∧(Z 1=str s)∧(Z 5=q)∧(Z 8=au i)∧(s.length - i=V)) _ ⟨0,[],.slice none 0 0,(by simp),aa,(dz _ _ _ _),(Md.refl _ _),aa,aa,aa,aa,aa⟩ ?_
 rintro V Z E ⟨i,a,q,hi,hd,C,I,bg,bh,bi,bk,rfl⟩
 refine fx 0 bg<|fx 1 bh<|fx 5 bi<|fx 8 bk<|aB fun aj=>ag fun al=>ak (au i)<|ak (str s)<|p (cz u9 aa aa)<|p (lt aa aa)<|nl<|al<|cd aa (fun a0=> ?_) fun a0=> ?_
 have a5:s.drop i≠[]:=fun h=>by have :=congrArg jz h; rw [fT,gC] at this; omega
 refine aM<|aj<|aB fun U=>aH<|ag fun G=>ak (au i)<|ak (au kind)<|p (bE ((i+kind:Nat):Int) aa aa<|bj ab ab)<|aw<|G ?_
 refine ed (fun O aG=> ∃ (j:Nat),(i≤j∧j≤s.length∧(s.take j).drop i=(s.drop i).take kind)∧(aG=E)∧(O 0=au kind)∧(O 1=str s)∧(O 5=q)∧(O 8=au i)∧(O 9=au j)) ?_ ?_
 refine ag fun ac=>p mv<|ak (str s)<|p (cz u9 aa aa)<|p (gt aa aa)<|nl<|ac<|cd aa (fun a1=> ?_) fun a1=> ?_
 exact rg aa<|ak (str s)<|p (cz u9 aa aa)<|p aA<|nl<|tn<|⟨s.length,(by refine ⟨ab,ab,?_⟩; rw [List.take_length,eM (by rw [fT]; omega)]),aa,aa,aa,aa,aa,aa⟩
 exact aM<|tn<|⟨i+kind,(by refine ⟨ab,ab,?_⟩; rw [si,Nat.add_sub_cancel_left]),aa,aa,aa,aa,aa,aa⟩
 rintro O aG ⟨j,a4,aS,bl,bo,br,bs,bt⟩
 refine fx 0 bl<|fx 1 bo<|fx 5 br<|fx 8 bs<|fx 9 bt ?_
 subst aS
 refine rg aa<|ak (q)<|ak (str s)<|ak (au i)<|ak (au j)<|p (me u9 aa aa aa ab)<|e<|fZ fQ aa aa fun bz bx bC aq aQ=> ?_
 have aF:Wk w bx:=Md.trans I aq.md
 refine e<|ap fQ (aW C aq.md) aa (by have :=aF.size; omega) aa (aJ.dX aQ) (aa) (aa) ab ab fun bv bM a6 aU bK bD=> ?_
 have aR:=Wk.own aF (aW C aq.md) aU<|cA _
 have a7:=mH a6
 exact p aA<|nl<|bn<|U<|rg aa<|ak (au i)<|ak (au kind)<|p (bE ((i+kind:Nat):Int) aa aa<|bj ab ab)<|p aA<|nl<|tn<|⟨_,ab,i+kind,a++ [(s.drop i).take kind],bv,(by rw [bL,fA]; omega),(by rw [← hd,xr (k:=kind) ab a5,dD,sh]; rfl),(by rw [← a4.2.2]; exact a7),aR,aa,aa,aa,aa,aa⟩
 refine ext<|ba<|ba<|be<|ah<|ag fun U=>ak (q)<|p (cJ (q) aa)<|nl<|U<|rt<|aV aa ?_
 have av:a=dF kind s:=by unfold dF; rw [if_neg ab,← hd,gU ab,xu,eh]
 exact ⟨by rw [← av]; exact C,I⟩
theorem Xo (l:List Nat) (a:Option Addr) (c:Nat) (w:World) (A:aJ w.heap a (l.map bN)) (bc:l.length≤1048576) (aQ:∀ x∈l,x < 65536):
 bm ay 262 (bf [.slice a l.length c]) w (fun v w'=>bq w' w.heap.size 3 1 (v) (km l).length ((km l).map bN)∧Wk w w'):=by
 refine enter func262 aa ntmps262 aa<|ag fun am=>aw<|am<|ag fun an=>p aA<|nl<|an<|ag fun ao=>aw<|ao<|aH<|lp (fun O V U=> ∃ (out:List Nat) (last:Int) (G:Value),(-1≤last∧last < 65536)∧(qd l out last)∧(bq U w.heap.size 3 1 (G) (out).length<|(out).map bN)∧(Wk w U)∧(out.length≤65536)∧(V 0= .slice a l.length c)∧(V 3=G)∧(V 4= .int .i64 last)∧((65536 - last).toNat=O)) _ ⟨[],-1,.slice none 0 0,(az),(qd.nil l),(dz _ _ _ _),(Md.refl _ _),(jP _),aa,aa,aa,aa⟩ ?_
 rintro O V U ⟨out,last,G,bd,al,ae,aF,bi,aU,aX,aY,rfl⟩
 refine fx 0 aU<|fx 3 aX<|fx 4 aY<|aH<|ag fun aq=>aw<|aq<|aB fun ar=>ag fun av=>aw<|av<|aH<|lp (fun O J ah=> ∃ (i:Nat) (nx:Int),(i≤l.length∧ -1≤nx)∧(lh l last i nx)∧(Wk w ah)∧(Wk U ah)∧(J 0= .slice a l.length c)∧(J 3=G)∧(J 4= .int .i64 last)∧(J 5= .int .i64 nx)∧(J 6=au i)∧(l.length - i=O)) _ ⟨0,-1,(ab),(lh.nil l last),aF,(Md.refl _ _),aa,aa,aa,aa,aa,aa⟩ ?_
 rintro O J ah ⟨i,nx,hi,C,q,E,aZ,a0,a1,a2,a3,rfl⟩
 refine fx 0 aZ<|fx 3 a0<|fx 4 a1<|fx 5 a2<|fx 6 a3<|aB fun ax=>ag fun aC=>ak (au i)<|ak (.slice a l.length c)<|p (bK np aa aa)<|p (lt aa aa)<|nl<|aC<|cd aa (fun aL=> ?_) fun aL=> ?_
 refine aM<|ax<|aB fun I=>aH<|ag fun M=>ak (.slice a l.length c)<|ak (au i)<|p (a8 kg aa aa ab<|aJ.ok (A.wk q)<|bS ab)<|p (ld bu aa<|yv (f:=bN) (i:=i) 0 (A.wk q) ab)<|ak (.int .i64 last)<|p (gt aa aa)<|p mv<|gs (t:=19) aa (fun aO=> ?_) fun aO=> ?_
 refine aI aa (aT (.int .i64 nx) aa)<|aI aa (lt aa aa)<|aI aa mv<|gs (t:=22) aa (fun aP=> ?_) fun aP=> ?_
 exact aE aa<|aE aa<|aE aa<|aE aa<|aE aa<|aE aa<|aI aa (bB aa)<|p (bB aa)<|nl<|M<|ct aa<|rg aa<|ak (.slice a l.length c)<|ak (au i)<|p (a8 kg aa aa ab<|aJ.ok (A.wk q)<|bS ab)<|p (ld bu aa<|yv (f:=bN) (i:=i) 0 (A.wk q) ab)<|p aA<|nl<|bn<|I<|rg aa<|ak (au i)<|p (bE ((i+1:Nat):Int) aa aa<|bj ab ab)<|p aA<|nl<|tn<|⟨_,ab,i+1,((l.getD i 0:Nat):Int),(ab),(C.take ab ab<|.inl ab),q,E,aa,aa,aa,aa,aa,aa⟩
 refine aI aa (aT (.slice a l.length c) aa)<|aI aa (aT (au i) aa)<|aI aa (a8 kg aa aa ab<|aJ.ok (A.wk q)<|bS ab)<|aI aa (ld bu aa<|yv (f:=bN) (i:=i) 0 (A.wk q) ab)<|aI aa (aT (.int .i64 nx) aa)<|aI aa (lt aa aa)<|aI aa (bp aa)<|p (bB aa)<|nl<|M<|cd aa (fun aN=> ?_) fun aN=> ?_
 exact rg aa<|ak (.slice a l.length c)<|ak (au i)<|p (a8 kg aa aa ab<|aJ.ok (A.wk q)<|bS ab)<|p (ld bu aa<|yv (f:=bN) (i:=i) 0 (A.wk q) ab)<|p aA<|nl<|bn<|I<|rg aa<|ak (au i)<|p (bE ((i+1:Nat):Int) aa aa<|bj ab ab)<|p aA<|nl<|tn<|⟨_,ab,i+1,((l.getD i 0:Nat):Int),(ab),(C.take ab ab<|.inr ab),q,E,aa,aa,aa,aa,aa,aa⟩
 exact aM<|bn<|I<|rg aa<|ak (au i)<|p (bE ((i+1:Nat):Int) aa aa<|bj ab ab)<|p aA<|nl<|tn<|⟨_,ab,i+1,nx,(ab),(C.skip<|.inr ⟨ab,ab⟩),q,E,aa,aa,aa,aa,aa,aa⟩
 exact aE aa<|aE aa<|aE aa<|ec aa<|ec aa<|ec aa<|ec aa<|ec aa<|ec aa<|aE aa<|p (bp aa)<|nl<|M<|cf aa<|aM<|bn<|I<|rg aa<|ak (au i)<|p (bE ((i+1:Nat):Int) aa aa<|bj ab ab)<|p aA<|nl<|tn<|⟨_,ab,i+1,nx,(ab),(C.skip<|.inl ab),q,E,aa,aa,aa,aa,aa,aa⟩
 refine ext<|ba<|ba<|be<|ar<|aB fun I=>ag fun M=>ak (.int .i64 nx)<|p (lt aa aa)<|nl<|M<|cd aa (fun ac=> ?_) fun ac=> ?_
 refine ag fun Y=>ak (G)<|p (cJ (G) aa)<|nl<|Y<|rt<|tr<|br<|tr<|br<|aV aa ?_
 have a4:=lh.done (by rw [show i=l.length by omega] at C; exact C) al ac
 exact ⟨by rw [← a4]; exact aW ae E,q⟩
 obtain ⟨m,hm,aR,bg,aj⟩:=lh.more (by rw [show i=l.length by omega] at C; exact C) al ac
 have bh:=aQ m hm
 refine aM<|I<|ag fun Y=>ak (G)<|ak (.int .i64 nx)<|e<|fZ nm aa aa fun a7 a6 a9 Z aD=> ?_
 have ai:Wk w a6:=Md.trans q Z.md
 refine e<|ap nm (aW (aW ae E) Z.md) aa (by have :=ai.size; omega) aa (aJ.dX aD) (aa) (aa) ab ab fun a5 bl aS aK bk bb=> ?_
 have aG:=Wk.own ai (aW (aW ae E) Z.md) aK<|cA _
 exact aw<|Y<|rg aa<|ak (.int .i64 nx)<|p (cJ (.int .i64 nx) aa)<|nl<|bn<|tn<|⟨_,ab,out++ [m],nx,a5,(ab),aj,(by rw [bL,iu]; subst aR; exact aS),aG,(Y1 aj ab),aa,aa,aa,aa⟩
theorem Ky (kind:Nat) (s:List UInt8) (w:World) (hk:kind=1∨kind=2∨kind=3) (hs:s.length≤1048576):
 bm ay 235 (bf [au kind,str s]) w (fun v w'=>(∃ a,v= .tuple #[a,au ((dY kind s).2)]∧bq w' w.heap.size 3 1 (a) ((dY kind s).1).length (((dY kind s).1).map bN))∧Wk w w'):=by
 refine enter func235 aa ntmps235 aa<|ag fun aF=>p aA<|aw<|aF<|aB fun aN=>aB fun aO=>rg aa<|ak (au kind)<|p (lt aa aa)<|p mv<|gs (t:=12) aa (fun h=>absurd h ab) fun bx=>aI aa (aT (au kind) aa)<|aI aa (gt aa aa)<|p (bp aa)<|nl<|aO<|cd aa (fun h=>absurd h ab) fun bv=>aM<|aN<|aB fun aP=>ag fun aQ=>ak (str s)<|p (cz u9 aa aa)<|p (bJ aa aa)<|nl<|aQ<|cd aa (fun C=> ?_) fun C=> ?_
 refine ag fun am=>p aA<|aw<|am<|rt<|tr<|f2 aa aa aa ?_
 have aD:s= []:=fW ab
 exact ⟨⟨.slice none 0 0,by unfold dY; rw [if_pos aD]; rfl,by unfold dY; rw [if_pos aD]; exact dz _ _ _ _⟩,Md.refl _ _⟩
 refine aM<|aP<|ag fun am=>aw<|am<|aB fun aR=>rg aa<|ak (au kind)<|ak (str s)<|e<|cl PJ (WB kind s _ hk hs) aa fun v21 ai a0=> ?_
 obtain ⟨az,ae⟩:=a0
 obtain ⟨Z,ac,rfl⟩:=cB az
 have ax:=(a7 az).2
 have bz:=Kg (kind:=kind) (s:=s) ab
 refine aw<|aR<|aB fun aS=>ag fun aU=>p aA<|nl<|aU<|aH<|lp (fun ar M aq=> ∃ (i:Nat) (fs:List Nat) (an:Value),(i≤(dF kind s).length∧fs.length≤65)∧(¬∃ x∈(dF kind s).take i,eH kind x=0)∧(fs=(((dF kind s).take i).map<|eH kind).take 65)∧(bq aq ai.heap.size 3 1 (an) (fs).length<|(fs).map bN)∧(Wk ai aq)∧(M 0=au kind)∧(M 1=str s)∧(M 6=an)∧(M 7= .slice Z (dF kind s).length ac)∧(M 8=au i)∧((dF kind s).length - i=ar)) _ ⟨0,[],.slice none 0 0,(by simp),(by rintro ⟨x,ah,_⟩; simp at ah),aa,(dz _ _ _ _),(Md.refl _ _),aa,aa,aa,aa,aa,aa⟩ ?_
 rintro ar M aq ⟨i,fs,an,hi,V,U,J,q,bc,bd,bg,bh,bi,rfl⟩
 refine fx 0 bc<|fx 1 bd<|fx 6 bg<|fx 7 bh<|fx 8 bi<|aB fun aG=>ag fun aK=>ak (au i)<|ak (.slice Z (dF kind s).length ac)<|p (bK eV aa aa)<|p (lt aa aa)<|nl<|aK<|cd aa (fun a3=> ?_) fun a3=> ?_
 refine aM<|aG<|aB fun Y=>aH<|aB fun aj=> ?_
 obtain ⟨E,G,rfl⟩:=cB J
 refine rg aa<|ak (au kind)<|ak (.slice Z (dF kind s).length ac)<|ak (au i)<|p (a8 cH aa aa ab<|aJ.ok (ax.wk q)<|bS ab)<|p (ld bT aa<|ca.get (i:=i) (ax.wk q) ab)<|e<|cl F4 (LV kind ((dF kind s).getD i []) _ hk<|by have :=Kh (kind:=kind) ab (yf (d:= []) (show i < (dF kind s).length by omega)); omega) aa fun bB bC a1=> ?_
 obtain ⟨rfl,I⟩:=a1
 refine aw<|aj<|aB fun O=>ag fun aL=>p mv<|p (bJ aa aa)<|nl<|aL<|cd aa (fun a4=> ?_) fun a4=> ?_
 refine ag fun al=>p aA<|aw<|al<|rt<|tr<|br<|tr<|tr<|br<|tr<|f2 aa aa aa ?_
 have A:dY kind s=([],31):=by unfold dY; rw [if_neg (fun h=>by rw [h] at C; exact C rfl),if_pos ⟨_,yf (d:= []) (show i < (dF kind s).length by omega),ab⟩]
 exact ⟨⟨.slice none 0 0,by rw [A]; rfl,by rw [A]; exact dz _ _ _ _⟩,Md.trans ae<|Md.trans q I⟩
 refine aM<|O<|ag fun al=>ak (.slice E fs.length G)<|p (bK np aa aa)<|p (le aa aa)<|nl<|al<|cd aa (fun a5=> ?_) fun a5=> ?_
 refine rg aa<|ak (.slice E fs.length G)<|p mv<|e<|fZ nm aa aa fun bt bo bu ao aV=> ?_
 have av:Wk ai bo:=Md.trans (Md.trans q I) ao.md
 refine e<|ap nm (aW (aW J I) ao.md) aa (by have :=av.size; omega) aa (aJ.dX aV) (aa) (aa) ab ab fun aE bs a9 aZ bA bw=> ?_
 have aX:=Wk.own av (aW (aW J I) ao.md) aZ<|cA _
 have bb:bq bs ai.heap.size 3 1 (aE) (fs++ [eH kind ((dF kind s).getD i [])]).length ((fs++ [eH kind ((dF kind s).getD i [])]).map bN):=by
  rw [bL,iu]; exact a9
 exact p aA<|nl<|bn<|Y<|rg aa<|ak (au i)<|p (bE ((i+1:Nat):Int) aa aa<|bj ab ab)<|p aA<|nl<|tn<|⟨_,ab,i+1,fs++ [eH kind ((dF kind s).getD i [])],aE,(by rw [bL,fA]; omega),(Bp ab V ab),(by rw [fK _ i [] ab,iu]; exact YJ ab U _),bb,aX,aa,aa,aa,aa,aa,aa⟩
 exact aM<|bn<|Y<|rg aa<|ak (au i)<|p (bE ((i+1:Nat):Int) aa aa<|bj ab ab)<|p aA<|nl<|tn<|⟨_,ab,i+1,fs,.slice E fs.length G,ab,(Bp ab V ab),(by rw [fK _ i [] ab,iu]; exact YI ab ab U _),(aW J I),(Md.trans q I),aa,aa,aa,aa,aa,aa⟩
 refine ext<|ba<|ba<|be<|aS<|aB fun Y=>aB fun aj=> ?_
 obtain ⟨E,G,rfl⟩:=cB J
 have bk:(dF kind s).take i=(dF kind s):=eM ab
 rw [bk] at U V
 refine rg aa<|ak (.slice Z (dF kind s).length ac)<|p (bK eV aa aa)<|p (gt aa aa)<|nl<|aj<|cd aa (fun a6=> ?_) fun a6=> ?_
 refine ag fun O=>p aA<|aw<|O<|rt<|tr<|f2 aa aa aa ?_
 have A:dY kind s=([],32):=by unfold dY; rw [if_neg (fun h=>by rw [h] at C; exact C rfl),if_neg V,if_pos ab]
 exact ⟨⟨.slice none 0 0,by rw [A]; rfl,by rw [A]; exact dz _ _ _ _⟩,Md.trans ae q⟩
 refine aM<|Y<|ag fun O=>ak (.slice E fs.length G)<|e<|cl PK (Xo fs E G _ (a7 J).2 ab fun x ah=>by rw [U] at ah; obtain ⟨y,_,rfl⟩:=List.mem_map.1 (Nn ah); exact HI _ _) aa fun bl bD a2=> ?_
 obtain ⟨aC,aY⟩:=a2
 refine p aA<|aw<|O<|rt<|f2 aa aa aa ?_
 have A:dY kind s=(km ((dF kind s).map<|eH kind),0):=by unfold dY; rw [if_neg (fun h=>by rw [h] at C; exact C rfl),if_neg V,if_neg ab]
 rw [U,eM (by rw [fM]; omega)] at aC
 exact ⟨⟨bl,by rw [A]; rfl,by rw [A]; exact ez aC<|by have :=ae.size; have :=q.size; omega⟩,Md.trans ae<|Md.trans q aY⟩
end Go.Hb
end
section
namespace Go.Hb
open Go.Hb.ow
theorem UC {l:List UInt8} {i:Nat} {x:UInt8} (h:i < l.length) (h1:¬x∈l.take i) (h2:¬((l.getD i 0).toNat:Int)=(x.toNat:Int)):¬x∈l.take (i+1):=by
 rw [fK l i 0 h,jD,j5]
 rintro (h3 | h3)
 · exact h1 h3
 · exact h2<|by rw [h3]
theorem UB {l:List UInt8} {i:Nat} {x:UInt8} (h:i < l.length) (h2:((l.getD i 0).toNat:Int)=(x.toNat:Int)):x∈l:=by
 have e:l.getD i 0=x:=k8.1 ab
 rw [← e]; exact dU h
def pC (s:List UInt8) (i:Nat):Int:=if e9 93 (s.drop i) < 0 then -1 else ((i+(s.drop i).idxOf 93:Nat):Int)
theorem Q6 {s:List UInt8} {i k:Nat} (hk:i≤k∧k < s.length) (a:∀ j,i≤j→j < k→s.getD j 0≠93) (q:s.getD k 0=93):pC s i=(k:Nat):=by
 have h:=I4 (x:=93) (l:=s.drop i) (i:=k - i) (by rw [fT]; omega) (fun j A=>by rw [cR,q8,← cR]; exact a _ ab ab)<|by rw [cR,q8,← cR,show i+(k - i)=k by omega]; exact q
 have h2:=rI (c:=93) (l:=s.drop i) ab
 unfold pC
 rw [if_neg ab]
 omega
theorem Q7 {s:List UInt8} {i:Nat} (q:∀ j,i≤j→j < s.length→s.getD j 0≠93):pC s i= -1:=by
 have h:=I5 (x:=93) (l:=s.drop i) fun j a=>by rw [fT] at a; rw [cR,q8,← cR]; exact q _ ab ab
 unfold pC
 rw [if_pos ab]
theorem Q5 {s:List UInt8} {i:Nat} (hi:i < s.length) (q:s.getD i 0=91):(pC s i < 0↔¬(s.drop<|i+1).idxOf 93 < (s.drop<|i+1).length)∧(¬pC s i < 0→pC s i=((i+1 +(s.drop<|i+1).idxOf 93:Nat):Int)):=by
 have e:s.drop i=91::s.drop (i+1):=by rw [drop_cons 0 hi,q]
 have a:(91::s.drop (i+1)).idxOf 93=(s.drop<|i+1).idxOf 93 +1:=by rw [List.idxOf_cons]; rfl
 unfold pC e9
 rw [e,a,cO]
 by_cases h:(s.drop<|i+1).idxOf 93 < (s.drop<|i+1).length
 · rw [if_pos (show (s.drop<|i+1).idxOf 93 +1 < (s.drop<|i+1).length+1 by omega)]
   rw [if_neg ab]
   refine ⟨⟨fun h1=>by omega,fun h1=>absurd h h1⟩,fun _=>by omega⟩
 · rw [if_neg (show ¬(s.drop<|i+1).idxOf 93 +1 < (s.drop<|i+1).length+1 by omega)]
   rw [if_pos (show (-1:Int) < 0 from by decide)]
   refine ⟨⟨fun _=>h,fun _=>by decide⟩,fun h1=>absurd az h1⟩
theorem Wt {w:World} {B e:Nat} {v:Value} {l:List (List UInt8)} {x:List UInt8} (h:w.ownsRow B e 1 v (l.length+1) (l.map str++ [str x])):w.ownsRow B e 1 v (l++ [x]).length ((l++ [x]).map str):=by
 rw [bL,iu]; exact h
theorem OK {f:UInt8→Bool} :(bytesOf fun x=> !f x).length=0↔(bytesOf f).length=256:=by
 have :=OL f 256
 unfold bytesOf; omega
theorem Jq {h:Array Obj} {a:Option Addr} {l:List (List UInt8)} {i:Nat} (q:aJ h a (l.map str)) (hi:i < l.length):Hb.aO h (bk a) (fo a+i*1 +0)=some (str<|l.getD i []):=ca.get (i:=i) q hi
theorem QM {s t r:List UInt8} (h:iz s=some (t,r)):(t.length=1∨3≤t.length)∧t.length≤s.length:=by
 cases s with
 | nil=>cases h
 | cons b l=>
   simp only [iz] at h
   split at h
   · split at h
     · rename_i a
       simp only [fU,sv] at h
       obtain ⟨rfl,_⟩:=h
       simp only [cO,dR]
       omega
     · cases h
   · simp only [fU,sv] at h
     obtain ⟨rfl,_⟩:=h
     simp
theorem RA:∀ (f:Nat) (s:List UInt8) (xs:List (List UInt8)),l0 f s=some xs→∀ t∈xs,(t.length=1∨3≤t.length)∧t.length≤s.length:=by
 intro f
 induction f with
 | zero=>intro s xs h t a; simp only [l0] at h; split at h <;> first | (cases h; cases a) | cases h
 | succ f i=>
   intro s xs h t a
   simp only [l0] at h
   split at h
   · cases h; cases a
   · cases hc:iz s with
     | none=>rw [hc] at h; cases h
     | some q=>
       obtain ⟨u,r⟩:=q
       rw [hc] at h
       simp only at h
       cases hr:l0 f r with
       | none=>rw [hr] at h; cases h
       | some A=>
         rw [hr] at h
         cases h
         rcases gu.1 a with rfl | a
         · exact QM hc
         · have h1:=i r A hr t a
           have h2:=AW hc
           exact ⟨h1.1,ab⟩
theorem GD {s:List UInt8} :(∀ t∈(c8 s).1,(t.length=1∨3≤t.length)∧t.length≤s.length)∧(c8 s).1.length≤16:=by
 unfold c8
 split
 · exact ⟨(fun t a=>by cases a),jP _⟩
 · split
   · exact ⟨(fun t a=>by cases a),jP _⟩
   · split
     · exact ⟨(fun t a=>by cases a),jP _⟩
     · rename_i xs h
       split
       · exact ⟨(fun t a=>by cases a),jP _⟩
       · exact ⟨(fun t a=>RA _ _ _ h t a),by simp only; omega⟩
theorem G8 {s:List UInt8} {k:Nat} :(s.drop k).getD 0 0=s.getD k 0:=by rw [cR,q8,← cR]; rfl
theorem Fo {s:List UInt8} {i m:Nat} (a:s.getD i 0=91) (h:i+1 +m < s.length):91::(s.drop<|i+1).take (m+1)=(s.take<|i+1 +m+1).drop i:=by
 rw [si,drop_cons 0 (show i < s.length by omega),a,show i+1 +m+1 - i=m+1 +1 by omega,p9]
theorem Wi {s:List UInt8} {i:Nat} (h:i < s.length):(s.take<|i+1).drop i= [s.getD i 0]:=by
 rw [si,drop_cons 0 h,show i+1 - i=0 +1 by omega,p9,List.take_zero]
theorem NZ {t:List UInt8} {b:UInt8} (h:t.length=1) (h1:¬t= [46]):((t.getD 0 0).toNat:Int)=(b.toNat:Int)↔t.getD 0 0=46∨t.getD 0 0=b:=by
 match t,h with
 | [c],_=>
   simp only [lT] at*
   constructor
   · intro h2; exact .inr<|k8.1 ab
   · rintro (h2 | h2)
     · exact absurd (by rw [h2]) h1
     · rw [h2]
theorem I2 {b:UInt8} (h:(b.toNat:Int)=94):b=94:=k8.1 (by have :(94:UInt8).toNat=94:=rfl; omega)
theorem We {b:UInt8} (h:¬(b.toNat:Int)=94):b≠94:=by rintro rfl; exact h rfl
theorem JY {l:List UInt8} {x:UInt8} (h:l.length=1) (a:l.getD 0 0=x):l= [x]:=by
 match l,h with
 | [c],_=>simp only [lT] at a; rw [a]
theorem XP {f:UInt8→Bool} (h:¬(bytesOf f).length=256) (h1:(bytesOf f).length=1) (h2:(bytesOf f).getD 0 0=46):gQ f= [91,46,93]:=by
 have e:=JY h1 h2
 have h3:¬f 93=true :=fun h4=>by have :=(Fs f 93).2 h4; rw [e] at this; simp at this
 unfold gQ; rw [if_neg h,if_neg (fun h4=>h4.2.1 h2),if_neg h3,e]; rfl
theorem XQ {f:UInt8→Bool} (h:¬(bytesOf f).length=256) (h1:(bytesOf f).length=1) (h2:(bytesOf f).getD 0 0=91):gQ f= [91,91,93]:=by
 have e:=JY h1 h2
 have h3:¬f 93=true :=fun h4=>by have :=(Fs f 93).2 h4; rw [e] at this; simp at this
 unfold gQ; rw [if_neg h,if_neg (fun h4=>h4.2.2 h2),if_neg h3,e]; rfl
theorem Jk (s:List UInt8) (b:UInt8) (w:World) (hs:s.length≤1048576):
 bm ay 263 (bf [str s,.int .u8 b.toNat]) w (fun v w'=>v= .bool (decide (b∈s))∧Wk w w'):=by
 refine enter func263 aa ntmps263 aa<|ag fun I=>aw<|I<|aB fun J=>ag fun M=>aw<|M<|aH<|lp (fun E a G=> ∃ (i:Nat),(i≤s.length)∧(¬b∈s.take i)∧(G=w)∧(a 0=str s)∧(a 1= .int .u8 b.toNat)∧(a 5=au i)∧(s.length - i=E)) _ ⟨0,ab,(by simp),aa,aa,aa,aa,aa⟩ ?_
 rintro E a G ⟨i,hi,C,Z,ae,ah,ai,rfl⟩
 refine fx 0 ae<|fx 1 ah<|fx 5 ai ?_
 subst Z
 refine aB fun O=>ag fun U=>ak (au i)<|ak (str s)<|p (cz u9 aa aa)<|p (lt aa aa)<|nl<|U<|cd aa (fun ac=> ?_) fun ac=> ?_
 refine aM<|O<|aB fun q=>aH<|ag fun V=>ak (str s)<|ak (au i)<|p (eQ u9 aa aa ab)<|ak (.int .u8 b.toNat)<|p (bJ aa aa)<|nl<|V<|cd aa (fun A=> ?_) fun A=> ?_
 exact ag fun Y=>aw<|Y<|rt<|br<|tr<|tr<|br<|tr<|aV aa<|⟨by show bQ true =_; rw [decide_eq_true (UB ab A)],Md.refl _ _⟩
 exact aM<|bn<|q<|rg aa<|ak (au i)<|p (ad aa aa<|bX ab)<|p aA<|nl<|tn<|⟨_,ab,i+1,ab,(UC ab C A),aa,aa,aa,aa,aa⟩
 exact ext<|ba<|ba<|be<|J<|ag fun q=>p aA<|nl<|q<|rt<|aV aa<|⟨by show bQ false =_; rw [eM ab] at C; rw [decide_eq_false C],Md.refl _ _⟩
theorem EM (t:List UInt8) (b:UInt8) (w:World) (al:t.length=1∨3≤t.length) (am:t.length≤1048576):
 bm ay 237 (bf [.agg [str t].toArray,.int .u8 b.toNat]) w (fun v w'=>v= .bool (cD t b)∧Wk w w'):=by
 refine enter func237 aa ntmps237 aa<|ag fun E=>e<|jt aa fun ah ap aj i U=>aw<|E<|ag fun G=>p (fa To aa)<|p (ld bT aa<|U.aO 0)<|aw<|G<|aB fun I=>ag fun J=>p mv<|p (cz u9 aa aa)<|p (bJ aa aa)<|nl<|J<|cd aa (fun ae=> ?_) fun ae=> ?_
 refine ag fun a=>p mv<|p (dV aa aa)<|p mv<|gs (t:=14) aa (fun C=> ?_) fun C=> ?_
 exact aE aa<|aE aa<|aE aa<|aE aa<|p (bB aa)<|aw<|a<|rt<|tr<|aV aa<|⟨by show bQ true =_; unfold cD; rw [if_pos (show t.length=1 by omega)]; rw [decide_eq_true (.inl<|by rw [C]; rfl)],i.md⟩
 exact aI aa mv<|aI aa (iY 0 u9 aa aa ab)<|aI aa (aT (.int .u8 b.toNat) aa)<|aI aa (bJ aa aa)<|p (bp aa)<|aw<|a<|rt<|tr<|aV aa<|⟨by show bQ (decide _)=_; unfold cD; rw [if_pos (show t.length=1 by omega)]; exact congrArg bQ (decide_eq_decide.2<|NZ ab C),i.md⟩
 refine aM<|I<|aB fun a=>ag fun M=>p mv<|p (iY 1 u9 aa aa ab)<|p (bJ aa aa)<|nl<|M<|cd aa (fun A=> ?_) fun A=> ?_
 refine ag fun q=>p mv<|p mv<|p (cz u9 aa aa)<|p (dK ((t.length - 1:Nat):Int) aa aa<|bj ab ab)<|p (me u9 aa aa aa ab)<|ak (.int .u8 b.toNat)<|e<|cl F6 (Jk ((t.take<|t.length - 1).drop 2) b _<|by simp only [fT,dR]; omega) aa fun an aq Z=> ?_
 obtain ⟨rfl,V⟩:=Z
 exact aw<|q<|ag fun O=>p mv<|p (no aa)<|p aA<|nl<|O<|rt<|tr<|aV aa<|⟨by show bQ (!decide _)=_; unfold cD; rw [if_neg (show ¬t.length=1 by omega),if_pos (k8.1 (by have ai:(94:UInt8).toNat=94:=aa; omega))],Md.trans i.md V⟩
 refine aM<|a<|ag fun q=>p mv<|p mv<|p (cz u9 aa aa)<|p (dK ((t.length - 1:Nat):Int) aa aa<|bj ab ab)<|p (me u9 aa aa aa ab)<|ak (.int .u8 b.toNat)<|e<|cl F6 (Jk ((t.take<|t.length - 1).drop 1) b _<|by simp only [fT,dR]; omega) aa fun ao ar ac=> ?_
 obtain ⟨rfl,Y⟩:=ac
 exact aw<|q<|rt<|aV aa<|⟨by unfold cD; rw [if_neg (show ¬t.length=1 by omega),if_neg (fun h=>by rw [h] at A; exact A aa)]; rfl,Md.trans i.md Y⟩
theorem EN (t:List UInt8) (b:UInt8) (bi:Int) (w:World) (i:t.length=1∨3≤t.length) (q:t.length≤1048576) (a:(b.toNat:Int)=bi):bm ay 237 (bf [.agg [str t].toArray,.int .u8 bi]) w (fun v w'=>v= .bool (cD t b)∧Wk w w'):=by
 subst a; exact EM t b w i q
theorem EO (t:List UInt8) (q:Bool) (w:World) (aT:t.length=1∨3≤t.length) (aU:t.length≤1048576):
 bm ay 304 (bf [.agg [str t].toArray,.bool q]) w (fun v w'=>bq w' w.heap.size 5 1 (v) (bytesOf fun x=>decide (cD t x=q)).length (U8<|bytesOf fun x=>decide (cD t x=q))∧Wk w w'):=by
 refine enter func304 aa ntmps304 aa<|ag fun ah=>e<|jt aa fun ar J a0 ac av=>aw<|ah<|ag fun ai=>e<|m4 im fun V aY a2 aE az=> ?_
 have aL:bq aY J.heap.size 5 1 (.slice (some ⟨V,0,none⟩) 0 0) (([]:List UInt8)).length (U8<|([]:List UInt8)):=az _ ab
 refine aw<|ai<|aB fun aj=>ag fun al=>p aA<|nl<|al<|aH<|lp (fun Y C U=> ∃ (i:Nat) (a:Value),(i≤256)∧(bq U J.heap.size 5 1 (a) (lY (fun x=>decide (cD t x=q)) i).length<|U8<|lY (fun x=>decide (cD t x=q)) i)∧(Wk J U)∧(C 1= .bool q)∧(C 2=aQ ar)∧(C 5=a)∧(C 6=au i)∧(256 - i=Y)) _ ⟨0,.slice (some ⟨V,0,none⟩) 0 0,ab,aL,aE.md,aa,aa,aa,aa,aa⟩ ?_
 rintro Y C U ⟨i,a,hi,I,G,aN,aP,aR,aS,rfl⟩
 refine fx 1 aN<|fx 2 aP<|fx 5 aR<|fx 6 aS ?_
 have a3:=ql (fun x=>decide (cD t x=q)) i
 refine aB fun am=>ag fun an=>ak (au i)<|p (lt aa aa)<|nl<|an<|cd aa (fun aG=> ?_) fun aG=> ?_
 refine aM<|am<|aB fun E=>aH<|ag fun ao=>p (da sE aa (aa) (show ∀ j,j < 1→Hb.aO _ _ (0 +j)= [str t][j]? from fun j a5=>by cases j with | zero=>exact (G.B av).aO 0 | succ j=>omega))<|ak (au i)<|p (lN u5 qT aa<|tO ab)<|e<|cl AF (EN t (UInt8.ofNat i) _ _ aT aU<|zb i ab) aa fun a7 a8 aF=> ?_
 obtain ⟨rfl,A⟩:=aF
 refine aw<|ao<|ag fun aq=>p mv<|ak (.bool q)<|p (xM u4 aa aa)<|nl<|aq<|cd aa (fun O=> ?_) fun O=> ?_
 refine rg aa<|ak (a)<|ak (au i)<|p (lN u5 qT aa<|tO ab)<|e<|fZ im aa aa fun aZ aX a1 M ax=> ?_
 have Z:Wk J aX:=Md.trans (Md.trans G A) M.md
 refine e<|ap im (aW (aW I A) M.md) aa (by have :=Z.size; omega) aa (aJ.dX ax) (aa) (aa) ab ab fun v24 a9 ae aD a6 a4=> ?_
 have aC:=Wk.own Z (aW (aW I A) M.md) aD<|cA _
 rw [← zb i ab] at ae
 have aK:=qL ae
 exact p aA<|nl<|bn<|E<|rg aa<|ak (au i)<|p (bE ((i+1:Nat):Int) aa aa<|bj ab ab)<|p aA<|nl<|tn<|⟨_,ab,i+1,v24,ab,(by rw [sM,if_pos (decide_eq_true O)]; exact aK),aC,aa,aa,aa,aa,aa⟩
 exact aM<|bn<|E<|rg aa<|ak (au i)<|p (bE ((i+1:Nat):Int) aa aa<|bj ab ab)<|p aA<|nl<|tn<|⟨_,ab,i+1,a,ab,(by rw [sM,if_neg (fun h=>O<|of_decide_eq_true h),eh]; exact aW I A),(Md.trans G A),aa,aa,aa,aa,aa⟩
 refine ext<|ba<|ba<|be<|aj<|ag fun E=>ak (a)<|p (cJ (a) aa)<|nl<|E<|rt<|aV aa ?_
 have aI:i=256:=ab
 subst aI
 exact ⟨ez I ac.md.size,Md.trans ac.md G⟩
theorem XR (t:List UInt8) (w:World) (aK:t.length=1∨3≤t.length) (aL:t.length≤1048576):
 bm ay 294 (bf [.agg [str t].toArray]) w (fun v w'=>v=str (gQ<|cD t)∧Wk w w'):=by
 have cn:(bytesOf<|cD t).length≤256:=ql _ 256
 have cm:(bytesOf fun x=> !cD t x).length≤256:=ql _ 256
 have bN:=OK (f:=cD t)
 refine enter func294 aa ntmps294 aa ?_
 refine aB fun bc=> ?_
 refine rg aa ?_
 refine e<|jt aa fun bt cr ce bF aY=> ?_
 refine p aA ?_
 refine nl ?_
 refine bc ?_
 refine aB fun bl=> ?_
 refine rg aa ?_
 refine p (da sE aa (aa) (show ∀ j,j < 1→Hb.aO _ _ (0 +j)= [str t][j]? from fun j a5=>by cases j with | zero=>exact (aY).aO 0 | succ j=>omega)) ?_
 refine e<|cl Gc (EO t true _ aK aL) aa fun v10 cs bH=> ?_
 obtain ⟨aF,a0⟩:=bH
 rw [Fq (g:=cD t) (fun x=>by cases cD t x <;> rfl)] at aF
 obtain ⟨Y,Z,rfl⟩:=cB aF
 have a:=(a7 aF).2
 have aZ:=a0.B aY
 refine p aA ?_
 refine nl ?_
 refine bl ?_
 refine aB fun bo=> ?_
 refine rg aa ?_
 refine p (da sE aa (aa) (show ∀ j,j < 1→Hb.aO _ _ (0 +j)= [str t][j]? from fun j a5=>by cases j with | zero=>exact (aZ).aO 0 | succ j=>omega)) ?_
 refine e<|cl Gc (EO t false _ aK aL) aa fun v12 b3 bI=> ?_
 obtain ⟨aG,aq⟩:=bI
 rw [Fq (g:=fun x=> !cD t x) (fun x=>by cases cD t x <;> rfl)] at aG
 obtain ⟨b7,ca,rfl⟩:=cB aG
 have a:=a.wk aq
 have bu:=aq.B aZ
 have ae:Wk w b3:=Md.trans bF.md<|Md.trans a0 aq
 refine p aA ?_
 refine nl ?_
 refine bo ?_
 refine aB fun bp=> ?_
 refine aB fun br=> ?_
 refine rg aa ?_
 refine p mv ?_
 refine p (bK mP aa aa) ?_
 refine p (bJ aa aa) ?_
 refine nl ?_
 refine br ?_
 refine cd aa (fun bO=> ?_) fun bO=> ?_
 refine aB fun am=> ?_
 refine rg aa ?_
 refine p aA ?_
 refine nl ?_
 refine am ?_
 refine rt ?_
 refine tr ?_
 refine aV aa ?_
 exact ⟨by unfold gQ; rw [if_pos (bN.1 ab)]; rfl,ae⟩
 refine aM ?_
 refine bp ?_
 refine aB fun am=> ?_
 refine aB fun bs=> ?_
 refine rg aa ?_
 refine p mv ?_
 refine p (bK mP aa aa) ?_
 refine p (bJ aa aa) ?_
 refine nl ?_
 refine bs ?_
 refine cd aa (fun bP=> ?_) fun bP=> ?_
 refine aB fun an=> ?_
 refine aB fun ao=> ?_
 refine rg aa ?_
 refine p mv ?_
 refine p (a8 l5 aa aa ab<|aJ.ok (a)<|pU ab) ?_
 refine p (ld pw aa<|pT (i:=0) a ab) ?_
 refine p (bJ aa aa) ?_
 refine nl ?_
 refine ao ?_
 refine cd aa (fun ax=> ?_) fun ax=> ?_
 refine aB fun O=> ?_
 refine rg aa ?_
 refine p aA ?_
 refine nl ?_
 refine O ?_
 refine rt ?_
 refine tr ?_
 refine tr ?_
 refine aV aa ?_
 exact ⟨by rw [XP ab ab (Cp ax)]; rfl,ae⟩
 refine aM ?_
 refine an ?_
 refine aB fun O=> ?_
 refine aB fun U=> ?_
 refine rg aa ?_
 refine p mv ?_
 refine p (a8 l5 aa aa ab<|aJ.ok (a)<|pU ab) ?_
 refine p (ld pw aa<|pT (i:=0) a ab) ?_
 refine p (bJ aa aa) ?_
 refine nl ?_
 refine U ?_
 refine cd aa (fun aC=> ?_) fun aC=> ?_
 refine aB fun V=> ?_
 refine rg aa ?_
 refine p aA ?_
 refine nl ?_
 refine V ?_
 refine rt ?_
 refine tr ?_
 refine tr ?_
 refine aV aa ?_
 exact ⟨by rw [XQ ab ab (yo aC)]; rfl,ae⟩
 refine aM ?_
 refine O ?_
 refine aB fun V=> ?_
 refine rg aa ?_
 refine ak (.slice Y (bytesOf<|cD t).length Z) ?_
 refine p (m8 m5 aa (a)<|aa) ?_
 refine p aA ?_
 refine nl ?_
 refine V ?_
 refine rt ?_
 refine tr ?_
 refine aV aa ?_
 exact ⟨by unfold gQ; rw [if_neg (show ¬(bytesOf<|cD t).length=256 by omega),if_pos ⟨ab,CO ax,vm aC⟩]; rfl,ae⟩
 refine aM ?_
 refine am ?_
 refine aB fun an=> ?_
 refine rg aa ?_
 refine p (da sE aa (aa) (show ∀ j,j < 1→Hb.aO _ _ (0 +j)= [str t][j]? from fun j a5=>by cases j with | zero=>exact (bu).aO 0 | succ j=>omega)) ?_
 refine e<|cl AF (EN t 93 _ _ aK aL aa) aa fun v30 J bM=> ?_
 obtain ⟨rfl,G⟩:=bM
 have ar:=Md.trans ae G
 refine p aA ?_
 refine nl ?_
 refine an ?_
 refine aB fun ao=> ?_
 refine aB fun O=> ?_
 refine rg aa ?_
 refine p mv ?_
 refine nl ?_
 refine O ?_
 refine cb aa (fun aD=> ?_) fun aD=> ?_
 refine aB fun U=> ?_
 refine rg aa ?_
 refine p mv ?_
 refine p (m8 m5 aa ((a7<|aW aG G).2)<|aa) ?_
 refine p (cc aa aa<|by simp only [cO,gC]; omega) ?_
 refine p (cc aa aa<|by simp only [cO,gC,bL]; omega) ?_
 refine p aA ?_
 refine nl ?_
 refine U ?_
 refine rt ?_
 refine tr ?_
 refine aV aa ?_
 exact ⟨by unfold gQ; rw [if_neg (show ¬(bytesOf<|cD t).length=256 by omega),if_neg (show ¬((bytesOf<|cD t).length=1∧_) from fun h=>by omega),if_pos aD]; rfl,ar⟩
 refine aM ?_
 refine ao ?_
 refine aB fun U=> ?_
 refine rg aa ?_
 refine e<|m4 im fun aS b4 cf bG bv=> ?_
 have bV:bq b4 J.heap.size 5 1 (.slice (some ⟨aS,0,none⟩) 0 0) (([]:List UInt8)).length (U8<|([]:List UInt8)):=bv _ ab
 refine p aA ?_
 refine nl ?_
 refine U ?_
 refine aB fun V=> ?_
 refine rg aa ?_
 refine p aA ?_
 refine nl ?_
 refine V ?_
 refine aB fun bd=> ?_
 refine aB fun bg=> ?_
 refine rg aa ?_
 refine p aA ?_
 refine nl ?_
 refine bg ?_
 refine aH ?_
 refine lp (fun aX M aP=> ∃ (i:Nat) (ob:Bool) (ai:Value),(i≤(bytesOf<|cD t).length)∧(ob=decide (94∈(bytesOf<|cD t).take i))∧(bq aP J.heap.size 5 1 (ai) (((bytesOf<|cD t).take i).filter fun b=>decide (b≠94)).length<|U8<|((bytesOf<|cD t).take i).filter fun b=>decide (b≠94))∧(Wk J aP)∧(M 1=aQ bt)∧(M 3= .slice Y (bytesOf<|cD t).length Z)∧(M 6=ai)∧(M 7= .bool ob)∧(M 8=au i)∧((bytesOf<|cD t).length - i=aX)) _ ⟨0,false,.slice (some ⟨aS,0,none⟩) 0 0,ab,aa,bV,bG.md,aa,aa,aa,aa,aa,aa⟩ ?_
 rintro aX M aP ⟨i,ob,ai,hi,I,A,q,bW,bX,bY,bZ,b0,rfl⟩
 refine fx 1 bW<|fx 3 bX<|fx 6 bY<|fx 7 bZ<|fx 8 b0 ?_
 have ck:(((bytesOf<|cD t).take i).filter fun b=>decide (b≠94)).length≤256:=gk (List.length_filter_le _ _)<|by rw [dR]; omega
 refine aB fun bh=> ?_
 refine aB fun bi=> ?_
 refine rg aa ?_
 refine ak (au i) ?_
 refine ak (.slice Y (bytesOf<|cD t).length Z) ?_
 refine p (bK mP aa aa) ?_
 refine p (lt aa aa) ?_
 refine nl ?_
 refine bi ?_
 refine cd aa (fun bQ=> ?_) fun bQ=> ?_
 refine aM ?_
 refine bh ?_
 refine aB fun E=> ?_
 refine aH ?_
 refine aB fun bk=> ?_
 refine rg aa ?_
 refine ak (.slice Y (bytesOf<|cD t).length Z) ?_
 refine ak (au i) ?_
 refine p (a8 l5 aa aa ab<|aJ.ok (a.wk<|Md.trans G q)<|pU ab) ?_
 refine p (ld pw aa<|pT (i:=i) (a.wk<|Md.trans G q) ab) ?_
 refine p (bJ aa aa) ?_
 refine nl ?_
 refine bk ?_
 refine cd aa (fun aE=> ?_) fun aE=> ?_
 have ac:=I2 aE
 refine rg aa ?_
 refine p aA ?_
 refine nl ?_
 refine bn ?_
 refine E ?_
 refine rg aa ?_
 refine ak (au i) ?_
 refine p (bE ((i+1:Nat):Int) aa aa<|bj ab ab) ?_
 refine p aA ?_
 refine nl ?_
 refine tn ?_
 exact ⟨_,ab,i+1,true,ai,ab,(by rw [fK _ i 0 ab,ac,decide_eq_true (by simp)]),(by rw [fK _ i 0 ab,ac,M7,List.filter_cons_of_neg (by simp),M9,eh]; exact A),q,aa,aa,aa,aa,aa,aa⟩
 have ac:=We aE
 refine rg aa ?_
 refine ak (ai) ?_
 refine ak (.slice Y (bytesOf<|cD t).length Z) ?_
 refine ak (au i) ?_
 refine p (a8 l5 aa aa ab<|aJ.ok (a.wk<|Md.trans G q)<|pU ab) ?_
 refine p (ld pw aa<|pT (i:=i) (a.wk<|Md.trans G q) ab) ?_
 refine e<|fZ im aa aa fun b8 b5 cg av bw=> ?_
 have a1:Wk J b5:=Md.trans q av.md
 refine e<|ap im (aW A av.md) aa (by have :=a1.size; omega) aa (aJ.dX bw) (aa) (aa) ab ab fun b2 ct bS bC co ci=> ?_
 have bz:=Wk.own a1 (aW A av.md) bC<|cA _
 have bT:=qL bS
 refine p aA ?_
 refine nl ?_
 refine bn ?_
 refine E ?_
 refine rg aa ?_
 refine ak (au i) ?_
 refine p (bE ((i+1:Nat):Int) aa aa<|bj ab ab) ?_
 refine p aA ?_
 refine nl ?_
 refine tn ?_
 exact ⟨_,ab,i+1,ob,b2,ab,(by rw [fK _ i 0 ab,I]; exact decide_eq_decide.2<|by rw [jD,j5]; exact ⟨.inl,fun h=>h.elim id fun h=>absurd h.symm ac⟩),(by rw [fK _ i 0 ab,M7,List.filter_cons_of_pos (by simpa using ac),M9]; exact bT),bz,aa,aa,aa,aa,aa,aa⟩
 refine ext ?_
 refine ba ?_
 refine ba ?_
 refine be ?_
 refine bd ?_
 refine ed (fun bb aN=> ∃ (aj:Option Addr) (C al:Nat),(((bytesOf<|cD t).filter (fun b=>decide (b≠94))++(if 94∈(bytesOf<|cD t) then [94] else [])).length=C)∧(bq aN J.heap.size 5 1 (.slice aj C al) C<|U8<|(bytesOf<|cD t).filter (fun b=>decide (b≠94))++(if 94∈(bytesOf<|cD t) then [94] else []))∧(Wk w aN)∧(C≤300)∧(bb 6= .slice aj C al)) ?_ ?_
 refine aB fun E=> ?_
 obtain ⟨aR,aU,rfl⟩:=cB A
 have ah:(bytesOf<|cD t).take i=bytesOf (cD t):=eM ab
 rw [ah] at I
 refine rg aa ?_
 refine ak (.bool ob) ?_
 refine nl ?_
 refine E ?_
 refine cb aa (fun ag=> ?_) fun ag=> ?_
 refine rg aa ?_
 refine p (aT (.slice aR (((bytesOf<|cD t).take i).filter fun b=>decide (b≠94)).length aU) aa) ?_
 refine e<|fZ im aa aa fun b9 b6 ch aw bx=> ?_
 have a3:Wk J b6:=Md.trans q aw.md
 refine e<|ap im (aW A aw.md) aa (by have :=a3.size; omega) aa (aJ.dX bx) (aa) (aa) ab ab fun cq cu aI bD cp cj=> ?_
 have bA:=Wk.own a3 (aW A aw.md) bD<|cA _
 rw [ah] at aI
 have a9:=qL (x:=94) aI
 obtain ⟨a2,c2,rfl⟩:=cB aI
 refine p aA ?_
 refine nl ?_
 refine tn ?_
 exact ⟨a2,_,c2,(by rw [if_pos (of_decide_eq_true<|I ▸ ag),bL]; rfl),(by rw [if_pos (of_decide_eq_true<|I ▸ ag)]; rw [bL] at a9; exact a9),(Md.trans ar bA),(by rw [← ah]; omega),aa⟩
 refine aM ?_
 refine tn ?_
 exact ⟨aR,_,aU,(by rw [if_neg (of_decide_eq_false<|I ▸ ag),eh,ah]),(by rw [if_neg (of_decide_eq_false<|I ▸ ag),eh]; have h3:=A; rw [ah] at h3 ⊢; exact h3),(Md.trans ar q),(ab),aa⟩
 rintro bb aN ⟨aj,C,al,a6,bU,bB,bR,b1⟩
 refine fx 6 b1 ?_
 have a4:((bytesOf<|cD t).filter (fun b=>decide (b≠94))++(if 94∈(bytesOf<|cD t) then [94] else [])).length≤300:=by rw [a6]; exact bR
 refine aB fun E=> ?_
 refine rg aa ?_
 refine ak (.slice aj C al) ?_
 refine p (m8 m5 aa ((a7 bU).2)<|a6) ?_
 refine p (cc aa aa<|gk (zM a4 _) az) ?_
 refine p (cc aa aa<|by rw [bL]; exact gk (Nat.add_le_add_right (zM a4 _) _) az) ?_
 refine p aA ?_
 refine nl ?_
 refine E ?_
 refine rt ?_
 refine aV aa ?_
 exact ⟨by unfold gQ; rw [if_neg (show ¬(bytesOf<|cD t).length=256 by omega),if_neg (show ¬((bytesOf<|cD t).length=1∧_) from fun h=>by omega),if_neg (show ¬cD t 93=true from by rw [aD]; exact Bool.noConfusion)]; rfl,bB⟩
theorem Q1 (s:List UInt8) (i:Nat) (w:World) (hs:s.length≤1048576) (hi:i≤s.length):
 bm ay 236 (bf [str s,au i]) w (fun v w'=>v= .int .i64 (pC s i)∧Wk w w'):=by
 refine enter func236 aa ntmps236 aa<|ag fun J=>aw<|J<|aB fun M=>aH<|lp (fun G E I=> ∃ (k:Nat),(i≤k∧k≤s.length)∧(∀ j,i≤j→j < k→s.getD j 0≠93)∧(I=w)∧(E 0=str s)∧(E 1=au k)∧(s.length - k=G)) _ ⟨i,ab,(fun j h1 h2=>by omega),aa,aa,aa,aa⟩ ?_
 rintro G E I ⟨k,hk,C,Z,ae,ah,rfl⟩
 refine fx 0 ae<|fx 1 ah ?_
 subst Z
 refine aB fun O=>ag fun U=>ak (au k)<|ak (str s)<|p (cz u9 aa aa)<|p (lt aa aa)<|nl<|U<|cd aa (fun ac=> ?_) fun ac=> ?_
 refine aM<|O<|aH<|aB fun a=>ag fun V=>ak (str s)<|ak (au k)<|p (eQ u9 aa aa ab)<|p (bJ aa aa)<|nl<|V<|cd aa (fun A=> ?_) fun A=> ?_
 have q:s.getD k 0=93:=k8.1 (by have :(93:UInt8).toNat=93:=rfl; omega)
 exact ag fun Y=>ak (au k)<|p (cJ (au k) aa)<|nl<|Y<|rt<|tr<|br<|tr<|br<|tr<|aV aa<|⟨by rw [Q6 (k:=k) ab C q]; rfl,Md.refl _ _⟩
 have q:s.getD k 0≠93:=fun h=>by rw [h] at A; exact A rfl
 exact aM<|a<|rg aa<|ak (au k)<|p (bE ((k+1:Nat):Int) aa aa<|bj ab ab)<|p aA<|nl<|bn<|tn<|⟨_,ab,k+1,ab,(fun j h1 h2=>by rcases fi j k with h | h <;> first | exact C j h1 h | (rw [show j=k by omega]; exact q)),aa,aa,aa,aa⟩
 exact ext<|ba<|ba<|be<|M<|ag fun a=>p aA<|nl<|a<|rt<|aV aa<|⟨by rw [Q7 (fun j h1 h2=>C j h1 ab)]; rfl,Md.refl _ _⟩
theorem Km (s:List UInt8) (w:World) (hs:s.length≤1048576):
 bm ay 186 (bf [str s]) w (fun v w'=>(∃ a,v= .tuple #[a,au ((c8 s).2)]∧bq w' w.heap.size 349 1 (a) ((c8 s).1).length (((c8 s).1).map str))∧Wk w w'):=by
 refine enter func186 aa ntmps186 aa<|ag fun aS=>p aA<|aw<|aS<|aB fun aV=>aB fun aK=>rg aa<|ak (str s)<|p (cz u9 aa aa)<|p (bJ aa aa)<|p mv<|gs (t:=11) aa (fun C=> ?_) fun C=> ?_
 exact aE aa<|aE aa<|aE aa<|p (bB aa)<|nl<|aK<|ct aa<|aB fun ai=>rg aa<|p aA<|aw<|ai<|rt<|tr<|f2 aa aa aa<|⟨⟨.slice none 0 0,by unfold c8; rw [if_pos (.inl<|fW ab)]; rfl,by unfold c8; rw [if_pos (.inl<|fW ab)]; exact dz _ _ _ _⟩,Md.refl _ _⟩
 refine aI aa (aT (str s) aa)<|aI aa (cz u9 aa aa)<|aI aa (gt aa aa)<|p (bp aa)<|nl<|aK<|cd aa (fun a6=> ?_) fun a6=> ?_
 exact ag fun ai=>p aA<|aw<|ai<|rt<|tr<|f2 aa aa aa<|⟨⟨.slice none 0 0,by unfold c8; rw [if_pos (.inr ab)]; rfl,by unfold c8; rw [if_pos (.inr ab)]; exact dz _ _ _ _⟩,Md.refl _ _⟩
 refine aM<|aV<|ag fun ai=>aw<|ai<|aB fun aX=>ag fun aY=>ak (str s)<|p (dV aa aa)<|nl<|aY<|cd aa (fun J=> ?_) fun J=> ?_
 refine ag fun aq=>p mv<|p aA<|aw<|aq<|rt<|tr<|f2 aa aa aa ?_
 have aQ:¬(s= []∨512 < s.length):=fun h=>h.elim (fun h=>by rw [h] at C; exact C rfl) fun h=>by omega
 exact ⟨⟨.slice none 0 0,by unfold c8; rw [if_neg aQ,if_pos J]; rfl,by unfold c8; rw [if_neg aQ,if_pos J]; exact dz _ _ _ _⟩,Md.refl _ _⟩
 refine aM<|aX<|ag fun aq=>aw<|aq<|aB fun aZ=>aH<|lp (fun aL an aF=> ∃ (i:Nat) (A:List (List UInt8)) (Z:Value),(i≤s.length∧A.length≤i)∧(kq s i A)∧(bq aF w.heap.size 349 1 (Z) (A).length<|(A).map str)∧(Wk w aF)∧(an 0=str s)∧(an 4=Z)∧(an 5=au i)∧(s.length - i=aL)) _ ⟨0,[],.slice none 0 0,(by simp),(kq.start s),(dz _ _ _ _),(Md.refl _ _),aa,aa,aa,aa⟩ ?_
 rintro aL an aF ⟨i,A,Z,hi,Y,aj,G,bl,bo,bs,rfl⟩
 refine fx 0 bl<|fx 4 bo<|fx 5 bs<|aB fun a0=>ag fun aU=>ak (au i)<|ak (str s)<|p (cz u9 aa aa)<|p (lt aa aa)<|nl<|aU<|cd aa (fun a7=> ?_) fun a7=> ?_
 refine aM<|a0<|aH<|ag fun ao=>ak (au i)<|p (bE ((i+1:Nat):Int) aa aa<|bj ab ab)<|p aA<|nl<|ao ?_
 refine ed (fun al aD=> ∃ (j:Nat),(i < j∧j≤s.length)∧(kq s j<|A++ [(s.take j).drop i])∧(bq aD w.heap.size 349 1 (Z) (A).length<|(A).map str)∧(Wk w aD)∧(al 0=str s)∧(al 4=Z)∧(al 5=au i)∧(al 6=au j)) ?_ ?_
 refine ag fun ac=>ak (str s)<|ak (au i)<|p (eQ u9 aa aa ab)<|p (bJ aa aa)<|nl<|ac<|cd aa (fun az=> ?_) fun az=> ?_
 refine ag fun ae=>ak (str s)<|ak (au i)<|e<|cl Py (Q1 s i _ hs ab) aa fun v31 bM a5=> ?_
 obtain ⟨rfl,U⟩:=a5
 have I:=yo az
 obtain ⟨aO,a9⟩:=Q5 (show i < s.length by omega) I
 have V:=drop_cons (l:=s) (i:=i) 0 ab
 have bF:(s.drop<|i+1).length=s.length - (i+1):=fT
 refine aw<|ae<|aB fun aG=>ag fun am=>p mv<|p (lt aa aa)<|p mv<|gs (t:=34) aa (fun bb=> ?_) fun bb=> ?_
 have E:iz (s.drop i)=none:=by
  rw [V,I]
  exact xv aa fun h=>(aO.1 ab) h.1
 have M:=Y.bad ab E
 refine aE aa<|aE aa<|aE aa<|aE aa<|p (bB aa)<|p mv<|aE aa<|aE aa<|aE aa<|aE aa<|aE aa<|ec aa<|ec aa<|ec aa<|ec aa<|ec aa<|aE aa<|p (bB aa)<|nl<|am<|ct aa<|ag fun ah=>p aA<|aw<|ah<|rt<|tr<|tr<|br<|tr<|br<|tr<|f2 aa aa aa ?_
 have q:c8 s=([],41):=by unfold c8; rw [if_neg (fun h=>h.elim (fun h=>by rw [h] at C; exact C rfl) fun h=>by omega),if_neg J,M]
 exact ⟨⟨.slice none 0 0,by rw [q]; rfl,by rw [q]; exact dz _ _ _ _⟩,Md.trans G U⟩
 have bD:=a9 ab
 have aP:(s.drop<|i+1).idxOf 93 < (s.drop<|i+1).length:=D3 fun h=>by have :=aO.2 h; omega
 refine aI aa mv<|aI aa (aT (au i) aa)<|aI aa (bE ((i+1:Nat):Int) aa aa<|bj ab ab)<|aI aa (bJ aa aa)<|p (bp aa)<|p mv<|gs (t:=40) aa (fun bc=> ?_) fun bc=> ?_
 have E:iz (s.drop i)=none:=by
  rw [V,I]
  exact xv aa fun h=>h.2.1 ab
 have M:=Y.bad ab E
 refine aE aa<|aE aa<|aE aa<|aE aa<|aE aa<|ec aa<|ec aa<|ec aa<|ec aa<|ec aa<|aE aa<|p (bB aa)<|nl<|am<|ct aa<|aB fun ah=>rg aa<|p aA<|aw<|ah<|rt<|tr<|tr<|br<|tr<|br<|tr<|f2 aa aa aa ?_
 have q:c8 s=([],41):=by unfold c8; rw [if_neg (fun h=>h.elim (fun h=>by rw [h] at C; exact C rfl) fun h=>by omega),if_neg J,M]
 exact ⟨⟨.slice none 0 0,by rw [q]; rfl,by rw [q]; exact dz _ _ _ _⟩,Md.trans G U⟩
 refine aI aa mv<|aI aa (aT (au i) aa)<|aI aa (bE ((i+2:Nat):Int) aa aa<|bj ab ab)<|aI aa (bJ aa aa)<|aI aa mv<|gs (t:=45) aa (fun bd=> ?_) fun bd=> ?_
 refine aI aa (aT (str s) aa)<|aI aa (aT (au i) aa)<|aI aa (bE ((i+1:Nat):Int) aa aa<|bj ab ab)<|aI aa (eQ u9 aa aa ab)<|aI aa (bJ aa aa)<|aI aa (bB aa)<|p (bp aa)<|nl<|am<|cd aa (fun aC=> ?_) fun aC=> ?_
 have E:iz (s.drop i)=none:=by
  rw [V,I]
  exact xv aa fun h=>h.2.2 ⟨ab,by rw [G8]; exact I2 aC⟩
 have M:=Y.bad ab E
 refine ag fun ah=>p aA<|aw<|ah<|rt<|tr<|tr<|br<|tr<|br<|tr<|f2 aa aa aa ?_
 have q:c8 s=([],41):=by unfold c8; rw [if_neg (fun h=>h.elim (fun h=>by rw [h] at C; exact C rfl) fun h=>by omega),if_neg J,M]
 exact ⟨⟨.slice none 0 0,by rw [q]; rfl,by rw [q]; exact dz _ _ _ _⟩,Md.trans G U⟩
 have E:iz (s.drop i)=some (91::(s.drop<|i+1).take ((s.drop<|i+1).idxOf 93 +1),(s.drop<|i+1).drop ((s.drop<|i+1).idxOf 93 +1)):=by
  rw [V,I]
  exact AX aa aP ab fun h=>aC<|by rw [← G8,h.2]; rfl
 have O:=Y.step (j:=i+1 +(s.drop<|i+1).idxOf 93 +1) E<|by rw [sh]; rfl
 rw [Fo I ab] at O
 exact aM<|aG<|rg aa<|p mv<|p (bE ((i+1 +(s.drop<|i+1).idxOf 93 +1:Nat):Int) aa aa<|bj ab ab)<|p aA<|nl<|tn<|⟨i+1 +(s.drop<|i+1).idxOf 93 +1,(ab),O,(aW aj U),(Md.trans G U),aa,aa,aa,aa⟩
 have E:iz (s.drop i)=some (91::(s.drop<|i+1).take ((s.drop<|i+1).idxOf 93 +1),(s.drop<|i+1).drop ((s.drop<|i+1).idxOf 93 +1)):=by
  rw [V,I]
  exact AX aa aP ab fun h=>by omega
 have O:=Y.step (j:=i+1 +(s.drop<|i+1).idxOf 93 +1) E<|by rw [sh]; rfl
 rw [Fo I ab] at O
 refine aE aa<|aE aa<|aE aa<|aE aa<|aE aa<|aI aa (bp aa)<|p (bp aa)<|nl<|am<|cf aa<|aM<|aG<|rg aa<|p mv<|p (bE ((i+1 +(s.drop<|i+1).idxOf 93 +1:Nat):Int) aa aa<|bj ab ab)<|p aA ?_
 exact nl<|tn<|⟨i+1 +(s.drop<|i+1).idxOf 93 +1,(ab),O,(aW aj U),(Md.trans G U),aa,aa,aa,aa⟩
 have bh:=vm az
 have V:=drop_cons (l:=s) (i:=i) 0 ab
 have E:iz (s.drop i)=some ([s.getD i 0],s.drop (i+1)):=by rw [V]; exact Gp bh
 have O:=Y.step (j:=i+1) E rfl
 rw [← Wi (show i < s.length by omega)] at O
 exact aM<|tn<|⟨i+1,(ab),O,aj,G,aa,aa,aa,aa⟩
 rintro al aD ⟨j,bH,bg,aR,a3,bt,bu,bv,bw⟩
 refine fx 0 bt<|fx 4 bu<|fx 5 bv<|fx 6 bw<|ag fun ac=>ak (Z)<|ak (str s)<|ak (au i)<|ak (au j)<|p (me u9 aa aa aa ab)<|p (cQ (ps:= [(0,str ((s.take j).drop i))]) (L:= [str ((s.take j).drop i)]) Yn aa<|aa)<|e<|kQ K0 aa aa aa fun bA bz bC ax a1=> ?_
 have aN:Wk w bz:=Md.trans a3 ax.md
 refine e<|ap K0 (aW aR ax.md) aa (by have :=aN.size; omega) aa (aJ.dX a1) (aa) (aa) ab ab fun bx bN bi a4 bI bG=> ?_
 have a2:=Wk.own aN (aW aR ax.md) a4<|cA _
 have bk:=Wt bi
 exact aw<|ac<|rg aa<|ak (au j)<|p (cJ (au j) aa)<|nl<|bn<|tn<|⟨_,ab,j,A++ [(s.take j).drop i],bx,(by rw [bL,fA]; omega),bg,bk,a2,aa,aa,aa,aa⟩
 refine ext<|ba<|ba<|be<|aZ<|aB fun ao=>aB fun ac=> ?_
 obtain ⟨ar,av,rfl⟩:=cB aj
 have M:=Y.done ab
 refine rg aa<|ak (.slice ar A.length av)<|p (bK rZ aa aa)<|p (gt aa aa)<|nl<|ac<|cd aa (fun a8=> ?_) fun a8=> ?_
 refine ag fun ae=>p aA<|aw<|ae<|rt<|tr<|f2 aa aa aa ?_
 have q:c8 s=([],42):=by unfold c8; rw [if_neg (fun h=>h.elim (fun h=>by rw [h] at C; exact C rfl) fun h=>by omega),if_neg J,M]; exact if_pos ab
 exact ⟨⟨.slice none 0 0,by rw [q]; rfl,by rw [q]; exact dz _ _ _ _⟩,G⟩
 refine aM<|ao<|ag fun ae=>ak (.slice ar A.length av)<|p (cJ (.slice ar A.length av) aa)<|p aA<|nl<|ae<|rt<|f2 aa aa aa ?_
 have q:c8 s=(A,0):=by unfold c8; rw [if_neg (fun h=>h.elim (fun h=>by rw [h] at C; exact C rfl) fun h=>by omega),if_neg J,M]; exact if_neg ab
 exact ⟨⟨_,by rw [q]; rfl,by rw [q]; exact aj⟩,G⟩
theorem Xs (ps:List (List UInt8)) (a:Option Addr) (c:Nat) (w:World) (M:aJ w.heap a (ps.map str)) (hn:ps.length≤4096) (O:∀ t∈ps,(t.length=1∨3≤t.length)∧t.length≤1048576):
 bm ay 275 (bf [.slice a ps.length c]) w (fun v w'=>v=str (ma ps)∧Wk w w'):=by
 refine enter func275 aa ntmps275 aa<|ag fun U=>aw<|U<|aB fun Y=>ag fun Z=>ak (.slice a ps.length c)<|p (bK rZ aa aa)<|p (bJ aa aa)<|nl<|Z<|cd aa (fun G=> ?_) fun G=> ?_
 exact ag fun C=>aw<|C<|rt<|tr<|aV aa<|⟨by unfold ma; rw [if_pos (fW ab)]; rfl,Md.refl _ _⟩
 refine aM<|Y<|ag fun C=>aw<|C<|aB fun ac=>ag fun ae=>aw<|ae<|aH<|lp (fun J A I=> ∃ (i:Nat),(i≤ps.length)∧(Wk w I)∧(((ps.take i).flatMap fun t=>gQ<|cD t).length≤i*300)∧(A 0= .slice a ps.length c)∧(A 3=str ((ps.take i).flatMap fun t=>gQ<|cD t))∧(A 4=au i)∧(ps.length - i=J)) _ ⟨0,ab,(Md.refl _ _),(by simp),aa,(by first | rfl | (rw [fK ps i [] ab,nw,o0]; rfl)),aa,aa⟩ ?_
 rintro J A I ⟨i,hi,q,hlen,an,ao,ap,rfl⟩
 refine fx 0 an<|fx 3 ao<|fx 4 ap<|aB fun ah=>ag fun ai=>ak (au i)<|ak (.slice a ps.length c)<|p (bK rZ aa aa)<|p (lt aa aa)<|nl<|ai<|cd aa (fun am=> ?_) fun am=> ?_
 refine aM<|ah<|aB fun E=>aH<|ag fun V=>ak (.slice a ps.length c)<|ak (au i)<|p (a8 Ho aa aa ab<|aJ.ok (M.wk q)<|bS ab)<|p (da sE aa (aa) (show ∀ j,j < 1→Hb.aO I.heap (bk a) (fo a+i*1 +j)= [str (ps.getD i [])][j]? from fun j aq=>by cases j with | zero=>exact (Jq (M.wk q) ab) | succ j=>omega))<|e<|cl P1 (XR (ps.getD i []) _ (O _<|dU ab).1 (O _<|dU ab).2) aa fun av ax al=> ?_
 obtain ⟨rfl,aj⟩:=al
 have ar:=Dp<|cD<|ps.getD i []
 exact aw<|V<|rg aa<|ak (str<|(ps.take i).flatMap fun t=>gQ<|cD t)<|p mv<|p (cc aa aa ab)<|p aA<|nl<|bn<|E<|rg aa<|ak (au i)<|p (bE ((i+1:Nat):Int) aa aa<|bj ab ab)<|p aA<|nl<|tn<|⟨_,ab,i+1,ab,(Md.trans q aj),(by rw [fK ps i [] ab,nw,o0,bL]; omega),aa,(by first | rfl | (rw [fK ps i [] ab,nw,o0]; rfl)),aa,aa⟩
 exact ext<|ba<|ba<|be<|ac<|ag fun E=>ak (str<|(ps.take i).flatMap fun t=>gQ<|cD t)<|p (cJ (str<|(ps.take i).flatMap fun t=>gQ<|cD t) aa)<|nl<|E<|rt<|aV aa<|⟨by unfold ma; rw [if_neg (fun h=>by rw [h] at G; exact G aa),show ps.take i=ps from eM ab]; rfl,q⟩
end Go.Hb
end
section
namespace Go.Hb
open Go.Hb.ka
theorem Iq {α:Type} {l:List α} {i:Nat} {d:α} (h:i < l.length):l.getD i d∈l:=by
 rw [cR,cC h]; exact List.getElem_mem h
theorem Dd (s:List UInt8) (w:World) (hs:s.length≤1048576):
 bm ay 113 (bf [str s]) w (fun v w'=>bq w' w.heap.size 9 1 (v) (bH s).length ((bH s).map str)∧Wk w w'):=by
 refine enter func113 aa ntmps113 aa<|ag fun aU=>aw<|aU ?_
 refine ed (fun aT aS=>(Wk w aS)∧(aT 0=str (k0 s))) ?_ ?_
 refine ag fun aj=>ak (str s)<|e<|cl Pa (CD s _) aa fun b9 ch bl=> ?_
 obtain ⟨rfl,aL⟩:=bl
 refine nl<|aj<|cb aa (fun Y=> ?_) fun Y=> ?_
 have b2:=VB Y
 exact rg aa<|ak (str s)<|p (mg u9 aa aa ab)<|p aA<|nl<|tn<|⟨aL,by show str (s.drop 3)=_; rw [YZ Y]⟩
 exact aM<|tn<|⟨aL,by show str s=_; rw [YY Y]⟩
 rintro aT aS ⟨aE,bB⟩
 refine fx 0 bB ?_
 have b4:=zd s
 refine ag fun aj=>aw<|aj<|ag fun aX=>e<|m4 im fun ax aQ bR bi a3=> ?_
 have bz:bq aQ w.heap.size 5 1 (.slice (some ⟨ax,0,none⟩) 0 0) (([]:List UInt8)).length (U8<|([]:List UInt8)):=a3 _<|by have :=aE.size; omega
 have a9:Wk w aQ:=Md.trans aE bi.md
 refine aw<|aX<|ag fun aY=>aw<|aY<|aB fun aZ=>ag fun a0=>aw<|a0<|aH<|lp (fun aD G ac=> ∃ (i:Nat) (q:List (List UInt8)) (a:List UInt8) (ob:Bool) (C Z:Value),(i≤(k0 s).length)∧(q++gh a ((k0 s).drop i)=bH s)∧(ob=decide (a≠[]))∧(a.length≤i)∧(Wk w ac)∧(bq ac w.heap.size 9 1 (C) (q).length<|(q).map str)∧(bq ac w.heap.size 5 1 (Z) (a).length<|U8<|a)∧(G 0=str (k0 s))∧(G 3=C)∧(G 4=Z)∧(G 5= .bool ob)∧(G 6= .int .i64 i)∧((k0 s).length - i=aD)) _ ⟨0,[],[],false,.slice none 0 0,.slice (some ⟨ax,0,none⟩) 0 0,ab,aa,aa,(by simp),a9,(dz _ _ _ _),bz,aa,aa,aa,aa,aa,aa⟩ ?_
 rintro aD G ac ⟨i,q,a,ob,C,Z,hi,hd,aP,bW,U,E,A,bC,bD,bE,bF,bG,rfl⟩
 refine fx 0 bC<|fx 3 bD<|fx 4 bE<|fx 5 bF<|fx 6 bG ?_
 have bY:q.length≤s.length+1:=by have h1:=congrArg jz hd; have h2:=nT s; rw [bL] at h1; omega
 have b3:=U.size
 refine aB fun a1=>ag fun a2=>ak (.int .i64 i)<|ak (str<|k0 s)<|p (cz u9 aa aa)<|p (lt aa aa)<|nl<|a2<|cd aa (fun bp=> ?_) fun bp=> ?_
 refine aM<|a1<|aB fun J=>aH<|aB fun ae=>ag fun I=>ak (str<|k0 s)<|ak (.int .i64 i)<|p (eQ u9 aa aa ab)<|p (db aa aa)<|nl<|I<|cd aa (fun aq=> ?_) fun aq=> ?_
 refine ag fun ah=>ak (Z)<|ak (str<|k0 s)<|ak (.int .i64 i)<|p (eQ u9 aa aa ab)<|e<|fZ im aa aa fun bO bK bS V a4=> ?_
 have aF:Wk w bK:=Md.trans U V.md
 refine e<|ap im (aW A V.md) aa (by have :=aF.size; omega) aa (aJ.dX a4) (aa) (aa) ab ab fun bI ca br aN b5 bZ=> ?_
 have bb:=Wk.own aF (aW A V.md) aN<|cA _
 have bs:=qL br
 have bx:=dq (aW E V.md) aN fun k hk=>mG E A az hk
 exact aw<|ah<|ag fun ai=>aw<|ai<|ext<|ba<|be<|J<|rg aa<|ak (.int .i64 i)<|p (ad aa aa<|bX ab)<|p aA<|nl<|tn<|⟨_,ab,i+1,q,a++ [(k0 s).getD i 0],true,C,bI,ab,(by rw [drop_cons 0 ab,CB (Wc aq)] at hd; exact hd),(by simp),(by rw [bL,fA]; omega),bb,bx,bs,aa,aa,aa,aa,aa,aa⟩
 have bo:=UR<|D3 aq
 obtain ⟨M,O,rfl⟩:=cB A
 refine aM<|ae<|ag fun ah=>ak (C)<|ak (.slice M a.length O)<|e<|cl FH (Hc a M O _ (a7 A).2 ab (a7 A).1) aa fun v30 cc bj=> ?_
 obtain ⟨rfl,al⟩:=bj
 refine e<|fZ fQ aa aa fun bP bM bT an a5=> ?_
 have aG:Wk w bM:=Md.trans (Md.trans U al) an.md
 refine e<|ap fQ (aW (aW E al) an.md) aa (by have :=aG.size; omega) aa (aJ.dX a5) (aa) (aa) ab ab fun bJ ce bt bg b6 b0=> ?_
 have aI:=Wk.own aG (aW (aW E al) an.md) bg<|cA _
 have bu:=mH bt
 refine aw<|ah<|ag fun ai=>e<|m4 im fun aC aR bU aO a6=> ?_
 have bc:Wk w aR:=Md.trans aI aO.md
 have bA:bq aR w.heap.size 5 1 (.slice (some ⟨aC,0,none⟩) 0 0) (([]:List UInt8)).length (U8<|([]:List UInt8)):=a6 _<|by have :=aI.size; omega
 exact aw<|ai<|rg aa<|p aA<|nl<|bn<|J<|rg aa<|ak (.int .i64 i)<|p (ad aa aa<|bX ab)<|p aA<|nl<|tn<|⟨_,ab,i+1,q++ [jJ a],[],false,bJ,.slice (some ⟨aC,0,none⟩) 0 0,ab,(by rw [drop_cons 0 ab,bo,Jo] at hd; rw [dD]; exact hd),aa,(by simp),bc,(aW bu aO.md),bA,aa,aa,aa,aa,aa,aa⟩
 refine ext<|ba<|ba<|be<|aZ<|aB fun J=>ag fun ae=>ak (.bool ob)<|nl<|ae<|cb aa (fun ar=> ?_) fun ar=> ?_
 have av:a≠[]:=by have :=aP.symm.trans ar; exact of_decide_eq_true this
 obtain ⟨M,O,rfl⟩:=cB A
 refine rg aa<|ak (C)<|ak (.slice M a.length O)<|e<|cl FH (Hc a M O _ (a7 A).2 ab (a7 A).1) aa fun v37 cf bk=> ?_
 obtain ⟨rfl,am⟩:=bk
 refine e<|fZ fQ aa aa fun bQ bN bV ao a8=> ?_
 have aK:Wk w bN:=Md.trans (Md.trans U am) ao.md
 refine e<|ap fQ (aW (aW E am) ao.md) aa (by have :=aK.size; omega) aa (aJ.dX a8) (aa) (aa) ab ab fun b8 cg bv bh b7 b1=> ?_
 have bd:=Wk.own aK (aW (aW E am) ao.md) bh<|cA _
 have bw:=mH bv
 refine aw<|J<|ag fun I=>p mv<|p aA<|nl<|I<|rt<|aV aa ?_
 have au:q++ [jJ a]=bH s:=by rw [← hd,show List.drop i (k0 s)= [] from gU ab,Jn av]
 exact ⟨by rw [← au]; exact bw,bd⟩
 have av:a= []:=D3<|of_decide_eq_false<|aP.symm.trans ar
 refine aM<|J<|ag fun I=>ak (C)<|p (cJ (C) aa)<|nl<|I<|rt<|aV aa ?_
 have au:q=bH s:=by rw [← hd,show List.drop i (k0 s)= [] from gU ab,av,CC,eh]
 exact ⟨by rw [← au]; exact E,U⟩
set_option maxHeartbeats 1000000 in
theorem KC (s:List UInt8) (w:World) (hs:s.length≤1048576):
 bm ay 112 (bf [str s]) w (fun v w'=>(∃ a,v= .tuple #[a,.int .i64 (if 65536 < s.length then 10 else 0)]∧(if 65536 < s.length then a= .slice none 0 0 else ∃ vs,bq w' w.heap.size 237 2 a (bP s).length (kL vs)∧gZ w' w.heap.size 9 vs (bP s)))∧Wk w w'):=by
 refine enter func112 aa ntmps112 aa<|ag fun bc=>p aA<|aw<|bc<|aB fun bk=>aB fun bl=>rg aa<|ak (str s)<|p (cz u9 aa aa)<|p (gt aa aa)<|nl<|bl<|cd aa (fun bD=> ?_) fun bD=> ?_
 refine ag fun aO=>p aA<|aw<|aO<|rt<|tr<|f2 aa aa aa ?_
 have aq:65536 < s.length:=ab
 exact ⟨⟨.slice none 0 0,by show gz #[.slice none 0 0,.int .i64 10]=_; rw [if_pos aq],by rw [if_pos aq]⟩,Md.refl _ _⟩
 refine aM<|bk<|ag fun aO=>aw<|aO<|aB fun bo=>rg aa<|ak (str s)<|e<|cl Ak (Dd s _ hs) aa fun ck ai bz=> ?_
 obtain ⟨a9,aS⟩:=bz
 obtain ⟨ax,aD,rfl⟩:=cB a9
 have a5:=(a7 a9).2
 have cg:=nT s
 refine aw<|bo<|aB fun br=>ag fun bs=>p aA<|nl<|bs<|aH<|lp (fun al aN aL=> ∃ (i:Nat) (M:Value) (vs:List (Nat×Value)),(i≤(bH s).length)∧(Wk ai aL)∧(bq aL ai.heap.size 237 2 M (lC 1<|(bH s).take i).length<|kL vs)∧(gZ aL ai.heap.size 9 vs<|lC 1<|(bH s).take i)∧(aN 4=M)∧(aN 5= .slice ax (bH s).length aD)∧(aN 6= .int .i64 i)∧((bH s).length - i=al)) _ ⟨0,.slice none 0 0,[],ab,(Md.refl _ _),(dz _ _ _ _),(gZ.nil _ _ _),aa,aa,aa,aa⟩ ?_
 rintro al aN aL ⟨i,M,vs,hi,an,J,ah,bU,bV,bW,rfl⟩
 refine fx 4 bU<|fx 5 bV<|fx 6 bW ?_
 have bR:=Dg ((bH s).take i) 1
 rw [dR] at bR
 have ch:=an.size
 refine aB fun bt=>aB fun bu=> ?_
 have ce:((bH s).getD i []).length≤s.length:=by rcases fi i (bH s).length with h | h <;> first | exact Cz (Iq h) | (rw [cR,List.getElem?_eq_none h]; exact jP _)
 refine rg aa<|ak (.int .i64 i)<|ak (.slice ax (bH s).length aD)<|p (bK eV aa aa)<|p (lt aa aa)<|nl<|bu<|cd aa (fun bF=> ?_) fun bF=> ?_
 refine aM<|bt<|aB fun ac=>aH<|ag fun bd=>p aA<|nl<|bd<|ag fun bg=>ak (.slice ax (bH s).length aD)<|ak (.int .i64 i)<|p (a8 cH aa aa ab<|aJ.ok (a5.wk an)<|bS ab)<|p (ld bT aa<|ca.get (i:=i) (a5.wk an) ab)<|e<|cl O9 (Xd ((bH s).getD i []) _ ab) aa fun cm aK bA=> ?_
 obtain ⟨bb,E⟩:=bA
 obtain ⟨av,aC,rfl⟩:=cB bb
 have aF:=(a7 bb).2
 have ae:Wk ai aK:=Md.trans an E
 have cb:=uN ((bH s).getD i []) []
 refine aw<|bg<|aB fun a2=>ag fun bh=>p aA<|nl<|bh<|aH<|lp (fun al Z a1=> ∃ (j:Nat) (aG:Value),(j≤(cE []<|(bH s).getD i []).length)∧(∀ q,q < j→vz ((cE []<|(bH s).getD i []).getD q [])=false)∧(Wk aK a1)∧(bq a1 aK.heap.size 9 1 (aG) ((cE []<|(bH s).getD i []).take j).length<|((cE []<|(bH s).getD i []).take j).map str)∧(Z 4=M)∧(Z 5= .slice ax (bH s).length aD)∧(Z 6= .int .i64 i)∧(Z 7=aG)∧(Z 8= .slice av (cE []<|(bH s).getD i []).length aC)∧(Z 9= .int .i64 j)∧((cE []<|(bH s).getD i []).length - j=al)) _ ⟨0,.slice none 0 0,ab,(fun q bQ=>by omega),(Md.refl _ _),(dz _ _ _ _),aa,aa,aa,aa,aa,aa,aa⟩ ?_
 rintro al Z a1 ⟨j,aG,a6,aY,A,U,bY,bZ,b0,b1,b2,b3,rfl⟩
 refine fx 4 bY<|fx 5 bZ<|fx 6 b0<|fx 7 b1<|fx 8 b2<|fx 9 b3 ?_
 have cc:((cE []<|(bH s).getD i []).take j).length≤j:=by rw [dR]; omega
 have ci:=A.size
 refine aB fun bi=>ag fun a3=>ak (.int .i64 j)<|ak (.slice av (cE []<|(bH s).getD i []).length aC)<|p (bK eV aa aa)<|p (lt aa aa)<|p mv<|gs (t:=30) aa (fun bJ=> ?_) fun bJ=> ?_
 refine aI aa (aT (.slice av (cE []<|(bH s).getD i []).length aC) aa)<|aI aa (aT (.int .i64 j) aa)<|aI aa (a8 cH aa aa ab<|aJ.ok (aF.wk A)<|bS ab)<|aI aa (ld bT aa<|ca.get (i:=j) (aF.wk A) ab)<|aI aa (iY 0 u9 aa aa<|lG.2 (BD _ _ _<|Iq ab).1)<|aI aa (db aa aa)<|p (bB aa)<|nl<|a3<|cd aa (fun bG=> ?_) fun bG=> ?_
 refine aM<|bi<|aB fun aj=>aH<|rg aa<|ak (aG)<|ak (.slice av (cE []<|(bH s).getD i []).length aC)<|ak (.int .i64 j)<|p (a8 cH aa aa ab<|aJ.ok (aF.wk A)<|bS ab)<|p (ld bT aa<|ca.get (i:=j) (aF.wk A) ab)<|e<|fZ fQ aa aa fun b7 b5 b8 aV bv=> ?_
 have a4:Wk aK b5:=Md.trans A aV.md
 refine e<|ap fQ (aW U aV.md) aa (by have :=a4.size; omega) aa (aJ.dX bv) (aa) (aa) ab ab fun v46 cn bM bx cj b9=> ?_
 have bw:=Wk.own a4 (aW U aV.md) bx<|cA _
 have bN:=mH bM
 exact p aA<|nl<|bn<|aj<|rg aa<|ak (.int .i64 j)<|p (ad aa aa<|bX ab)<|p aA<|nl<|tn<|⟨_,ab,j+1,v46,ab,(fun q bQ=>by rcases fi q j with h | h <;> first | exact aY q h | (rw [show q=j by omega]; exact decide_eq_false ab)),bw,(by rw [fK _ j [] ab]; exact bN),aa,aa,aa,aa,aa,aa,aa⟩
 have ao:nS (cE []<|(bH s).getD i [])=((cE []<|(bH s).getD i []).take j):=yr a6 aY<|.inr<|decide_eq_true ab
 obtain ⟨G,I,rfl⟩:=cB U
 refine ext<|ba<|ba<|be<|a2<|ag fun aj=>p (aT (.slice G ((cE []<|(bH s).getD i []).take j).length I) aa)<|p (bK eV aa aa)<|p (gt aa aa)<|nl<|aj<|cd aa (fun Y=> ?_) fun Y=> ?_
 have O:lx ((bH s).getD i []) (1 +i)= [(i+1,((cE []<|(bH s).getD i []).take j))]:=by unfold lx; rw [ao,if_neg (fun h=>by rw [h] at Y; simp at Y),NB]
 refine rg aa<|ak (M)<|ak (.int .i64 i)<|p (bE ((i+1:Nat):Int) aa aa<|bj ab ab)<|p (aT (.slice G ((cE []<|(bH s).getD i []).take j).length I) aa)<|p (cQ (ps:= [(0,au (i+1)),(1,.slice G ((cE []<|(bH s).getD i []).take j).length I)]) (L:= [au (i+1),.slice G ((cE []<|(bH s).getD i []).take j).length I]) Lh aa<|aa)<|e<|kQ yS aa aa aa fun aP ar bC C aQ=> ?_
 have aR:bO ar.heap aP [au (i+1),.slice G ((cE []<|(bH s).getD i []).take j).length I]:=aQ
 have am:Wk ai ar:=Md.trans ae<|Md.trans A C.md
 refine e<|ap yS (aW (aW (aW J E) A) C.md) aa (by have :=am.size; omega) aa (aJ.dX aR) (aa) (aa) ab ab fun a0 b6 aX V b4 bI=> ?_
 have aU:=Wk.own am (aW (aW (aW J E) A) C.md) V<|cA _
 have aZ:=((((ah.wk E).wk A).wk C.md).md V<|il (aW (aW (aW J E) A) C.md) az).snoc (n:=i+1)<|Tg.jM<|ez (dq (aW U C.md) V fun k hk=>mG (aW U C.md) (aW (aW (aW J E) A) C.md) az hk)<|by have :=Md.size ae; omega
 exact p aA<|nl<|bn<|ac<|rg aa<|ak (.int .i64 i)<|p (ad aa aa<|bX ab)<|p aA<|nl<|tn<|⟨_,ab,i+1,a0,vs++ [(i+1,.slice G ((cE []<|(bH s).getD i []).take j).length I)],ab,aU,(by rw [fK _ i [] ab,nk,show ((bH s).take i).length=i from by rw [dR]; omega,O,bL,Dm]; exact aX),(by rw [fK _ i [] ab,nk,show ((bH s).take i).length=i from by rw [dR]; omega,O]; exact aZ),aa,aa,aa,aa⟩
 have O:∀ n,lx ((bH s).getD i []) n= []:=fun n=>by unfold lx; rw [ao,if_pos (wx.1 ab)]
 exact aM<|bn<|ac<|rg aa<|ak (.int .i64 i)<|p (ad aa aa<|bX ab)<|p aA<|nl<|tn<|⟨_,ab,i+1,M,vs,ab,(Md.trans ae A),(by rw [fK _ i [] ab,nk,O,eh]; exact aW (aW J E) A),(by rw [fK _ i [] ab,nk,O,eh]; exact (ah.wk E).wk A),aa,aa,aa,aa⟩
 have ao:nS (cE []<|(bH s).getD i [])=((cE []<|(bH s).getD i []).take j):=yr a6 aY<|.inl ab
 obtain ⟨G,I,rfl⟩:=cB U
 refine aE aa<|aE aa<|aE aa<|aE aa<|aE aa<|aE aa<|p (bp aa)<|nl<|a3<|cf aa<|ext<|ba<|ba<|be<|a2<|aB fun aj=> ?_
 refine rg aa<|p (aT (.slice G ((cE []<|(bH s).getD i []).take j).length I) aa)<|p (bK eV aa aa)<|p (gt aa aa)<|nl<|aj<|cd aa (fun Y=> ?_) fun Y=> ?_
 have O:lx ((bH s).getD i []) (1 +i)= [(i+1,((cE []<|(bH s).getD i []).take j))]:=by unfold lx; rw [ao,if_neg (fun h=>by rw [h] at Y; simp at Y),NB]
 refine rg aa<|ak (M)<|ak (.int .i64 i)<|p (bE ((i+1:Nat):Int) aa aa<|bj ab ab)<|p (aT (.slice G ((cE []<|(bH s).getD i []).take j).length I) aa)<|p (cQ (ps:= [(0,au (i+1)),(1,.slice G ((cE []<|(bH s).getD i []).take j).length I)]) (L:= [au (i+1),.slice G ((cE []<|(bH s).getD i []).take j).length I]) Lh aa<|aa)<|e<|kQ yS aa aa aa fun aP ar bC C aQ=> ?_
 have aR:bO ar.heap aP [au (i+1),.slice G ((cE []<|(bH s).getD i []).take j).length I]:=aQ
 have am:Wk ai ar:=Md.trans ae<|Md.trans A C.md
 refine e<|ap yS (aW (aW (aW J E) A) C.md) aa (by have :=am.size; omega) aa (aJ.dX aR) (aa) (aa) ab ab fun a0 b6 aX V b4 bI=> ?_
 have aU:=Wk.own am (aW (aW (aW J E) A) C.md) V<|cA _
 have aZ:=((((ah.wk E).wk A).wk C.md).md V<|il (aW (aW (aW J E) A) C.md) az).snoc (n:=i+1)<|Tg.jM<|ez (dq (aW U C.md) V fun k hk=>mG (aW U C.md) (aW (aW (aW J E) A) C.md) az hk)<|by have :=Md.size ae; omega
 exact p aA<|nl<|bn<|ac<|rg aa<|ak (.int .i64 i)<|p (ad aa aa<|bX ab)<|p aA<|nl<|tn<|⟨_,ab,i+1,a0,vs++ [(i+1,.slice G ((cE []<|(bH s).getD i []).take j).length I)],ab,aU,(by rw [fK _ i [] ab,nk,show ((bH s).take i).length=i from by rw [dR]; omega,O,bL,Dm]; exact aX),(by rw [fK _ i [] ab,nk,show ((bH s).take i).length=i from by rw [dR]; omega,O]; exact aZ),aa,aa,aa,aa⟩
 have O:∀ n,lx ((bH s).getD i []) n= []:=fun n=>by unfold lx; rw [ao,if_pos (wx.1 ab)]
 exact aM<|bn<|ac<|rg aa<|ak (.int .i64 i)<|p (ad aa aa<|bX ab)<|p aA<|nl<|tn<|⟨_,ab,i+1,M,vs,ab,(Md.trans ae A),(by rw [fK _ i [] ab,nk,O,eh]; exact aW (aW J E) A),(by rw [fK _ i [] ab,nk,O,eh]; exact (ah.wk E).wk A),aa,aa,aa,aa⟩
 refine ext<|ba<|ba<|be<|br<|ag fun ac=>ak (M)<|p (cJ (M) aa)<|aw<|ac<|rt<|f2 aa aa aa ?_
 have aq:¬65536 < s.length:=ab
 rw [show (bH s).take i=bH s from eM ab] at J ah
 exact ⟨⟨M,by show gz #[M,.int .i64 0]=_; rw [if_neg aq],by rw [if_neg aq]; exact ⟨vs,ez J aS.size,ah.mono aS.size⟩⟩,Md.trans aS an⟩
end Go.Hb
end
section
namespace Go.Hb
open Go.Hb.js Go.Hb.lU Go.Hb.nz Go.Hb.ka
theorem vG {s:Tx} {k:Tx} {i:Nat} (h:s=k) (h1:k∈ea) (h2:ea.idxOf k=i):pR s=(i:Nat):=by subst h; unfold pR; rw [if_pos h1,h2]
theorem X6 {s:Tx} (h:s∉ea):pR s= -1:=if_neg h
def tz:List Tx:= [ik,iH,iR,ki,ff,eI]
theorem L1 {s:Tx} (h:s∈ea):width s=2:=if_pos<|.inl h
theorem Zf {s:Tx} (h:s∈tz):width s=2:=by
 unfold width
 rw [if_pos]
 simpa [tz] using Or.inr (gu.1 h)
theorem L2 {s:Tx} (h:s=fH∨s=di):width s=4:=by
 unfold width
 rw [if_neg,if_pos h]
 rcases h with rfl | rfl <;> decide
theorem Zg {s:Tx} (h:s∉ea) (h1:s∉tz) (h2:s≠fH) (h3:s≠di):width s=0:=by
 unfold width
 rw [if_neg,if_neg (by simp [h2,h3])]
 intro h4
 rcases h4 with h4 | h4
 · exact h h4
 · exact h1<|by simpa [tz] using h4
theorem It {F:aR} {V:ej} {i:Nat} (hi:i < 5):(nQ F V).toArray[0 +3 +((i:Nat):Int).toNat*1]? =some (bN<|F.sp.getD i 0):=by
 match i,hi with
 | 0,_=>rfl
 | 1,_=>rfl
 | 2,_=>rfl
 | 3,_=>rfl
 | 4,_=>rfl
theorem Jx {x:Nat} {l:List Nat} (h:∀ j,j < l.length→l.getD j 0≠x):x∉l:=fun hm=>by
 obtain ⟨j,a,e⟩:=nU 0 hm
 exact h j a e
theorem SZ {x:Nat} :∀ {cs:List cX} {i:Nat} {c:cX},(∀ j,j < i→(cs.getD j nH).flag≠x)→cs[i]? =some c→c.flag=x→dW cs x=some c:=by
 intro cs
 induction cs with
 | nil=>intro i c _ h; simp at h
 | cons a l E=>
   intro i c A hi C
   unfold dW
   rw [List.find?_cons]
   cases i with
   | zero=>simp only [ud,fU] at hi; subst hi; simp [C]
   | succ i=>
     have q:=A 0 ab
     simp only [lT] at q
     rw [decide_eq_false q]
     exact E (i:=i) (fun j G=>by have :=A (j+1) ab; simpa using this) (by simpa using hi) C
theorem S2 {x:Nat} {cs:List cX} (h:∀ j,j < cs.length→(cs.getD j nH).flag≠x):dW cs x=none:=by
 unfold dW
 rw [List.find?_eq_none]
 intro c a
 obtain ⟨j,i,e⟩:=nU nH a
 have :=h j i
 rw [e] at this
 simpa using this
theorem TC (l:List cX):(qA l).length=l.length*5:=oG (f:=ng) (m:=5) (fun _=>rfl) _
theorem yd {l:List cX} (h:0 < l.length):qA l≠[]:=fun h2=>by have :=congrArg jz h2; rw [TC] at this; simp at this; omega
theorem uE {l:List cX} {i:Nat} (h:i < l.length):l[i]? =some (l.getD i nH):=by rw [cR,cC h]; rfl
theorem G0 {F:aR} {x:Nat} (h:x∈F.sp):eG F x=true :=by unfold eG; rw [decide_eq_true h]; rfl
theorem G1 {F:aR} {x:Nat} (h:x∉F.sp):eG F x=(dW F.bw x).isSome:=by unfold eG; rw [decide_eq_false h]; rfl
theorem yG {s:Tx} (h:s∈ea∨s=eI∨s=fH∨s=di):s∈lB:=by
 rcases h with h | rfl | rfl | rfl
 · have :∀ k∈ea,k∈lB:=az
   exact this s h
 all_goals decide
theorem Wp {s:Tx} (h:s∉ea) (h1:s≠eI) (h2:s≠fH) (h3:s≠di):s∉lB:=by
 intro h4
 have :∀ k∈lB,k∈ea∨k=eI∨k=fH∨k=di:=az
 rcases this s h4 with h5 | h5 | h5 | h5
 · exact h h5
 · exact h1 h5
 · exact h2 h5
 · exact h3 h5
theorem yH {seen:List Tx} (h:∀ j,j < seen.length→seen.getD j []∉lB):ordered seen=true :=by
 rw [CV]
 intro k hk i
 obtain ⟨j,a,e⟩:=nU [] i
 exact h j a<|e ▸ hk
theorem Cg (s:Tx) (w:World):
 bm ay 173 (bf [str s]) w (fun v w'=>v= .int .i64 (pR s)∧w'=w):=by
 refine enter func173 aa ntmps173 aa<|ag fun U=>aw<|U<|aB fun V=>ag fun Y=>ak (str s)<|nl<|Y<|aH<|ag fun Z=>p (dV aa aa)<|p aA<|nl<|Z<|cd aa (fun J=> ?_) fun J=> ?_
 exact ag fun a=>aw<|a<|rt<|br<|tr<|aV aa<|⟨by rw [vG (k:=kj) (i:=0) J az az]; rfl,aa⟩
 refine ag fun a=>p (dV aa aa)<|aw<|a<|cd aa (fun M=> ?_) fun M=> ?_
 exact ag fun q=>aw<|q<|rt<|br<|tr<|aV aa<|⟨by rw [vG (k:=kG) (i:=1) M az az]; rfl,aa⟩
 refine ag fun q=>p (dV aa aa)<|aw<|q<|cd aa (fun O=> ?_) fun O=> ?_
 exact ag fun A=>aw<|A<|rt<|br<|tr<|aV aa<|⟨by rw [vG (k:=kV) (i:=2) O az az]; rfl,aa⟩
 refine ag fun A=>p (dV aa aa)<|aw<|A<|cd aa (fun G=> ?_) fun G=> ?_
 exact ag fun C=>aw<|C<|rt<|br<|tr<|aV aa<|⟨by rw [vG (k:=lu) (i:=3) G az az]; rfl,aa⟩
 refine ag fun C=>p (dV aa aa)<|aw<|C<|cd aa (fun I=> ?_) fun I=> ?_
 exact ag fun E=>aw<|E<|rt<|br<|tr<|aV aa<|⟨by rw [vG (k:=lP) (i:=4) I az az]; rfl,aa⟩
 exact aM<|bn<|V<|ag fun E=>aw<|E<|rt<|aV aa<|⟨by rw [X6 (by unfold ea; simp only [gu,uh,or_false,not_or]; exact ⟨J,M,O,G,I⟩)]; rfl,aa⟩
theorem T4 (s:Tx) (w:World):
 bm ay 114 (bf [str s]) w (fun v w'=>v=au (width s)∧Wk w w'):=by
 refine enter func114 aa ntmps114 aa<|ag fun ai=>aw<|ai<|ag fun am=>ak (str s)<|e<|cl Ar (Cg s w) aa fun v5 aD ax=> ?_
 obtain ⟨rfl,aC⟩:=ax
 have q:Wk w aD:=by rw [aC]; exact Md.refl _ _
 refine aw<|am<|aB fun an=>ag fun ao=>p mv<|p (ge aa aa)<|nl<|ao<|cd aa (fun M=> ?_) fun M=> ?_
 have C:=tA.1 M
 exact ag fun E=>aw<|E<|rt<|tr<|aV aa<|⟨by rw [L1 C]; rfl,q⟩
 have C:s∉ea:=fun h=>M<|tA.2 h
 refine aM<|an<|aB fun E=>ag fun ap=>ak (str s)<|nl<|ap<|aH ?_
 refine ed (fun O ac=> ∃ (b:Bool),(b=decide (s∈tz))∧(Wk w ac)∧(O 8=str s)∧(O 9= .bool b)) ?_ ?_
 refine ag fun i=>p (dV aa aa)<|aw<|i<|cd aa (fun a=> ?_) fun a=> ?_
 exact aM<|tn<|⟨_,(by rw [a]; decide),q,aa,aa⟩
 refine ag fun aq=>p (dV aa aa)<|aw<|aq<|cd aa (fun a=> ?_) fun a=> ?_
 exact aM<|tn<|⟨_,(by rw [a]; decide),q,aa,aa⟩
 refine ag fun ar=>p (dV aa aa)<|aw<|ar<|cd aa (fun a=> ?_) fun a=> ?_
 exact aM<|tn<|⟨_,(by rw [a]; decide),q,aa,aa⟩
 refine ag fun aj=>p (dV aa aa)<|aw<|aj<|cd aa (fun a=> ?_) fun a=> ?_
 exact aM<|tn<|⟨_,(by rw [a]; decide),q,aa,aa⟩
 refine ag fun al=>p (dV aa aa)<|aw<|al<|cd aa (fun a=> ?_) fun a=> ?_
 exact aM<|tn<|⟨_,(by rw [a]; decide),q,aa,aa⟩
 exact rg aa<|p (dV aa aa)<|p aA<|nl<|tn<|⟨_,(by clear C; unfold tz; simp_all [ik,iH,iR,ki,ff,eI]),q,aa,aa⟩
 rintro O ac ⟨b,J,I,Z,ab⟩
 refine fx 8 Z<|fx 9 ab<|cb aa (fun a=> ?_) fun a=> ?_
 exact ag fun i=>aw<|i<|rt<|br<|tr<|aV aa<|⟨by rw [Zf (of_decide_eq_true<|J.symm.trans a)]; rfl,I⟩
 refine ed (fun ah ae=> ∃ (G:Bool),(G=decide (s=fH∨s=di))∧(Wk w ae)∧(ah 16= .bool G)) ?_ ?_
 refine ag fun i=>p (dV aa aa)<|aw<|i<|cd aa (fun A=> ?_) fun A=> ?_
 exact aM<|tn<|⟨_,(by rw [A]; decide),I,aa⟩
 exact rg aa<|p (dV aa aa)<|p aA<|nl<|tn<|⟨_,(by clear J Z ab; simp [fH,di,A]),I,aa⟩
 rintro ah ae ⟨G,Y,V,az⟩
 refine fx 16 az<|cb aa (fun A=> ?_) fun A=> ?_
 exact ag fun i=>aw<|i<|rt<|br<|tr<|aV aa<|⟨by rw [L2 (of_decide_eq_true<|Y.symm.trans A)]; rfl,V⟩
 refine aM<|bn<|E<|ag fun i=>aw<|i<|rt<|aV aa ?_
 have av:=of_decide_eq_false<|J.symm.trans a
 have U:=of_decide_eq_false<|Y.symm.trans A
 exact ⟨by rw [Zg C av (fun h=>U<|.inl h) (fun h=>U<|.inr h)]; rfl,V⟩
theorem Ch (B:Nat) (H:gl) (k ln:Nat) (seen:List Tx) (vh:Value) (key:Tx) (w:World) (a:gY w B H k ln seen vh) (ao:seen.length≤70000):
 bm ay 115 (bf [aQ H.rb,str key]) w (fun v w'=>v= .bool (decide (key∈seen))∧w'=w):=by
 obtain ⟨am,an,rfl⟩:=cB a.hd
 refine enter func115 aa ntmps115 aa<|ag fun M=>aw<|M<|aB fun O=>ag fun U=>aw<|U<|aH<|lp (fun E q J=> ∃ (i:Nat),(i≤seen.length)∧(∀ j,j < i→seen.getD j []≠key)∧(J=w)∧(q 0=aQ H.rb)∧(q 1=str key)∧(q 5=au i)∧(seen.length - i=E)) _ ⟨0,ab,(fun j G=>by omega),aa,aa,aa,aa,aa⟩ ?_
 rintro E q J ⟨i,hi,I,ae,ai,aj,al,rfl⟩
 refine fx 0 ai<|fx 1 aj<|fx 5 al ?_
 subst ae
 refine aB fun V=>ag fun Y=>ak (au i)<|ak (aQ H.rb)<|p (nc aa)<|p (fa pI aa)<|p (ld jR aa<|(aX a.cells).trans aa)<|p (bK eV aa aa)<|p (lt aa aa)<|nl<|Y<|cd aa (fun ah=> ?_) fun ah=> ?_
 refine aM<|V<|aB fun A=>aH<|ag fun Z=>ak (aQ H.rb)<|p (nc aa)<|p (fa pI aa)<|p (ld jR aa<|(aX a.cells).trans aa)<|ak (au i)<|p (a8 cH aa aa ab<|aJ.ok ((a7 a.hd).2)<|bS ab)<|p (ld bT aa<|ca.get (i:=i) (a7 a.hd).2 ab)<|ak (str key)<|p (dV aa aa)<|nl<|Z<|cd aa (fun C=> ?_) fun C=> ?_
 exact ag fun ac=>aw<|ac<|rt<|br<|tr<|tr<|br<|tr<|aV aa<|⟨by rw [decide_eq_true (show key∈seen from C ▸ dU ab)]; rfl,aa⟩
 exact aM<|bn<|A<|rg aa<|ak (au i)<|p (ad aa aa<|bX ab)<|p aA<|nl<|tn<|⟨_,ab,i+1,ab,(fun j G=>by rcases fi j i with h | h <;> first | exact I j h | (rw [show j=i by omega]; exact C)),aa,aa,aa,aa,aa⟩
 exact ext<|ba<|ba<|be<|O<|ag fun A=>p aA<|nl<|A<|rt<|aV aa<|⟨by rw [decide_eq_false (show ¬key∈seen from fun h=>by obtain ⟨j,G,e⟩:=nU [] h; exact I j ab e)]; rfl,aa⟩
theorem B8 (B B0 fb:Nat) (F:aR) (V:ej) (x:Nat) (w:World) (U:eE w B B0 fb F V) (aP:F.bw.length≤70000):
 bm ay 117 (bf [aQ fb,bN x]) w (fun v w'=>v= .tuple #[.agg (ng<|(dW F.bw x).getD nH).toArray,.bool (dW F.bw x).isSome]∧Wk w w'):=by
 obtain ⟨aq,ky,Z⟩:=cB U.ep
 refine enter func117 aa ntmps117 aa<|ag fun ah=>e<|al r5 fun ar ac aN E M=> ?_
 have O:=U.wk E.md
 have G:Hb.aO ac.heap fb 11=some (.slice aq F.bw.length ky):=by rw [← Z]; exact (aX O.cells).trans rfl
 have a:=O.ep
 rw [Z] at a
 refine aw<|ah<|aB fun ai=>ag fun aj=>p aA<|nl<|aj<|aH<|lp (fun J q ae=> ∃ (i:Nat),(i≤F.bw.length)∧(∀ j,j < i→(F.bw.getD j nH).flag≠x)∧(ae=ac)∧(q 0=aQ fb)∧(q 1=bN x)∧(q 4=aQ ar)∧(q 6=au i)∧(F.bw.length - i=J)) _ ⟨0,ab,(fun j A=>by omega),aa,aa,aa,aa,aa,aa⟩ ?_
 rintro J q ae ⟨i,hi,I,aC,aG,aI,aK,aL,rfl⟩
 refine fx 0 aG<|fx 1 aI<|fx 4 aK<|fx 6 aL ?_
 subst aC
 refine aB fun am=>ag fun an=>ak (au i)<|ak (aQ fb)<|p (nc aa)<|p (fa pH aa)<|p (ld qe aa<|G)<|p (bK DF aa aa)<|p (lt aa aa)<|nl<|an<|cd aa (fun aF=> ?_) fun aF=> ?_
 refine aM<|am<|aB fun C=>aH<|ag fun ao=>ak (aQ fb)<|p (nc aa)<|p (fa pH aa)<|p (ld qe aa<|G)<|ak (au i)<|p (a8 xN aa aa ab<|aJ.ok ((a7 a).2)<|yd ab)<|p (fa BR aa)<|p (ld bu aa<|fG (f:=ng) (m:=5) (fun _=>rfl) (a7 a).2 (uE (by omega :i < F.bw.length)) 0 az)<|ak (bN x)<|p (bJ aa aa)<|nl<|ao<|cd aa (fun Y=> ?_) fun Y=> ?_
 exact ag fun ap=>ak (aQ fb)<|p (nc aa)<|p (fa pH aa)<|p (ld qe aa<|G)<|ak (au i)<|p (a8 xN aa aa ab<|aJ.ok ((a7 a).2)<|yd ab)<|p (da sD aa (aa)<|fG (f:=ng) (m:=5) (fun _=>rfl) (a7 a).2<|uE (by omega :i < F.bw.length))<|e<|cW qn aa aa aa aa (M) (by simp) fun aS aD av=>aw<|ap<|rt<|br<|tr<|tr<|br<|tr<|ew aa (dN (cs:=ng<|F.bw.getD i nH) aa sD aa fun j A=>av.bG j) eb<|⟨by rw [SZ I (uE ab) ab]; rfl,E.md.trans' aD fun k hk h=>by omega⟩
 exact aM<|bn<|C<|rg aa<|ak (au i)<|p (ad aa aa<|bX ab)<|p aA<|nl<|tn<|⟨_,ab,i+1,ab,(fun j A=>by rcases fi j i with h | h <;> first | exact I j h | (rw [show j=i by omega]; exact fun h2=>Y<|by rw [h2])),aa,aa,aa,aa,aa,aa⟩
 exact ext<|ba<|ba<|be<|ai<|ag fun C=>p (cQ (ps:= []) (L:= [.int .i64 0,.int .i64 0,.bool false,.int .i64 0,.int .i64 0]) Li aa<|aa)<|e<|cW qn aa aa aa aa (M) (by simp) fun aT aE ax=>aw<|C<|rt<|ew aa (dN (cs:=ng nH) aa sD aa fun j A=>ax.bG j) eb<|⟨by rw [S2 (fun j A=>I j ab)]; rfl,E.md.trans' aE fun k hk h=>by omega⟩
theorem TD (B B0 fb:Nat) (F:aR) (V:ej) (x:Nat) (w:World) (C:eE w B B0 fb F V) (aq:F.bw.length≤70000):
 bm ay 233 (bf [aQ fb,bN x]) w (fun v w'=>v= .bool (eG F x)∧Wk w w'):=by
 have aE:=C.fR
 refine enter func233 aa ntmps233 aa<|ag fun U=>aw<|U<|aB fun Y=>ag fun Z=>aw<|Z<|aH<|lp (fun G a E=> ∃ (i:Nat),(i≤5)∧(∀ j,j < i→F.sp.getD j 0≠x)∧(E=w)∧(a 0=aQ fb)∧(a 1=bN x)∧(a 5=au i)∧(5 - i=G)) _ ⟨0,ab,(fun j M=>by omega),aa,aa,aa,aa,aa⟩ ?_
 rintro G a E ⟨i,hi,O,aj,ar,av,ax,rfl⟩
 refine fx 0 ar<|fx 1 av<|fx 5 ax ?_
 subst aj
 refine aB fun ac=>ag fun ae=>ak (au i)<|p (lt aa aa)<|nl<|ae<|cd aa (fun ap=> ?_) fun ap=> ?_
 refine aM<|ac<|aB fun q=>aH<|ag fun A=>ak (aQ fb)<|ak (au i)<|p (nc aa)<|p (fa s6 aa)<|p (kh sI aa aa ab)<|p (ld bu aa<|(aX C.cells).trans<|It (i:=i) ab)<|ak (bN x)<|p (bJ aa aa)<|nl<|A<|cd aa (fun J=> ?_) fun J=> ?_
 exact ag fun ah=>aw<|ah<|rt<|br<|tr<|tr<|br<|tr<|aV aa<|⟨by rw [G0 (show x∈F.sp from by obtain rfl :F.sp.getD i 0=x:=ab; exact dU ab)]; rfl,Md.refl _ _⟩
 exact aM<|bn<|q<|rg aa<|ak (au i)<|p (ad aa aa<|bX ab)<|p aA<|nl<|tn<|⟨_,ab,i+1,ab,(fun j M=>by rcases fi j i with h | h <;> first | exact O j h | (rw [show j=i by omega]; exact fun h2=>J<|by rw [h2])),aa,aa,aa,aa,aa⟩
 refine ext<|ba<|ba<|be<|Y<|ag fun q=>ak (aQ fb)<|ak (bN x)<|e<|cl Am (B8 B B0 fb F V x E C aq) aa fun aG aI ao=> ?_
 obtain ⟨rfl,I⟩:=ao
 have aF:=I.size
 exact p mv<|p (xt aa aa)<|p (xt aa aa)<|e<|al r5 fun az aJ aD an ai=>e<|cW qn aa aa aa aa (ai) (by simp) fun aK am aC=>aw<|q<|ag fun A=>p mv<|aw<|A<|rt<|aV aa<|⟨by rw [G1 (Jx fun j M=>O j ab)]; rfl,(I.trans an.md).trans' am fun k hk h=>by omega⟩
theorem B9 (s:Tx) (w:World) (hs:s.length≤1048576):
 bm ay 274 (bf [str s]) w (fun v w'=>v=au (gF s)∧Wk w w'):=by
 refine enter func274 aa ntmps274 aa<|ag fun J=>aw<|J<|ag fun M=>ak (str s)<|e<|cl uC (vv s w hs) aa fun v5 ae V=> ?_
 obtain ⟨rfl,i⟩:=V
 refine aw<|M<|aB fun O=>ag fun E=>ak (str s)<|p (cz u9 aa aa)<|p (bJ aa aa)<|p mv<|gs (t:=9) aa (fun G=> ?_) fun G=> ?_
 have ac:=fW (show s.length=0 by omega)
 exact aE aa<|aE aa<|p (bB aa)<|nl<|E<|ct aa<|ag fun a=>aw<|a<|rt<|tr<|aV aa<|⟨by rw [xR (.inl ac)]; rfl,i⟩
 have I:s≠[]:=fun h=>G<|by rw [h]; rfl
 refine aI aa mv<|aI aa (no aa)<|p (bp aa)<|nl<|E<|cb aa (fun q=> ?_) fun q=> ?_
 refine ag fun a=>aw<|a<|rt<|tr<|aV aa ?_
 have Y:gv s=false :=by simpa using q
 exact ⟨by rw [xR (.inr Y)]; rfl,i⟩
 refine aM<|O<|aB fun a=>ag fun U=>ak (str s)<|p (cz u9 aa aa)<|p (gt aa aa)<|nl<|U<|cd aa (fun Z=> ?_) fun Z=> ?_
 refine ag fun A=>aw<|A<|rt<|tr<|aV aa ?_
 have C:gv s=true :=by simpa using q
 exact ⟨by rw [HB I C ab]; rfl,i⟩
 refine aM<|a<|ag fun A=>aw<|A<|rt<|aV aa ?_
 have C:gv s=true :=by simpa using q
 exact ⟨by rw [HC I C ab]; rfl,i⟩
theorem Ce (s:Tx) (G:Bool) (w:World) (hs:s.length≤1048576):
 bm ay 259 (bf [str s,.bool G]) w (fun v w'=>(∃ (a:Tx) (e:Nat),v= .tuple #[str a,au e]∧((eA G s= .ok a∧e=0)∨(eA G s= .error e∧e≠0)))∧Wk w w'):=by
 have ao:=r4 s
 refine enter func259 aa ntmps259 aa<|ag fun al=>p aA<|aw<|al<|aB fun ai=>aB fun aj=>rg aa<|ak (.bool G)<|ak (.bool G)<|gb (t:=11) aa (fun J=> ?_) fun J=> ?_
 refine aI aa (aT (str s) aa)<|aI aa (dV aa aa)<|p (bB aa)<|nl<|aj<|cd aa (fun ac=> ?_) fun ac=> ?_
 exact ag fun I=>p aA<|aw<|I<|rt<|tr<|f2 aa aa aa<|⟨⟨[],0,aa,.inl ⟨by rw [J]; exact Ke ac,aa⟩⟩,Md.refl _ _⟩
 have q:eA G s=eA false s:=by rw [J]; exact C2 ac
 refine aM<|ai<|ag fun I=>ak (str s)<|e<|cl xo (yO s w hs) aa fun am ah Y=> ?_
 obtain ⟨rfl,E⟩:=Y
 refine p mv<|p (xt aa aa)<|p (xt aa aa)<|p (xt aa aa)<|p (xt aa aa)<|p aA<|p aA<|p aA<|aw<|I<|aB fun M=>ag fun O=>p mv<|p (db aa aa)<|nl<|O<|cd aa (fun ae=> ?_) fun ae=> ?_
 exact ag fun A=>p mv<|p aA<|aw<|A<|rt<|tr<|f2 aa aa aa<|⟨⟨[],_,aa,.inr ⟨q.trans (CY ab),ab⟩⟩,E⟩
 refine aM<|M<|aB fun A=>ag fun U=>p mv<|nl<|U<|cb aa (fun i=> ?_) fun i=> ?_
 exact ag fun C=>p aA<|aw<|C<|rt<|tr<|f2 aa aa aa<|⟨⟨[],114,aa,.inr ⟨q.trans (CZ ab i),az⟩⟩,E⟩
 refine aM<|A<|ag fun C=>p mv<|p mv<|e<|cl AL (B9 (bA s).1 ah ab) aa fun v28 an Z=> ?_
 obtain ⟨rfl,V⟩:=Z
 refine p aA<|aw<|C<|rt<|f2 aa aa aa ?_
 refine ⟨⟨(bA s).1,gF (bA s).1,aa,?_⟩,E.trans V⟩
 by_cases h:gF (bA s).1=0
 exact .inl ⟨q.trans (C1 ab i h),h⟩
 exact .inr ⟨q.trans (C0 ab i h),h⟩
 have q:eA G s=eA false s:=by rw [J]
 refine aE aa<|aE aa<|p (bp aa)<|nl<|aj<|cf aa<|aM<|ai<|ag fun I=>ak (str s)<|e<|cl xo (yO s w hs) aa fun am ah Y=> ?_
 obtain ⟨rfl,E⟩:=Y
 refine p mv<|p (xt aa aa)<|p (xt aa aa)<|p (xt aa aa)<|p (xt aa aa)<|p aA<|p aA<|p aA<|aw<|I<|aB fun M=>ag fun O=>p mv<|p (db aa aa)<|nl<|O<|cd aa (fun ae=> ?_) fun ae=> ?_
 exact ag fun A=>p mv<|p aA<|aw<|A<|rt<|tr<|f2 aa aa aa<|⟨⟨[],_,aa,.inr ⟨q.trans (CY ab),ab⟩⟩,E⟩
 refine aM<|M<|aB fun A=>ag fun U=>p mv<|nl<|U<|cb aa (fun i=> ?_) fun i=> ?_
 exact ag fun C=>p aA<|aw<|C<|rt<|tr<|f2 aa aa aa<|⟨⟨[],114,aa,.inr ⟨q.trans (CZ ab i),az⟩⟩,E⟩
 refine aM<|A<|ag fun C=>p mv<|p mv<|e<|cl AL (B9 (bA s).1 ah ab) aa fun v28 an Z=> ?_
 obtain ⟨rfl,V⟩:=Z
 refine p aA<|aw<|C<|rt<|f2 aa aa aa ?_
 refine ⟨⟨(bA s).1,gF (bA s).1,aa,?_⟩,E.trans V⟩
 by_cases h:gF (bA s).1=0
 exact .inl ⟨q.trans (C1 ab i h),h⟩
 exact .inr ⟨q.trans (C0 ab i h),h⟩
theorem Ir (B fb:Nat) (F:aR) (V:ej) (s:Tx) (w:World) (C:nB w B 0 fb F V) (hk:F.kind=1∨F.kind=2∨F.kind=3) (aD:F.aliases.length≤70000) (hs:s.length≤1048576):
 bm ay 181 (bf [aQ fb,str s]) w (fun v w'=>(∃ (a:Value) (e:Nat),v= .tuple #[a,au e]∧a.oneCell'=true∧((∃ l,e=0∧fV F.kind F.aliases s= .ok l∧Tg w' 0 3 l.length a (l.map bN))∨(e≠0∧fV F.kind F.aliases s= .error e)))∧Wk w w'):=by
 obtain ⟨am,ao,ac⟩:=cB C.eT
 have M:=C.eT
 rw [ac] at M
 have I:Hb.aO w.heap fb 10=some (.slice am F.aliases.length ao):=by rw [← ac]; exact (aX C.cells).trans rfl
 refine enter func181 aa ntmps181 aa<|ag fun ae=>p aA<|aw<|ae<|aB fun ah=>aB fun ai=>rg aa<|ak (aQ fb)<|p (nc aa)<|p (fa uR aa)<|p (ld xc aa<|I)<|p (bK LG aa aa)<|p (bJ aa aa)<|nl<|ai<|cd aa (fun J=> ?_) fun J=> ?_
 have q:F.aliases= []:=fW ab
 refine ag fun G=>ak (aQ fb)<|p (nc aa)<|p (fa s5 aa)<|p (ld bu aa<|(aX C.cells).trans aa)<|ak (str s)<|e<|cl FX (Ky F.kind s _ hk hs) aa fun aG aK ap=> ?_
 obtain ⟨⟨aC,rfl,Z⟩,hE19⟩:=ap
 refine p (xt aa aa)<|p (xt aa aa)<|p aA<|aw<|G<|rt<|tr<|f2 aa aa aa ?_
 obtain ⟨a0,an,rfl⟩:=cB Z
 refine ⟨⟨_,_,aa,aa,?_⟩,hE19⟩
 by_cases h:(dY F.kind s).2=0
 exact .inl ⟨_,h,by rw [xW q]; exact yb h,(Tg.jM Z).mono<|jP _⟩
 exact .inr ⟨h,by rw [xW q]; exact ya h⟩
 have q:F.aliases≠[]:=fun h=>by rw [h] at J; exact J rfl
 refine aM<|ah<|ag fun G=>ak (str s)<|ak (aQ fb)<|p (nc aa)<|p (fa uR aa)<|p (ld xc aa<|I)<|p (bK LG aa aa)<|e<|cl ry (rS s (F.aliases.length:Nat) _ hs ab) aa fun aH aL aq=> ?_
 obtain ⟨rfl,i⟩:=aq
 refine p mv<|p (xt aa aa)<|p (xt aa aa)<|p aA<|aw<|G<|aB fun aj=>ag fun U=>p mv<|p (db aa aa)<|p mv<|gs (t:=34) aa (fun av=> ?_) fun av=> ?_
 exact aE aa<|aE aa<|p (bB aa)<|nl<|U<|ct aa<|ag fun A=>p aA<|aw<|A<|rt<|tr<|f2 aa aa aa<|⟨⟨.slice none 0 0,13,aa,aa,.inr ⟨az,HM q (pO ab).1⟩⟩,i⟩
 refine aI aa mv<|aI aa (bJ aa aa)<|p (bp aa)<|nl<|U<|cd aa (fun ar=> ?_) fun ar=> ?_
 refine ag fun A=>p aA<|aw<|A<|rt<|tr<|f2 aa aa aa ?_
 have E:=nW (by omega :(dZ s (F.aliases.length:Nat)).2=0)
 rw [show (dZ s (F.aliases.length:Nat)).1=0 from by omega] at E
 exact ⟨⟨.slice none 0 0,13,aa,aa,.inr ⟨az,HQ q E⟩⟩,i⟩
 refine aM<|aj<|aB fun A=> ?_
 have E:=nW (by omega :(dZ s (F.aliases.length:Nat)).2=0)
 have aF:=qJ s (F.aliases.length:Nat) ab
 have ax:(dZ s (F.aliases.length:Nat)).1 - 1 < F.aliases.length:=ab
 obtain ⟨v51,O,Y⟩:=iw.get (C.al.wk i) ax
 refine rg aa<|ak (aQ fb)<|p (nc aa)<|p (fa uR aa)<|p (ld xc aa<|Wk.aO i I)<|p mv<|p (dK (((dZ s (F.aliases.length:Nat)).1 - 1:Nat):Int) aa aa<|bj ab ab)<|p (a8 SO aa aa ab<|aJ.ok ((a7<|aW M i).2) fun h=>by rw [h] at O; cases O)<|p (ld pz aa<|aJ.gK (a7<|aW M i).2 O)<|p aA<|aw<|A<|rt<|f2 aa aa aa ?_
 obtain ⟨a0,an,rfl⟩:=Y.slice
 exact ⟨⟨_,0,aa,aa,.inl ⟨_,aa,HP q E ab,Y⟩⟩,i⟩
theorem Is (B:Nat) (H:gl) (F:aR) (V:ej) (k ln:Nat) (seen:List Tx) (vh:Value) (s:Tx) (w:World) (E:eE w B 0 H.fb F V) (G:gY w B H k ln seen vh) (hk:F.kind=1∨F.kind=2∨F.kind=3) (ah:F.bw.length≤70000) (hs:s.length≤1048576):
 bm ay 174 (bf [aQ H.rb,str s]) w (fun v w'=>(∃ x e:Nat,v= .tuple #[bN x,au e]∧((gH F s= .ok x∧x≠0∧e=0)∨(gH F s= .error e∧e≠0)))∧Wk w w'):=by
 refine enter func174 aa ntmps174 aa<|ag fun I=>p aA<|aw<|I<|ag fun J=>ak (aQ H.rb)<|p (nc aa)<|p (fa lO aa)<|p (ld ig aa<|(aX G.cells).trans aa)<|p (nc aa)<|p (fa s5 aa)<|p (ld bu aa<|(aX E.cells).trans aa)<|ak (str s)<|e<|cl Pv (Xp F.kind s w hk hs) aa fun aj ai Z=> ?_
 obtain ⟨rfl,a⟩:=Z
 refine p mv<|p (xt aa aa)<|p (xt aa aa)<|p aA<|aw<|J<|aB fun M=>ag fun O=>p mv<|p (db aa aa)<|nl<|O<|cd aa (fun ae=> ?_) fun ae=> ?_
 exact ag fun i=>p mv<|p aA<|aw<|i<|rt<|tr<|f2 aa aa aa<|⟨⟨0,(gN F.kind s).2,aa,.inr ⟨Il ab,ab⟩⟩,a⟩
 refine aM<|M<|ag fun i=>ak (aQ H.rb)<|p (nc aa)<|p (fa lO aa)<|p (ld ig aa<|(aX (G.wk a).cells).trans aa)<|p mv<|e<|cl Pw (TD B 0 H.fb F V (gN F.kind s).1 ai (E.wk a) ah) aa fun al am ac=> ?_
 obtain ⟨rfl,C⟩:=ac
 refine aw<|i<|aB fun U=>ag fun Y=>p mv<|nl<|Y<|cb aa (fun A=> ?_) fun A=> ?_
 exact ag fun q=>p aA<|aw<|q<|rt<|tr<|f2 aa aa aa<|⟨⟨0,115,aa,.inr ⟨Im ab A,az⟩⟩,a.trans C⟩
 exact aM<|U<|ag fun q=>p mv<|p aA<|p aA<|nl<|q<|rt<|f2 aa aa aa<|⟨⟨_,0,aa,.inl ⟨Io ab A,Ic ab,aa⟩⟩,a.trans C⟩
theorem TX (ah:World) (H:gl) (F:aR) (k ln:Nat) (seen r:List Tx) (aL:Nat) (ar:Option Addr) (cr:Nat) (w:World) (aZ:mo ah w H F k ln seen) (a0:Tg w aL 9 r.length (.slice ar r.length cr) (r.map str)) (bd:r.length=2) (bg:∀ x∈r,x.length≤70000):
 bm ay 175 (bf [aQ H.rb,.slice ar r.length cr]) w (fN ah H seen<|kH F seen (H.rows.drop k) ln r):=by
 obtain ⟨V,vh,q,a,C,G,aD⟩:=aZ
 have aK:=a0.cI
 have bc:=a.lo
 have bb:=C.len
 obtain ⟨a6,a9,rfl⟩:=cB a.hd
 have bh:=C.sl
 refine enter func175 aa ntmps175 aa<|ag fun aN=>aw<|aN<|aB fun aO=>ag fun aP=>aw<|aP<|aH<|lp (fun aG al aF=> ∃ (i:Nat),(i≤seen.length)∧(∀ j,j < i→seen.getD j []∉lB)∧(aF=w)∧(al 0=aQ H.rb)∧(al 1= .slice ar r.length cr)∧(al 5=au i)∧(seen.length - i=aG)) _ ⟨0,ab,(fun j ac=>by omega),aa,aa,aa,aa,aa⟩ ?_
 rintro aG al aF ⟨i,hi,ae,aW,a2,a3,a4,rfl⟩
 refine fx 0 a2<|fx 1 a3<|fx 5 a4 ?_
 subst aW
 refine aB fun aS=>ag fun aU=>ak (au i)<|ak (aQ H.rb)<|p (nc aa)<|p (fa pI aa)<|p (ld jR aa<|(aX a.cells).trans aa)<|p (bK eV aa aa)<|p (lt aa aa)<|nl<|aU<|cd aa (fun a1=> ?_) fun a1=> ?_
 refine aM<|aS<|aB fun O=>aH<|ag fun ao=>ak (aQ H.rb)<|p (nc aa)<|p (fa pI aa)<|p (ld jR aa<|(aX a.cells).trans aa)<|ak (au i)<|p (a8 cH aa aa ab<|aJ.ok ((a7 a.hd).2)<|bS ab)<|p (ld bT aa<|ca.get (i:=i) (a7 a.hd).2 ab)<|e<|cl Ar (Cg (seen.getD i []) aF) aa fun bi bj aY=> ?_
 obtain ⟨rfl,a5⟩:=aY
 subst a5
 refine aw<|ao<|ag fun M=>p mv<|p (ge aa aa)<|p mv<|gs (t:=26) aa (fun av=> ?_) fun av=> ?_
 exact aE aa<|aE aa<|aE aa<|aE aa<|aE aa<|aE aa<|aE aa<|aE aa<|p (bB aa)<|p mv<|aE aa<|aE aa<|aE aa<|aE aa<|aE aa<|aE aa<|aE aa<|aE aa<|p (bB aa)<|p mv<|aE aa<|aE aa<|aE aa<|aE aa<|aE aa<|aE aa<|aE aa<|aE aa<|p (bB aa)<|nl<|M<|ct aa<|ag fun A=>aw<|A<|rt<|br<|tr<|tr<|br<|tr<|aV aa<|⟨.inr ⟨ln,113,u7 (k:=seen.getD i []) (yG<|.inl<|tA.1 av) (dU ab),az,aa,a.dj⟩,G⟩
 refine aI aa (aT (aQ H.rb) aa)<|aI aa (nc aa)<|aI aa (fa pI aa)<|aI aa (ld jR aa<|(aX a.cells).trans aa)<|aI aa (aT (au i) aa)<|aI aa (a8 cH aa aa ab<|aJ.ok ((a7 a.hd).2)<|bS ab)<|aI aa (ld bT aa<|ca.get (i:=i) (a7 a.hd).2 ab)<|aI aa (dV aa aa)<|p (bp aa)<|p mv<|gs (t:=36) aa (fun ax=> ?_) fun ax=> ?_
 exact aE aa<|aE aa<|aE aa<|aE aa<|aE aa<|aE aa<|aE aa<|aE aa<|p (bB aa)<|p mv<|aE aa<|aE aa<|aE aa<|aE aa<|aE aa<|aE aa<|aE aa<|aE aa<|p (bB aa)<|nl<|M<|ct aa<|ag fun A=>aw<|A<|rt<|br<|tr<|tr<|br<|tr<|aV aa<|⟨.inr ⟨ln,113,u7 (k:=seen.getD i []) (yG<|.inr<|.inl ax) (dU ab),az,aa,a.dj⟩,G⟩
 refine aI aa (aT (aQ H.rb) aa)<|aI aa (nc aa)<|aI aa (fa pI aa)<|aI aa (ld jR aa<|(aX a.cells).trans aa)<|aI aa (aT (au i) aa)<|aI aa (a8 cH aa aa ab<|aJ.ok ((a7 a.hd).2)<|bS ab)<|aI aa (ld bT aa<|ca.get (i:=i) (a7 a.hd).2 ab)<|aI aa (dV aa aa)<|p (bp aa)<|p mv<|gs (t:=46) aa (fun aC=> ?_) fun aC=> ?_
 refine aE aa<|aE aa<|aE aa<|aE aa<|aE aa<|aE aa<|aE aa<|aE aa<|p (bB aa)<|nl<|M<|ct aa<|ag fun A=>p aA<|nl<|A<|rt<|br<|tr<|tr<|br<|tr<|aV aa ?_
 exact ⟨.inr ⟨ln,113,u7 (k:=seen.getD i []) (yG<|.inr<|.inr<|.inl aC) (dU ab),az,aa,a.dj⟩,G⟩
 refine aI aa (aT (aQ H.rb) aa)<|aI aa (nc aa)<|aI aa (fa pI aa)<|aI aa (ld jR aa<|(aX a.cells).trans aa)<|aI aa (aT (au i) aa)<|aI aa (a8 cH aa aa ab<|aJ.ok ((a7 a.hd).2)<|bS ab)<|aI aa (ld bT aa<|ca.get (i:=i) (a7 a.hd).2 ab)<|aI aa (dV aa aa)<|p (bp aa)<|nl<|M<|cd aa (fun ap=> ?_) fun ap=> ?_
 exact ag fun A=>aw<|A<|rt<|br<|tr<|tr<|br<|tr<|aV aa<|⟨.inr ⟨ln,113,u7 (k:=seen.getD i []) (yG<|.inr<|.inr<|.inr ap) (dU ab),az,aa,a.dj⟩,G⟩
 exact aM<|bn<|O<|rg aa<|ak (au i)<|p (ad aa aa<|bX ab)<|p aA<|nl<|tn<|⟨_,ab,i+1,ab,(fun j ac=>by rcases fi j i with h | h <;> first | exact ae j h | (rw [show j=i by omega]; exact Wp (fun h=>av<|tA.2 h) ax aC ap)),aa,aa,aa,aa,aa⟩
 refine ext<|ba<|ba<|be<|aO<|aB fun O=>ag fun ao=>ak (.slice ar r.length cr)<|p (a8 cH aa aa ab<|aJ.ok (aK.2)<|bS ab)<|p (ld bT aa<|ca.get (i:=1) aK.2 ab)<|nl<|ao<|aH<|ag fun M=>p (dV aa aa)<|aw<|M<|cd aa (fun Z=> ?_) fun Z=> ?_
 refine rg aa<|ak (aQ H.rb)<|p (nc aa)<|p (fa lO aa)<|p (ld ig aa<|(aX a.cells).trans aa)<|p (nc aa)<|p (fa s5 aa)<|e<|cw eZ aa aa (v:=au 1) aa q.cells (by show _ < 13; omega) fun ai E U=>nl<|bn<|O<|ag fun A=>aw<|A<|rt<|aV aa ?_
 have J:ordered seen=true :=yH fun j ac=>ae j ab
 have hk:jw (r.getD 1 [])=1:=by unfold jw; rw [if_pos (show r.getD 1 []=rK from Z)]
 have Y:=q.put (F':= {F with kind:=1}) E U rfl rfl rfl rfl q.fR
 have I:Wk ah ai:=G.trans' E fun k hk h=>by have :=q.lo; omega
 exact ⟨.inl ⟨_,k,ln,(yt J ab).trans (by rw [hk]),aa,⟨V,_,Y,a.fb q E,⟨C.len,C.sl,C.row,by show 1=1∨1=2∨1=3; decide⟩,I,aD⟩⟩,I⟩
 refine ag fun A=>p (dV aa aa)<|aw<|A<|cd aa (fun aj=> ?_) fun aj=> ?_
 refine rg aa<|ak (aQ H.rb)<|p (nc aa)<|p (fa lO aa)<|p (ld ig aa<|(aX a.cells).trans aa)<|p (nc aa)<|p (fa s5 aa)<|e<|cw eZ aa aa (v:=au 2) aa q.cells (by show _ < 13; omega) fun ai E U=>nl<|bn<|O<|ag fun am=>aw<|am<|rt<|aV aa ?_
 have J:ordered seen=true :=yH fun j ac=>ae j ab
 have hk:jw (r.getD 1 [])=2:=by unfold jw; rw [if_neg (show ¬r.getD 1 []=rK from Z),if_pos (show r.getD 1 []=tp from aj)]
 have Y:=q.put (F':= {F with kind:=2}) E U rfl rfl rfl rfl q.fR
 have I:Wk ah ai:=G.trans' E fun k hk h=>by have :=q.lo; omega
 exact ⟨.inl ⟨_,k,ln,(yt J ab).trans (by rw [hk]),aa,⟨V,_,Y,a.fb q E,⟨C.len,C.sl,C.row,by show 2=1∨2=2∨2=3; decide⟩,I,aD⟩⟩,I⟩
 refine ag fun am=>p (dV aa aa)<|aw<|am<|cd aa (fun aq=> ?_) fun aq=> ?_
 refine rg aa<|ak (aQ H.rb)<|p (nc aa)<|p (fa lO aa)<|p (ld ig aa<|(aX a.cells).trans aa)<|p (nc aa)<|p (fa s5 aa)<|e<|cw eZ aa aa (v:=au 3) aa q.cells (by show _ < 13; omega) fun ai E U=>nl<|bn<|O<|ag fun an=>aw<|an<|rt<|aV aa ?_
 have J:ordered seen=true :=yH fun j ac=>ae j ab
 have hk:jw (r.getD 1 [])=3:=by unfold jw; rw [if_neg (show ¬r.getD 1 []=rK from Z),if_neg (show ¬r.getD 1 []=tp from aj),if_pos (show r.getD 1 []=vb from aq)]
 have Y:=q.put (F':= {F with kind:=3}) E U rfl rfl rfl rfl q.fR
 have I:Wk ah ai:=G.trans' E fun k hk h=>by have :=q.lo; omega
 exact ⟨.inl ⟨_,k,ln,(yt J ab).trans (by rw [hk]),aa,⟨V,_,Y,a.fb q E,⟨C.len,C.sl,C.row,by show 3=1∨3=2∨3=3; decide⟩,I,aD⟩⟩,I⟩
 refine ag fun an=>aw<|an<|rt<|br<|tr<|aV aa ?_
 have J:ordered seen=true :=yH fun j ac=>ae j ab
 exact ⟨.inr ⟨ln,114,Ja J (by unfold jw; rw [if_neg (show ¬r.getD 1 []=rK from Z),if_neg (show ¬r.getD 1 []=tp from aj),if_neg (show ¬r.getD 1 []=vb from aq)]),az,aa,a.dj⟩,G⟩
end Go.Hb
end
