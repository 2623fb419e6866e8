/-
  Walks and plain laws that the law rests on, laid together. No conditions but those that each theorem names.
-/
import Derived.Test.YtffmhpaepdkabaaGreatDoorMnDeriveLists5
set_option linter.unusedVariables false
open Bool renaming or_eq_false_iff→nw
open Classical renaming not_not→jn
open Decidable renaming of_not_not→Eb
open Go.Proofs.Tryz renaming prog→ay
open Go.Value renaming bool→bQ,oneCell'→gz,ownBlock→iH,slice→bO,tuple→gx
open Go.World renaming ownsRow→bo,ownsRow_nil→du
open List renaming all_cons→uh,all_eq_true→me,append_assoc→dC,append_nil→ed,drop_drop→ss,drop_eq_getElem_cons→Np,drop_eq_nil_of_le→gP,drop_take→su,eq_nil_of_length_eq_zero→fO,ext_getElem?→p8,filter_append→Nr,filter_nil→Nt,flatMap_append→ny,flatMap_singleton→o0,getD_cons_zero→lP,getD_eq_getElem?_getD→cQ,getElem?_append_left→mg,getElem?_append_right→mT,getElem?_cons_zero→uj,getElem?_drop→ri,getElem?_eq_getElem→cz,getElem?_eq_some_iff→fJ,getElem?_set→kX,getElem?_take→o3,getElem?_zip_eq_some→jx,length→jy,length_append→bI,length_cons→cM,length_drop→fK,length_eq_zero_iff→wW,length_map→fE,length_nil→fP,length_pos_iff→lx,length_set→wX,length_singleton→eW,length_take→dO,length_zip→zY,map_append→ig,mem_append→jz,mem_cons→gl,mem_cons_of_mem→uo,mem_filter→NI,mem_of_getElem?→iJ,mem_of_mem_take→NJ,mem_singleton→jY,not_mem_nil→ur,take_of_length_le→eI,take_succ_cons→qc,toArray→ba
open Nat renaming add_comm→NU,add_le_add_left→z6,le_refl→cj,le_trans→fW,lt_or_ge→e8,zero_le→jD
open Option.some renaming inj→rj,injEq→fL
open Prod.mk renaming injEq→sE
open UInt8 renaming toNat_inj→kY,toNat_lt→iS
open Go.Proofs.Tryz
section
set_option maxRecDepth 20000
set_option maxHeartbeats 1000000
namespace Go.Hb.k0
open Go.Hb.dT
open Go.Proofs
open Go.Hb.fq Go.Hb.fQ Go.Hb.gn Go.Hb.lQ Go.Hb.nA Go.Hb.jF Go.Hb.rk Go.Hb.iK Go.Hb.kH Go.Hb.iM Go.Hb.j4 Go.Hb.kK Go.Hb.oy Go.Hb.kn Go.Hb.xk Go.Hb.xh Go.Hb.j5 Go.Hb.ji
theorem TN:BJ ay 58 3=some (52,3):=ag
def pI (q:bD×Value):List Value:= [str q.1.1,q.2]
def j7 (l:List (bD×Value)):List Value:=l.flatMap pI
theorem Hu (l:List (bD×Value)) (q:bD×Value):j7 (l++ [q])=j7 l++pI q:=by simp [j7]
theorem SI (l:List (bD×Value)):(j7 l).length=l.length*2:=oH (f:=pI) (m:=2) (fun _=>rfl) l
theorem rU {w:World} {B e size n k:Nat} {v:Value} {xs:List Value} (h:bo w B e size v n xs) (hk:v.ownBlock=some k) (j:∀ cur z,w.heap[k]?≠some (.cells cur e z)):False:=by
 rcases h.2 with ⟨rfl,rfl⟩ | ⟨g,cap,cur,rfl,_,i,_⟩
 · cases hk
 · have a:g=k:=by simpa [iH] using hk
   subst a
   exact j _ _ i
structure mW (w:World) (B:Nat) (f:Value→Option Value) (xs:List bD):Prop where
 own:∀ s:Tx,bo w B 3 1 ((f<|str s).getD<|bO none 0 0) (idxs s xs).length ((idxs s xs).map bM)
 nil:∀ s:Tx,idxs s xs= []→(f<|str s).getD (bO none 0 0)=(bO none 0 0)
theorem mW.md {G:Nat→Prop} {w w':World} {B:Nat} {f:Value→Option Value} {xs:List bD} (h:mW w B f xs) (hm:Md G w w') (a:∀ k,G k→∀ cur z,w.heap[k]?≠some (.cells cur 3 z)):mW w' B f xs:=by
 refine ⟨fun s=> ?_,h.nil⟩
 refine db (h.own s) hm fun k hk j=> ?_
 exact rU (h.own s) hk fun cur z i=>a k j cur z i
theorem C6 {w:World} {B B' k n i:Nat} {v j:Value} {xs q:List Value} (h:bo w B 3 1 v n xs) (G:bo w B' 3 1 j i q) (hk:v.ownBlock=some k) (J:j.ownBlock=some k) (hn:0 < n) (Y:0 < i):xs[0]? =q[0]? :=by
 rcases h.2 with ⟨rfl,rfl⟩ | ⟨g,cap,cur,rfl,_,I,_,_,_,M⟩
 · omega
 · rcases G.2 with ⟨rfl,rfl⟩ | ⟨E,U,V,rfl,_,a,_,_,_,O⟩
   · omega
   · have A:g=k:=by simpa [iH] using hk
     have C:E=k:=by simpa [iH] using J
     subst A C
     rw [I] at a
     cases a
     rw [← M,← O,o3,o3,if_pos ab,if_pos ab]
theorem mW.sep {w:World} {B k:Nat} {f:Value→Option Value} {xs:List bD} {s t:Tx} (h:mW w B f xs) (G:s≠t) (hs:((f<|str s).getD<|bO none 0 0).ownBlock=some k):((f<|str t).getD<|bO none 0 0).ownBlock≠some k:=by
 intro a
 have A:idxs s xs≠[]:=fun e=>by rw [h.nil s e] at hs; cases hs
 have C:idxs t xs≠[]:=fun e=>by rw [h.nil t e] at a; cases a
 have he:=C6 (h.own s) (h.own t) hs a (lx.2 A)<|lx.2 C
 cases h1:idxs s xs with
 | nil=>exact A h1
 | cons i l=>
   cases h2:idxs t xs with
   | nil=>exact C h2
   | cons j m=>
     rw [h1,h2] at he
     have E:i=j:=by have h:=he; simp only [List.map_cons,uj,fL,bM,Value.int.injEq,true_and] at h; omega
     subst E
     have m1:i∈idxs s xs:=by rw [h1]; simp
     have q:i∈idxs t xs:=by rw [h2]; simp
     unfold idxs at m1 q
     have I:=of_decide_eq_true (NI.1 m1).2
     have J:=of_decide_eq_true (NI.1 q).2
     exact G<|I.symm.trans J
theorem mW.put {w j G:World} {B mb:Nat} {f:Value→Option Value} {xs:List bD} {x:bD} {v:Value} (h:mW w B f xs) (hm:Md (fun k=>((f<|str x.1).getD<|bO none 0 0).ownBlock=some k) w j)
 (E:bo j B 3 1 v (idxs x.1 xs++ [xs.length]).length ((idxs x.1 xs++ [xs.length]).map bM)) (C:∀ cur z,j.heap[mb]?≠some (.cells cur 3 z)) (A:Md (fun k=>k=mb) j G):mW G B (bS f (str x.1) v) (xs++ [x]):=by
 refine ⟨fun s=> ?_,fun s hs=> ?_⟩
 · by_cases a:x.1=s
   · subst a
     rw [vE,Cx,if_pos rfl]
     exact db E A fun k hk i=>rU E hk fun cur z q=>C cur z<|i ▸ q
   · rw [tE (fun e=>a (str_inj.1 e).symm),Cx,if_neg a,ed]
     have h1:=db (h.own s) hm fun k hk i=>h.sep a i hk
     exact db h1 A fun k hk i=>rU h1 hk fun cur z q=>C cur z<|i ▸ q
 · rw [Cx] at hs
   by_cases a:x.1=s
   · rw [if_pos a] at hs; simp at hs
   · rw [if_neg a,ed] at hs
     rw [tE (fun e=>a (str_inj.1 e).symm)]; exact h.nil s hs
structure lz (w:World) (B wb mb:Nat) (va:Value) (vs:List Value) (xs:List bD):Prop where
 cells:w.heap[wb]? =some (.cells [va,.map (some mb)].toArray 186 (0,0))
 own:bo w B 72 2 va xs.length (j7<|xs.zip vs)
 fl:ek w B 51 vs (xs.map (·.2))
 mp:∃ f,dq w.heap mb jl f∧mW w B f xs
theorem lz.md {G:Nat→Prop} {w w':World} {B wb mb:Nat} {va:Value} {vs:List Value} {xs:List bD} (h:lz w B wb mb va vs xs) (hm:Md G w w') {L:List Nat} (a:TF w L G) (j:(L.contains 188 || L.contains 74 || L.contains 53 || L.contains 5)=false) (C:¬G mb):lz w' B wb mb va vs xs:=by
 simp only [nw] at j
 obtain ⟨⟨⟨h1,h2⟩,h3⟩,h4⟩:=j
 obtain ⟨f,q,A⟩:=h.mp
 exact ⟨hm.gy a h.cells h1,bZ h.own hm a h2,h.fl.md hm (fun k hk cur z i=>a.no (dt i) h3 hk),⟨f,q.md hm C,A.md hm fun k hk cur z i=>a.no (dt i) h4 hk⟩⟩
theorem lz.wk {w w':World} {B wb mb:Nat} {va:Value} {vs:List Value} {xs:List bD} (h:lz w B wb mb va vs xs) (hm:Wk w w'):lz w' B wb mb va vs xs:=h.md (L:= []) hm (fun _ hk=>hk.elim) rfl id
theorem Bs {F:aR} {t:Tx} {ln:Nat} {row:List Tx} {rows:List Rw} (h:¬65536 < t.length) (h1:bN t=(ln,row)::rows) (h2:(k9 row).2≠0):∃ e:Nat,(k9 row).2=(e:Int)∧e6 F t= .error (ln,e):=by
 unfold k9 at h2 ⊢
 by_cases a:row.length≠1
 · rw [if_pos a]; exact ⟨111,rfl,Sw h h1 a⟩
 · rw [if_neg a] at h2 ⊢
   have h3:=pQ (s:=row.getD 0 []) (most:=8192) h2
   exact ⟨13,h3.2,Sz h h1 (jn.1 a) h3.1⟩
theorem Hk {F:aR} {t:Tx} {ln:Nat} {row:List Tx} {rows:List Rw} (h:¬65536 < t.length) (h1:bN t=(ln,row)::rows) (h2:(k9 row).2=0):∃ n:Nat,(k9 row).1=n∧n≤8192∧e6 F t=eY F ((bG t).length+1) n rows:=by
 unfold k9 at h2 ⊢
 by_cases a:row.length≠1
 · rw [if_pos a] at h2; cases h2
 · rw [if_neg a] at h2 ⊢
   exact ⟨_,aa,by have :=qM (row.getD 0 []) 8192 h2; omega,Hm h h1 (jn.1 a)<|nW h2⟩
theorem zn {u:Tx} {a:Value} (h:a.oneCell'=true):[str u,a].all gz=true :=by rw [uh,uh,h]; rfl
def Oa (l e:Nat):Value:= .agg [.int .i64 2,.int .i64 (l:Nat),.int .i64 (e:Nat)].toArray
def N6 (w':World) (B0:Nat) (xs:List bD) (v:Value):Prop := ∃ B wb mb va vs,B0≤B∧v= .tuple #[.pointer (some ⟨wb,0,none⟩),.agg [.int .i64 0,.int .i64 0,.int .i64 0].toArray]∧lz w' B wb mb va vs xs∧B0≤wb∧B0≤mb
def N5 (e:Nat×Nat) (v:Value):Prop :=v= .tuple #[.pointer none,Oa e.1 e.2]
def lS (F:aR) (t:Tx) (w:World) (v:Value) (w':World):Prop :=(match e6 F t with | .ok xs=>N6 w' w.heap.size xs v | .error e=>N5 e v)∧Wk w w'
theorem lS.no {F:aR} {t:Tx} {w w':World} {l e:Nat} (h:e6 F t= .error (l,e)) (hm:Wk w w'):lS F t w (.tuple #[.pointer none,.agg [.int .i64 2,.int .i64 (l:Nat),.int .i64 (e:Nat)].toArray]) w':=by
 unfold lS; rw [h]; exact ⟨rfl,hm⟩
theorem SC (B fb mc:Nat) (F:aR) (V:eX) (t:Tx) (w:World) (cx:dP w B fb mc F V) (d0:∃ seen,kI F [] seen) (e5:Nx F) (hs:t.length≤1048576):
 bh ay 46 (ba [aQ fb,str t]) w (lS F t w):=by
 refine enter func46 aa ntmps46 aa<|aj fun _ de=>p aB<|e<|ga p5 fun bQ fC fT cA co=> ?_
 have cn:bL fC.heap bQ [.int .i64 0,.int .i64 0,.int .i64 0]:=⟨_,co⟩
 refine aE<|de _ _<|sq fun _ dm=>aj fun _ ds=>ak (aQ fb)<|p (lY vY aa aa)<|nl<|tn<|ds _ _<|cf (aa)<|aM<|tn<|dm _ _<|aj fun _ dv=>ak (str t)<|e<|cl Gy (Ly t _ hs) aa fun gx cc ej=> ?_
 obtain ⟨⟨fI,rfl,cK⟩,hE22⟩:=ej
 have cu:=cA.md.trans hE22
 have gj:=cA.size
 refine p mv<|p (xt aa aa)<|p (xt aa aa)<|p aB<|aw<|dv _ _<|sq fun _ dx=>aj fun _ dy=>p mv<|p (cX aa aa)<|aE<|dy _ _<|cd aa (fun b6=> ?_) fun b6=> ?_
 have cG:65536 < t.length:=Classical.byContradiction fun h=>b6<|by rw [if_neg h]
 refine aj fun _ bJ=>p mv<|e<|cl sX (s7 0 (if 65536 < t.length then 10 else 0) cc) aa fun v28 gG el=> ?_
 obtain ⟨rfl,bU⟩:=el
 have gd:=(hE22.trans bU).size
 refine p aB<|e<|cW jT aa aa aa aa (Wk.B (hE22.trans bU) cn) (by simp) fun gU ed dX=>aE<|bJ _ _<|rt<|tr<|eo aa ea (dK (cs:= [.int .i64 2,.int .i64 0,.int .i64 (if 65536 < t.length then 10 else 0)]) aa k5 aa fun j an=>dX.bB j) ?_
 have h:=lS.no (F:=F) (Hn cG)<|(cu.trans bU).trans' ed fun q C h=>by omega
 show lS F t w (.tuple #[.pointer none,.agg [.int .i64 2,.int .i64 0,.int .i64 (if 65536 < t.length then 10 else 0)].toArray]) _
 rw [if_pos cG]
 exact h
 have a4:¬65536 < t.length:=fun h=>b6<|by rw [if_pos h]; decide
 rw [if_neg a4] at cK
 obtain ⟨c8,ch,rfl⟩:=cw cK
 have fZ:=nT t
 refine aM<|tn<|dx _ _<|aj fun _ bJ=>ak (str t)<|e<|cl Gx (KX t _ hs) aa fun v31 aq em=> ?_
 obtain ⟨⟨a31,rfl,cJ⟩,hE31⟩:=em
 rw [if_neg a4] at cJ
 obtain ⟨da,bp,bs⟩:=cJ
 obtain ⟨ar,cr,rfl⟩:=cw bp
 have ax:=cu.trans hE31
 have aS:=Wk.B (hE22.trans hE31) cn
 have ge:=(hE22.trans hE31).size
 have c6:=yY t
 refine p mv<|p (xt aa aa)<|p (xt aa aa)<|p aB<|aw<|bJ _ _<|sq fun _ dz=>aj fun _ dA=>p mv<|p (bF zo aa aa)<|p (bH aa aa)<|aE<|dA _ _<|cd aa (fun b7=> ?_) fun b7=> ?_
 have e4:bN t= []:=fO ab
 refine aj fun _ bt=>p mv<|p (bF eQ aa aa)<|p (bE (((bG t).length+1:Nat):Int) aa aa<|bj ab ab)<|e<|cl sX (s7 ((bG t).length+1:Nat) 116 aq) aa fun v40 gH en=> ?_
 obtain ⟨rfl,bV⟩:=en
 have gf:=bV.size
 exact p aB<|e<|cW jT aa aa aa aa (Wk.B bV aS) (by simp) fun gV ee dY=>aE<|bt _ _<|rt<|tr<|eo aa ea (dK (cs:= [.int .i64 2,au ((bG t).length+1),.int .i64 116]) aa k5 aa fun j an=>dY.bB j)<|lS.no (Ho a4 e4)<|(ax.trans bV).trans' ee fun q C h=>by omega
 obtain ⟨⟨c9,aL⟩,rest,U⟩:∃ q rest,bN t=q::rest:=by
  cases h:bN t with
  | nil=>rw [h] at b7; exact absurd rfl b7
  | cons q rest=>exact ⟨q,rest,rfl⟩
 have ca:=bs.1
 rw [U] at bp bs ca c6
 obtain ⟨⟨aK,fw⟩,rvs',rfl⟩:∃ q cb,da=q::cb:=by
  cases da with
  | nil=>exact absurd ca<|by simp
  | cons q cb=>exact ⟨q,cb,rfl⟩
 obtain ⟨fe,c4⟩:=bs.2 0 (aK,fw) (c9,aL) rfl rfl
 obtain rfl :aK=c9:=fe
 obtain ⟨a0,dB,rfl⟩:=c4.slice
 have a1:=(aX bp).2
 have eT:=(aX bp).1
 have cQ:∀ q∈(aK,aL)::rest,q.2.length≤70000∧∀ x∈q.2,x.length≤70000:=fun q C=>by
  have h:=yZ (show q∈bN t by rw [U]; exact C)
  exact ⟨ab,fun x fs=>by have :=(h.2.2.2.2 x fs).2; omega⟩
 have cP:=cQ _<|List.mem_cons_self ..
 simp only [cM] at ca c6 eT
 refine aM<|tn<|dz _ _<|aj fun _ bt=>p mv<|p (a7 tc aa aa (by rw [U]; simp only [cM]; omega)<|aI.ok (a1)<|lM<|by simp)<|p (cT xu aa (aa)<|lN (i:=0) a1 aa)<|e<|cl QK (Sv aK aL cc.heap.size a0 dB aq c4 cP.2 cP.1) aa fun gy fB ep=> ?_
 obtain ⟨rfl,aC⟩:=ep
 have gg:=aC.size
 refine p mv<|p (xt aa aa)<|p (xt aa aa)<|p aB<|aw<|bt _ _<|sq fun _ df=>aj fun _ dg=>p mv<|p (cX aa aa)<|aE<|dg _ _<|cd aa (fun cI=> ?_) fun cI=> ?_
 obtain ⟨fM,eV,b4⟩:=Bs (F:=F) a4 U cI
 refine aj fun _ bu=>p mv<|p (a7 tc aa aa (by rw [U]; simp only [cM]; omega)<|aI.ok (a1.wk aC)<|lM<|by simp)<|p (fa yi aa)<|p (ld bA aa<|lN (i:=0) (a1.wk aC) aa 0 az)<|p mv<|e<|cl sX (s7 (aK:Nat) (k9 aL).2 fB) aa fun gz gI er=> ?_
 obtain ⟨rfl,bW⟩:=er
 have gk:=bW.size
 refine p aB<|e<|cW jT aa aa aa aa (Wk.B (aC.trans bW) aS) (by simp) fun gO d8 dF=>aE<|bu _ _<|rt<|tr<|eo aa ea (dK (cs:= [.int .i64 2,au aK,.int .i64 (k9 aL).2]) aa k5 aa fun j an=>dF.bB j) ?_
 have h:=lS.no b4<|(ax.trans<|aC.trans bW).trans' d8 fun q C h=>by omega
 show lS F t w (.tuple #[.pointer none,.agg [.int .i64 2,au aK,.int .i64 (k9 aL).2].toArray]) _
 rw [eV]
 exact h
 obtain ⟨n,cS,f0,b4⟩:=Hk (F:=F) a4 U (show (k9 aL).2=0 by omega)
 have d7:=cx.wk<|ax.trans aC
 obtain ⟨seen,cp⟩:=d0
 have fX:=cp.len
 refine aM<|tn<|df _ _<|aj fun _ bu=>e<|vy fun Y gJ fU b2 dV=> ?_
 have gl:=b2.size
 refine p (cO (ps:= [(1,.map (some Y))]) (L:= [.slice none 0 0,.map (some Y)]) Yu aa<|aa)<|e<|oC aa fun E fD fV bg dW=> ?_
 have gm:=bg.size
 have d4:=aC.trans<|b2.md.trans bg.md
 refine aw<|bu _ _<|aj fun _ dh=>ak (aQ fb)<|e<|cl AP (Ai B fb mc F V fD (d7.wk<|b2.md.trans bg.md) ab e5) aa fun gA gK es=> ?_
 obtain ⟨⟨fH,rfl,_⟩,hE60⟩:=es
 have gn:=hE60.size
 refine p (Tq TN Ff aa aa)<|e<|al ZN fun bK gC fP bd dJ=> ?_
 have f4:=bd.size
 refine e<|cW Sc aa aa aa aa (dJ) (by simp) fun M a9 dL=> ?_
 have d2:Wk aq M:=(d4.trans<|hE60.trans bd.md).trans' a9 fun q C h=>by omega
 have f6:=a9.size
 have eK:M.heap[E]? =some (.cells [.slice none 0 0,.map (some Y)].toArray 186 (0,0)):=a9.aJ (Wk.aJ (hE60.trans bd.md) dW) fun h=>by omega
 have e1:dq M.heap Y jl (fun _=>none):=dq.md (dq.wk (dq.nil dV)<|bg.md.trans<|hE60.trans bd.md) a9 fun h=>by omega
 have ez:lz M M.heap.size E Y (.slice none 0 0) [] []:=⟨eK,du _ _ _ _,ek.nil _ _ _,⟨_,e1,⟨fun s=>du _ _ _ _,fun s _=>rfl⟩⟩⟩
 have eG:bL M.heap bK [bc (F.sp.getD 0 0),bc (F.sp.getD 1 0),bc (F.sp.getD 2 0),bc (F.sp.getD 3 0),bc (F.sp.getD 4 0)]:=dL
 have cq:aI aq.heap (gh ar cr 1 2) (kF rvs'):=by
  have h:=a1.drop (cap:=cr) (k:=1) (size:=2)<|by rw [Lc]; simp only [cM]; omega
  exact h
 have eC:iL F ((bG t).length+1) (e6 F t) [] (n - 0) (rest.drop 0):=by rw [b4]; exact iL.start
 refine aE<|dh _ _<|sq fun _ di=>aj fun _ dj=>p mv<|p (vQ tc aa aa<|by rw [U]; simp only [cM]; omega)<|p (bF zo aa aa)<|p mv<|aE<|dj _ _<|aJ<|lp (fun ck ae av=> ∃ (i:Nat) (xs:List bD) (vs:List Value) (va:Value),(i≤rest.length∧i≤n)∧(xs.length=i)∧(iL F ((bG t).length+1) (e6 F t) xs (n - i)<|rest.drop i)∧(lz av M.heap.size E Y va vs xs)∧(Wk aq av)∧(bL av.heap bK [bc (F.sp.getD 0 0),bc (F.sp.getD 1 0),bc (F.sp.getD 2 0),bc (F.sp.getD 3 0),bc (F.sp.getD 4 0)])∧(M.heap.size≤av.heap.size)∧(ae 0=aQ fb)∧(ae 5=aQ bQ)∧(ae 6= .slice c8 (bG t).length ch)∧(ae 10=au n)∧(ae 11=aQ E)∧(ae 12=aQ bK)∧(ae 63= .slice (gh ar cr 1 2) rest.length (cr - 1))∧(ae 64=au (rest.length))∧(ae 65=au i)∧(rest.length - i=ck)) _ ⟨0,[],[],.slice none 0 0,ab,aa,eC,ez,d2,eG,(cj _),aa,aa,aa,(by first | rfl | (rw [← cS]; rfl)),aa,aa,(by first | rfl | (rw [U]; rfl)),(by first | rfl | (rw [U]; rfl)),aa,aa⟩ ?_
 rintro ck ae av ⟨i,xs,vs,va,hi,c7,ah,aP,O,cE,gt,ff,fk,fm,fh,fi,fj,fo,fq,fr,rfl⟩
 refine fx 0 ff<|fx 5 fk<|fx 6 fm<|fx 10 fh<|fx 11 fi<|fx 12 fj<|fx 63 fo<|fx 64 fq<|fx 65 fr<|aj fun _ dk=>p (lt aa aa)<|aE<|dk _ _<|sq fun _ dl=>cd aa (fun eP=> ?_) fun eP=> ?_
 refine aM<|tn<|dl _ _<|sq fun _ bv=>aJ<|sq fun _ bw=> ?_
 obtain ⟨⟨ln,r⟩,hri⟩:∃ q,rest[i]? =some q:=⟨_,cz ab⟩
 have eU:rest.drop i=(ln,r)::rest.drop (i+1):=by rw [Np ab]; rw [cz ab] at hri; rw [rj hri]
 obtain ⟨p,c5⟩:∃ p,rvs'[i]? =some p:=⟨_,cz ab⟩
 obtain ⟨dC,cD⟩:=bs.2 (i+1) p (ln,r) c5 hri
 obtain ⟨fv,gv⟩:=p
 obtain rfl :ln=fv:=dC.symm
 obtain ⟨a,c,rfl⟩:=cD.slice
 have cR:=cQ (ln,r)<|uo _<|iJ hri
 rw [eU] at ah
 refine rg aa<|ak (au i)<|p (a7 tc aa aa ab<|aI.ok (cq.wk O)<|lM ab)<|p (cT xu aa (aa)<|lN (cq.wk O) c5)<|e<|al MD fun cg gE bk b1 dM=> ?_
 have f7:=b1.size
 refine p (cH (au i) aa)<|e<|cW G4 aa aa aa aa (dM) (by simp) fun aW b0 dN=> ?_
 have a8:Wk aq aW:=(O.trans b1.md).trans' b0 fun q C h=>by omega
 have ct:Wk av aW:=b1.md.trans' b0 fun q C h=>by omega
 have bk:bL aW.heap cg [au ln,.slice a r.length c]:=dN
 have f9:=b0.size
 refine aE<|bw _ _<|sq fun _ aY=>aj fun _ dn=>ak (au i)<|ak (au n)<|p (bH aa aa)<|aE<|dn _ _<|cd aa (fun eR=> ?_) fun eR=> ?_
 refine aj fun _ bx=>p (fa yi aa)<|p (ld bA aa<|(bk.aO 0).trans aa)<|e<|cl sX (s7 (ln:Nat) 116 aW) aa fun v75 gM et=> ?_
 obtain ⟨rfl,bX⟩:=et
 have gp:=bX.size
 refine p aB<|e<|cW jT aa aa aa aa (Wk.B (a8.trans bX) aS) (by simp) fun gQ d9 dO=>aE<|bx _ _<|rt<|tr<|br<|tr<|tr<|br<|tr<|eo aa ea (dK (cs:= [.int .i64 2,au ln,.int .i64 116]) aa k5 aa fun j an=>dO.bB j) ?_
 rw [show n - i=0 by omega] at ah
 exact lS.no ah.more<|(ax.trans<|a8.trans bX).trans' d9 fun q C h=>by omega
 refine aM<|tn<|aY _ _<|aj fun _ bx=>ak (aQ fb)<|p (cT Ff aa (aa) fun j an=>(Wk.B ct cE).bB j)<|p (cT xu aa (aa) fun j an=>bk.bB j)<|e<|cl QL (Sp B fb mc F V ln r cc.heap.size a c aW (cx.wk<|ax.trans a8) ⟨seen,cp⟩ (cD.wk a8) cR.2 cR.1) aa fun fz fF eu=> ?_
 obtain ⟨d6,bY⟩:=eu
 obtain ⟨A,aZ,ci,rfl,c3,cL⟩:∃ (u:Tx) (a:Value) (e:Nat),fz= .tuple #[.agg [str u,a].toArray,au e]∧a.oneCell'=true∧((e=0∧∃ l,fS F r= .ok (u,l)∧bo fF aW.heap.size 51 1 a l.length (l.map bc))∨(e≠0∧fS F r= .error e)):=by
  rcases d6 with ⟨x,a,h1,h2,h3⟩ | ⟨e,h1,h2,h3⟩
  exact ⟨x.1,a,0,h2,eH h3,.inl ⟨aa,x.2,h1,h3⟩⟩
  exact ⟨_,_,e,h3,aa,.inr ⟨h2,h1⟩⟩
 have gq:=bY.size
 refine p mv<|p (xt aa aa)<|p (xt aa aa)<|e<|ga qX fun bP gF fQ bf cm=> ?_
 have f8:=bf.size
 refine e<|gi ku aa aa aa (zn c3) cm az fun ao bb dQ=> ?_
 have aN:Wk av ao:=(ct.trans<|bY.trans bf.md).trans' bb fun q C h=>by omega
 have cF:ao.heap[bP]? =some (.cells [str A,aZ].toArray 72 (0,0)):=dQ
 have gb:=bb.size
 have eI:bL ao.heap cg [au ln,.slice a r.length c]:=bb.B (Wk.B (bY.trans bf.md) bk) fun h=>by omega
 refine aw<|bx _ _<|sq fun _ dp=>aj fun _ dr=>p mv<|p (cX aa aa)<|aE<|dr _ _<|cd aa (fun eS=> ?_) fun eS=> ?_
 obtain ⟨f1,hex⟩:=cL.resolve_left fun h=>by omega
 refine aj fun _ bC=>p (fa yi aa)<|p (ld bA aa<|(eI.aO 0).trans aa)<|p mv<|e<|cl sX (s7 (ln:Nat) (ci:Nat) ao) aa fun gB gN ev=> ?_
 obtain ⟨rfl,bZ⟩:=ev
 have gr:=bZ.size
 exact p aB<|e<|cW jT aa aa aa aa (Wk.B (O.trans<|aN.trans bZ) aS) (by simp) fun gR eb dR=>aE<|bC _ _<|rt<|tr<|br<|tr<|tr<|br<|tr<|eo aa ea (dK (cs:= [.int .i64 2,au ln,au ci]) aa k5 aa fun j an=>dR.bB j)<|lS.no (ah.bad ab hex)<|(ax.trans<|O.trans<|aN.trans bZ).trans' eb fun q C h=>by omega
 obtain ⟨_,aH,hex,e9⟩:=cL.resolve_right fun h=>by omega
 have bi:=aP.wk aN
 have e3:¬(va.ownBlock=some E):=dw bi.own bi.cells az
 have e2:¬(va.ownBlock=some bP):=fun h=>by have :=(dI aP.own h).2; omega
 have gu:=aN.size
 refine aM<|tn<|dp _ _<|sq fun _ bC=> ?_
 have aG:(fun w'=>Md (fun q=>va.ownBlock=some q) ao w') ao.drew:=(Md.refl _ _).drew
 refine eM (fun w'=>Md (fun q=>va.ownBlock=some q) ao w') 10 aa wide aG<|bz 0 aa (aQ E) aG<|bz 1 aa (aQ E) aG<|bq 2 aa (fun _=>nc aa) (fun _=>aG)<|bq 3 aa (fun _=>fa yh aa) (fun _=>aG)<|dH 4 aa (fun w' I=>ld uE aa<|Md.aO I ((a6 bi.cells).trans aa) e3) aG<|dH 5 aa (fun w' I=>cT lE aa (aa) fun j an=>bL.bB ⟨_,Md.aJ I cF e2⟩ j) aG<|gL 6 aa ag<|kq zf aa aa aa fun fL fG fW eg dZ=> ?_
 have aD:=ib eg.md
 have J:=bi.wk aD
 have gs:=aD.size
 have cB:(fun w'=>Md (fun q=>va.ownBlock=some q) ao w') fG:=Md.mono aD fun _ _ h=>h.elim
 refine ⟨cB,?_⟩
 refine gL 7 aa ag<|ap zf (J.own) aa ab aa (aI.dS dZ) (aa) (zn c3) ab ab fun a5 ce c1 ac fu fY=> ?_
 obtain ⟨f,cN,eZ⟩:=J.mp
 have a2:=ac.aJ J.cells<|dw J.own J.cells az
 have c2:bo ce M.heap.size 72 2 a5 (xs++ [(A,aH)]).length (j7<|(xs++ [(A,aH)]).zip<|vs++ [aZ]):=by
  have e0:xs.length=vs.length:=by have :=J.fl.1; rw [fE] at this; omega
  rw [List.zip_append e0,List.zip_cons_cons,List.zip_nil_right,Hu,bI]; exact c1
 have fu:=ac.size
 have eD:=ac.B (Wk.B (aN.trans aD) cE) fun h=>by have :=(dI J.own h).1; omega
 have eJ:=ac.aJ (Wk.aJ aD cF) fun h=>by have :=(dI aP.own h).2; omega
 have d5:Wk aq ce:=(O.trans<|aN.trans aD).trans' ac fun q C h=>by have :=(dI J.own h).1; omega
 have b3:(fun w'=>Md (fun q=>va.ownBlock=some q) ao w') ce:=cB.trans' ac fun _ _ h=>h
 refine ⟨b3,?_⟩
 refine bq 8 aa (fun _=>nc aa) (fun _=>b3)<|bq 9 aa (fun _=>fa yh aa) (fun _=>b3)<|dG 10 aa ag ag<|cV Hd aa aa (v:=a5) (eH c1) a2 (by show _ < 2; omega) fun aA ai dD=> ?_
 have bl:aA.heap[E]? =some (.cells [a5,.map (some Y)].toArray 186 (0,0)):=dD
 have f2:=ai.size
 have d1:Wk aq aA:=d5.trans' ai fun q C h=>by omega
 have eE:=ai.B eD fun h=>by omega
 have b5:=ai.aJ eJ fun h=>by omega
 have cZ:=db c2 ai fun q C h=>dw c2 a2 az<|h ▸ C
 have ex:Tg aA M.heap.size 51 aH.length aZ (aH.map bc):=((((((Tg.jN e9).mono ab).wk bf.md).md bb<|fg cm az).wk aD).md ac<|hU J.own az).md ai<|fg a2 az
 have eW:=((J.fl.md ac<|hU J.own az).md ai<|fg a2 az).snoc ex
 have b8:=(cN.md ac fun h=>rU J.own h fun cur z=>cN.pP).md ai fun h=>by omega
 have bm:=(eZ.md ac<|hU J.own az).md ai<|fg a2 az
 have b9:¬(((f<|str A).getD<|bO none 0 0).ownBlock=some E):=dw (bm.own A) bl az
 have cU:¬(((f<|str A).getD<|bO none 0 0).ownBlock=some bP):=dw (bm.own A) b5 az
 have cY:¬(((f<|str A).getD<|bO none 0 0).ownBlock=some Y):=fun h=>rU (bm.own A) h fun cur z=>b8.pP
 refine eL ag<|tn<|bC _ _ ?_
 have G:(fun w'=>Md (fun q=>((f<|str A).getD<|bO none 0 0).ownBlock=some q) aA w') aA.drew:=(Md.refl _ _).drew
 refine eM (fun w'=>Md (fun q=>((f<|str A).getD<|bO none 0 0).ownBlock=some q) aA w') 16 aa wide G<|lq 0 aa ag (fun _ _=>aT (aQ E) aa) G<|lq 1 aa ag (fun _ _=>nc aa) G<|lq 2 aa ag (fun _ _=>fa Il aa) G<|lq 3 aa ag (fun w' I=>ld Fb aa<|Md.aO I ((a6 bl).trans aa) b9) G<|lq 4 aa ag (fun _ _=>fa Cc aa) G<|lq 5 aa ag (fun w' I=>ld bR aa<|Md.aO I ((a6 b5).trans aa) cU) G<|lq 6 aa ag (fun _ _=>aT (aQ E) aa) G<|lq 7 aa ag (fun _ _=>nc aa) G<|lq 8 aa ag (fun _ _=>fa Il aa) G<|lq 9 aa ag (fun w' I=>ld Fb aa<|Md.aO I ((a6 bl).trans aa) b9) G<|lq 10 aa ag (fun _ _=>fa Cc aa) G<|lq 11 aa ag (fun w' I=>ld bR aa<|Md.aO I ((a6 b5).trans aa) cU) G<|lq 12 aa ag (fun w' I=>oK L2 ZW jb (dq.md (b8) I cY) aa aa (⟨_,aa⟩)<|aa) G<|lq 13 aa ag (fun _ _=>aT (au i) aa) G<|gL 14 aa ag<|fR np aa aa fun fK fA fN ef dE=> ?_
 have Z:=ib ef.md
 have aV:=bm.md Z fun _ hk=>hk.elim
 have f3:=Z.size
 have cC:(fun w'=>Md (fun q=>((f<|str A).getD<|bO none 0 0).ownBlock=some q) aA w') fA:=Md.mono Z fun _ _ h=>h.elim
 refine ⟨cC,?_⟩
 refine gL 15 aa ag<|ap np (aV.own A) aa ab aa (aI.dS dE) (aa) (aa) (by have :=Jc A xs; omega) (by have :=Jc A xs; omega) fun fy dc e7 am ft a3=> ?_
 have ft:=am.size
 have a3:=(b8.wk Z).md am cY
 have fc:bo dc M.heap.size 3 1 fy (idxs A xs++ [xs.length]).length ((idxs A xs++ [xs.length]).map bM):=by
  rw [bI,ig,c7]; exact e7
 have ew:(fun w'=>Md (fun q=>((f<|str A).getD<|bO none 0 0).ownBlock=some q) aA w') dc:=cC.trans' am fun _ _ h=>h
 refine ⟨ew,?_⟩
 refine dG 16 aa ag ag<|tP L2 jb (a3) aa aa aa (⟨_,aa⟩) fun dd aF eh=> ?_
 have fd:=mW.put (x:=(A,aH)) aV am fc (fun cur z=>a3.pP) aF
 have eO:=aF.aJ (am.aJ (Wk.aJ Z bl) b9) fun h=>by omega
 have c0:=db (aU cZ Z) am fun q C=>mG (aU cZ Z) (aV.own A) az C
 have e8:=db c0 aF fun q C h=>rU c0 C fun cur z=>h ▸ a3.pP
 have eY:=((eW.wk Z).md am<|hU (aV.own A) az).md aF fun k hk cur z h=>a3.pP<|hk ▸ h
 have eA:lz dd M.heap.size E Y a5 (vs++ [aZ]) (xs++ [(A,aH)]):=⟨eO,e8,by rw [ig]; exact eY,⟨_,eh,fd⟩⟩
 have d3:Wk aq dd:=((d1.trans Z).trans' am fun q C h=>by have :=(dI (aV.own A) h).1; omega).trans' aF fun q C h=>by omega
 have eF:=aF.B (am.B (Wk.B Z eE) fun h=>by have :=(dI (aV.own A) h).1; omega) fun h=>by omega
 have gc:=aF.size
 exact eL ag<|bn<|tn<|bv _ _<|rg aa<|p (ad aa aa<|bT ab)<|p mv<|aE<|⟨_,ab,i+1,xs++ [(A,aH)],vs++ [aZ],a5,ab,(by rw [bI,c7]; rfl),(by rw [show n - (i+1)=n - i - 1 by omega]; exact ah.step ab hex),eA,d3,eF,(ab),aa,aa,aa,(by first | rfl | (rw [← cS]; rfl)),aa,aa,(by first | rfl | (rw [U]; rfl)),(by first | rfl | (rw [U]; rfl)),aa,aa⟩
 refine ext<|te _<|te _<|be<|tn<|di _ _<|sq fun _ bv=>sq fun _ bw=> ?_
 obtain ⟨fJ,cv,rfl⟩:=cw aP.own
 refine rg aa<|ak (aQ E)<|p (nc aa)<|p (fa yh aa)<|p (ld uE aa<|(a6 aP.cells).trans aa)<|p (bF zu aa aa)<|ak (au n)<|p (lt aa aa)<|aE<|bw _ _<|cd aa (fun eN=> ?_) fun eN=> ?_
 refine aj fun _ aY=>ak (.slice c8 (bG t).length ch)<|p (bF eQ aa aa)<|p (bE (((bG t).length+1:Nat):Int) aa aa<|bj ab ab)<|e<|cl sX (s7 ((bG t).length+1:Nat) 116 av) aa fun gw gD ei=> ?_
 obtain ⟨rfl,bS⟩:=ei
 have f5:=bS.size
 refine p aB<|e<|cW jT aa aa aa aa (Wk.B (O.trans bS) aS) (by simp) fun gS ec dT=>aE<|aY _ _<|rt<|tr<|eo aa ea (dK (cs:= [.int .i64 2,au ((bG t).length+1),.int .i64 116]) aa k5 aa fun j an=>dT.bB j) ?_
 rw [gP ab] at ah
 exact lS.no (ah.ends ab)<|(ax.trans<|O.trans bS).trans' ec fun q C h=>by omega
 refine aM<|tn<|bv _ _<|aj fun _ aY=>ak (aQ E)<|p (cO (ps:= []) (L:= [.int .i64 0,.int .i64 0,.int .i64 0]) tH aa<|aa)<|p (cH (aQ E) aa)<|e<|cW jT aa aa aa aa (Wk.B O aS) (by simp) fun gT cy dU=>aE<|aY _ _<|rt<|eo aa ea (dK (cs:= [.int .i64 0,.int .i64 0,.int .i64 0]) aa k5 aa fun j an=>dU.bB j) ?_
 rw [gP ab,show n - i=0 by omega] at ah
 have eB:=ah.done
 have ey:TF av [49] (fun q=>q=bQ):=TF.eq (dt<|Wk.aJ (hE22.trans<|hE31.trans O) co) az
 unfold lS
 rw [eB]
 exact ⟨⟨M.heap.size,E,Y,_,vs,ab,aa,aP.md cy ey az (fun h=>by omega),ab,ab⟩,(ax.trans O).trans' cy fun q C h=>by omega⟩
end Go.Hb.k0
end
section
set_option maxRecDepth 20000
set_option maxHeartbeats 1000000
namespace Go.Hb.lA
open Go.Hb.dT
open Go.Proofs
open Go.Hb.fq Go.Hb.fQ Go.Hb.gn Go.Hb.rk Go.Hb.iK Go.Hb.iM Go.Hb.j4 Go.Hb.kK Go.Hb.k0
theorem ZI {α:Type} {f:α×Value→List Value} {m c i:Nat} (A:∀ q,(f q).length=m) (C:c < m) (hs:∀ a u v,(f (a,u)).set c v=f (a,v)) {rs:List α} {vs:List Value} {v:Value} (hi:i < rs.length) (J:i < vs.length):((rs.zip vs).flatMap f).set (i*m+c) v=(rs.zip<|vs.set i v).flatMap f:=by
 obtain ⟨r,I⟩:∃ r,rs[i]? =some r:=⟨_,cz hi⟩
 obtain ⟨u,hu⟩:∃ u,vs[i]? =some u:=⟨_,cz J⟩
 have M:(rs.zip vs)[i]? =some (r,u):=jx.2 ⟨I,hu⟩
 have V:rs.zip (vs.set i v)=(rs.zip vs).set i (r,v):=by
  apply p8
  intro j
  rw [kX]
  by_cases E:i=j
  · subst E
    rw [if_pos rfl,if_pos (fJ.1 M).1]
    exact jx.2 ⟨I,by simp [J]⟩
  · rw [if_neg E]
    cases h1:(rs.zip vs)[j]? with
    | none=>
      rw [List.getElem?_eq_none_iff,zY] at h1 ⊢
      rw [wX]; exact h1
    | some q=>
      have h2:=jx.1 h1
      exact jx.2 ⟨h2.1,by rw [kX,if_neg E]; exact h2.2⟩
 have Y:(rs.zip vs).length=min rs.length vs.length:=zY
 have G:((rs.zip vs).flatMap f).length=(rs.zip vs).length*m:=oH A _
 have hle:i*m+m≤(rs.zip vs).length*m:=by rw [← Nat.succ_mul]; exact Nat.mul_le_mul_right _ ab
 rw [V,Ia A _ ab]
 apply p8
 intro j
 have O:=fun c C=>BO A (c:=c) M C
 have U:(((rs.zip vs).flatMap f).take<|i*m).length=i*m:=by rw [dO,G]; omega
 rw [kX]
 by_cases h1:j < i*m
 · rw [if_neg ab,dC,mg ab,o3,if_pos h1]
 · rw [dC,mT ab,U]
   by_cases h2:j < i*m+m
   · rw [mg (by rw [A]; omega)]
     obtain ⟨d,rfl⟩:∃ d,j=i*m+d:=⟨j - i*m,ab⟩
     rw [O d ab,show i*m+d - i*m=d by omega,← hs r u v,kX]
     by_cases h3:c=d
     · subst h3; rw [if_pos rfl,if_pos rfl,if_pos (by rw [G]; omega),if_pos (by rw [A]; exact C)]
     · rw [if_neg ab,if_neg h3]
   · rw [if_neg ab,mT (by rw [A]; omega),A,ri]
     congr 1; omega
theorem SN {xs:List bD} {vs:List Value} {i:Nat} {v:Value} (hi:i < xs.length) (a:i < vs.length):(j7<|xs.zip vs).set (i*2 +1) v=j7 (xs.zip<|vs.set i v):=ZI (f:=pI) (m:=2) (c:=1) (fun _=>rfl) az (fun _ _ _=>rfl) hi a
theorem uT {l:List (bD×Value)} {i:Nat} {q:bD×Value} (h:l[i]? =some q):j7 l≠[]:=fun h2=>by
 have h3:=SI l
 have h4:=(fJ.1 h).1
 rw [h2] at h3
 have h5:0=l.length*2:=h3
 omega
theorem SM {w:World} {B e:Nat} {xs:List bD} {vs:List Value} {j:List (List Nat)} (h:ek w B e vs j):(j7<|xs.zip vs).all gz=true :=by
 rw [me]
 intro v a
 obtain ⟨q,i,a⟩:=List.mem_flatMap.1 a
 have h1:=me.1 (Ao h) q.2 (List.of_mem_zip i).2
 simp only [pI,gl,ur,or_false] at a
 rcases a with rfl | rfl
 · rfl
 · exact h1
def pd (w:World) (B:Nat) (vs:List Value) (a:List (List Nat)):Prop :=vs.length=a.length∧∀ (i:Nat) v l,vs[i]? =some v→a[i]? =some l→bo w B 51 1 v l.length (l.map bc)
theorem pd.t {w:World} {B:Nat} {vs:List Value} {a:List (List Nat)} (h:pd w B vs a):ek w B 51 vs a:=⟨h.1,fun i v l h1 h2=>Tg.jN<|h.2 i v l h1 h2⟩
theorem Fl {G:Nat→Prop} {w w':World} {B:Nat} {vs:List Value} {a:List (List Nat)} (h:pd w B vs a) (hm:Md G w w') (j:∀ k,G k→∀ cur z,w.heap[k]?≠some (.cells cur 51 z)):pd w' B vs a:=⟨h.1,fun i v l h1 h2=>db (h.2 i v l h1 h2) hm fun k hk q=>rU (h.2 i v l h1 h2) hk<|j k q⟩
theorem Oy (w:World) (B:Nat):pd w B [] []:=⟨rfl,fun i v l a=>by simp at a⟩
theorem Ox {w:World} {B i:Nat} {vs:List Value} {a:List (List Nat)} {v:Value} (h:pd w B (vs.take i) (a.take i)) (hi:i < a.length) (E:i < vs.length) (C:bo w B 51 1 v (a.getD i []).length ((a.getD i []).map bc)):pd w B ((vs.set i v).take<|i+1) (a.take<|i+1):=by
 refine ⟨by simp; have :=h.1; simp at this; omega,fun j u l h1 h2=> ?_⟩
 rw [o3] at h1 h2
 by_cases q:j < i+1
 · rw [if_pos q] at h1 h2
   rw [kX] at h1
   by_cases A:i=j
   · subst A
     rw [if_pos rfl,if_pos E] at h1
     cases h1
     rw [show a.getD i []=l by rw [cQ,h2]; rfl] at C
     exact C
   · rw [if_neg A] at h1
     exact h.2 j u l (by rw [o3,if_pos ab]; exact h1)<|by rw [o3,if_pos ab]; exact h2
 · rw [if_neg q] at h1; cases h1
theorem Sn (B wb mb:Nat) (va:Value) (vs:List Value) (xs:List bD) (w:World) (G:lz w B wb mb va vs xs) (a0:xs.length≤70000) (aK:∀ x∈xs,x.2.length≤64):
 bh ay 47 (ba [aQ wb]) w (fun v w'=>(∃ vs,bo w' w.heap.size 72 2 v xs.length (j7<|xs.zip vs)∧ek w' w.heap.size 51 vs (xs.map (·.2))∧pd w' w.heap.size vs (xs.map (·.2)))∧Wk w w'):=by
 refine enter func47 aa ntmps47 aa<|aj fun _ am=>aw<|am _ _<|sq fun _ ao=>aj fun _ ap=>ak (aQ wb)<|p (lY L8 aa aa)<|aE<|ap _ _<|cf (aa)<|aM<|tn<|ao _ _<|sq fun _ aq=>rg aa<|ak (aQ wb)<|p (nc aa)<|p (fa yh aa)<|p (ld uE aa<|(a6 G.cells).trans aa)<|e<|cl QM (Q7 va xs.length (j7<|xs.zip vs) w (Rd.jN G.own) (SM G.fl) ab) aa fun v11 a3 aD=> ?_
 obtain ⟨ah,aB⟩:=aD
 obtain ⟨C,kr,rfl⟩:=cw ah
 have aT:vs.length=xs.length:=by have :=G.fl.1; rwa [fE] at this
 refine aw<|aq _ _<|sq fun _ ar=>aj fun _ av=>p mv<|p (bF zu aa aa)<|p mv<|aE<|av _ _<|aJ<|lp (fun ag M E=> ∃ (i:Nat) (sa:List Value),(i≤xs.length)∧(sa.length=xs.length)∧(sa.drop i=vs.drop i)∧(pd E w.heap.size (sa.take i)<|(xs.map (·.2)).take i)∧(bo E w.heap.size 72 2 (.slice C xs.length kr) xs.length<|j7<|xs.zip sa)∧(Wk w E)∧(M 3= .slice C xs.length kr)∧(M 13=au (xs.length))∧(M 14=au i)∧(xs.length - i=ag)) _ ⟨0,vs,ab,aT,aa,(Oy _ _),ah,aB,aa,aa,aa,aa⟩ ?_
 rintro ag M E ⟨i,sa,hi,aS,al,J,A,I,aR,aO,aP,rfl⟩
 refine fx 3 aR<|fx 13 aO<|fx 14 aP<|aj fun _ ax=>p (lt aa aa)<|aE<|ax _ _<|sq fun _ aA=>cd aa (fun aH=> ?_) fun aH=> ?_
 refine aM<|tn<|aA _ _<|sq fun _ O=>aJ<|sq fun _ an=> ?_
 obtain ⟨a2,aV,V⟩:=ek.get (G.wk I).fl (show i < (xs.map (·.2)).length by rw [fE]; omega)
 obtain ⟨ae,ci,rfl⟩:=V.slice
 obtain ⟨x,ac⟩:∃ x,xs[i]? =some x:=⟨_,cz ab⟩
 have aY:(xs.map (·.2)).getD i []=x.2:=by rw [cQ,List.getElem?_map,ac]; rfl
 have aW:=aK x<|iJ ac
 rw [← aY] at aW
 have Z:(xs.zip sa)[i]? =some (x,.slice ae ((xs.map (·.2)).getD i []).length ci):=jx.2 ⟨ac,(Bw al).trans aV⟩
 refine rg aa<|ak (au i)<|p (cH (au i) aa)<|aE<|an _ _<|rg aa<|ak (.slice C xs.length kr)<|ak (au i)<|ak (.slice C xs.length kr)<|ak (au i)<|p (a7 BB aa aa ab<|aI.ok ((aX A).2)<|uT Z)<|p (fa rL aa)<|p (ld mZ aa<|e9 (f:=pI) (m:=2) (fun _=>rfl) (aX A).2 Z 1 az)<|e<|cl rD (sY ae ((xs.map (·.2)).getD i []).length ci (((xs.map (·.2)).getD i []).map bc) E V.cI.2 (by simp) (fun h=>Tg.tB V (by simp) h) (sQ _) ab) aa fun v24 a4 aF=> ?_
 obtain ⟨Y,a⟩:=aF
 have a1:=a.size
 refine p (a7 BB aa aa ab<|aI.ok ((aX<|aU A a).2)<|uT Z)<|p (fa rL aa)<|e<|tI (j:=i*2 +1) (aU A a) s6 aa aa (eH Y) (by rw [Int.toNat_natCast]; omega) ab fun aZ U ai=> ?_
 rw [SN ab ab] at ai
 have aC:Wk w aZ:=Wk.own (I.trans a) (aU A a) U ab
 have aL:=db (ep Y (show w.heap.size≤E.heap.size from I.size)) U fun q aN=>mG Y (aU A a) az aN
 have aG:=Fl (Fl J a fun _ hk=>hk.elim) U<|hU (aU A a) az
 exact nl<|bn<|tn<|O _ _<|rg aa<|p (ad aa aa<|bT ab)<|p mv<|nl<|tn<|⟨_,ab,i+1,sa.set i v24,ab,(by rw [wX]; exact aS),(j4.set_drop al),(Ox aG (by rw [fE]; omega) ab aL),ai,aC,aa,aa,aa,aa⟩
 refine ext<|te _<|te _<|be<|tn<|ar _ _<|aj fun _ O=>ak (.slice C xs.length kr)<|p (cH (.slice C xs.length kr) aa)<|aE<|O _ _<|rt<|f1 aa aa ?_
 rw [eI ab,eI (by rw [fE]; omega)] at J
 exact ⟨⟨sa,A,J.t,J⟩,I⟩
end Go.Hb.lA
end
section
set_option maxRecDepth 20000
set_option maxHeartbeats 1000000
namespace Go.Hb.jP
open Go.Proofs
open Go.Hb.fq Go.Hb.fQ Go.Hb.mi Go.Hb.gn Go.Hb.lQ Go.Hb.nA Go.Hb.jF
def ng (c:c7):List Value:= [bM c.flag,.int .i64 (c.kind:Nat),.bool c.ei,.int .i64 (c.first:Nat),.int .i64 (c.count:Nat)]
def qF (l:List c7):List Value:=l.flatMap ng
def jv (q:c8×Value):List Value:= [.int .i64 (q.1.kind:Nat),bM q.1.flag,.bool q.1.ei,str q.1.strip,str q.1.add,str q.1.cond,q.2,.int .i64 (q.1.line:Nat)]
def mz (l:List (c8×Value)):List Value:=l.flatMap jv
def ij (w:World) (B e:Nat) (vs:List Value) (a:List (List Nat)):Prop :=vs.length=a.length∧∀ (i:Nat) v l,vs[i]? =some v→a[i]? =some l→Tg w B e l.length v (l.map bM)
theorem ij.nil (w:World) (B e:Nat):ij w B e [] []:=⟨rfl,fun i v l a=>by simp at a⟩
theorem ij.md {F:Nat→Prop} {w w':World} {B e:Nat} {vs:List Value} {a:List (List Nat)} (h:ij w B e vs a) (hm:Md F w w') (j:∀ k,F k→∀ cur z,w.heap[k]?≠some (.cells cur e z)):ij w' B e vs a:=⟨h.1,fun i v l h1 h2=>(h.2 i v l h1 h2).md hm j⟩
theorem ij.wk {w w':World} {B e:Nat} {vs:List Value} {a:List (List Nat)} (h:ij w B e vs a) (hm:Wk w w'):ij w' B e vs a:=h.md hm fun _ hk=>hk.elim
theorem ij.snoc {w:World} {B e:Nat} {vs:List Value} {q:List (List Nat)} {v:Value} {l:List Nat} (a:ij w B e vs q) (C:Tg w B e l.length v (l.map bM)):ij w B e (vs++ [v]) (q++ [l]):=by
 refine ⟨by rw [bI,bI,a.1]; rfl,fun i E G h1 h2=> ?_⟩
 have A:=a.1
 by_cases hi:i < vs.length
 · rw [mg hi] at h1
   rw [mg ab] at h2
   exact a.2 i E G h1 h2
 · rw [mT ab] at h1
   rw [mT ab,← A] at h2
   cases hj:i - vs.length with
   | zero=>rw [hj] at h1 h2; cases h1; cases h2; exact C
   | succ j=>rw [hj] at h1; simp at h1
theorem ij.get {w:World} {B e i:Nat} {vs:List Value} {a:List (List Nat)} (h:ij w B e vs a) (hi:i < a.length):∃ v,vs[i]? =some v∧Tg w B e (a.getD i []).length v ((a.getD i []).map bM):=by
 have h1:i < vs.length:=by rw [h.1]; exact hi
 refine ⟨vs[i],cz h1,h.2 i _ _ (cz h1) ?_⟩
 rw [cQ,cz hi]; rfl
structure fY where
 rb:Nat
 fb:Nat
 eof:Nat
 vr:Value
 vs:List (Nat×Value)
 rows:List Rw
structure eh where
 v9:Value
 v10:Value
 v11:Value
 v12:Value
 sa:List Value
 rn:List Value
def nQ (F:aR) (V:eh):List Value:= [.int .i64 (F.kind:Nat),str F.rE,str F.tr,bM (F.sp.getD 0 0),bM (F.sp.getD 1 0),bM (F.sp.getD 2 0),bM (F.sp.getD 3 0),bM (F.sp.getD 4 0),.int .i64 (F.least:Nat),V.v9,V.v10,V.v11,V.v12]
def IN (H:fY) (k:Nat) (vh:Value) (ln:Nat):List Value:= [.pointer (some ⟨H.fb,0,none⟩),H.vr,.int .i64 (k:Nat),.int .i64 (H.eof:Nat),vh,.int .i64 (ln:Nat)]
structure eA (w:World) (B B0 fb:Nat) (F:aR) (V:eh):Prop where
 cells:w.heap[fb]? =some (.cells (nQ F V).toArray 181 (0,0))
 o9:bo w B 369 2 V.v9 F.dd.length (kU F.dd)
 eO:bo w B 75 1 V.v10 F.aliases.length V.sa
 al:ij w B0 3 V.sa F.aliases
 ej:bo w B 242 5 V.v11 F.bp.length (qF F.bp)
 dB:bo w B 174 8 V.v12 F.rules.length (mz<|F.rules.zip V.rn)
 nx:ij w B0 3 V.rn (F.rules.map (·.next))
 lo:B≤fb
 fI:F.sp.length=5
theorem eA.md {G:Nat→Prop} {w w':World} {B B0 fb:Nat} {F:aR} {V:eh} (h:eA w B B0 fb F V) (hm:Md G w w') {L:List Nat} (a:TF w L G) (i:(L.contains 183 || L.contains 371 || L.contains 77 || L.contains 5 || L.contains 244 || L.contains 176)=false):eA w' B B0 fb F V:=by
 simp only [nw] at i
 obtain ⟨⟨⟨⟨⟨h1,h2⟩,h3⟩,h4⟩,h5⟩,h6⟩:=i
 have j:∀ k,G k→∀ cur z,w.heap[k]?≠some (.cells cur 3 z):=fun k hk cur z q=>a.no (dt q) h4 hk
 exact ⟨hm.gy a h.cells h1,bZ h.o9 hm a h2,bZ h.eO hm a h3,h.al.md hm j,bZ h.ej hm a h5,bZ h.dB hm a h6,h.nx.md hm j,h.lo,h.fI⟩
theorem eA.wk {w w':World} {B B0 fb:Nat} {F:aR} {V:eh} (h:eA w B B0 fb F V) (hm:Wk w w'):eA w' B B0 fb F V:=h.md (L:= []) hm (fun _ hk=>hk.elim) rfl
structure nC (w:World) (B B0 fb:Nat) (F:aR) (V:eh):Prop where
 cells:w.heap[fb]? =some (.cells (nQ F V).toArray 181 (0,0))
 eO:bo w B 75 1 V.v10 F.aliases.length V.sa
 al:ij w B0 3 V.sa F.aliases
theorem eA.r {w:World} {B B0 fb:Nat} {F:aR} {V:eh} (h:eA w B B0 fb F V):nC w B B0 fb F V:=⟨h.cells,h.eO,h.al⟩
theorem nC.md {G:Nat→Prop} {w w':World} {B B0 fb:Nat} {F:aR} {V:eh} (h:nC w B B0 fb F V) (hm:Md G w w') {L:List Nat} (a:TF w L G) (i:(L.contains 183 || L.contains 77 || L.contains 5)=false):nC w' B B0 fb F V:=by
 simp only [nw] at i
 obtain ⟨⟨h1,h3⟩,h4⟩:=i
 exact ⟨hm.gy a h.cells h1,bZ h.eO hm a h3,h.al.md hm fun k hk cur z j=>a.no (dt j) h4 hk⟩
theorem nC.wk {w w':World} {B B0 fb:Nat} {F:aR} {V:eh} (h:nC w B B0 fb F V) (hm:Wk w w'):nC w' B B0 fb F V:=h.md (L:= []) hm (fun _ hk=>hk.elim) rfl
theorem eA.put {w w':World} {B B0 fb:Nat} {F F':aR} {V:eh} (h:eA w B B0 fb F V) (hm:Md (fun k=>k=fb) w w') (j:w'.heap[fb]? =some (.cells (nQ F' V).toArray 181 (0,0))) (h1:F'.dd=F.dd) (h2:F'.aliases=F.aliases) (h3:F'.bp=F.bp) (h4:F'.rules=F.rules) (h5:F'.sp.length=5):eA w' B B0 fb F' V:=by
 have a:TF w [183] (fun k=>k=fb):=TF.eq (dt h.cells) az
 have i:∀ k,k=fb→∀ cur z,w.heap[k]?≠some (.cells cur 3 z):=fg h.cells az
 exact ⟨j,h1 ▸ bZ h.o9 hm a az,h2 ▸ bZ h.eO hm a az,h2 ▸ h.al.md hm i,h3 ▸ bZ h.ej hm a az,h4 ▸ bZ h.dB hm a az,h4 ▸ h.nx.md hm i,h.lo,h5⟩
theorem eA.Ar {w i C:World} {B B0 fb:Nat} {F:aR} {V:eh} {v:Value} {x:Tx×Tx} (h:eA w B B0 fb F V) (hm:Md (fun k=>V.v9.ownBlock=some k) w i) (I:bo i B 369 2 v (F.dd++ [x]).length (kU<|F.dd++ [x])) (a:Md (fun k=>k=fb) i C) (J:C.heap[fb]? =some (.cells (nQ {F with dd:=F.dd++ [x]} {V with v9:=v}).toArray 181 (0,0))):eA C B B0 fb {F with dd:=F.dd++ [x]} {V with v9:=v} :=by
 have j:TF w [371] (fun k=>V.v9.ownBlock=some k):=TF.own h.o9 az
 have A:=hm.gy j h.cells az
 have q:TF i [183] (fun k=>k=fb):=TF.eq (dt A) az
 have E:∀ k,V.v9.ownBlock=some k→∀ cur z,w.heap[k]?≠some (.cells cur 3 z):=hU h.o9 az
 have G:∀ k,k=fb→∀ cur z,i.heap[k]?≠some (.cells cur 3 z):=fg A az
 exact ⟨J,db I a (fun k hk M=>dw I A az<|M ▸ hk),bZ (bZ h.eO hm j az) a q az,(h.al.md hm E).md a G,bZ (bZ h.ej hm j az) a q az,bZ (bZ h.dB hm j az) a q az,(h.nx.md hm E).md a G,h.lo,h.fI⟩
theorem eA.Ap {w i G:World} {B B0 fb:Nat} {F:aR} {V:eh} {v:Value} {x:List Nat} {vx:Value} (h:eA w B B0 fb F V) (O:Tg w B0 3 x.length vx (x.map bM)) (hm:Md (fun k=>V.v10.ownBlock=some k) w i) (I:bo i B 75 1 v (F.aliases++ [x]).length (V.sa++ [vx])) (a:Md (fun k=>k=fb) i G) (J:G.heap[fb]? =some (.cells (nQ {F with aliases:=F.aliases++ [x]} {V with v10:=v,sa:=V.sa++ [vx]}).toArray 181 (0,0))):eA G B B0 fb {F with aliases:=F.aliases++ [x]} {V with v10:=v,sa:=V.sa++ [vx]} :=by
 have j:TF w [77] (fun k=>V.v10.ownBlock=some k):=TF.own h.eO az
 have A:=hm.gy j h.cells az
 have q:TF i [183] (fun k=>k=fb):=TF.eq (dt A) az
 have C:∀ k,V.v10.ownBlock=some k→∀ cur z,w.heap[k]?≠some (.cells cur 3 z):=hU h.eO az
 have E:∀ k,k=fb→∀ cur z,i.heap[k]?≠some (.cells cur 3 z):=fg A az
 exact ⟨J,bZ (bZ h.o9 hm j az) a q az,db I a (fun k hk M=>dw I A az<|M ▸ hk),((h.al.md hm C).md a E).snoc ((O.md hm C).md a E),bZ (bZ h.ej hm j az) a q az,bZ (bZ h.dB hm j az) a q az,(h.nx.md hm C).md a E,h.lo,h.fI⟩
theorem eA.Aq {w i C:World} {B B0 fb:Nat} {F:aR} {V:eh} {v:Value} {x:c7} (h:eA w B B0 fb F V) (hm:Md (fun k=>V.v11.ownBlock=some k) w i) (I:bo i B 242 5 v (F.bp++ [x]).length (qF<|F.bp++ [x])) (a:Md (fun k=>k=fb) i C) (J:C.heap[fb]? =some (.cells (nQ {F with bp:=F.bp++ [x]} {V with v11:=v}).toArray 181 (0,0))):eA C B B0 fb {F with bp:=F.bp++ [x]} {V with v11:=v} :=by
 have j:TF w [244] (fun k=>V.v11.ownBlock=some k):=TF.own h.ej az
 have A:=hm.gy j h.cells az
 have q:TF i [183] (fun k=>k=fb):=TF.eq (dt A) az
 have E:∀ k,V.v11.ownBlock=some k→∀ cur z,w.heap[k]?≠some (.cells cur 3 z):=hU h.ej az
 have G:∀ k,k=fb→∀ cur z,i.heap[k]?≠some (.cells cur 3 z):=fg A az
 exact ⟨J,bZ (bZ h.o9 hm j az) a q az,bZ (bZ h.eO hm j az) a q az,(h.al.md hm E).md a G,db I a (fun k hk M=>dw I A az<|M ▸ hk),bZ (bZ h.dB hm j az) a q az,(h.nx.md hm E).md a G,h.lo,h.fI⟩
theorem eA.xy {w i G:World} {B B0 fb:Nat} {F:aR} {V:eh} {v:Value} {x:c8} {vx:Value} (h:eA w B B0 fb F V) (O:Tg w B0 3 x.next.length vx (x.next.map bM)) (hm:Md (fun k=>V.v12.ownBlock=some k) w i) (I:bo i B 174 8 v (F.rules++ [x]).length (mz<|(F.rules++ [x]).zip<|V.rn++ [vx])) (a:Md (fun k=>k=fb) i G) (J:G.heap[fb]? =some (.cells (nQ {F with rules:=F.rules++ [x]} {V with v12:=v,rn:=V.rn++ [vx]}).toArray 181 (0,0))):eA G B B0 fb {F with rules:=F.rules++ [x]} {V with v12:=v,rn:=V.rn++ [vx]} :=by
 have j:TF w [176] (fun k=>V.v12.ownBlock=some k):=TF.own h.dB az
 have A:=hm.gy j h.cells az
 have q:TF i [183] (fun k=>k=fb):=TF.eq (dt A) az
 have C:∀ k,V.v12.ownBlock=some k→∀ cur z,w.heap[k]?≠some (.cells cur 3 z):=hU h.dB az
 have E:∀ k,k=fb→∀ cur z,i.heap[k]?≠some (.cells cur 3 z):=fg A az
 exact ⟨J,bZ (bZ h.o9 hm j az) a q az,bZ (bZ h.eO hm j az) a q az,(h.al.md hm C).md a E,bZ (bZ h.ej hm j az) a q az,db I a (fun k hk M=>dw I A az<|M ▸ hk),(by rw [ig]; exact ((h.nx.md hm C).md a E).snoc<|(O.md hm C).md a E),h.lo,h.fI⟩
structure gS (w:World) (B:Nat) (H:fY) (k ln:Nat) (seen:List Tx) (vh:Value):Prop where
 cells:w.heap[H.rb]? =some (.cells (IN H k vh ln).toArray 236 (0,0))
 hd:bo w B 9 1 vh seen.length (seen.map str)
 lo:B≤H.rb
section
variable {w w':World} {B k ln:Nat} {H:fY} {seen:List Tx} {vh:Value}
theorem gS.md {G:Nat→Prop} (h:gS w B H k ln seen vh) (hm:Md G w w') {L:List Nat} (i:TF w L G) (a:(L.contains 238 || L.contains 11)=false):gS w' B H k ln seen vh:=by
 simp only [nw] at a
 exact ⟨hm.gy i h.cells a.1,bZ h.hd hm i a.2,h.lo⟩
theorem gS.wk (h:gS w B H k ln seen vh) (hm:Wk w w'):gS w' B H k ln seen vh:=h.md (L:= []) hm (fun _ hk=>hk.elim) rfl
theorem gS.fb {B0:Nat} {a:aR} {V:eh} (h:gS w B H k ln seen vh) (i:eA w B B0 H.fb a V) (hm:Md (fun k=>k=H.fb) w w'):gS w' B H k ln seen vh:=h.md hm (TF.eq (L:= [183]) (dt i.cells) az) az
theorem gS.own {B' e s n:Nat} {v:Value} {xs:List Value} (h:gS w B H k ln seen vh) (i:bo w B' e s v n xs) (hm:Md (fun k=>v.ownBlock=some k) w w') (a:([e+2].contains 238 || [e+2].contains 11)=false):gS w' B H k ln seen vh:=h.md hm (TF.own (L:= [e+2]) i<|by simp) a
theorem gS.oF {cs:Array Value} {z:Nat×Nat} (h:gS w B H k ln seen vh) (a:w.heap[H.fb]? =some (.cells cs 181 z)) (hm:Md (fun k=>k=H.fb) w w'):gS w' B H k ln seen vh:=h.md hm (TF.eq (L:= [183]) (dt a) az) az
theorem gS.dD {k' ln':Nat} (h:gS w B H k ln seen vh) (hm:Md (fun k=>k=H.rb) w w') (a:w'.heap[H.rb]? =some (.cells (IN H k' vh ln').toArray 236 (0,0))):gS w' B H k' ln' seen vh:=⟨a,bZ h.hd hm (TF.eq (L:= [238]) (dt h.cells) az) az,h.lo⟩
theorem eA.rb {B0:Nat} {a:aR} {V:eh} (h:eA w B B0 H.fb a V) (i:gS w B H k ln seen vh) (hm:Md (fun k=>k=H.rb) w w'):eA w' B B0 H.fb a V:=h.md hm (TF.eq (L:= [238]) (dt i.cells) az) az
end
structure nB (F:aR) (rows:List Rw) (seen:List Tx):Prop where
 len:F.dd.length+F.aliases.length+F.bp.length+F.rules.length+rows.length≤70000
 sl:seen.length+rows.length≤70000
 row:∀ q∈rows,q.2≠[]∧q.2.length≤70000∧∀ x∈q.2,x.length≤70000
 kd:F.kind=1∨F.kind=2∨F.kind=3
def GS (a:World) (H:fY):Prop := ∃ B0,Tg a B0 237 H.rows.length H.vr (kF H.vs)∧gT a B0 9 H.vs H.rows∧H.rows.length≤70000
def mm (a w:World) (H:fY) (F:aR) (k ln:Nat) (seen:List Tx):Prop := ∃ V vh,eA w a.heap.size 0 H.fb F V∧gS w a.heap.size H k ln seen vh∧nB F (H.rows.drop k) seen∧Wk a w∧k≤H.rows.length
def N9 (w':World) (H:fY) (X:Except (Nat×Nat) (aR×List Rw)) (v:Value):Prop := ∃ l e:Nat,X= .error (l,e)∧e≠0∧v= .int .i64 (e:Nat)∧Hb.aO w'.heap H.rb 5=some (.int .i64 (l:Nat))
def fF (a:World) (H:fY) (seen:List Tx) (X:Except (Nat×Nat) (aR×List Rw)) (v:Value) (w':World):Prop :=((∃ F' k' ln',X= .ok (F',H.rows.drop k')∧v= .int .i64 (0:Nat)∧mm a w' H F' k' ln' seen)∨N9 w' H X v)∧Wk a w'
theorem nB.pH {F:aR} {q:Rw} {rest:List Rw} {seen:List Tx} (h:nB F (q::rest) seen):nB F rest seen:=⟨by have :=h.len; simp only [cM] at this; omega,by have :=h.sl; simp only [cM] at this; omega,fun a h2=>h.row a (uo _ h2),h.kd⟩
theorem gS.dj {w:World} {B:Nat} {H:fY} {k ln:Nat} {seen:List Tx} {vh:Value} (h:gS w B H k ln seen vh):Hb.aO w.heap H.rb 5=some (.int .i64 (ln:Nat)):=(a6 h.cells).trans rfl
theorem GS.get {A w:World} {H:fY} {k:Nat} (h:GS A H) (hm:Wk A w) (hk:k < H.rows.length):∃ n r ar cr a c,H.rows.drop k=(n,r)::H.rows.drop (k+1)∧H.vr= .slice a H.rows.length c∧aI w.heap a (kF H.vs)∧H.vs[k]? =some (n,.slice ar r.length cr)∧(∃ B0,Tg A B0 9 r.length (.slice ar r.length cr) (r.map str))∧H.vs.length=H.rows.length:=by
 obtain ⟨B0,h1,h2,_⟩:=h
 obtain ⟨a,c,E⟩:=h1.slice
 have G:=h2.1
 obtain ⟨q,j⟩:∃ q,H.rows[k]? =some q:=⟨_,cz hk⟩
 obtain ⟨n,r⟩:=q
 obtain ⟨p,hp⟩:∃ p,H.vs[k]? =some p:=⟨_,cz ab⟩
 obtain ⟨C,i⟩:=h2.2 k p (n,r) hp j
 obtain ⟨I,J⟩:=p
 simp only at C i
 subst C
 obtain ⟨ar,cr,rfl⟩:=i.slice
 rw [E] at h1
 refine ⟨I,r,ar,cr,a,c,?_,E,(h1.wk hm).cI.2,hp,⟨B0,i⟩,G⟩
 rw [Np hk]
 rw [cz hk] at j
 rw [rj j]
end Go.Hb.jP
end
section
set_option maxRecDepth 20000
set_option maxHeartbeats 1000000
namespace Go.Hb.sJ
open Go.Hb.dT
open Go.Proofs
open Go.Hb.oy
theorem V0 {l:List UInt8} {j:Nat} {b:UInt8} (h:j < l.length):b∈l.take (j+1)↔b∈l.take j∨l.getD j 0=b:=by
 rw [fD l j 0 h,jz,jY,eq_comm (a:=b)]
theorem vH (s:List UInt8) (w:World) (hs:s.length≤1048576):
 bh ay 176 (ba [str s]) w (fun v w'=>v= .bool (gq s)∧Wk w w'):=by
 refine enter func176 aa ntmps176 aa<|aj fun _ M=>aw<|M _ _<|sq fun _ O=>aj fun _ U=>aw<|U _ _<|aJ<|lp (fun G C J=> ∃ (i:Nat),(i≤s.length)∧(∀ j,j < i→iN (s.getD j 0)=true)∧(Wk w J)∧(C 0=str s)∧(C 3= .int .i64 i)∧(s.length - i=G)) _ ⟨0,ab,(fun j I=>by omega),(Md.refl _ _),aa,aa,aa⟩ ?_
 rintro G C J ⟨i,hi,hp,a,ag,ah,rfl⟩
 refine fx 0 ag<|fx 3 ah<|sq fun _ V=>aj fun _ Y=>ak (.int .i64 i)<|ak (str s)<|p (cg u9 aa aa)<|p (lt aa aa)<|aE<|Y _ _<|cd aa (fun ac=> ?_) fun ac=> ?_
 refine aM<|tn<|V _ _<|sq fun _ q=>aJ<|aj fun _ E=>ak (str s)<|ak (.int .i64 i)<|p (eK u9 aa aa ab)<|p (lt aa aa)<|p mv<|gs (t:=14) aa (fun ae=> ?_) fun ae=> ?_
 exact sk aa aa aa aa<|sk aa aa aa aa<|sk aa aa aa aa<|sk aa aa aa aa<|p (bw aa)<|aE<|E _ _<|ct aa<|aj fun _ A=>aw<|A _ _<|rt<|br<|tr<|tr<|br<|tr<|f1 aa aa<|⟨by show bQ false =_; rw [sW (i:=i) ab (BL ab)],a⟩
 refine pg aa aa aa (aT (str s) aa)<|pg aa aa aa (aT (.int .i64 i) aa)<|pg aa aa aa (eK u9 aa aa ab)<|pg aa aa aa (bH aa aa)<|p (bm aa)<|aE<|E _ _<|cd aa (fun Z=> ?_) fun Z=> ?_
 exact aj fun _ A=>aw<|A _ _<|rt<|br<|tr<|tr<|br<|tr<|f1 aa aa<|⟨by show bQ false =_; rw [sW (i:=i) ab (BL ab)],a⟩
 have ai:iN (s.getD i 0)=true :=Tl ab ab
 exact aM<|bn<|tn<|q _ _<|rg aa<|ak (.int .i64 i)<|p (ad aa aa<|bT ab)<|p aB<|nl<|tn<|⟨_,ab,i+1,ab,(fun j I=>by rcases e8 j i with h | h <;> first | exact hp j h | (rw [show j=i by omega]; exact ai)),a,aa,aa,aa⟩
 exact ext<|te _<|te _<|be<|tn<|O _ _<|aj fun _ q=>p aB<|aE<|q _ _<|rt<|f1 aa aa<|⟨by show bQ true =_; rw [uJ (fun j I=>hp j ab)],a⟩
theorem y3 (s:List UInt8) (w:World) (hs:s.length≤1048576):
 bh ay 180 (ba [str s]) w (fun v w'=>v=KI (bu s)∧Wk w w'):=by
 refine enter func180 aa ntmps180 aa<|aj fun _ al=>p aB<|p aB<|p aB<|aw<|al _ _<|aj fun _ ar=>e<|m5 hZ fun ac bc bg aL aD=> ?_
 have a2:bo bc w.heap.size 5 1 (.slice (some ⟨ac,0,none⟩) 0 0) (([]:List UInt8)).length (U8<|([]:List UInt8)):=aD _ ab
 refine aw<|ar _ _<|aj fun _ au=>aw<|au _ _<|sq fun _ av=>aJ<|lp (fun ae M A=> ∃ (i:Nat) (acc:List UInt8) (Y:Value),(i≤s.length∧acc.length≤i)∧(bo A w.heap.size 5 1 (Y) (acc).length<|U8<|acc)∧(Wk w A)∧(jm acc (s.drop i)=bu s)∧(M 0=str s)∧(M 6=Y)∧(M 7= .int .i64 i)∧(s.length - i=ae)) _ ⟨0,[],.slice (some ⟨ac,0,none⟩) 0 0,(by simp),a2,aL.md,aa,aa,aa,aa,aa⟩ ?_
 rintro ae M A ⟨i,acc,Y,hi,q,j,hd,a3,a4,a5,rfl⟩
 refine fx 0 a3<|fx 6 a4<|fx 7 a5 ?_
 obtain ⟨G,I,rfl⟩:=cw q
 refine sq fun _ ax=>aj fun _ az=>ak (.int .i64 i)<|ak (str s)<|p (cg u9 aa aa)<|p (lt aa aa)<|nl<|tn<|az _ _<|cd aa (fun aP=> ?_) fun aP=> ?_
 refine aM<|tn<|ax _ _<|aJ<|sq fun _ U=>aj fun _ aA=>ak (str s)<|ak (.int .i64 i)<|p (eK u9 aa aa ab)<|p (bH aa aa)<|aE<|aA _ _<|cd aa (fun aQ=> ?_) fun aQ=> ?_
 have aO:(s.getD i 0).toNat=47:=ab
 refine sq fun _ E=> ?_
 have a:(fun w'=>Wk A w') A.drew:=(Md.refl _ _).drew
 exact bJ (fun w'=>Wk A w') aa wide a<|bC 0 aa (.slice G acc.length I) a<|bC 2 aa (str s) a<|bC 3 aa (.int .i64 i) a<|aH 4 aa (fun _ _=>bE ((i+1:Nat):Int) aa aa<|bj ab ab) a<|aH 5 aa (fun _ _=>l8 u9 aa aa ab) a<|aH 1 aa (fun w' aN=>m8 m6 aa ((aX<|aU q aN).2)<|aa) a<|aH 6 aa (fun _ _=>aB) a<|aH 7 aa (fun _ _=>aB) a<|aH 8 aa (fun _ _=>aB) a<|aH 9 aa (fun _ _=>aB) a<|hn ag<|tn<|E _ _<|rt<|tr<|br<|tr<|br<|tr<|f4 aa aa aa aa aa<|⟨by rw [← hd,drop_cons 0 (by omega :i < s.length),DZ aO]; rfl,Md.trans j (Md.refl _ _).drew⟩
 refine aM<|tn<|U _ _ ?_
 refine ec (fun O Z=> ∃ (k:Nat),(k < s.length∧i≤k∧k≤i+1)∧(Wk w Z)∧(bo Z w.heap.size 5 1 (.slice G acc.length I) (acc).length<|U8<|acc)∧(jm (acc++ [s.getD k 0]) (s.drop<|k+1)=bu s)∧(O 0=str s)∧(O 6= .slice G acc.length I)∧(O 7= .int .i64 k)) ?_ ?_
 refine aj fun _ E=>ak (str s)<|ak (.int .i64 i)<|p (eK u9 aa aa ab)<|p (bH aa aa)<|aE<|E _ _<|cd aa (fun aR=> ?_) fun aR=> ?_
 have J:(s.getD i 0).toNat=92:=ab
 refine aj fun _ am=>ak (.int .i64 i)<|p (bE ((i+1:Nat):Int) aa aa<|bj ab ab)<|aw<|am _ _<|sq fun _ an=>aj fun _ ao=>p mv<|ak (str s)<|p (cg u9 aa aa)<|p (ge aa aa)<|aE<|ao _ _<|cd aa (fun aS=> ?_) fun aS=> ?_
 exact aj fun _ C=>p aB<|p aB<|p aB<|aw<|C _ _<|rt<|tr<|tr<|br<|tr<|br<|tr<|f4 aa aa aa aa aa<|⟨by rw [← hd,drop_cons 0 (by omega :i < s.length),gP ab,DW J]; rfl,j⟩
 refine aM<|tn<|an _ _<|aj fun _ C=>ak (str s)<|p mv<|p (eK u9 aa aa ab)<|p (cX aa aa)<|p mv<|gs (t:=37) aa (fun aY=> ?_) fun aY=> ?_
 refine pg aa aa aa (aT (str s) aa)<|pg aa aa aa mv<|pg aa aa aa (eK u9 aa aa ab)<|pg aa aa aa (cX aa aa)<|p (bw aa)<|p mv<|gs (t:=43) aa (fun aZ=> ?_) fun aZ=> ?_
 refine pg aa aa aa (aT (str s) aa)<|pg aa aa aa mv<|pg aa aa aa (eK u9 aa aa ab)<|pg aa aa aa (cX aa aa)<|p (bw aa)<|aE<|C _ _<|cd aa (fun aV=> ?_) fun aV=> ?_
 exact aj fun _ aq=>p aB<|p aB<|p aB<|aw<|aq _ _<|rt<|tr<|br<|tr<|br<|tr<|f4 aa aa aa aa aa<|⟨by rw [← hd,drop_cons 0 (by omega :i < s.length),drop_cons 0 (by omega :i+1 < s.length),DX J (by rw [k8]; exact decide_eq_false ab)]; rfl,j⟩
 exact aM<|tn<|⟨i+1,ab,j,q,(by rw [← hd,drop_cons 0 (by omega :i < s.length),drop_cons 0 (by omega :i+1 < s.length),wc J (by rw [k8]; exact decide_eq_true ab)]),aa,aa,aa⟩
 exact sk aa aa aa aa<|sk aa aa aa aa<|sk aa aa aa aa<|sk aa aa aa aa<|p (bm aa)<|aE<|C _ _<|cf aa<|aM<|tn<|⟨i+1,ab,j,q,(by rw [← hd,drop_cons 0 (by omega :i < s.length),drop_cons 0 (by omega :i+1 < s.length),wc J (by rw [k8]; exact decide_eq_true ab)]),aa,aa,aa⟩
 exact sk aa aa aa aa<|sk aa aa aa aa<|sk aa aa aa aa<|sk aa aa aa aa<|p (bm aa)<|p mv<|sk aa aa aa aa<|sk aa aa aa aa<|sk aa aa aa aa<|sk aa aa aa aa<|p (bm aa)<|aE<|C _ _<|cf aa<|aM<|tn<|⟨i+1,ab,j,q,(by rw [← hd,drop_cons 0 (by omega :i < s.length),drop_cons 0 (by omega :i+1 < s.length),wc J (by rw [k8]; exact decide_eq_true ab)]),aa,aa,aa⟩
 exact aM<|tn<|⟨i,ab,j,q,(by rw [← hd,drop_cons 0 (by omega :i < s.length),DY ab ab]),aa,aa,aa⟩
 rintro O Z ⟨k,hk,aG,ai,aW,a6,a7,a8⟩
 refine fx 0 a6<|fx 6 a7<|fx 7 a8<|aj fun _ E=>ak (.slice G acc.length I)<|ak (str s)<|ak (.int .i64 k)<|p (eK u9 aa aa ab)<|e<|fR hZ aa aa fun bd bb bf V aC=> ?_
 have ah:Wk w bb:=Md.trans aG V.md
 refine e<|ap hZ (aU ai V.md) aa (by have :=ah.size; omega) aa (aI.dS aC) (aa) (aa) ab ab fun a9 bl a0 aK bk bi=> ?_
 have aF:=Wk.own ah (aU ai V.md) aK<|cj _
 have a1:=qP a0
 exact aw<|E _ _<|rg aa<|ak (.int .i64 k)<|p (bE ((k+1:Nat):Int) aa aa<|bj ab ab)<|p aB<|nl<|bn<|tn<|⟨_,ab,k+1,acc++ [s.getD k 0],a9,(by rw [bI,eW]; omega),a1,aF,aW,aa,aa,aa,aa⟩
 refine ext<|te _<|te _<|be<|tn<|av _ _<|aj fun _ U=>ak (.slice G acc.length I)<|p (m8 m6 aa ((aX q).2)<|aa)<|p aB<|p aB<|p aB<|aw<|U _ _<|rt<|f4 aa aa aa aa aa ?_
 exact ⟨by rw [← hd,gP ab,zB]; rfl,j⟩
theorem Xt (s:List UInt8) (w:World) (hs:s.length≤1048576):
 bh ay 177 (ba [str s]) w (fun v w'=>v= .tuple #[str (letE s).1,.int .i64 (letE s).2]∧Wk w w'):=by
 refine enter func177 aa ntmps177 aa<|aj fun _ aQ=>p aB<|aw<|aQ _ _<|aj fun _ aW=>ak (str s)<|e<|cl uM (vH s _ hs) aa fun v10 bB a8=> ?_
 obtain ⟨rfl,ai⟩:=a8
 refine aw<|aW _ _<|sq fun _ aY=>aj fun _ aL=>ak (str s)<|p (cg u9 aa aa)<|p (bH aa aa)<|p mv<|gs (t:=14) aa (fun ax=> ?_) fun ax=> ?_
 exact sk aa aa aa aa<|sk aa aa aa aa<|p (bw aa)<|aE<|aL _ _<|ct aa<|aj fun _ V=>p aB<|aw<|V _ _<|rt<|tr<|f2 aa aa aa<|⟨by show gx #[str [],.int .i64 21]=_; unfold letE; rw [if_pos (.inl<|wW.1 ab)]; rfl,ai⟩
 refine pg aa aa aa mv<|pg aa aa aa (no aa)<|p (bm aa)<|aE<|aL _ _<|cb aa (fun al=> ?_) fun al=> ?_
 exact aj fun _ V=>p aB<|aw<|V _ _<|rt<|tr<|f2 aa aa aa<|⟨by show gx #[str [],.int .i64 21]=_; unfold letE; rw [if_pos (.inr<|by simpa using al)]; rfl,ai⟩
 refine aM<|tn<|aY _ _<|aj fun _ V=>e<|m5 hZ fun aN aP bz a6 a4=> ?_
 have bj:bo aP w.heap.size 5 1 (.slice (some ⟨aN,0,none⟩) 0 0) (([]:List UInt8)).length (U8<|([]:List UInt8)):=a4 _<|by have :=ai.size; omega
 have a5:Wk w aP:=Md.trans ai a6.md
 refine aw<|V _ _<|sq fun _ aZ=>aj fun _ a0=>p aB<|nl<|tn<|a0 _ _<|aJ<|lp (fun Y ao an=> ∃ (i:Nat) (aC:Value),(i≤s.length)∧(bo an w.heap.size 5 1 (aC) (lets<|s.take i).length<|U8<|lets<|s.take i)∧(Wk w an)∧(ao 0=str s)∧(ao 5=aC)∧(ao 6= .int .i64 i)∧(s.length - i=Y)) _ ⟨0,.slice (some ⟨aN,0,none⟩) 0 0,ab,bj,a5,aa,aa,aa,aa⟩ ?_
 rintro Y ao an ⟨i,aC,hi,A,Z,bk,bl,bp,rfl⟩
 refine fx 0 bk<|fx 5 bl<|fx 6 bp ?_
 obtain ⟨C,E,rfl⟩:=cw A
 have bf:=CH<|s.take i
 rw [dO] at bf
 refine sq fun _ a1=>aj fun _ a2=>ak (.int .i64 i)<|ak (str s)<|p (cg u9 aa aa)<|p (lt aa aa)<|nl<|tn<|a2 _ _<|cd aa (fun bc=> ?_) fun bc=> ?_
 refine aM<|tn<|a1 _ _<|sq fun _ M=>aJ<|aj fun _ aR=>p aB<|nl<|tn<|aR _ _<|sq fun _ aG=>aj fun _ aS=>aw<|aS _ _<|aJ<|lp (fun Y O ah=> ∃ (j:Nat) (ob:Bool),(j≤(lets<|s.take i).length)∧(ob=decide (s.getD i 0∈(lets<|s.take i).take j))∧(Wk an ah)∧(O 0=str s)∧(O 5= .slice C (lets<|s.take i).length E)∧(O 6= .int .i64 i)∧(O 7= .bool ob)∧(O 8= .int .i64 j)∧((lets<|s.take i).length - j=Y)) _ ⟨0,false,ab,aa,(Md.refl _ _),aa,aa,aa,aa,aa,aa⟩ ?_
 rintro Y O ah ⟨j,ob,bA,am,a,bq,br,bs,bt,bu,rfl⟩
 refine fx 0 bq<|fx 5 br<|fx 6 bs<|fx 7 bt<|fx 8 bu<|sq fun _ aV=>aj fun _ aK=>ak (.int .i64 j)<|ak (.slice C (lets<|s.take i).length E)<|p (bF mQ aa aa)<|p (lt aa aa)<|p mv<|gs (t:=29) aa (fun bg=> ?_) fun bg=> ?_
 refine pg aa aa aa (aT (.bool ob) aa)<|pg aa aa aa (no aa)<|p (bw aa)<|aE<|aK _ _<|cb aa (fun av=> ?_) fun av=> ?_
 have bi:¬s.getD i 0∈(lets<|s.take i).take j:=of_decide_eq_false<|by rw [← am]; simpa using av
 refine aM<|tn<|aV _ _<|sq fun _ U=>aJ ?_
 have q:(fun w'=>Wk ah w') ah.drew:=(Md.refl _ _).drew
 exact bJ (fun w'=>Wk ah w') aa wide q<|bC 0 aa (.slice C (lets<|s.take i).length E) q<|bC 1 aa (.int .i64 j) q<|aH 2 aa (fun _ _=>a7 lZ aa aa ab<|aI.ok ((aX<|aU A a).2)<|pV ab) q<|aH 3 aa (fun w' a9=>ld pB aa<|Wk.aO a9<|pU (i:=j) (aX<|aU A a).2 ab) q<|bC 4 aa (str s) q<|bC 5 aa (.int .i64 i) q<|aH 6 aa (fun _ _=>eK u9 aa aa ab) q<|aH 7 aa (fun _ _=>bH aa aa) q<|aH 8 aa (fun _ _=>aB) q<|hn ag<|bn<|tn<|U _ _<|rg aa<|ak (.int .i64 j)<|p (ad aa aa<|bT ab)<|aw<|⟨_,ab,j+1,decide (((lets<|s.take i).getD j 0).toNat=((s.getD i 0).toNat:Int)),ab,(decide_eq_decide.2<|by rw [V0 ab]; constructor <;> intro h <;> first | exact .inr (kY.1 ab) | (rcases h with h | h <;> first | exact absurd h bi | (rw [h]))),(Md.trans a (Md.refl _ _).drew),aa,aa,aa,aa,aa,aa⟩
 have ae:ob=decide (s.getD i 0∈lets (s.take i)):=by
  have h1:ob=true :=by simpa using av
  rw [h1] at am
  rw [h1]; exact (decide_eq_true<|NJ<|of_decide_eq_true am.symm).symm
 refine ext<|te _<|te _<|be<|tn<|aG _ _<|aj fun _ U=>ak (.bool ob)<|p (no aa)<|aE<|U _ _<|cb aa (fun I=> ?_) fun I=> ?_
 have J:¬s.getD i 0∈lets (s.take i):=of_decide_eq_false<|by rw [← ae]; simpa using I
 refine rg aa<|ak (.slice C (lets<|s.take i).length E)<|ak (str s)<|ak (.int .i64 i)<|p (eK u9 aa aa ab)<|e<|fR hZ aa aa fun a3 aF bb G aq=> ?_
 have ac:Wk w aF:=Md.trans (Md.trans Z a) G.md
 refine e<|ap hZ (aU (aU A a) G.md) aa (by have :=ac.size; omega) aa (aI.dS aq) (aa) (aa) ab ab fun aD bx az au bv bd=> ?_
 have ar:=Wk.own ac (aU (aU A a) G.md) au<|cj _
 have aA:=qP az
 exact p aB<|nl<|bn<|tn<|M _ _<|rg aa<|ak (.int .i64 i)<|p (ad aa aa<|bT ab)<|p aB<|aE<|⟨_,ab,i+1,aD,ab,(by rw [qK ab,if_neg J]; exact aA),ar,aa,aa,aa,aa⟩
 have J:s.getD i 0∈lets (s.take i):=of_decide_eq_true<|by rw [← ae]; simpa using I
 exact aM<|bn<|tn<|M _ _<|rg aa<|ak (.int .i64 i)<|p (ad aa aa<|bT ab)<|p aB<|nl<|tn<|⟨_,ab,i+1,.slice C (lets<|s.take i).length E,ab,(by rw [qK ab,if_pos J]; exact aU A a),(Md.trans Z a),aa,aa,aa,aa⟩
 have ae:ob=decide (s.getD i 0∈lets (s.take i)):=by rw [am,eI ab]
 refine sk aa aa aa aa<|sk aa aa aa aa<|p (bm aa)<|aE<|aK _ _<|cf aa<|ext<|te _<|te _<|be<|tn<|aG _ _<|aj fun _ U=>ak (.bool ob)<|p (no aa)<|nl<|tn<|U _ _<|cb aa (fun I=> ?_) fun I=> ?_
 have J:¬s.getD i 0∈lets (s.take i):=of_decide_eq_false<|by rw [← ae]; simpa using I
 refine rg aa<|ak (.slice C (lets<|s.take i).length E)<|ak (str s)<|ak (.int .i64 i)<|p (eK u9 aa aa ab)<|e<|fR hZ aa aa fun a3 aF bb G aq=> ?_
 have ac:Wk w aF:=Md.trans (Md.trans Z a) G.md
 refine e<|ap hZ (aU (aU A a) G.md) aa (by have :=ac.size; omega) aa (aI.dS aq) (aa) (aa) ab ab fun aD bx az au bv bd=> ?_
 have ar:=Wk.own ac (aU (aU A a) G.md) au<|cj _
 have aA:=qP az
 exact p aB<|nl<|bn<|tn<|M _ _<|rg aa<|ak (.int .i64 i)<|p (ad aa aa<|bT ab)<|p aB<|aE<|⟨_,ab,i+1,aD,ab,(by rw [qK ab,if_neg J]; exact aA),ar,aa,aa,aa,aa⟩
 have J:s.getD i 0∈lets (s.take i):=of_decide_eq_true<|by rw [← ae]; simpa using I
 exact aM<|bn<|tn<|M _ _<|rg aa<|ak (.int .i64 i)<|p (ad aa aa<|bT ab)<|p aB<|nl<|tn<|⟨_,ab,i+1,.slice C (lets<|s.take i).length E,ab,(by rw [qK ab,if_pos J]; exact aU A a),(Md.trans Z a),aa,aa,aa,aa⟩
 exact ext<|te _<|te _<|be<|tn<|aZ _ _<|aj fun _ M=>ak (.slice C (lets<|s.take i).length E)<|p (m8 m6 aa ((aX A).2)<|aa)<|p aB<|aw<|M _ _<|rt<|f2 aa aa aa<|⟨by show gx #[str (lets<|s.take i),.int .i64 0]=_; unfold letE; rw [if_neg (fun h=>h.elim (fun h=>by rw [h] at ax; exact ax aa) fun h=>by rw [h] at al; cases al),show s.take i=s from eI ab]; rfl,Z⟩
end Go.Hb.sJ
end
section
set_option maxRecDepth 20000
set_option maxHeartbeats 1000000
namespace Go.Hb.xn
open Go.Hb.dT
open Go.Proofs
open Go.Hb.kn Go.Hb.iM Go.Hb.qf
theorem YT {L:List Nat} (h:¬L.length≤64) (h2:L.length≤65) {M:List Nat} (h1:L=M.take 65) (x:Nat):L=(M++ [x]).take 65:=by
 have h3:=congrArg jy h1
 rw [dO] at h3
 rw [List.take_append_of_le_length ab,← h1]
theorem YU {L:List Nat} (h:L.length≤64) {M:List Nat} (h1:L=M.take 65) (x:Nat):L++ [x]=(M++ [x]).take 65:=by
 have h3:=congrArg jy h1
 rw [dO] at h3
 rw [eI (by rw [bI,eW]; omega)]
 rw [eI ab] at h1; rw [h1]
theorem Zd {l out:List Nat} {nx:Int} (h:qh l out nx) (j:nx < 65536):out.length≤65536:=by
 have h1:∀ x∈out,x < 65536:=fun x a=>by have :=((h.2 x).1 a).2; omega
 have h2:out.Nodup:=h.1.imp fun i=>by omega
 have h3:=List.Nodup.length_le_of_subset h2 fun x a=>List.mem_range.2<|h1 x a
 simpa using h3
theorem Dq (b:UInt8) (w:World):
 bh ay 273 (ba [.int .u8 b.toNat]) w (fun v w'=>v= .bool (jd b)∧Wk w w'):=by
 refine enter func273 aa ntmps273 aa<|aj fun _ i=>aw<|i _ _<|aj fun _ a=>ak (.int .u8 b.toNat)<|p (ge aa aa)<|p mv<|gs (t:=5) aa (fun A=> ?_) fun A=> ?_
 refine pg aa aa aa (aT (.int .u8 b.toNat) aa)<|pg aa aa aa (le aa aa)<|p (bw aa)<|p mv<|gs (t:=9) aa (fun C=> ?_) fun C=> ?_
 refine pg aa aa aa (aT (.int .u8 b.toNat) aa)<|pg aa aa aa (cX aa aa)<|p (bw aa)<|p mv<|gs (t:=13) aa (fun j=> ?_) fun j=> ?_
 refine pg aa aa aa (aT (.int .u8 b.toNat) aa)<|pg aa aa aa (cX aa aa)<|p (bw aa)<|p mv<|gs (t:=17) aa (fun q=> ?_) fun q=> ?_
 exact pg aa aa aa (aT (.int .u8 b.toNat) aa)<|pg aa aa aa (cX aa aa)<|p (bw aa)<|aw<|a _ _<|rt<|f1 aa aa<|⟨by show bQ (decide _)=_; rw [oP]; exact bv (by constructor <;> intro h <;> first | exact ⟨ab,ab,ab,ab,h⟩ | exact h.2.2.2.2),Md.refl _ _⟩
 exact sk aa aa aa aa<|sk aa aa aa aa<|p (bm aa)<|aw<|a _ _<|rt<|f1 aa aa<|⟨by show bQ false =_; rw [oP,decide_eq_false ab],Md.refl _ _⟩
 exact sk aa aa aa aa<|sk aa aa aa aa<|p (bm aa)<|p mv<|sk aa aa aa aa<|sk aa aa aa aa<|p (bm aa)<|p aB<|aE<|a _ _<|rt<|f1 aa aa<|⟨by show bQ false =_; rw [oP,decide_eq_false ab],Md.refl _ _⟩
 exact sk aa aa aa aa<|sk aa aa aa aa<|p (bm aa)<|p mv<|sk aa aa aa aa<|sk aa aa aa aa<|p (bm aa)<|p mv<|sk aa aa aa aa<|sk aa aa aa aa<|p (bm aa)<|aw<|a _ _<|rt<|f1 aa aa<|⟨by show bQ false =_; rw [oP,decide_eq_false ab],Md.refl _ _⟩
 exact sk aa aa aa aa<|sk aa aa aa aa<|p (bm aa)<|p mv<|sk aa aa aa aa<|sk aa aa aa aa<|p (bm aa)<|p mv<|sk aa aa aa aa<|sk aa aa aa aa<|p (bm aa)<|p mv<|sk aa aa aa aa<|sk aa aa aa aa<|p (bm aa)<|p aB<|aE<|a _ _<|rt<|f1 aa aa<|⟨by show bQ false =_; rw [oP,decide_eq_false ab],Md.refl _ _⟩
theorem Mi (kind:Nat) (s:List UInt8) (w:World) (hk:kind=1∨kind=2∨kind=3) (hs:s.length≤1048576):
 bh ay 258 (ba [au kind,str s]) w (fun v w'=>v=bM (eD kind s)∧Wk w w'):=by
 refine enter func258 aa ntmps258 aa<|aj fun _ ae=>aw<|ae _ _<|sq fun _ ai=>aj fun _ al=>ak (au kind)<|aE<|al _ _<|aJ<|aj fun _ am=>p (bH aa aa)<|p aB<|aE<|am _ _<|cd aa (fun ar=> ?_) fun ar=> ?_
 refine sq fun _ J=>aj fun _ j=>ak (str s)<|p (cg u9 aa aa)<|p (cX aa aa)<|p mv<|gs (t:=15) aa (fun aA=> ?_) fun aA=> ?_
 exact sk aa aa aa aa<|sk aa aa aa aa<|sk aa aa aa aa<|sk aa aa aa aa<|p (bw aa)<|aE<|j _ _<|ct aa<|aj fun _ i=>aw<|i _ _<|rt<|tr<|br<|tr<|f1 aa aa<|⟨by rw [td ab (fun h=>by omega) (fun h=>by omega)]; rfl,Md.refl _ _⟩
 refine pg aa aa aa (aT (str s) aa)<|pg aa aa aa (ja 0 u9 aa aa ab)<|eg aa aa aa<|cl AY (Dq (s.getD 0 0) _) aa fun aD aG an=> ?_
 obtain ⟨rfl,Y⟩:=an
 refine pg aa aa aa (no aa)<|p (bm aa)<|aE<|j _ _<|cb aa (fun E=> ?_) fun E=> ?_
 exact aj fun _ i=>aw<|i _ _<|rt<|tr<|br<|tr<|f1 aa aa<|⟨by rw [td ab (fun h=>by rw [h.2.2] at E; cases E) (fun h=>by omega)]; rfl,Y⟩
 exact aM<|tn<|J _ _<|aj fun _ i=>ak (str s)<|p (ja 0 u9 aa aa ab)<|p (lH u3 pW aa<|bT<|by have :=iS (s.getD 0 0); omega)<|p aB<|aE<|i _ _<|rt<|br<|tr<|f1 aa aa<|⟨by rw [HZ ⟨ab,ab,by simpa using E⟩]; rfl,Y⟩
 refine aj fun _ J=>p (bH aa aa)<|aw<|J _ _<|cd aa (fun av=> ?_) fun av=> ?_
 refine sq fun _ j=>aj fun _ i=>ak (str s)<|p (cg u9 aa aa)<|p (cX aa aa)<|aE<|i _ _<|cd aa (fun ax=> ?_) fun ax=> ?_
 exact aj fun _ A=>aw<|A _ _<|rt<|tr<|br<|tr<|f1 aa aa<|⟨by rw [td ab (fun h=>by omega) (fun h=>by omega)]; rfl,Md.refl _ _⟩
 refine aM<|tn<|j _ _<|aj fun _ A=>ak (str s)<|p (ja 0 u9 aa aa ab)<|e<|cl AY (Dq (s.getD 0 0) _) aa fun v31 aI ao=> ?_
 obtain ⟨rfl,M⟩:=ao
 refine aw<|A _ _<|aj fun _ C=>ak (str s)<|p (ja 1 u9 aa aa ab)<|e<|cl AY (Dq (s.getD 1 0) _) aa fun aF U ap=> ?_
 obtain ⟨rfl,O⟩:=ap
 refine aw<|C _ _<|sq fun _ ah=>aj fun _ V=>p mv<|p (no aa)<|p mv<|gb (t:=37) aa (fun I=> ?_) fun I=> ?_
 exact sk aa aa aa aa<|sk aa aa aa aa<|p (bw aa)<|aE<|V _ _<|ct aa<|aj fun _ q=>aw<|q _ _<|rt<|tr<|br<|tr<|f1 aa aa<|⟨by rw [td ab (fun h=>by omega) (fun h=>by rw [h.2.2.1] at I; cases I)]; rfl,Md.trans M O⟩
 refine pg aa aa aa mv<|pg aa aa aa (no aa)<|p (bm aa)<|aE<|V _ _<|cb aa (fun G=> ?_) fun G=> ?_
 exact aj fun _ q=>aw<|q _ _<|rt<|tr<|br<|tr<|f1 aa aa<|⟨by rw [td ab (fun h=>by omega) (fun h=>by rw [h.2.2.2] at G; cases G)]; rfl,Md.trans M O⟩
 refine aM<|tn<|ah _ _<|sq fun _ q=> ?_
 have g0:=iS<|s.getD 0 0
 have g1:=iS<|s.getD 1 0
 have a:(fun w'=>Wk U w') U.drew:=(Md.refl _ _).drew
 exact bJ (fun w'=>Wk U w') aa wide a<|bC 0 aa (str s) a<|aH 1 aa (fun _ _=>ja 0 u9 aa aa ab) a<|aH 2 aa (fun _ _=>lH u3 pW aa<|bT<|by have :=iS (s.getD 0 0); omega) a<|aH 3 aa (fun _ _=>oL ((256 *(s.getD 0 0).toNat:Nat):Int) aa aa<|bj ab ab) a<|bC 4 aa (str s) a<|aH 5 aa (fun _ _=>ja 1 u9 aa aa ab) a<|aH 6 aa (fun _ _=>lH u3 pW aa<|bT<|by have :=iS (s.getD 1 0); omega) a<|aH 7 aa (fun _ _=>bE ((256 *(s.getD 0 0).toNat+(s.getD 1 0).toNat:Nat):Int) aa aa<|bj ab ab) a<|aH 8 aa (fun _ _=>aB) a<|hn ag<|tn<|q _ _<|rt<|br<|tr<|f1 aa aa<|⟨by rw [H0 ⟨ab,ab,by simpa using I,by simpa using G⟩]; rfl,(Md.trans M O).drew⟩
 refine aM<|bn<|tn<|ai _ _<|aj fun _ j=>ak (str s)<|e<|cl rC (rX s 65535 _ hs az) aa fun v51 aK aq=> ?_
 obtain ⟨rfl,Z⟩:=aq
 have aC:=Ki s
 refine p mv<|p (xt aa aa)<|p (xt aa aa)<|p aB<|aw<|j _ _<|sq fun _ i=>aj fun _ A=>p mv<|p (cX aa aa)<|aE<|A _ _<|cd aa (fun ac=> ?_) fun ac=> ?_
 exact aj fun _ C=>aw<|C _ _<|rt<|tr<|f1 aa aa<|⟨by rw [BN ab]; unfold bM; exact iv (by have h1:=ac; unfold dY at*; split <;> first | rfl | (rename_i h2; rw [if_neg h2] at h1; exact absurd aa h1)),Z⟩
 exact aM<|tn<|i _ _<|aj fun _ C=>p mv<|aw<|C _ _<|rt<|f1 aa aa<|⟨by rw [BN ab]; rfl,Z⟩
theorem XA (kind:Nat) (s:List UInt8) (w:World) (hk:kind=1∨kind=2∨kind=3) (hs:s.length≤1048576):
 bh ay 232 (ba [au kind,str s]) w (fun v w'=>v= .tuple #[bM (gI kind s).1,au ((gI kind s).2)]∧Wk w w'):=by
 refine enter func232 aa ntmps232 aa<|aj fun _ j=>p aB<|aw<|j _ _<|sq fun _ q=>sq fun _ A=>rg aa<|ak (au kind)<|p (lt aa aa)<|p mv<|gs (t:=9) aa (fun h=>absurd h ab) fun O=>pg aa aa aa (aT (au kind) aa)<|pg aa aa aa (gt aa aa)<|p (bm aa)<|aE<|A _ _<|cd aa (fun h=>absurd h ab) fun M=>aM<|tn<|q _ _<|aj fun _ C=>ak (au kind)<|ak (str s)<|e<|cl Gk (Mi kind s _ hk hs) aa fun U V I=> ?_
 obtain ⟨rfl,i⟩:=I
 refine aw<|C _ _<|sq fun _ E=>aj fun _ G=>p mv<|p (bH aa aa)<|aE<|G _ _<|cd aa (fun J=> ?_) fun J=> ?_
 exact aj fun _ a=>p aB<|aw<|a _ _<|rt<|tr<|f2 aa aa aa<|⟨by unfold gI; rw [if_pos (show eD kind s=0 by omega)]; rfl,i⟩
 exact aM<|tn<|E _ _<|aj fun _ a=>p mv<|p aB<|p aB<|nl<|tn<|a _ _<|rt<|f2 aa aa aa<|⟨by unfold gI; rw [if_neg (show ¬eD kind s=0 by omega)]; rfl,i⟩
theorem WN (kind:Nat) (s:List UInt8) (w:World) (hk:kind=1∨kind=2∨kind=3) (hs:s.length≤1048576):
 bh ay 261 (ba [au kind,str s]) w (fun v w'=>bo w' w.heap.size 9 1 (v) (dE kind s).length ((dE kind s).map str)∧Wk w w'):=by
 refine enter func261 aa ntmps261 aa<|aj fun _ aG=>aw<|aG _ _<|aj fun _ aH=>p aB<|aE<|aH _ _<|sq fun _ aK=>aj fun _ aL=>ak (au kind)<|p (bH aa aa)<|nl<|tn<|aL _ _<|cd aa (fun aV=> ?_) fun aV=> ?_
 refine aj fun _ ag=>aw<|ag _ _<|sq fun _ ah=>aj fun _ ai=>aw<|ai _ _<|aJ<|lp (fun V M E=> ∃ (i A:Nat) (a:List (List UInt8)) (q:Value),((i≤s.length∧A≤i∧a.length≤i∧a++fC 44 ((s.take i).drop A) (s.drop i)=fC 44 [] s)∨(i=s.length+1∧a=fC 44 [] s))∧(bo E w.heap.size 9 1 (q) (a).length<|(a).map str)∧(Wk w E)∧(M 0=au kind)∧(M 1=str s)∧(M 5=q)∧(M 6=au A)∧(M 7=au i)∧(s.length+1 - i=V)) _ ⟨0,0,[],.slice none 0 0,(.inl ⟨ab,ab,by simp,aa⟩),(du _ _ _ _),(Md.refl _ _),aa,aa,aa,aa,aa,aa⟩ ?_
 rintro V M E ⟨i,A,a,q,hi,C,I,a5,a6,a7,a8,a9,rfl⟩
 refine fx 0 a5<|fx 1 a6<|fx 5 a7<|fx 6 a8<|fx 7 a9<|sq fun _ al=>aj fun _ U=>ak (au i)<|ak (str s)<|p (cg u9 aa aa)<|p (le aa aa)<|aE<|U _ _<|cd aa (fun aW=> ?_) fun aW=> ?_
 refine aM<|tn<|al _ _<|sq fun _ G=>aJ<|sq fun _ ac=> ?_
 obtain ⟨bA,bC,bB,hd⟩:=hi.resolve_right fun h=>by omega
 refine rg aa<|ak (au i)<|ak (str s)<|p (cg u9 aa aa)<|p (bH aa aa)<|p mv<|gs (t:=22) aa (fun a0=> ?_) fun a0=> ?_
 have bJ:a++ [(s.take i).drop A]=fC 44 [] s:=by rw [← hd,gP (show s.length≤i by omega),fC]
 refine sk aa aa aa aa<|sk aa aa aa aa<|sk aa aa aa aa<|sk aa aa aa aa<|p (bw aa)<|aE<|ac _ _<|ct aa<|aj fun _ ae=>ak (q)<|ak (str s)<|ak (au A)<|ak (au i)<|p (l7 u9 aa aa aa ab)<|e<|fR fH aa aa fun aN aC aS J am=> ?_
 have Y:Wk w aC:=Md.trans I J.md
 refine e<|ap fH (aU C J.md) aa (by have :=Y.size; omega) aa (aI.dS am) (aa) (aa) ab ab fun aA bs ax ao bq aZ=> ?_
 have an:=Wk.own Y (aU C J.md) ao<|cj _
 have az:=mH ax
 exact aw<|ae _ _<|rg aa<|ak (au i)<|p (bE ((i+1:Nat):Int) aa aa<|bj ab ab)<|p aB<|nl<|bn<|tn<|G _ _<|rg aa<|ak (au i)<|p (bE ((i+1:Nat):Int) aa aa<|bj ab ab)<|p aB<|nl<|tn<|⟨_,ab,i+1,i+1,a++ [(s.take i).drop A],aA,(.inr ⟨ab,bJ⟩),az,an,aa,aa,aa,aa,aa,aa⟩
 refine pg aa aa aa (aT (str s) aa)<|pg aa aa aa (aT (au i) aa)<|pg aa aa aa (eK u9 aa aa ab)<|pg aa aa aa (bH aa aa)<|p (bm aa)<|aE<|ac _ _<|cd aa (fun ar=> ?_) fun ar=> ?_
 have bJ:a++ [(s.take i).drop A]++fC 44 [] (s.drop<|i+1)=fC 44 [] s:=by rw [← hd,drop_cons 0 (show i < s.length by omega),fC,if_pos (kY.1 (by have bv:(44:UInt8).toNat=44:=rfl; omega)),dC]; rfl
 refine aj fun _ ae=>ak (q)<|ak (str s)<|ak (au A)<|ak (au i)<|p (l7 u9 aa aa aa ab)<|e<|fR fH aa aa fun aN aC aS J am=> ?_
 have Y:Wk w aC:=Md.trans I J.md
 refine e<|ap fH (aU C J.md) aa (by have :=Y.size; omega) aa (aI.dS am) (aa) (aa) ab ab fun aA bs ax ao bq aZ=> ?_
 have an:=Wk.own Y (aU C J.md) ao<|cj _
 have az:=mH ax
 exact aw<|ae _ _<|rg aa<|ak (au i)<|p (bE ((i+1:Nat):Int) aa aa<|bj ab ab)<|p aB<|nl<|bn<|tn<|G _ _<|rg aa<|ak (au i)<|p (bE ((i+1:Nat):Int) aa aa<|bj ab ab)<|p aB<|nl<|tn<|⟨_,ab,i+1,i+1,a++ [(s.take i).drop A],aA,(.inl ⟨ab,ab,(by rw [bI,eW]; omega),by rw [show (s.take<|i+1).drop (i+1)= [] from gP (by rw [dO]; omega)]; exact bJ⟩),az,an,aa,aa,aa,aa,aa,aa⟩
 have bJ:a++fC 44 ((s.take<|i+1).drop A) (s.drop<|i+1)=fC 44 [] s:=by rw [← hd,drop_cons 0 (show i < s.length by omega),fC,if_neg (fun h=>by rw [h] at ar; exact ar rfl),← vO 0 ab ab]
 exact aM<|bn<|tn<|G _ _<|rg aa<|ak (au i)<|p (bE ((i+1:Nat):Int) aa aa<|bj ab ab)<|p aB<|nl<|tn<|⟨_,ab,i+1,A,a,q,(.inl ⟨ab,ab,ab,bJ⟩),C,I,aa,aa,aa,aa,aa,aa⟩
 refine ext<|te _<|te _<|be<|tn<|ah _ _<|aj fun _ G=>ak (q)<|p (cH (q) aa)<|aE<|G _ _<|rt<|tr<|f1 aa aa ?_
 have av:a=dE kind s:=by unfold dE; rw [if_pos ab]; rcases hi with h | h <;> first | omega | exact h.2
 exact ⟨by rw [← av]; exact C,I⟩
 refine aM<|tn<|aK _ _<|sq fun _ ag=>aj fun _ ah=>aw<|ah _ _<|aJ<|lp (fun V Z E=> ∃ (i:Nat) (a:List (List UInt8)) (q:Value),(i≤s.length+kind∧a.length≤i)∧(a++chunks kind (s.drop i)=chunks kind s)∧(bo E w.heap.size 9 1 (q) (a).length<|(a).map str)∧(Wk w E)∧(Z 0=au kind)∧(Z 1=str s)∧(Z 5=q)∧(Z 8=au i)∧(s.length - i=V)) _ ⟨0,[],.slice none 0 0,(by simp),aa,(du _ _ _ _),(Md.refl _ _),aa,aa,aa,aa,aa⟩ ?_
 rintro V Z E ⟨i,a,q,hi,hd,C,I,bb,bc,bd,bf,rfl⟩
 refine fx 0 bb<|fx 1 bc<|fx 5 bd<|fx 8 bf<|sq fun _ ai=>aj fun _ al=>ak (au i)<|ak (str s)<|p (cg u9 aa aa)<|p (lt aa aa)<|aE<|al _ _<|cd aa (fun aX=> ?_) fun aX=> ?_
 have a2:s.drop i≠[]:=fun h=>by have :=congrArg jy h; rw [fK,fP] at this; omega
 refine aM<|tn<|ai _ _<|sq fun _ U=>aJ<|aj fun _ G=>ak (au i)<|ak (au kind)<|p (bE ((i+kind:Nat):Int) aa aa<|bj ab ab)<|aw<|G _ _ ?_
 refine ec (fun O aF=> ∃ (j:Nat),(i≤j∧j≤s.length∧(s.take j).drop i=(s.drop i).take kind)∧(aF=E)∧(O 0=au kind)∧(O 1=str s)∧(O 5=q)∧(O 8=au i)∧(O 9=au j)) ?_ ?_
 refine aj fun _ ac=>p mv<|ak (str s)<|p (cg u9 aa aa)<|p (gt aa aa)<|aE<|ac _ _<|cd aa (fun aY=> ?_) fun aY=> ?_
 exact rg aa<|ak (str s)<|p (cg u9 aa aa)<|aw<|⟨s.length,(by refine ⟨ab,ab,?_⟩; rw [List.take_length,eI (by rw [fK]; omega)]),aa,aa,aa,aa,aa,aa⟩
 exact aM<|tn<|⟨i+kind,(by refine ⟨ab,ab,?_⟩; rw [su,Nat.add_sub_cancel_left]),aa,aa,aa,aa,aa,aa⟩
 rintro O aF ⟨j,a1,aQ,bg,bi,bk,bl,bp⟩
 refine fx 0 bg<|fx 1 bi<|fx 5 bk<|fx 8 bl<|fx 9 bp ?_
 subst aQ
 refine rg aa<|ak (q)<|ak (str s)<|ak (au i)<|ak (au j)<|p (l7 u9 aa aa aa ab)<|e<|fR fH aa aa fun bu bt bx aq aO=> ?_
 have aD:Wk w bt:=Md.trans I aq.md
 refine e<|ap fH (aU C aq.md) aa (by have :=aD.size; omega) aa (aI.dS aO) (aa) (aa) ab ab fun br bF a3 aR bD bz=> ?_
 have aP:=Wk.own aD (aU C aq.md) aR<|cj _
 have a4:=mH a3
 exact p aB<|nl<|bn<|tn<|U _ _<|rg aa<|ak (au i)<|ak (au kind)<|p (bE ((i+kind:Nat):Int) aa aa<|bj ab ab)<|aw<|⟨_,ab,i+kind,a++ [(s.drop i).take kind],br,(by rw [bI,eW]; omega),(by rw [← hd,xF (k:=kind) ab a2,dC,ss]; rfl),(by rw [← a1.2.2]; exact a4),aP,aa,aa,aa,aa,aa⟩
 refine ext<|te _<|te _<|be<|tn<|ag _ _<|aj fun _ U=>ak (q)<|p (cH (q) aa)<|aE<|U _ _<|rt<|f1 aa aa ?_
 have av:a=dE kind s:=by unfold dE; rw [if_neg ab,← hd,gP ab,xG,ed]
 exact ⟨by rw [← av]; exact C,I⟩
theorem Xz (l:List Nat) (a:Option Addr) (c:Nat) (w:World) (q:aI w.heap a (l.map bM)) (a6:l.length≤1048576) (aN:∀ x∈l,x < 65536):
 bh ay 262 (ba [.slice a l.length c]) w (fun v w'=>bo w' w.heap.size 3 1 (v) (kf l).length ((kf l).map bM)∧Wk w w'):=by
 refine enter func262 aa ntmps262 aa<|aj fun _ al=>aw<|al _ _<|aj fun _ am=>p aB<|aE<|am _ _<|aj fun _ an=>aw<|an _ _<|aJ<|lp (fun M U O=> ∃ (out:List Nat) (last:Int) (E:Value),(-1≤last∧last < 65536)∧(qh l out last)∧(bo O w.heap.size 3 1 (E) (out).length<|(out).map bM)∧(Wk w O)∧(out.length≤65536)∧(U 0= .slice a l.length c)∧(U 3=E)∧(U 4= .int .i64 last)∧((65536 - last).toNat=M)) _ ⟨[],-1,.slice none 0 0,(az),(qh.nil l),(du _ _ _ _),(Md.refl _ _),(jD _),aa,aa,aa,aa⟩ ?_
 rintro M U O ⟨out,last,E,a8,ai,ac,aC,bc,aQ,aR,aS,rfl⟩
 refine fx 0 aQ<|fx 3 aR<|fx 4 aS<|aJ<|aj fun _ ao=>aw<|ao _ _<|sq fun _ aq=>aj fun _ ar=>aw<|ar _ _<|aJ<|lp (fun M I ae=> ∃ (i:Nat) (nx:Int),(i≤l.length∧ -1≤nx)∧(k4 l last i nx)∧(Wk w ae)∧(Wk O ae)∧(I 0= .slice a l.length c)∧(I 3=E)∧(I 4= .int .i64 last)∧(I 5= .int .i64 nx)∧(I 6=au i)∧(l.length - i=M)) _ ⟨0,-1,(ab),(k4.nil l last),aC,(Md.refl _ _),aa,aa,aa,aa,aa,aa⟩ ?_
 rintro M I ae ⟨i,nx,hi,A,j,C,aV,aW,aX,aY,aZ,rfl⟩
 refine fx 0 aV<|fx 3 aW<|fx 4 aX<|fx 5 aY<|fx 6 aZ<|sq fun _ av=>aj fun _ ax=>ak (au i)<|ak (.slice a l.length c)<|p (bF nq aa aa)<|p (lt aa aa)<|aE<|ax _ _<|cd aa (fun aG=> ?_) fun aG=> ?_
 refine aM<|tn<|av _ _<|sq fun _ G=>aJ<|aj fun _ J=>ak (.slice a l.length c)<|ak (au i)<|p (a7 j9 aa aa ab<|aI.ok (q.wk j)<|bP ab)<|p (ld bA aa<|yK (f:=bM) (i:=i) 0 (q.wk j) ab)<|ak (.int .i64 last)<|p (gt aa aa)<|p mv<|gs (t:=19) aa (fun aK=> ?_) fun aK=> ?_
 refine pg aa aa aa (aT (.int .i64 nx) aa)<|pg aa aa aa (lt aa aa)<|pg aa aa aa mv<|gs (t:=22) aa (fun aL=> ?_) fun aL=> ?_
 exact sk aa aa aa aa<|sk aa aa aa aa<|sk aa aa aa aa<|sk aa aa aa aa<|sk aa aa aa aa<|sk aa aa aa aa<|pg aa aa aa (bw aa)<|p (bw aa)<|aE<|J _ _<|ct aa<|rg aa<|ak (.slice a l.length c)<|ak (au i)<|p (a7 j9 aa aa ab<|aI.ok (q.wk j)<|bP ab)<|p (ld bA aa<|yK (f:=bM) (i:=i) 0 (q.wk j) ab)<|p aB<|nl<|bn<|tn<|G _ _<|rg aa<|ak (au i)<|p (bE ((i+1:Nat):Int) aa aa<|bj ab ab)<|p aB<|aE<|⟨_,ab,i+1,((l.getD i 0:Nat):Int),(ab),(A.take ab ab<|.inl ab),j,C,aa,aa,aa,aa,aa,aa⟩
 refine pg aa aa aa (aT (.slice a l.length c) aa)<|pg aa aa aa (aT (au i) aa)<|pg aa aa aa (a7 j9 aa aa ab<|aI.ok (q.wk j)<|bP ab)<|pg aa aa aa (ld bA aa<|yK (f:=bM) (i:=i) 0 (q.wk j) ab)<|pg aa aa aa (aT (.int .i64 nx) aa)<|pg aa aa aa (lt aa aa)<|pg aa aa aa (bm aa)<|p (bw aa)<|aE<|J _ _<|cd aa (fun aH=> ?_) fun aH=> ?_
 exact rg aa<|ak (.slice a l.length c)<|ak (au i)<|p (a7 j9 aa aa ab<|aI.ok (q.wk j)<|bP ab)<|p (ld bA aa<|yK (f:=bM) (i:=i) 0 (q.wk j) ab)<|p aB<|nl<|bn<|tn<|G _ _<|rg aa<|ak (au i)<|p (bE ((i+1:Nat):Int) aa aa<|bj ab ab)<|aw<|⟨_,ab,i+1,((l.getD i 0:Nat):Int),(ab),(A.take ab ab<|.inr ab),j,C,aa,aa,aa,aa,aa,aa⟩
 exact aM<|bn<|tn<|G _ _<|rg aa<|ak (au i)<|p (bE ((i+1:Nat):Int) aa aa<|bj ab ab)<|p aB<|nl<|tn<|⟨_,ab,i+1,nx,(ab),(A.skip<|.inr ⟨ab,ab⟩),j,C,aa,aa,aa,aa,aa,aa⟩
 exact sk aa aa aa aa<|sk aa aa aa aa<|sk aa aa aa aa<|dV aa aa aa<|dV aa aa aa<|dV aa aa aa<|dV aa aa aa<|dV aa aa aa<|dV aa aa aa<|sk aa aa aa aa<|p (bm aa)<|aE<|J _ _<|cf aa<|aM<|bn<|tn<|G _ _<|rg aa<|ak (au i)<|p (bE ((i+1:Nat):Int) aa aa<|bj ab ab)<|aw<|⟨_,ab,i+1,nx,(ab),(A.skip<|.inl ab),j,C,aa,aa,aa,aa,aa,aa⟩
 refine ext<|te _<|te _<|be<|tn<|aq _ _<|sq fun _ G=>aj fun _ J=>ak (.int .i64 nx)<|p (lt aa aa)<|aE<|J _ _<|cd aa (fun Z=> ?_) fun Z=> ?_
 refine aj fun _ V=>ak (E)<|p (cH (E) aa)<|aE<|V _ _<|rt<|tr<|br<|tr<|br<|f1 aa aa ?_
 have a0:=k4.done (by rw [show i=l.length by omega] at A; exact A) ai Z
 exact ⟨by rw [← a0]; exact aU ac C,j⟩
 obtain ⟨m,hm,aO,a9,ah⟩:=k4.more (by rw [show i=l.length by omega] at A; exact A) ai Z
 have bb:=aN m hm
 refine aM<|tn<|G _ _<|aj fun _ V=>ak (E)<|ak (.int .i64 nx)<|e<|fR np aa aa fun a3 a2 a4 Y aA=> ?_
 have ag:Wk w a2:=Md.trans j Y.md
 refine e<|ap np (aU (aU ac C) Y.md) aa (by have :=ag.size; omega) aa (aI.dS aA) (aa) (aa) ab ab fun a1 bf aP aF bd a5=> ?_
 have aD:=Wk.own ag (aU (aU ac C) Y.md) aF<|cj _
 exact aw<|V _ _<|rg aa<|ak (.int .i64 nx)<|p (cH (.int .i64 nx) aa)<|nl<|bn<|tn<|⟨_,ab,out++ [m],nx,a1,(ab),ah,(by rw [bI,ig]; subst aO; exact aP),aD,(Zd ah ab),aa,aa,aa,aa⟩
theorem KS (kind:Nat) (s:List UInt8) (w:World) (hk:kind=1∨kind=2∨kind=3) (hs:s.length≤1048576):
 bh ay 235 (ba [au kind,str s]) w (fun v w'=>(∃ a,v= .tuple #[a,au ((dX kind s).2)]∧bo w' w.heap.size 3 1 (a) ((dX kind s).1).length (((dX kind s).1).map bM))∧Wk w w'):=by
 refine enter func235 aa ntmps235 aa<|aj fun _ aD=>p aB<|aw<|aD _ _<|sq fun _ aK=>sq fun _ aL=>rg aa<|ak (au kind)<|p (lt aa aa)<|p mv<|gs (t:=12) aa (fun h=>absurd h ab) fun bu=>pg aa aa aa (aT (au kind) aa)<|pg aa aa aa (gt aa aa)<|p (bm aa)<|aE<|aL _ _<|cd aa (fun h=>absurd h ab) fun bs=>aM<|tn<|aK _ _<|sq fun _ aN=>aj fun _ aO=>ak (str s)<|p (cg u9 aa aa)<|p (bH aa aa)<|aE<|aO _ _<|cd aa (fun A=> ?_) fun A=> ?_
 refine aj fun _ al=>p aB<|aw<|al _ _<|rt<|tr<|f2 aa aa aa ?_
 have aA:s= []:=fO ab
 exact ⟨⟨.slice none 0 0,by unfold dX; rw [if_pos aA]; rfl,by unfold dX; rw [if_pos aA]; exact du _ _ _ _⟩,Md.refl _ _⟩
 refine aM<|tn<|aN _ _<|aj fun _ al=>aw<|al _ _<|sq fun _ aP=>rg aa<|ak (au kind)<|ak (str s)<|e<|cl PZ (WN kind s _ hk hs) aa fun v21 ag aZ=> ?_
 obtain ⟨ax,ac⟩:=aZ
 obtain ⟨Y,Z,rfl⟩:=cw ax
 have av:=(aX ax).2
 have bv:=Kz (kind:=kind) (s:=s) ab
 refine aw<|aP _ _<|sq fun _ aQ=>aj fun _ aR=>p aB<|nl<|tn<|aR _ _<|aJ<|lp (fun aq J ao=> ∃ (i:Nat) (fs:List Nat) (am:Value),(i≤(dE kind s).length∧fs.length≤65)∧(¬∃ x∈(dE kind s).take i,eD kind x=0)∧(fs=(((dE kind s).take i).map<|eD kind).take 65)∧(bo ao ag.heap.size 3 1 (am) (fs).length<|(fs).map bM)∧(Wk ag ao)∧(J 0=au kind)∧(J 1=str s)∧(J 6=am)∧(J 7= .slice Y (dE kind s).length Z)∧(J 8=au i)∧((dE kind s).length - i=aq)) _ ⟨0,[],.slice none 0 0,(by simp),(by rintro ⟨x,ae,_⟩; simp at ae),aa,(du _ _ _ _),(Md.refl _ _),aa,aa,aa,aa,aa,aa⟩ ?_
 rintro aq J ao ⟨i,fs,am,hi,U,O,I,j,a9,bb,bc,bd,bf,rfl⟩
 refine fx 0 a9<|fx 1 bb<|fx 6 bc<|fx 7 bd<|fx 8 bf<|sq fun _ aF=>aj fun _ aG=>ak (au i)<|ak (.slice Y (dE kind s).length Z)<|p (bF eQ aa aa)<|p (lt aa aa)<|aE<|aG _ _<|cd aa (fun a2=> ?_) fun a2=> ?_
 refine aM<|tn<|aF _ _<|sq fun _ V=>aJ<|sq fun _ ah=> ?_
 obtain ⟨C,E,rfl⟩:=cw I
 refine rg aa<|ak (au kind)<|ak (.slice Y (dE kind s).length Z)<|ak (au i)<|p (a7 cE aa aa ab<|aI.ok (av.wk j)<|bP ab)<|p (ld bR aa<|bX.get (i:=i) (av.wk j) ab)<|e<|cl Gk (Mi kind ((dE kind s).getD i []) _ hk<|by have :=KA (kind:=kind) ab (yz (d:= []) (show i < (dE kind s).length by omega)); omega) aa fun bx bz a0=> ?_
 obtain ⟨rfl,G⟩:=a0
 refine aw<|ah _ _<|sq fun _ M=>aj fun _ aH=>p mv<|p (bH aa aa)<|aE<|aH _ _<|cd aa (fun a3=> ?_) fun a3=> ?_
 refine aj fun _ ai=>p aB<|aw<|ai _ _<|rt<|tr<|br<|tr<|tr<|br<|tr<|f2 aa aa aa ?_
 have q:dX kind s=([],31):=by unfold dX; rw [if_neg (fun h=>by rw [h] at A; exact A rfl),if_pos ⟨_,yz (d:= []) (show i < (dE kind s).length by omega),ab⟩]
 exact ⟨⟨.slice none 0 0,by rw [q]; rfl,by rw [q]; exact du _ _ _ _⟩,Md.trans ac<|Md.trans j G⟩
 refine aM<|tn<|M _ _<|aj fun _ ai=>ak (.slice C fs.length E)<|p (bF nq aa aa)<|p (le aa aa)<|nl<|tn<|ai _ _<|cd aa (fun a4=> ?_) fun a4=> ?_
 refine rg aa<|ak (.slice C fs.length E)<|p mv<|e<|fR np aa aa fun bp bk bq an aS=> ?_
 have ar:Wk ag bk:=Md.trans (Md.trans j G) an.md
 refine e<|ap np (aU (aU I G) an.md) aa (by have :=ar.size; omega) aa (aI.dS aS) (aa) (aa) ab ab fun aC bl a6 aY bw bt=> ?_
 have aV:=Wk.own ar (aU (aU I G) an.md) aY<|cj _
 have a8:bo bl ag.heap.size 3 1 (aC) (fs++ [eD kind ((dE kind s).getD i [])]).length ((fs++ [eD kind ((dE kind s).getD i [])]).map bM):=by
  rw [bI,ig]; exact a6
 exact p aB<|nl<|bn<|tn<|V _ _<|rg aa<|ak (au i)<|p (bE ((i+1:Nat):Int) aa aa<|bj ab ab)<|p aB<|aE<|⟨_,ab,i+1,fs++ [eD kind ((dE kind s).getD i [])],aC,(by rw [bI,eW]; omega),(BD ab U ab),(by rw [fD _ i [] ab,ig]; exact YU ab O _),a8,aV,aa,aa,aa,aa,aa,aa⟩
 exact aM<|bn<|tn<|V _ _<|rg aa<|ak (au i)<|p (bE ((i+1:Nat):Int) aa aa<|bj ab ab)<|p aB<|nl<|tn<|⟨_,ab,i+1,fs,.slice C fs.length E,ab,(BD ab U ab),(by rw [fD _ i [] ab,ig]; exact YT ab ab O _),(aU I G),(Md.trans j G),aa,aa,aa,aa,aa,aa⟩
 refine ext<|te _<|te _<|be<|tn<|aQ _ _<|sq fun _ V=>sq fun _ ah=> ?_
 obtain ⟨C,E,rfl⟩:=cw I
 have bg:(dE kind s).take i=(dE kind s):=eI ab
 rw [bg] at O U
 refine rg aa<|ak (.slice Y (dE kind s).length Z)<|p (bF eQ aa aa)<|p (gt aa aa)<|aE<|ah _ _<|cd aa (fun a5=> ?_) fun a5=> ?_
 refine aj fun _ M=>p aB<|aw<|M _ _<|rt<|tr<|f2 aa aa aa ?_
 have q:dX kind s=([],32):=by unfold dX; rw [if_neg (fun h=>by rw [h] at A; exact A rfl),if_neg U,if_pos ab]
 exact ⟨⟨.slice none 0 0,by rw [q]; rfl,by rw [q]; exact du _ _ _ _⟩,Md.trans ac j⟩
 refine aM<|tn<|V _ _<|aj fun _ M=>ak (.slice C fs.length E)<|e<|cl P0 (Xz fs C E _ (aX I).2 ab fun x ae=>by rw [O] at ae; obtain ⟨y,_,rfl⟩:=List.mem_map.1 (NJ ae); exact HY _ _) aa fun bi bA a1=> ?_
 obtain ⟨az,aW⟩:=a1
 refine p aB<|aw<|M _ _<|rt<|f2 aa aa aa ?_
 have q:dX kind s=(kf ((dE kind s).map<|eD kind),0):=by unfold dX; rw [if_neg (fun h=>by rw [h] at A; exact A rfl),if_neg U,if_neg ab]
 rw [O,eI (by rw [fE]; omega)] at az
 exact ⟨⟨bi,by rw [q]; rfl,by rw [q]; exact ep az<|by have :=ac.size; have :=j.size; omega⟩,Md.trans ac<|Md.trans j aW⟩
end Go.Hb.xn
end
section
set_option maxRecDepth 20000
set_option maxHeartbeats 1000000
namespace Go.Hb.uz
open Go.Hb.dT
open Go.Proofs
open Go.Hb.ji Go.Hb.ot Go.Hb.po
theorem UQ {l:List UInt8} {i:Nat} {x:UInt8} (h:i < l.length) (h1:¬x∈l.take i) (h2:¬((l.getD i 0).toNat:Int)=(x.toNat:Int)):¬x∈l.take (i+1):=by
 rw [fD l i 0 h,jz,jY]
 rintro (h3 | h3)
 · exact h1 h3
 · exact h2<|by rw [h3]
theorem UP {l:List UInt8} {i:Nat} {x:UInt8} (h:i < l.length) (h2:((l.getD i 0).toNat:Int)=(x.toNat:Int)):x∈l:=by
 have e:l.getD i 0=x:=kY.1 ab
 rw [← e]; exact dQ h
def pE (s:List UInt8) (i:Nat):Int:=if eZ 93 (s.drop i) < 0 then -1 else ((i+(s.drop i).idxOf 93:Nat):Int)
theorem Rm {s:List UInt8} {i k:Nat} (hk:i≤k∧k < s.length) (a:∀ j,i≤j→j < k→s.getD j 0≠93) (q:s.getD k 0=93):pE s i=(k:Nat):=by
 have h:=Jk (x:=93) (l:=s.drop i) (i:=k - i) (by rw [fK]; omega) (fun j A=>by rw [cQ,ri,← cQ]; exact a _ ab ab)<|by rw [cQ,ri,← cQ,show i+(k - i)=k by omega]; exact q
 have h2:=rM (c:=93) (l:=s.drop i) ab
 unfold pE
 rw [if_neg ab]
 omega
theorem Ro {s:List UInt8} {i:Nat} (q:∀ j,i≤j→j < s.length→s.getD j 0≠93):pE s i= -1:=by
 have h:=Jl (x:=93) (l:=s.drop i) fun j a=>by rw [fK] at a; rw [cQ,ri,← cQ]; exact q _ ab ab
 unfold pE
 rw [if_pos ab]
theorem Rl {s:List UInt8} {i:Nat} (hi:i < s.length) (j:s.getD i 0=91):(pE s i < 0↔¬(s.drop<|i+1).idxOf 93 < (s.drop<|i+1).length)∧(¬pE s i < 0→pE s i=((i+1 +(s.drop<|i+1).idxOf 93:Nat):Int)):=by
 have e:s.drop i=91::s.drop (i+1):=by rw [drop_cons 0 hi,j]
 have a:(91::s.drop (i+1)).idxOf 93=(s.drop<|i+1).idxOf 93 +1:=by rw [List.idxOf_cons]; rfl
 unfold pE eZ
 rw [e,a,cM]
 by_cases h:(s.drop<|i+1).idxOf 93 < (s.drop<|i+1).length
 · rw [if_pos (show (s.drop<|i+1).idxOf 93 +1 < (s.drop<|i+1).length+1 by omega)]
   rw [if_neg ab]
   refine ⟨⟨fun h1=>by omega,fun h1=>absurd h h1⟩,fun _=>by omega⟩
 · rw [if_neg (show ¬(s.drop<|i+1).idxOf 93 +1 < (s.drop<|i+1).length+1 by omega)]
   rw [if_pos (show (-1:Int) < 0 from by decide)]
   refine ⟨⟨fun _=>h,fun _=>by decide⟩,fun h1=>absurd az h1⟩
theorem WE {w:World} {B e:Nat} {v:Value} {l:List (List UInt8)} {x:List UInt8} (h:w.ownsRow B e 1 v (l.length+1) (l.map str++ [str x])):w.ownsRow B e 1 v (l++ [x]).length ((l++ [x]).map str):=by
 rw [bI,ig]; exact h
theorem O0 {f:UInt8→Bool} :(bytesOf fun x=> !f x).length=0↔(bytesOf f).length=256:=by
 have :=O1 f 256
 unfold bytesOf; omega
theorem JH {h:Array Obj} {a:Option Addr} {l:List (List UInt8)} {i:Nat} (j:aI h a (l.map str)) (hi:i < l.length):Hb.aO h (bk a) (fo a+i*1 +0)=some (str<|l.getD i []):=bX.get (i:=i) j hi
theorem Q1 {s t r:List UInt8} (h:im s=some (t,r)):(t.length=1∨3≤t.length)∧t.length≤s.length:=by
 cases s with
 | nil=>cases h
 | cons b l=>
   simp only [im] at h
   split at h
   · split at h
     · rename_i a
       simp only [fL,sE] at h
       obtain ⟨rfl,_⟩:=h
       simp only [cM,dO]
       omega
     · cases h
   · simp only [fL,sE] at h
     obtain ⟨rfl,_⟩:=h
     simp
theorem RP:∀ (f:Nat) (s:List UInt8) (xs:List (List UInt8)),lX f s=some xs→∀ t∈xs,(t.length=1∨3≤t.length)∧t.length≤s.length:=by
 intro f
 induction f with
 | zero=>intro s xs h t a; simp only [lX] at h; split at h <;> first | (cases h; cases a) | cases h
 | succ f i=>
   intro s xs h t a
   simp only [lX] at h
   split at h
   · cases h; cases a
   · cases hc:im s with
     | none=>rw [hc] at h; cases h
     | some q=>
       obtain ⟨u,r⟩:=q
       rw [hc] at h
       simp only at h
       cases hr:lX f r with
       | none=>rw [hr] at h; cases h
       | some j=>
         rw [hr] at h
         cases h
         rcases gl.1 a with rfl | a
         · exact Q1 hc
         · have h1:=i r j hr t a
           have h2:=Ba hc
           exact ⟨h1.1,ab⟩
theorem GU {s:List UInt8} :(∀ t∈(da s).1,(t.length=1∨3≤t.length)∧t.length≤s.length)∧(da s).1.length≤16:=by
 unfold da
 split
 · exact ⟨(fun t a=>by cases a),jD _⟩
 · split
   · exact ⟨(fun t a=>by cases a),jD _⟩
   · split
     · exact ⟨(fun t a=>by cases a),jD _⟩
     · rename_i xs h
       split
       · exact ⟨(fun t a=>by cases a),jD _⟩
       · exact ⟨(fun t a=>RP _ _ _ h t a),by simp only; omega⟩
theorem Hp {s:List UInt8} {k:Nat} :(s.drop k).getD 0 0=s.getD k 0:=by rw [cQ,ri,← cQ]; rfl
theorem FC {s:List UInt8} {i m:Nat} (a:s.getD i 0=91) (h:i+1 +m < s.length):91::(s.drop<|i+1).take (m+1)=(s.take<|i+1 +m+1).drop i:=by
 rw [su,drop_cons 0 (show i < s.length by omega),a,show i+1 +m+1 - i=m+1 +1 by omega,qc]
theorem Wv {s:List UInt8} {i:Nat} (h:i < s.length):(s.take<|i+1).drop i= [s.getD i 0]:=by
 rw [su,drop_cons 0 h,show i+1 - i=0 +1 by omega,qc,List.take_zero]
theorem Oi {t:List UInt8} {b:UInt8} (h:t.length=1) (h1:¬t= [46]):((t.getD 0 0).toNat:Int)=(b.toNat:Int)↔t.getD 0 0=46∨t.getD 0 0=b:=by
 match t,h with
 | [c],_=>
   simp only [lP] at*
   constructor
   · intro h2; exact .inr<|kY.1 ab
   · rintro (h2 | h2)
     · exact absurd (by rw [h2]) h1
     · rw [h2]
theorem Ji {b:UInt8} (h:(b.toNat:Int)=94):b=94:=kY.1 (by have :(94:UInt8).toNat=94:=rfl; omega)
theorem Wq {b:UInt8} (h:¬(b.toNat:Int)=94):b≠94:=by rintro rfl; exact h rfl
theorem Kq {l:List UInt8} {x:UInt8} (h:l.length=1) (a:l.getD 0 0=x):l= [x]:=by
 match l,h with
 | [c],_=>simp only [lP] at a; rw [a]
theorem X4 {f:UInt8→Bool} (h:¬(bytesOf f).length=256) (h1:(bytesOf f).length=1) (h2:(bytesOf f).getD 0 0=46):gM f= [91,46,93]:=by
 have e:=Kq h1 h2
 have h3:¬f 93=true :=fun h4=>by have :=(FI f 93).2 h4; rw [e] at this; simp at this
 unfold gM; rw [if_neg h,if_neg (fun h4=>h4.2.1 h2),if_neg h3,e]; rfl
theorem X5 {f:UInt8→Bool} (h:¬(bytesOf f).length=256) (h1:(bytesOf f).length=1) (h2:(bytesOf f).getD 0 0=91):gM f= [91,91,93]:=by
 have e:=Kq h1 h2
 have h3:¬f 93=true :=fun h4=>by have :=(FI f 93).2 h4; rw [e] at this; simp at this
 unfold gM; rw [if_neg h,if_neg (fun h4=>h4.2.2 h2),if_neg h3,e]; rfl
theorem JB (s:List UInt8) (b:UInt8) (w:World) (hs:s.length≤1048576):
 bh ay 263 (ba [str s,.int .u8 b.toNat]) w (fun v w'=>v= .bool (decide (b∈s))∧Wk w w'):=by
 refine enter func263 aa ntmps263 aa<|aj fun _ G=>aw<|G _ _<|sq fun _ I=>aj fun _ J=>aw<|J _ _<|aJ<|lp (fun C a E=> ∃ (i:Nat),(i≤s.length)∧(¬b∈s.take i)∧(E=w)∧(a 0=str s)∧(a 1= .int .u8 b.toNat)∧(a 5=au i)∧(s.length - i=C)) _ ⟨0,ab,(by simp),aa,aa,aa,aa,aa⟩ ?_
 rintro C a E ⟨i,hi,A,Y,ac,ae,ag,rfl⟩
 refine fx 0 ac<|fx 1 ae<|fx 5 ag ?_
 subst Y
 refine sq fun _ M=>aj fun _ O=>ak (au i)<|ak (str s)<|p (cg u9 aa aa)<|p (lt aa aa)<|nl<|tn<|O _ _<|cd aa (fun Z=> ?_) fun Z=> ?_
 refine aM<|tn<|M _ _<|sq fun _ j=>aJ<|aj fun _ U=>ak (str s)<|ak (au i)<|p (eK u9 aa aa ab)<|ak (.int .u8 b.toNat)<|p (bH aa aa)<|aE<|U _ _<|cd aa (fun q=> ?_) fun q=> ?_
 exact aj fun _ V=>aw<|V _ _<|rt<|br<|tr<|tr<|br<|tr<|f1 aa aa<|⟨by show bQ true =_; rw [decide_eq_true (UP ab q)],Md.refl _ _⟩
 exact aM<|bn<|tn<|j _ _<|rg aa<|ak (au i)<|p (ad aa aa<|bT ab)<|p aB<|nl<|tn<|⟨_,ab,i+1,ab,(UQ ab A q),aa,aa,aa,aa,aa⟩
 exact ext<|te _<|te _<|be<|tn<|I _ _<|aj fun _ j=>p aB<|aE<|j _ _<|rt<|f1 aa aa<|⟨by show bQ false =_; rw [eI ab] at A; rw [decide_eq_false A],Md.refl _ _⟩
theorem E2 (t:List UInt8) (b:UInt8) (w:World) (ai:t.length=1∨3≤t.length) (al:t.length≤1048576):
 bh ay 237 (ba [.agg [str t].toArray,.int .u8 b.toNat]) w (fun v w'=>v= .bool (cB t b)∧Wk w w'):=by
 refine enter func237 aa ntmps237 aa<|aj fun _ C=>e<|iV aa fun ae ao ah i O=>aw<|C _ _<|aj fun _ E=>p (fa TG aa)<|p (ld bR aa<|O.aO 0)<|aw<|E _ _<|sq fun _ G=>aj fun _ I=>p mv<|p (cg u9 aa aa)<|p (bH aa aa)<|aE<|I _ _<|cd aa (fun ac=> ?_) fun ac=> ?_
 refine aj fun _ a=>p mv<|p (dR aa aa)<|p mv<|gs (t:=14) aa (fun A=> ?_) fun A=> ?_
 exact sk aa aa aa aa<|sk aa aa aa aa<|sk aa aa aa aa<|sk aa aa aa aa<|p (bw aa)<|aw<|a _ _<|rt<|tr<|f1 aa aa<|⟨by show bQ true =_; unfold cB; rw [if_pos (show t.length=1 by omega)]; rw [decide_eq_true (.inl<|by rw [A]; rfl)],i.md⟩
 exact pg aa aa aa mv<|pg aa aa aa (ja 0 u9 aa aa ab)<|pg aa aa aa (aT (.int .u8 b.toNat) aa)<|pg aa aa aa (bH aa aa)<|p (bm aa)<|aw<|a _ _<|rt<|tr<|f1 aa aa<|⟨by show bQ (decide _)=_; unfold cB; rw [if_pos (show t.length=1 by omega)]; exact congrArg bQ (decide_eq_decide.2<|Oi ab A),i.md⟩
 refine aM<|tn<|G _ _<|sq fun _ a=>aj fun _ J=>p mv<|p (ja 1 u9 aa aa ab)<|p (bH aa aa)<|aE<|J _ _<|cd aa (fun q=> ?_) fun q=> ?_
 refine aj fun _ j=>p mv<|p mv<|p (cg u9 aa aa)<|p (dJ ((t.length - 1:Nat):Int) aa aa<|bj ab ab)<|p (l7 u9 aa aa aa ab)<|ak (.int .u8 b.toNat)<|e<|cl Gm (JB ((t.take<|t.length - 1).drop 2) b _<|by simp only [fK,dO]; omega) aa fun am ap Y=> ?_
 obtain ⟨rfl,U⟩:=Y
 exact aw<|j _ _<|aj fun _ M=>p mv<|p (no aa)<|p aB<|aE<|M _ _<|rt<|tr<|f1 aa aa<|⟨by show bQ (!decide _)=_; unfold cB; rw [if_neg (show ¬t.length=1 by omega),if_pos (kY.1 (by have ag:(94:UInt8).toNat=94:=aa; omega))],Md.trans i.md U⟩
 refine aM<|tn<|a _ _<|aj fun _ j=>p mv<|p mv<|p (cg u9 aa aa)<|p (dJ ((t.length - 1:Nat):Int) aa aa<|bj ab ab)<|p (l7 u9 aa aa aa ab)<|ak (.int .u8 b.toNat)<|e<|cl Gm (JB ((t.take<|t.length - 1).drop 1) b _<|by simp only [fK,dO]; omega) aa fun an aq Z=> ?_
 obtain ⟨rfl,V⟩:=Z
 exact aw<|j _ _<|rt<|f1 aa aa<|⟨by unfold cB; rw [if_neg (show ¬t.length=1 by omega),if_neg (fun h=>by rw [h] at q; exact q aa)]; rfl,Md.trans i.md V⟩
theorem E3 (t:List UInt8) (b:UInt8) (bi:Int) (w:World) (i:t.length=1∨3≤t.length) (j:t.length≤1048576) (a:(b.toNat:Int)=bi):bh ay 237 (ba [.agg [str t].toArray,.int .u8 bi]) w (fun v w'=>v= .bool (cB t b)∧Wk w w'):=by
 subst a; exact E2 t b w i j
theorem E4 (t:List UInt8) (q:Bool) (w:World) (aT:t.length=1∨3≤t.length) (aV:t.length≤1048576):
 bh ay 304 (ba [.agg [str t].toArray,.bool q]) w (fun v w'=>bo w' w.heap.size 5 1 (v) (bytesOf fun x=>decide (cB t x=q)).length (U8<|bytesOf fun x=>decide (cB t x=q))∧Wk w w'):=by
 refine enter func304 aa ntmps304 aa<|aj fun _ ag=>e<|iV aa fun ar J aZ ac av=>aw<|ag _ _<|aj fun _ ah=>e<|m5 hZ fun V aX a1 aD az=> ?_
 have aL:bo aX J.heap.size 5 1 (.slice (some ⟨V,0,none⟩) 0 0) (([]:List UInt8)).length (U8<|([]:List UInt8)):=az _ ab
 refine aw<|ah _ _<|sq fun _ ai=>aj fun _ al=>p aB<|nl<|tn<|al _ _<|aJ<|lp (fun Y C U=> ∃ (i:Nat) (a:Value),(i≤256)∧(bo U J.heap.size 5 1 (a) (lV (fun x=>decide (cB t x=q)) i).length<|U8<|lV (fun x=>decide (cB t x=q)) i)∧(Wk J U)∧(C 1= .bool q)∧(C 2=aQ ar)∧(C 5=a)∧(C 6=au i)∧(256 - i=Y)) _ ⟨0,.slice (some ⟨V,0,none⟩) 0 0,ab,aL,aD.md,aa,aa,aa,aa,aa⟩ ?_
 rintro Y C U ⟨i,a,hi,I,G,aN,aP,aR,aS,rfl⟩
 refine fx 1 aN<|fx 2 aP<|fx 5 aR<|fx 6 aS ?_
 have a2:=qs (fun x=>decide (cB t x=q)) i
 refine sq fun _ am=>aj fun _ an=>ak (au i)<|p (lt aa aa)<|aE<|an _ _<|cd aa (fun aG=> ?_) fun aG=> ?_
 refine aM<|tn<|am _ _<|sq fun _ E=>aJ<|aj fun _ ao=>p (cT sO aa (aa) (show ∀ j,j < 1→Hb.aO _ _ (0 +j)= [str t][j]? from fun j a4=>by cases j with | zero=>exact (G.B av).aO 0 | succ j=>omega))<|ak (au i)<|p (lH u5 qW aa<|tU ab)<|e<|cl AT (E3 t (UInt8.ofNat i) _ _ aT aV<|zw i ab) aa fun a6 a7 aF=> ?_
 obtain ⟨rfl,A⟩:=aF
 refine aw<|ao _ _<|aj fun _ aq=>p mv<|ak (.bool q)<|p (HA u4 aa aa)<|aE<|aq _ _<|cd aa (fun O=> ?_) fun O=> ?_
 refine rg aa<|ak (a)<|ak (au i)<|p (lH u5 qW aa<|tU ab)<|e<|fR hZ aa aa fun aY aW a0 M ax=> ?_
 have Z:Wk J aW:=Md.trans (Md.trans G A) M.md
 refine e<|ap hZ (aU (aU I A) M.md) aa (by have :=Z.size; omega) aa (aI.dS ax) (aa) (aa) ab ab fun v24 a8 ae aC a5 a3=> ?_
 have aA:=Wk.own Z (aU (aU I A) M.md) aC<|cj _
 rw [← zw i ab] at ae
 have aK:=qP ae
 exact p aB<|nl<|bn<|tn<|E _ _<|rg aa<|ak (au i)<|p (bE ((i+1:Nat):Int) aa aa<|bj ab ab)<|p aB<|aE<|⟨_,ab,i+1,v24,ab,(by rw [sV,if_pos (decide_eq_true O)]; exact aK),aA,aa,aa,aa,aa,aa⟩
 exact aM<|bn<|tn<|E _ _<|rg aa<|ak (au i)<|p (bE ((i+1:Nat):Int) aa aa<|bj ab ab)<|p aB<|nl<|tn<|⟨_,ab,i+1,a,ab,(by rw [sV,if_neg (fun h=>O<|of_decide_eq_true h),ed]; exact aU I A),(Md.trans G A),aa,aa,aa,aa,aa⟩
 refine ext<|te _<|te _<|be<|tn<|ai _ _<|aj fun _ E=>ak (a)<|p (cH (a) aa)<|aE<|E _ _<|rt<|f1 aa aa ?_
 have aH:i=256:=ab
 subst aH
 exact ⟨ep I ac.md.size,Md.trans ac.md G⟩
theorem X6 (t:List UInt8) (w:World) (aH:t.length=1∨3≤t.length) (aK:t.length≤1048576):
 bh ay 294 (ba [.agg [str t].toArray]) w (fun v w'=>v=str (gM<|cB t)∧Wk w w'):=by
 have ck:(bytesOf<|cB t).length≤256:=qs _ 256
 have ci:(bytesOf fun x=> !cB t x).length≤256:=qs _ 256
 have bK:=O0 (f:=cB t)
 refine enter func294 aa ntmps294 aa ?_
 refine sq fun _ a9=> ?_
 refine rg aa ?_
 refine e<|iV aa fun bq cp b8 bB aW=> ?_
 refine p aB ?_
 refine nl ?_
 refine tn<|a9 _ _ ?_
 refine sq fun _ bi=> ?_
 refine rg aa ?_
 refine p (cT sO aa (aa) (show ∀ j,j < 1→Hb.aO _ _ (0 +j)= [str t][j]? from fun j a4=>by cases j with | zero=>exact (aW).aO 0 | succ j=>omega)) ?_
 refine e<|cl Gt (E4 t true _ aH aK) aa fun v10 cq bD=> ?_
 obtain ⟨aE,aZ⟩:=bD
 rw [FH (g:=cB t) (fun x=>by cases cB t x <;> rfl)] at aE
 obtain ⟨Y,Z,rfl⟩:=cw aE
 have a:=(aX aE).2
 have aY:=aZ.B aW
 refine p aB ?_
 refine nl ?_
 refine tn<|bi _ _ ?_
 refine sq fun _ bk=> ?_
 refine rg aa ?_
 refine p (cT sO aa (aa) (show ∀ j,j < 1→Hb.aO _ _ (0 +j)= [str t][j]? from fun j a4=>by cases j with | zero=>exact (aY).aO 0 | succ j=>omega)) ?_
 refine e<|cl Gt (E4 t false _ aH aK) aa fun v12 b0 bG=> ?_
 obtain ⟨aF,aq⟩:=bG
 rw [FH (g:=fun x=> !cB t x) (fun x=>by cases cB t x <;> rfl)] at aF
 obtain ⟨b4,b7,rfl⟩:=cw aF
 have a:=a.wk aq
 have br:=aq.B aY
 have ae:Wk w b0:=Md.trans bB.md<|Md.trans aZ aq
 refine p aB ?_
 refine nl ?_
 refine tn<|bk _ _ ?_
 refine sq fun _ bl=> ?_
 refine sq fun _ bm=> ?_
 refine rg aa ?_
 refine p mv ?_
 refine p (bF mQ aa aa) ?_
 refine p (bH aa aa) ?_
 refine nl ?_
 refine tn<|bm _ _ ?_
 refine cd aa (fun bL=> ?_) fun bL=> ?_
 refine sq fun _ am=> ?_
 refine rg aa ?_
 refine p aB ?_
 refine nl ?_
 refine tn<|am _ _ ?_
 refine rt ?_
 refine tr ?_
 refine f1 aa aa ?_
 exact ⟨by unfold gM; rw [if_pos (bK.1 ab)]; rfl,ae⟩
 refine aM ?_
 refine tn<|bl _ _ ?_
 refine sq fun _ am=> ?_
 refine sq fun _ bp=> ?_
 refine rg aa ?_
 refine p mv ?_
 refine p (bF mQ aa aa) ?_
 refine p (bH aa aa) ?_
 refine nl ?_
 refine tn<|bp _ _ ?_
 refine cd aa (fun bM=> ?_) fun bM=> ?_
 refine sq fun _ an=> ?_
 refine sq fun _ ao=> ?_
 refine rg aa ?_
 refine p mv ?_
 refine p (a7 lZ aa aa ab<|aI.ok (a)<|pV ab) ?_
 refine p (ld pB aa<|pU (i:=0) a ab) ?_
 refine p (bH aa aa) ?_
 refine nl ?_
 refine tn<|ao _ _ ?_
 refine cd aa (fun ax=> ?_) fun ax=> ?_
 refine sq fun _ O=> ?_
 refine rg aa ?_
 refine p aB ?_
 refine nl ?_
 refine tn<|O _ _ ?_
 refine rt ?_
 refine tr ?_
 refine tr ?_
 refine f1 aa aa ?_
 exact ⟨by rw [X4 ab ab (CA ax)]; rfl,ae⟩
 refine aM ?_
 refine tn<|an _ _ ?_
 refine sq fun _ O=> ?_
 refine sq fun _ U=> ?_
 refine rg aa ?_
 refine p mv ?_
 refine p (a7 lZ aa aa ab<|aI.ok (a)<|pV ab) ?_
 refine p (ld pB aa<|pU (i:=0) a ab) ?_
 refine p (bH aa aa) ?_
 refine nl ?_
 refine tn<|U _ _ ?_
 refine cd aa (fun aA=> ?_) fun aA=> ?_
 refine sq fun _ V=> ?_
 refine rg aa ?_
 refine p aB ?_
 refine nl ?_
 refine tn<|V _ _ ?_
 refine rt ?_
 refine tr ?_
 refine tr ?_
 refine f1 aa aa ?_
 exact ⟨by rw [X5 ab ab (yF aA)]; rfl,ae⟩
 refine aM ?_
 refine tn<|O _ _ ?_
 refine sq fun _ V=> ?_
 refine rg aa ?_
 refine ak (.slice Y (bytesOf<|cB t).length Z) ?_
 refine p (m8 m6 aa (a)<|aa) ?_
 refine p aB ?_
 refine nl ?_
 refine tn<|V _ _ ?_
 refine rt ?_
 refine tr ?_
 refine f1 aa aa ?_
 exact ⟨by unfold gM; rw [if_neg (show ¬(bytesOf<|cB t).length=256 by omega),if_pos ⟨ab,CX ax,vC aA⟩]; rfl,ae⟩
 refine aM ?_
 refine tn<|am _ _ ?_
 refine sq fun _ an=> ?_
 refine rg aa ?_
 refine p (cT sO aa (aa) (show ∀ j,j < 1→Hb.aO _ _ (0 +j)= [str t][j]? from fun j a4=>by cases j with | zero=>exact (br).aO 0 | succ j=>omega)) ?_
 refine e<|cl AT (E3 t 93 _ _ aH aK aa) aa fun v30 J bJ=> ?_
 obtain ⟨rfl,G⟩:=bJ
 have ar:=Md.trans ae G
 refine p aB ?_
 refine nl ?_
 refine tn<|an _ _ ?_
 refine sq fun _ ao=> ?_
 refine sq fun _ O=> ?_
 refine rg aa ?_
 refine p mv ?_
 refine nl ?_
 refine tn<|O _ _ ?_
 refine cb aa (fun aC=> ?_) fun aC=> ?_
 refine sq fun _ U=> ?_
 refine rg aa ?_
 refine p mv ?_
 refine p (m8 m6 aa ((aX<|aU aF G).2)<|aa) ?_
 refine p (cc aa aa<|by simp only [cM,fP]; omega) ?_
 refine p (cc aa aa<|by simp only [cM,fP,bI]; omega) ?_
 refine p aB ?_
 refine nl ?_
 refine tn<|U _ _ ?_
 refine rt ?_
 refine tr ?_
 refine f1 aa aa ?_
 exact ⟨by unfold gM; rw [if_neg (show ¬(bytesOf<|cB t).length=256 by omega),if_neg (show ¬((bytesOf<|cB t).length=1∧_) from fun h=>by omega),if_pos aC]; rfl,ar⟩
 refine aM ?_
 refine tn<|ao _ _ ?_
 refine sq fun _ U=> ?_
 refine rg aa ?_
 refine e<|m5 hZ fun aR b1 b9 bC bs=> ?_
 have bS:bo b1 J.heap.size 5 1 (.slice (some ⟨aR,0,none⟩) 0 0) (([]:List UInt8)).length (U8<|([]:List UInt8)):=bs _ ab
 refine p aB ?_
 refine nl ?_
 refine tn<|U _ _ ?_
 refine sq fun _ V=> ?_
 refine rg aa ?_
 refine p aB ?_
 refine nl ?_
 refine tn<|V _ _ ?_
 refine sq fun _ bb=> ?_
 refine sq fun _ bc=> ?_
 refine rg aa ?_
 refine p aB ?_
 refine nl ?_
 refine tn<|bc _ _ ?_
 refine aJ ?_
 refine lp (fun aV M aN=> ∃ (i:Nat) (ob:Bool) (ai:Value),(i≤(bytesOf<|cB t).length)∧(ob=decide (94∈(bytesOf<|cB t).take i))∧(bo aN J.heap.size 5 1 (ai) (((bytesOf<|cB t).take i).filter fun b=>decide (b≠94)).length<|U8<|((bytesOf<|cB t).take i).filter fun b=>decide (b≠94))∧(Wk J aN)∧(M 1=aQ bq)∧(M 3= .slice Y (bytesOf<|cB t).length Z)∧(M 6=ai)∧(M 7= .bool ob)∧(M 8=au i)∧((bytesOf<|cB t).length - i=aV)) _ ⟨0,false,.slice (some ⟨aR,0,none⟩) 0 0,ab,aa,bS,bC.md,aa,aa,aa,aa,aa,aa⟩ ?_
 rintro aV M aN ⟨i,ob,ai,hi,I,A,q,bT,bU,bV,bW,bX,rfl⟩
 refine fx 1 bT<|fx 3 bU<|fx 6 bV<|fx 7 bW<|fx 8 bX ?_
 have ch:(((bytesOf<|cB t).take i).filter fun b=>decide (b≠94)).length≤256:=fW (List.length_filter_le _ _)<|by rw [dO]; omega
 refine sq fun _ bd=> ?_
 refine sq fun _ bf=> ?_
 refine rg aa ?_
 refine ak (au i) ?_
 refine ak (.slice Y (bytesOf<|cB t).length Z) ?_
 refine p (bF mQ aa aa) ?_
 refine p (lt aa aa) ?_
 refine nl ?_
 refine tn<|bf _ _ ?_
 refine cd aa (fun bN=> ?_) fun bN=> ?_
 refine aM ?_
 refine tn<|bd _ _ ?_
 refine sq fun _ E=> ?_
 refine aJ ?_
 refine sq fun _ bg=> ?_
 refine rg aa ?_
 refine ak (.slice Y (bytesOf<|cB t).length Z) ?_
 refine ak (au i) ?_
 refine p (a7 lZ aa aa ab<|aI.ok (a.wk<|Md.trans G q)<|pV ab) ?_
 refine p (ld pB aa<|pU (i:=i) (a.wk<|Md.trans G q) ab) ?_
 refine p (bH aa aa) ?_
 refine nl ?_
 refine tn<|bg _ _ ?_
 refine cd aa (fun aD=> ?_) fun aD=> ?_
 have ac:=Ji aD
 refine rg aa ?_
 refine p aB ?_
 refine nl ?_
 refine bn ?_
 refine tn<|E _ _ ?_
 refine rg aa ?_
 refine ak (au i) ?_
 refine p (bE ((i+1:Nat):Int) aa aa<|bj ab ab) ?_
 refine p aB ?_
 refine nl ?_
 refine tn ?_
 exact ⟨_,ab,i+1,true,ai,ab,(by rw [fD _ i 0 ab,ac,decide_eq_true (by simp)]),(by rw [fD _ i 0 ab,ac,Nr,List.filter_cons_of_neg (by simp),Nt,ed]; exact A),q,aa,aa,aa,aa,aa,aa⟩
 have ac:=Wq aD
 refine rg aa ?_
 refine ak (ai) ?_
 refine ak (.slice Y (bytesOf<|cB t).length Z) ?_
 refine ak (au i) ?_
 refine p (a7 lZ aa aa ab<|aI.ok (a.wk<|Md.trans G q)<|pV ab) ?_
 refine p (ld pB aa<|pU (i:=i) (a.wk<|Md.trans G q) ab) ?_
 refine e<|fR hZ aa aa fun b5 b2 ca av bt=> ?_
 have a0:Wk J b2:=Md.trans q av.md
 refine e<|ap hZ (aU A av.md) aa (by have :=a0.size; omega) aa (aI.dS bt) (aa) (aa) ab ab fun bZ cr bP bz cm cf=> ?_
 have bv:=Wk.own a0 (aU A av.md) bz<|cj _
 have bQ:=qP bP
 refine p aB ?_
 refine nl ?_
 refine bn ?_
 refine tn<|E _ _ ?_
 refine rg aa ?_
 refine ak (au i) ?_
 refine p (bE ((i+1:Nat):Int) aa aa<|bj ab ab) ?_
 refine p aB ?_
 refine nl ?_
 refine tn ?_
 exact ⟨_,ab,i+1,ob,bZ,ab,(by rw [fD _ i 0 ab,I]; exact decide_eq_decide.2<|by rw [jz,jY]; exact ⟨.inl,fun h=>h.elim id fun h=>absurd h.symm ac⟩),(by rw [fD _ i 0 ab,Nr,List.filter_cons_of_pos (by simpa using ac),Nt]; exact bQ),bv,aa,aa,aa,aa,aa,aa⟩
 refine ext ?_
 refine te _ ?_
 refine te _ ?_
 refine be ?_
 refine tn<|bb _ _ ?_
 refine ec (fun a8 aL=> ∃ (aj:Option Addr) (C al:Nat),(((bytesOf<|cB t).filter (fun b=>decide (b≠94))++(if 94∈(bytesOf<|cB t) then [94] else [])).length=C)∧(bo aL J.heap.size 5 1 (.slice aj C al) C<|U8<|(bytesOf<|cB t).filter (fun b=>decide (b≠94))++(if 94∈(bytesOf<|cB t) then [94] else []))∧(Wk w aL)∧(C≤300)∧(a8 6= .slice aj C al)) ?_ ?_
 refine sq fun _ E=> ?_
 obtain ⟨aP,aS,rfl⟩:=cw A
 have ah:(bytesOf<|cB t).take i=bytesOf (cB t):=eI ab
 rw [ah] at I
 refine rg aa ?_
 refine ak (.bool ob) ?_
 refine nl ?_
 refine tn<|E _ _ ?_
 refine cb aa (fun ag=> ?_) fun ag=> ?_
 refine rg aa ?_
 refine p (aT (.slice aP (((bytesOf<|cB t).take i).filter fun b=>decide (b≠94)).length aS) aa) ?_
 refine e<|fR hZ aa aa fun b6 b3 ce aw bu=> ?_
 have a1:Wk J b3:=Md.trans q aw.md
 refine e<|ap hZ (aU A aw.md) aa (by have :=a1.size; omega) aa (aI.dS bu) (aa) (aa) ab ab fun co cs aG bA cn cg=> ?_
 have bw:=Wk.own a1 (aU A aw.md) bA<|cj _
 rw [ah] at aG
 have a6:=qP (x:=94) aG
 obtain ⟨a2,c2,rfl⟩:=cw aG
 refine p aB ?_
 refine nl ?_
 refine tn ?_
 exact ⟨a2,_,c2,(by rw [if_pos (of_decide_eq_true<|I ▸ ag),bI]; rfl),(by rw [if_pos (of_decide_eq_true<|I ▸ ag)]; rw [bI] at a6; exact a6),(Md.trans ar bw),(by rw [← ah]; omega),aa⟩
 refine aM ?_
 refine tn ?_
 exact ⟨aP,_,aS,(by rw [if_neg (of_decide_eq_false<|I ▸ ag),ed,ah]),(by rw [if_neg (of_decide_eq_false<|I ▸ ag),ed]; have h3:=A; rw [ah] at h3 ⊢; exact h3),(Md.trans ar q),(ab),aa⟩
 rintro a8 aL ⟨aj,C,al,a5,bR,bx,bO,bY⟩
 refine fx 6 bY ?_
 have a3:((bytesOf<|cB t).filter (fun b=>decide (b≠94))++(if 94∈(bytesOf<|cB t) then [94] else [])).length≤300:=by rw [a5]; exact bO
 refine sq fun _ E=> ?_
 refine rg aa ?_
 refine ak (.slice aj C al) ?_
 refine p (m8 m6 aa ((aX bR).2)<|a5) ?_
 refine p (cc aa aa<|fW (z6 a3 _) az) ?_
 refine p (cc aa aa<|by rw [bI]; exact fW (Nat.add_le_add_right (z6 a3 _) _) az) ?_
 refine p aB ?_
 refine nl ?_
 refine tn<|E _ _ ?_
 refine rt ?_
 refine f1 aa aa ?_
 exact ⟨by unfold gM; rw [if_neg (show ¬(bytesOf<|cB t).length=256 by omega),if_neg (show ¬((bytesOf<|cB t).length=1∧_) from fun h=>by omega),if_neg (show ¬cB t 93=true from by rw [aC]; exact Bool.noConfusion)]; rfl,bx⟩
theorem Rh (s:List UInt8) (i:Nat) (w:World) (hs:s.length≤1048576) (hi:i≤s.length):
 bh ay 236 (ba [str s,au i]) w (fun v w'=>v= .int .i64 (pE s i)∧Wk w w'):=by
 refine enter func236 aa ntmps236 aa<|aj fun _ J=>aw<|J _ _<|sq fun _ M=>aJ<|lp (fun G E I=> ∃ (k:Nat),(i≤k∧k≤s.length)∧(∀ j,i≤j→j < k→s.getD j 0≠93)∧(I=w)∧(E 0=str s)∧(E 1=au k)∧(s.length - k=G)) _ ⟨i,ab,(fun j h1 h2=>by omega),aa,aa,aa,aa⟩ ?_
 rintro G E I ⟨k,hk,C,Z,ae,ag,rfl⟩
 refine fx 0 ae<|fx 1 ag ?_
 subst Z
 refine sq fun _ O=>aj fun _ U=>ak (au k)<|ak (str s)<|p (cg u9 aa aa)<|p (lt aa aa)<|nl<|tn<|U _ _<|cd aa (fun ac=> ?_) fun ac=> ?_
 refine aM<|tn<|O _ _<|aJ<|sq fun _ a=>aj fun _ V=>ak (str s)<|ak (au k)<|p (eK u9 aa aa ab)<|p (bH aa aa)<|aE<|V _ _<|cd aa (fun A=> ?_) fun A=> ?_
 have q:s.getD k 0=93:=kY.1 (by have :(93:UInt8).toNat=93:=rfl; omega)
 exact aj fun _ Y=>ak (au k)<|p (cH (au k) aa)<|aE<|Y _ _<|rt<|tr<|br<|tr<|br<|tr<|f1 aa aa<|⟨by rw [Rm (k:=k) ab C q]; rfl,Md.refl _ _⟩
 have q:s.getD k 0≠93:=fun h=>by rw [h] at A; exact A rfl
 exact aM<|tn<|a _ _<|rg aa<|ak (au k)<|p (bE ((k+1:Nat):Int) aa aa<|bj ab ab)<|p aB<|nl<|bn<|tn<|⟨_,ab,k+1,ab,(fun j h1 h2=>by rcases e8 j k with h | h <;> first | exact C j h1 h | (rw [show j=k by omega]; exact q)),aa,aa,aa,aa⟩
 exact ext<|te _<|te _<|be<|tn<|M _ _<|aj fun _ a=>p aB<|aE<|a _ _<|rt<|f1 aa aa<|⟨by rw [Ro (fun j h1 h2=>C j h1 ab)]; rfl,Md.refl _ _⟩
theorem KG (s:List UInt8) (w:World) (hs:s.length≤1048576):
 bh ay 186 (ba [str s]) w (fun v w'=>(∃ a,v= .tuple #[a,au ((da s).2)]∧bo w' w.heap.size 349 1 (a) ((da s).1).length (((da s).1).map str))∧Wk w w'):=by
 refine enter func186 aa ntmps186 aa<|aj fun _ aQ=>p aB<|aw<|aQ _ _<|sq fun _ aS=>sq fun _ aG=>rg aa<|ak (str s)<|p (cg u9 aa aa)<|p (bH aa aa)<|p mv<|gs (t:=11) aa (fun C=> ?_) fun C=> ?_
 exact sk aa aa aa aa<|sk aa aa aa aa<|sk aa aa aa aa<|p (bw aa)<|aE<|aG _ _<|ct aa<|sq fun _ ah=>rg aa<|p aB<|aw<|ah _ _<|rt<|tr<|f2 aa aa aa<|⟨⟨.slice none 0 0,by unfold da; rw [if_pos (.inl<|fO ab)]; rfl,by unfold da; rw [if_pos (.inl<|fO ab)]; exact du _ _ _ _⟩,Md.refl _ _⟩
 refine pg aa aa aa (aT (str s) aa)<|pg aa aa aa (cg u9 aa aa)<|pg aa aa aa (gt aa aa)<|p (bm aa)<|aE<|aG _ _<|cd aa (fun a4=> ?_) fun a4=> ?_
 exact aj fun _ ah=>p aB<|aw<|ah _ _<|rt<|tr<|f2 aa aa aa<|⟨⟨.slice none 0 0,by unfold da; rw [if_pos (.inr ab)]; rfl,by unfold da; rw [if_pos (.inr ab)]; exact du _ _ _ _⟩,Md.refl _ _⟩
 refine aM<|tn<|aS _ _<|aj fun _ ah=>aw<|ah _ _<|sq fun _ aV=>aj fun _ aW=>ak (str s)<|p (dR aa aa)<|aE<|aW _ _<|cd aa (fun J=> ?_) fun J=> ?_
 refine aj fun _ aq=>p mv<|p aB<|aw<|aq _ _<|rt<|tr<|f2 aa aa aa ?_
 have aO:¬(s= []∨512 < s.length):=fun h=>h.elim (fun h=>by rw [h] at C; exact C rfl) fun h=>by omega
 exact ⟨⟨.slice none 0 0,by unfold da; rw [if_neg aO,if_pos J]; rfl,by unfold da; rw [if_neg aO,if_pos J]; exact du _ _ _ _⟩,Md.refl _ _⟩
 refine aM<|tn<|aV _ _<|aj fun _ aq=>aw<|aq _ _<|sq fun _ aX=>aJ<|lp (fun aH an aD=> ∃ (i:Nat) (A:List (List UInt8)) (Z:Value),(i≤s.length∧A.length≤i)∧(km s i A)∧(bo aD w.heap.size 349 1 (Z) (A).length<|(A).map str)∧(Wk w aD)∧(an 0=str s)∧(an 4=Z)∧(an 5=au i)∧(s.length - i=aH)) _ ⟨0,[],.slice none 0 0,(by simp),(km.start s),(du _ _ _ _),(Md.refl _ _),aa,aa,aa,aa⟩ ?_
 rintro aH an aD ⟨i,A,Z,hi,Y,ai,G,bi,bk,bl,rfl⟩
 refine fx 0 bi<|fx 4 bk<|fx 5 bl<|sq fun _ aY=>aj fun _ aR=>ak (au i)<|ak (str s)<|p (cg u9 aa aa)<|p (lt aa aa)<|aE<|aR _ _<|cd aa (fun a5=> ?_) fun a5=> ?_
 refine aM<|tn<|aY _ _<|aJ<|aj fun _ ao=>ak (au i)<|p (bE ((i+1:Nat):Int) aa aa<|bj ab ab)<|p aB<|aE<|ao _ _ ?_
 refine ec (fun al aC=> ∃ (j:Nat),(i < j∧j≤s.length)∧(km s j<|A++ [(s.take j).drop i])∧(bo aC w.heap.size 349 1 (Z) (A).length<|(A).map str)∧(Wk w aC)∧(al 0=str s)∧(al 4=Z)∧(al 5=au i)∧(al 6=au j)) ?_ ?_
 refine aj fun _ ac=>ak (str s)<|ak (au i)<|p (eK u9 aa aa ab)<|p (bH aa aa)<|aE<|ac _ _<|cd aa (fun az=> ?_) fun az=> ?_
 refine aj fun _ ae=>ak (str s)<|ak (au i)<|e<|cl PN (Rh s i _ hs ab) aa fun v31 bJ a3=> ?_
 obtain ⟨rfl,U⟩:=a3
 have I:=yF az
 obtain ⟨aL,a7⟩:=Rl (show i < s.length by omega) I
 have V:=drop_cons (l:=s) (i:=i) 0 ab
 have bB:(s.drop<|i+1).length=s.length - (i+1):=fK
 refine aw<|ae _ _<|sq fun _ aF=>aj fun _ am=>p mv<|p (lt aa aa)<|p mv<|gs (t:=34) aa (fun a8=> ?_) fun a8=> ?_
 have E:im (s.drop i)=none:=by
  rw [V,I]
  exact xH aa fun h=>(aL.1 ab) h.1
 have M:=Y.bad ab E
 refine sk aa aa aa aa<|sk aa aa aa aa<|sk aa aa aa aa<|sk aa aa aa aa<|p (bw aa)<|p mv<|sk aa aa aa aa<|sk aa aa aa aa<|sk aa aa aa aa<|sk aa aa aa aa<|sk aa aa aa aa<|dV aa aa aa<|dV aa aa aa<|dV aa aa aa<|dV aa aa aa<|dV aa aa aa<|sk aa aa aa aa<|p (bw aa)<|aE<|am _ _<|ct aa<|aj fun _ ag=>p aB<|aw<|ag _ _<|rt<|tr<|tr<|br<|tr<|br<|tr<|f2 aa aa aa ?_
 have q:da s=([],41):=by unfold da; rw [if_neg (fun h=>h.elim (fun h=>by rw [h] at C; exact C rfl) fun h=>by omega),if_neg J,M]
 exact ⟨⟨.slice none 0 0,by rw [q]; rfl,by rw [q]; exact du _ _ _ _⟩,Md.trans G U⟩
 have bA:=a7 ab
 have aN:(s.drop<|i+1).idxOf 93 < (s.drop<|i+1).length:=Eb fun h=>by have :=aL.2 h; omega
 refine pg aa aa aa mv<|pg aa aa aa (aT (au i) aa)<|pg aa aa aa (bE ((i+1:Nat):Int) aa aa<|bj ab ab)<|pg aa aa aa (bH aa aa)<|p (bm aa)<|p mv<|gs (t:=40) aa (fun a9=> ?_) fun a9=> ?_
 have E:im (s.drop i)=none:=by
  rw [V,I]
  exact xH aa fun h=>h.2.1 ab
 have M:=Y.bad ab E
 refine sk aa aa aa aa<|sk aa aa aa aa<|sk aa aa aa aa<|sk aa aa aa aa<|sk aa aa aa aa<|dV aa aa aa<|dV aa aa aa<|dV aa aa aa<|dV aa aa aa<|dV aa aa aa<|sk aa aa aa aa<|p (bw aa)<|aE<|am _ _<|ct aa<|sq fun _ ag=>rg aa<|p aB<|aw<|ag _ _<|rt<|tr<|tr<|br<|tr<|br<|tr<|f2 aa aa aa ?_
 have q:da s=([],41):=by unfold da; rw [if_neg (fun h=>h.elim (fun h=>by rw [h] at C; exact C rfl) fun h=>by omega),if_neg J,M]
 exact ⟨⟨.slice none 0 0,by rw [q]; rfl,by rw [q]; exact du _ _ _ _⟩,Md.trans G U⟩
 refine pg aa aa aa mv<|pg aa aa aa (aT (au i) aa)<|pg aa aa aa (bE ((i+2:Nat):Int) aa aa<|bj ab ab)<|pg aa aa aa (bH aa aa)<|pg aa aa aa mv<|gs (t:=45) aa (fun bb=> ?_) fun bb=> ?_
 refine pg aa aa aa (aT (str s) aa)<|pg aa aa aa (aT (au i) aa)<|pg aa aa aa (bE ((i+1:Nat):Int) aa aa<|bj ab ab)<|pg aa aa aa (eK u9 aa aa ab)<|pg aa aa aa (bH aa aa)<|pg aa aa aa (bw aa)<|p (bm aa)<|nl<|tn<|am _ _<|cd aa (fun aA=> ?_) fun aA=> ?_
 have E:im (s.drop i)=none:=by
  rw [V,I]
  exact xH aa fun h=>h.2.2 ⟨ab,by rw [Hp]; exact Ji aA⟩
 have M:=Y.bad ab E
 refine aj fun _ ag=>p aB<|aw<|ag _ _<|rt<|tr<|tr<|br<|tr<|br<|tr<|f2 aa aa aa ?_
 have q:da s=([],41):=by unfold da; rw [if_neg (fun h=>h.elim (fun h=>by rw [h] at C; exact C rfl) fun h=>by omega),if_neg J,M]
 exact ⟨⟨.slice none 0 0,by rw [q]; rfl,by rw [q]; exact du _ _ _ _⟩,Md.trans G U⟩
 have E:im (s.drop i)=some (91::(s.drop<|i+1).take ((s.drop<|i+1).idxOf 93 +1),(s.drop<|i+1).drop ((s.drop<|i+1).idxOf 93 +1)):=by
  rw [V,I]
  exact Bb aa aN ab fun h=>aA<|by rw [← Hp,h.2]; rfl
 have O:=Y.step (j:=i+1 +(s.drop<|i+1).idxOf 93 +1) E<|by rw [ss]; rfl
 rw [FC I ab] at O
 exact aM<|tn<|aF _ _<|rg aa<|p mv<|p (bE ((i+1 +(s.drop<|i+1).idxOf 93 +1:Nat):Int) aa aa<|bj ab ab)<|p aB<|nl<|tn<|⟨i+1 +(s.drop<|i+1).idxOf 93 +1,(ab),O,(aU ai U),(Md.trans G U),aa,aa,aa,aa⟩
 have E:im (s.drop i)=some (91::(s.drop<|i+1).take ((s.drop<|i+1).idxOf 93 +1),(s.drop<|i+1).drop ((s.drop<|i+1).idxOf 93 +1)):=by
  rw [V,I]
  exact Bb aa aN ab fun h=>by omega
 have O:=Y.step (j:=i+1 +(s.drop<|i+1).idxOf 93 +1) E<|by rw [ss]; rfl
 rw [FC I ab] at O
 exact sk aa aa aa aa<|sk aa aa aa aa<|sk aa aa aa aa<|sk aa aa aa aa<|sk aa aa aa aa<|pg aa aa aa (bm aa)<|p (bm aa)<|nl<|tn<|am _ _<|cf aa<|aM<|tn<|aF _ _<|rg aa<|p mv<|p (bE ((i+1 +(s.drop<|i+1).idxOf 93 +1:Nat):Int) aa aa<|bj ab ab)<|p aB<|aE<|⟨i+1 +(s.drop<|i+1).idxOf 93 +1,(ab),O,(aU ai U),(Md.trans G U),aa,aa,aa,aa⟩
 have bd:=vC az
 have V:=drop_cons (l:=s) (i:=i) 0 ab
 have E:im (s.drop i)=some ([s.getD i 0],s.drop (i+1)):=by rw [V]; exact GF bd
 have O:=Y.step (j:=i+1) E rfl
 rw [← Wv (show i < s.length by omega)] at O
 exact aM<|tn<|⟨i+1,(ab),O,ai,G,aa,aa,aa,aa⟩
 rintro al aC ⟨j,bD,bc,aP,a1,bp,bq,bs,bt⟩
 refine fx 0 bp<|fx 4 bq<|fx 5 bs<|fx 6 bt<|aj fun _ ac=>ak (Z)<|ak (str s)<|ak (au i)<|ak (au j)<|p (l7 u9 aa aa aa ab)<|p (cO (ps:= [(0,str ((s.take j).drop i))]) (L:= [str ((s.take j).drop i)]) Yz aa<|aa)<|e<|kq Lt aa aa aa fun bx bv bz ax aZ=> ?_
 have aK:Wk w bv:=Md.trans a1 ax.md
 refine e<|ap Lt (aU aP ax.md) aa (by have :=aK.size; omega) aa (aI.dS aZ) (aa) (aa) ab ab fun bu bK bf a2 bG bC=> ?_
 have a0:=Wk.own aK (aU aP ax.md) a2<|cj _
 have bg:=WE bf
 exact aw<|ac _ _<|rg aa<|ak (au j)<|p (cH (au j) aa)<|nl<|bn<|tn<|⟨_,ab,j,A++ [(s.take j).drop i],bu,(by rw [bI,eW]; omega),bc,bg,a0,aa,aa,aa,aa⟩
 refine ext<|te _<|te _<|be<|tn<|aX _ _<|sq fun _ ao=>sq fun _ ac=> ?_
 obtain ⟨ar,av,rfl⟩:=cw ai
 have M:=Y.done ab
 refine rg aa<|ak (.slice ar A.length av)<|p (bF r8 aa aa)<|p (gt aa aa)<|aE<|ac _ _<|cd aa (fun a6=> ?_) fun a6=> ?_
 refine aj fun _ ae=>p aB<|aw<|ae _ _<|rt<|tr<|f2 aa aa aa ?_
 have q:da s=([],42):=by unfold da; rw [if_neg (fun h=>h.elim (fun h=>by rw [h] at C; exact C rfl) fun h=>by omega),if_neg J,M]; exact if_pos ab
 exact ⟨⟨.slice none 0 0,by rw [q]; rfl,by rw [q]; exact du _ _ _ _⟩,G⟩
 refine aM<|tn<|ao _ _<|aj fun _ ae=>ak (.slice ar A.length av)<|p (cH (.slice ar A.length av) aa)<|p aB<|nl<|tn<|ae _ _<|rt<|f2 aa aa aa ?_
 have q:da s=(A,0):=by unfold da; rw [if_neg (fun h=>h.elim (fun h=>by rw [h] at C; exact C rfl) fun h=>by omega),if_neg J,M]; exact if_neg ab
 exact ⟨⟨_,by rw [q]; rfl,by rw [q]; exact ai⟩,G⟩
theorem XD (ps:List (List UInt8)) (a:Option Addr) (c:Nat) (w:World) (M:aI w.heap a (ps.map str)) (hn:ps.length≤4096) (O:∀ t∈ps,(t.length=1∨3≤t.length)∧t.length≤1048576):
 bh ay 275 (ba [.slice a ps.length c]) w (fun v w'=>v=str (l6 ps)∧Wk w w'):=by
 refine enter func275 aa ntmps275 aa<|aj fun _ U=>aw<|U _ _<|sq fun _ Y=>aj fun _ Z=>ak (.slice a ps.length c)<|p (bF r8 aa aa)<|p (bH aa aa)<|aE<|Z _ _<|cd aa (fun G=> ?_) fun G=> ?_
 exact aj fun _ C=>aw<|C _ _<|rt<|tr<|f1 aa aa<|⟨by unfold l6; rw [if_pos (fO ab)]; rfl,Md.refl _ _⟩
 refine aM<|tn<|Y _ _<|aj fun _ C=>aw<|C _ _<|sq fun _ ac=>aj fun _ ae=>aw<|ae _ _<|aJ<|lp (fun J A I=> ∃ (i:Nat),(i≤ps.length)∧(Wk w I)∧(((ps.take i).flatMap fun t=>gM<|cB t).length≤i*300)∧(A 0= .slice a ps.length c)∧(A 3=str ((ps.take i).flatMap fun t=>gM<|cB t))∧(A 4=au i)∧(ps.length - i=J)) _ ⟨0,ab,(Md.refl _ _),(by simp),aa,(by first | rfl | (rw [fD ps i [] ab,ny,o0]; rfl)),aa,aa⟩ ?_
 rintro J A I ⟨i,hi,q,hlen,an,ao,ap,rfl⟩
 refine fx 0 an<|fx 3 ao<|fx 4 ap<|sq fun _ ag=>aj fun _ ah=>ak (au i)<|ak (.slice a ps.length c)<|p (bF r8 aa aa)<|p (lt aa aa)<|aE<|ah _ _<|cd aa (fun am=> ?_) fun am=> ?_
 refine aM<|tn<|ag _ _<|sq fun _ E=>aJ<|aj fun _ V=>ak (.slice a ps.length c)<|ak (au i)<|p (a7 HF aa aa ab<|aI.ok (M.wk q)<|bP ab)<|p (cT sO aa (aa) (show ∀ j,j < 1→Hb.aO I.heap (bk a) (fo a+i*1 +j)= [str (ps.getD i [])][j]? from fun j aq=>by cases j with | zero=>exact (JH (M.wk q) ab) | succ j=>omega))<|e<|cl Qg (X6 (ps.getD i []) _ (O _<|dQ ab).1 (O _<|dQ ab).2) aa fun av ax al=> ?_
 obtain ⟨rfl,ai⟩:=al
 have ar:=Dw<|cB<|ps.getD i []
 exact aw<|V _ _<|rg aa<|ak (str<|(ps.take i).flatMap fun t=>gM<|cB t)<|p mv<|p (cc aa aa ab)<|p aB<|nl<|bn<|tn<|E _ _<|rg aa<|ak (au i)<|p (bE ((i+1:Nat):Int) aa aa<|bj ab ab)<|p aB<|nl<|tn<|⟨_,ab,i+1,ab,(Md.trans q ai),(by rw [fD ps i [] ab,ny,o0,bI]; omega),aa,(by first | rfl | (rw [fD ps i [] ab,ny,o0]; rfl)),aa,aa⟩
 exact ext<|te _<|te _<|be<|tn<|ac _ _<|aj fun _ E=>ak (str<|(ps.take i).flatMap fun t=>gM<|cB t)<|p (cH (str<|(ps.take i).flatMap fun t=>gM<|cB t) aa)<|aE<|E _ _<|rt<|f1 aa aa<|⟨by unfold l6; rw [if_neg (fun h=>by rw [h] at G; exact G aa),show ps.take i=ps from eI ab]; rfl,q⟩
end Go.Hb.uz
end
section
set_option maxRecDepth 20000
set_option maxHeartbeats 1000000
namespace Go.Hb.rr
open Go.Hb.dT
open Go.Proofs
open Go.Hb.j5
theorem IG {α:Type} {l:List α} {i:Nat} {d:α} (h:i < l.length):l.getD i d∈l:=by
 rw [cQ,cz h]; exact List.getElem_mem h
theorem Dl (s:List UInt8) (w:World) (hs:s.length≤1048576):
 bh ay 113 (ba [str s]) w (fun v w'=>bo w' w.heap.size 9 1 (v) (bG s).length ((bG s).map str)∧Wk w w'):=by
 refine enter func113 aa ntmps113 aa<|aj fun _ aT=>aw<|aT _ _ ?_
 refine ec (fun aS aR=>(Wk w aR)∧(aS 0=str (kV s))) ?_ ?_
 refine aj fun _ ah=>ak (str s)<|e<|cl Ps (CN s _) aa fun b6 ce bj=> ?_
 obtain ⟨rfl,aK⟩:=bj
 refine aE<|ah _ _<|cb aa (fun V=> ?_) fun V=> ?_
 have bZ:=VT V
 exact rg aa<|ak (str s)<|p (l8 u9 aa aa ab)<|aw<|⟨aK,by show str (s.drop 3)=_; rw [Zb V]⟩
 exact aM<|tn<|⟨aK,by show str s=_; rw [Za V]⟩
 rintro aS aR ⟨aC,bx⟩
 refine fx 0 bx ?_
 have b1:=zx s
 refine aj fun _ ah=>aw<|ah _ _<|aj fun _ aV=>e<|m5 hZ fun av aP bO bf a2=> ?_
 have bv:bo aP w.heap.size 5 1 (.slice (some ⟨av,0,none⟩) 0 0) (([]:List UInt8)).length (U8<|([]:List UInt8)):=a2 _<|by have :=aC.size; omega
 have a7:Wk w aP:=Md.trans aC bf.md
 refine aw<|aV _ _<|aj fun _ aW=>aw<|aW _ _<|sq fun _ aY=>aj fun _ aZ=>aw<|aZ _ _<|aJ<|lp (fun aA E Z=> ∃ (i:Nat) (j:List (List UInt8)) (a:List UInt8) (ob:Bool) (A Y:Value),(i≤(kV s).length)∧(j++fU a ((kV s).drop i)=bG s)∧(ob=decide (a≠[]))∧(a.length≤i)∧(Wk w Z)∧(bo Z w.heap.size 9 1 (A) (j).length<|(j).map str)∧(bo Z w.heap.size 5 1 (Y) (a).length<|U8<|a)∧(E 0=str (kV s))∧(E 3=A)∧(E 4=Y)∧(E 5= .bool ob)∧(E 6= .int .i64 i)∧((kV s).length - i=aA)) _ ⟨0,[],[],false,.slice none 0 0,.slice (some ⟨av,0,none⟩) 0 0,ab,aa,aa,(by simp),a7,(du _ _ _ _),bv,aa,aa,aa,aa,aa,aa⟩ ?_
 rintro aA E Z ⟨i,j,a,ob,A,Y,hi,hd,aO,bU,O,C,q,bz,bA,bB,bC,bD,rfl⟩
 refine fx 0 bz<|fx 3 bA<|fx 4 bB<|fx 5 bC<|fx 6 bD ?_
 have bV:j.length≤s.length+1:=by have h1:=congrArg jy hd; have h2:=nT s; rw [bI] at h1; omega
 have b0:=O.size
 refine sq fun _ a0=>aj fun _ a1=>ak (.int .i64 i)<|ak (str<|kV s)<|p (cg u9 aa aa)<|p (lt aa aa)<|nl<|tn<|a1 _ _<|cd aa (fun bl=> ?_) fun bl=> ?_
 refine aM<|tn<|a0 _ _<|sq fun _ I=>aJ<|sq fun _ ac=>aj fun _ G=>ak (str<|kV s)<|ak (.int .i64 i)<|p (eK u9 aa aa ab)<|p (cX aa aa)<|aE<|G _ _<|cd aa (fun ao=> ?_) fun ao=> ?_
 refine aj fun _ ae=>ak (Y)<|ak (str<|kV s)<|ak (.int .i64 i)<|p (eK u9 aa aa ab)<|e<|fR hZ aa aa fun bL bH bP U a3=> ?_
 have aD:Wk w bH:=Md.trans O U.md
 refine e<|ap hZ (aU q U.md) aa (by have :=aD.size; omega) aa (aI.dS a3) (aa) (aa) ab ab fun bE b7 bm aL b2 bW=> ?_
 have a8:=Wk.own aD (aU q U.md) aL<|cj _
 have bp:=qP bm
 have bu:=db (aU C U.md) aL fun k hk=>mG C q az hk
 exact aw<|ae _ _<|aj fun _ ag=>aw<|ag _ _<|ext<|te _<|be<|tn<|I _ _<|rg aa<|ak (.int .i64 i)<|p (ad aa aa<|bT ab)<|p aB<|aE<|⟨_,ab,i+1,j,a++ [(kV s).getD i 0],true,A,bE,ab,(by rw [drop_cons 0 ab,CL (Wo ao)] at hd; exact hd),(by simp),(by rw [bI,eW]; omega),a8,bu,bp,aa,aa,aa,aa,aa,aa⟩
 have bk:=U6<|Eb ao
 obtain ⟨J,M,rfl⟩:=cw q
 refine aM<|tn<|ac _ _<|aj fun _ ae=>ak (A)<|ak (.slice J a.length M)<|e<|cl FY (Hs a J M _ (aX q).2 ab (aX q).1) aa fun v30 b8 bg=> ?_
 obtain ⟨rfl,ai⟩:=bg
 refine e<|fR fH aa aa fun bM bJ bQ am a4=> ?_
 have aF:Wk w bJ:=Md.trans (Md.trans O ai) am.md
 refine e<|ap fH (aU (aU C ai) am.md) aa (by have :=aF.size; omega) aa (aI.dS a4) (aa) (aa) ab ab fun bF b9 bq bc b3 bX=> ?_
 have aG:=Wk.own aF (aU (aU C ai) am.md) bc<|cj _
 have br:=mH bq
 refine aw<|ae _ _<|aj fun _ ag=>e<|m5 hZ fun ax aQ bR aN a5=> ?_
 have a9:Wk w aQ:=Md.trans aG aN.md
 have bw:bo aQ w.heap.size 5 1 (.slice (some ⟨ax,0,none⟩) 0 0) (([]:List UInt8)).length (U8<|([]:List UInt8)):=a5 _<|by have :=aG.size; omega
 exact aw<|ag _ _<|rg aa<|p aB<|nl<|bn<|tn<|I _ _<|rg aa<|ak (.int .i64 i)<|p (ad aa aa<|bT ab)<|aw<|⟨_,ab,i+1,j++ [jK a],[],false,bF,.slice (some ⟨ax,0,none⟩) 0 0,ab,(by rw [drop_cons 0 ab,bk,JF] at hd; rw [dC]; exact hd),aa,(by simp),a9,(aU br aN.md),bw,aa,aa,aa,aa,aa,aa⟩
 refine ext<|te _<|te _<|be<|tn<|aY _ _<|sq fun _ I=>aj fun _ ac=>ak (.bool ob)<|aE<|ac _ _<|cb aa (fun aq=> ?_) fun aq=> ?_
 have au:a≠[]:=by have :=aO.symm.trans aq; exact of_decide_eq_true this
 obtain ⟨J,M,rfl⟩:=cw q
 refine rg aa<|ak (A)<|ak (.slice J a.length M)<|e<|cl FY (Hs a J M _ (aX q).2 ab (aX q).1) aa fun v37 ca bi=> ?_
 obtain ⟨rfl,al⟩:=bi
 refine e<|fR fH aa aa fun bN bK bS an a6=> ?_
 have aH:Wk w bK:=Md.trans (Md.trans O al) an.md
 refine e<|ap fH (aU (aU C al) an.md) aa (by have :=aH.size; omega) aa (aI.dS a6) (aa) (aa) ab ab fun b5 cc bs bd b4 bY=> ?_
 have bb:=Wk.own aH (aU (aU C al) an.md) bd<|cj _
 have bt:=mH bs
 refine aw<|I _ _<|aj fun _ G=>p mv<|p aB<|nl<|tn<|G _ _<|rt<|f1 aa aa ?_
 have ar:j++ [jK a]=bG s:=by rw [← hd,show List.drop i (kV s)= [] from gP ab,JE au]
 exact ⟨by rw [← ar]; exact bt,bb⟩
 have au:a= []:=Eb<|of_decide_eq_false<|aO.symm.trans aq
 refine aM<|tn<|I _ _<|aj fun _ G=>ak (A)<|p (cH (A) aa)<|aE<|G _ _<|rt<|f1 aa aa ?_
 have ar:j=bG s:=by rw [← hd,show List.drop i (kV s)= [] from gP ab,au,CM,ed]
 exact ⟨by rw [← ar]; exact C,O⟩
set_option maxHeartbeats 1000000 in
theorem KY (s:List UInt8) (w:World) (hs:s.length≤1048576):
 bh ay 112 (ba [str s]) w (fun v w'=>(∃ a,v= .tuple #[a,.int .i64 (if 65536 < s.length then 10 else 0)]∧(if 65536 < s.length then a= .slice none 0 0 else ∃ vs,bo w' w.heap.size 237 2 a (bN s).length (kF vs)∧gT w' w.heap.size 9 vs (bN s)))∧Wk w w'):=by
 refine enter func112 aa ntmps112 aa<|aj fun _ a9=>p aB<|aw<|a9 _ _<|sq fun _ bg=>sq fun _ bi=>rg aa<|ak (str s)<|p (cg u9 aa aa)<|p (gt aa aa)<|aE<|bi _ _<|cd aa (fun bA=> ?_) fun bA=> ?_
 refine aj fun _ aL=>p aB<|aw<|aL _ _<|rt<|tr<|f2 aa aa aa ?_
 have aq:65536 < s.length:=ab
 exact ⟨⟨.slice none 0 0,by show gx #[.slice none 0 0,.int .i64 10]=_; rw [if_pos aq],by rw [if_pos aq]⟩,Md.refl _ _⟩
 refine aM<|tn<|bg _ _<|aj fun _ aL=>aw<|aL _ _<|sq fun _ bk=>rg aa<|ak (str s)<|e<|cl Az (Dl s _ hs) aa fun ci ah bv=> ?_
 obtain ⟨a6,aQ⟩:=bv
 obtain ⟨ax,aC,rfl⟩:=cw a6
 have a4:=(aX a6).2
 have cb:=nT s
 refine aw<|bk _ _<|sq fun _ bl=>aj fun _ bp=>p aB<|nl<|tn<|bp _ _<|aJ<|lp (fun al aK aH=> ∃ (i:Nat) (M:Value) (vs:List (Nat×Value)),(i≤(bG s).length)∧(Wk ah aH)∧(bo aH ah.heap.size 237 2 M (lk 1<|(bG s).take i).length<|kF vs)∧(gT aH ah.heap.size 9 vs<|lk 1<|(bG s).take i)∧(aK 4=M)∧(aK 5= .slice ax (bG s).length aC)∧(aK 6= .int .i64 i)∧((bG s).length - i=al)) _ ⟨0,.slice none 0 0,[],ab,(Md.refl _ _),(du _ _ _ _),(gT.nil _ _ _),aa,aa,aa,aa⟩ ?_
 rintro al aK aH ⟨i,M,vs,hi,an,J,ag,bQ,bS,bU,rfl⟩
 refine fx 4 bQ<|fx 5 bS<|fx 6 bU ?_
 have bO:=Dn ((bG s).take i) 1
 rw [dO] at bO
 have cc:=an.size
 refine sq fun _ bq=>sq fun _ br=> ?_
 have ca:((bG s).getD i []).length≤s.length:=by rcases e8 i (bG s).length with h | h <;> first | exact CJ (IG h) | (rw [cQ,List.getElem?_eq_none h]; exact jD _)
 refine rg aa<|ak (.int .i64 i)<|ak (.slice ax (bG s).length aC)<|p (bF eQ aa aa)<|p (lt aa aa)<|aE<|br _ _<|cd aa (fun bB=> ?_) fun bB=> ?_
 refine aM<|tn<|bq _ _<|sq fun _ ac=>aJ<|aj fun _ bb=>p aB<|nl<|tn<|bb _ _<|aj fun _ bc=>ak (.slice ax (bG s).length aC)<|ak (.int .i64 i)<|p (a7 cE aa aa ab<|aI.ok (a4.wk an)<|bP ab)<|p (ld bR aa<|bX.get (i:=i) (a4.wk an) ab)<|e<|cl Pr (Xo ((bG s).getD i []) _ ab) aa fun ck aG bx=> ?_
 obtain ⟨a8,E⟩:=bx
 obtain ⟨av,aA,rfl⟩:=cw a8
 have aD:=(aX a8).2
 have ae:Wk ah aG:=Md.trans an E
 have b8:=uY ((bG s).getD i []) []
 refine aw<|bc _ _<|sq fun _ a1=>aj fun _ bd=>p aB<|nl<|tn<|bd _ _<|aJ<|lp (fun al Z a0=> ∃ (j:Nat) (aF:Value),(j≤(cD []<|(bG s).getD i []).length)∧(∀ q,q < j→vK ((cD []<|(bG s).getD i []).getD q [])=false)∧(Wk aG a0)∧(bo a0 aG.heap.size 9 1 (aF) ((cD []<|(bG s).getD i []).take j).length<|((cD []<|(bG s).getD i []).take j).map str)∧(Z 4=M)∧(Z 5= .slice ax (bG s).length aC)∧(Z 6= .int .i64 i)∧(Z 7=aF)∧(Z 8= .slice av (cD []<|(bG s).getD i []).length aA)∧(Z 9= .int .i64 j)∧((cD []<|(bG s).getD i []).length - j=al)) _ ⟨0,.slice none 0 0,ab,(fun q bM=>by omega),(Md.refl _ _),(du _ _ _ _),aa,aa,aa,aa,aa,aa,aa⟩ ?_
 rintro al Z a0 ⟨j,aF,a5,aW,A,U,bV,bW,bY,bZ,b0,b1,rfl⟩
 refine fx 4 bV<|fx 5 bW<|fx 6 bY<|fx 7 bZ<|fx 8 b0<|fx 9 b1 ?_
 have b9:((cD []<|(bG s).getD i []).take j).length≤j:=by rw [dO]; omega
 have ce:=A.size
 refine sq fun _ bf=>aj fun _ a2=>ak (.int .i64 j)<|ak (.slice av (cD []<|(bG s).getD i []).length aA)<|p (bF eQ aa aa)<|p (lt aa aa)<|p mv<|gs (t:=30) aa (fun bH=> ?_) fun bH=> ?_
 refine pg aa aa aa (aT (.slice av (cD []<|(bG s).getD i []).length aA) aa)<|pg aa aa aa (aT (.int .i64 j) aa)<|pg aa aa aa (a7 cE aa aa ab<|aI.ok (aD.wk A)<|bP ab)<|pg aa aa aa (ld bR aa<|bX.get (i:=j) (aD.wk A) ab)<|pg aa aa aa (ja 0 u9 aa aa<|lx.2 (BS _ _ _<|IG ab).1)<|pg aa aa aa (cX aa aa)<|p (bw aa)<|nl<|tn<|a2 _ _<|cd aa (fun bC=> ?_) fun bC=> ?_
 refine aM<|tn<|bf _ _<|sq fun _ ai=>aJ<|rg aa<|ak (aF)<|ak (.slice av (cD []<|(bG s).getD i []).length aA)<|ak (.int .i64 j)<|p (a7 cE aa aa ab<|aI.ok (aD.wk A)<|bP ab)<|p (ld bR aa<|bX.get (i:=j) (aD.wk A) ab)<|e<|fR fH aa aa fun b5 b3 b6 aS bs=> ?_
 have a3:Wk aG b3:=Md.trans A aS.md
 refine e<|ap fH (aU U aS.md) aa (by have :=a3.size; omega) aa (aI.dS bs) (aa) (aa) ab ab fun v46 cm bJ bu ch b7=> ?_
 have bt:=Wk.own a3 (aU U aS.md) bu<|cj _
 have bK:=mH bJ
 exact p aB<|nl<|bn<|tn<|ai _ _<|rg aa<|ak (.int .i64 j)<|p (ad aa aa<|bT ab)<|p aB<|aE<|⟨_,ab,j+1,v46,ab,(fun q bM=>by rcases e8 q j with h | h <;> first | exact aW q h | (rw [show q=j by omega]; exact decide_eq_false ab)),bt,(by rw [fD _ j [] ab]; exact bK),aa,aa,aa,aa,aa,aa,aa⟩
 have ao:nS (cD []<|(bG s).getD i [])=((cD []<|(bG s).getD i []).take j):=yH a5 aW<|.inr<|decide_eq_true ab
 obtain ⟨G,I,rfl⟩:=cw U
 refine ext<|te _<|te _<|be<|tn<|a1 _ _<|aj fun _ ai=>p (aT (.slice G ((cD []<|(bG s).getD i []).take j).length I) aa)<|p (bF eQ aa aa)<|p (gt aa aa)<|aE<|ai _ _<|cd aa (fun Y=> ?_) fun Y=> ?_
 have O:lf ((bG s).getD i []) (1 +i)= [(i+1,((cD []<|(bG s).getD i []).take j))]:=by unfold lf; rw [ao,if_neg (fun h=>by rw [h] at Y; simp at Y),NU]
 refine rg aa<|ak (M)<|ak (.int .i64 i)<|p (bE ((i+1:Nat):Int) aa aa<|bj ab ab)<|p (aT (.slice G ((cD []<|(bG s).getD i []).take j).length I) aa)<|p (cO (ps:= [(0,au (i+1)),(1,.slice G ((cD []<|(bG s).getD i []).take j).length I)]) (L:= [au (i+1),.slice G ((cD []<|(bG s).getD i []).take j).length I]) LB aa<|aa)<|e<|kq y6 aa aa aa fun aN ar bz C aO=> ?_
 have aP:bL ar.heap aN [au (i+1),.slice G ((cD []<|(bG s).getD i []).take j).length I]:=aO
 have am:Wk ah ar:=Md.trans ae<|Md.trans A C.md
 refine e<|ap y6 (aU (aU (aU J E) A) C.md) aa (by have :=am.size; omega) aa (aI.dS aP) (aa) (aa) ab ab fun aZ b4 aV V b2 bD=> ?_
 have aR:=Wk.own am (aU (aU (aU J E) A) C.md) V<|cj _
 have aY:=((((ag.wk E).wk A).wk C.md).md V<|hU (aU (aU (aU J E) A) C.md) az).snoc (n:=i+1)<|Tg.jN<|ep (db (aU U C.md) V fun k hk=>mG (aU U C.md) (aU (aU (aU J E) A) C.md) az hk)<|by have :=Md.size ae; omega
 exact p aB<|nl<|bn<|tn<|ac _ _<|rg aa<|ak (.int .i64 i)<|p (ad aa aa<|bT ab)<|p aB<|aE<|⟨_,ab,i+1,aZ,vs++ [(i+1,.slice G ((cD []<|(bG s).getD i []).take j).length I)],ab,aR,(by rw [fD _ i [] ab,nk,show ((bG s).take i).length=i from by rw [dO]; omega,O,bI,Du]; exact aV),(by rw [fD _ i [] ab,nk,show ((bG s).take i).length=i from by rw [dO]; omega,O]; exact aY),aa,aa,aa,aa⟩
 have O:∀ n,lf ((bG s).getD i []) n= []:=fun n=>by unfold lf; rw [ao,if_pos (wW.1 ab)]
 exact aM<|bn<|tn<|ac _ _<|rg aa<|ak (.int .i64 i)<|p (ad aa aa<|bT ab)<|p aB<|nl<|tn<|⟨_,ab,i+1,M,vs,ab,(Md.trans ae A),(by rw [fD _ i [] ab,nk,O,ed]; exact aU (aU J E) A),(by rw [fD _ i [] ab,nk,O,ed]; exact (ag.wk E).wk A),aa,aa,aa,aa⟩
 have ao:nS (cD []<|(bG s).getD i [])=((cD []<|(bG s).getD i []).take j):=yH a5 aW<|.inl ab
 obtain ⟨G,I,rfl⟩:=cw U
 refine sk aa aa aa aa<|sk aa aa aa aa<|sk aa aa aa aa<|sk aa aa aa aa<|sk aa aa aa aa<|sk aa aa aa aa<|p (bm aa)<|nl<|tn<|a2 _ _<|cf aa<|ext<|te _<|te _<|be<|tn<|a1 _ _<|sq fun _ ai=>rg aa<|p (aT (.slice G ((cD []<|(bG s).getD i []).take j).length I) aa)<|p (bF eQ aa aa)<|p (gt aa aa)<|aE<|ai _ _<|cd aa (fun Y=> ?_) fun Y=> ?_
 have O:lf ((bG s).getD i []) (1 +i)= [(i+1,((cD []<|(bG s).getD i []).take j))]:=by unfold lf; rw [ao,if_neg (fun h=>by rw [h] at Y; simp at Y),NU]
 refine rg aa<|ak (M)<|ak (.int .i64 i)<|p (bE ((i+1:Nat):Int) aa aa<|bj ab ab)<|p (aT (.slice G ((cD []<|(bG s).getD i []).take j).length I) aa)<|p (cO (ps:= [(0,au (i+1)),(1,.slice G ((cD []<|(bG s).getD i []).take j).length I)]) (L:= [au (i+1),.slice G ((cD []<|(bG s).getD i []).take j).length I]) LB aa<|aa)<|e<|kq y6 aa aa aa fun aN ar bz C aO=> ?_
 have aP:bL ar.heap aN [au (i+1),.slice G ((cD []<|(bG s).getD i []).take j).length I]:=aO
 have am:Wk ah ar:=Md.trans ae<|Md.trans A C.md
 refine e<|ap y6 (aU (aU (aU J E) A) C.md) aa (by have :=am.size; omega) aa (aI.dS aP) (aa) (aa) ab ab fun aZ b4 aV V b2 bD=> ?_
 have aR:=Wk.own am (aU (aU (aU J E) A) C.md) V<|cj _
 have aY:=((((ag.wk E).wk A).wk C.md).md V<|hU (aU (aU (aU J E) A) C.md) az).snoc (n:=i+1)<|Tg.jN<|ep (db (aU U C.md) V fun k hk=>mG (aU U C.md) (aU (aU (aU J E) A) C.md) az hk)<|by have :=Md.size ae; omega
 exact p aB<|nl<|bn<|tn<|ac _ _<|rg aa<|ak (.int .i64 i)<|p (ad aa aa<|bT ab)<|p aB<|aE<|⟨_,ab,i+1,aZ,vs++ [(i+1,.slice G ((cD []<|(bG s).getD i []).take j).length I)],ab,aR,(by rw [fD _ i [] ab,nk,show ((bG s).take i).length=i from by rw [dO]; omega,O,bI,Du]; exact aV),(by rw [fD _ i [] ab,nk,show ((bG s).take i).length=i from by rw [dO]; omega,O]; exact aY),aa,aa,aa,aa⟩
 have O:∀ n,lf ((bG s).getD i []) n= []:=fun n=>by unfold lf; rw [ao,if_pos (wW.1 ab)]
 exact aM<|bn<|tn<|ac _ _<|rg aa<|ak (.int .i64 i)<|p (ad aa aa<|bT ab)<|p aB<|nl<|tn<|⟨_,ab,i+1,M,vs,ab,(Md.trans ae A),(by rw [fD _ i [] ab,nk,O,ed]; exact aU (aU J E) A),(by rw [fD _ i [] ab,nk,O,ed]; exact (ag.wk E).wk A),aa,aa,aa,aa⟩
 refine ext<|te _<|te _<|be<|tn<|bl _ _<|aj fun _ ac=>ak (M)<|p (cH (M) aa)<|aw<|ac _ _<|rt<|f2 aa aa aa ?_
 have aq:¬65536 < s.length:=ab
 rw [show (bG s).take i=bG s from eI ab] at J ag
 exact ⟨⟨M,by show gx #[M,.int .i64 0]=_; rw [if_neg aq],by rw [if_neg aq]; exact ⟨vs,ep J aQ.size,ag.mono aQ.size⟩⟩,Md.trans aQ an⟩
end Go.Hb.rr
end
section
set_option maxRecDepth 20000
set_option maxHeartbeats 1000000
namespace Go.Hb.sI
open Go.Hb.dT
open Go.Proofs
open Go.Hb.jP Go.Hb.fq Go.Hb.fQ Go.Hb.mi Go.Hb.gn Go.Hb.lQ Go.Hb.nA Go.Hb.jF Go.Hb.sJ Go.Hb.kn Go.Hb.xn Go.Hb.uz Go.Hb.rr Go.Hb.j5 Go.Hb.ji
theorem vR {s:Tx} {k:Tx} {i:Nat} (h:s=k) (h1:k∈dZ) (h2:dZ.idxOf k=i):pS s=(i:Nat):=by subst h; unfold pS; rw [if_pos h1,h2]
theorem Yj {s:Tx} (h:s∉dZ):pS s= -1:=if_neg h
def tF:List Tx:= [gZ,iy,iP,kb,e5,eE]
theorem Mn {s:Tx} (h:s∈dZ):width s=2:=if_pos<|.inl h
theorem Zs {s:Tx} (h:s∈tF):width s=2:=by
 unfold width
 rw [if_pos]
 simpa [tF] using Or.inr (gl.1 h)
theorem Mo {s:Tx} (h:s=fz∨s=di):width s=4:=by
 unfold width
 rw [if_neg,if_pos h]
 rcases h with rfl | rfl <;> decide
theorem Zt {s:Tx} (h:s∉dZ) (h1:s∉tF) (h2:s≠fz) (h3:s≠di):width s=0:=by
 unfold width
 rw [if_neg,if_neg (by simp [h2,h3])]
 intro h4
 rcases h4 with h4 | h4
 · exact h h4
 · exact h1<|by simpa [tF] using h4
theorem IJ {F:aR} {V:eh} {i:Nat} (hi:i < 5):(nQ F V).toArray[0 +3 +((i:Nat):Int).toNat*1]? =some (bM<|F.sp.getD i 0):=by
 match i,hi with
 | 0,_=>rfl
 | 1,_=>rfl
 | 2,_=>rfl
 | 3,_=>rfl
 | 4,_=>rfl
theorem JO {x:Nat} {l:List Nat} (h:∀ j,j < l.length→l.getD j 0≠x):x∉l:=fun hm=>by
 obtain ⟨j,a,e⟩:=nU 0 hm
 exact h j a e
theorem Tf {x:Nat} :∀ {cs:List c7} {i:Nat} {c:c7},(∀ j,j < i→(cs.getD j nJ).flag≠x)→cs[i]? =some c→c.flag=x→dU cs x=some c:=by
 intro cs
 induction cs with
 | nil=>intro i c _ h; simp at h
 | cons a l E=>
   intro i c A hi C
   unfold dU
   rw [List.find?_cons]
   cases i with
   | zero=>simp only [uj,fL] at hi; subst hi; simp [C]
   | succ i=>
     have q:=A 0 ab
     simp only [lP] at q
     rw [decide_eq_false q]
     exact E (i:=i) (fun j G=>by have :=A (j+1) ab; simpa using this) (by simpa using hi) C
theorem Ti {x:Nat} {cs:List c7} (h:∀ j,j < cs.length→(cs.getD j nJ).flag≠x):dU cs x=none:=by
 unfold dU
 rw [List.find?_eq_none]
 intro c a
 obtain ⟨j,i,e⟩:=nU nJ a
 have :=h j i
 rw [e] at this
 simpa using this
theorem TR (l:List c7):(qF l).length=l.length*5:=oH (f:=ng) (m:=5) (fun _=>rfl) _
theorem yy {l:List c7} (h:0 < l.length):qF l≠[]:=fun h2=>by have :=congrArg jy h2; rw [TR] at this; simp at this; omega
theorem uN {l:List c7} {i:Nat} (h:i < l.length):l[i]? =some (l.getD i nJ):=by rw [cQ,cz h]; rfl
theorem Hh {F:aR} {x:Nat} (h:x∈F.sp):eB F x=true :=by unfold eB; rw [decide_eq_true h]; rfl
theorem Hi {F:aR} {x:Nat} (h:x∉F.sp):eB F x=(dU F.bp x).isSome:=by unfold eB; rw [decide_eq_false h]; rfl
theorem yV {s:Tx} (h:s∈dZ∨s=eE∨s=fz∨s=di):s∈lj:=by
 rcases h with h | rfl | rfl | rfl
 · have :∀ k∈dZ,k∈lj:=az
   exact this s h
 all_goals decide
theorem WB {s:Tx} (h:s∉dZ) (h1:s≠eE) (h2:s≠fz) (h3:s≠di):s∉lj:=by
 intro h4
 have :∀ k∈lj,k∈dZ∨k=eE∨k=fz∨k=di:=az
 rcases this s h4 with h5 | h5 | h5 | h5
 · exact h h5
 · exact h1 h5
 · exact h2 h5
 · exact h3 h5
theorem yW {seen:List Tx} (h:∀ j,j < seen.length→seen.getD j []∉lj):ordered seen=true :=by
 rw [C4]
 intro k hk i
 obtain ⟨j,a,e⟩:=nU [] i
 exact h j a<|e ▸ hk
theorem Cr (s:Tx) (w:World):
 bh ay 173 (ba [str s]) w (fun v w'=>v= .int .i64 (pS s)∧w'=w):=by
 refine enter func173 aa ntmps173 aa<|aj fun _ O=>aw<|O _ _<|sq fun _ U=>aj fun _ V=>ak (str s)<|aE<|V _ _<|aJ<|aj fun _ Y=>p (dR aa aa)<|p aB<|aE<|Y _ _<|cd aa (fun I=> ?_) fun I=> ?_
 exact aj fun _ a=>aw<|a _ _<|rt<|br<|tr<|f1 aa aa<|⟨by rw [vR (k:=ke) (i:=0) I az az]; rfl,aa⟩
 refine aj fun _ a=>p (dR aa aa)<|aw<|a _ _<|cd aa (fun J=> ?_) fun J=> ?_
 exact aj fun _ j=>aw<|j _ _<|rt<|br<|tr<|f1 aa aa<|⟨by rw [vR (k:=kA) (i:=1) J az az]; rfl,aa⟩
 refine aj fun _ j=>p (dR aa aa)<|aw<|j _ _<|cd aa (fun M=> ?_) fun M=> ?_
 exact aj fun _ q=>aw<|q _ _<|rt<|br<|tr<|f1 aa aa<|⟨by rw [vR (k:=kQ) (i:=2) M az az]; rfl,aa⟩
 refine aj fun _ q=>p (dR aa aa)<|aw<|q _ _<|cd aa (fun E=> ?_) fun E=> ?_
 exact aj fun _ A=>aw<|A _ _<|rt<|br<|tr<|f1 aa aa<|⟨by rw [vR (k:=la) (i:=3) E az az]; rfl,aa⟩
 refine aj fun _ A=>p (dR aa aa)<|aw<|A _ _<|cd aa (fun G=> ?_) fun G=> ?_
 exact aj fun _ C=>aw<|C _ _<|rt<|br<|tr<|f1 aa aa<|⟨by rw [vR (k:=lL) (i:=4) G az az]; rfl,aa⟩
 exact aM<|bn<|tn<|U _ _<|aj fun _ C=>aw<|C _ _<|rt<|f1 aa aa<|⟨by rw [Yj (by unfold dZ; simp only [gl,ur,or_false,not_or]; exact ⟨I,J,M,E,G⟩)]; rfl,aa⟩
theorem Ui (s:Tx) (w:World):
 bh ay 114 (ba [str s]) w (fun v w'=>v=au (width s)∧Wk w w'):=by
 refine enter func114 aa ntmps114 aa<|aj fun _ ag=>aw<|ag _ _<|aj fun _ al=>ak (str s)<|e<|cl AI (Cr s w) aa fun v5 aA av=> ?_
 obtain ⟨rfl,az⟩:=av
 have j:Wk w aA:=by rw [az]; exact Md.refl _ _
 refine aw<|al _ _<|sq fun _ am=>aj fun _ an=>p mv<|p (ge aa aa)<|aE<|an _ _<|cd aa (fun J=> ?_) fun J=> ?_
 have A:=tG.1 J
 exact aj fun _ C=>aw<|C _ _<|rt<|tr<|f1 aa aa<|⟨by rw [Mn A]; rfl,j⟩
 have A:s∉dZ:=fun h=>J<|tG.2 h
 refine aM<|tn<|am _ _<|sq fun _ C=>aj fun _ ao=>ak (str s)<|aE<|ao _ _<|aJ ?_
 refine ec (fun M ab=> ∃ (b:Bool),(b=decide (s∈tF))∧(Wk w ab)∧(M 8=str s)∧(M 9= .bool b)) ?_ ?_
 refine aj fun _ i=>p (dR aa aa)<|aw<|i _ _<|cd aa (fun a=> ?_) fun a=> ?_
 exact aM<|tn<|⟨_,(by rw [a]; decide),j,aa,aa⟩
 refine aj fun _ ap=>p (dR aa aa)<|aw<|ap _ _<|cd aa (fun a=> ?_) fun a=> ?_
 exact aM<|tn<|⟨_,(by rw [a]; decide),j,aa,aa⟩
 refine aj fun _ aq=>p (dR aa aa)<|aw<|aq _ _<|cd aa (fun a=> ?_) fun a=> ?_
 exact aM<|tn<|⟨_,(by rw [a]; decide),j,aa,aa⟩
 refine aj fun _ ah=>p (dR aa aa)<|aw<|ah _ _<|cd aa (fun a=> ?_) fun a=> ?_
 exact aM<|tn<|⟨_,(by rw [a]; decide),j,aa,aa⟩
 refine aj fun _ ai=>p (dR aa aa)<|aw<|ai _ _<|cd aa (fun a=> ?_) fun a=> ?_
 exact aM<|tn<|⟨_,(by rw [a]; decide),j,aa,aa⟩
 exact rg aa<|p (dR aa aa)<|aw<|⟨_,(by clear A; unfold tF; simp_all [gZ,iy,iP,kb,e5,eE]),j,aa,aa⟩
 rintro M ab ⟨b,I,G,Y,Z⟩
 refine fx 8 Y<|fx 9 Z<|cb aa (fun a=> ?_) fun a=> ?_
 exact aj fun _ i=>aw<|i _ _<|rt<|br<|tr<|f1 aa aa<|⟨by rw [Zs (of_decide_eq_true<|I.symm.trans a)]; rfl,G⟩
 refine ec (fun ae ac=> ∃ (E:Bool),(E=decide (s=fz∨s=di))∧(Wk w ac)∧(ae 16= .bool E)) ?_ ?_
 refine aj fun _ i=>p (dR aa aa)<|aw<|i _ _<|cd aa (fun q=> ?_) fun q=> ?_
 exact aM<|tn<|⟨_,(by rw [q]; decide),G,aa⟩
 exact rg aa<|p (dR aa aa)<|aw<|⟨_,(by clear I Y Z; simp [fz,di,q]),G,aa⟩
 rintro ae ac ⟨E,V,U,ax⟩
 refine fx 16 ax<|cb aa (fun q=> ?_) fun q=> ?_
 exact aj fun _ i=>aw<|i _ _<|rt<|br<|tr<|f1 aa aa<|⟨by rw [Mo (of_decide_eq_true<|V.symm.trans q)]; rfl,U⟩
 refine aM<|bn<|tn<|C _ _<|aj fun _ i=>aw<|i _ _<|rt<|f1 aa aa ?_
 have ar:=of_decide_eq_false<|I.symm.trans a
 have O:=of_decide_eq_false<|V.symm.trans q
 exact ⟨by rw [Zt A ar (fun h=>O<|.inl h) (fun h=>O<|.inr h)]; rfl,U⟩
theorem Cs (B:Nat) (H:fY) (k ln:Nat) (seen:List Tx) (vh:Value) (key:Tx) (w:World) (a:gS w B H k ln seen vh) (ao:seen.length≤70000):
 bh ay 115 (ba [aQ H.rb,str key]) w (fun v w'=>v= .bool (decide (key∈seen))∧w'=w):=by
 obtain ⟨am,an,rfl⟩:=cw a.hd
 refine enter func115 aa ntmps115 aa<|aj fun _ M=>aw<|M _ _<|sq fun _ O=>aj fun _ U=>aw<|U _ _<|aJ<|lp (fun E q J=> ∃ (i:Nat),(i≤seen.length)∧(∀ j,j < i→seen.getD j []≠key)∧(J=w)∧(q 0=aQ H.rb)∧(q 1=str key)∧(q 5=au i)∧(seen.length - i=E)) _ ⟨0,ab,(fun j G=>by omega),aa,aa,aa,aa,aa⟩ ?_
 rintro E q J ⟨i,hi,I,ae,ah,ai,al,rfl⟩
 refine fx 0 ah<|fx 1 ai<|fx 5 al ?_
 subst ae
 refine sq fun _ V=>aj fun _ Y=>ak (au i)<|ak (aQ H.rb)<|p (nc aa)<|p (fa pK aa)<|p (ld jR aa<|(a6 a.cells).trans aa)<|p (bF eQ aa aa)<|p (lt aa aa)<|aE<|Y _ _<|cd aa (fun ag=> ?_) fun ag=> ?_
 refine aM<|tn<|V _ _<|sq fun _ A=>aJ<|aj fun _ Z=>ak (aQ H.rb)<|p (nc aa)<|p (fa pK aa)<|p (ld jR aa<|(a6 a.cells).trans aa)<|ak (au i)<|p (a7 cE aa aa ab<|aI.ok ((aX a.hd).2)<|bP ab)<|p (ld bR aa<|bX.get (i:=i) (aX a.hd).2 ab)<|ak (str key)<|p (dR aa aa)<|nl<|tn<|Z _ _<|cd aa (fun C=> ?_) fun C=> ?_
 exact aj fun _ ac=>aw<|ac _ _<|rt<|br<|tr<|tr<|br<|tr<|f1 aa aa<|⟨by rw [decide_eq_true (show key∈seen from C ▸ dQ ab)]; rfl,aa⟩
 exact aM<|bn<|tn<|A _ _<|rg aa<|ak (au i)<|p (ad aa aa<|bT ab)<|p aB<|nl<|tn<|⟨_,ab,i+1,ab,(fun j G=>by rcases e8 j i with h | h <;> first | exact I j h | (rw [show j=i by omega]; exact C)),aa,aa,aa,aa,aa⟩
 exact ext<|te _<|te _<|be<|tn<|O _ _<|aj fun _ A=>p aB<|aE<|A _ _<|rt<|f1 aa aa<|⟨by rw [decide_eq_false (show ¬key∈seen from fun h=>by obtain ⟨j,G,e⟩:=nU [] h; exact I j ab e)]; rfl,aa⟩
theorem Cj (B B0 fb:Nat) (F:aR) (V:eh) (x:Nat) (w:World) (U:eA w B B0 fb F V) (aP:F.bp.length≤70000):
 bh ay 117 (ba [aQ fb,bM x]) w (fun v w'=>v= .tuple #[.agg (ng<|(dU F.bp x).getD nJ).toArray,.bool (dU F.bp x).isSome]∧Wk w w'):=by
 obtain ⟨aq,kr,Z⟩:=cw U.ej
 refine enter func117 aa ntmps117 aa<|aj fun _ ag=>e<|al sc fun ar ac aN E M=> ?_
 have O:=U.wk E.md
 have G:Hb.aO ac.heap fb 11=some (.slice aq F.bp.length kr):=by rw [← Z]; exact (a6 O.cells).trans rfl
 have a:=O.ej
 rw [Z] at a
 refine aw<|ag _ _<|sq fun _ ah=>aj fun _ ai=>p aB<|nl<|tn<|ai _ _<|aJ<|lp (fun J q ae=> ∃ (i:Nat),(i≤F.bp.length)∧(∀ j,j < i→(F.bp.getD j nJ).flag≠x)∧(ae=ac)∧(q 0=aQ fb)∧(q 1=bM x)∧(q 4=aQ ar)∧(q 6=au i)∧(F.bp.length - i=J)) _ ⟨0,ab,(fun j A=>by omega),aa,aa,aa,aa,aa,aa⟩ ?_
 rintro J q ae ⟨i,hi,I,aA,aG,aH,aK,aL,rfl⟩
 refine fx 0 aG<|fx 1 aH<|fx 4 aK<|fx 6 aL ?_
 subst aA
 refine sq fun _ am=>aj fun _ an=>ak (au i)<|ak (aQ fb)<|p (nc aa)<|p (fa pJ aa)<|p (ld qi aa<|G)<|p (bF DN aa aa)<|p (lt aa aa)<|aE<|an _ _<|cd aa (fun aF=> ?_) fun aF=> ?_
 refine aM<|tn<|am _ _<|sq fun _ C=>aJ<|aj fun _ ao=>ak (aQ fb)<|p (nc aa)<|p (fa pJ aa)<|p (ld qi aa<|G)<|ak (au i)<|p (a7 xX aa aa ab<|aI.ok ((aX a).2)<|yy ab)<|p (fa B8 aa)<|p (ld bA aa<|e9 (f:=ng) (m:=5) (fun _=>rfl) (aX a).2 (uN (by omega :i < F.bp.length)) 0 az)<|ak (bM x)<|p (bH aa aa)<|aE<|ao _ _<|cd aa (fun Y=> ?_) fun Y=> ?_
 exact aj fun _ ap=>ak (aQ fb)<|p (nc aa)<|p (fa pJ aa)<|p (ld qi aa<|G)<|ak (au i)<|p (a7 xX aa aa ab<|aI.ok ((aX a).2)<|yy ab)<|p (cT sN aa (aa)<|e9 (f:=ng) (m:=5) (fun _=>rfl) (aX a).2<|uN (by omega :i < F.bp.length))<|e<|cW qu aa aa aa aa (M) (by simp) fun aS aC av=>aw<|ap _ _<|rt<|br<|tr<|tr<|br<|tr<|eo aa (dK (cs:=ng<|F.bp.getD i nJ) aa sN aa fun j A=>av.bB j) ea<|⟨by rw [Tf I (uN ab) ab]; rfl,E.md.trans' aC fun k hk h=>by omega⟩
 exact aM<|bn<|tn<|C _ _<|rg aa<|ak (au i)<|p (ad aa aa<|bT ab)<|p aB<|nl<|tn<|⟨_,ab,i+1,ab,(fun j A=>by rcases e8 j i with h | h <;> first | exact I j h | (rw [show j=i by omega]; exact fun h2=>Y<|by rw [h2])),aa,aa,aa,aa,aa,aa⟩
 exact ext<|te _<|te _<|be<|tn<|ah _ _<|aj fun _ C=>p (cO (ps:= []) (L:= [.int .i64 0,.int .i64 0,.bool false,.int .i64 0,.int .i64 0]) LC aa<|aa)<|e<|cW qu aa aa aa aa (M) (by simp) fun aT aD ax=>aw<|C _ _<|rt<|eo aa (dK (cs:=ng nJ) aa sN aa fun j A=>ax.bB j) ea<|⟨by rw [Ti (fun j A=>I j ab)]; rfl,E.md.trans' aD fun k hk h=>by omega⟩
theorem TS (B B0 fb:Nat) (F:aR) (V:eh) (x:Nat) (w:World) (C:eA w B B0 fb F V) (aq:F.bp.length≤70000):
 bh ay 233 (ba [aQ fb,bM x]) w (fun v w'=>v= .bool (eB F x)∧Wk w w'):=by
 have aD:=C.fI
 refine enter func233 aa ntmps233 aa<|aj fun _ U=>aw<|U _ _<|sq fun _ Y=>aj fun _ Z=>aw<|Z _ _<|aJ<|lp (fun G a E=> ∃ (i:Nat),(i≤5)∧(∀ j,j < i→F.sp.getD j 0≠x)∧(E=w)∧(a 0=aQ fb)∧(a 1=bM x)∧(a 5=au i)∧(5 - i=G)) _ ⟨0,ab,(fun j M=>by omega),aa,aa,aa,aa,aa⟩ ?_
 rintro G a E ⟨i,hi,O,ai,ar,av,ax,rfl⟩
 refine fx 0 ar<|fx 1 av<|fx 5 ax ?_
 subst ai
 refine sq fun _ ac=>aj fun _ ae=>ak (au i)<|p (lt aa aa)<|aE<|ae _ _<|cd aa (fun ap=> ?_) fun ap=> ?_
 refine aM<|tn<|ac _ _<|sq fun _ q=>aJ<|aj fun _ A=>ak (aQ fb)<|ak (au i)<|p (nc aa)<|p (fa tk aa)<|p (ka sR aa aa ab)<|p (ld bA aa<|(a6 C.cells).trans<|IJ (i:=i) ab)<|ak (bM x)<|p (bH aa aa)<|aE<|A _ _<|cd aa (fun J=> ?_) fun J=> ?_
 exact aj fun _ ag=>aw<|ag _ _<|rt<|br<|tr<|tr<|br<|tr<|f1 aa aa<|⟨by rw [Hh (show x∈F.sp from by obtain rfl :F.sp.getD i 0=x:=ab; exact dQ ab)]; rfl,Md.refl _ _⟩
 exact aM<|bn<|tn<|q _ _<|rg aa<|ak (au i)<|p (ad aa aa<|bT ab)<|p aB<|nl<|tn<|⟨_,ab,i+1,ab,(fun j M=>by rcases e8 j i with h | h <;> first | exact O j h | (rw [show j=i by omega]; exact fun h2=>J<|by rw [h2])),aa,aa,aa,aa,aa⟩
 refine ext<|te _<|te _<|be<|tn<|Y _ _<|aj fun _ q=>ak (aQ fb)<|ak (bM x)<|e<|cl AB (Cj B B0 fb F V x E C aq) aa fun aG aH ao=> ?_
 obtain ⟨rfl,I⟩:=ao
 have aF:=I.size
 exact p mv<|p (xt aa aa)<|p (xt aa aa)<|e<|al sc fun az aI aC an ah=>e<|cW qu aa aa aa aa (ah) (by simp) fun aK am aA=>aw<|q _ _<|aj fun _ A=>p mv<|aw<|A _ _<|rt<|f1 aa aa<|⟨by rw [Hi (JO fun j M=>O j ab)]; rfl,(I.trans an.md).trans' am fun k hk h=>by omega⟩
theorem Ck (s:Tx) (w:World) (hs:s.length≤1048576):
 bh ay 274 (ba [str s]) w (fun v w'=>v=au (gB s)∧Wk w w'):=by
 refine enter func274 aa ntmps274 aa<|aj fun _ I=>aw<|I _ _<|aj fun _ J=>ak (str s)<|e<|cl uM (vH s w hs) aa fun v5 ac U=> ?_
 obtain ⟨rfl,i⟩:=U
 refine aw<|J _ _<|sq fun _ M=>aj fun _ C=>ak (str s)<|p (cg u9 aa aa)<|p (bH aa aa)<|p mv<|gs (t:=9) aa (fun E=> ?_) fun E=> ?_
 have Z:=fO (show s.length=0 by omega)
 exact sk aa aa aa aa<|sk aa aa aa aa<|p (bw aa)<|aE<|C _ _<|ct aa<|aj fun _ a=>aw<|a _ _<|rt<|tr<|f1 aa aa<|⟨by rw [x5 (.inl Z)]; rfl,i⟩
 have G:s≠[]:=fun h=>E<|by rw [h]; rfl
 refine pg aa aa aa mv<|pg aa aa aa (no aa)<|p (bm aa)<|aE<|C _ _<|cb aa (fun j=> ?_) fun j=> ?_
 refine aj fun _ a=>aw<|a _ _<|rt<|tr<|f1 aa aa ?_
 have V:gq s=false :=by simpa using j
 exact ⟨by rw [x5 (.inr V)]; rfl,i⟩
 refine aM<|tn<|M _ _<|sq fun _ a=>aj fun _ O=>ak (str s)<|p (cg u9 aa aa)<|p (gt aa aa)<|aE<|O _ _<|cd aa (fun Y=> ?_) fun Y=> ?_
 refine aj fun _ q=>aw<|q _ _<|rt<|tr<|f1 aa aa ?_
 have A:gq s=true :=by simpa using j
 exact ⟨by rw [HR G A ab]; rfl,i⟩
 refine aM<|tn<|a _ _<|aj fun _ q=>aw<|q _ _<|rt<|f1 aa aa ?_
 have A:gq s=true :=by simpa using j
 exact ⟨by rw [HS G A ab]; rfl,i⟩
theorem Cp (s:Tx) (E:Bool) (w:World) (hs:s.length≤1048576):
 bh ay 259 (ba [str s,.bool E]) w (fun v w'=>(∃ (a:Tx) (e:Nat),v= .tuple #[str a,au e]∧((et E s= .ok a∧e=0)∨(et E s= .error e∧e≠0)))∧Wk w w'):=by
 have an:=r9 s
 refine enter func259 aa ntmps259 aa<|aj fun _ ai=>p aB<|aw<|ai _ _<|sq fun _ ag=>sq fun _ ah=>rg aa<|ak (.bool E)<|ak (.bool E)<|gb (t:=11) aa (fun I=> ?_) fun I=> ?_
 refine pg aa aa aa (aT (str s) aa)<|pg aa aa aa (dR aa aa)<|p (bw aa)<|aE<|ah _ _<|cd aa (fun Z=> ?_) fun Z=> ?_
 exact aj fun _ G=>p aB<|aw<|G _ _<|rt<|tr<|f2 aa aa aa<|⟨⟨[],0,aa,.inl ⟨by rw [I]; exact Kx Z,aa⟩⟩,Md.refl _ _⟩
 have j:et E s=et false s:=by rw [I]; exact Db Z
 refine aM<|tn<|ag _ _<|aj fun _ G=>ak (str s)<|e<|cl xC (y3 s w hs) aa fun al ae V=> ?_
 obtain ⟨rfl,C⟩:=V
 refine p mv<|p (xt aa aa)<|p (xt aa aa)<|p (xt aa aa)<|p (xt aa aa)<|p aB<|p aB<|p aB<|aw<|G _ _<|sq fun _ J=>aj fun _ M=>p mv<|p (cX aa aa)<|aE<|M _ _<|cd aa (fun ac=> ?_) fun ac=> ?_
 exact aj fun _ q=>p mv<|p aB<|aw<|q _ _<|rt<|tr<|f2 aa aa aa<|⟨⟨[],_,aa,.inr ⟨j.trans (C7 ab),ab⟩⟩,C⟩
 refine aM<|tn<|J _ _<|sq fun _ q=>aj fun _ O=>p mv<|aE<|O _ _<|cb aa (fun i=> ?_) fun i=> ?_
 exact aj fun _ A=>p aB<|aw<|A _ _<|rt<|tr<|f2 aa aa aa<|⟨⟨[],114,aa,.inr ⟨j.trans (C8 ab i),az⟩⟩,C⟩
 refine aM<|tn<|q _ _<|aj fun _ A=>p mv<|p mv<|e<|cl AZ (Ck (bu s).1 ae ab) aa fun v28 am Y=> ?_
 obtain ⟨rfl,U⟩:=Y
 refine p aB<|aw<|A _ _<|rt<|f2 aa aa aa ?_
 refine ⟨⟨(bu s).1,gB (bu s).1,aa,?_⟩,C.trans U⟩
 by_cases h:gB (bu s).1=0
 exact .inl ⟨j.trans (Da ab i h),h⟩
 exact .inr ⟨j.trans (C9 ab i h),h⟩
 have j:et E s=et false s:=by rw [I]
 refine sk aa aa aa aa<|sk aa aa aa aa<|p (bm aa)<|aE<|ah _ _<|cf aa<|aM<|tn<|ag _ _<|aj fun _ G=>ak (str s)<|e<|cl xC (y3 s w hs) aa fun al ae V=> ?_
 obtain ⟨rfl,C⟩:=V
 refine p mv<|p (xt aa aa)<|p (xt aa aa)<|p (xt aa aa)<|p (xt aa aa)<|p aB<|p aB<|p aB<|aw<|G _ _<|sq fun _ J=>aj fun _ M=>p mv<|p (cX aa aa)<|aE<|M _ _<|cd aa (fun ac=> ?_) fun ac=> ?_
 exact aj fun _ q=>p mv<|p aB<|aw<|q _ _<|rt<|tr<|f2 aa aa aa<|⟨⟨[],_,aa,.inr ⟨j.trans (C7 ab),ab⟩⟩,C⟩
 refine aM<|tn<|J _ _<|sq fun _ q=>aj fun _ O=>p mv<|aE<|O _ _<|cb aa (fun i=> ?_) fun i=> ?_
 exact aj fun _ A=>p aB<|aw<|A _ _<|rt<|tr<|f2 aa aa aa<|⟨⟨[],114,aa,.inr ⟨j.trans (C8 ab i),az⟩⟩,C⟩
 refine aM<|tn<|q _ _<|aj fun _ A=>p mv<|p mv<|e<|cl AZ (Ck (bu s).1 ae ab) aa fun v28 am Y=> ?_
 obtain ⟨rfl,U⟩:=Y
 refine p aB<|aw<|A _ _<|rt<|f2 aa aa aa ?_
 refine ⟨⟨(bu s).1,gB (bu s).1,aa,?_⟩,C.trans U⟩
 by_cases h:gB (bu s).1=0
 exact .inl ⟨j.trans (Da ab i h),h⟩
 exact .inr ⟨j.trans (C9 ab i h),h⟩
theorem IH (B fb:Nat) (F:aR) (V:eh) (s:Tx) (w:World) (A:nC w B 0 fb F V) (hk:F.kind=1∨F.kind=2∨F.kind=3) (aA:F.aliases.length≤70000) (hs:s.length≤1048576):
 bh ay 181 (ba [aQ fb,str s]) w (fun v w'=>(∃ (a:Value) (e:Nat),v= .tuple #[a,au e]∧a.oneCell'=true∧((∃ l,e=0∧fN F.kind F.aliases s= .ok l∧Tg w' 0 3 l.length a (l.map bM))∨(e≠0∧fN F.kind F.aliases s= .error e)))∧Wk w w'):=by
 obtain ⟨ai,an,Z⟩:=cw A.eO
 have J:=A.eO
 rw [Z] at J
 have G:Hb.aO w.heap fb 10=some (.slice ai F.aliases.length an):=by rw [← Z]; exact (a6 A.cells).trans rfl
 refine enter func181 aa ntmps181 aa<|aj fun _ ac=>p aB<|aw<|ac _ _<|sq fun _ ae=>sq fun _ ag=>rg aa<|ak (aQ fb)<|p (nc aa)<|p (fa u7 aa)<|p (ld xr aa<|G)<|p (bF L1 aa aa)<|p (bH aa aa)<|nl<|tn<|ag _ _<|cd aa (fun I=> ?_) fun I=> ?_
 have j:F.aliases= []:=fO ab
 refine aj fun _ E=>ak (aQ fb)<|p (nc aa)<|p (fa tj aa)<|p (ld bA aa<|(a6 A.cells).trans aa)<|ak (str s)<|e<|cl Gf (KS F.kind s _ hk hs) aa fun aD aG ao=> ?_
 obtain ⟨⟨ax,rfl,Y⟩,hE19⟩:=ao
 refine p (xt aa aa)<|p (xt aa aa)<|p aB<|aw<|E _ _<|rt<|tr<|f2 aa aa aa ?_
 obtain ⟨a0,am,rfl⟩:=cw Y
 refine ⟨⟨_,_,aa,aa,?_⟩,hE19⟩
 by_cases h:(dX F.kind s).2=0
 exact .inl ⟨_,h,by rw [ya j]; exact yw h,(Tg.jN Y).mono<|jD _⟩
 exact .inr ⟨h,by rw [ya j]; exact yv h⟩
 have j:F.aliases≠[]:=fun h=>by rw [h] at I; exact I rfl
 refine aM<|tn<|ae _ _<|aj fun _ E=>ak (str s)<|ak (aQ fb)<|p (nc aa)<|p (fa u7 aa)<|p (ld xr aa<|G)<|p (bF L1 aa aa)<|e<|cl rC (rX s (F.aliases.length:Nat) _ hs ab) aa fun aF aH ap=> ?_
 obtain ⟨rfl,i⟩:=ap
 refine p mv<|p (xt aa aa)<|p (xt aa aa)<|p aB<|aw<|E _ _<|sq fun _ ah=>aj fun _ O=>p mv<|p (cX aa aa)<|p mv<|gs (t:=34) aa (fun ar=> ?_) fun ar=> ?_
 exact sk aa aa aa aa<|sk aa aa aa aa<|p (bw aa)<|aE<|O _ _<|ct aa<|aj fun _ q=>p aB<|aw<|q _ _<|rt<|tr<|f2 aa aa aa<|⟨⟨.slice none 0 0,13,aa,aa,.inr ⟨az,H3 j (pQ ab).1⟩⟩,i⟩
 refine pg aa aa aa mv<|pg aa aa aa (bH aa aa)<|p (bm aa)<|aE<|O _ _<|cd aa (fun aq=> ?_) fun aq=> ?_
 refine aj fun _ q=>p aB<|aw<|q _ _<|rt<|tr<|f2 aa aa aa ?_
 have C:=nW (by omega :(dY s (F.aliases.length:Nat)).2=0)
 rw [show (dY s (F.aliases.length:Nat)).1=0 from by omega] at C
 exact ⟨⟨.slice none 0 0,13,aa,aa,.inr ⟨az,H7 j C⟩⟩,i⟩
 refine aM<|tn<|ah _ _<|sq fun _ q=> ?_
 have C:=nW (by omega :(dY s (F.aliases.length:Nat)).2=0)
 have aC:=qM s (F.aliases.length:Nat) ab
 have av:(dY s (F.aliases.length:Nat)).1 - 1 < F.aliases.length:=ab
 obtain ⟨v51,M,U⟩:=ij.get (A.al.wk i) av
 refine rg aa<|ak (aQ fb)<|p (nc aa)<|p (fa u7 aa)<|p (ld xr aa<|Wk.aO i G)<|p mv<|p (dJ (((dY s (F.aliases.length:Nat)).1 - 1:Nat):Int) aa aa<|bj ab ab)<|p (a7 S5 aa aa ab<|aI.ok ((aX<|aU J i).2) fun h=>by rw [h] at M; cases M)<|p (ld pC aa<|aI.gG (aX<|aU J i).2 M)<|p aB<|aw<|q _ _<|rt<|f2 aa aa aa ?_
 obtain ⟨a0,am,rfl⟩:=U.slice
 exact ⟨⟨_,0,aa,aa,.inl ⟨_,aa,H6 j C ab,U⟩⟩,i⟩
theorem II (B:Nat) (H:fY) (F:aR) (V:eh) (k ln:Nat) (seen:List Tx) (vh:Value) (s:Tx) (w:World) (C:eA w B 0 H.fb F V) (E:gS w B H k ln seen vh) (hk:F.kind=1∨F.kind=2∨F.kind=3) (ae:F.bp.length≤70000) (hs:s.length≤1048576):
 bh ay 174 (ba [aQ H.rb,str s]) w (fun v w'=>(∃ x e:Nat,v= .tuple #[bM x,au e]∧((gD F s= .ok x∧x≠0∧e=0)∨(gD F s= .error e∧e≠0)))∧Wk w w'):=by
 refine enter func174 aa ntmps174 aa<|aj fun _ G=>p aB<|aw<|G _ _<|aj fun _ I=>ak (aQ H.rb)<|p (nc aa)<|p (fa lJ aa)<|p (ld gW aa<|(a6 E.cells).trans aa)<|p (nc aa)<|p (fa tj aa)<|p (ld bA aa<|(a6 C.cells).trans aa)<|ak (str s)<|e<|cl PK (XA F.kind s w hk hs) aa fun ah ag Y=> ?_
 obtain ⟨rfl,a⟩:=Y
 refine p mv<|p (xt aa aa)<|p (xt aa aa)<|p aB<|aw<|I _ _<|sq fun _ J=>aj fun _ M=>p mv<|p (cX aa aa)<|aE<|M _ _<|cd aa (fun ac=> ?_) fun ac=> ?_
 exact aj fun _ i=>p mv<|p aB<|aw<|i _ _<|rt<|tr<|f2 aa aa aa<|⟨⟨0,(gI F.kind s).2,aa,.inr ⟨IC ab,ab⟩⟩,a⟩
 refine aM<|tn<|J _ _<|aj fun _ i=>ak (aQ H.rb)<|p (nc aa)<|p (fa lJ aa)<|p (ld gW aa<|(a6 (E.wk a).cells).trans aa)<|p mv<|e<|cl PL (TS B 0 H.fb F V (gI F.kind s).1 ag (C.wk a) ae) aa fun ai al Z=> ?_
 obtain ⟨rfl,A⟩:=Z
 refine aw<|i _ _<|sq fun _ O=>aj fun _ U=>p mv<|nl<|tn<|U _ _<|cb aa (fun q=> ?_) fun q=> ?_
 exact aj fun _ j=>p aB<|aw<|j _ _<|rt<|tr<|f2 aa aa aa<|⟨⟨0,115,aa,.inr ⟨ID ab q,az⟩⟩,a.trans A⟩
 exact aM<|tn<|O _ _<|aj fun _ j=>p mv<|p aB<|p aB<|nl<|tn<|j _ _<|rt<|f2 aa aa aa<|⟨⟨_,0,aa,.inl ⟨IE ab q,Iu ab,aa⟩⟩,a.trans A⟩
theorem Ub (ag:World) (H:fY) (F:aR) (k ln:Nat) (seen r:List Tx) (aH:Nat) (ar:Option Addr) (cr:Nat) (w:World) (aV:mm ag w H F k ln seen) (aW:Tg w aH 9 r.length (.slice ar r.length cr) (r.map str)) (a9:r.length=2) (bb:∀ x∈r,x.length≤70000):
 bh ay 175 (ba [aQ H.rb,.slice ar r.length cr]) w (fF ag H seen<|kB F seen (H.rows.drop k) ln r):=by
 obtain ⟨V,vh,q,a,C,G,aC⟩:=aV
 have aG:=aW.cI
 have a8:=a.lo
 have a5:=C.len
 obtain ⟨a3,a4,rfl⟩:=cw a.hd
 have bc:=C.sl
 refine enter func175 aa ntmps175 aa<|aj fun _ aK=>aw<|aK _ _<|sq fun _ aL=>aj fun _ aN=>aw<|aN _ _<|aJ<|lp (fun aF al aD=> ∃ (i:Nat),(i≤seen.length)∧(∀ j,j < i→seen.getD j []∉lj)∧(aD=w)∧(al 0=aQ H.rb)∧(al 1= .slice ar r.length cr)∧(al 5=au i)∧(seen.length - i=aF)) _ ⟨0,ab,(fun j ac=>by omega),aa,aa,aa,aa,aa⟩ ?_
 rintro aF al aD ⟨i,hi,ae,aS,aZ,a0,a1,rfl⟩
 refine fx 0 aZ<|fx 1 a0<|fx 5 a1 ?_
 subst aS
 refine sq fun _ aO=>aj fun _ aP=>ak (au i)<|ak (aQ H.rb)<|p (nc aa)<|p (fa pK aa)<|p (ld jR aa<|(a6 a.cells).trans aa)<|p (bF eQ aa aa)<|p (lt aa aa)<|aE<|aP _ _<|cd aa (fun aY=> ?_) fun aY=> ?_
 refine aM<|tn<|aO _ _<|sq fun _ O=>aJ<|aj fun _ ao=>ak (aQ H.rb)<|p (nc aa)<|p (fa pK aa)<|p (ld jR aa<|(a6 a.cells).trans aa)<|ak (au i)<|p (a7 cE aa aa ab<|aI.ok ((aX a.hd).2)<|bP ab)<|p (ld bR aa<|bX.get (i:=i) (aX a.hd).2 ab)<|e<|cl AI (Cr (seen.getD i []) aD) aa fun bd bf aU=> ?_
 obtain ⟨rfl,a2⟩:=aU
 subst a2
 refine aw<|ao _ _<|aj fun _ M=>p mv<|p (ge aa aa)<|p mv<|gs (t:=26) aa (fun av=> ?_) fun av=> ?_
 exact sk aa aa aa aa<|sk aa aa aa aa<|sk aa aa aa aa<|sk aa aa aa aa<|sk aa aa aa aa<|sk aa aa aa aa<|sk aa aa aa aa<|sk aa aa aa aa<|p (bw aa)<|p mv<|sk aa aa aa aa<|sk aa aa aa aa<|sk aa aa aa aa<|sk aa aa aa aa<|sk aa aa aa aa<|sk aa aa aa aa<|sk aa aa aa aa<|sk aa aa aa aa<|p (bw aa)<|p mv<|sk aa aa aa aa<|sk aa aa aa aa<|sk aa aa aa aa<|sk aa aa aa aa<|sk aa aa aa aa<|sk aa aa aa aa<|sk aa aa aa aa<|sk aa aa aa aa<|p (bw aa)<|aE<|M _ _<|ct aa<|aj fun _ A=>aw<|A _ _<|rt<|br<|tr<|tr<|br<|tr<|f1 aa aa<|⟨.inr ⟨ln,113,vq (k:=seen.getD i []) (yV<|.inl<|tG.1 av) (dQ ab),az,aa,a.dj⟩,G⟩
 refine pg aa aa aa (aT (aQ H.rb) aa)<|pg aa aa aa (nc aa)<|pg aa aa aa (fa pK aa)<|pg aa aa aa (ld jR aa<|(a6 a.cells).trans aa)<|pg aa aa aa (aT (au i) aa)<|pg aa aa aa (a7 cE aa aa ab<|aI.ok ((aX a.hd).2)<|bP ab)<|pg aa aa aa (ld bR aa<|bX.get (i:=i) (aX a.hd).2 ab)<|pg aa aa aa (dR aa aa)<|p (bm aa)<|p mv<|gs (t:=36) aa (fun ax=> ?_) fun ax=> ?_
 exact sk aa aa aa aa<|sk aa aa aa aa<|sk aa aa aa aa<|sk aa aa aa aa<|sk aa aa aa aa<|sk aa aa aa aa<|sk aa aa aa aa<|sk aa aa aa aa<|p (bw aa)<|p mv<|sk aa aa aa aa<|sk aa aa aa aa<|sk aa aa aa aa<|sk aa aa aa aa<|sk aa aa aa aa<|sk aa aa aa aa<|sk aa aa aa aa<|sk aa aa aa aa<|p (bw aa)<|aE<|M _ _<|ct aa<|aj fun _ A=>aw<|A _ _<|rt<|br<|tr<|tr<|br<|tr<|f1 aa aa<|⟨.inr ⟨ln,113,vq (k:=seen.getD i []) (yV<|.inr<|.inl ax) (dQ ab),az,aa,a.dj⟩,G⟩
 refine pg aa aa aa (aT (aQ H.rb) aa)<|pg aa aa aa (nc aa)<|pg aa aa aa (fa pK aa)<|pg aa aa aa (ld jR aa<|(a6 a.cells).trans aa)<|pg aa aa aa (aT (au i) aa)<|pg aa aa aa (a7 cE aa aa ab<|aI.ok ((aX a.hd).2)<|bP ab)<|pg aa aa aa (ld bR aa<|bX.get (i:=i) (aX a.hd).2 ab)<|pg aa aa aa (dR aa aa)<|p (bm aa)<|p mv<|gs (t:=46) aa (fun aA=> ?_) fun aA=> ?_
 exact sk aa aa aa aa<|sk aa aa aa aa<|sk aa aa aa aa<|sk aa aa aa aa<|sk aa aa aa aa<|sk aa aa aa aa<|sk aa aa aa aa<|sk aa aa aa aa<|p (bw aa)<|aE<|M _ _<|ct aa<|aj fun _ A=>p aB<|nl<|tn<|A _ _<|rt<|br<|tr<|tr<|br<|tr<|f1 aa aa<|⟨.inr ⟨ln,113,vq (k:=seen.getD i []) (yV<|.inr<|.inr<|.inl aA) (dQ ab),az,aa,a.dj⟩,G⟩
 refine pg aa aa aa (aT (aQ H.rb) aa)<|pg aa aa aa (nc aa)<|pg aa aa aa (fa pK aa)<|pg aa aa aa (ld jR aa<|(a6 a.cells).trans aa)<|pg aa aa aa (aT (au i) aa)<|pg aa aa aa (a7 cE aa aa ab<|aI.ok ((aX a.hd).2)<|bP ab)<|pg aa aa aa (ld bR aa<|bX.get (i:=i) (aX a.hd).2 ab)<|pg aa aa aa (dR aa aa)<|p (bm aa)<|aE<|M _ _<|cd aa (fun ap=> ?_) fun ap=> ?_
 exact aj fun _ A=>aw<|A _ _<|rt<|br<|tr<|tr<|br<|tr<|f1 aa aa<|⟨.inr ⟨ln,113,vq (k:=seen.getD i []) (yV<|.inr<|.inr<|.inr ap) (dQ ab),az,aa,a.dj⟩,G⟩
 exact aM<|bn<|tn<|O _ _<|rg aa<|ak (au i)<|p (ad aa aa<|bT ab)<|p aB<|nl<|tn<|⟨_,ab,i+1,ab,(fun j ac=>by rcases e8 j i with h | h <;> first | exact ae j h | (rw [show j=i by omega]; exact WB (fun h=>av<|tG.2 h) ax aA ap)),aa,aa,aa,aa,aa⟩
 refine ext<|te _<|te _<|be<|tn<|aL _ _<|sq fun _ O=>aj fun _ ao=>ak (.slice ar r.length cr)<|p (a7 cE aa aa ab<|aI.ok (aG.2)<|bP ab)<|p (ld bR aa<|bX.get (i:=1) aG.2 ab)<|aE<|ao _ _<|aJ<|aj fun _ M=>p (dR aa aa)<|aw<|M _ _<|cd aa (fun Z=> ?_) fun Z=> ?_
 refine rg aa<|ak (aQ H.rb)<|p (nc aa)<|p (fa lJ aa)<|p (ld gW aa<|(a6 a.cells).trans aa)<|p (nc aa)<|p (fa tj aa)<|e<|cV gX aa aa (v:=au 1) aa q.cells (by show _ < 13; omega) fun ah E U=>nl<|bn<|tn<|O _ _<|aj fun _ A=>aw<|A _ _<|rt<|f1 aa aa ?_
 have J:ordered seen=true :=yW fun j ac=>ae j ab
 have hk:jw (r.getD 1 [])=1:=by unfold jw; rw [if_pos (show r.getD 1 []=rO from Z)]
 have Y:=q.put (F':= {F with kind:=1}) E U rfl rfl rfl rfl q.fI
 have I:Wk ag ah:=G.trans' E fun k hk h=>by have :=q.lo; omega
 exact ⟨.inl ⟨_,k,ln,(yI J ab).trans (by rw [hk]),aa,⟨V,_,Y,a.fb q E,⟨C.len,C.sl,C.row,by show 1=1∨1=2∨1=3; decide⟩,I,aC⟩⟩,I⟩
 refine aj fun _ A=>p (dR aa aa)<|aw<|A _ _<|cd aa (fun ai=> ?_) fun ai=> ?_
 refine rg aa<|ak (aQ H.rb)<|p (nc aa)<|p (fa lJ aa)<|p (ld gW aa<|(a6 a.cells).trans aa)<|p (nc aa)<|p (fa tj aa)<|e<|cV gX aa aa (v:=au 2) aa q.cells (by show _ < 13; omega) fun ah E U=>nl<|bn<|tn<|O _ _<|aj fun _ am=>aw<|am _ _<|rt<|f1 aa aa ?_
 have J:ordered seen=true :=yW fun j ac=>ae j ab
 have hk:jw (r.getD 1 [])=2:=by unfold jw; rw [if_neg (show ¬r.getD 1 []=rO from Z),if_pos (show r.getD 1 []=tz from ai)]
 have Y:=q.put (F':= {F with kind:=2}) E U rfl rfl rfl rfl q.fI
 have I:Wk ag ah:=G.trans' E fun k hk h=>by have :=q.lo; omega
 exact ⟨.inl ⟨_,k,ln,(yI J ab).trans (by rw [hk]),aa,⟨V,_,Y,a.fb q E,⟨C.len,C.sl,C.row,by show 2=1∨2=2∨2=3; decide⟩,I,aC⟩⟩,I⟩
 refine aj fun _ am=>p (dR aa aa)<|aw<|am _ _<|cd aa (fun aq=> ?_) fun aq=> ?_
 refine rg aa<|ak (aQ H.rb)<|p (nc aa)<|p (fa lJ aa)<|p (ld gW aa<|(a6 a.cells).trans aa)<|p (nc aa)<|p (fa tj aa)<|e<|cV gX aa aa (v:=au 3) aa q.cells (by show _ < 13; omega) fun ah E U=>nl<|bn<|tn<|O _ _<|aj fun _ an=>aw<|an _ _<|rt<|f1 aa aa ?_
 have J:ordered seen=true :=yW fun j ac=>ae j ab
 have hk:jw (r.getD 1 [])=3:=by unfold jw; rw [if_neg (show ¬r.getD 1 []=rO from Z),if_neg (show ¬r.getD 1 []=tz from ai),if_pos (show r.getD 1 []=vt from aq)]
 have Y:=q.put (F':= {F with kind:=3}) E U rfl rfl rfl rfl q.fI
 have I:Wk ag ah:=G.trans' E fun k hk h=>by have :=q.lo; omega
 exact ⟨.inl ⟨_,k,ln,(yI J ab).trans (by rw [hk]),aa,⟨V,_,Y,a.fb q E,⟨C.len,C.sl,C.row,by show 3=1∨3=2∨3=3; decide⟩,I,aC⟩⟩,I⟩
 refine aj fun _ an=>aw<|an _ _<|rt<|br<|tr<|f1 aa aa ?_
 have J:ordered seen=true :=yW fun j ac=>ae j ab
 exact ⟨.inr ⟨ln,114,Jp J (by unfold jw; rw [if_neg (show ¬r.getD 1 []=rO from Z),if_neg (show ¬r.getD 1 []=tz from ai),if_neg (show ¬r.getD 1 []=vt from aq)]),az,aa,a.dj⟩,G⟩
end Go.Hb.sI
end
