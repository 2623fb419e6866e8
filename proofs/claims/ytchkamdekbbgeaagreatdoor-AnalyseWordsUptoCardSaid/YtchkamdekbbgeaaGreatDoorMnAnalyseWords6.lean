/-
  Walks and plain laws that the law rests on, laid together. No conditions but those that each theorem names.
-/
import Derived.Test.YtchkamdekbbgeaaGreatDoorMnAnalyseWords5
set_option linter.unusedVariables false
set_option maxRecDepth 20000
set_option maxHeartbeats 1000000
open Bool renaming or_eq_false_iff→oP
open Classical renaming not_not→jM
open Decidable renaming of_not_not→Gi
open Go.Proofs.Tryz renaming prog→aw
open Go.Value renaming bool→ca,oneCell'→gw,ownBlock→jN,slice→bW,tuple→gV
open Go.World renaming ownsRow→bz,ownsRow_nil→dK
open List renaming all_cons→vN,all_eq_true→mz,append_assoc→eS,append_nil→eB,drop_drop→tX,drop_eq_getElem_cons→PU,drop_eq_nil_of_le→iJ,drop_take→tY,eq_nil_of_length_eq_zero→fR,ext_getElem?→qw,filter_append→yv,filter_nil→PY,flatMap_append→nU,flatMap_singleton→pU,getD_cons_zero→l6,getD_eq_getElem?_getD→cX,getElem?_append_left→ng,getElem?_append_right→nV,getElem?_cons_zero→vP,getElem?_drop→sR,getElem?_eq_getElem→cx,getElem?_eq_some_iff→fL,getElem?_set→lK,getElem?_take→qz,getElem?_zip_eq_some→jW,length→j7,length_append→bL,length_cons→cV,length_drop→fS,length_eq_zero_iff→yy,length_map→fP,length_nil→gB,length_pos_iff→l7,length_set→yz,length_singleton→fu,length_take→dP,length_zip→BH,map_append→gW,mem_append→jm,mem_cons→fG,mem_cons_of_mem→nW,mem_filter→ua,mem_map→jn,mem_of_getElem?→gC,mem_of_mem_take→Qb,mem_singleton→iK,not_mem_nil→vS,take_of_length_le→e9,take_succ_cons→rF,toArray→bh
open Nat renaming add_comm→Qo,add_le_add_left→BN,le_refl→cU,le_trans→fz,lt_or_ge→fM,zero_le→hZ
open Option.some renaming inj→vW,injEq→gD
open Prod.mk renaming injEq→ug
open UInt8 renaming toNat_inj→lM,toNat_lt→jy
open Go.Proofs.Tryz
open Go.Hb.dZ Go.Proofs Go.Hb.eT Go.Hb.fI

section
namespace Go.Hb.jq
open Go.Hb.mB Go.Hb.oV Go.Hb.iZ Go.Hb.gy Go.Hb.iw Go.Hb.kA
theorem Xj:Dm aw 102 3=some (96,3):=aj
def qU (q:bC×Value):List Value:= [str q.1.1,q.2]
def kG (l:List (bC×Value)):List Value:=l.flatMap qU
theorem JD (l:List (bC×Value)) (q:bC×Value):kG (l++ [q])=kG l++qU q:=by simp [kG]
theorem V0 (l:List (bC×Value)):(kG l).length=l.length*2:=mL (f:=qU) (m:=2) (fun _=>rfl) l
theorem pK {w:World} {B e size n k:Nat} {v:Value} {xs:List Value} (h:bz w B e size v n xs) (hk:v.ownBlock=some k) (E:∀ cur z,w.heap[k]?≠some (.cells cur e z)):False:=by
 rcases h.2 with ⟨rfl,rfl⟩ | ⟨g,cap,cur,rfl,_,C,_⟩
 · cases hk
 · have A:g=k:=by simpa [jN] using hk
   subst A;exact E _ _ C
structure n9 (w:World) (B:Nat) (f:Value→Option Value) (xs:List bC):Prop where
 own:∀ s:Tx,bz w B 3 1 ((f<|str s).getD<|bW none 0 0) (idxs s xs).length ((idxs s xs).map bT)
 nil:∀ s:Tx,idxs s xs= []→(f<|str s).getD (bW none 0 0)=(bW none 0 0)
theorem n9.md {G:Nat→Prop} {w w':World} {B:Nat} {f:Value→Option Value} {xs:List bC} (h:n9 w B f xs) (hm:Md G w w') (A:∀ k,G k→∀ cur z,w.heap[k]?≠some (.cells cur 3 z)):n9 w' B f xs:=by
 refine ⟨fun s=> ?_,h.nil⟩;refine dw (h.own s) hm fun k hk E=> ?_;exact pK (h.own s) hk fun cur z C=>A k E cur z C
theorem EV {w:World} {B B' k n C:Nat} {v E:Value} {xs G:List Value} (h:bz w B 3 1 v n xs) (V:bz w B' 3 1 E C G) (hk:v.ownBlock=some k) (Z:E.ownBlock=some k) (hn:0 < n) (ah:0 < C):xs[0]? =G[0]? :=by
 rcases h.2 with ⟨rfl,rfl⟩ | ⟨g,cap,cur,rfl,_,Y,_,_,_,aa⟩
 · omega
 · rcases V.2 with ⟨rfl,rfl⟩ | ⟨O,ae,ag,rfl,_,A,_,_,_,ac⟩
   · omega
   · have I:g=k:=by simpa [jN] using hk
     have J:O=k:=by simpa [jN] using Z
     subst I J;rw [Y] at A;cases A;rw [← aa,← ac,qz,qz,if_pos ab,if_pos ab]
theorem n9.sep {w:World} {B k:Nat} {f:Value→Option Value} {xs:List bC} {s t:Tx} (h:n9 w B f xs) (I:s≠t) (hs:((f<|str s).getD<|bW none 0 0).ownBlock=some k):((f<|str t).getD<|bW none 0 0).ownBlock≠some k:=by
 intro A;have C:idxs s xs≠[]:=fun e=>by rw [h.nil s e] at hs; cases hs
 have E:idxs t xs≠[]:=fun e=>by rw [h.nil t e] at A; cases A
 have he:=EV (h.own s) (h.own t) hs A (l7.2 C)<|l7.2 E;cases h1:idxs s xs with
 | nil=>exact C h1
 | cons i l=>
   cases h2:idxs t xs with
   | nil=>exact E h2
   | cons j m=>
     rw [h1,h2] at he;have G:i=j:=by have h:=he; simp only [List.map_cons,vP,gD,bT,Value.int.injEq,true_and] at h; omega
     subst G;have m1:i∈idxs s xs:=by rw [h1]; simp
     have m2:i∈idxs t xs:=by rw [h2]; simp
     unfold idxs at m1 m2;have J:=of_decide_eq_true (ua.1 m1).2;have O:=of_decide_eq_true (ua.1 m2).2;exact I<|J.symm.trans O
theorem n9.put {w E V:World} {B mb:Nat} {f:Value→Option Value} {xs:List bC} {x:bC} {v:Value} (h:n9 w B f xs) (hm:Md (fun k=>((f<|str x.1).getD<|bW none 0 0).ownBlock=some k) w E)
 (O:bz E B 3 1 v (idxs x.1 xs++ [xs.length]).length ((idxs x.1 xs++ [xs.length]).map bT)) (J:∀ cur z,E.heap[mb]?≠some (.cells cur 3 z)) (I:Md (fun k=>k=mb) E V):n9 V B (bU f (str x.1) v) (xs++ [x]):=by
 refine ⟨fun s=> ?_,fun s hs=> ?_⟩
 · by_cases A:x.1=s
   · subst A;rw [oI,Ea,if_pos rfl];exact dw O I fun k hk C=>pK O hk fun cur z G=>J cur z<|C ▸ G
   · rw [mm (fun e=>A (str_inj.1 e).symm),Ea,if_neg A,eB];have h1:=dw (h.own s) hm fun k hk C=>h.sep A C hk;exact dw h1 I fun k hk C=>pK h1 hk fun cur z G=>J cur z<|C ▸ G
 · rw [Ea] at hs;by_cases A:x.1=s
   · rw [if_pos A] at hs; simp at hs
   · rw [if_neg A,eB] at hs;rw [mm (fun e=>A (str_inj.1 e).symm)]; exact h.nil s hs
structure lO (w:World) (B wb mb:Nat) (va:Value) (vs:List Value) (xs:List bC):Prop where
 cells:w.heap[wb]? =some (.cells [va,.map (some mb)].toArray 184 (0,0))
 own:bz w B 53 2 va xs.length (kG<|xs.zip vs)
 fl:eL w B 95 vs (xs.map (·.2))
 mp:∃ f,di w.heap mb jT f∧n9 w B f xs
theorem lO.md {G:Nat→Prop} {w w':World} {B wb mb:Nat} {va:Value} {vs:List Value} {xs:List bC} (h:lO w B wb mb va vs xs) (hm:Md G w w') {L:List Nat} (A:TF w L G) (E:(L.contains 186 || L.contains 55 || L.contains 97 || L.contains 5)=false) (O:¬G mb):lO w' B wb mb va vs xs:=by
 simp only [oP] at E;obtain ⟨⟨⟨h1,h2⟩,h3⟩,h4⟩:=E;obtain ⟨f,I,J⟩:=h.mp;exact ⟨hm.iT A h.cells h1,cQ h.own hm A h2,h.fl.md hm (fun k hk cur z C=>A.no (dN C) h3 hk),⟨f,I.md hm O,J.md hm fun k hk cur z C=>A.no (dN C) h4 hk⟩⟩
theorem lO.wk {w w':World} {B wb mb:Nat} {va:Value} {vs:List Value} {xs:List bC} (h:lO w B wb mb va vs xs) (hm:Wk w w'):lO w' B wb mb va vs xs:=h.md (L:= []) hm (fun _ hk=>hk.elim) rfl id
theorem C5 {F:aU} {t:Tx} {ln:Nat} {row:List Tx} {rows:List Rw} (h:¬65536 < t.length) (h1:bZ t=(ln,row)::rows) (h2:(lY row).2≠0):∃ e:Nat,(lY row).2=(e:Int)∧fN F t= .error (ln,e):=by
 unfold lY at h2 ⊢;by_cases A:row.length≠1
 · rw [if_pos A]; exact ⟨111,rfl,VJ h h1 A⟩
 · rw [if_neg A] at h2 ⊢;have h3:=q6 (s:=row.getD 0 []) (most:=8192) h2;exact ⟨13,h3.2,VM h h1 (jM.1 A) h3.1⟩
theorem Jq {F:aU} {t:Tx} {ln:Nat} {row:List Tx} {rows:List Rw} (h:¬65536 < t.length) (h1:bZ t=(ln,row)::rows) (h2:(lY row).2=0):∃ n:Nat,(lY row).1=n∧n≤8192∧fN F t=fA F ((bP t).length+1) n rows:=by
 unfold lY at h2 ⊢;by_cases A:row.length≠1
 · rw [if_pos A] at h2; cases h2
 · rw [if_neg A] at h2 ⊢;exact ⟨_,aa,by have :=si (row.getD 0 []) 8192 h2; omega,Js h h1 (jM.1 A)<|pJ h2⟩
theorem A0 {u:Tx} {a:Value} (h:a.oneCell'=true):[str u,a].all gw=true :=by rw [vN,vN,h]; rfl
def QG (l e:Nat):Value:= .agg [.int .i64 2,.int .i64 (l:Nat),.int .i64 (e:Nat)].toArray
def QB (w':World) (B0:Nat) (xs:List bC) (v:Value):Prop := ∃ B wb mb va vs,B0≤B∧v= .tuple #[.pointer (some ⟨wb,0,none⟩),.agg [.int .i64 0,.int .i64 0,.int .i64 0].toArray]∧lO w' B wb mb va vs xs∧B0≤wb∧B0≤mb
def QA (e:Nat×Nat) (v:Value):Prop :=v= .tuple #[.pointer none,QG e.1 e.2]
def mC (F:aU) (t:Tx) (w:World) (v:Value) (w':World):Prop :=(match fN F t with | .ok xs=>QB w' w.heap.size xs v | .error e=>QA e v)∧Wk w w'
theorem mC.no {F:aU} {t:Tx} {w w':World} {l e:Nat} (h:fN F t= .error (l,e)) (hm:Wk w w'):mC F t w (.tuple #[.pointer none,.agg [.int .i64 2,.int .i64 (l:Nat),.int .i64 (e:Nat)].toArray]) w':=by
 unfold mC; rw [h]; exact ⟨rfl,hm⟩
theorem VP (B fb mc:Nat) (F:aU) (V:fH) (t:Tx) (w:World) (cw:ei w B fb mc F V) (dZ:∃ seen,lj F [] seen) (e6:Nx F) (hs:t.length≤1048576):
 bm aw 40 (bh [aV fb,str t]) w (mC F t w):=by
 refine enter func40 aa ntmps40 aa<|ag fun db=>p aE<|e<|gk rq fun bK fw fL cz co=> ?_;have cn:bS fw.heap bK [.int .i64 0,.int .i64 0,.int .i64 0]:=⟨_,co⟩
 refine nl<|db<|az fun dn=>ag fun ds=>au (aV fb)<|p (ly x9 aa aa)<|nl<|ds<|cf (aa)<|aQ<|dn<|ag fun du=>au (str t)<|e<|cl Iz (N8 t _ hs) aa fun v22 cg el=> ?_;obtain ⟨⟨a22,rfl,cL⟩,hE22⟩:=el;have cu:=cz.md.trans hE22;have gd:=cz.size;refine p mv<|p (xt aa aa)<|p (xt aa aa)<|p aE<|ay<|du<|az fun dv=>ag fun dy=>p mv<|p (dd aa aa)<|nl<|dy<|cd aa (fun b8=> ?_) fun b8=> ?_;have cH:65536 < t.length:=Classical.byContradiction fun h=>b8<|by rw [if_neg h]
 refine ag fun bE=>p mv<|e<|cl uF (uK 0 (if 65536 < t.length then 10 else 0) cg) aa fun v28 gy em=> ?_;obtain ⟨rfl,bR⟩:=em;have f9:=(hE22.trans bR).size;refine p aE<|e<|dt km aa aa aa aa (Wk.B (hE22.trans bR) cn) (by simp) fun gM ee dV=>nl<|bE<|rt<|tr<|eN aa eD (ed (cs:= [.int .i64 2,.int .i64 0,.int .i64 (if 65536 < t.length then 10 else 0)]) aa lT aa fun j ao=>dV.bB j) ?_;have h:=mC.no (F:=F) (Jt cH)<|(cu.trans bR).trans' ee fun q C h=>by omega
 show mC F t w (.tuple #[.pointer none,.agg [.int .i64 2,.int .i64 0,.int .i64 (if 65536 < t.length then 10 else 0)].toArray]) _;rw [if_pos cH];exact h;have a2:¬65536 < t.length:=fun h=>b8<|by rw [if_pos h]; decide
 rw [if_neg a2] at cL;obtain ⟨c6,wy,rfl⟩:=cJ cL;have fW:=pH t;refine aQ<|dv<|ag fun bE=>au (str t)<|e<|cl Iy (NA t _ hs) aa fun v31 av en=> ?_;obtain ⟨⟨a31,rfl,cK⟩,hE31⟩:=en;rw [if_neg a2] at cK;obtain ⟨c8,bq,bs⟩:=cK;obtain ⟨ar,cr,rfl⟩:=cJ bq;have aA:=cu.trans hE31;have aO:=Wk.B (hE22.trans hE31) cn;have ga:=(hE22.trans hE31).size;have c4:=AA t;refine p mv<|p (xt aa aa)<|p (xt aa aa)<|p aE<|ay<|bE<|az fun dz=>ag fun dA=>p mv<|p (bM A2 aa aa)<|p (bQ aa aa)<|nl<|dA<|cd aa (fun b9=> ?_) fun b9=> ?_;have e4:bZ t= []:=fR ab;refine ag fun bt=>p mv<|p (bM fq aa aa)<|p (bJ (((bP t).length+1:Nat):Int) aa aa<|bp ab ab)<|e<|cl uF (uK ((bP t).length+1:Nat) 116 av) aa fun v40 gA eo=> ?_;obtain ⟨rfl,bU⟩:=eo;have gb:=bU.size;exact p aE<|e<|dt km aa aa aa aa (Wk.B bU aO) (by simp) fun gO ef dW=>nl<|bt<|rt<|tr<|eN aa eD (ed (cs:= [.int .i64 2,ak ((bP t).length+1),.int .i64 116]) aa lT aa fun j ao=>dW.bB j)<|mC.no (Ju a2 e4)<|(aA.trans bU).trans' ef fun q C h=>by omega
 obtain ⟨⟨c7,aK⟩,rest,Z⟩:∃ q rest,bZ t=q::rest:=by
  cases h:bZ t with
  | nil=>rw [h] at b9; exact absurd rfl b9
  | cons q rest=>exact ⟨q,rest,rfl⟩
 have cc:=bs.1;rw [Z] at bq bs cc c4;obtain ⟨⟨aJ,fs⟩,rvs',rfl⟩:∃ q ce,c8=q::ce:=by
  cases c8 with
  | nil=>exact absurd cc<|by simp
  | cons q ce=>exact ⟨q,ce,rfl⟩
 obtain ⟨fe,c2⟩:=bs.2 0 (aJ,fs) (c7,aK) rfl rfl;obtain rfl :aJ=c7:=fe;obtain ⟨a0,dB,rfl⟩:=c2.slice;have aY:=(ba bq).2;have eT:=(ba bq).1;have cP:∀ q∈(aJ,aK)::rest,q.2.length≤70000∧∀ x∈q.2,x.length≤70000:=fun q C=>by
  have h:=AB (show q∈bZ t by rw [Z]; exact C);exact ⟨ab,fun x fj=>by have :=(h.2.2.2.2 x fj).2; omega⟩
 have cO:=cP _<|List.mem_cons_self ..;simp only [cV] at cc c4 eT;refine aQ<|dz<|ag fun bt=>p mv<|p (bc uN aa aa (by rw [Z]; simp only [cV]; omega)<|aM.ok (aY)<|mo<|by simp)<|p (cW yP aa (aa)<|mq (i:=0) aY aa)<|e<|cl TA (VI aJ aK cg.heap.size a0 dB av c2 cO.2 cO.1) aa fun v45 fv ep=> ?_;obtain ⟨rfl,aD⟩:=ep;have gc:=aD.size;refine p mv<|p (xt aa aa)<|p (xt aa aa)<|p aE<|ay<|bt<|az fun dc=>ag fun de=>p mv<|p (dd aa aa)<|nl<|de<|cd aa (fun cI=> ?_) fun cI=> ?_;obtain ⟨fG,eV,b6⟩:=C5 (F:=F) a2 Z cI;refine ag fun bu=>p mv<|p (bc uN aa aa (by rw [Z]; simp only [cV]; omega)<|aM.ok (aY.wk aD)<|mo<|by simp)<|p (fa zP aa)<|p (ld bD aa<|mq (i:=0) (aY.wk aD) aa 0 aB)<|p mv<|e<|cl uF (uK (aJ:Nat) (lY aK).2 fv) aa fun v55 gB er=> ?_;obtain ⟨rfl,bV⟩:=er;have ge:=bV.size;refine p aE<|e<|dt km aa aa aa aa (Wk.B (aD.trans bV) aO) (by simp) fun gH d7 dF=>nl<|bu<|rt<|tr<|eN aa eD (ed (cs:= [.int .i64 2,ak aJ,.int .i64 (lY aK).2]) aa lT aa fun j ao=>dF.bB j) ?_;have h:=mC.no b6<|(aA.trans<|aD.trans bV).trans' d7 fun q C h=>by omega
 show mC F t w (.tuple #[.pointer none,.agg [.int .i64 2,ak aJ,.int .i64 (lY aK).2].toArray]) _;rw [eV];exact h;obtain ⟨n,cR,fX,b6⟩:=Jq (F:=F) a2 Z (show (lY aK).2=0 by omega);have d6:=cw.wk<|aA.trans aD;obtain ⟨seen,cp⟩:=dZ;have fS:=cp.len;refine aQ<|dc<|ag fun bu=>e<|tA fun ac gD fM b4 dS=> ?_;have gf:=b4.size;refine p (dj (ps:= [(1,.map (some ac))]) (L:= [.slice none 0 0,.map (some ac)]) acs aa<|aa)<|e<|og aa fun E fz fO bd dT=> ?_;have gg:=bd.size;have d3:=aD.trans<|b4.md.trans bd.md;refine ay<|bu<|ag fun df=>au (aV fb)<|e<|cl y8 (yN B fb mc F V fz (d6.wk<|b4.md.trans bd.md) ab e6) aa fun v60 gE es=> ?_;obtain ⟨⟨fC,rfl,_⟩,hE60⟩:=es;have gh:=hE60.size;refine p (WR Xj Hg aa aa)<|e<|al adY fun bF gu fJ a9 dG=> ?_;have f1:=a9.size;refine e<|dt Vo aa aa aa aa (dG) (by simp) fun O a6 dH=> ?_;have d1:Wk av O:=(d3.trans<|hE60.trans a9.md).trans' a6 fun q C h=>by omega
 have f3:=a6.size;have eM:O.heap[E]? =some (.cells [.slice none 0 0,.map (some ac)].toArray 184 (0,0)):=a6.aT (Wk.aT (hE60.trans a9.md) dT) fun h=>by omega
 have e1:di O.heap ac jT (fun _=>none):=di.md (di.wk (di.nil dS)<|bd.md.trans<|hE60.trans a9.md) a6 fun h=>by omega
 have ez:lO O O.heap.size E ac (.slice none 0 0) [] []:=⟨eM,dK _ _ _ _,eL.nil _ _ _,⟨_,e1,⟨fun s=>dK _ _ _ _,fun s _=>rfl⟩⟩⟩
 have eH:bS O.heap bF [bo (F.sp.getD 0 0),bo (F.sp.getD 1 0),bo (F.sp.getD 2 0),bo (F.sp.getD 3 0),bo (F.sp.getD 4 0)]:=dH;have cq:aM av.heap (gN ar cr 1 2) (lg rvs'):=by
  have h:=aY.drop (cap:=cr) (k:=1) (size:=2)<|by rw [NI]; simp only [cV]; omega
  exact h
 have eC:jo F ((bP t).length+1) (fN F t) [] (n - 0) (rest.drop 0):=by rw [b6]; exact jo.start
 refine nl<|df<|az fun dg=>ag fun dh=>p mv<|p (xX uN aa aa<|by rw [Z]; simp only [cV]; omega)<|p (bM A2 aa aa)<|p mv<|nl<|dh<|aT<|lp (fun ck a4 ax=> ∃ (i:Nat) (xs:List bC) (vs:List Value) (va:Value),(i≤rest.length∧i≤n)∧(xs.length=i)∧(jo F ((bP t).length+1) (fN F t) xs (n - i)<|rest.drop i)∧(lO ax O.heap.size E ac va vs xs)∧(Wk av ax)∧(bS ax.heap bF [bo (F.sp.getD 0 0),bo (F.sp.getD 1 0),bo (F.sp.getD 2 0),bo (F.sp.getD 3 0),bo (F.sp.getD 4 0)])∧(O.heap.size≤ax.heap.size)∧(a4 10=ak n)∧(a4 63= .slice (gN ar cr 1 2) rest.length (cr - 1))∧(a4 64=ak (rest.length))∧(Sl a4 [(0,aV fb),(5,aV bK),(6,.slice c6 (bP t).length wy),(11,aV E),(12,aV bF),(65,ak i)])∧(rest.length - i=ck)) _ ⟨0,[],[],.slice none 0 0,ab,aa,eC,ez,d1,eH,(cU _),(by first | rfl | (rw [← cR]; rfl)),(by first | rfl | (rw [Z]; rfl)),(by first | rfl | (rw [Z]; rfl)),aa,aa⟩ ?_;rintro ck a4 ax ⟨i,xs,vs,va,hi,c5,ai,aN,Y,cF,gp,fg,fh,fi,ff,rfl⟩;refine bG ff<|fx 10 fg<|fx 63 fh<|fx 64 fi<|ag fun dk=>p (lt aa aa)<|nl<|dk<|az fun dl=>cd aa (fun eQ=> ?_) fun eQ=> ?_;refine aQ<|dl<|az fun bv=>aT<|az fun bw=> ?_;obtain ⟨⟨ln,r⟩,hri⟩:∃ q,rest[i]? =some q:=⟨_,cx ab⟩
 have eU:rest.drop i=(ln,r)::rest.drop (i+1):=by rw [PU ab]; rw [cx ab] at hri; rw [vW hri]
 obtain ⟨p,c3⟩:∃ p,rvs'[i]? =some p:=⟨_,cx ab⟩
 obtain ⟨dC,cD⟩:=bs.2 (i+1) p (ln,r) c3 hri;obtain ⟨fr,gr⟩:=p;obtain rfl :ln=fr:=dC.symm;obtain ⟨a,c,rfl⟩:=cD.slice;have cQ:=cP (ln,r)<|nW _<|gC hri;rw [eU] at ai;refine rg aa<|au (ak i)<|p (bc uN aa aa ab<|aM.ok (cq.wk Y)<|mo ab)<|p (cW yP aa (aa)<|mq (cq.wk Y) c3)<|e<|al O5 fun ci gw bj b3 dI=> ?_;have f4:=b3.size;refine p (cE (ak i) aa)<|e<|dt Ja aa aa aa aa (dI) (by simp) fun aR b2 dJ=> ?_;have a5:Wk av aR:=(Y.trans b3.md).trans' b2 fun q C h=>by omega
 have ct:Wk ax aR:=b3.md.trans' b2 fun q C h=>by omega
 have bj:bS aR.heap ci [ak ln,.slice a r.length c]:=dJ;have f6:=b2.size;refine nl<|bw<|az fun aS=>ag fun dp=>au (ak i)<|au (ak n)<|p (bQ aa aa)<|nl<|dp<|cd aa (fun eR=> ?_) fun eR=> ?_;refine ag fun bx=>p (fa zP aa)<|p (ld bD aa<|(bj.aW 0).trans aa)<|e<|cl uF (uK (ln:Nat) 116 aR) aa fun v75 gF et=> ?_;obtain ⟨rfl,bY⟩:=et;have gi:=bY.size;refine p aE<|e<|dt km aa aa aa aa (Wk.B (a5.trans bY) aO) (by simp) fun gI d8 dL=>nl<|bx<|rt<|tr<|br<|tr<|tr<|br<|tr<|eN aa eD (ed (cs:= [.int .i64 2,ak ln,.int .i64 116]) aa lT aa fun j ao=>dL.bB j) ?_;rw [show n - i=0 by omega] at ai;exact mC.no ai.more<|(aA.trans<|a5.trans bY).trans' d8 fun q C h=>by omega
 refine aQ<|aS<|ag fun bx=>au (aV fb)<|p (cW Hg aa (aa) fun j ao=>(Wk.B ct cF).bB j)<|p (cW yP aa (aa) fun j ao=>bj.bB j)<|e<|cl TB (Vz B fb mc F V ln r cg.heap.size a c aR (cw.wk<|aA.trans a5) ⟨seen,cp⟩ (cD.wk a5) cQ.2 cQ.1) aa fun v80 fA eu=> ?_;obtain ⟨d5,b0⟩:=eu;obtain ⟨A,a80,cj,rfl,c1,cM⟩:∃ (u:Tx) (a:Value) (e:Nat),v80= .tuple #[.agg [str u,a].toArray,ak e]∧a.oneCell'=true∧((e=0∧∃ l,gl F r= .ok (u,l)∧bz fA aR.heap.size 95 1 a l.length (l.map bo))∨(e≠0∧gl F r= .error e)):=by
  rcases d5 with ⟨x,a,h1,h2,h3⟩ | ⟨e,h1,h2,h3⟩;exact ⟨x.1,a,0,h2,fy h3,.inl ⟨aa,x.2,h1,h3⟩⟩;exact ⟨_,_,e,h3,aa,.inr ⟨h2,h1⟩⟩
 have gj:=b0.size;refine p mv<|p (xt aa aa)<|p (xt aa aa)<|e<|gk sG fun bH gx fK bb cm=> ?_;have f5:=bb.size;refine e<|fU kZ aa aa aa (A0 c1) cm aB fun aq a8 dM=> ?_;have aL:Wk ax aq:=(ct.trans<|b0.trans bb.md).trans' a8 fun q C h=>by omega
 have cG:aq.heap[bH]? =some (.cells [str A,a80].toArray 53 (0,0)):=dM;have f7:=a8.size;have eI:bS aq.heap ci [ak ln,.slice a r.length c]:=a8.B (Wk.B (b0.trans bb.md) bj) fun h=>by omega
 refine ay<|bx<|az fun dq=>ag fun dr=>p mv<|p (dd aa aa)<|nl<|dr<|cd aa (fun eS=> ?_) fun eS=> ?_;obtain ⟨fY,hex⟩:=cM.resolve_left fun h=>by omega
 refine ag fun bA=>p (fa zP aa)<|p (ld bD aa<|(eI.aW 0).trans aa)<|p mv<|e<|cl uF (uK (ln:Nat) (cj:Nat) aq) aa fun gt gG ev=> ?_;obtain ⟨rfl,b1⟩:=ev;have gm:=b1.size;exact p aE<|e<|dt km aa aa aa aa (Wk.B (Y.trans<|aL.trans b1) aO) (by simp) fun gJ d9 dO=>nl<|bA<|rt<|tr<|br<|tr<|tr<|br<|tr<|eN aa eD (ed (cs:= [.int .i64 2,ak ln,ak cj]) aa lT aa fun j ao=>dO.bB j)<|mC.no (ai.bad ab hex)<|(aA.trans<|Y.trans<|aL.trans b1).trans' d9 fun q C h=>by omega
 obtain ⟨_,aI,hex,e9⟩:=cM.resolve_right fun h=>by omega
 have bi:=aN.wk aL;have e3:¬(va.ownBlock=some E):=dX bi.own bi.cells aB;have e2:¬(va.ownBlock=some bH):=fun h=>by have :=(dQ aN.own h).2; omega
 have gq:=aL.size;refine aQ<|dq<|az fun bA=> ?_;have aH:(fun w'=>Md (fun q=>va.ownBlock=some q) aq w') aq.drew:=(Md.refl _ _).drew;refine e5 (fun w'=>Md (fun q=>va.ownBlock=some q) aq w') 10 aa wide aH<|bI 0 aa (aV E) aH<|bI 1 aa (aV E) aH<|bN 2 aa (nc aa) aH<|bN 3 aa (fa zQ aa) aH<|ea 4 aa (fun w' I=>ld wc aa<|Md.aW I ((bg bi.cells).trans aa) e3) aH<|ea 5 aa (fun w' I=>cW ma aa (aa) fun j ao=>bS.bB ⟨_,Md.aT I cG e2⟩ j) aH<|gS 6 aa aj<|kY AK aa aa aa fun fF fB fQ eh dY=> ?_;have aF:=iY eh.md;have J:=bi.wk aF;have gn:=aF.size;have cA:(fun w'=>Md (fun q=>va.ownBlock=some q) aq w') fB:=Md.mono aF fun _ _ h=>h.elim;refine ⟨cA,?_⟩;refine gS 7 aa aj<|ap AK (J.own) aa ab aa (aM.ec dY) (aa) (A0 c1) ab ab fun a3 ch cZ ah fo fV=> ?_;obtain ⟨f,cN,eY⟩:=J.mp;have aZ:=ah.aT J.cells<|dX J.own J.cells aB;have c0:bz ch O.heap.size 53 2 a3 (xs++ [(A,aI)]).length (kG<|(xs++ [(A,aI)]).zip<|vs++ [a80]):=by
  have e0:xs.length=vs.length:=by have :=J.fl.1; rw [fP] at this; omega
  rw [List.zip_append e0,List.zip_cons_cons,List.zip_nil_right,JD,bL]; exact cZ
 have fo:=ah.size;have eE:=ah.B (Wk.B (aL.trans aF) cF) fun h=>by have :=(dQ J.own h).1; omega
 have eK:=ah.aT (Wk.aT aF cG) fun h=>by have :=(dQ aN.own h).2; omega
 have d4:Wk av ch:=(Y.trans<|aL.trans aF).trans' ah fun q C h=>by have :=(dQ J.own h).1; omega
 have b5:(fun w'=>Md (fun q=>va.ownBlock=some q) aq w') ch:=cA.trans' ah fun _ _ h=>h;refine ⟨b5,?_⟩;refine bN 8 aa (nc aa) b5<|bN 9 aa (fa zQ aa) b5<|dU 10 aa aj aj<|dx I7 aa aa (v:=a3) (fy cZ) aZ (by show _ < 2; omega) fun aC am dD=> ?_;have bk:aC.heap[E]? =some (.cells [a3,.map (some ac)].toArray 184 (0,0)):=dD;have fZ:=am.size;have d0:Wk av aC:=d4.trans' am fun q C h=>by omega
 have eF:=am.B eE fun h=>by omega
 have b7:=am.aT eK fun h=>by omega
 have cX:=dw c0 am fun q C h=>dX c0 aZ aB<|h ▸ C;have ex:Tg aC O.heap.size 95 aI.length a80 (aI.map bo):=((((((Tg.j6 e9).mono ab).wk bb.md).md a8<|fT cm aB).wk aF).md ah<|iW J.own aB).md am<|fT aZ aB;have eW:=((J.fl.md ah<|iW J.own aB).md am<|fT aZ aB).snoc ex;have ca:=(cN.md ah fun h=>pK J.own h fun cur z=>cN.pI).md am fun h=>by omega
 have bl:=(eY.md ah<|iW J.own aB).md am<|fT aZ aB;have cb:¬(((f<|str A).getD<|bW none 0 0).ownBlock=some E):=dX (bl.own A) bk aB;have cS:¬(((f<|str A).getD<|bW none 0 0).ownBlock=some bH):=dX (bl.own A) b7 aB;have cT:¬(((f<|str A).getD<|bW none 0 0).ownBlock=some ac):=fun h=>pK (bl.own A) h fun cur z=>ca.pI;refine eZ aj<|bA ?_;have G:(fun w'=>Md (fun q=>((f<|str A).getD<|bW none 0 0).ownBlock=some q) aC w') aC.drew:=(Md.refl _ _).drew;refine e5 (fun w'=>Md (fun q=>((f<|str A).getD<|bW none 0 0).ownBlock=some q) aC w') 16 aa wide G<|eJ 0 aa (aX (aV E) aa) G<|eJ 1 aa (nc aa) G<|eJ 2 aa (fa DF aa) G<|lq 3 aa aj (fun w' I=>ld BZ aa<|Md.aW I ((bg bk).trans aa) cb) G<|eJ 4 aa (fa DO aa) G<|lq 5 aa aj (fun w' I=>ld bX aa<|Md.aW I ((bg b7).trans aa) cS) G<|eJ 6 aa (aX (aV E) aa) G<|eJ 7 aa (nc aa) G<|eJ 8 aa (fa DF aa) G<|lq 9 aa aj (fun w' I=>ld BZ aa<|Md.aW I ((bg bk).trans aa) cb) G<|eJ 10 aa (fa DO aa) G<|lq 11 aa aj (fun w' I=>ld bX aa<|Md.aW I ((bg b7).trans aa) cS) G<|lq 12 aa aj (fun w' I=>mQ FR Bj ju (di.md (ca) I cT) aa aa (⟨_,aa⟩)<|aa) G<|eJ 13 aa (aX (ak i) aa) G<|gS 14 aa aj<|gz lG aa aa fun fE fu fI eg dE=> ?_;have ae:=iY eg.md;have aP:=bl.md ae fun _ hk=>hk.elim;have f0:=ae.size;have cC:(fun w'=>Md (fun q=>((f<|str A).getD<|bW none 0 0).ownBlock=some q) aC w') fu:=Md.mono ae fun _ _ h=>h.elim;refine ⟨cC,?_⟩;refine gS 15 aa aj<|ap lG (aP.own A) aa ab aa (aM.ec dE) (aa) (aa) (by have :=D9 A xs; omega) (by have :=D9 A xs; omega) fun ft c9 e7 an fk a1=> ?_;have fk:=an.size;have a1:=(ca.wk ae).md an cT;have fc:bz c9 O.heap.size 3 1 ft (idxs A xs++ [xs.length]).length ((idxs A xs++ [xs.length]).map bT):=by
  rw [bL,gW,c5]; exact e7
 have ew:(fun w'=>Md (fun q=>((f<|str A).getD<|bW none 0 0).ownBlock=some q) aC w') c9:=cC.trans' an fun _ _ h=>h;refine ⟨ew,?_⟩;refine dU 16 aa aj aj<|tK FR ju (a1) aa aa aa (⟨_,aa⟩) fun da aG ej=> ?_;have fd:=n9.put (x:=(A,aI)) aP an fc (fun cur z=>a1.pI) aG;have eP:=aG.aT (an.aT (Wk.aT ae bk) cb) fun h=>by omega
 have cY:=dw (a7 cX ae) an fun q C=>nI (a7 cX ae) (aP.own A) aB C;have e8:=dw cY aG fun q C h=>pK cY C fun cur z=>h ▸ a1.pI;have eX:=((eW.wk ae).md an<|iW (aP.own A) aB).md aG fun k hk cur z h=>a1.pI<|hk ▸ h;have eA:lO da O.heap.size E ac a3 (vs++ [a80]) (xs++ [(A,aI)]):=⟨eP,e8,by rw [gW]; exact eX,⟨_,ej,fd⟩⟩
 have d2:Wk av da:=((d0.trans ae).trans' an fun q C h=>by have :=(dQ (aP.own A) h).1; omega).trans' aG fun q C h=>by omega
 have eG:=aG.B (an.B (Wk.B ae eF) fun h=>by have :=(dQ (aP.own A) h).1; omega) fun h=>by omega
 have f8:=aG.size;exact eZ aj<|bn<|bv<|rg aa<|p (ad aa aa<|cB ab)<|p mv<|nl<|tn<|⟨_,ab,i+1,xs++ [(A,aI)],vs++ [a80],a3,ab,(by rw [bL,c5]; rfl),(by rw [show n - (i+1)=n - i - 1 by omega]; exact ai.step ab hex),eA,d2,eG,(ab),(by first | rfl | (rw [← cR]; rfl)),(by first | rfl | (rw [Z]; rfl)),(by first | rfl | (rw [Z]; rfl)),aa,aa⟩
 refine ext<|bf<|bf<|be<|dg<|az fun bv=>az fun bw=> ?_;obtain ⟨fD,cv,rfl⟩:=cJ aN.own;refine rg aa<|au (aV E)<|p (nc aa)<|p (fa zQ aa)<|p (ld wc aa<|(bg aN.cells).trans aa)<|p (bM A1 aa aa)<|au (ak n)<|p (lt aa aa)<|nl<|bw<|cd aa (fun eO=> ?_) fun eO=> ?_;refine ag fun aS=>au (.slice c6 (bP t).length wy)<|p (bM fq aa aa)<|p (bJ (((bP t).length+1:Nat):Int) aa aa<|bp ab ab)<|e<|cl uF (uK ((bP t).length+1:Nat) 116 ax) aa fun gs gv ek=> ?_;obtain ⟨rfl,bO⟩:=ek;have f2:=bO.size;refine p aE<|e<|dt km aa aa aa aa (Wk.B (Y.trans bO) aO) (by simp) fun gK eb dP=>nl<|aS<|rt<|tr<|eN aa eD (ed (cs:= [.int .i64 2,ak ((bP t).length+1),.int .i64 116]) aa lT aa fun j ao=>dP.bB j) ?_;rw [iJ ab] at ai;exact mC.no (ai.ends ab)<|(aA.trans<|Y.trans bO).trans' eb fun q C h=>by omega
 refine aQ<|bv<|ag fun aS=>au (aV E)<|p (dj (ps:= []) (L:= [.int .i64 0,.int .i64 0,.int .i64 0]) vp aa<|aa)<|p (cE (aV E) aa)<|e<|dt km aa aa aa aa (Wk.B Y aO) (by simp) fun gL cy dR=>nl<|aS<|rt<|eN aa eD (ed (cs:= [.int .i64 0,.int .i64 0,.int .i64 0]) aa lT aa fun j ao=>dR.bB j) ?_;rw [iJ ab,show n - i=0 by omega] at ai;have eB:=ai.done;have ey:TF ax [47] (fun q=>q=bK):=TF.eq (dN<|Wk.aT (hE22.trans<|hE31.trans Y) co) aB;unfold mC;rw [eB];exact ⟨⟨O.heap.size,E,ac,_,vs,ab,aa,aN.md cy ey aB (fun h=>by omega),ab,ab⟩,(aA.trans Y).trans' cy fun q C h=>by omega⟩
end Go.Hb.jq
end
section
namespace Go.Hb
open Go.Hb.gy Go.Hb.iw Go.Hb.jq
theorem adR {α:Type} {f:α×Value→List Value} {m c i:Nat} (A:∀ q,(f q).length=m) (C:c < m) (hs:∀ a u v,(f (a,u)).set c v=f (a,v)) {rs:List α} {vs:List Value} {v:Value} (hi:i < rs.length) (J:i < vs.length):((rs.zip vs).flatMap f).set (i*m+c) v=(rs.zip<|vs.set i v).flatMap f:=by
 obtain ⟨r,I⟩:∃ r,rs[i]? =some r:=⟨_,cx hi⟩
 obtain ⟨u,hu⟩:∃ u,vs[i]? =some u:=⟨_,cx J⟩
 have O:(rs.zip vs)[i]? =some (r,u):=jW.2 ⟨I,hu⟩;have Z:rs.zip (vs.set i v)=(rs.zip vs).set i (r,v):=by
  apply qw;intro j;rw [lK];by_cases E:i=j
  · subst E;rw [if_pos rfl,if_pos (fL.1 O).1];exact jW.2 ⟨I,by simp [J]⟩
  · rw [if_neg E];cases h1:(rs.zip vs)[j]? with
    | none=>
      rw [List.getElem?_eq_none_iff,BH] at h1 ⊢;rw [yz]; exact h1
    | some q=>
      have h2:=jW.1 h1;exact jW.2 ⟨h2.1,by rw [lK,if_neg E]; exact h2.2⟩
 have aa:(rs.zip vs).length=min rs.length vs.length:=BH;have G:((rs.zip vs).flatMap f).length=(rs.zip vs).length*m:=mL A _;have hle:i*m+m≤(rs.zip vs).length*m:=by rw [← Nat.succ_mul]; exact Nat.mul_le_mul_right _ ab
 rw [Z,Kz A _ ab];apply qw;intro j;have V:=fun c C=>zE A (c:=c) O C;have Y:(((rs.zip vs).flatMap f).take<|i*m).length=i*m:=by rw [dP,G]; omega
 rw [lK];by_cases h1:j < i*m
 · rw [if_neg ab,eS,ng ab,qz,if_pos h1]
 · rw [eS,nV ab,Y];by_cases h2:j < i*m+m
   · rw [ng (by rw [A]; omega)];obtain ⟨d,rfl⟩:∃ d,j=i*m+d:=⟨j - i*m,ab⟩
     rw [V d ab,show i*m+d - i*m=d by omega,← hs r u v,lK];by_cases h3:c=d
     · subst h3; rw [if_pos rfl,if_pos rfl,if_pos (by rw [G]; omega),if_pos (by rw [A]; exact C)]
     · rw [if_neg ab,if_neg h3]
   · rw [if_neg ab,nV (by rw [A]; omega),A,sR];congr 1; omega
theorem V8 {xs:List bC} {vs:List Value} {i:Nat} {v:Value} (hi:i < xs.length) (A:i < vs.length):(kG<|xs.zip vs).set (i*2 +1) v=kG (xs.zip<|vs.set i v):=adR (f:=qU) (m:=2) (c:=1) (fun _=>rfl) aB (fun _ _ _=>rfl) hi A
theorem wP {l:List (bC×Value)} {i:Nat} {q:bC×Value} (h:l[i]? =some q):kG l≠[]:=fun h2=>by
 have h3:=V0 l;have h4:=(fL.1 h).1;rw [h2] at h3;have h5:0=l.length*2:=h3;omega
theorem Q2 (l:List Nat):(l.map bT).all gw=true :=by
 rw [mz]; intro v A; obtain ⟨x,_,rfl⟩:=jn.1 A; rfl
theorem V7 {w:World} {B e:Nat} {xs:List bC} {vs:List Value} {E:List (List Nat)} (h:eL w B e vs E):(kG<|xs.zip vs).all gw=true :=by
 rw [mz];intro v A;obtain ⟨q,C,A⟩:=List.mem_flatMap.1 A;have h1:=mz.1 (yU h) q.2 (List.of_mem_zip C).2;simp only [qU,fG,vS,or_false] at A;rcases A with rfl | rfl
 · rfl
 · exact h1
def qE (w:World) (B:Nat) (vs:List Value) (A:List (List Nat)):Prop :=vs.length=A.length∧∀ (i:Nat) v l,vs[i]? =some v→A[i]? =some l→bz w B 95 1 v l.length (l.map bo)
theorem qE.t {w:World} {B:Nat} {vs:List Value} {A:List (List Nat)} (h:qE w B vs A):eL w B 95 vs A:=⟨h.1,fun i v l h1 h2=>Tg.j6<|h.2 i v l h1 h2⟩
theorem Hn {G:Nat→Prop} {w w':World} {B:Nat} {vs:List Value} {A:List (List Nat)} (h:qE w B vs A) (hm:Md G w w') (C:∀ k,G k→∀ cur z,w.heap[k]?≠some (.cells cur 95 z)):qE w' B vs A:=⟨h.1,fun i v l h1 h2=>dw (h.2 i v l h1 h2) hm fun k hk E=>pK (h.2 i v l h1 h2) hk<|C k E⟩
theorem Q6 (w:World) (B:Nat):qE w B [] []:=⟨rfl,fun i v l A=>by simp at A⟩
theorem Q5 {w:World} {B i:Nat} {vs:List Value} {A:List (List Nat)} {v:Value} (h:qE w B (vs.take i) (A.take i)) (hi:i < A.length) (I:i < vs.length) (G:bz w B 95 1 v (A.getD i []).length ((A.getD i []).map bo)):qE w B ((vs.set i v).take<|i+1) (A.take<|i+1):=by
 refine ⟨by simp; have :=h.1; simp at this; omega,fun j u l h1 h2=> ?_⟩;rw [qz] at h1 h2;by_cases C:j < i+1
 · rw [if_pos C] at h1 h2;rw [lK] at h1;by_cases E:i=j
   · subst E;rw [if_pos rfl,if_pos I] at h1;cases h1;rw [show A.getD i []=l by rw [cX,h2]; rfl] at G;exact G
   · rw [if_neg E] at h1;exact h.2 j u l (by rw [qz,if_pos ab]; exact h1)<|by rw [qz,if_pos ab]; exact h2
 · rw [if_neg C] at h1; cases h1
theorem VG (B wb mb:Nat) (va:Value) (vs:List Value) (xs:List bC) (w:World) (A:lO w B wb mb va vs xs) (Y:xs.length≤70000) (s:Tx):
 bm aw 161 (bh [aV wb,str s]) w (fun v w'=>bz w' w.heap.size 3 1 v (idxs s xs).length ((idxs s xs).map bT)∧Wk w w'):=by
 obtain ⟨f,O,V⟩:=A.mp;exact enter func161 aa ntmps161 aa<|ag fun C=>ay<|C<|az fun E=>ag fun G=>au (aV wb)<|p (ly FV aa aa)<|nl<|G<|cf (aa)<|aQ<|E<|az fun I=>rg aa<|au (aV wb)<|p (nc aa)<|p (fa DF aa)<|p (ld BZ aa<|(bg A.cells).trans aa)<|au (str s)<|p (mQ FR Bj ju (O) aa aa (⟨_,aa⟩)<|aa)<|e<|cl Sx (Ud _ (idxs s xs).length ((idxs s xs).map bT) w (Rd.j6<|V.own s) (Q2 _)<|by have :=D9 s xs; omega) aa fun Z ab J=>ay<|I<|rt<|a6 aa<|J
theorem Vy (B wb mb:Nat) (va:Value) (vs:List Value) (xs:List bC) (w:World) (I:lO w B wb mb va vs xs) (a0:xs.length≤70000) (aN:∀ x∈xs,x.2.length≤64):
 bm aw 42 (bh [aV wb]) w (fun v w'=>(∃ vs,bz w' w.heap.size 53 2 v xs.length (kG<|xs.zip vs)∧eL w' w.heap.size 95 vs (xs.map (·.2))∧qE w' w.heap.size vs (xs.map (·.2)))∧Wk w w'):=by
 refine enter func42 aa ntmps42 aa<|ag fun ap=>ay<|ap<|az fun av=>ag fun ax=>au (aV wb)<|p (ly FV aa aa)<|nl<|ax<|cf (aa)<|aQ<|av<|az fun aA=>rg aa<|au (aV wb)<|p (nc aa)<|p (fa zQ aa)<|p (ld wc aa<|(bg I.cells).trans aa)<|e<|cl TH (Ub va xs.length (kG<|xs.zip vs) w (Rd.j6 I.own) (V7 I.fl) ab) aa fun v11 a3 aI=> ?_;obtain ⟨al,aG⟩:=aI;obtain ⟨E,kF,rfl⟩:=cJ al;have aU:vs.length=xs.length:=by have :=I.fl.1; rwa [fP] at this
 refine ay<|aA<|az fun aC=>ag fun aD=>p mv<|p (bM A1 aa aa)<|p mv<|nl<|aD<|aT<|lp (fun aj ao G=> ∃ (i:Nat) (sa:List Value),(i≤xs.length)∧(sa.length=xs.length)∧(sa.drop i=vs.drop i)∧(qE G w.heap.size (sa.take i)<|(xs.map (·.2)).take i)∧(bz G w.heap.size 53 2 (.slice E xs.length kF) xs.length<|kG<|xs.zip sa)∧(Wk w G)∧(Sl ao [(3,.slice E xs.length kF),(13,ak (xs.length)),(14,ak i)])∧(xs.length - i=aj)) _ ⟨0,vs,ab,aU,aa,(Q6 _ _),al,aG,aa,aa⟩ ?_;rintro aj ao G ⟨i,sa,hi,aS,an,O,C,J,aR,rfl⟩;refine bG aR<|ag fun aE=>p (lt aa aa)<|nl<|aE<|az fun aF=>cd aa (fun aL=> ?_) fun aL=> ?_;refine aQ<|aF<|az fun V=>aT<|az fun aq=> ?_;obtain ⟨a2,aW,Z⟩:=eL.get (I.wk J).fl (show i < (xs.map (·.2)).length by rw [fP]; omega);obtain ⟨ai,ci,rfl⟩:=Z.slice;obtain ⟨x,ah⟩:∃ x,xs[i]? =some x:=⟨_,cx ab⟩
 have aY:(xs.map (·.2)).getD i []=x.2:=by rw [cX,List.getElem?_map,ah]; rfl
 have aX:=aN x<|gC ah;rw [← aY] at aX;have ae:(xs.zip sa)[i]? =some (x,.slice ai ((xs.map (·.2)).getD i []).length ci):=jW.2 ⟨ah,(C9 an).trans aW⟩;refine rg aa<|au (ak i)<|p (cE (ak i) aa)<|nl<|aq<|rg aa<|au (.slice E xs.length kF)<|au (ak i)<|au (.slice E xs.length kF)<|au (ak i)<|p (bc Df aa aa ab<|aM.ok ((ba C).2)<|wP ae)<|p (fa tk aa)<|p (ld od aa<|fC (f:=qU) (m:=2) (fun _=>rfl) (ba C).2 ae 1 aB)<|e<|cl uE (uG ai ((xs.map (·.2)).getD i []).length ci (((xs.map (·.2)).getD i []).map bo) G Z.dp.2 (by simp) (fun h=>Tg.vg Z (by simp) h) (ux _) ab) aa fun v24 a4 aJ=> ?_;obtain ⟨ac,A⟩:=aJ;have a1:=A.size;refine p (bc Df aa aa ab<|aM.ok ((ba<|a7 C A).2)<|wP ae)<|p (fa tk aa)<|e<|vq (j:=i*2 +1) (a7 C A) uJ aa aa (fy ac) (by rw [Int.toNat_natCast]; omega) ab fun aZ Y am=> ?_;rw [V8 ab ab] at am;have aH:Wk w aZ:=Wk.own (J.trans A) (a7 C A) Y ab;have aO:=dw (eQ ac (show w.heap.size≤G.heap.size from J.size)) Y fun q aP=>nI ac (a7 C A) aB aP;have aK:=Hn (Hn O A fun _ hk=>hk.elim) Y<|iW (a7 C A) aB;exact nl<|bn<|V<|rg aa<|p (ad aa aa<|cB ab)<|p mv<|nl<|tn<|⟨_,ab,i+1,sa.set i v24,ab,(by rw [yz]; exact aS),(iw.set_drop an),(Q5 aK (by rw [fP]; omega) ab aO),am,aH,aa,aa⟩
 refine ext<|bf<|bf<|be<|aC<|ag fun V=>au (.slice E xs.length kF)<|p (cE (.slice E xs.length kF) aa)<|nl<|V<|rt<|a6 aa ?_;rw [e9 ab,e9 (by rw [fP]; omega)] at O;exact ⟨⟨sa,C,O.t,O⟩,J⟩
end Go.Hb
end
section
namespace Go.Hb.jP
open Go.Hb.mB Go.Hb.oV
def oA (c:dy):List Value:= [bT c.flag,.int .i64 (c.kind:Nat),.bool c.eI,.int .i64 (c.first:Nat),.int .i64 (c.count:Nat)]
def r7 (l:List dy):List Value:=l.flatMap oA
def j4 (q:c7×Value):List Value:= [.int .i64 (q.1.kind:Nat),bT q.1.flag,.bool q.1.eI,str q.1.strip,str q.1.add,str q.1.cond,q.2,.int .i64 (q.1.line:Nat)]
def nA (l:List (c7×Value)):List Value:=l.flatMap j4
def ja (w:World) (B e:Nat) (vs:List Value) (A:List (List Nat)):Prop :=vs.length=A.length∧∀ (i:Nat) v l,vs[i]? =some v→A[i]? =some l→Tg w B e l.length v (l.map bT)
theorem ja.nil (w:World) (B e:Nat):ja w B e [] []:=⟨rfl,fun i v l A=>by simp at A⟩
theorem ja.md {F:Nat→Prop} {w w':World} {B e:Nat} {vs:List Value} {A:List (List Nat)} (h:ja w B e vs A) (hm:Md F w w') (C:∀ k,F k→∀ cur z,w.heap[k]?≠some (.cells cur e z)):ja w' B e vs A:=⟨h.1,fun i v l h1 h2=>(h.2 i v l h1 h2).md hm C⟩
theorem ja.wk {w w':World} {B e:Nat} {vs:List Value} {A:List (List Nat)} (h:ja w B e vs A) (hm:Wk w w'):ja w' B e vs A:=h.md hm fun _ hk=>hk.elim
theorem ja.snoc {w:World} {B e:Nat} {vs:List Value} {C:List (List Nat)} {v:Value} {l:List Nat} (A:ja w B e vs C) (G:Tg w B e l.length v (l.map bT)):ja w B e (vs++ [v]) (C++ [l]):=by
 refine ⟨by rw [bL,bL,A.1]; rfl,fun i I J h1 h2=> ?_⟩;have E:=A.1;by_cases hi:i < vs.length
 · rw [ng hi] at h1;rw [ng ab] at h2;exact A.2 i I J h1 h2
 · rw [nV ab] at h1;rw [nV ab,← E] at h2;cases hj:i - vs.length with
   | zero=>rw [hj] at h1 h2; cases h1; cases h2; exact G
   | succ j=>rw [hj] at h1; simp at h1
theorem ja.get {w:World} {B e i:Nat} {vs:List Value} {A:List (List Nat)} (h:ja w B e vs A) (hi:i < A.length):∃ v,vs[i]? =some v∧Tg w B e (A.getD i []).length v ((A.getD i []).map bT):=by
 have h1:i < vs.length:=by rw [h.1]; exact hi
 refine ⟨vs[i],cx h1,h.2 i _ _ (cx h1) ?_⟩;rw [cX,cx hi]; rfl
structure gI where
 rb:Nat
 fb:Nat
 eof:Nat
 vr:Value
 vs:List (Nat×Value)
 rows:List Rw
structure eF where
 v9:Value
 v10:Value
 v11:Value
 v12:Value
 sa:List Value
 rn:List Value
def pE (F:aU) (V:eF):List Value:= [.int .i64 (F.kind:Nat),str F.tg,str F.tr,bT (F.sp.getD 0 0),bT (F.sp.getD 1 0),bT (F.sp.getD 2 0),bT (F.sp.getD 3 0),bT (F.sp.getD 4 0),.int .i64 (F.least:Nat),V.v9,V.v10,V.v11,V.v12]
def Lk (H:gI) (k:Nat) (vh:Value) (ln:Nat):List Value:= [.pointer (some ⟨H.fb,0,none⟩),H.vr,.int .i64 (k:Nat),.int .i64 (H.eof:Nat),vh,.int .i64 (ln:Nat)]
structure eU (w:World) (B B0 fb:Nat) (F:aU) (V:eF):Prop where
 cells:w.heap[fb]? =some (.cells (pE F V).toArray 154 (0,0))
 o9:bz w B 351 2 V.v9 F.dA.length (lF F.dA)
 fk:bz w B 85 1 V.v10 F.aliases.length V.sa
 al:ja w B0 3 V.sa F.aliases
 eK:bz w B 216 5 V.v11 F.bE.length (r7 F.bE)
 dM:bz w B 214 8 V.v12 F.rules.length (nA<|F.rules.zip V.rn)
 nx:ja w B0 3 V.rn (F.rules.map (·.next))
 lo:B≤fb
 gr:F.sp.length=5
theorem eU.md {G:Nat→Prop} {w w':World} {B B0 fb:Nat} {F:aU} {V:eF} (h:eU w B B0 fb F V) (hm:Md G w w') {L:List Nat} (A:TF w L G) (C:(L.contains 156 || L.contains 353 || L.contains 87 || L.contains 5 || L.contains 218 || L.contains 216)=false):eU w' B B0 fb F V:=by
 simp only [oP] at C;obtain ⟨⟨⟨⟨⟨h1,h2⟩,h3⟩,h4⟩,h5⟩,h6⟩:=C;have E:∀ k,G k→∀ cur z,w.heap[k]?≠some (.cells cur 3 z):=fun k hk cur z I=>A.no (dN I) h4 hk;exact ⟨hm.iT A h.cells h1,cQ h.o9 hm A h2,cQ h.fk hm A h3,h.al.md hm E,cQ h.eK hm A h5,cQ h.dM hm A h6,h.nx.md hm E,h.lo,h.gr⟩
theorem eU.wk {w w':World} {B B0 fb:Nat} {F:aU} {V:eF} (h:eU w B B0 fb F V) (hm:Wk w w'):eU w' B B0 fb F V:=h.md (L:= []) hm (fun _ hk=>hk.elim) rfl
structure oY (w:World) (B B0 fb:Nat) (F:aU) (V:eF):Prop where
 cells:w.heap[fb]? =some (.cells (pE F V).toArray 154 (0,0))
 fk:bz w B 85 1 V.v10 F.aliases.length V.sa
 al:ja w B0 3 V.sa F.aliases
theorem eU.r {w:World} {B B0 fb:Nat} {F:aU} {V:eF} (h:eU w B B0 fb F V):oY w B B0 fb F V:=⟨h.cells,h.fk,h.al⟩
theorem oY.md {G:Nat→Prop} {w w':World} {B B0 fb:Nat} {F:aU} {V:eF} (h:oY w B B0 fb F V) (hm:Md G w w') {L:List Nat} (A:TF w L G) (C:(L.contains 156 || L.contains 87 || L.contains 5)=false):oY w' B B0 fb F V:=by
 simp only [oP] at C;obtain ⟨⟨h1,h3⟩,h4⟩:=C;exact ⟨hm.iT A h.cells h1,cQ h.fk hm A h3,h.al.md hm fun k hk cur z E=>A.no (dN E) h4 hk⟩
theorem oY.wk {w w':World} {B B0 fb:Nat} {F:aU} {V:eF} (h:oY w B B0 fb F V) (hm:Wk w w'):oY w' B B0 fb F V:=h.md (L:= []) hm (fun _ hk=>hk.elim) rfl
theorem eU.put {w w':World} {B B0 fb:Nat} {F F':aU} {V:eF} (h:eU w B B0 fb F V) (hm:Md (fun k=>k=fb) w w') (E:w'.heap[fb]? =some (.cells (pE F' V).toArray 154 (0,0))) (h1:F'.dA=F.dA) (h2:F'.aliases=F.aliases) (h3:F'.bE=F.bE) (h4:F'.rules=F.rules) (h5:F'.sp.length=5):eU w' B B0 fb F' V:=by
 have A:TF w [156] (fun k=>k=fb):=TF.eq (dN h.cells) aB;have C:∀ k,k=fb→∀ cur z,w.heap[k]?≠some (.cells cur 3 z):=fT h.cells aB;exact ⟨E,h1 ▸ cQ h.o9 hm A aB,h2 ▸ cQ h.fk hm A aB,h2 ▸ h.al.md hm C,h3 ▸ cQ h.eK hm A aB,h4 ▸ cQ h.dM hm A aB,h4 ▸ h.nx.md hm C,h.lo,h5⟩
theorem eU.Ca {w C J:World} {B B0 fb:Nat} {F:aU} {V:eF} {v:Value} {x:Tx×Tx} (h:eU w B B0 fb F V) (hm:Md (fun k=>V.v9.ownBlock=some k) w C) (Z:bz C B 351 2 v (F.dA++ [x]).length (lF<|F.dA++ [x])) (A:Md (fun k=>k=fb) C J) (aa:J.heap[fb]? =some (.cells (pE {F with dA:=F.dA++ [x]} {V with v9:=v}).toArray 154 (0,0))):eU J B B0 fb {F with dA:=F.dA++ [x]} {V with v9:=v} :=by
 have E:TF w [353] (fun k=>V.v9.ownBlock=some k):=TF.own h.o9 aB;have I:=hm.iT E h.cells aB;have G:TF C [156] (fun k=>k=fb):=TF.eq (dN I) aB;have O:∀ k,V.v9.ownBlock=some k→∀ cur z,w.heap[k]?≠some (.cells cur 3 z):=iW h.o9 aB;have Y:∀ k,k=fb→∀ cur z,C.heap[k]?≠some (.cells cur 3 z):=fT I aB;exact ⟨aa,dw Z A (fun k hk ab=>dX Z I aB<|ab ▸ hk),cQ (cQ h.fk hm E aB) A G aB,(h.al.md hm O).md A Y,cQ (cQ h.eK hm E aB) A G aB,cQ (cQ h.dM hm E aB) A G aB,(h.nx.md hm O).md A Y,h.lo,h.gr⟩
theorem eU.B8 {w C Y:World} {B B0 fb:Nat} {F:aU} {V:eF} {v:Value} {x:List Nat} {vx:Value} (h:eU w B B0 fb F V) (ac:Tg w B0 3 x.length vx (x.map bT)) (hm:Md (fun k=>V.v10.ownBlock=some k) w C) (Z:bz C B 85 1 v (F.aliases++ [x]).length (V.sa++ [vx])) (A:Md (fun k=>k=fb) C Y) (aa:Y.heap[fb]? =some (.cells (pE {F with aliases:=F.aliases++ [x]} {V with v10:=v,sa:=V.sa++ [vx]}).toArray 154 (0,0))):eU Y B B0 fb {F with aliases:=F.aliases++ [x]} {V with v10:=v,sa:=V.sa++ [vx]} :=by
 have E:TF w [87] (fun k=>V.v10.ownBlock=some k):=TF.own h.fk aB;have I:=hm.iT E h.cells aB;have G:TF C [156] (fun k=>k=fb):=TF.eq (dN I) aB;have J:∀ k,V.v10.ownBlock=some k→∀ cur z,w.heap[k]?≠some (.cells cur 3 z):=iW h.fk aB;have O:∀ k,k=fb→∀ cur z,C.heap[k]?≠some (.cells cur 3 z):=fT I aB;exact ⟨aa,cQ (cQ h.o9 hm E aB) A G aB,dw Z A (fun k hk ab=>dX Z I aB<|ab ▸ hk),((h.al.md hm J).md A O).snoc ((ac.md hm J).md A O),cQ (cQ h.eK hm E aB) A G aB,cQ (cQ h.dM hm E aB) A G aB,(h.nx.md hm J).md A O,h.lo,h.gr⟩
theorem eU.B9 {w C J:World} {B B0 fb:Nat} {F:aU} {V:eF} {v:Value} {x:dy} (h:eU w B B0 fb F V) (hm:Md (fun k=>V.v11.ownBlock=some k) w C) (Z:bz C B 216 5 v (F.bE++ [x]).length (r7<|F.bE++ [x])) (A:Md (fun k=>k=fb) C J) (aa:J.heap[fb]? =some (.cells (pE {F with bE:=F.bE++ [x]} {V with v11:=v}).toArray 154 (0,0))):eU J B B0 fb {F with bE:=F.bE++ [x]} {V with v11:=v} :=by
 have E:TF w [218] (fun k=>V.v11.ownBlock=some k):=TF.own h.eK aB;have I:=hm.iT E h.cells aB;have G:TF C [156] (fun k=>k=fb):=TF.eq (dN I) aB;have O:∀ k,V.v11.ownBlock=some k→∀ cur z,w.heap[k]?≠some (.cells cur 3 z):=iW h.eK aB;have Y:∀ k,k=fb→∀ cur z,C.heap[k]?≠some (.cells cur 3 z):=fT I aB;exact ⟨aa,cQ (cQ h.o9 hm E aB) A G aB,cQ (cQ h.fk hm E aB) A G aB,(h.al.md hm O).md A Y,dw Z A (fun k hk ab=>dX Z I aB<|ab ▸ hk),cQ (cQ h.dM hm E aB) A G aB,(h.nx.md hm O).md A Y,h.lo,h.gr⟩
theorem eU.yV {w C Y:World} {B B0 fb:Nat} {F:aU} {V:eF} {v:Value} {x:c7} {vx:Value} (h:eU w B B0 fb F V) (ac:Tg w B0 3 x.next.length vx (x.next.map bT)) (hm:Md (fun k=>V.v12.ownBlock=some k) w C) (Z:bz C B 214 8 v (F.rules++ [x]).length (nA<|(F.rules++ [x]).zip<|V.rn++ [vx])) (A:Md (fun k=>k=fb) C Y) (aa:Y.heap[fb]? =some (.cells (pE {F with rules:=F.rules++ [x]} {V with v12:=v,rn:=V.rn++ [vx]}).toArray 154 (0,0))):eU Y B B0 fb {F with rules:=F.rules++ [x]} {V with v12:=v,rn:=V.rn++ [vx]} :=by
 have E:TF w [216] (fun k=>V.v12.ownBlock=some k):=TF.own h.dM aB;have I:=hm.iT E h.cells aB;have G:TF C [156] (fun k=>k=fb):=TF.eq (dN I) aB;have J:∀ k,V.v12.ownBlock=some k→∀ cur z,w.heap[k]?≠some (.cells cur 3 z):=iW h.dM aB;have O:∀ k,k=fb→∀ cur z,C.heap[k]?≠some (.cells cur 3 z):=fT I aB;exact ⟨aa,cQ (cQ h.o9 hm E aB) A G aB,cQ (cQ h.fk hm E aB) A G aB,(h.al.md hm J).md A O,cQ (cQ h.eK hm E aB) A G aB,dw Z A (fun k hk ab=>dX Z I aB<|ab ▸ hk),(by rw [gW]; exact ((h.nx.md hm J).md A O).snoc<|(ac.md hm J).md A O),h.lo,h.gr⟩
structure iP (w:World) (B:Nat) (H:gI) (k ln:Nat) (seen:List Tx) (vh:Value):Prop where
 cells:w.heap[H.rb]? =some (.cells (Lk H k vh ln).toArray 208 (0,0))
 hd:bz w B 9 1 vh seen.length (seen.map str)
 lo:B≤H.rb
section
variable {w w':World} {B k ln:Nat} {H:gI} {seen:List Tx} {vh:Value}
theorem iP.md {G:Nat→Prop} (h:iP w B H k ln seen vh) (hm:Md G w w') {L:List Nat} (C:TF w L G) (A:(L.contains 210 || L.contains 11)=false):iP w' B H k ln seen vh:=by
 simp only [oP] at A;exact ⟨hm.iT C h.cells A.1,cQ h.hd hm C A.2,h.lo⟩
theorem iP.wk (h:iP w B H k ln seen vh) (hm:Wk w w'):iP w' B H k ln seen vh:=h.md (L:= []) hm (fun _ hk=>hk.elim) rfl
theorem iP.fb {B0:Nat} {A:aU} {V:eF} (h:iP w B H k ln seen vh) (C:eU w B B0 H.fb A V) (hm:Md (fun k=>k=H.fb) w w'):iP w' B H k ln seen vh:=h.md hm (TF.eq (L:= [156]) (dN C.cells) aB) aB
theorem iP.own {B' e s n:Nat} {v:Value} {xs:List Value} (h:iP w B H k ln seen vh) (C:bz w B' e s v n xs) (hm:Md (fun k=>v.ownBlock=some k) w w') (A:([e+2].contains 210 || [e+2].contains 11)=false):iP w' B H k ln seen vh:=h.md hm (TF.own (L:= [e+2]) C<|by simp) A
theorem iP.p9 {cs:Array Value} {z:Nat×Nat} (h:iP w B H k ln seen vh) (A:w.heap[H.fb]? =some (.cells cs 154 z)) (hm:Md (fun k=>k=H.fb) w w'):iP w' B H k ln seen vh:=h.md hm (TF.eq (L:= [156]) (dN A) aB) aB
theorem iP.dT {k' ln':Nat} (h:iP w B H k ln seen vh) (hm:Md (fun k=>k=H.rb) w w') (A:w'.heap[H.rb]? =some (.cells (Lk H k' vh ln').toArray 208 (0,0))):iP w' B H k' ln' seen vh:=⟨A,cQ h.hd hm (TF.eq (L:= [210]) (dN h.cells) aB) aB,h.lo⟩
theorem eU.rb {B0:Nat} {A:aU} {V:eF} (h:eU w B B0 H.fb A V) (C:iP w B H k ln seen vh) (hm:Md (fun k=>k=H.rb) w w'):eU w' B B0 H.fb A V:=h.md hm (TF.eq (L:= [210]) (dN C.cells) aB) aB
end
structure oW (F:aU) (rows:List Rw) (seen:List Tx):Prop where
 len:F.dA.length+F.aliases.length+F.bE.length+F.rules.length+rows.length≤70000
 sl:seen.length+rows.length≤70000
 row:∀ q∈rows,q.2≠[]∧q.2.length≤70000∧∀ x∈q.2,x.length≤70000
 kd:F.kind=1∨F.kind=2∨F.kind=3
def GS (A:World) (H:gI):Prop := ∃ B0,Tg A B0 209 H.rows.length H.vr (lg H.vs)∧iQ A B0 9 H.vs H.rows∧H.rows.length≤70000
def ni (A w:World) (H:gI) (F:aU) (k ln:Nat) (seen:List Tx):Prop := ∃ V vh,eU w A.heap.size 0 H.fb F V∧iP w A.heap.size H k ln seen vh∧oW F (H.rows.drop k) seen∧Wk A w∧k≤H.rows.length
def QF (w':World) (H:gI) (X:Except (Nat×Nat) (aU×List Rw)) (v:Value):Prop := ∃ l e:Nat,X= .error (l,e)∧e≠0∧v= .int .i64 (e:Nat)∧Hb.aW w'.heap H.rb 5=some (.int .i64 (l:Nat))
def gj (A:World) (H:gI) (seen:List Tx) (X:Except (Nat×Nat) (aU×List Rw)) (v:Value) (w':World):Prop :=((∃ F' k' ln',X= .ok (F',H.rows.drop k')∧v= .int .i64 (0:Nat)∧ni A w' H F' k' ln' seen)∨QF w' H X v)∧Wk A w'
theorem oW.qT {F:aU} {q:Rw} {rest:List Rw} {seen:List Tx} (h:oW F (q::rest) seen):oW F rest seen:=⟨by have :=h.len; simp only [cV] at this; omega,by have :=h.sl; simp only [cV] at this; omega,fun A h2=>h.row A (nW _ h2),h.kd⟩
theorem iP.dC {w:World} {B:Nat} {H:gI} {k ln:Nat} {seen:List Tx} {vh:Value} (h:iP w B H k ln seen vh):Hb.aW w.heap H.rb 5=some (.int .i64 (ln:Nat)):=(bg h.cells).trans rfl
theorem GS.get {E w:World} {H:gI} {k:Nat} (h:GS E H) (hm:Wk E w) (hk:k < H.rows.length):∃ n r ar cr a c,H.rows.drop k=(n,r)::H.rows.drop (k+1)∧H.vr= .slice a H.rows.length c∧aM w.heap a (lg H.vs)∧H.vs[k]? =some (n,.slice ar r.length cr)∧(∃ B0,Tg E B0 9 r.length (.slice ar r.length cr) (r.map str))∧H.vs.length=H.rows.length:=by
 obtain ⟨B0,h1,h2,_⟩:=h;obtain ⟨a,c,I⟩:=h1.slice;have J:=h2.1;obtain ⟨q,C⟩:∃ q,H.rows[k]? =some q:=⟨_,cx hk⟩
 obtain ⟨n,r⟩:=q;obtain ⟨p,hp⟩:∃ p,H.vs[k]? =some p:=⟨_,cx ab⟩
 obtain ⟨G,A⟩:=h2.2 k p (n,r) hp C;obtain ⟨O,V⟩:=p;simp only at G A;subst G;obtain ⟨ar,cr,rfl⟩:=A.slice;rw [I] at h1;refine ⟨O,r,ar,cr,a,c,?_,I,(h1.wk hm).dp.2,hp,⟨B0,A⟩,J⟩;rw [PU hk];rw [cx hk] at C;rw [vW C]
end Go.Hb.jP
end
namespace Go.Hb
theorem ZL {l:List UInt8} {j:Nat} {b:UInt8} (h:j < l.length):b∈l.take (j+1)↔b∈l.take j∨l.getD j 0=b:=by
 rw [fV l j 0 h,jm,iK,eq_comm (a:=b)]
theorem xP (s:List UInt8) (w:World) (hs:s.length≤1048576):
 bm aw 154 (bh [str s]) w (fun v w'=>v= .bool (gQ s)∧Wk w w'):=by
 refine enter func154 aa ntmps154 aa<|ag fun Y=>ay<|Y<|az fun Z=>ag fun ac=>ay<|ac<|aT<|lp (fun I V O=> ∃ (i:Nat),(i≤s.length)∧(∀ j,j < i→jr (s.getD j 0)=true)∧(Wk w O)∧(Sl V [(0,str s),(3,.int .i64 i)])∧(s.length - i=I)) _ ⟨0,ab,(fun j J=>by omega),(Md.refl _ _),aa,aa⟩ ?_;rintro I V O ⟨i,hi,hp,A,al,rfl⟩;refine bG al<|az fun ae=>ag fun ah=>au (.int .i64 i)<|au (str s)<|p (cR u9 aa aa)<|p (lt aa aa)<|nl<|ah<|cd aa (fun aj=> ?_) fun aj=> ?_;refine aQ<|ae<|az fun C=>aT<|ag fun G=>au (str s)<|au (.int .i64 i)<|p (fj u9 aa aa ab)<|p (lt aa aa)<|p mv<|gs (t:=14) aa (fun ak=> ?_) fun ak=> ?_;exact aH aa<|aH aa<|aH aa<|aH aa<|p (bH aa)<|nl<|G<|ct aa<|ag fun E=>ay<|E<|rt<|br<|tr<|tr<|br<|tr<|a6 aa<|⟨by show ca false =_; rw [uD (i:=i) ab (Dp ab)],A⟩
 refine aJ aa (aX (str s) aa)<|aJ aa (aX (.int .i64 i) aa)<|aJ aa (fj u9 aa aa ab)<|aJ aa (bQ aa aa)<|p (bA aa)<|nl<|G<|cd aa (fun ai=> ?_) fun ai=> ?_;exact ag fun E=>ay<|E<|rt<|br<|tr<|tr<|br<|tr<|a6 aa<|⟨by show ca false =_; rw [uD (i:=i) ab (Dp ab)],A⟩
 have am:jr (s.getD i 0)=true :=WM ab ab;exact aQ<|bn<|C<|rg aa<|au (.int .i64 i)<|p (ad aa aa<|cB ab)<|p aE<|nl<|tn<|⟨_,ab,i+1,ab,(fun j J=>by rcases fM j i with h | h <;> first | exact hp j h | (rw [show j=i by omega]; exact am)),A,aa,aa⟩
 exact ext<|bf<|bf<|be<|Z<|ag fun C=>p aE<|nl<|C<|rt<|a6 aa<|⟨by show ca true =_; rw [wq (fun j J=>hp j ab)],A⟩
theorem AG (s:List UInt8) (w:World) (hs:s.length≤1048576):
 bm aw 158 (bh [str s]) w (fun v w'=>v=Nj (bF s)∧Wk w w'):=by
 refine enter func158 aa ntmps158 aa<|ag fun aq=>p aE<|p aE<|p aE<|ay<|aq<|ag fun aC=>e<|mG iX fun ai bg bk aU aN=> ?_;have a9:bz bg w.heap.size 5 1 (.slice (some ⟨ai,0,none⟩) 0 0) (([]:List UInt8)).length (U8<|([]:List UInt8)):=aN _ ab;refine ay<|aC<|ag fun aD=>ay<|aD<|az fun aF=>aT<|lp (fun ak an G=> ∃ (i:Nat) (acc:List UInt8) (ae:Value),(i≤s.length∧acc.length≤i)∧(bz G w.heap.size 5 1 (ae) (acc).length<|U8<|acc)∧(Wk w G)∧(jV acc (s.drop i)=bF s)∧(Sl an [(0,str s),(6,ae),(7,.int .i64 i)])∧(s.length - i=ak)) _ ⟨0,[],.slice (some ⟨ai,0,none⟩) 0 0,(by simp),a9,aU.md,aa,aa,aa⟩ ?_;rintro ak an G ⟨i,acc,ae,hi,E,C,hd,bb,rfl⟩;refine bG bb ?_;obtain ⟨O,V,rfl⟩:=cJ E;refine az fun aG=>ag fun aI=>au (.int .i64 i)<|au (str s)<|p (cR u9 aa aa)<|p (lt aa aa)<|nl<|aI<|cd aa (fun aY=> ?_) fun aY=> ?_;refine aQ<|aG<|aT<|az fun Z=>ag fun aK=>au (str s)<|au (.int .i64 i)<|p (fj u9 aa aa ab)<|p (bQ aa aa)<|nl<|aK<|cd aa (fun aZ=> ?_) fun aZ=> ?_;have aW:(s.getD i 0).toNat=47:=ab;refine az fun J=> ?_;have A:(fun w'=>Wk G w') G.drew:=(Md.refl _ _).drew;exact bY (fun w'=>Wk G w') aa wide A<|bO 0 aa (.slice O acc.length V) A<|bO 2 aa (str s) A<|bO 3 aa (.int .i64 i) A<|aR 4 aa (bJ ((i+1:Nat):Int) aa aa<|bp ab ab) A<|aR 5 aa (mX u9 aa aa ab) A<|bR 1 aa (fun w' aV=>ot oh aa ((ba<|a7 E aV).2)<|aa) A<|aR 6 aa (aE) A<|aR 7 aa (aE) A<|aR 8 aa (aE) A<|aR 9 aa (aE) A<|hn aj<|J<|rt<|tr<|br<|tr<|br<|tr<|f4 aa aa aa aa aa<|⟨by rw [← hd,drop_cons 0 (by omega :i < s.length),F8 aW]; rfl,Md.trans C (Md.refl _ _).drew⟩
 refine aQ<|Z ?_;refine eo (fun ao ah=> ∃ (k:Nat),(k < s.length∧i≤k∧k≤i+1)∧(Wk w ah)∧(bz ah w.heap.size 5 1 (.slice O acc.length V) (acc).length<|U8<|acc)∧(jV (acc++ [s.getD k 0]) (s.drop<|k+1)=bF s)∧(Sl ao [(0,str s),(6,.slice O acc.length V),(7,.int .i64 k)])) ?_ ?_;refine ag fun J=>au (str s)<|au (.int .i64 i)<|p (fj u9 aa aa ab)<|p (bQ aa aa)<|nl<|J<|cd aa (fun a0=> ?_) fun a0=> ?_;have Y:(s.getD i 0).toNat=92:=ab;refine ag fun av=>au (.int .i64 i)<|p (bJ ((i+1:Nat):Int) aa aa<|bp ab ab)<|ay<|av<|az fun ax=>ag fun aA=>p mv<|au (str s)<|p (cR u9 aa aa)<|p (ge aa aa)<|nl<|aA<|cd aa (fun a1=> ?_) fun a1=> ?_;exact ag fun I=>p aE<|p aE<|p aE<|ay<|I<|rt<|tr<|tr<|br<|tr<|br<|tr<|f4 aa aa aa aa aa<|⟨by rw [← hd,drop_cons 0 (by omega :i < s.length),iJ ab,F5 Y]; rfl,C⟩
 refine aQ<|ax<|ag fun I=>au (str s)<|p mv<|p (fj u9 aa aa ab)<|p (dd aa aa)<|p mv<|gs (t:=37) aa (fun a4=> ?_) fun a4=> ?_;refine aJ aa (aX (str s) aa)<|aJ aa mv<|aJ aa (fj u9 aa aa ab)<|aJ aa (dd aa aa)<|p (bH aa)<|p mv<|gs (t:=43) aa (fun a5=> ?_) fun a5=> ?_;refine aJ aa (aX (str s) aa)<|aJ aa mv<|aJ aa (fj u9 aa aa ab)<|aJ aa (dd aa aa)<|p (bH aa)<|nl<|I<|cd aa (fun a2=> ?_) fun a2=> ?_;exact ag fun aB=>p aE<|p aE<|p aE<|ay<|aB<|rt<|tr<|br<|tr<|br<|tr<|f4 aa aa aa aa aa<|⟨by rw [← hd,drop_cons 0 (by omega :i < s.length),drop_cons 0 (by omega :i+1 < s.length),F6 Y (by rw [lW]; exact decide_eq_false ab)]; rfl,C⟩
 exact aQ<|tn<|⟨i+1,ab,C,E,(by rw [← hd,drop_cons 0 (by omega :i < s.length),drop_cons 0 (by omega :i+1 < s.length),yb Y (by rw [lW]; exact decide_eq_true ab)]),aa⟩
 exact aH aa<|aH aa<|aH aa<|aH aa<|p (bA aa)<|nl<|I<|cf aa<|aQ<|tn<|⟨i+1,ab,C,E,(by rw [← hd,drop_cons 0 (by omega :i < s.length),drop_cons 0 (by omega :i+1 < s.length),yb Y (by rw [lW]; exact decide_eq_true ab)]),aa⟩
 exact aH aa<|aH aa<|aH aa<|aH aa<|p (bA aa)<|p mv<|aH aa<|aH aa<|aH aa<|aH aa<|p (bA aa)<|nl<|I<|cf aa<|aQ<|tn<|⟨i+1,ab,C,E,(by rw [← hd,drop_cons 0 (by omega :i < s.length),drop_cons 0 (by omega :i+1 < s.length),yb Y (by rw [lW]; exact decide_eq_true ab)]),aa⟩
 exact aQ<|tn<|⟨i,ab,C,E,(by rw [← hd,drop_cons 0 (by omega :i < s.length),F7 ab ab]),aa⟩
 rintro ao ah ⟨k,hk,aP,am,a3,bc⟩;refine bG bc<|ag fun J=>au (.slice O acc.length V)<|au (str s)<|au (.int .i64 k)<|p (fj u9 aa aa ab)<|e<|gz iX aa aa fun bi bd bj ac aL=> ?_;have al:Wk w bd:=Md.trans aP ac.md;refine e<|ap iX (a7 am ac.md) aa (by have :=al.size; omega) aa (aM.ec aL) (aa) (aa) ab ab fun v54 bq a6 aS bo bl=> ?_;have aO:=Wk.own al (a7 am ac.md) aS<|cU _;have a8:=sr a6;exact ay<|J<|rg aa<|au (.int .i64 k)<|p (bJ ((k+1:Nat):Int) aa aa<|bp ab ab)<|p aE<|nl<|bn<|tn<|⟨_,ab,k+1,acc++ [s.getD k 0],v54,(by rw [bL,fu]; omega),a8,aO,a3,aa,aa⟩
 refine ext<|bf<|bf<|be<|aF<|ag fun Z=>au (.slice O acc.length V)<|p (ot oh aa ((ba E).2)<|aa)<|p aE<|p aE<|p aE<|ay<|Z<|rt<|f4 aa aa aa aa aa ?_;exact ⟨by rw [← hd,iJ ab,Bf]; rfl,C⟩
theorem abq (s:List UInt8) (w:World) (hs:s.length≤1048576):
 bm aw 155 (bh [str s]) w (fun v w'=>v= .tuple #[str (letE s).1,.int .i64 (letE s).2]∧Wk w w'):=by
 refine enter func155 aa ntmps155 aa<|ag fun aV=>p aE<|ay<|aV<|ag fun a1=>au (str s)<|e<|cl wx (xP s _ hs) aa fun v10 bB bg=> ?_;obtain ⟨rfl,am⟩:=bg;refine ay<|a1<|az fun a2=>ag fun aN=>au (str s)<|p (cR u9 aa aa)<|p (bQ aa aa)<|p mv<|gs (t:=14) aa (fun aC=> ?_) fun aC=> ?_;exact aH aa<|aH aa<|p (bH aa)<|nl<|aN<|ct aa<|ag fun ac=>p aE<|ay<|ac<|rt<|tr<|f2 aa aa aa<|⟨by show gV #[str [],.int .i64 21]=_; unfold letE; rw [if_pos (.inl<|yy.1 ab)]; rfl,am⟩
 refine aJ aa mv<|aJ aa (no aa)<|p (bA aa)<|nl<|aN<|cb aa (fun an=> ?_) fun an=> ?_;exact ag fun ac=>p aE<|ay<|ac<|rt<|tr<|f2 aa aa aa<|⟨by show gV #[str [],.int .i64 21]=_; unfold letE; rw [if_pos (.inr<|by simpa using an)]; rfl,am⟩
 refine aQ<|a2<|ag fun ac=>e<|mG iX fun aO aP bw bd a9=> ?_;have br:bz aP w.heap.size 5 1 (.slice (some ⟨aO,0,none⟩) 0 0) (([]:List UInt8)).length (U8<|([]:List UInt8)):=a9 _<|by have :=am.size; omega
 have bb:Wk w aP:=Md.trans am bd.md;refine ay<|ac<|az fun a3=>ag fun a4=>p aE<|nl<|a4<|aT<|lp (fun ae aS aq=> ∃ (i:Nat) (aG:Value),(i≤s.length)∧(bz aq w.heap.size 5 1 (aG) (lets<|s.take i).length<|U8<|lets<|s.take i)∧(Wk w aq)∧(Sl aS [(0,str s),(5,aG),(6,.int .i64 i)])∧(s.length - i=ae)) _ ⟨0,.slice (some ⟨aO,0,none⟩) 0 0,ab,br,bb,aa,aa⟩ ?_;rintro ae aS aq ⟨i,aG,hi,E,ah,bs,rfl⟩;refine bG bs ?_;obtain ⟨G,I,rfl⟩:=cJ E;have bo:=Ek<|s.take i;rw [dP] at bo;refine az fun a5=>ag fun a6=>au (.int .i64 i)<|au (str s)<|p (cR u9 aa aa)<|p (lt aa aa)<|nl<|a6<|cd aa (fun bk=> ?_) fun bk=> ?_;refine aQ<|a5<|az fun Y=>aT<|ag fun aY=>p aE<|nl<|aY<|az fun aK=>ag fun aZ=>ay<|aZ<|aT ?_;refine lp (fun ae aU al=> ∃ (j:Nat) (ob:Bool),(j≤(lets<|s.take i).length)∧(ob=decide (s.getD i 0∈(lets<|s.take i).take j))∧(Wk aq al)∧(Sl aU [(0,str s),(5,.slice G (lets<|s.take i).length I),(6,.int .i64 i),(7,.bool ob),(8,.int .i64 j)])∧((lets<|s.take i).length - j=ae)) _ ⟨0,false,ab,aa,(Md.refl _ _),aa,aa⟩ ?_;rintro ae aU al ⟨j,ob,bx,ao,A,bt,rfl⟩;refine bG bt<|az fun a0=>ag fun aL=>au (.int .i64 j)<|au (.slice G (lets<|s.take i).length I)<|p (bM nQ aa aa)<|p (lt aa aa)<|p mv<|gs (t:=29) aa (fun bp=> ?_) fun bp=> ?_;refine aJ aa (aX (.bool ob) aa)<|aJ aa (no aa)<|p (bH aa)<|nl<|aL<|cb aa (fun aB=> ?_) fun aB=> ?_;have bq:¬s.getD i 0∈(lets<|s.take i).take j:=of_decide_eq_false<|by rw [← ao]; simpa using aB
 refine aQ<|a0<|az fun Z=>aT ?_;have C:(fun w'=>Wk al w') al.drew:=(Md.refl _ _).drew;exact bY (fun w'=>Wk al w') aa wide C<|bO 0 aa (.slice G (lets<|s.take i).length I) C<|bO 1 aa (.int .i64 j) C<|aR 2 aa (bc mK aa aa ab<|aM.ok ((ba<|a7 E A).2)<|ri ab) C<|bR 3 aa (fun w' bi=>ld qN aa<|Wk.aW bi<|rh (i:=j) (ba<|a7 E A).2 ab) C<|bO 4 aa (str s) C<|bO 5 aa (.int .i64 i) C<|aR 6 aa (fj u9 aa aa ab) C<|aR 7 aa (bQ aa aa) C<|aR 8 aa (aE) C<|hn aj<|bn<|Z<|rg aa<|au (.int .i64 j)<|p (ad aa aa<|cB ab)<|p aE<|nl<|tn<|⟨_,ab,j+1,decide (((lets<|s.take i).getD j 0).toNat=((s.getD i 0).toNat:Int)),ab,(decide_eq_decide.2<|by rw [ZL ab]; constructor <;> intro h <;> first | exact .inr (lM.1 ab) | (rcases h with h | h <;> first | exact absurd h bq | (rw [h]))),(Md.trans A (Md.refl _ _).drew),aa,aa⟩
 have ak:ob=decide (s.getD i 0∈lets (s.take i)):=by
  have h1:ob=true :=by simpa using aB
  rw [h1] at ao;rw [h1]; exact (decide_eq_true<|Qb<|of_decide_eq_true ao.symm).symm
 refine ext<|bf<|bf<|be<|aK<|ag fun Z=>au (.bool ob)<|p (no aa)<|nl<|Z<|cb aa (fun O=> ?_) fun O=> ?_;have V:¬s.getD i 0∈lets (s.take i):=of_decide_eq_false<|by rw [← ak]; simpa using O
 refine rg aa<|au (.slice G (lets<|s.take i).length I)<|au (str s)<|au (.int .i64 i)<|p (fj u9 aa aa ab)<|e<|gz iX aa aa fun a8 aI bj J av=> ?_;have ai:Wk w aI:=Md.trans (Md.trans ah A) J.md;refine e<|ap iX (a7 (a7 E A) J.md) aa (by have :=ai.size; omega) aa (aM.ec av) (aa) (aa) ab ab fun v50 bv aD aA bu bl=> ?_;have ax:=Wk.own ai (a7 (a7 E A) J.md) aA<|cU _;have aF:=sr aD;exact p aE<|nl<|bn<|Y<|rg aa<|au (.int .i64 i)<|p (ad aa aa<|cB ab)<|p aE<|nl<|tn<|⟨_,ab,i+1,v50,ab,(by rw [se ab,if_neg V]; exact aF),ax,aa,aa⟩
 have V:s.getD i 0∈lets (s.take i):=of_decide_eq_true<|by rw [← ak]; simpa using O
 exact aQ<|bn<|Y<|rg aa<|au (.int .i64 i)<|p (ad aa aa<|cB ab)<|p aE<|nl<|tn<|⟨_,ab,i+1,.slice G (lets<|s.take i).length I,ab,(by rw [se ab,if_pos V]; exact a7 E A),(Md.trans ah A),aa,aa⟩
 have ak:ob=decide (s.getD i 0∈lets (s.take i)):=by rw [ao,e9 ab]
 refine aH aa<|aH aa<|p (bA aa)<|nl<|aL<|cf aa<|ext<|bf<|bf<|be<|aK<|ag fun Z=>au (.bool ob)<|p (no aa)<|nl<|Z<|cb aa (fun O=> ?_) fun O=> ?_;have V:¬s.getD i 0∈lets (s.take i):=of_decide_eq_false<|by rw [← ak]; simpa using O
 refine rg aa<|au (.slice G (lets<|s.take i).length I)<|au (str s)<|au (.int .i64 i)<|p (fj u9 aa aa ab)<|e<|gz iX aa aa fun a8 aI bj J av=> ?_;have ai:Wk w aI:=Md.trans (Md.trans ah A) J.md;refine e<|ap iX (a7 (a7 E A) J.md) aa (by have :=ai.size; omega) aa (aM.ec av) (aa) (aa) ab ab fun v50 bv aD aA bu bl=> ?_;have ax:=Wk.own ai (a7 (a7 E A) J.md) aA<|cU _;have aF:=sr aD;exact p aE<|nl<|bn<|Y<|rg aa<|au (.int .i64 i)<|p (ad aa aa<|cB ab)<|p aE<|nl<|tn<|⟨_,ab,i+1,v50,ab,(by rw [se ab,if_neg V]; exact aF),ax,aa,aa⟩
 have V:s.getD i 0∈lets (s.take i):=of_decide_eq_true<|by rw [← ak]; simpa using O
 exact aQ<|bn<|Y<|rg aa<|au (.int .i64 i)<|p (ad aa aa<|cB ab)<|p aE<|nl<|tn<|⟨_,ab,i+1,.slice G (lets<|s.take i).length I,ab,(by rw [se ab,if_pos V]; exact a7 E A),(Md.trans ah A),aa,aa⟩
 exact ext<|bf<|bf<|be<|a3<|ag fun Y=>au (.slice G (lets<|s.take i).length I)<|p (ot oh aa ((ba E).2)<|aa)<|p aE<|ay<|Y<|rt<|f2 aa aa aa<|⟨by show gV #[str (lets<|s.take i),.int .i64 0]=_; unfold letE; rw [if_neg (fun h=>h.elim (fun h=>by rw [h] at aC; exact aC aa) fun h=>by rw [h] at an; cases an),show s.take i=s from e9 ab]; rfl,ah⟩
end Go.Hb
section
namespace Go.Hb.yJ
open Go.Hb.gy
theorem acT {L:List Nat} (h:¬L.length≤64) (h2:L.length≤65) {M:List Nat} (h1:L=M.take 65) (x:Nat):L=(M++ [x]).take 65:=by
 have h3:=congrArg j7 h1;rw [dP] at h3;rw [List.take_append_of_le_length ab,← h1]
theorem acU {L:List Nat} (h:L.length≤64) {M:List Nat} (h1:L=M.take 65) (x:Nat):L++ [x]=(M++ [x]).take 65:=by
 have h3:=congrArg j7 h1;rw [dP] at h3;rw [e9 (by rw [bL,fu]; omega)];rw [e9 ab] at h1; rw [h1]
theorem adh {l out:List Nat} {nx:Int} (h:rJ l out nx) (E:nx < 65536):out.length≤65536:=by
 have h1:∀ x∈out,x < 65536:=fun x A=>by have :=((h.2 x).1 A).2; omega
 have h2:out.Nodup:=h.1.imp fun C=>by omega
 have h3:=List.Nodup.length_le_of_subset h2 fun x A=>List.mem_range.2<|h1 x A;simpa using h3
theorem Fi (b:UInt8) (w:World):
 bm aw 272 (bh [.int .u8 b.toNat]) w (fun v w'=>v= .bool (jK b)∧Wk w w'):=by
 refine enter func272 aa ntmps272 aa<|ag fun C=>ay<|C<|ag fun A=>au (.int .u8 b.toNat)<|p (ge aa aa)<|p mv<|gs (t:=5) aa (fun I=> ?_) fun I=> ?_;refine aJ aa (aX (.int .u8 b.toNat) aa)<|aJ aa (le aa aa)<|p (bH aa)<|p mv<|gs (t:=9) aa (fun J=> ?_) fun J=> ?_;refine aJ aa (aX (.int .u8 b.toNat) aa)<|aJ aa (dd aa aa)<|p (bH aa)<|p mv<|gs (t:=13) aa (fun E=> ?_) fun E=> ?_;refine aJ aa (aX (.int .u8 b.toNat) aa)<|aJ aa (dd aa aa)<|p (bH aa)<|p mv<|gs (t:=17) aa (fun G=> ?_) fun G=> ?_;exact aJ aa (aX (.int .u8 b.toNat) aa)<|aJ aa (dd aa aa)<|p (bH aa)<|ay<|A<|rt<|a6 aa<|⟨by show ca (decide _)=_; rw [qm]; exact bv (by constructor <;> intro h <;> first | exact ⟨ab,ab,ab,ab,h⟩ | exact h.2.2.2.2),Md.refl _ _⟩
 exact aH aa<|aH aa<|p (bA aa)<|ay<|A<|rt<|a6 aa<|⟨by show ca false =_; rw [qm,decide_eq_false ab],Md.refl _ _⟩
 exact aH aa<|aH aa<|p (bA aa)<|p mv<|aH aa<|aH aa<|p (bA aa)<|p aE<|nl<|A<|rt<|a6 aa<|⟨by show ca false =_; rw [qm,decide_eq_false ab],Md.refl _ _⟩
 exact aH aa<|aH aa<|p (bA aa)<|p mv<|aH aa<|aH aa<|p (bA aa)<|p mv<|aH aa<|aH aa<|p (bA aa)<|ay<|A<|rt<|a6 aa<|⟨by show ca false =_; rw [qm,decide_eq_false ab],Md.refl _ _⟩
 exact aH aa<|aH aa<|p (bA aa)<|p mv<|aH aa<|aH aa<|p (bA aa)<|p mv<|aH aa<|aH aa<|p (bA aa)<|p mv<|aH aa<|aH aa<|p (bA aa)<|p aE<|nl<|A<|rt<|a6 aa<|⟨by show ca false =_; rw [qm,decide_eq_false ab],Md.refl _ _⟩
theorem OS (kind:Nat) (s:List UInt8) (w:World) (hk:kind=1∨kind=2∨kind=3) (hs:s.length≤1048576):
 bm aw 252 (bh [ak kind,str s]) w (fun v w'=>v=bT (eW kind s)∧Wk w w'):=by
 refine enter func252 aa ntmps252 aa<|ag fun ao=>ay<|ao<|az fun aq=>ag fun av=>au (ak kind)<|nl<|av<|aT<|ag fun ax=>p (bQ aa aa)<|p aE<|nl<|ax<|cd aa (fun aG=> ?_) fun aG=> ?_;refine az fun Z=>ag fun E=>au (str s)<|p (cR u9 aa aa)<|p (dd aa aa)<|p mv<|gs (t:=15) aa (fun aL=> ?_) fun aL=> ?_;exact aH aa<|aH aa<|aH aa<|aH aa<|p (bH aa)<|nl<|E<|ct aa<|ag fun C=>ay<|C<|rt<|tr<|br<|tr<|a6 aa<|⟨by rw [uP ab (fun h=>by omega) (fun h=>by omega)]; rfl,Md.refl _ _⟩
 refine aJ aa (aX (str s) aa)<|aJ aa (jJ 0 u9 aa aa ab)<|eg aa aa aa<|cl CE (Fi (s.getD 0 0) _) aa fun aN aP aA=> ?_;obtain ⟨rfl,al⟩:=aA;refine aJ aa (no aa)<|p (bA aa)<|nl<|E<|cb aa (fun O=> ?_) fun O=> ?_;exact ag fun C=>ay<|C<|rt<|tr<|br<|tr<|a6 aa<|⟨by rw [uP ab (fun h=>by rw [h.2.2] at O; cases O) (fun h=>by omega)]; rfl,al⟩
 exact aQ<|Z<|ag fun C=>au (str s)<|p (jJ 0 u9 aa aa ab)<|p (mh u3 rj aa<|cB<|by have :=jy (s.getD 0 0); omega)<|p aE<|nl<|C<|rt<|br<|tr<|a6 aa<|⟨by rw [Kp ⟨ab,ab,by simpa using O⟩]; rfl,al⟩
 refine ag fun Z=>p (bQ aa aa)<|ay<|Z<|cd aa (fun aI=> ?_) fun aI=> ?_;refine az fun E=>ag fun C=>au (str s)<|p (cR u9 aa aa)<|p (dd aa aa)<|nl<|C<|cd aa (fun aK=> ?_) fun aK=> ?_;exact ag fun I=>ay<|I<|rt<|tr<|br<|tr<|a6 aa<|⟨by rw [uP ab (fun h=>by omega) (fun h=>by omega)]; rfl,Md.refl _ _⟩
 refine aQ<|E<|ag fun I=>au (str s)<|p (jJ 0 u9 aa aa ab)<|e<|cl CE (Fi (s.getD 0 0) _) aa fun v31 aS aC=> ?_;obtain ⟨rfl,ac⟩:=aC;refine ay<|I<|ag fun J=>au (str s)<|p (jJ 1 u9 aa aa ab)<|e<|cl CE (Fi (s.getD 1 0) _) aa fun aO ah aD=> ?_;obtain ⟨rfl,ae⟩:=aD;refine ay<|J<|az fun ap=>ag fun ai=>p mv<|p (no aa)<|p mv<|gb (t:=37) aa (fun Y=> ?_) fun Y=> ?_;exact aH aa<|aH aa<|p (bH aa)<|nl<|ai<|ct aa<|ag fun G=>ay<|G<|rt<|tr<|br<|tr<|a6 aa<|⟨by rw [uP ab (fun h=>by omega) (fun h=>by rw [h.2.2.1] at Y; cases Y)]; rfl,Md.trans ac ae⟩
 refine aJ aa mv<|aJ aa (no aa)<|p (bA aa)<|nl<|ai<|cb aa (fun V=> ?_) fun V=> ?_;exact ag fun G=>ay<|G<|rt<|tr<|br<|tr<|a6 aa<|⟨by rw [uP ab (fun h=>by omega) (fun h=>by rw [h.2.2.2] at V; cases V)]; rfl,Md.trans ac ae⟩
 refine aQ<|ap<|az fun G=> ?_;have g0:=jy<|s.getD 0 0;have g1:=jy<|s.getD 1 0;have A:(fun w'=>Wk ah w') ah.drew:=(Md.refl _ _).drew;exact bY (fun w'=>Wk ah w') aa wide A<|bO 0 aa (str s) A<|aR 1 aa (jJ 0 u9 aa aa ab) A<|aR 2 aa (mh u3 rj aa<|cB<|by have :=jy (s.getD 0 0); omega) A<|aR 3 aa (qi ((256 *(s.getD 0 0).toNat:Nat):Int) aa aa<|bp ab ab) A<|bO 4 aa (str s) A<|aR 5 aa (jJ 1 u9 aa aa ab) A<|aR 6 aa (mh u3 rj aa<|cB<|by have :=jy (s.getD 1 0); omega) A<|aR 7 aa (bJ ((256 *(s.getD 0 0).toNat+(s.getD 1 0).toNat:Nat):Int) aa aa<|bp ab ab) A<|aR 8 aa (aE) A<|hn aj<|G<|rt<|br<|tr<|a6 aa<|⟨by rw [Kq ⟨ab,ab,by simpa using Y,by simpa using V⟩]; rfl,(Md.trans ac ae).drew⟩
 refine aQ<|bn<|aq<|ag fun E=>au (str s)<|e<|cl td (tD s 65535 _ hs aB) aa fun v51 aU aF=> ?_;obtain ⟨rfl,am⟩:=aF;have aM:=MR s;refine p mv<|p (xt aa aa)<|p (xt aa aa)<|p aE<|ay<|E<|az fun C=>ag fun I=>p mv<|p (dd aa aa)<|nl<|I<|cd aa (fun an=> ?_) fun an=> ?_;exact ag fun J=>ay<|J<|rt<|tr<|a6 aa<|⟨by rw [Dr ab]; unfold bT; exact iv (by have h1:=an; unfold ew at*; split <;> first | rfl | (rename_i h2; rw [if_neg h2] at h1; exact absurd aa h1)),am⟩
 exact aQ<|C<|ag fun J=>p mv<|ay<|J<|rt<|a6 aa<|⟨by rw [Dr ab]; rfl,am⟩
theorem abv (kind:Nat) (s:List UInt8) (w:World) (hk:kind=1∨kind=2∨kind=3) (hs:s.length≤1048576):
 bm aw 211 (bh [ak kind,str s]) w (fun v w'=>v= .tuple #[bT (iD kind s).1,ak ((iD kind s).2)]∧Wk w w'):=by
 refine enter func211 aa ntmps211 aa<|ag fun E=>p aE<|ay<|E<|az fun G=>az fun I=>rg aa<|au (ak kind)<|p (lt aa aa)<|p mv<|gs (t:=9) aa (fun h=>absurd h ab) fun ae=>aJ aa (aX (ak kind) aa)<|aJ aa (gt aa aa)<|p (bA aa)<|nl<|I<|cd aa (fun h=>absurd h ab) fun ac=>aQ<|G<|ag fun J=>au (ak kind)<|au (str s)<|e<|cl Ih (OS kind s _ hk hs) aa fun ah ai Y=> ?_;obtain ⟨rfl,C⟩:=Y;refine ay<|J<|az fun O=>ag fun V=>p mv<|p (bQ aa aa)<|nl<|V<|cd aa (fun Z=> ?_) fun Z=> ?_;exact ag fun A=>p aE<|ay<|A<|rt<|tr<|f2 aa aa aa<|⟨by unfold iD; rw [if_pos (show eW kind s=0 by omega)]; rfl,C⟩
 exact aQ<|O<|ag fun A=>p mv<|p aE<|p aE<|nl<|A<|rt<|f2 aa aa aa<|⟨by unfold iD; rw [if_neg (show ¬eW kind s=0 by omega)]; rfl,C⟩
theorem aaN (kind:Nat) (s:List UInt8) (w:World) (hk:kind=1∨kind=2∨kind=3) (hs:s.length≤1048576):
 bm aw 255 (bh [ak kind,str s]) w (fun v w'=>bz w' w.heap.size 9 1 (v) (dV kind s).length ((dV kind s).map str)∧Wk w w'):=by
 refine enter func255 aa ntmps255 aa<|ag fun aO=>ay<|aO<|ag fun aP=>p aE<|nl<|aP<|az fun aR=>ag fun aS=>au (ak kind)<|p (bQ aa aa)<|nl<|aS<|cd aa (fun a1=> ?_) fun a1=> ?_;refine ag fun ai=>ay<|ai<|az fun aj=>ag fun al=>ay<|al<|aT<|lp (fun Z aK I=> ∃ (i E:Nat) (A:List (List UInt8)) (C:Value),((i≤s.length∧E≤i∧A.length≤i∧A++gh 44 ((s.take i).drop E) (s.drop i)=gh 44 [] s)∨(i=s.length+1∧A=gh 44 [] s))∧(bz I w.heap.size 9 1 (C) (A).length<|(A).map str)∧(Wk w I)∧(Sl aK [(0,ak kind),(1,str s),(5,C),(6,ak E),(7,ak i)])∧(s.length+1 - i=Z)) _ ⟨0,0,[],.slice none 0 0,(.inl ⟨ab,ab,by simp,aa⟩),(dK _ _ _ _),(Md.refl _ _),aa,aa⟩ ?_;rintro Z aK I ⟨i,E,A,C,hi,G,O,bd,rfl⟩;refine bG bd<|az fun am=>ag fun Y=>au (ak i)<|au (str s)<|p (cR u9 aa aa)<|p (le aa aa)<|nl<|Y<|cd aa (fun a2=> ?_) fun a2=> ?_;refine aQ<|am<|az fun J=>aT<|az fun ae=> ?_;obtain ⟨bt,bv,bu,hd⟩:=hi.resolve_right fun h=>by omega
 refine rg aa<|au (ak i)<|au (str s)<|p (cR u9 aa aa)<|p (bQ aa aa)<|p mv<|gs (t:=22) aa (fun a8=> ?_) fun a8=> ?_;have bY:A++ [(s.take i).drop E]=gh 44 [] s:=by rw [← hd,iJ (show s.length≤i by omega),gh]
 refine aH aa<|aH aa<|aH aa<|aH aa<|p (bH aa)<|nl<|ae<|ct aa<|ag fun ah=>au (C)<|au (str s)<|au (ak E)<|au (ak i)<|p (mW u9 aa aa aa ab)<|e<|gz gq aa aa fun aU aF a0 V an=> ?_;have ac:Wk w aF:=Md.trans O V.md;refine e<|ap gq (a7 G V.md) aa (by have :=ac.size; omega) aa (aM.ec an) (aa) (aa) ab ab fun aD bk aB aq bj a5=> ?_;have ao:=Wk.own ac (a7 G V.md) aq<|cU _;have aC:=nJ aB;exact ay<|ah<|rg aa<|au (ak i)<|p (bJ ((i+1:Nat):Int) aa aa<|bp ab ab)<|p aE<|nl<|bn<|J<|rg aa<|au (ak i)<|p (bJ ((i+1:Nat):Int) aa aa<|bp ab ab)<|p aE<|nl<|tn<|⟨_,ab,i+1,i+1,A++ [(s.take i).drop E],aD,(.inr ⟨ab,bY⟩),aC,ao,aa,aa⟩
 refine aJ aa (aX (str s) aa)<|aJ aa (aX (ak i) aa)<|aJ aa (fj u9 aa aa ab)<|aJ aa (bQ aa aa)<|p (bA aa)<|nl<|ae<|cd aa (fun ax=> ?_) fun ax=> ?_;have bY:A++ [(s.take i).drop E]++gh 44 [] (s.drop<|i+1)=gh 44 [] s:=by rw [← hd,drop_cons 0 (show i < s.length by omega),gh,if_pos (lM.1 (by have bq:(44:UInt8).toNat=44:=rfl; omega)),eS]; rfl
 refine ag fun ah=>au (C)<|au (str s)<|au (ak E)<|au (ak i)<|p (mW u9 aa aa aa ab)<|e<|gz gq aa aa fun aU aF a0 V an=> ?_;have ac:Wk w aF:=Md.trans O V.md;refine e<|ap gq (a7 G V.md) aa (by have :=ac.size; omega) aa (aM.ec an) (aa) (aa) ab ab fun aD bk aB aq bj a5=> ?_;have ao:=Wk.own ac (a7 G V.md) aq<|cU _;have aC:=nJ aB;exact ay<|ah<|rg aa<|au (ak i)<|p (bJ ((i+1:Nat):Int) aa aa<|bp ab ab)<|p aE<|nl<|bn<|J<|rg aa<|au (ak i)<|p (bJ ((i+1:Nat):Int) aa aa<|bp ab ab)<|p aE<|nl<|tn<|⟨_,ab,i+1,i+1,A++ [(s.take i).drop E],aD,(.inl ⟨ab,ab,(by rw [bL,fu]; omega),by rw [show (s.take<|i+1).drop (i+1)= [] from iJ (by rw [dP]; omega)]; exact bY⟩),aC,ao,aa,aa⟩
 have bY:A++gh 44 ((s.take<|i+1).drop E) (s.drop<|i+1)=gh 44 [] s:=by rw [← hd,drop_cons 0 (show i < s.length by omega),gh,if_neg (fun h=>by rw [h] at ax; exact ax rfl),← xW 0 ab ab]
 exact aQ<|bn<|J<|rg aa<|au (ak i)<|p (bJ ((i+1:Nat):Int) aa aa<|bp ab ab)<|p aE<|nl<|tn<|⟨_,ab,i+1,E,A,C,(.inl ⟨ab,ab,ab,bY⟩),G,O,aa,aa⟩
 refine ext<|bf<|bf<|be<|aj<|ag fun J=>au (C)<|p (cE (C) aa)<|nl<|J<|rt<|tr<|a6 aa ?_;have aA:A=dV kind s:=by unfold dV; rw [if_pos ab]; rcases hi with h | h <;> first | omega | exact h.2
 exact ⟨by rw [← aA]; exact G,O⟩;refine aQ<|aR<|az fun ai=>ag fun aj=>ay<|aj<|aT<|lp (fun Z aL I=> ∃ (i:Nat) (A:List (List UInt8)) (C:Value),(i≤s.length+kind∧A.length≤i)∧(A++chunks kind (s.drop i)=chunks kind s)∧(bz I w.heap.size 9 1 (C) (A).length<|(A).map str)∧(Wk w I)∧(Sl aL [(0,ak kind),(1,str s),(5,C),(8,ak i)])∧(s.length - i=Z)) _ ⟨0,[],.slice none 0 0,(by simp),aa,(dK _ _ _ _),(Md.refl _ _),aa,aa⟩ ?_;rintro Z aL I ⟨i,A,C,hi,hd,G,O,bg,rfl⟩;refine bG bg<|az fun al=>ag fun am=>au (ak i)<|au (str s)<|p (cR u9 aa aa)<|p (lt aa aa)<|nl<|am<|cd aa (fun a3=> ?_) fun a3=> ?_;have ba:s.drop i≠[]:=fun h=>by have :=congrArg j7 h; rw [fS,gB] at this; omega
 refine aQ<|al<|az fun Y=>aT<|ag fun J=>au (ak i)<|au (ak kind)<|p (bJ ((i+kind:Nat):Int) aa aa<|bp ab ab)<|ay<|J ?_;refine eo (fun aN aI=> ∃ (j:Nat),(i≤j∧j≤s.length∧(s.take j).drop i=(s.drop i).take kind)∧(aI=I)∧(Sl aN [(0,ak kind),(1,str s),(5,C),(8,ak i),(9,ak j)])) ?_ ?_;refine ag fun ae=>p mv<|au (str s)<|p (cR u9 aa aa)<|p (gt aa aa)<|nl<|ae<|cd aa (fun a4=> ?_) fun a4=> ?_;exact rg aa<|au (str s)<|p (cR u9 aa aa)<|p aE<|nl<|tn<|⟨s.length,(by refine ⟨ab,ab,?_⟩; rw [List.take_length,e9 (by rw [fS]; omega)]),aa,aa⟩
 exact aQ<|tn<|⟨i+kind,(by refine ⟨ab,ab,?_⟩; rw [tY,Nat.add_sub_cancel_left]),aa,aa⟩
 rintro aN aI ⟨j,a9,aY,bi⟩;refine bG bi ?_;subst aY;refine rg aa<|au (C)<|au (str s)<|au (ak i)<|au (ak j)<|p (mW u9 aa aa aa ab)<|e<|gz gq aa aa fun bo bl br av aV=> ?_;have aG:Wk w bl:=Md.trans O av.md;refine e<|ap gq (a7 G av.md) aa (by have :=aG.size; omega) aa (aM.ec aV) (aa) (aa) ab ab fun v60 bx bb aZ bw bs=> ?_;have aW:=Wk.own aG (a7 G av.md) aZ<|cU _;have bc:=nJ bb;exact p aE<|nl<|bn<|Y<|rg aa<|au (ak i)<|au (ak kind)<|p (bJ ((i+kind:Nat):Int) aa aa<|bp ab ab)<|p aE<|nl<|tn<|⟨_,ab,i+kind,A++ [(s.drop i).take kind],v60,(by rw [bL,fu]; omega),(by rw [← hd,zb (k:=kind) ab ba,eS,tX]; rfl),(by rw [← a9.2.2]; exact bc),aW,aa,aa⟩
 refine ext<|bf<|bf<|be<|ai<|ag fun Y=>au (C)<|p (cE (C) aa)<|nl<|Y<|rt<|a6 aa ?_;have aA:A=dV kind s:=by unfold dV; rw [if_neg ab,← hd,iJ ab,zd,eB]
 exact ⟨by rw [← aA]; exact G,O⟩
theorem Ff (l:List Nat) (a:Option Addr) (c:Nat) (w:World) (C:aM w.heap a (l.map bT)) (a5:l.length≤1048576) (aU:∀ x∈l,x < 65536):
 bm aw 256 (bh [.slice a l.length c]) w (fun v w'=>bz w' w.heap.size 3 1 (v) (kO l).length ((kO l).map bT)∧Wk w w'):=by
 refine enter func256 aa ntmps256 aa<|ag fun aq=>ay<|aq<|ag fun av=>p aE<|nl<|av<|ag fun ax=>ay<|ax<|aT<|lp (fun V an Y=> ∃ (out:List Nat) (last:Int) (I:Value),(-1≤last∧last < 65536)∧(rJ l out last)∧(bz Y w.heap.size 3 1 (I) (out).length<|(out).map bT)∧(Wk w Y)∧(out.length≤65536)∧(Sl an [(0,.slice a l.length c),(3,I),(4,.int .i64 last)])∧((65536 - last).toNat=V)) _ ⟨[],-1,.slice none 0 0,(aB),(rJ.nil l),(dK _ _ _ _),(Md.refl _ _),(hZ _),aa,aa⟩ ?_;rintro V an Y ⟨out,last,I,a8,am,ah,aK,bb,aY,rfl⟩;refine bG aY<|aT<|ag fun aA=>ay<|aA<|az fun aC=>ag fun aD=>ay<|aD<|aT<|lp (fun V ao ai=> ∃ (i:Nat) (nx:Int),(i≤l.length∧ -1≤nx)∧(lR l last i nx)∧(Wk w ai)∧(Wk Y ai)∧(Sl ao [(0,.slice a l.length c),(3,I),(4,.int .i64 last),(5,.int .i64 nx),(6,ak i)])∧(l.length - i=V)) _ ⟨0,-1,(ab),(lR.nil l last),aK,(Md.refl _ _),aa,aa⟩ ?_;rintro V ao ai ⟨i,nx,hi,E,A,G,aZ,rfl⟩;refine bG aZ<|az fun aF=>ag fun aG=>au (ak i)<|au (.slice a l.length c)<|p (bM mr aa aa)<|p (lt aa aa)<|nl<|aG<|cd aa (fun aO=> ?_) fun aO=> ?_;refine aQ<|aF<|az fun J=>aT<|ag fun O=>au (.slice a l.length c)<|au (ak i)<|p (bc ke aa aa ab<|aM.ok (C.wk A)<|cg ab)<|p (ld bD aa<|Ah (f:=bT) (i:=i) 0 (C.wk A) ab)<|au (.int .i64 last)<|p (gt aa aa)<|p mv<|gs (t:=19) aa (fun aR=> ?_) fun aR=> ?_;refine aJ aa (aX (.int .i64 nx) aa)<|aJ aa (lt aa aa)<|aJ aa mv<|gs (t:=22) aa (fun aS=> ?_) fun aS=> ?_;exact aH aa<|aH aa<|aH aa<|aH aa<|aH aa<|aH aa<|aJ aa (bH aa)<|p (bH aa)<|nl<|O<|ct aa<|rg aa<|au (.slice a l.length c)<|au (ak i)<|p (bc ke aa aa ab<|aM.ok (C.wk A)<|cg ab)<|p (ld bD aa<|Ah (f:=bT) (i:=i) 0 (C.wk A) ab)<|p aE<|nl<|bn<|J<|rg aa<|au (ak i)<|p (bJ ((i+1:Nat):Int) aa aa<|bp ab ab)<|p aE<|nl<|tn<|⟨_,ab,i+1,((l.getD i 0:Nat):Int),(ab),(E.take ab ab<|.inl ab),A,G,aa,aa⟩
 refine aJ aa (aX (.slice a l.length c) aa)<|aJ aa (aX (ak i) aa)<|aJ aa (bc ke aa aa ab<|aM.ok (C.wk A)<|cg ab)<|aJ aa (ld bD aa<|Ah (f:=bT) (i:=i) 0 (C.wk A) ab)<|aJ aa (aX (.int .i64 nx) aa)<|aJ aa (lt aa aa)<|aJ aa (bA aa)<|p (bH aa)<|nl<|O<|cd aa (fun aP=> ?_) fun aP=> ?_;exact rg aa<|au (.slice a l.length c)<|au (ak i)<|p (bc ke aa aa ab<|aM.ok (C.wk A)<|cg ab)<|p (ld bD aa<|Ah (f:=bT) (i:=i) 0 (C.wk A) ab)<|p aE<|nl<|bn<|J<|rg aa<|au (ak i)<|p (bJ ((i+1:Nat):Int) aa aa<|bp ab ab)<|p aE<|nl<|tn<|⟨_,ab,i+1,((l.getD i 0:Nat):Int),(ab),(E.take ab ab<|.inr ab),A,G,aa,aa⟩
 exact aQ<|bn<|J<|rg aa<|au (ak i)<|p (bJ ((i+1:Nat):Int) aa aa<|bp ab ab)<|p aE<|nl<|tn<|⟨_,ab,i+1,nx,(ab),(E.skip<|.inr ⟨ab,ab⟩),A,G,aa,aa⟩
 exact aH aa<|aH aa<|aH aa<|ek aa<|ek aa<|ek aa<|ek aa<|ek aa<|ek aa<|aH aa<|p (bA aa)<|nl<|O<|cf aa<|aQ<|bn<|J<|rg aa<|au (ak i)<|p (bJ ((i+1:Nat):Int) aa aa<|bp ab ab)<|p aE<|nl<|tn<|⟨_,ab,i+1,nx,(ab),(E.skip<|.inl ab),A,G,aa,aa⟩
 refine ext<|bf<|bf<|be<|aC<|az fun J=>ag fun O=>au (.int .i64 nx)<|p (lt aa aa)<|nl<|O<|cd aa (fun ae=> ?_) fun ae=> ?_;refine ag fun Z=>au (I)<|p (cE (I) aa)<|nl<|Z<|rt<|tr<|br<|tr<|br<|a6 aa ?_;have a0:=lR.done (by rw [show i=l.length by omega] at E; exact E) am ae;exact ⟨by rw [← a0]; exact a7 ah G,A⟩;obtain ⟨m,hm,aV,a9,al⟩:=lR.more (by rw [show i=l.length by omega] at E; exact E) am ae;have ba:=aU m hm;refine aQ<|J<|ag fun Z=>au (I)<|au (.int .i64 nx)<|e<|gz lG aa aa fun a2 a1 a3 ac aI=> ?_;have aj:Wk w a1:=Md.trans A ac.md;refine e<|ap lG (a7 (a7 ah G) ac.md) aa (by have :=aj.size; omega) aa (aM.ec aI) (aa) (aa) ab ab fun v41 bg aW aN bd a4=> ?_;have aL:=Wk.own aj (a7 (a7 ah G) ac.md) aN<|cU _;exact ay<|Z<|rg aa<|au (.int .i64 nx)<|p (cE (.int .i64 nx) aa)<|nl<|bn<|tn<|⟨_,ab,out++ [m],nx,v41,(ab),al,(by rw [bL,gW]; subst aV; exact aW),aL,(adh al ab),aa,aa⟩
theorem Nu (kind:Nat) (s:List UInt8) (w:World) (hk:kind=1∨kind=2∨kind=3) (hs:s.length≤1048576):
 bm aw 214 (bh [ak kind,str s]) w (fun v w'=>(∃ a,v= .tuple #[a,ak ((eu kind s).2)]∧bz w' w.heap.size 3 1 (a) ((eu kind s).1).length (((eu kind s).1).map bT))∧Wk w w'):=by
 refine enter func214 aa ntmps214 aa<|ag fun aK=>p aE<|ay<|aK<|az fun aP=>az fun aR=>rg aa<|au (ak kind)<|p (lt aa aa)<|p mv<|gs (t:=12) aa (fun h=>absurd h ab) fun bv=>aJ aa (aX (ak kind) aa)<|aJ aa (gt aa aa)<|p (bA aa)<|nl<|aR<|cd aa (fun h=>absurd h ab) fun bt=>aQ<|aP<|az fun aS=>ag fun aU=>au (str s)<|p (cR u9 aa aa)<|p (bQ aa aa)<|nl<|aU<|cd aa (fun E=> ?_) fun E=> ?_;refine ag fun ao=>p aE<|ay<|ao<|rt<|tr<|f2 aa aa aa ?_;have aG:s= []:=fR ab;exact ⟨⟨.slice none 0 0,by unfold eu; rw [if_pos aG]; rfl,by unfold eu; rw [if_pos aG]; exact dK _ _ _ _⟩,Md.refl _ _⟩;refine aQ<|aS<|ag fun ao=>ay<|ao<|az fun aV=>rg aa<|au (ak kind)<|au (str s)<|e<|cl SM (aaN kind s _ hk hs) aa fun v21 al a3=> ?_;obtain ⟨aD,ai⟩:=a3;obtain ⟨ae,ah,rfl⟩:=cJ aD;have aC:=(ba aD).2;have bw:=M9 (kind:=kind) (s:=s) ab;refine ay<|aV<|az fun aW=>ag fun aY=>p aE<|nl<|aY<|aT<|lp (fun aA aI ax=> ∃ (i:Nat) (fs:List Nat) (aq:Value),(i≤(dV kind s).length∧fs.length≤65)∧(¬∃ x∈(dV kind s).take i,eW kind x=0)∧(fs=(((dV kind s).take i).map<|eW kind).take 65)∧(bz ax al.heap.size 3 1 (aq) (fs).length<|(fs).map bT)∧(Wk al ax)∧(Sl aI [(0,ak kind),(1,str s),(6,aq),(7,.slice ae (dV kind s).length ah),(8,ak i)])∧((dV kind s).length - i=aA)) _ ⟨0,[],.slice none 0 0,(by simp),(by rintro ⟨x,aj,_⟩; simp at aj),aa,(dK _ _ _ _),(Md.refl _ _),aa,aa⟩ ?_;rintro aA aI ax ⟨i,fs,aq,hi,Z,Y,O,A,bi,rfl⟩;refine bG bi<|az fun aL=>ag fun aN=>au (ak i)<|au (.slice ae (dV kind s).length ah)<|p (bM fq aa aa)<|p (lt aa aa)<|nl<|aN<|cd aa (fun a6=> ?_) fun a6=> ?_;refine aQ<|aL<|az fun ac=>aT<|az fun am=> ?_;obtain ⟨G,I,rfl⟩:=cJ O;refine rg aa<|au (ak kind)<|au (.slice ae (dV kind s).length ah)<|au (ak i)<|p (bc db aa aa ab<|aM.ok (aC.wk A)<|cg ab)<|p (ld bX aa<|cM.get (i:=i) (aC.wk A) ab)<|e<|cl Ih (OS kind ((dV kind s).getD i []) _ hk<|by have :=Na (kind:=kind) ab (zZ (d:= []) (show i < (dV kind s).length by omega)); omega) aa fun v33 bB a4=> ?_;obtain ⟨rfl,J⟩:=a4;refine ay<|am<|az fun V=>ag fun aO=>p mv<|p (bQ aa aa)<|nl<|aO<|cd aa (fun a8=> ?_) fun a8=> ?_;refine ag fun an=>p aE<|ay<|an<|rt<|tr<|br<|tr<|tr<|br<|tr<|f2 aa aa aa ?_;have C:eu kind s=([],31):=by unfold eu; rw [if_neg (fun h=>by rw [h] at E; exact E rfl),if_pos ⟨_,zZ (d:= []) (show i < (dV kind s).length by omega),ab⟩]
 exact ⟨⟨.slice none 0 0,by rw [C]; rfl,by rw [C]; exact dK _ _ _ _⟩,Md.trans ai<|Md.trans A J⟩;refine aQ<|V<|ag fun an=>au (.slice G fs.length I)<|p (bM mr aa aa)<|p (le aa aa)<|nl<|an<|cd aa (fun a9=> ?_) fun a9=> ?_;refine rg aa<|au (.slice G fs.length I)<|p mv<|e<|gz lG aa aa fun bq bl bs av aZ=> ?_;have aB:Wk al bl:=Md.trans (Md.trans A J) av.md;refine e<|ap lG (a7 (a7 O J) av.md) aa (by have :=aB.size; omega) aa (aM.ec aZ) (aa) (aa) ab ab fun aH bo bd a2 bx bu=> ?_;have a0:=Wk.own aB (a7 (a7 O J) av.md) a2<|cU _;have bg:bz bo al.heap.size 3 1 (aH) (fs++ [eW kind ((dV kind s).getD i [])]).length ((fs++ [eW kind ((dV kind s).getD i [])]).map bT):=by
  rw [bL,gW]; exact bd
 exact p aE<|nl<|bn<|ac<|rg aa<|au (ak i)<|p (bJ ((i+1:Nat):Int) aa aa<|bp ab ab)<|p aE<|nl<|tn<|⟨_,ab,i+1,fs++ [eW kind ((dV kind s).getD i [])],aH,(by rw [bL,fu]; omega),(Di ab Z ab),(by rw [fV _ i [] ab,gW]; exact acU ab Y _),bg,a0,aa,aa⟩
 exact aQ<|bn<|ac<|rg aa<|au (ak i)<|p (bJ ((i+1:Nat):Int) aa aa<|bp ab ab)<|p aE<|nl<|tn<|⟨_,ab,i+1,fs,.slice G fs.length I,ab,(Di ab Z ab),(by rw [fV _ i [] ab,gW]; exact acT ab ab Y _),(a7 O J),(Md.trans A J),aa,aa⟩
 refine ext<|bf<|bf<|be<|aW<|az fun ac=>az fun am=> ?_;obtain ⟨G,I,rfl⟩:=cJ O;have bj:(dV kind s).take i=(dV kind s):=e9 ab;rw [bj] at Y Z;refine rg aa<|au (.slice ae (dV kind s).length ah)<|p (bM fq aa aa)<|p (gt aa aa)<|nl<|am<|cd aa (fun bb=> ?_) fun bb=> ?_;refine ag fun V=>p aE<|ay<|V<|rt<|tr<|f2 aa aa aa ?_;have C:eu kind s=([],32):=by unfold eu; rw [if_neg (fun h=>by rw [h] at E; exact E rfl),if_neg Z,if_pos ab]
 exact ⟨⟨.slice none 0 0,by rw [C]; rfl,by rw [C]; exact dK _ _ _ _⟩,Md.trans ai A⟩;refine aQ<|ac<|ag fun V=>au (.slice G fs.length I)<|e<|cl SN (Ff fs G I _ (ba O).2 ab fun x aj=>by rw [Y] at aj; obtain ⟨y,_,rfl⟩:=jn.1 (Qb aj); exact Ko _ _) aa fun bk bC a5=> ?_;obtain ⟨aF,a1⟩:=a5;refine p aE<|ay<|V<|rt<|f2 aa aa aa ?_;have C:eu kind s=(kO ((dV kind s).map<|eW kind),0):=by unfold eu; rw [if_neg (fun h=>by rw [h] at E; exact E rfl),if_neg Z,if_neg ab]
 rw [Y,e9 (by rw [fP]; omega)] at aF;exact ⟨⟨bk,by rw [C]; rfl,by rw [C]; exact eQ aF<|by have :=ai.size; have :=A.size; omega⟩,Md.trans ai<|Md.trans A a1⟩
end Go.Hb.yJ
end
section
namespace Go.Hb
open Go.Hb.oX
theorem Yv {l:List UInt8} {i:Nat} {x:UInt8} (h:i < l.length) (h1:¬x∈l.take i) (h2:¬((l.getD i 0).toNat:Int)=(x.toNat:Int)):¬x∈l.take (i+1):=by
 rw [fV l i 0 h,jm,iK];rintro (h3 | h3)
 · exact h1 h3
 · exact h2<|by rw [h3]
theorem Yu {l:List UInt8} {i:Nat} {x:UInt8} (h:i < l.length) (h2:((l.getD i 0).toNat:Int)=(x.toNat:Int)):x∈l:=by
 have e:l.getD i 0=x:=lM.1 ab;rw [← e]; exact eb h
def qQ (s:List UInt8) (i:Nat):Int:=if fJ 93 (s.drop i) < 0 then -1 else ((i+(s.drop i).idxOf 93:Nat):Int)
theorem Ur {s:List UInt8} {i k:Nat} (hk:i≤k∧k < s.length) (A:∀ j,i≤j→j < k→s.getD j 0≠93) (C:s.getD k 0=93):qQ s i=(k:Nat):=by
 have h:=LS (x:=93) (l:=s.drop i) (i:=k - i) (by rw [fS]; omega) (fun j E=>by rw [cX,sR,← cX]; exact A _ ab ab)<|by rw [cX,sR,← cX,show i+(k - i)=k by omega]; exact C
 have h2:=tq (c:=93) (l:=s.drop i) ab;unfold qQ;rw [if_neg ab];omega
theorem Us {s:List UInt8} {i:Nat} (C:∀ j,i≤j→j < s.length→s.getD j 0≠93):qQ s i= -1:=by
 have h:=LU (x:=93) (l:=s.drop i) fun j A=>by rw [fS] at A; rw [cX,sR,← cX]; exact C _ ab ab
 unfold qQ;rw [if_pos ab]
theorem Uq {s:List UInt8} {i:Nat} (hi:i < s.length) (C:s.getD i 0=91):(qQ s i < 0↔¬(s.drop<|i+1).idxOf 93 < (s.drop<|i+1).length)∧(¬qQ s i < 0→qQ s i=((i+1 +(s.drop<|i+1).idxOf 93:Nat):Int)):=by
 have e:s.drop i=91::s.drop (i+1):=by rw [drop_cons 0 hi,C]
 have A:(91::s.drop (i+1)).idxOf 93=(s.drop<|i+1).idxOf 93 +1:=by rw [List.idxOf_cons]; rfl
 unfold qQ fJ;rw [e,A,cV];by_cases h:(s.drop<|i+1).idxOf 93 < (s.drop<|i+1).length
 · rw [if_pos (show (s.drop<|i+1).idxOf 93 +1 < (s.drop<|i+1).length+1 by omega)];rw [if_neg ab];refine ⟨⟨fun h1=>by omega,fun h1=>absurd h h1⟩,fun _=>by omega⟩
 · rw [if_neg (show ¬(s.drop<|i+1).idxOf 93 +1 < (s.drop<|i+1).length+1 by omega)];rw [if_pos (show (-1:Int) < 0 from by decide)];refine ⟨⟨fun _=>h,fun _=>by decide⟩,fun h1=>absurd aB h1⟩
theorem aaE {w:World} {B e:Nat} {v:Value} {l:List (List UInt8)} {x:List UInt8} (h:w.ownsRow B e 1 v (l.length+1) (l.map str++ [str x])):w.ownsRow B e 1 v (l++ [x]).length ((l++ [x]).map str):=by
 rw [bL,gW]; exact h
theorem RB {f:UInt8→Bool} :(bytesOf fun x=> !f x).length=0↔(bytesOf f).length=256:=by
 have :=RC f 256;unfold bytesOf; omega
theorem Mn {h:Array Obj} {a:Option Addr} {l:List (List UInt8)} {i:Nat} (A:aM h a (l.map str)) (hi:i < l.length):Hb.aW h (bk a) (fo a+i*1 +0)=some (str<|l.getD i []):=cM.get (i:=i) A hi
theorem T4 {s t r:List UInt8} (h:jd s=some (t,r)):(t.length=1∨3≤t.length)∧t.length≤s.length:=by
 cases s with
 | nil=>cases h
 | cons b l=>
   simp only [jd] at h;split at h
   · split at h
     · rename_i A;simp only [gD,ug] at h;obtain ⟨rfl,_⟩:=h;simp only [cV,dP];omega
     · cases h
   · simp only [gD,ug] at h;obtain ⟨rfl,_⟩:=h;simp
theorem U0:∀ (f:Nat) (s:List UInt8) (xs:List (List UInt8)),mJ f s=some xs→∀ t∈xs,(t.length=1∨3≤t.length)∧t.length≤s.length:=by
 intro f
 induction f with
 | zero=>intro s xs h t A; simp only [mJ] at h; split at h <;> first | (cases h; cases A) | cases h
 | succ f C=>
   intro s xs h t A;simp only [mJ] at h;split at h
   · cases h; cases A
   · cases hc:jd s with
     | none=>rw [hc] at h; cases h
     | some q=>
       obtain ⟨u,r⟩:=q;rw [hc] at h;simp only at h;cases hr:mJ f r with
       | none=>rw [hr] at h; cases h
       | some E=>
         rw [hr] at h;cases h;rcases fG.1 A with rfl | A
         · exact T4 hc
         · have h1:=C r E hr t A;have h2:=CT hc;exact ⟨h1.1,ab⟩
theorem I0 {s:List UInt8} :(∀ t∈(dz s).1,(t.length=1∨3≤t.length)∧t.length≤s.length)∧(dz s).1.length≤16:=by
 unfold dz;split
 · exact ⟨(fun t A=>by cases A),hZ _⟩
 · split
   · exact ⟨(fun t A=>by cases A),hZ _⟩
   · split
     · exact ⟨(fun t A=>by cases A),hZ _⟩
     · rename_i xs h;split
       · exact ⟨(fun t A=>by cases A),hZ _⟩
       · exact ⟨(fun t A=>U0 _ _ _ h t A),by simp only; omega⟩
theorem Jw {s:List UInt8} {k:Nat} :(s.drop k).getD 0 0=s.getD k 0:=by rw [cX,sR,← cX]; rfl
theorem Hz {s:List UInt8} {i m:Nat} (A:s.getD i 0=91) (h:i+1 +m < s.length):91::(s.drop<|i+1).take (m+1)=(s.take<|i+1 +m+1).drop i:=by
 rw [tY,drop_cons 0 (show i < s.length by omega),A,show i+1 +m+1 - i=m+1 +1 by omega,rF]
theorem aan {s:List UInt8} {i:Nat} (h:i < s.length):(s.take<|i+1).drop i= [s.getD i 0]:=by
 rw [tY,drop_cons 0 h,show i+1 - i=0 +1 by omega,rF,List.take_zero]
theorem QP {t:List UInt8} {b:UInt8} (h:t.length=1) (h1:¬t= [46]):((t.getD 0 0).toNat:Int)=(b.toNat:Int)↔t.getD 0 0=46∨t.getD 0 0=b:=by
 match t,h with
 | [c],_=>
   simp only [l6] at*;constructor
   · intro h2; exact .inr<|lM.1 ab
   · rintro (h2 | h2)
     · exact absurd (by rw [h2]) h1
     · rw [h2]
theorem LO {b:UInt8} (h:(b.toNat:Int)=94):b=94:=lM.1 (by have :(94:UInt8).toNat=94:=rfl; omega)
theorem aaj {b:UInt8} (h:¬(b.toNat:Int)=94):b≠94:=by rintro rfl; exact h rfl
theorem M1 {l:List UInt8} {x:UInt8} (h:l.length=1) (A:l.getD 0 0=x):l= [x]:=by
 match l,h with
 | [c],_=>simp only [l6] at A; rw [A]
theorem ab0 {f:UInt8→Bool} (h:¬(bytesOf f).length=256) (h1:(bytesOf f).length=1) (h2:(bytesOf f).getD 0 0=46):iH f= [91,46,93]:=by
 have e:=M1 h1 h2;have h3:¬f 93=true :=fun h4=>by have :=(HF f 93).2 h4; rw [e] at this; simp at this
 unfold iH; rw [if_neg h,if_neg (fun h4=>h4.2.1 h2),if_neg h3,e]; rfl
theorem ab1 {f:UInt8→Bool} (h:¬(bytesOf f).length=256) (h1:(bytesOf f).length=1) (h2:(bytesOf f).getD 0 0=91):iH f= [91,91,93]:=by
 have e:=M1 h1 h2;have h3:¬f 93=true :=fun h4=>by have :=(HF f 93).2 h4; rw [e] at this; simp at this
 unfold iH; rw [if_neg h,if_neg (fun h4=>h4.2.2 h2),if_neg h3,e]; rfl
theorem Mf (s:List UInt8) (b:UInt8) (w:World) (hs:s.length≤1048576):
 bm aw 276 (bh [str s,.int .u8 b.toNat]) w (fun v w'=>v= .bool (decide (b∈s))∧Wk w w'):=by
 refine enter func276 aa ntmps276 aa<|ag fun O=>ay<|O<|az fun V=>ag fun Y=>ay<|Y<|aT<|lp (fun G J I=> ∃ (i:Nat),(i≤s.length)∧(¬b∈s.take i)∧(I=w)∧(Sl J [(0,str s),(1,.int .u8 b.toNat),(5,ak i)])∧(s.length - i=G)) _ ⟨0,ab,(by simp),aa,aa,aa⟩ ?_;rintro G J I ⟨i,hi,E,ai,al,rfl⟩;refine bG al ?_;subst ai;refine az fun Z=>ag fun ac=>au (ak i)<|au (str s)<|p (cR u9 aa aa)<|p (lt aa aa)<|nl<|ac<|cd aa (fun aj=> ?_) fun aj=> ?_;refine aQ<|Z<|az fun A=>aT<|ag fun ae=>au (str s)<|au (ak i)<|p (fj u9 aa aa ab)<|au (.int .u8 b.toNat)<|p (bQ aa aa)<|nl<|ae<|cd aa (fun C=> ?_) fun C=> ?_;exact ag fun ah=>ay<|ah<|rt<|br<|tr<|tr<|br<|tr<|a6 aa<|⟨by show ca true =_; rw [decide_eq_true (Yu ab C)],Md.refl _ _⟩
 exact aQ<|bn<|A<|rg aa<|au (ak i)<|p (ad aa aa<|cB ab)<|p aE<|nl<|tn<|⟨_,ab,i+1,ab,(Yv ab E C),aa,aa,aa⟩
 exact ext<|bf<|bf<|be<|V<|ag fun A=>p aE<|nl<|A<|rt<|a6 aa<|⟨by show ca false =_; rw [e9 ab] at E; rw [decide_eq_false E],Md.refl _ _⟩
theorem G4 (t:List UInt8) (b:UInt8) (w:World) (ap:t.length=1∨3≤t.length) (aq:t.length≤1048576):
 bm aw 262 (bh [.agg [str t].toArray,.int .u8 b.toNat]) w (fun v w'=>v= .bool (c8 t b)∧Wk w w'):=by
 refine enter func262 aa ntmps262 aa<|ag fun J=>e<|ib aa fun am aA ao C ae=>ay<|J<|ag fun O=>p (fa W9 aa)<|p (ld bX aa<|ae.aW 0)<|ay<|O<|az fun V=>ag fun Y=>p mv<|p (cR u9 aa aa)<|p (bQ aa aa)<|nl<|Y<|cd aa (fun al=> ?_) fun al=> ?_;refine ag fun A=>p mv<|p (et aa aa)<|p mv<|gs (t:=14) aa (fun I=> ?_) fun I=> ?_;exact aH aa<|aH aa<|aH aa<|aH aa<|p (bH aa)<|ay<|A<|rt<|tr<|a6 aa<|⟨by show ca true =_; unfold c8; rw [if_pos (show t.length=1 by omega)]; rw [decide_eq_true (.inl<|by rw [I]; rfl)],C.md⟩
 exact aJ aa mv<|aJ aa (jJ 0 u9 aa aa ab)<|aJ aa (aX (.int .u8 b.toNat) aa)<|aJ aa (bQ aa aa)<|p (bA aa)<|ay<|A<|rt<|tr<|a6 aa<|⟨by show ca (decide _)=_; unfold c8; rw [if_pos (show t.length=1 by omega)]; exact congrArg ca (decide_eq_decide.2<|QP ab I),C.md⟩
 refine aQ<|V<|az fun A=>ag fun Z=>p mv<|p (jJ 1 u9 aa aa ab)<|p (bQ aa aa)<|nl<|Z<|cd aa (fun G=> ?_) fun G=> ?_;refine ag fun E=>p mv<|p mv<|p (cR u9 aa aa)<|p (dY ((t.length - 1:Nat):Int) aa aa<|bp ab ab)<|p (mW u9 aa aa aa ab)<|au (.int .u8 b.toNat)<|e<|cl Il (Mf ((t.take<|t.length - 1).drop 2) b _<|by simp only [fS,dP]; omega) aa fun av aB aj=> ?_;obtain ⟨rfl,ah⟩:=aj;exact ay<|E<|ag fun ac=>p mv<|p (no aa)<|p aE<|nl<|ac<|rt<|tr<|a6 aa<|⟨by show ca (!decide _)=_; unfold c8; rw [if_neg (show ¬t.length=1 by omega),if_pos (lM.1 (by have an:(94:UInt8).toNat=94:=aa; omega))],Md.trans C.md ah⟩
 refine aQ<|A<|ag fun E=>p mv<|p mv<|p (cR u9 aa aa)<|p (dY ((t.length - 1:Nat):Int) aa aa<|bp ab ab)<|p (mW u9 aa aa aa ab)<|au (.int .u8 b.toNat)<|e<|cl Il (Mf ((t.take<|t.length - 1).drop 1) b _<|by simp only [fS,dP]; omega) aa fun ax aC ak=> ?_;obtain ⟨rfl,ai⟩:=ak;exact ay<|E<|rt<|a6 aa<|⟨by unfold c8; rw [if_neg (show ¬t.length=1 by omega),if_neg (fun h=>by rw [h] at G; exact G aa)]; rfl,Md.trans C.md ai⟩
theorem G5 (t:List UInt8) (b:UInt8) (bi:Int) (w:World) (C:t.length=1∨3≤t.length) (E:t.length≤1048576) (A:(b.toNat:Int)=bi):bm aw 262 (bh [.agg [str t].toArray,.int .u8 bi]) w (fun v w'=>v= .bool (c8 t b)∧Wk w w'):=by
 subst A; exact G4 t b w C E
theorem G6 (t:List UInt8) (q:Bool) (w:World) (aR:t.length=1∨3≤t.length) (aS:t.length≤1048576):
 bm aw 304 (bh [.agg [str t].toArray,.bool q]) w (fun v w'=>bz w' w.heap.size 5 1 (v) (bytesOf fun x=>decide (c8 t x=q)).length (U8<|bytesOf fun x=>decide (c8 t x=q))∧Wk w w'):=by
 refine enter func304 aa ntmps304 aa<|ag fun al=>e<|ib aa fun aB J aZ ah aC=>ay<|al<|ag fun am=>e<|mG iX fun Z aX a1 aI aF=> ?_;have aO:bz aX J.heap.size 5 1 (.slice (some ⟨Z,0,none⟩) 0 0) (([]:List UInt8)).length (U8<|([]:List UInt8)):=aF _ ab;refine ay<|am<|az fun an=>ag fun ao=>p aE<|nl<|ao<|aT<|lp (fun ac aj Y=> ∃ (i:Nat) (A:Value),(i≤256)∧(bz Y J.heap.size 5 1 (A) (mH (fun x=>decide (c8 t x=q)) i).length<|U8<|mH (fun x=>decide (c8 t x=q)) i)∧(Wk J Y)∧(Sl aj [(1,.bool q),(2,aV aB),(5,A),(6,ak i)])∧(256 - i=ac)) _ ⟨0,.slice (some ⟨Z,0,none⟩) 0 0,ab,aO,aI.md,aa,aa⟩ ?_;rintro ac aj Y ⟨i,A,hi,I,G,aP,rfl⟩;refine bG aP ?_;have a2:=rQ (fun x=>decide (c8 t x=q)) i;refine az fun aq=>ag fun av=>au (ak i)<|p (lt aa aa)<|nl<|av<|cd aa (fun aK=> ?_) fun aK=> ?_;refine aQ<|aq<|az fun E=>aT<|ag fun ax=>p (cW uw aa (aa) (show ∀ j,j < 1→Hb.aW _ _ (0 +j)= [str t][j]? from fun j a4=>by cases j with | zero=>exact (G.B aC).aW 0 | succ j=>omega))<|au (ak i)<|p (mh u5 sE aa<|vD ab)<|e<|cl CB (G5 t (UInt8.ofNat i) _ _ aR aS<|A5 i ab) aa fun a8 a9 aJ=> ?_;obtain ⟨rfl,C⟩:=aJ;refine ay<|ax<|ag fun aA=>p mv<|au (.bool q)<|p (De u4 aa aa)<|nl<|aA<|cd aa (fun V=> ?_) fun V=> ?_;refine rg aa<|au (A)<|au (ak i)<|p (mh u5 sE aa<|vD ab)<|e<|gz iX aa aa fun aY aU a0 O aD=> ?_;have ae:Wk J aU:=Md.trans (Md.trans G C) O.md;refine e<|ap iX (a7 (a7 I C) O.md) aa (by have :=ae.size; omega) aa (aM.ec aD) (aa) (aa) ab ab fun v24 ba ai aH a5 a3=> ?_;have aG:=Wk.own ae (a7 (a7 I C) O.md) aH<|cU _;rw [← A5 i ab] at ai;have aN:=sr ai;exact p aE<|nl<|bn<|E<|rg aa<|au (ak i)<|p (bJ ((i+1:Nat):Int) aa aa<|bp ab ab)<|p aE<|nl<|tn<|⟨_,ab,i+1,v24,ab,(by rw [uC,if_pos (decide_eq_true V)]; exact aN),aG,aa,aa⟩
 exact aQ<|bn<|E<|rg aa<|au (ak i)<|p (bJ ((i+1:Nat):Int) aa aa<|bp ab ab)<|p aE<|nl<|tn<|⟨_,ab,i+1,A,ab,(by rw [uC,if_neg (fun h=>V<|of_decide_eq_true h),eB]; exact a7 I C),(Md.trans G C),aa,aa⟩
 refine ext<|bf<|bf<|be<|an<|ag fun E=>au (A)<|p (cE (A) aa)<|nl<|E<|rt<|a6 aa ?_;have aL:i=256:=ab;subst aL;exact ⟨eQ I ah.md.size,Md.trans ah.md G⟩
theorem ab2 (t:List UInt8) (w:World) (aN:t.length=1∨3≤t.length) (aO:t.length≤1048576):
 bm aw 294 (bh [.agg [str t].toArray]) w (fun v w'=>v=str (iH<|c8 t)∧Wk w w'):=by
 have co:(bytesOf<|c8 t).length≤256:=rQ _ 256;have cn:(bytesOf fun x=> !c8 t x).length≤256:=rQ _ 256;have bT:=RB (f:=c8 t);refine enter func294 aa ntmps294 aa ?_;refine az fun bj=> ?_;refine rg aa ?_;refine e<|ib aa fun bx cs cf bN a0=> ?_;refine p aE ?_;refine nl ?_;refine bj ?_;refine az fun bs=> ?_;refine rg aa ?_;refine p (cW uw aa (aa) (show ∀ j,j < 1→Hb.aW _ _ (0 +j)= [str t][j]? from fun j a9=>by cases j with | zero=>exact (a0).aW 0 | succ j=>omega)) ?_;refine e<|cl Iq (G6 t true _ aN aO) aa fun v10 ct bP=> ?_;obtain ⟨aJ,a3⟩:=bP;rw [HE (g:=c8 t) (fun x=>by cases c8 t x <;> rfl)] at aJ;obtain ⟨ae,ag,rfl⟩:=cJ aJ;have A:=(ba aJ).2;have a1:=a3.B a0;refine p aE ?_;refine nl ?_;refine bs ?_;refine az fun bt=> ?_;refine rg aa ?_;refine p (cW uw aa (aa) (show ∀ j,j < 1→Hb.aW _ _ (0 +j)= [str t][j]? from fun j a9=>by cases j with | zero=>exact (a1).aW 0 | succ j=>omega)) ?_;refine e<|cl Iq (G6 t false _ aN aO) aa fun v12 b4 bR=> ?_;obtain ⟨aK,ay⟩:=bR;rw [HE (g:=fun x=> !c8 t x) (fun x=>by cases c8 t x <;> rfl)] at aK;obtain ⟨b8,ce,rfl⟩:=cJ aK;have A:=A.wk ay;have bA:=ay.B a1;have ai:Wk w b4:=Md.trans bN.md<|Md.trans a3 ay;refine p aE ?_;refine nl ?_;refine bt ?_;refine az fun bu=> ?_;refine az fun bv=> ?_;refine rg aa ?_;refine p mv ?_;refine p (bM nQ aa aa) ?_;refine p (bQ aa aa) ?_;refine nl ?_;refine bv ?_;refine cd aa (fun bU=> ?_) fun bU=> ?_;refine az fun aq=> ?_;refine rg aa ?_;refine p aE ?_;refine nl ?_;refine aq ?_;refine rt ?_;refine tr ?_;refine a6 aa ?_;exact ⟨by unfold iH; rw [if_pos (bT.1 ab)]; rfl,ai⟩;refine aQ ?_;refine bu ?_;refine az fun aq=> ?_;refine az fun bw=> ?_;refine rg aa ?_;refine p mv ?_;refine p (bM nQ aa aa) ?_;refine p (bQ aa aa) ?_;refine nl ?_;refine bw ?_;refine cd aa (fun bV=> ?_) fun bV=> ?_;refine az fun av=> ?_;refine az fun ax=> ?_;refine rg aa ?_;refine p mv ?_;refine p (bc mK aa aa ab<|aM.ok (A)<|ri ab) ?_;refine p (ld qN aa<|rh (i:=0) A ab) ?_;refine p (bQ aa aa) ?_;refine nl ?_;refine ax ?_;refine cd aa (fun aF=> ?_) fun aF=> ?_;refine az fun Y=> ?_;refine rg aa ?_;refine p aE ?_;refine nl ?_;refine Y ?_;refine rt ?_;refine tr ?_;refine tr ?_;refine a6 aa ?_;exact ⟨by rw [ab0 ab ab (Ed aF)]; rfl,ai⟩;refine aQ ?_;refine av ?_;refine az fun Y=> ?_;refine az fun Z=> ?_;refine rg aa ?_;refine p mv ?_;refine p (bc mK aa aa ab<|aM.ok (A)<|ri ab) ?_;refine p (ld qN aa<|rh (i:=0) A ab) ?_;refine p (bQ aa aa) ?_;refine nl ?_;refine Z ?_;refine cd aa (fun aG=> ?_) fun aG=> ?_;refine az fun ac=> ?_;refine rg aa ?_;refine p aE ?_;refine nl ?_;refine ac ?_;refine rt ?_;refine tr ?_;refine tr ?_;refine a6 aa ?_;exact ⟨by rw [ab1 ab ab (Ac aG)]; rfl,ai⟩;refine aQ ?_;refine Y ?_;refine az fun ac=> ?_;refine rg aa ?_;refine au (.slice ae (bytesOf<|c8 t).length ag) ?_;refine p (ot oh aa (A)<|aa) ?_;refine p aE ?_;refine nl ?_;refine ac ?_;refine rt ?_;refine tr ?_;refine a6 aa ?_;exact ⟨by unfold iH; rw [if_neg (show ¬(bytesOf<|c8 t).length=256 by omega),if_pos ⟨ab,EJ aF,xK aG⟩]; rfl,ai⟩;refine aQ ?_;refine aq ?_
 refine az fun av=> ?_;refine rg aa ?_;refine p (cW uw aa (aa) (show ∀ j,j < 1→Hb.aW _ _ (0 +j)= [str t][j]? from fun j a9=>by cases j with | zero=>exact (bA).aW 0 | succ j=>omega)) ?_;refine e<|cl CB (G5 t 93 _ _ aN aO aa) aa fun v30 V bS=> ?_;obtain ⟨rfl,J⟩:=bS;have aA:=Md.trans ai J;refine p aE ?_;refine nl ?_;refine av ?_;refine az fun ax=> ?_;refine az fun Y=> ?_;refine rg aa ?_;refine p mv ?_;refine nl ?_;refine Y ?_;refine cb aa (fun aH=> ?_) fun aH=> ?_;refine az fun Z=> ?_;refine rg aa ?_;refine p mv ?_;refine p (ot oh aa ((ba<|a7 aK J).2)<|aa) ?_;refine p (cc aa aa<|by simp only [cV,gB]; omega) ?_;refine p (cc aa aa<|by simp only [cV,gB,bL]; omega) ?_;refine p aE ?_;refine nl ?_;refine Z ?_;refine rt ?_;refine tr ?_;refine a6 aa ?_;exact ⟨by unfold iH; rw [if_neg (show ¬(bytesOf<|c8 t).length=256 by omega),if_neg (show ¬((bytesOf<|c8 t).length=1∧_) from fun h=>by omega),if_pos aH]; rfl,aA⟩;refine aQ ?_;refine ax ?_;refine az fun Z=> ?_;refine rg aa ?_;refine e<|mG iX fun aU b5 cg bO bB=> ?_;have b1:bz b5 V.heap.size 5 1 (.slice (some ⟨aU,0,none⟩) 0 0) (([]:List UInt8)).length (U8<|([]:List UInt8)):=bB _ ab;refine p aE ?_;refine nl ?_;refine Z ?_;refine az fun ac=> ?_;refine rg aa ?_;refine p aE ?_;refine nl ?_;refine ac ?_;refine az fun bk=> ?_;refine az fun bl=> ?_;refine rg aa ?_;refine p aE ?_;refine nl ?_;refine bl ?_;refine aT ?_;refine lp (fun aZ bg aR=> ∃ (i:Nat) (ob:Bool) (am:Value),(i≤(bytesOf<|c8 t).length)∧(ob=decide (94∈(bytesOf<|c8 t).take i))∧(bz aR V.heap.size 5 1 (am) (((bytesOf<|c8 t).take i).filter fun b=>decide (b≠94)).length<|U8<|((bytesOf<|c8 t).take i).filter fun b=>decide (b≠94))∧(Wk V aR)∧(Sl bg [(1,aV bx),(3,.slice ae (bytesOf<|c8 t).length ag),(6,am),(7,.bool ob),(8,ak i)])∧((bytesOf<|c8 t).length - i=aZ)) _ ⟨0,false,.slice (some ⟨aU,0,none⟩) 0 0,ab,aa,b1,bO.md,aa,aa⟩ ?_;rintro aZ bg aR ⟨i,ob,am,hi,O,E,C,b2,rfl⟩;refine bG b2 ?_;have cm:(((bytesOf<|c8 t).take i).filter fun b=>decide (b≠94)).length≤256:=fz (List.length_filter_le _ _)<|by rw [dP]; omega
 refine az fun bo=> ?_;refine az fun bq=> ?_;refine rg aa ?_;refine au (ak i) ?_;refine au (.slice ae (bytesOf<|c8 t).length ag) ?_;refine p (bM nQ aa aa) ?_;refine p (lt aa aa) ?_;refine nl ?_;refine bq ?_;refine cd aa (fun bW=> ?_) fun bW=> ?_;refine aQ ?_;refine bo ?_;refine az fun I=> ?_;refine aT ?_;refine az fun br=> ?_;refine rg aa ?_;refine au (.slice ae (bytesOf<|c8 t).length ag) ?_;refine au (ak i) ?_;refine p (bc mK aa aa ab<|aM.ok (A.wk<|Md.trans J C)<|ri ab) ?_;refine p (ld qN aa<|rh (i:=i) (A.wk<|Md.trans J C) ab) ?_;refine p (bQ aa aa) ?_;refine nl ?_;refine br ?_;refine cd aa (fun aI=> ?_) fun aI=> ?_;have ah:=LO aI;refine rg aa ?_;refine p aE ?_;refine nl ?_;refine bn ?_;refine I ?_;refine rg aa ?_;refine au (ak i) ?_;refine p (bJ ((i+1:Nat):Int) aa aa<|bp ab ab) ?_;refine p aE ?_;refine nl ?_;refine tn ?_;exact ⟨_,ab,i+1,true,am,ab,(by rw [fV _ i 0 ab,ah,decide_eq_true (by simp)]),(by rw [fV _ i 0 ab,ah,yv,List.filter_cons_of_neg (by simp),PY,eB]; exact E),C,aa,aa⟩;have ah:=aaj aI;refine rg aa ?_;refine au (am) ?_;refine au (.slice ae (bytesOf<|c8 t).length ag) ?_;refine au (ak i) ?_;refine p (bc mK aa aa ab<|aM.ok (A.wk<|Md.trans J C)<|ri ab) ?_;refine p (ld qN aa<|rh (i:=i) (A.wk<|Md.trans J C) ab) ?_;refine e<|gz iX aa aa fun b9 b6 ch aC bC=> ?_;have a4:Wk V b6:=Md.trans C aC.md;refine e<|ap iX (a7 E aC.md) aa (by have :=a4.size; omega) aa (aM.ec bC) (aa) (aa) ab ab fun v54 cu bY bI cp cj=> ?_;have bE:=Wk.own a4 (a7 E aC.md) bI<|cU _;have bZ:=sr bY;refine p aE ?_;refine nl ?_;refine bn ?_;refine I ?_;refine rg aa ?_;refine au (ak i) ?_;refine p (bJ ((i+1:Nat):Int) aa aa<|bp ab ab) ?_;refine p aE ?_;refine nl ?_;refine tn ?_;exact ⟨_,ab,i+1,ob,v54,ab,(by rw [fV _ i 0 ab,O]; exact decide_eq_decide.2<|by rw [jm,iK]; exact ⟨.inl,fun h=>h.elim id fun h=>absurd h.symm ah⟩),(by rw [fV _ i 0 ab,yv,List.filter_cons_of_pos (by simpa using ah),PY]; exact bZ),bE,aa,aa⟩;refine ext ?_;refine bf ?_;refine bf ?_;refine be ?_;refine bk ?_;refine eo (fun bi aP=> ∃ (an:Option Addr) (G ao:Nat),(((bytesOf<|c8 t).filter (fun b=>decide (b≠94))++(if 94∈(bytesOf<|c8 t) then [94] else [])).length=G)∧(bz aP V.heap.size 5 1 (.slice an G ao) G<|U8<|(bytesOf<|c8 t).filter (fun b=>decide (b≠94))++(if 94∈(bytesOf<|c8 t) then [94] else []))∧(Wk w aP)∧(G≤300)∧(Sl bi [(6,.slice an G ao)])) ?_ ?_;refine az fun I=> ?_;obtain ⟨aS,aY,rfl⟩:=cJ E;have al:(bytesOf<|c8 t).take i=bytesOf (c8 t):=e9 ab;rw [al] at O;refine rg aa ?_;refine au (.bool ob) ?_;refine nl ?_;refine I ?_;refine cb aa (fun aj=> ?_) fun aj=> ?_;refine rg aa ?_;refine p (aX (.slice aS (((bytesOf<|c8 t).take i).filter fun b=>decide (b≠94)).length aY) aa) ?_;refine e<|gz iX aa aa fun ca b7 ci aD bD=> ?_;have a5:Wk V b7:=Md.trans C aD.md;refine e<|ap iX (a7 E aD.md) aa (by have :=a5.size; omega) aa (aM.ec bD) (aa) (aa) ab ab fun v58 cv aL bK cq ck=> ?_;have bF:=Wk.own a5 (a7 E aD.md) bK<|cU _;rw [al] at aL;have bd:=sr (x:=94) aL;obtain ⟨a2,c2,rfl⟩:=cJ aL;refine p aE ?_;refine nl ?_;refine tn ?_
 exact ⟨a2,_,c2,(by rw [if_pos (of_decide_eq_true<|O ▸ aj),bL]; rfl),(by rw [if_pos (of_decide_eq_true<|O ▸ aj)]; rw [bL] at bd; exact bd),(Md.trans aA bF),(by rw [← al]; omega),aa⟩;refine aQ ?_;refine tn ?_;exact ⟨aS,_,aY,(by rw [if_neg (of_decide_eq_false<|O ▸ aj),eB,al]),(by rw [if_neg (of_decide_eq_false<|O ▸ aj),eB]; have h3:=E; rw [al] at h3 ⊢; exact h3),(Md.trans aA C),(ab),aa⟩;rintro bi aP ⟨an,G,ao,bb,b0,bH,bX,b3⟩;refine bG b3 ?_;have a8:((bytesOf<|c8 t).filter (fun b=>decide (b≠94))++(if 94∈(bytesOf<|c8 t) then [94] else [])).length≤300:=by rw [bb]; exact bX
 refine az fun I=> ?_;refine rg aa ?_;refine au (.slice an G ao) ?_;refine p (ot oh aa ((ba b0).2)<|bb) ?_;refine p (cc aa aa<|fz (BN a8 _) aB) ?_;refine p (cc aa aa<|by rw [bL]; exact fz (Nat.add_le_add_right (BN a8 _) _) aB) ?_;refine p aE ?_;refine nl ?_;refine I ?_;refine rt ?_;refine a6 aa ?_;exact ⟨by unfold iH; rw [if_neg (show ¬(bytesOf<|c8 t).length=256 by omega),if_neg (show ¬((bytesOf<|c8 t).length=1∧_) from fun h=>by omega),if_neg (show ¬c8 t 93=true from by rw [aH]; exact Bool.noConfusion)]; rfl,bH⟩
theorem Um (s:List UInt8) (i:Nat) (w:World) (hs:s.length≤1048576) (hi:i≤s.length):
 bm aw 261 (bh [str s,ak i]) w (fun v w'=>v= .int .i64 (qQ s i)∧Wk w w'):=by
 refine enter func261 aa ntmps261 aa<|ag fun V=>ay<|V<|az fun Y=>aT<|lp (fun I O J=> ∃ (k:Nat),(i≤k∧k≤s.length)∧(∀ j,i≤j→j < k→s.getD j 0≠93)∧(J=w)∧(Sl O [(0,str s),(1,ak k)])∧(s.length - k=I)) _ ⟨i,ab,(fun j h1 h2=>by omega),aa,aa,aa⟩ ?_;rintro I O J ⟨k,hk,G,ai,al,rfl⟩;refine bG al ?_;subst ai;refine az fun Z=>ag fun ac=>au (ak k)<|au (str s)<|p (cR u9 aa aa)<|p (lt aa aa)<|nl<|ac<|cd aa (fun aj=> ?_) fun aj=> ?_;refine aQ<|Z<|aT<|az fun A=>ag fun ae=>au (str s)<|au (ak k)<|p (fj u9 aa aa ab)<|p (bQ aa aa)<|nl<|ae<|cd aa (fun E=> ?_) fun E=> ?_;have C:s.getD k 0=93:=lM.1 (by have :(93:UInt8).toNat=93:=rfl; omega);exact ag fun ah=>au (ak k)<|p (cE (ak k) aa)<|nl<|ah<|rt<|tr<|br<|tr<|br<|tr<|a6 aa<|⟨by rw [Ur (k:=k) ab G C]; rfl,Md.refl _ _⟩
 have C:s.getD k 0≠93:=fun h=>by rw [h] at E; exact E rfl
 exact aQ<|A<|rg aa<|au (ak k)<|p (bJ ((k+1:Nat):Int) aa aa<|bp ab ab)<|p aE<|nl<|bn<|tn<|⟨_,ab,k+1,ab,(fun j h1 h2=>by rcases fM j k with h | h <;> first | exact G j h1 h | (rw [show j=k by omega]; exact C)),aa,aa,aa⟩
 exact ext<|bf<|bf<|be<|Y<|ag fun A=>p aE<|nl<|A<|rt<|a6 aa<|⟨by rw [Us (fun j h1 h2=>G j h1 ab)]; rfl,Md.refl _ _⟩
theorem Nh (s:List UInt8) (w:World) (hs:s.length≤1048576):
 bm aw 228 (bh [str s]) w (fun v w'=>(∃ a,v= .tuple #[a,ak ((dz s).2)]∧bz w' w.heap.size 359 1 (a) ((dz s).1).length (((dz s).1).map str))∧Wk w w'):=by
 refine enter func228 aa ntmps228 aa<|ag fun aW=>p aE<|ay<|aW<|az fun aZ=>az fun aK=>rg aa<|au (str s)<|p (cR u9 aa aa)<|p (bQ aa aa)<|p mv<|gs (t:=11) aa (fun E=> ?_) fun E=> ?_;exact aH aa<|aH aa<|aH aa<|p (bH aa)<|nl<|aK<|ct aa<|az fun am=>rg aa<|p aE<|ay<|am<|rt<|tr<|f2 aa aa aa<|⟨⟨.slice none 0 0,by unfold dz; rw [if_pos (.inl<|fR ab)]; rfl,by unfold dz; rw [if_pos (.inl<|fR ab)]; exact dK _ _ _ _⟩,Md.refl _ _⟩
 refine aJ aa (aX (str s) aa)<|aJ aa (cR u9 aa aa)<|aJ aa (gt aa aa)<|p (bA aa)<|nl<|aK<|cd aa (fun ba=> ?_) fun ba=> ?_;exact ag fun am=>p aE<|ay<|am<|rt<|tr<|f2 aa aa aa<|⟨⟨.slice none 0 0,by unfold dz; rw [if_pos (.inr ab)]; rfl,by unfold dz; rw [if_pos (.inr ab)]; exact dK _ _ _ _⟩,Md.refl _ _⟩
 refine aQ<|aZ<|ag fun am=>ay<|am<|az fun a0=>ag fun a1=>au (str s)<|p (et aa aa)<|nl<|a1<|cd aa (fun O=> ?_) fun O=> ?_;refine ag fun av=>p mv<|p aE<|ay<|av<|rt<|tr<|f2 aa aa aa ?_;have aR:¬(s= []∨512 < s.length):=fun h=>h.elim (fun h=>by rw [h] at E; exact E rfl) fun h=>by omega
 exact ⟨⟨.slice none 0 0,by unfold dz; rw [if_neg aR,if_pos O]; rfl,by unfold dz; rw [if_neg aR,if_pos O]; exact dK _ _ _ _⟩,Md.refl _ _⟩;refine aQ<|a0<|ag fun av=>ay<|av<|az fun a2=>aT<|lp (fun aL aU aG=> ∃ (i:Nat) (C:List (List UInt8)) (ah:Value),(i≤s.length∧C.length≤i)∧(kS s i C)∧(bz aG w.heap.size 359 1 (ah) (C).length<|(C).map str)∧(Wk w aG)∧(Sl aU [(0,str s),(4,ah),(5,ak i)])∧(s.length - i=aL)) _ ⟨0,[],.slice none 0 0,(by simp),(kS.start s),(dK _ _ _ _),(Md.refl _ _),aa,aa⟩ ?_;rintro aL aU aG ⟨i,C,ah,hi,ae,an,I,bs,rfl⟩;refine bG bs<|az fun a3=>ag fun aY=>au (ak i)<|au (str s)<|p (cR u9 aa aa)<|p (lt aa aa)<|nl<|aY<|cd aa (fun bb=> ?_) fun bb=> ?_;refine aQ<|a3<|aT<|ag fun aq=>au (ak i)<|p (bJ ((i+1:Nat):Int) aa aa<|bp ab ab)<|p aE<|nl<|aq ?_;refine eo (fun aV aF=> ∃ (j:Nat),(i < j∧j≤s.length)∧(kS s j<|C++ [(s.take j).drop i])∧(bz aF w.heap.size 359 1 (ah) (C).length<|(C).map str)∧(Wk w aF)∧(Sl aV [(0,str s),(4,ah),(5,ak i),(6,ak j)])) ?_ ?_;refine ag fun ai=>au (str s)<|au (ak i)<|p (fj u9 aa aa ab)<|p (bQ aa aa)<|nl<|ai<|cd aa (fun aC=> ?_) fun aC=> ?_;refine ag fun aj=>au (str s)<|au (ak i)<|e<|cl SQ (Um s i _ hs ab) aa fun v31 bI a9=> ?_;obtain ⟨rfl,Z⟩:=a9;have J:=Ac aC;obtain ⟨aO,bd⟩:=Uq (show i < s.length by omega) J;have ac:=drop_cons (l:=s) (i:=i) 0 ab;have bC:(s.drop<|i+1).length=s.length - (i+1):=fS;refine ay<|aj<|az fun aI=>ag fun ao=>p mv<|p (lt aa aa)<|p mv<|gs (t:=34) aa (fun bg=> ?_) fun bg=> ?_;have G:jd (s.drop i)=none:=by
  rw [ac,J];exact ze aa fun h=>(aO.1 ab) h.1
 have V:=ae.bad ab G;refine aH aa<|aH aa<|aH aa<|aH aa<|p (bH aa)<|p mv<|aH aa<|aH aa<|aH aa<|aH aa<|aH aa<|ek aa<|ek aa<|ek aa<|ek aa<|ek aa<|aH aa<|p (bH aa)<|nl<|ao<|ct aa<|ag fun al=>p aE<|ay<|al<|rt<|tr<|tr<|br<|tr<|br<|tr<|f2 aa aa aa ?_;have A:dz s=([],41):=by unfold dz; rw [if_neg (fun h=>h.elim (fun h=>by rw [h] at E; exact E rfl) fun h=>by omega),if_neg O,V]
 exact ⟨⟨.slice none 0 0,by rw [A]; rfl,by rw [A]; exact dK _ _ _ _⟩,Md.trans I Z⟩;have bB:=bd ab;have aP:(s.drop<|i+1).idxOf 93 < (s.drop<|i+1).length:=Gi fun h=>by have :=aO.2 h; omega
 refine aJ aa mv<|aJ aa (aX (ak i) aa)<|aJ aa (bJ ((i+1:Nat):Int) aa aa<|bp ab ab)<|aJ aa (bQ aa aa)<|p (bA aa)<|p mv<|gs (t:=40) aa (fun bi=> ?_) fun bi=> ?_;have G:jd (s.drop i)=none:=by
  rw [ac,J];exact ze aa fun h=>h.2.1 ab
 have V:=ae.bad ab G;refine aH aa<|aH aa<|aH aa<|aH aa<|aH aa<|ek aa<|ek aa<|ek aa<|ek aa<|ek aa<|aH aa<|p (bH aa)<|nl<|ao<|ct aa<|az fun al=>rg aa<|p aE<|ay<|al<|rt<|tr<|tr<|br<|tr<|br<|tr<|f2 aa aa aa ?_;have A:dz s=([],41):=by unfold dz; rw [if_neg (fun h=>h.elim (fun h=>by rw [h] at E; exact E rfl) fun h=>by omega),if_neg O,V]
 exact ⟨⟨.slice none 0 0,by rw [A]; rfl,by rw [A]; exact dK _ _ _ _⟩,Md.trans I Z⟩;refine aJ aa mv<|aJ aa (aX (ak i) aa)<|aJ aa (bJ ((i+2:Nat):Int) aa aa<|bp ab ab)<|aJ aa (bQ aa aa)<|aJ aa mv<|gs (t:=45) aa (fun bj=> ?_) fun bj=> ?_;refine aJ aa (aX (str s) aa)<|aJ aa (aX (ak i) aa)<|aJ aa (bJ ((i+1:Nat):Int) aa aa<|bp ab ab)<|aJ aa (fj u9 aa aa ab)<|aJ aa (bQ aa aa)<|aJ aa (bH aa)<|p (bA aa)<|nl<|ao<|cd aa (fun aD=> ?_) fun aD=> ?_;have G:jd (s.drop i)=none:=by
  rw [ac,J];exact ze aa fun h=>h.2.2 ⟨ab,by rw [Jw]; exact LO aD⟩
 have V:=ae.bad ab G;refine ag fun al=>p aE<|ay<|al<|rt<|tr<|tr<|br<|tr<|br<|tr<|f2 aa aa aa ?_;have A:dz s=([],41):=by unfold dz; rw [if_neg (fun h=>h.elim (fun h=>by rw [h] at E; exact E rfl) fun h=>by omega),if_neg O,V]
 exact ⟨⟨.slice none 0 0,by rw [A]; rfl,by rw [A]; exact dK _ _ _ _⟩,Md.trans I Z⟩;have G:jd (s.drop i)=some (91::(s.drop<|i+1).take ((s.drop<|i+1).idxOf 93 +1),(s.drop<|i+1).drop ((s.drop<|i+1).idxOf 93 +1)):=by
  rw [ac,J];exact CU aa aP ab fun h=>aD<|by rw [← Jw,h.2]; rfl
 have Y:=ae.step (j:=i+1 +(s.drop<|i+1).idxOf 93 +1) G<|by rw [tX]; rfl
 rw [Hz J ab] at Y;exact aQ<|aI<|rg aa<|p mv<|p (bJ ((i+1 +(s.drop<|i+1).idxOf 93 +1:Nat):Int) aa aa<|bp ab ab)<|p aE<|nl<|tn<|⟨i+1 +(s.drop<|i+1).idxOf 93 +1,(ab),Y,(a7 an Z),(Md.trans I Z),aa⟩
 have G:jd (s.drop i)=some (91::(s.drop<|i+1).take ((s.drop<|i+1).idxOf 93 +1),(s.drop<|i+1).drop ((s.drop<|i+1).idxOf 93 +1)):=by
  rw [ac,J];exact CU aa aP ab fun h=>by omega
 have Y:=ae.step (j:=i+1 +(s.drop<|i+1).idxOf 93 +1) G<|by rw [tX]; rfl
 rw [Hz J ab] at Y;refine aH aa<|aH aa<|aH aa<|aH aa<|aH aa<|aJ aa (bA aa)<|p (bA aa)<|nl<|ao<|cf aa<|aQ<|aI<|rg aa<|p mv<|p (bJ ((i+1 +(s.drop<|i+1).idxOf 93 +1:Nat):Int) aa aa<|bp ab ab)<|p aE ?_;exact nl<|tn<|⟨i+1 +(s.drop<|i+1).idxOf 93 +1,(ab),Y,(a7 an Z),(Md.trans I Z),aa⟩
 have bl:=xK aC;have ac:=drop_cons (l:=s) (i:=i) 0 ab;have G:jd (s.drop i)=some ([s.getD i 0],s.drop (i+1)):=by rw [ac]; exact II bl
 have Y:=ae.step (j:=i+1) G rfl;rw [← aan (show i < s.length by omega)] at Y;exact aQ<|tn<|⟨i+1,(ab),Y,an,I,aa⟩
 rintro aV aF ⟨j,bE,bk,aS,a6,bt⟩;refine bG bt<|ag fun ai=>au (ah)<|au (str s)<|au (ak i)<|au (ak j)<|p (mW u9 aa aa aa ab)<|p (dj (ps:= [(0,str ((s.take j).drop i))]) (L:= [str ((s.take j).drop i)]) acx aa<|aa)<|e<|kY N3 aa aa aa fun bw bv bx aB a4=> ?_;have aN:Wk w bv:=Md.trans a6 aB.md;refine e<|ap N3 (a7 aS aB.md) aa (by have :=aN.size; omega) aa (aM.ec a4) (aa) (aa) ab ab fun bu bK bo a8 bF bD=> ?_;have a5:=Wk.own aN (a7 aS aB.md) a8<|cU _;have bq:=aaE bo;exact ay<|ai<|rg aa<|au (ak j)<|p (cE (ak j) aa)<|nl<|bn<|tn<|⟨_,ab,j,C++ [(s.take j).drop i],bu,(by rw [bL,fu]; omega),bk,bq,a5,aa,aa⟩
 refine ext<|bf<|bf<|be<|a2<|az fun aq=>az fun ai=> ?_;obtain ⟨ax,aA,rfl⟩:=cJ an;have V:=ae.done ab;refine rg aa<|au (.slice ax C.length aA)<|p (bM tJ aa aa)<|p (gt aa aa)<|nl<|ai<|cd aa (fun bc=> ?_) fun bc=> ?_;refine ag fun aj=>p aE<|ay<|aj<|rt<|tr<|f2 aa aa aa ?_;have A:dz s=([],42):=by unfold dz; rw [if_neg (fun h=>h.elim (fun h=>by rw [h] at E; exact E rfl) fun h=>by omega),if_neg O,V]; exact if_pos ab
 exact ⟨⟨.slice none 0 0,by rw [A]; rfl,by rw [A]; exact dK _ _ _ _⟩,I⟩;refine aQ<|aq<|ag fun aj=>au (.slice ax C.length aA)<|p (cE (.slice ax C.length aA) aa)<|p aE<|nl<|aj<|rt<|f2 aa aa aa ?_;have A:dz s=(C,0):=by unfold dz; rw [if_neg (fun h=>h.elim (fun h=>by rw [h] at E; exact E rfl) fun h=>by omega),if_neg O,V]; exact if_neg ab
 exact ⟨⟨_,by rw [A]; rfl,by rw [A]; exact an⟩,I⟩
theorem aby (ps:List (List UInt8)) (a:Option Addr) (c:Nat) (w:World) (V:aM w.heap a (ps.map str)) (hn:ps.length≤4096) (Y:∀ t∈ps,(t.length=1∨3≤t.length)∧t.length≤1048576):
 bm aw 274 (bh [.slice a ps.length c]) w (fun v w'=>v=str (mV ps)∧Wk w w'):=by
 refine enter func274 aa ntmps274 aa<|ag fun Z=>ay<|Z<|az fun ae=>ag fun ah=>au (.slice a ps.length c)<|p (bM tJ aa aa)<|p (bQ aa aa)<|nl<|ah<|cd aa (fun G=> ?_) fun G=> ?_;exact ag fun C=>ay<|C<|rt<|tr<|a6 aa<|⟨by unfold mV; rw [if_pos (fR ab)]; rfl,Md.refl _ _⟩
 refine aQ<|ae<|ag fun C=>ay<|C<|az fun ai=>ag fun aj=>ay<|aj<|aT<|lp (fun O J I=> ∃ (i:Nat),(i≤ps.length)∧(Wk w I)∧(((ps.take i).flatMap fun t=>iH<|c8 t).length≤i*300)∧(J 3=str ((ps.take i).flatMap fun t=>iH<|c8 t))∧(Sl J [(0,.slice a ps.length c),(4,ak i)])∧(ps.length - i=O)) _ ⟨0,ab,(Md.refl _ _),(by simp),(by first | rfl | (rw [fV ps i [] ab,nU,pU]; rfl)),aa,aa⟩ ?_;rintro O J I ⟨i,hi,A,hlen,av,aq,rfl⟩;refine bG aq<|fx 3 av<|az fun al=>ag fun am=>au (ak i)<|au (.slice a ps.length c)<|p (bM tJ aa aa)<|p (lt aa aa)<|nl<|am<|cd aa (fun ap=> ?_) fun ap=> ?_;refine aQ<|al<|az fun E=>aT<|ag fun ac=>au (.slice a ps.length c)<|au (ak i)<|p (bc JO aa aa ab<|aM.ok (V.wk A)<|cg ab)<|p (cW uw aa (aa) (show ∀ j,j < 1→Hb.aW I.heap (bk a) (fo a+i*1 +j)= [str (ps.getD i [])][j]? from fun j ax=>by cases j with | zero=>exact (Mn (V.wk A) ab) | succ j=>omega))<|e<|cl S9 (ab2 (ps.getD i []) _ (Y _<|eb ab).1 (Y _<|eb ab).2) aa fun aB aC ao=> ?_;obtain ⟨rfl,an⟩:=ao;have aA:=Ft<|c8<|ps.getD i [];exact ay<|ac<|rg aa<|au (str<|(ps.take i).flatMap fun t=>iH<|c8 t)<|p mv<|p (cc aa aa ab)<|p aE<|nl<|bn<|E<|rg aa<|au (ak i)<|p (bJ ((i+1:Nat):Int) aa aa<|bp ab ab)<|p aE<|nl<|tn<|⟨_,ab,i+1,ab,(Md.trans A an),(by rw [fV ps i [] ab,nU,pU,bL]; omega),(by first | rfl | (rw [fV ps i [] ab,nU,pU]; rfl)),aa,aa⟩
 exact ext<|bf<|bf<|be<|ai<|ag fun E=>au (str<|(ps.take i).flatMap fun t=>iH<|c8 t)<|p (cE (str<|(ps.take i).flatMap fun t=>iH<|c8 t) aa)<|nl<|E<|rt<|a6 aa<|⟨by unfold mV; rw [if_neg (fun h=>by rw [h] at G; exact G aa),show ps.take i=ps from e9 ab]; rfl,A⟩
end Go.Hb
end
section
namespace Go.Hb
open Go.Hb.kA
theorem Le {α:Type} {l:List α} {i:Nat} {d:α} (h:i < l.length):l.getD i d∈l:=by
 rw [cX,cx h]; exact List.getElem_mem h
theorem Fa (s:List UInt8) (w:World) (hs:s.length≤1048576):
 bm aw 94 (bh [str s]) w (fun v w'=>bz w' w.heap.size 9 1 (v) (bP s).length ((bP s).map str)∧Wk w w'):=by
 refine enter func94 aa ntmps94 aa<|ag fun aZ=>ay<|aZ ?_;refine eo (fun aX aW=>(Wk w aW)∧(aX 0=str (lI s))) ?_ ?_;refine ag fun am=>au (str s)<|e<|cl R5 (Aj s _) aa fun b8 cg bs=> ?_;obtain ⟨rfl,aO⟩:=bs;refine nl<|am<|cb aa (fun ae=> ?_) fun ae=> ?_;have b2:=ZE ae;exact rg aa<|au (str s)<|p (mX u9 aa aa ab)<|p aE<|nl<|tn<|⟨aO,by show str (s.drop 3)=_; rw [adf ae]⟩
 exact aQ<|tn<|⟨aO,by show str s=_; rw [ade ae]⟩
 rintro aX aW ⟨aI,bH⟩;refine fx 0 bH ?_;have b4:=A8 s;refine ag fun am=>ay<|am<|ag fun a0=>e<|mG iX fun aF aU bS bp a8=> ?_;have bE:bz aU w.heap.size 5 1 (.slice (some ⟨aF,0,none⟩) 0 0) (([]:List UInt8)).length (U8<|([]:List UInt8)):=a8 _<|by have :=aI.size; omega
 have bg:Wk w aU:=Md.trans aI bp.md;refine ay<|a0<|ag fun a1=>ay<|a1<|az fun a2=>ag fun a3=>ay<|a3<|aT<|lp (fun aH aY ai=> ∃ (i:Nat) (C:List (List UInt8)) (A:List UInt8) (ob:Bool) (G ah:Value),(i≤(lI s).length)∧(C++gG A ((lI s).drop i)=bP s)∧(ob=decide (A≠[]))∧(A.length≤i)∧(Wk w ai)∧(bz ai w.heap.size 9 1 (G) (C).length<|(C).map str)∧(bz ai w.heap.size 5 1 (ah) (A).length<|U8<|A)∧(Sl aY [(0,str (lI s)),(3,G),(4,ah),(5,.bool ob),(6,.int .i64 i)])∧((lI s).length - i=aH)) _ ⟨0,[],[],false,.slice none 0 0,.slice (some ⟨aF,0,none⟩) 0 0,ab,aa,aa,(by simp),bg,(dK _ _ _ _),bE,aa,aa⟩ ?_;rintro aH aY ai ⟨i,C,A,ob,G,ah,hi,hd,aS,bX,Z,I,E,bI,rfl⟩;refine bG bI ?_;have bY:C.length≤s.length+1:=by have h1:=congrArg j7 hd; have h2:=pH s; rw [bL] at h1; omega
 have b3:=Z.size;refine az fun a4=>ag fun a5=>au (.int .i64 i)<|au (str<|lI s)<|p (cR u9 aa aa)<|p (lt aa aa)<|nl<|a5<|cd aa (fun bu=> ?_) fun bu=> ?_;refine aQ<|a4<|az fun O=>aT<|az fun aj=>ag fun J=>au (str<|lI s)<|au (.int .i64 i)<|p (fj u9 aa aa ab)<|p (dd aa aa)<|nl<|J<|cd aa (fun ax=> ?_) fun ax=> ?_;refine ag fun ak=>au (ah)<|au (str<|lI s)<|au (.int .i64 i)<|p (fj u9 aa aa ab)<|e<|gz iX aa aa fun bO bK bT ac a9=> ?_;have aJ:Wk w bK:=Md.trans Z ac.md;refine e<|ap iX (a7 E ac.md) aa (by have :=aJ.size; omega) aa (aM.ec a9) (aa) (aa) ab ab fun bJ b9 bv aP b5 bZ=> ?_;have bi:=Wk.own aJ (a7 E ac.md) aP<|cU _;have bw:=sr bv;have bD:=dw (a7 I ac.md) aP fun k hk=>nI I E aB hk;exact ay<|ak<|ag fun al=>ay<|al<|ext<|bf<|be<|O<|rg aa<|au (.int .i64 i)<|p (ad aa aa<|cB ab)<|p aE<|nl<|tn<|⟨_,ab,i+1,C,A++ [(lI s).getD i 0],true,G,bJ,ab,(by rw [drop_cons 0 ab,Eo (aah ax)] at hd; exact hd),(by simp),(by rw [bL,fu]; omega),bi,bD,bw,aa,aa⟩
 have bt:=YM<|Gi ax;obtain ⟨V,Y,rfl⟩:=cJ E;refine aQ<|aj<|ag fun ak=>au (G)<|au (.slice V A.length Y)<|e<|cl HP (JB A V Y _ (ba E).2 ab (ba E).1) aa fun v30 ca bq=> ?_;obtain ⟨rfl,an⟩:=bq;refine e<|gz gq aa aa fun bQ bM bU aq bb=> ?_;have aK:Wk w bM:=Md.trans (Md.trans Z an) aq.md;refine e<|ap gq (a7 (a7 I an) aq.md) aa (by have :=aK.size; omega) aa (aM.ec bb) (aa) (aa) ab ab fun v32 cc bx bl b6 b0=> ?_;have aL:=Wk.own aK (a7 (a7 I an) aq.md) bl<|cU _;have bA:=nJ bx;refine ay<|ak<|ag fun al=>e<|mG iX fun aG aV bV aR bc=> ?_;have bj:Wk w aV:=Md.trans aL aR.md;have bF:bz aV w.heap.size 5 1 (.slice (some ⟨aG,0,none⟩) 0 0) (([]:List UInt8)).length (U8<|([]:List UInt8)):=bc _<|by have :=aL.size; omega
 exact ay<|al<|rg aa<|p aE<|nl<|bn<|O<|rg aa<|au (.int .i64 i)<|p (ad aa aa<|cB ab)<|p aE<|nl<|tn<|⟨_,ab,i+1,C++ [ka A],[],false,v32,.slice (some ⟨aG,0,none⟩) 0 0,ab,(by rw [drop_cons 0 ab,bt,Mk] at hd; rw [eS]; exact hd),aa,(by simp),bj,(a7 bA aR.md),bF,aa,aa⟩
 refine ext<|bf<|bf<|be<|a2<|az fun O=>ag fun aj=>au (.bool ob)<|nl<|aj<|cb aa (fun aA=> ?_) fun aA=> ?_;have aD:A≠[]:=by have :=aS.symm.trans aA; exact of_decide_eq_true this
 obtain ⟨V,Y,rfl⟩:=cJ E;refine rg aa<|au (G)<|au (.slice V A.length Y)<|e<|cl HP (JB A V Y _ (ba E).2 ab (ba E).1) aa fun v37 ce br=> ?_;obtain ⟨rfl,ao⟩:=br;refine e<|gz gq aa aa fun bR bN bW av bd=> ?_;have aN:Wk w bN:=Md.trans (Md.trans Z ao) av.md;refine e<|ap gq (a7 (a7 I ao) av.md) aa (by have :=aN.size; omega) aa (aM.ec bd) (aa) (aa) ab ab fun v39 cf bB bo b7 b1=> ?_;have bk:=Wk.own aN (a7 (a7 I ao) av.md) bo<|cU _;have bC:=nJ bB;refine ay<|O<|ag fun J=>p mv<|p aE<|nl<|J<|rt<|a6 aa ?_;have aC:C++ [ka A]=bP s:=by rw [← hd,show List.drop i (lI s)= [] from iJ ab,Mj aD]
 exact ⟨by rw [← aC]; exact bC,bk⟩;have aD:A= []:=Gi<|of_decide_eq_false<|aS.symm.trans aA;refine aQ<|O<|ag fun J=>au (G)<|p (cE (G) aa)<|nl<|J<|rt<|a6 aa ?_;have aC:C=bP s:=by rw [← hd,show List.drop i (lI s)= [] from iJ ab,aD,Ep,eB]
 exact ⟨by rw [← aC]; exact I,Z⟩
set_option maxHeartbeats 1000000 in
theorem NB (s:List UInt8) (w:World) (hs:s.length≤1048576):
 bm aw 93 (bh [str s]) w (fun v w'=>(∃ a,v= .tuple #[a,.int .i64 (if 65536 < s.length then 10 else 0)]∧(if 65536 < s.length then a= .slice none 0 0 else ∃ vs,bz w' w.heap.size 209 2 a (bZ s).length (lg vs)∧iQ w' w.heap.size 9 vs (bZ s)))∧Wk w w'):=by
 refine enter func93 aa ntmps93 aa<|ag fun bg=>p aE<|ay<|bg<|az fun bo=>az fun bq=>rg aa<|au (str s)<|p (cR u9 aa aa)<|p (gt aa aa)<|nl<|bq<|cd aa (fun bF=> ?_) fun bF=> ?_;refine ag fun aN=>p aE<|ay<|aN<|rt<|tr<|f2 aa aa aa ?_;have av:65536 < s.length:=ab;exact ⟨⟨.slice none 0 0,by show gV #[.slice none 0 0,.int .i64 10]=_; rw [if_pos av],by rw [if_pos av]⟩,Md.refl _ _⟩;refine aQ<|bo<|ag fun aN=>ay<|aN<|az fun br=>rg aa<|au (str s)<|e<|cl CO (Fa s _ hs) aa fun cc aj bC=> ?_;obtain ⟨a8,aS⟩:=bC;obtain ⟨aC,aF,rfl⟩:=cJ a8;have a5:=(ba a8).2;have b8:=pH s;refine ay<|br<|az fun bs=>ag fun bt=>p aE<|nl<|bt<|aT<|lp (fun am bb aL=> ∃ (i:Nat) (O:Value) (vs:List (Nat×Value)),(i≤(bP s).length)∧(Wk aj aL)∧(bz aL aj.heap.size 209 2 O (l5 1<|(bP s).take i).length<|lg vs)∧(iQ aL aj.heap.size 9 vs<|l5 1<|(bP s).take i)∧(Sl bb [(4,O),(5,.slice aC (bP s).length aF),(6,.int .i64 i)])∧((bP s).length - i=am)) _ ⟨0,.slice none 0 0,[],ab,(Md.refl _ _),(dK _ _ _ _),(iQ.nil _ _ _),aa,aa⟩ ?_;rintro am bb aL ⟨i,O,vs,hi,ao,J,ai,bV,rfl⟩;refine bG bV ?_;have bU:=Fg ((bP s).take i) 1;rw [dP] at bU;have b9:=ao.size;refine az fun bu=>az fun bv=> ?_;have b7:((bP s).getD i []).length≤s.length:=by rcases fM i (bP s).length with h | h <;> first | exact Em (Le h) | (rw [cX,List.getElem?_eq_none h]; exact hZ _)
 refine rg aa<|au (.int .i64 i)<|au (.slice aC (bP s).length aF)<|p (bM fq aa aa)<|p (lt aa aa)<|nl<|bv<|cd aa (fun bI=> ?_) fun bI=> ?_;refine aQ<|bu<|az fun ae=>aT<|ag fun bi=>p aE<|nl<|bi<|ag fun bj=>au (.slice aC (bP s).length aF)<|au (.int .i64 i)<|p (bc db aa aa ab<|aM.ok (a5.wk ao)<|cg ab)<|p (ld bX aa<|cM.get (i:=i) (a5.wk ao) ab)<|e<|cl RZ (abm ((bP s).getD i []) _ ab) aa fun v25 aK bD=> ?_;obtain ⟨a9,E⟩:=bD;obtain ⟨aA,aD,rfl⟩:=cJ a9;have aG:=(ba a9).2;have ah:Wk aj aK:=Md.trans ao E;have b5:=wY ((bP s).getD i []) [];refine ay<|bj<|az fun a2=>ag fun bk=>p aE<|nl<|bk<|aT<|lp (fun am bd a1=> ∃ (j:Nat) (aI:Value),(j≤(da []<|(bP s).getD i []).length)∧(∀ q,q < j→xS ((da []<|(bP s).getD i []).getD q [])=false)∧(Wk aK a1)∧(bz a1 aK.heap.size 9 1 (aI) ((da []<|(bP s).getD i []).take j).length<|((da []<|(bP s).getD i []).take j).map str)∧(Sl bd [(4,O),(5,.slice aC (bP s).length aF),(6,.int .i64 i),(7,aI),(8,.slice aA (da []<|(bP s).getD i []).length aD),(9,.int .i64 j)])∧((da []<|(bP s).getD i []).length - j=am)) _ ⟨0,.slice none 0 0,ab,(fun q bT=>by omega),(Md.refl _ _),(dK _ _ _ _),aa,aa⟩ ?_;rintro am bd a1 ⟨j,aI,a6,aY,A,Y,bW,rfl⟩;refine bG bW ?_;have b6:((da []<|(bP s).getD i []).take j).length≤j:=by rw [dP]; omega
 have ca:=A.size;refine az fun bl=>ag fun a3=>au (.int .i64 j)<|au (.slice aA (da []<|(bP s).getD i []).length aD)<|p (bM fq aa aa)<|p (lt aa aa)<|p mv<|gs (t:=30) aa (fun bO=> ?_) fun bO=> ?_;refine aJ aa (aX (.slice aA (da []<|(bP s).getD i []).length aD) aa)<|aJ aa (aX (.int .i64 j) aa)<|aJ aa (bc db aa aa ab<|aM.ok (aG.wk A)<|cg ab)<|aJ aa (ld bX aa<|cM.get (i:=j) (aG.wk A) ab)<|aJ aa (jJ 0 u9 aa aa<|l7.2 (Dw _ _ _<|Le ab).1)<|aJ aa (dd aa aa)<|p (bH aa)<|nl<|a3<|cd aa (fun bK=> ?_) fun bK=> ?_;refine aQ<|bl<|az fun al=>aT<|rg aa<|au (aI)<|au (.slice aA (da []<|(bP s).getD i []).length aD)<|au (.int .i64 j)<|p (bc db aa aa ab<|aM.ok (aG.wk A)<|cg ab)<|p (ld bX aa<|cM.get (i:=j) (aG.wk A) ab)<|e<|gz gq aa aa fun b2 b0 b3 aV bw=> ?_;have a4:Wk aK b0:=Md.trans A aV.md;refine e<|ap gq (a7 Y aV.md) aa (by have :=a4.size; omega) aa (aM.ec bw) (aa) (aa) ab ab fun v46 ce bQ bB cb b4=> ?_;have bx:=Wk.own a4 (a7 Y aV.md) bB<|cU _;have bR:=nJ bQ;exact p aE<|nl<|bn<|al<|rg aa<|au (.int .i64 j)<|p (ad aa aa<|cB ab)<|p aE<|nl<|tn<|⟨_,ab,j+1,v46,ab,(fun q bT=>by rcases fM q j with h | h <;> first | exact aY q h | (rw [show q=j by omega]; exact decide_eq_false ab)),bx,(by rw [fV _ j [] ab]; exact bR),aa,aa⟩
 have aq:pG (da []<|(bP s).getD i [])=((da []<|(bP s).getD i []).take j):=Ae a6 aY<|.inr<|decide_eq_true ab;obtain ⟨G,I,rfl⟩:=cJ Y;refine ext<|bf<|bf<|be<|a2<|ag fun al=>p (aX (.slice G ((da []<|(bP s).getD i []).take j).length I) aa)<|p (bM fq aa aa)<|p (gt aa aa)<|nl<|al<|cd aa (fun ac=> ?_) fun ac=> ?_;have V:l0 ((bP s).getD i []) (1 +i)= [(i+1,((da []<|(bP s).getD i []).take j))]:=by unfold l0; rw [aq,if_neg (fun h=>by rw [h] at ac; simp at ac),Qo]
 refine rg aa<|au (O)<|au (.int .i64 i)<|p (bJ ((i+1:Nat):Int) aa aa<|bp ab ab)<|p (aX (.slice G ((da []<|(bP s).getD i []).take j).length I) aa)<|p (dj (ps:= [(0,ak (i+1)),(1,.slice G ((da []<|(bP s).getD i []).take j).length I)]) (L:= [ak (i+1),.slice G ((da []<|(bP s).getD i []).take j).length I]) Oa aa<|aa)<|e<|kY AM aa aa aa fun aO ax bE C aP=> ?_;have aR:bS ax.heap aO [ak (i+1),.slice G ((da []<|(bP s).getD i []).take j).length I]:=aP;have an:Wk aj ax:=Md.trans ah<|Md.trans A C.md;refine e<|ap AM (a7 (a7 (a7 J E) A) C.md) aa (by have :=an.size; omega) aa (aM.ec aR) (aa) (aa) ab ab fun a0 b1 aW Z bY bN=> ?_;have aU:=Wk.own an (a7 (a7 (a7 J E) A) C.md) Z<|cU _;have aZ:=((((ai.wk E).wk A).wk C.md).md Z<|iW (a7 (a7 (a7 J E) A) C.md) aB).snoc (n:=i+1)<|Tg.j6<|eQ (dw (a7 Y C.md) Z fun k hk=>nI (a7 Y C.md) (a7 (a7 (a7 J E) A) C.md) aB hk)<|by have :=Md.size ah; omega
 exact p aE<|nl<|bn<|ae<|rg aa<|au (.int .i64 i)<|p (ad aa aa<|cB ab)<|p aE<|nl<|tn<|⟨_,ab,i+1,a0,vs++ [(i+1,.slice G ((da []<|(bP s).getD i []).take j).length I)],ab,aU,(by rw [fV _ i [] ab,oK,show ((bP s).take i).length=i from by rw [dP]; omega,V,bL,Fq]; exact aW),(by rw [fV _ i [] ab,oK,show ((bP s).take i).length=i from by rw [dP]; omega,V]; exact aZ),aa,aa⟩
 have V:∀ n,l0 ((bP s).getD i []) n= []:=fun n=>by unfold l0; rw [aq,if_pos (yy.1 ab)]
 exact aQ<|bn<|ae<|rg aa<|au (.int .i64 i)<|p (ad aa aa<|cB ab)<|p aE<|nl<|tn<|⟨_,ab,i+1,O,vs,ab,(Md.trans ah A),(by rw [fV _ i [] ab,oK,V,eB]; exact a7 (a7 J E) A),(by rw [fV _ i [] ab,oK,V,eB]; exact (ai.wk E).wk A),aa,aa⟩
 have aq:pG (da []<|(bP s).getD i [])=((da []<|(bP s).getD i []).take j):=Ae a6 aY<|.inl ab;obtain ⟨G,I,rfl⟩:=cJ Y;refine aH aa<|aH aa<|aH aa<|aH aa<|aH aa<|aH aa<|p (bA aa)<|nl<|a3<|cf aa<|ext<|bf<|bf<|be<|a2<|az fun al=> ?_;refine rg aa<|p (aX (.slice G ((da []<|(bP s).getD i []).take j).length I) aa)<|p (bM fq aa aa)<|p (gt aa aa)<|nl<|al<|cd aa (fun ac=> ?_) fun ac=> ?_;have V:l0 ((bP s).getD i []) (1 +i)= [(i+1,((da []<|(bP s).getD i []).take j))]:=by unfold l0; rw [aq,if_neg (fun h=>by rw [h] at ac; simp at ac),Qo]
 refine rg aa<|au (O)<|au (.int .i64 i)<|p (bJ ((i+1:Nat):Int) aa aa<|bp ab ab)<|p (aX (.slice G ((da []<|(bP s).getD i []).take j).length I) aa)<|p (dj (ps:= [(0,ak (i+1)),(1,.slice G ((da []<|(bP s).getD i []).take j).length I)]) (L:= [ak (i+1),.slice G ((da []<|(bP s).getD i []).take j).length I]) Oa aa<|aa)<|e<|kY AM aa aa aa fun aO ax bE C aP=> ?_;have aR:bS ax.heap aO [ak (i+1),.slice G ((da []<|(bP s).getD i []).take j).length I]:=aP;have an:Wk aj ax:=Md.trans ah<|Md.trans A C.md;refine e<|ap AM (a7 (a7 (a7 J E) A) C.md) aa (by have :=an.size; omega) aa (aM.ec aR) (aa) (aa) ab ab fun a0 b1 aW Z bY bN=> ?_;have aU:=Wk.own an (a7 (a7 (a7 J E) A) C.md) Z<|cU _;have aZ:=((((ai.wk E).wk A).wk C.md).md Z<|iW (a7 (a7 (a7 J E) A) C.md) aB).snoc (n:=i+1)<|Tg.j6<|eQ (dw (a7 Y C.md) Z fun k hk=>nI (a7 Y C.md) (a7 (a7 (a7 J E) A) C.md) aB hk)<|by have :=Md.size ah; omega
 exact p aE<|nl<|bn<|ae<|rg aa<|au (.int .i64 i)<|p (ad aa aa<|cB ab)<|p aE<|nl<|tn<|⟨_,ab,i+1,a0,vs++ [(i+1,.slice G ((da []<|(bP s).getD i []).take j).length I)],ab,aU,(by rw [fV _ i [] ab,oK,show ((bP s).take i).length=i from by rw [dP]; omega,V,bL,Fq]; exact aW),(by rw [fV _ i [] ab,oK,show ((bP s).take i).length=i from by rw [dP]; omega,V]; exact aZ),aa,aa⟩
 have V:∀ n,l0 ((bP s).getD i []) n= []:=fun n=>by unfold l0; rw [aq,if_pos (yy.1 ab)]
 exact aQ<|bn<|ae<|rg aa<|au (.int .i64 i)<|p (ad aa aa<|cB ab)<|p aE<|nl<|tn<|⟨_,ab,i+1,O,vs,ab,(Md.trans ah A),(by rw [fV _ i [] ab,oK,V,eB]; exact a7 (a7 J E) A),(by rw [fV _ i [] ab,oK,V,eB]; exact (ai.wk E).wk A),aa,aa⟩
 refine ext<|bf<|bf<|be<|bs<|ag fun ae=>au (O)<|p (cE (O) aa)<|ay<|ae<|rt<|f2 aa aa aa ?_;have av:¬65536 < s.length:=ab;rw [show (bP s).take i=bP s from e9 ab] at J ai;exact ⟨⟨O,by show gV #[O,.int .i64 0]=_; rw [if_neg av],by rw [if_neg av]; exact ⟨vs,eQ J aS.size,ai.mono aS.size⟩⟩,Md.trans aS ao⟩
end Go.Hb
end
section
namespace Go.Hb.um
open Go.Hb.jP Go.Hb.mB Go.Hb.oV Go.Hb.yJ Go.Hb.kA
theorem xY {s:Tx} {k:Tx} {i:Nat} (h:s=k) (h1:k∈ez) (h2:ez.idxOf k=i):q8 s=(i:Nat):=by subst h; unfold q8; rw [if_pos h1,h2]
theorem ace {s:Tx} (h:s∉ez):q8 s= -1:=if_neg h
def vm:List Tx:= [iV,jh,jt,kK,fK,eX]
theorem OV {s:Tx} (h:s∈ez):width s=2:=if_pos<|.inl h
theorem adC {s:Tx} (h:s∈vm):width s=2:=by
 unfold width;rw [if_pos];simpa [vm] using Or.inr (fG.1 h)
theorem OW {s:Tx} (h:s=ga∨s=dB):width s=4:=by
 unfold width;rw [if_neg,if_pos h];rcases h with rfl | rfl <;> decide
theorem adD {s:Tx} (h:s∉ez) (h1:s∉vm) (h2:s≠ga) (h3:s≠dB):width s=0:=by
 unfold width;rw [if_neg,if_neg (by simp [h2,h3])];intro h4;rcases h4 with h4 | h4
 · exact h h4
 · exact h1<|by simpa [vm] using h4
theorem Lh {F:aU} {V:eF} {i:Nat} (hi:i < 5):(pE F V).toArray[0 +3 +((i:Nat):Int).toNat*1]? =some (bT<|F.sp.getD i 0):=by
 match i,hi with
 | 0,_=>rfl
 | 1,_=>rfl
 | 2,_=>rfl
 | 3,_=>rfl
 | 4,_=>rfl
theorem xC {x:Nat} {l:List Nat} (h:∀ j,j < l.length→l.getD j 0≠x):x∉l:=fun hm=>by
 obtain ⟨j,A,e⟩:=mR 0 hm;exact h j A e
theorem WE {x:Nat} :∀ {cs:List dy} {i:Nat} {c:dy},(∀ j,j < i→(cs.getD j pf).flag≠x)→cs[i]? =some c→c.flag=x→ej cs x=some c:=by
 intro cs
 induction cs with
 | nil=>intro i c _ h; simp at h
 | cons a l G=>
   intro i c C hi E;unfold ej;rw [List.find?_cons];cases i with
   | zero=>simp only [vP,gD] at hi; subst hi; simp [E]
   | succ i=>
     have A:=C 0 ab;simp only [l6] at A;rw [decide_eq_false A];exact G (i:=i) (fun j I=>by have :=C (j+1) ab; simpa using this) (by simpa using hi) E
theorem WH {x:Nat} {cs:List dy} (h:∀ j,j < cs.length→(cs.getD j pf).flag≠x):ej cs x=none:=by
 unfold ej;rw [List.find?_eq_none];intro c A;obtain ⟨j,C,e⟩:=mR pf A;have :=h j C;rw [e] at this;simpa using this
theorem Xn (l:List dy):(r7 l).length=l.length*5:=mL (f:=oA) (m:=5) (fun _=>rfl) _
theorem zY {l:List dy} (h:0 < l.length):r7 l≠[]:=fun h2=>by have :=congrArg j7 h2; rw [Xn] at this; simp at this; omega
theorem wz {l:List dy} {i:Nat} (h:i < l.length):l[i]? =some (l.getD i pf):=by rw [cX,cx h]; rfl
theorem Jl {F:aU} {x:Nat} (h:x∈F.sp):eV F x=true :=by unfold eV; rw [decide_eq_true h]; rfl
theorem Jm {F:aU} {x:Nat} (h:x∉F.sp):eV F x=(ej F.bE x).isSome:=by unfold eV; rw [decide_eq_false h]; rfl
theorem Aw {s:Tx} (h:s∈ez∨s=eX∨s=ga∨s=dB):s∈l3:=by
 rcases h with h | rfl | rfl | rfl
 · have :∀ k∈ez,k∈l3:=aB;exact this s h
 all_goals decide
theorem aay {s:Tx} (h:s∉ez) (h1:s≠eX) (h2:s≠ga) (h3:s≠dB):s∉l3:=by
 intro h4;have :∀ k∈l3,k∈ez∨k=eX∨k=ga∨k=dB:=aB;rcases this s h4 with h5 | h5 | h5 | h5
 · exact h h5
 · exact h1 h5
 · exact h2 h5
 · exact h3 h5
theorem Ax {seen:List Tx} (h:∀ j,j < seen.length→seen.getD j []∉l3):ordered seen=true :=by
 rw [ES];intro k hk C;obtain ⟨j,A,e⟩:=mR [] C;exact h j A<|e ▸ hk
theorem D4 (s:Tx) (w:World):
 bm aw 151 (bh [str s]) w (fun v w'=>v= .int .i64 (q8 s)∧w'=w):=by
 refine enter func151 aa ntmps151 aa<|ag fun ab=>ay<|ab<|az fun ac=>ag fun ae=>au (str s)<|nl<|ae<|aT<|ag fun ah=>p (et aa aa)<|p aE<|nl<|ah<|cd aa (fun V=> ?_) fun V=> ?_;exact ag fun A=>ay<|A<|rt<|br<|tr<|a6 aa<|⟨by rw [xY (k:=kL) (i:=0) V aB aB]; rfl,aa⟩
 refine ag fun A=>p (et aa aa)<|ay<|A<|cd aa (fun Y=> ?_) fun Y=> ?_;exact ag fun C=>ay<|C<|rt<|br<|tr<|a6 aa<|⟨by rw [xY (k:=k6) (i:=1) Y aB aB]; rfl,aa⟩
 refine ag fun C=>p (et aa aa)<|ay<|C<|cd aa (fun Z=> ?_) fun Z=> ?_;exact ag fun E=>ay<|E<|rt<|br<|tr<|a6 aa<|⟨by rw [xY (k:=lB) (i:=2) Z aB aB]; rfl,aa⟩
 refine ag fun E=>p (et aa aa)<|ay<|E<|cd aa (fun J=> ?_) fun J=> ?_;exact ag fun G=>ay<|G<|rt<|br<|tr<|a6 aa<|⟨by rw [xY (k:=lZ) (i:=3) J aB aB]; rfl,aa⟩
 refine ag fun G=>p (et aa aa)<|ay<|G<|cd aa (fun O=> ?_) fun O=> ?_;exact ag fun I=>ay<|I<|rt<|br<|tr<|a6 aa<|⟨by rw [xY (k:=ml) (i:=4) O aB aB]; rfl,aa⟩
 exact aQ<|bn<|ac<|ag fun I=>ay<|I<|rt<|a6 aa<|⟨by rw [ace (by unfold ez; simp only [fG,vS,or_false,not_or]; exact ⟨V,Y,Z,J,O⟩)]; rfl,aa⟩
theorem XQ (s:Tx) (w:World):
 bm aw 95 (bh [str s]) w (fun v w'=>v=ak (width s)∧Wk w w'):=by
 refine enter func95 aa ntmps95 aa<|ag fun an=>ay<|an<|ag fun aq=>au (str s)<|e<|cl Co (D4 s w) aa fun v5 aI aF=> ?_;obtain ⟨rfl,aH⟩:=aF;have E:Wk w aI:=by rw [aH]; exact Md.refl _ _
 refine ay<|aq<|az fun av=>ag fun ax=>p mv<|p (ge aa aa)<|nl<|ax<|cd aa (fun Z=> ?_) fun Z=> ?_;have I:=vo.1 Z;exact ag fun J=>ay<|J<|rt<|tr<|a6 aa<|⟨by rw [OV I]; rfl,E⟩
 have I:s∉ez:=fun h=>Z<|vo.2 h;refine aQ<|av<|az fun J=>ag fun aA=>au (str s)<|nl<|aA<|aT ?_;refine eo (fun al ai=> ∃ (b:Bool),(b=decide (s∈vm))∧(Wk w ai)∧(Sl al [(8,str s),(9,.bool b)])) ?_ ?_;refine ag fun C=>p (et aa aa)<|ay<|C<|cd aa (fun A=> ?_) fun A=> ?_;exact aQ<|tn<|⟨_,(by rw [A]; decide),E,aa⟩
 refine ag fun aB=>p (et aa aa)<|ay<|aB<|cd aa (fun A=> ?_) fun A=> ?_;exact aQ<|tn<|⟨_,(by rw [A]; decide),E,aa⟩
 refine ag fun aC=>p (et aa aa)<|ay<|aC<|cd aa (fun A=> ?_) fun A=> ?_;exact aQ<|tn<|⟨_,(by rw [A]; decide),E,aa⟩
 refine ag fun ao=>p (et aa aa)<|ay<|ao<|cd aa (fun A=> ?_) fun A=> ?_;exact aQ<|tn<|⟨_,(by rw [A]; decide),E,aa⟩
 refine ag fun ap=>p (et aa aa)<|ay<|ap<|cd aa (fun A=> ?_) fun A=> ?_;exact aQ<|tn<|⟨_,(by rw [A]; decide),E,aa⟩
 exact rg aa<|p (et aa aa)<|p aE<|nl<|tn<|⟨_,(by clear I; unfold vm; simp_all [iV,jh,jt,kK,fK,eX]),E,aa⟩
 rintro al ai ⟨b,Y,V,ah⟩;refine bG ah<|cb aa (fun A=> ?_) fun A=> ?_;exact ag fun C=>ay<|C<|rt<|br<|tr<|a6 aa<|⟨by rw [adC (of_decide_eq_true<|Y.symm.trans A)]; rfl,V⟩
 refine eo (fun am aj=> ∃ (O:Bool),(O=decide (s=ga∨s=dB))∧(Wk w aj)∧(Sl am [(16,.bool O)])) ?_ ?_;refine ag fun C=>p (et aa aa)<|ay<|C<|cd aa (fun G=> ?_) fun G=> ?_;exact aQ<|tn<|⟨_,(by rw [G]; decide),V,aa⟩
 exact rg aa<|p (et aa aa)<|p aE<|nl<|tn<|⟨_,(by clear Y ah; simp [ga,dB,G]),V,aa⟩
 rintro am aj ⟨O,ae,ac,aG⟩;refine bG aG<|cb aa (fun G=> ?_) fun G=> ?_;exact ag fun C=>ay<|C<|rt<|br<|tr<|a6 aa<|⟨by rw [OW (of_decide_eq_true<|ae.symm.trans G)]; rfl,ac⟩
 refine aQ<|bn<|J<|ag fun C=>ay<|C<|rt<|a6 aa ?_;have aD:=of_decide_eq_false<|Y.symm.trans A;have ab:=of_decide_eq_false<|ae.symm.trans G;exact ⟨by rw [adD I aD (fun h=>ab<|.inl h) (fun h=>ab<|.inr h)]; rfl,ac⟩
theorem D5 (B:Nat) (H:gI) (k ln:Nat) (seen:List Tx) (vh:Value) (key:Tx) (w:World) (A:iP w B H k ln seen vh) (aq:seen.length≤70000):
 bm aw 96 (bh [aV H.rb,str key]) w (fun v w'=>v= .bool (decide (key∈seen))∧w'=w):=by
 obtain ⟨ao,ap,rfl⟩:=cJ A.hd;refine enter func96 aa ntmps96 aa<|ag fun Y=>ay<|Y<|az fun Z=>ag fun ac=>ay<|ac<|aT<|lp (fun G V O=> ∃ (i:Nat),(i≤seen.length)∧(∀ j,j < i→seen.getD j []≠key)∧(O=w)∧(Sl V [(0,aV H.rb),(1,str key),(5,ak i)])∧(seen.length - i=G)) _ ⟨0,ab,(fun j I=>by omega),aa,aa,aa⟩ ?_;rintro G V O ⟨i,hi,J,al,an,rfl⟩;refine bG an ?_;subst al;refine az fun ae=>ag fun ah=>au (ak i)<|au (aV H.rb)<|p (nc aa)<|p (fa qX aa)<|p (ld kj aa<|(bg A.cells).trans aa)<|p (bM fq aa aa)<|p (lt aa aa)<|nl<|ah<|cd aa (fun am=> ?_) fun am=> ?_;refine aQ<|ae<|az fun C=>aT<|ag fun ai=>au (aV H.rb)<|p (nc aa)<|p (fa qX aa)<|p (ld kj aa<|(bg A.cells).trans aa)<|au (ak i)<|p (bc db aa aa ab<|aM.ok ((ba A.hd).2)<|cg ab)<|p (ld bX aa<|cM.get (i:=i) (ba A.hd).2 ab)<|au (str key)<|p (et aa aa)<|nl<|ai<|cd aa (fun E=> ?_) fun E=> ?_;exact ag fun aj=>ay<|aj<|rt<|br<|tr<|tr<|br<|tr<|a6 aa<|⟨by rw [decide_eq_true (show key∈seen from E ▸ eb ab)]; rfl,aa⟩
 exact aQ<|bn<|C<|rg aa<|au (ak i)<|p (ad aa aa<|cB ab)<|p aE<|nl<|tn<|⟨_,ab,i+1,ab,(fun j I=>by rcases fM j i with h | h <;> first | exact J j h | (rw [show j=i by omega]; exact E)),aa,aa,aa⟩
 exact ext<|bf<|bf<|be<|Z<|ag fun C=>p aE<|nl<|C<|rt<|a6 aa<|⟨by rw [decide_eq_false (show ¬key∈seen from fun h=>by obtain ⟨j,I,e⟩:=mR [] h; exact J j ab e)]; rfl,aa⟩
theorem DV (B B0 fb:Nat) (F:aU) (V:eF) (x:Nat) (w:World) (ac:eU w B B0 fb F V) (aO:F.bE.length≤70000):
 bm aw 98 (bh [aV fb,bT x]) w (fun v w'=>v= .tuple #[.agg (oA<|(ej F.bE x).getD pf).toArray,.bool (ej F.bE x).isSome]∧Wk w w'):=by
 obtain ⟨aC,kF,ah⟩:=cJ ac.eK;refine enter func98 aa ntmps98 aa<|ag fun an=>e<|al tM fun aD ai aN G Y=> ?_;have Z:=ac.wk G.md;have I:Hb.aW ai.heap fb 11=some (.slice aC F.bE.length kF):=by rw [← ah]; exact (bg Z.cells).trans rfl
 have A:=Z.eK;rw [ah] at A;refine ay<|an<|az fun ao=>ag fun ap=>p aE<|nl<|ap<|aT<|lp (fun O am aj=> ∃ (i:Nat),(i≤F.bE.length)∧(∀ j,j < i→(F.bE.getD j pf).flag≠x)∧(aj=ai)∧(Sl am [(0,aV fb),(1,bT x),(4,aV aD),(6,ak i)])∧(F.bE.length - i=O)) _ ⟨0,ab,(fun j C=>by omega),aa,aa,aa⟩ ?_;rintro O am aj ⟨i,hi,J,aH,aL,rfl⟩;refine bG aL ?_;subst aH;refine az fun aq=>ag fun av=>au (ak i)<|au (aV fb)<|p (nc aa)<|p (fa qW aa)<|p (ld rK aa<|I)<|p (bM FQ aa aa)<|p (lt aa aa)<|nl<|av<|cd aa (fun aK=> ?_) fun aK=> ?_;refine aQ<|aq<|az fun E=>aT<|ag fun ax=>au (aV fb)<|p (nc aa)<|p (fa qW aa)<|p (ld rK aa<|I)<|au (ak i)<|p (bc zw aa aa ab<|aM.ok ((ba A).2)<|zY ab)<|p (fa DK aa)<|p (ld bD aa<|fC (f:=oA) (m:=5) (fun _=>rfl) (ba A).2 (wz (by omega :i < F.bE.length)) 0 aB)<|au (bT x)<|p (bQ aa aa)<|nl<|ax<|cd aa (fun ae=> ?_) fun ae=> ?_;exact ag fun aA=>au (aV fb)<|p (nc aa)<|p (fa qW aa)<|p (ld rK aa<|I)<|au (ak i)<|p (bc zw aa aa ab<|aM.ok ((ba A).2)<|zY ab)<|p (cW uu aa (aa)<|fC (f:=oA) (m:=5) (fun _=>rfl) (ba A).2<|wz (by omega :i < F.bE.length))<|e<|dt rS aa aa aa aa (Y) (by simp) fun aP aI aF=>ay<|aA<|rt<|br<|tr<|tr<|br<|tr<|eN aa (ed (cs:=oA<|F.bE.getD i pf) aa uu aa fun j C=>aF.bB j) eD<|⟨by rw [WE J (wz ab) ab]; rfl,G.md.trans' aI fun k hk h=>by omega⟩
 exact aQ<|bn<|E<|rg aa<|au (ak i)<|p (ad aa aa<|cB ab)<|p aE<|nl<|tn<|⟨_,ab,i+1,ab,(fun j C=>by rcases fM j i with h | h <;> first | exact J j h | (rw [show j=i by omega]; exact fun h2=>ae<|by rw [h2])),aa,aa,aa⟩
 exact ext<|bf<|bf<|be<|ao<|ag fun E=>p (dj (ps:= []) (L:= [.int .i64 0,.int .i64 0,.bool false,.int .i64 0,.int .i64 0]) Oc aa<|aa)<|e<|dt rS aa aa aa aa (Y) (by simp) fun aR aJ aG=>ay<|E<|rt<|eN aa (ed (cs:=oA pf) aa uu aa fun j C=>aG.bB j) eD<|⟨by rw [WH (fun j C=>J j ab)]; rfl,G.md.trans' aJ fun k hk h=>by omega⟩
theorem Xo (B B0 fb:Nat) (F:aU) (V:eF) (x:Nat) (w:World) (E:eU w B B0 fb F V) (aB:F.bE.length≤70000):
 bm aw 212 (bh [aV fb,bT x]) w (fun v w'=>v= .bool (eV F x)∧Wk w w'):=by
 have aH:=E.gr;refine enter func212 aa ntmps212 aa<|ag fun ae=>ay<|ae<|az fun ah=>ag fun ai=>ay<|ai<|aT<|lp (fun I ac G=> ∃ (i:Nat),(i≤5)∧(∀ j,j < i→F.sp.getD j 0≠x)∧(G=w)∧(Sl ac [(0,aV fb),(1,bT x),(5,ak i)])∧(5 - i=I)) _ ⟨0,ab,(fun j Y=>by omega),aa,aa,aa⟩ ?_;rintro I ac G ⟨i,hi,Z,ap,aC,rfl⟩;refine bG aC ?_;subst ap;refine az fun aj=>ag fun am=>au (ak i)<|p (lt aa aa)<|nl<|am<|cd aa (fun aA=> ?_) fun aA=> ?_;refine aQ<|aj<|az fun A=>aT<|ag fun C=>au (aV fb)<|au (ak i)<|p (nc aa)<|p (fa uV aa)<|p (kJ uy aa aa ab)<|p (ld bD aa<|(bg E.cells).trans<|Lh (i:=i) ab)<|au (bT x)<|p (bQ aa aa)<|nl<|C<|cd aa (fun O=> ?_) fun O=> ?_;exact ag fun an=>ay<|an<|rt<|br<|tr<|tr<|br<|tr<|a6 aa<|⟨by rw [Jl (show x∈F.sp from by obtain rfl :F.sp.getD i 0=x:=ab; exact eb ab)]; rfl,Md.refl _ _⟩
 exact aQ<|bn<|A<|rg aa<|au (ak i)<|p (ad aa aa<|cB ab)<|p aE<|nl<|tn<|⟨_,ab,i+1,ab,(fun j Y=>by rcases fM j i with h | h <;> first | exact Z j h | (rw [show j=i by omega]; exact fun h2=>O<|by rw [h2])),aa,aa,aa⟩
 refine ext<|bf<|bf<|be<|ah<|ag fun A=>au (aV fb)<|au (bT x)<|e<|cl CQ (DV B B0 fb F V x G E aB) aa fun v23 aJ ax=> ?_;obtain ⟨rfl,J⟩:=ax;have aI:=J.size;exact p mv<|p (xt aa aa)<|p (xt aa aa)<|e<|al tM fun aD aK aG av ao=>e<|dt rS aa aa aa aa (ao) (by simp) fun aL aq aF=>ay<|A<|ag fun C=>p mv<|ay<|C<|rt<|a6 aa<|⟨by rw [Jm (xC fun j Y=>Z j ab)]; rfl,(J.trans av.md).trans' aq fun k hk h=>by omega⟩
theorem DW (s:Tx) (w:World) (hs:s.length≤1048576):
 bm aw 273 (bh [str s]) w (fun v w'=>v=ak (ij s)∧Wk w w'):=by
 refine enter func273 aa ntmps273 aa<|ag fun Y=>ay<|Y<|ag fun Z=>au (str s)<|e<|cl wx (xP s w hs) aa fun v5 am ah=> ?_;obtain ⟨rfl,C⟩:=ah;refine ay<|Z<|az fun ac=>ag fun J=>au (str s)<|p (cR u9 aa aa)<|p (bQ aa aa)<|p mv<|gs (t:=9) aa (fun O=> ?_) fun O=> ?_;have al:=fR (show s.length=0 by omega);exact aH aa<|aH aa<|p (bH aa)<|nl<|J<|ct aa<|ag fun A=>ay<|A<|rt<|tr<|a6 aa<|⟨by rw [zz (.inl al)]; rfl,C⟩
 have V:s≠[]:=fun h=>O<|by rw [h]; rfl
 refine aJ aa mv<|aJ aa (no aa)<|p (bA aa)<|nl<|J<|cb aa (fun E=> ?_) fun E=> ?_;refine ag fun A=>ay<|A<|rt<|tr<|a6 aa ?_;have ai:gQ s=false :=by simpa using E
 exact ⟨by rw [zz (.inr ai)]; rfl,C⟩;refine aQ<|ac<|az fun A=>ag fun ae=>au (str s)<|p (cR u9 aa aa)<|p (gt aa aa)<|nl<|ae<|cd aa (fun aj=> ?_) fun aj=> ?_;refine ag fun G=>ay<|G<|rt<|tr<|a6 aa ?_;have I:gQ s=true :=by simpa using E
 exact ⟨by rw [Kg V I ab]; rfl,C⟩;refine aQ<|A<|ag fun G=>ay<|G<|rt<|a6 aa ?_;have I:gQ s=true :=by simpa using E
 exact ⟨by rw [Kh V I ab]; rfl,C⟩
theorem D1 (s:Tx) (J:Bool) (w:World) (hs:s.length≤1048576):
 bm aw 253 (bh [str s,.bool J]) w (fun v w'=>(∃ (a:Tx) (e:Nat),v= .tuple #[str a,ak e]∧((eO J s= .ok a∧e=0)∨(eO J s= .error e∧e≠0)))∧Wk w w'):=by
 have av:=tL s;refine enter func253 aa ntmps253 aa<|ag fun ap=>p aE<|ay<|ap<|az fun an=>az fun ao=>rg aa<|au (.bool J)<|au (.bool J)<|gb (t:=11) aa (fun V=> ?_) fun V=> ?_;refine aJ aa (aX (str s) aa)<|aJ aa (et aa aa)<|p (bH aa)<|nl<|ao<|cd aa (fun aj=> ?_) fun aj=> ?_;exact ag fun O=>p aE<|ay<|O<|rt<|tr<|f2 aa aa aa<|⟨⟨[],0,aa,.inl ⟨by rw [V]; exact M7 aj,aa⟩⟩,Md.refl _ _⟩
 have C:eO J s=eO false s:=by rw [V]; exact E1 aj
 refine aQ<|an<|ag fun O=>au (str s)<|e<|cl y4 (AG s w hs) aa fun v17 am ah=> ?_;obtain ⟨rfl,I⟩:=ah;refine p mv<|p (xt aa aa)<|p (xt aa aa)<|p (xt aa aa)<|p (xt aa aa)<|p aE<|p aE<|p aE<|ay<|O<|az fun Y=>ag fun Z=>p mv<|p (dd aa aa)<|nl<|Z<|cd aa (fun al=> ?_) fun al=> ?_;exact ag fun E=>p mv<|p aE<|ay<|E<|rt<|tr<|f2 aa aa aa<|⟨⟨[],_,aa,.inr ⟨C.trans (EX ab),ab⟩⟩,I⟩
 refine aQ<|Y<|az fun E=>ag fun ac=>p mv<|nl<|ac<|cb aa (fun A=> ?_) fun A=> ?_;exact ag fun G=>p aE<|ay<|G<|rt<|tr<|f2 aa aa aa<|⟨⟨[],114,aa,.inr ⟨C.trans (EY ab A),aB⟩⟩,I⟩
 refine aQ<|E<|ag fun G=>p mv<|p mv<|e<|cl CF (DW (bF s).1 am ab) aa fun v28 aq ai=> ?_;obtain ⟨rfl,ae⟩:=ai;refine p aE<|ay<|G<|rt<|f2 aa aa aa ?_;refine ⟨⟨(bF s).1,ij (bF s).1,aa,?_⟩,I.trans ae⟩;by_cases h:ij (bF s).1=0;exact .inl ⟨C.trans (E0 ab A h),h⟩;exact .inr ⟨C.trans (EZ ab A h),h⟩;have C:eO J s=eO false s:=by rw [V]
 refine aH aa<|aH aa<|p (bA aa)<|nl<|ao<|cf aa<|aQ<|an<|ag fun O=>au (str s)<|e<|cl y4 (AG s w hs) aa fun v17 am ah=> ?_;obtain ⟨rfl,I⟩:=ah;refine p mv<|p (xt aa aa)<|p (xt aa aa)<|p (xt aa aa)<|p (xt aa aa)<|p aE<|p aE<|p aE<|ay<|O<|az fun Y=>ag fun Z=>p mv<|p (dd aa aa)<|nl<|Z<|cd aa (fun al=> ?_) fun al=> ?_;exact ag fun E=>p mv<|p aE<|ay<|E<|rt<|tr<|f2 aa aa aa<|⟨⟨[],_,aa,.inr ⟨C.trans (EX ab),ab⟩⟩,I⟩
 refine aQ<|Y<|az fun E=>ag fun ac=>p mv<|nl<|ac<|cb aa (fun A=> ?_) fun A=> ?_;exact ag fun G=>p aE<|ay<|G<|rt<|tr<|f2 aa aa aa<|⟨⟨[],114,aa,.inr ⟨C.trans (EY ab A),aB⟩⟩,I⟩
 refine aQ<|E<|ag fun G=>p mv<|p mv<|e<|cl CF (DW (bF s).1 am ab) aa fun v28 aq ai=> ?_;obtain ⟨rfl,ae⟩:=ai;refine p aE<|ay<|G<|rt<|f2 aa aa aa ?_;refine ⟨⟨(bF s).1,ij (bF s).1,aa,?_⟩,I.trans ae⟩;by_cases h:ij (bF s).1=0;exact .inl ⟨C.trans (E0 ab A h),h⟩;exact .inr ⟨C.trans (EZ ab A h),h⟩
theorem Lf (B fb:Nat) (F:aU) (V:eF) (s:Tx) (w:World) (G:oY w B 0 fb F V) (hk:F.kind=1∨F.kind=2∨F.kind=3) (aI:F.aliases.length≤70000) (hs:s.length≤1048576):
 bm aw 159 (bh [aV fb,str s]) w (fun v w'=>(∃ (a:Value) (e:Nat),v= .tuple #[a,ak e]∧a.oneCell'=true∧((∃ l,e=0∧gA F.kind F.aliases s= .ok l∧Tg w' 0 3 l.length a (l.map bT))∨(e≠0∧gA F.kind F.aliases s= .error e)))∧Wk w w'):=by
 obtain ⟨aq,lU,aj⟩:=cJ G.fk;have Z:=G.fk;rw [aj] at Z;have O:Hb.aW w.heap fb 10=some (.slice aq F.aliases.length lU):=by rw [← aj]; exact (bg G.cells).trans rfl
 refine enter func159 aa ntmps159 aa<|ag fun am=>p aE<|ay<|am<|az fun an=>az fun ao=>rg aa<|au (aV fb)<|p (nc aa)<|p (fa xf aa)<|p (ld yO aa<|O)<|p (bM OC aa aa)<|p (bQ aa aa)<|nl<|ao<|cd aa (fun Y=> ?_) fun Y=> ?_;have C:F.aliases= []:=fR ab;refine ag fun J=>au (aV fb)<|p (nc aa)<|p (fa uU aa)<|p (ld bD aa<|(bg G.cells).trans aa)<|au (str s)<|e<|cl H8 (Nu F.kind s _ hk hs) aa fun aL aO ax=> ?_;obtain ⟨⟨aG,rfl,ai⟩,hE19⟩:=ax;refine p (xt aa aa)<|p (xt aa aa)<|p aE<|ay<|J<|rt<|tr<|f2 aa aa aa ?_;obtain ⟨a0,av,rfl⟩:=cJ ai;refine ⟨⟨_,_,aa,aa,?_⟩,hE19⟩;by_cases h:(eu F.kind s).2=0;exact .inl ⟨_,h,by rw [zD C]; exact zX h,(Tg.j6 ai).mono<|hZ _⟩;exact .inr ⟨h,by rw [zD C]; exact zW h⟩;have C:F.aliases≠[]:=fun h=>by rw [h] at Y; exact Y rfl
 refine aQ<|an<|ag fun J=>au (str s)<|au (aV fb)<|p (nc aa)<|p (fa xf aa)<|p (ld yO aa<|O)<|p (bM OC aa aa)<|e<|cl td (tD s (F.aliases.length:Nat) _ hs ab) aa fun aN aP aA=> ?_;obtain ⟨rfl,A⟩:=aA;refine p mv<|p (xt aa aa)<|p (xt aa aa)<|p aE<|ay<|J<|az fun ap=>ag fun ae=>p mv<|p (dd aa aa)<|p mv<|gs (t:=34) aa (fun aD=> ?_) fun aD=> ?_;exact aH aa<|aH aa<|p (bH aa)<|nl<|ae<|ct aa<|ag fun E=>p aE<|ay<|E<|rt<|tr<|f2 aa aa aa<|⟨⟨.slice none 0 0,13,aa,aa,.inr ⟨aB,Ks C (q6 ab).1⟩⟩,A⟩
 refine aJ aa mv<|aJ aa (bQ aa aa)<|p (bA aa)<|nl<|ae<|cd aa (fun aC=> ?_) fun aC=> ?_;refine ag fun E=>p aE<|ay<|E<|rt<|tr<|f2 aa aa aa ?_;have I:=pJ (by omega :(ew s (F.aliases.length:Nat)).2=0);rw [show (ew s (F.aliases.length:Nat)).1=0 from by omega] at I;exact ⟨⟨.slice none 0 0,13,aa,aa,.inr ⟨aB,Kw C I⟩⟩,A⟩;refine aQ<|ap<|az fun E=> ?_;have I:=pJ (by omega :(ew s (F.aliases.length:Nat)).2=0);have aK:=si s (F.aliases.length:Nat) ab;have aF:(ew s (F.aliases.length:Nat)).1 - 1 < F.aliases.length:=ab;obtain ⟨v51,ac,ah⟩:=ja.get (G.al.wk A) aF;refine rg aa<|au (aV fb)<|p (nc aa)<|p (fa xf aa)<|p (ld yO aa<|Wk.aW A O)<|p mv<|p (dY (((ew s (F.aliases.length:Nat)).1 - 1:Nat):Int) aa aa<|bp ab ab)<|p (bc Ws aa aa ab<|aM.ok ((ba<|a7 Z A).2) fun h=>by rw [h] at ac; cases ac)<|p (ld qO aa<|aM.gY (ba<|a7 Z A).2 ac)<|p aE<|ay<|E<|rt<|f2 aa aa aa ?_;obtain ⟨a0,av,rfl⟩:=ah.slice;exact ⟨⟨_,0,aa,aa,.inl ⟨_,aa,Kv C I ab,ah⟩⟩,A⟩
theorem Lg (B:Nat) (H:gI) (F:aU) (V:eF) (k ln:Nat) (seen:List Tx) (vh:Value) (s:Tx) (w:World) (J:eU w B 0 H.fb F V) (O:iP w B H k ln seen vh) (hk:F.kind=1∨F.kind=2∨F.kind=3) (an:F.bE.length≤70000) (hs:s.length≤1048576):
 bm aw 152 (bh [aV H.rb,str s]) w (fun v w'=>(∃ x e:Nat,v= .tuple #[bT x,ak e]∧((im F s= .ok x∧x≠0∧e=0)∨(im F s= .error e∧e≠0)))∧Wk w w'):=by
 refine enter func152 aa ntmps152 aa<|ag fun Y=>p aE<|ay<|Y<|ag fun Z=>au (aV H.rb)<|p (nc aa)<|p (fa mj aa)<|p (ld iS aa<|(bg O.cells).trans aa)<|p (nc aa)<|p (fa uU aa)<|p (ld bD aa<|(bg J.cells).trans aa)<|au (str s)<|e<|cl Su (abv F.kind s w hk hs) aa fun ap ao aj=> ?_;obtain ⟨rfl,A⟩:=aj;refine p mv<|p (xt aa aa)<|p (xt aa aa)<|p aE<|ay<|Z<|az fun ac=>ag fun ae=>p mv<|p (dd aa aa)<|nl<|ae<|cd aa (fun am=> ?_) fun am=> ?_;exact ag fun C=>p mv<|p aE<|ay<|C<|rt<|tr<|f2 aa aa aa<|⟨⟨0,(iD F.kind s).2,aa,.inr ⟨La ab,ab⟩⟩,A⟩
 refine aQ<|ac<|ag fun C=>au (aV H.rb)<|p (nc aa)<|p (fa mj aa)<|p (ld iS aa<|(bg (O.wk A).cells).trans aa)<|p mv<|e<|cl Sv (Xo B 0 H.fb F V (iD F.kind s).1 ao (J.wk A) an) aa fun aq av al=> ?_;obtain ⟨rfl,I⟩:=al;refine ay<|C<|az fun ah=>ag fun ai=>p mv<|nl<|ai<|cb aa (fun G=> ?_) fun G=> ?_;exact ag fun E=>p aE<|ay<|E<|rt<|tr<|f2 aa aa aa<|⟨⟨0,115,aa,.inr ⟨Lb ab G,aB⟩⟩,A.trans I⟩
 exact aQ<|ah<|ag fun E=>p mv<|p aE<|p aE<|nl<|E<|rt<|f2 aa aa aa<|⟨⟨_,0,aa,.inl ⟨Lc ab G,KU ab,aa⟩⟩,A.trans I⟩
theorem XH (am:World) (H:gI) (F:aU) (k ln:Nat) (seen r:List Tx) (aO:Nat) (ar:Option Addr) (cr:Nat) (w:World) (a1:ni am w H F k ln seen) (a2:Tg w aO 9 r.length (.slice ar r.length cr) (r.map str)) (bd:r.length=2) (bi:∀ x∈r,x.length≤70000):
 bm aw 153 (bh [aV H.rb,.slice ar r.length cr]) w (gj am H seen<|kM F seen (H.rows.drop k) ln r):=by
 obtain ⟨V,vh,C,A,G,J,aG⟩:=a1;have aL:=a2.dp;have bb:=A.lo;have a9:=G.len;obtain ⟨a7,a8,rfl⟩:=cJ A.hd;have bj:=G.sl;refine enter func153 aa ntmps153 aa<|ag fun aP=>ay<|aP<|az fun aR=>ag fun aS=>ay<|aS<|aT<|lp (fun aK aN aI=> ∃ (i:Nat),(i≤seen.length)∧(∀ j,j < i→seen.getD j []∉l3)∧(aI=w)∧(Sl aN [(0,aV H.rb),(1,.slice ar r.length cr),(5,ak i)])∧(seen.length - i=aK)) _ ⟨0,ab,(fun j aj=>by omega),aa,aa,aa⟩ ?_;rintro aK aN aI ⟨i,hi,al,aZ,a4,rfl⟩;refine bG a4 ?_;subst aZ;refine az fun aW=>ag fun aY=>au (ak i)<|au (aV H.rb)<|p (nc aa)<|p (fa qX aa)<|p (ld kj aa<|(bg A.cells).trans aa)<|p (bM fq aa aa)<|p (lt aa aa)<|nl<|aY<|cd aa (fun a3=> ?_) fun a3=> ?_;refine aQ<|aW<|az fun ac=>aT<|ag fun av=>au (aV H.rb)<|p (nc aa)<|p (fa qX aa)<|p (ld kj aa<|(bg A.cells).trans aa)<|au (ak i)<|p (bc db aa aa ab<|aM.ok ((ba A.hd).2)<|cg ab)<|p (ld bX aa<|cM.get (i:=i) (ba A.hd).2 ab)<|e<|cl Co (D4 (seen.getD i []) aI) aa fun v23 bk a0=> ?_;obtain ⟨rfl,a5⟩:=a0;subst a5;refine ay<|av<|ag fun Z=>p mv<|p (ge aa aa)<|p mv<|gs (t:=26) aa (fun aC=> ?_) fun aC=> ?_;exact aH aa<|aH aa<|aH aa<|aH aa<|aH aa<|aH aa<|aH aa<|aH aa<|p (bH aa)<|p mv<|aH aa<|aH aa<|aH aa<|aH aa<|aH aa<|aH aa<|aH aa<|aH aa<|p (bH aa)<|p mv<|aH aa<|aH aa<|aH aa<|aH aa<|aH aa<|aH aa<|aH aa<|aH aa<|p (bH aa)<|nl<|Z<|ct aa<|ag fun E=>ay<|E<|rt<|br<|tr<|tr<|br<|tr<|a6 aa<|⟨.inr ⟨ln,113,xy (k:=seen.getD i []) (Aw<|.inl<|vo.1 aC) (eb ab),aB,aa,A.dC⟩,J⟩
 refine aJ aa (aX (aV H.rb) aa)<|aJ aa (nc aa)<|aJ aa (fa qX aa)<|aJ aa (ld kj aa<|(bg A.cells).trans aa)<|aJ aa (aX (ak i) aa)<|aJ aa (bc db aa aa ab<|aM.ok ((ba A.hd).2)<|cg ab)<|aJ aa (ld bX aa<|cM.get (i:=i) (ba A.hd).2 ab)<|aJ aa (et aa aa)<|p (bA aa)<|p mv<|gs (t:=36) aa (fun aD=> ?_) fun aD=> ?_;exact aH aa<|aH aa<|aH aa<|aH aa<|aH aa<|aH aa<|aH aa<|aH aa<|p (bH aa)<|p mv<|aH aa<|aH aa<|aH aa<|aH aa<|aH aa<|aH aa<|aH aa<|aH aa<|p (bH aa)<|nl<|Z<|ct aa<|ag fun E=>ay<|E<|rt<|br<|tr<|tr<|br<|tr<|a6 aa<|⟨.inr ⟨ln,113,xy (k:=seen.getD i []) (Aw<|.inr<|.inl aD) (eb ab),aB,aa,A.dC⟩,J⟩
 refine aJ aa (aX (aV H.rb) aa)<|aJ aa (nc aa)<|aJ aa (fa qX aa)<|aJ aa (ld kj aa<|(bg A.cells).trans aa)<|aJ aa (aX (ak i) aa)<|aJ aa (bc db aa aa ab<|aM.ok ((ba A.hd).2)<|cg ab)<|aJ aa (ld bX aa<|cM.get (i:=i) (ba A.hd).2 ab)<|aJ aa (et aa aa)<|p (bA aa)<|p mv<|gs (t:=46) aa (fun aF=> ?_) fun aF=> ?_;refine aH aa<|aH aa<|aH aa<|aH aa<|aH aa<|aH aa<|aH aa<|aH aa<|p (bH aa)<|nl<|Z<|ct aa<|ag fun E=>p aE<|nl<|E<|rt<|br<|tr<|tr<|br<|tr<|a6 aa ?_;exact ⟨.inr ⟨ln,113,xy (k:=seen.getD i []) (Aw<|.inr<|.inr<|.inl aF) (eb ab),aB,aa,A.dC⟩,J⟩;refine aJ aa (aX (aV H.rb) aa)<|aJ aa (nc aa)<|aJ aa (fa qX aa)<|aJ aa (ld kj aa<|(bg A.cells).trans aa)<|aJ aa (aX (ak i) aa)<|aJ aa (bc db aa aa ab<|aM.ok ((ba A.hd).2)<|cg ab)<|aJ aa (ld bX aa<|cM.get (i:=i) (ba A.hd).2 ab)<|aJ aa (et aa aa)<|p (bA aa)<|nl<|Z<|cd aa (fun ax=> ?_) fun ax=> ?_;exact ag fun E=>ay<|E<|rt<|br<|tr<|tr<|br<|tr<|a6 aa<|⟨.inr ⟨ln,113,xy (k:=seen.getD i []) (Aw<|.inr<|.inr<|.inr ax) (eb ab),aB,aa,A.dC⟩,J⟩
 exact aQ<|bn<|ac<|rg aa<|au (ak i)<|p (ad aa aa<|cB ab)<|p aE<|nl<|tn<|⟨_,ab,i+1,ab,(fun j aj=>by rcases fM j i with h | h <;> first | exact al j h | (rw [show j=i by omega]; exact aay (fun h=>aC<|vo.2 h) aD aF ax)),aa,aa,aa⟩
 refine ext<|bf<|bf<|be<|aR<|az fun ac=>ag fun av=>au (.slice ar r.length cr)<|p (bc db aa aa ab<|aM.ok (aL.2)<|cg ab)<|p (ld bX aa<|cM.get (i:=1) aL.2 ab)<|nl<|av<|aT<|ag fun Z=>p (et aa aa)<|ay<|Z<|cd aa (fun ai=> ?_) fun ai=> ?_;refine rg aa<|au (aV H.rb)<|p (nc aa)<|p (fa mj aa)<|p (ld iS aa<|(bg A.cells).trans aa)<|p (nc aa)<|p (fa uU aa)<|e<|dx gR aa aa (v:=ak 1) aa C.cells (by show _ < 13; omega) fun an I ae=>nl<|bn<|ac<|ag fun E=>ay<|E<|rt<|a6 aa ?_;have Y:ordered seen=true :=Ax fun j aj=>al j ab;have hk:j5 (r.getD 1 [])=1:=by unfold j5; rw [if_pos (show r.getD 1 []=tu from ai)]
 have ah:=C.put (F':= {F with kind:=1}) I ae rfl rfl rfl rfl C.gr;have O:Wk am an:=J.trans' I fun k hk h=>by have :=C.lo; omega
 exact ⟨.inl ⟨_,k,ln,(Af Y ab).trans (by rw [hk]),aa,⟨V,_,ah,A.fb C I,⟨G.len,G.sl,G.row,by show 1=1∨1=2∨1=3; decide⟩,O,aG⟩⟩,O⟩;refine ag fun E=>p (et aa aa)<|ay<|E<|cd aa (fun ao=> ?_) fun ao=> ?_;refine rg aa<|au (aV H.rb)<|p (nc aa)<|p (fa mj aa)<|p (ld iS aa<|(bg A.cells).trans aa)<|p (nc aa)<|p (fa uU aa)<|e<|dx gR aa aa (v:=ak 2) aa C.cells (by show _ < 13; omega) fun an I ae=>nl<|bn<|ac<|ag fun ap=>ay<|ap<|rt<|a6 aa ?_;have Y:ordered seen=true :=Ax fun j aj=>al j ab;have hk:j5 (r.getD 1 [])=2:=by unfold j5; rw [if_neg (show ¬r.getD 1 []=tu from ai),if_pos (show r.getD 1 []=u6 from ao)]
 have ah:=C.put (F':= {F with kind:=2}) I ae rfl rfl rfl rfl C.gr;have O:Wk am an:=J.trans' I fun k hk h=>by have :=C.lo; omega
 exact ⟨.inl ⟨_,k,ln,(Af Y ab).trans (by rw [hk]),aa,⟨V,_,ah,A.fb C I,⟨G.len,G.sl,G.row,by show 2=1∨2=2∨2=3; decide⟩,O,aG⟩⟩,O⟩;refine ag fun ap=>p (et aa aa)<|ay<|ap<|cd aa (fun aA=> ?_) fun aA=> ?_;refine rg aa<|au (aV H.rb)<|p (nc aa)<|p (fa mj aa)<|p (ld iS aa<|(bg A.cells).trans aa)<|p (nc aa)<|p (fa uU aa)<|e<|dx gR aa aa (v:=ak 3) aa C.cells (by show _ < 13; omega) fun an I ae=>nl<|bn<|ac<|ag fun aq=>ay<|aq<|rt<|a6 aa ?_;have Y:ordered seen=true :=Ax fun j aj=>al j ab;have hk:j5 (r.getD 1 [])=3:=by unfold j5; rw [if_neg (show ¬r.getD 1 []=tu from ai),if_neg (show ¬r.getD 1 []=u6 from ao),if_pos (show r.getD 1 []=xz from aA)]
 have ah:=C.put (F':= {F with kind:=3}) I ae rfl rfl rfl rfl C.gr;have O:Wk am an:=J.trans' I fun k hk h=>by have :=C.lo; omega
 exact ⟨.inl ⟨_,k,ln,(Af Y ab).trans (by rw [hk]),aa,⟨V,_,ah,A.fb C I,⟨G.len,G.sl,G.row,by show 3=1∨3=2∨3=3; decide⟩,O,aG⟩⟩,O⟩;refine ag fun aq=>ay<|aq<|rt<|br<|tr<|a6 aa ?_;have Y:ordered seen=true :=Ax fun j aj=>al j ab;exact ⟨.inr ⟨ln,114,L1 Y (by unfold j5; rw [if_neg (show ¬r.getD 1 []=tu from ai),if_neg (show ¬r.getD 1 []=u6 from ao),if_neg (show ¬r.getD 1 []=xz from aA)]),aB,aa,A.dC⟩,J⟩
end Go.Hb.um
end
