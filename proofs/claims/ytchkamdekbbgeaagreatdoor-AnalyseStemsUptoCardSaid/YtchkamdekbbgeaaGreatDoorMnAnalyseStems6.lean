/-
  Walks and plain laws that the law rests on, laid together. No conditions but those that each theorem names.
-/
import Derived.Test.YtchkamdekbbgeaaGreatDoorMnAnalyseStems5
set_option linter.unusedVariables false
set_option maxRecDepth 20000
set_option maxHeartbeats 1000000
open Bool renaming or_eq_false_iff→oY
open Classical renaming not_not→jT
open Decidable renaming of_not_not→GY
open Go.Proofs.Tryz renaming prog→aE
open Go.Value renaming bool→cy,oneCell'→gI,ownBlock→jU,slice→cg,tuple→ij
open Go.World renaming ownsRow→bB,ownsRow_nil→dC
open List renaming all_cons→wq,all_eq_true→mK,append_assoc→e6,append_nil→eJ,drop_drop→rR,drop_eq_getElem_cons→QB,drop_eq_nil_of_le→iS,drop_take→uq,eq_nil_of_length_eq_zero→fY,ext_getElem?→qI,filter_append→s9,filter_nil→QF,flatMap_append→o4,flatMap_singleton→rS,getD_cons_zero→mq,getD_eq_getElem?_getD→da,getElem?_append_left→nq,getElem?_append_right→oh,getElem?_cons_zero→wv,getElem?_drop→qJ,getElem?_eq_getElem→cz,getElem?_eq_some_iff→fS,getElem?_set→lW,getElem?_take→qK,getElem?_zip_eq_some→j9,length→jV,length_append→bP,length_cons→db,length_drop→fM,length_eq_zero_iff→yP,length_map→fH,length_nil→gC,length_pos_iff→mr,length_set→yQ,length_singleton→fE,length_take→dM,length_zip→B9,map_append→fZ,mem_append→gq,mem_cons→eL,mem_cons_of_mem→om,mem_filter→oo,mem_map→iT,mem_of_getElem?→gL,mem_of_mem_take→QR,mem_singleton→gD,not_mem_nil→wH,take_of_length_le→eK,take_succ_cons→rU,toArray→bl
open Nat renaming add_comm→Q4,add_le_add_left→Ch,le_refl→cU,le_trans→fu,lt_or_ge→fT,zero_le→iK
open Option.some renaming inj→wS,injEq→gM
open Prod.mk renaming injEq→uz
open UInt8 renaming toNat_inj→lA,toNat_lt→jJ
open Go.Proofs.Tryz
open Go.Hb.dX Go.Proofs Go.Hb.eX Go.Hb.fI

section
namespace Go.Hb.jm
open Go.Hb.mL Go.Hb.pc Go.Hb.iY Go.Hb.gr Go.Hb.ir Go.Hb.kL
theorem X6:DO aE 102 3=some (96,3):=au
def qk (q:bE×Value):List Value:= [str q.1.1,q.2]
def kP (l:List (bE×Value)):List Value:=l.flatMap qk
theorem Kq (l:List (bE×Value)) (q:bE×Value):kP (l++ [q])=kP l++qk q:=by simp [kP]
theorem WQ (l:List (bE×Value)):(kP l).length=l.length*2:=mV (f:=qk) (m:=2) (fun _=>rfl) l
theorem pV {w:World} {B e size n k:Nat} {v:Value} {xs:List Value} (h:bB w B e size v n xs) (hk:v.ownBlock=some k) (E:∀ cur z,w.heap[k]?≠some (.cells cur e z)):False:=by
 rcases h.2 with ⟨rfl,rfl⟩ | ⟨g,cap,cur,rfl,_,C,_⟩
 · cases hk
 · have A:g=k:=by simpa [jU] using hk
   subst A;exact E _ _ C
structure ox (w:World) (B:Nat) (f:Value→Option Value) (xs:List bE):Prop where
 own:∀ s:Tx,bB w B 3 1 ((f<|str s).getD<|cg none 0 0) (idxs s xs).length ((idxs s xs).map bV)
 nil:∀ s:Tx,idxs s xs= []→(f<|str s).getD (cg none 0 0)=(cg none 0 0)
theorem ox.md {G:Nat→Prop} {w w':World} {B:Nat} {f:Value→Option Value} {xs:List bE} (h:ox w B f xs) (hm:Md G w w') (A:∀ k,G k→∀ cur z,w.heap[k]?≠some (.cells cur 3 z)):ox w' B f xs:=by
 refine ⟨fun s=> ?_,h.nil⟩;refine dz (h.own s) hm fun k hk E=> ?_;exact pV (h.own s) hk fun cur z C=>A k E cur z C
theorem Fu {w:World} {B B' k n C:Nat} {v E:Value} {xs G:List Value} (h:bB w B 3 1 v n xs) (V:bB w B' 3 1 E C G) (hk:v.ownBlock=some k) (Z:E.ownBlock=some k) (hn:0 < n) (ag:0 < C):xs[0]? =G[0]? :=by
 rcases h.2 with ⟨rfl,rfl⟩ | ⟨g,cap,cur,rfl,_,Y,_,_,_,aa⟩
 · omega
 · rcases V.2 with ⟨rfl,rfl⟩ | ⟨O,ac,ae,rfl,_,A,_,_,_,ab⟩
   · omega
   · have I:g=k:=by simpa [jU] using hk
     have J:O=k:=by simpa [jU] using Z
     subst I J;rw [Y] at A;cases A;rw [← aa,← ab,qK,qK,if_pos aj,if_pos aj]
theorem ox.sep {w:World} {B k:Nat} {f:Value→Option Value} {xs:List bE} {s t:Tx} (h:ox w B f xs) (I:s≠t) (hs:((f<|str s).getD<|cg none 0 0).ownBlock=some k):((f<|str t).getD<|cg none 0 0).ownBlock≠some k:=by
 intro A;have C:idxs s xs≠[]:=fun e=>by rw [h.nil s e] at hs; cases hs
 have E:idxs t xs≠[]:=fun e=>by rw [h.nil t e] at A; cases A
 have he:=Fu (h.own s) (h.own t) hs A (mr.2 C)<|mr.2 E;cases h1:idxs s xs with
 | nil=>exact C h1
 | cons i l=>
   cases h2:idxs t xs with
   | nil=>exact E h2
   | cons j m=>
     rw [h1,h2] at he;have G:i=j:=by have h:=he; simp only [List.map_cons,wv,gM,bV,Value.int.injEq,true_and] at h; omega
     subst G;have m1:i∈idxs s xs:=by rw [h1]; simp
     have m2:i∈idxs t xs:=by rw [h2]; simp
     unfold idxs at m1 m2;have J:=of_decide_eq_true (oo.1 m1).2;have O:=of_decide_eq_true (oo.1 m2).2;exact I<|J.symm.trans O
theorem ox.put {w E V:World} {B mb:Nat} {f:Value→Option Value} {xs:List bE} {x:bE} {v:Value} (h:ox w B f xs) (hm:Md (fun k=>((f<|str x.1).getD<|cg none 0 0).ownBlock=some k) w E)
 (O:bB E B 3 1 v (idxs x.1 xs++ [xs.length]).length ((idxs x.1 xs++ [xs.length]).map bV)) (J:∀ cur z,E.heap[mb]?≠some (.cells cur 3 z)) (I:Md (fun k=>k=mb) E V):ox V B (bZ f (str x.1) v) (xs++ [x]):=by
 refine ⟨fun s=> ?_,fun s hs=> ?_⟩
 · by_cases A:x.1=s
   · subst A;rw [oR,EC,if_pos rfl];exact dz O I fun k hk C=>pV O hk fun cur z G=>J cur z<|C ▸ G
   · rw [mF (fun e=>A (str_inj.1 e).symm),EC,if_neg A,eJ];have h1:=dz (h.own s) hm fun k hk C=>h.sep A C hk;exact dz h1 I fun k hk C=>pV h1 hk fun cur z G=>J cur z<|C ▸ G
 · rw [EC] at hs;by_cases A:x.1=s
   · rw [if_pos A] at hs; simp at hs
   · rw [if_neg A,eJ] at hs;rw [mF (fun e=>A (str_inj.1 e).symm)]; exact h.nil s hs
structure lZ (w:World) (B wb mb:Nat) (va:Value) (vs:List Value) (xs:List bE):Prop where
 cells:w.heap[wb]? =some (.cells [va,.map (some mb)].toArray 184 (0,0))
 own:bB w B 53 2 va xs.length (kP<|xs.zip vs)
 fl:eU w B 95 vs (xs.map (·.2))
 mp:∃ f,dq w.heap mb j5 f∧ox w B f xs
theorem lZ.md {G:Nat→Prop} {w w':World} {B wb mb:Nat} {va:Value} {vs:List Value} {xs:List bE} (h:lZ w B wb mb va vs xs) (hm:Md G w w') {L:List Nat} (A:TF w L G) (E:(L.contains 186 || L.contains 55 || L.contains 97 || L.contains 5)=false) (O:¬G mb):lZ w' B wb mb va vs xs:=by
 simp only [oY] at E;obtain ⟨⟨⟨h1,h2⟩,h3⟩,h4⟩:=E;obtain ⟨f,I,J⟩:=h.mp;exact ⟨hm.jd A h.cells h1,c7 h.own hm A h2,h.fl.md hm (fun k hk cur z C=>A.no (dS C) h3 hk),⟨f,I.md hm O,J.md hm fun k hk cur z C=>A.no (dS C) h4 hk⟩⟩
theorem lZ.wk {w w':World} {B wb mb:Nat} {va:Value} {vs:List Value} {xs:List bE} (h:lZ w B wb mb va vs xs) (hm:Wk w w'):lZ w' B wb mb va vs xs:=h.md (L:= []) hm (fun _ hk=>hk.elim) rfl id
theorem Dw {F:aX} {t:Tx} {ln:Nat} {row:List Tx} {rows:List Rw} (h:¬65536 < t.length) (h1:cx t=(ln,row)::rows) (h2:(mi row).2≠0):∃ e:Nat,(mi row).2=(e:Int)∧fV F t= .error (ln,e):=by
 unfold mi at h2 ⊢;by_cases A:row.length≠1
 · rw [if_pos A]; exact ⟨111,rfl,Wy h h1 A⟩
 · rw [if_neg A] at h2 ⊢;have h3:=rr (s:=row.getD 0 []) (most:=8192) h2;exact ⟨13,h3.2,WB h h1 (jT.1 A) h3.1⟩
theorem Kd {F:aX} {t:Tx} {ln:Nat} {row:List Tx} {rows:List Rw} (h:¬65536 < t.length) (h1:cx t=(ln,row)::rows) (h2:(mi row).2=0):∃ n:Nat,(mi row).1=n∧n≤8192∧fV F t=fJ F ((bU t).length+1) n rows:=by
 unfold mi at h2 ⊢;by_cases A:row.length≠1
 · rw [if_pos A] at h2; cases h2
 · rw [if_neg A] at h2 ⊢;exact ⟨_,ag,by have :=sI (row.getD 0 []) 8192 h2; omega,Kf h h1 (jT.1 A)<|pU h2⟩
theorem Bt {u:Tx} {a:Value} (h:a.oneCell'=true):[str u,a].all gI=true :=by rw [wq,wq,h]; rfl
def Ro (l e:Nat):Value:= .agg [.int .i64 2,.int .i64 (l:Nat),.int .i64 (e:Nat)].toArray
def Ri (w':World) (B0:Nat) (xs:List bE) (v:Value):Prop := ∃ B wb mb va vs,B0≤B∧v= .tuple #[.pointer (some ⟨wb,0,none⟩),.agg [.int .i64 0,.int .i64 0,.int .i64 0].toArray]∧lZ w' B wb mb va vs xs∧B0≤wb∧B0≤mb
def Rh (e:Nat×Nat) (v:Value):Prop :=v= .tuple #[.pointer none,Ro e.1 e.2]
def mM (F:aX) (t:Tx) (w:World) (v:Value) (w':World):Prop :=(match fV F t with | .ok xs=>Ri w' w.heap.size xs v | .error e=>Rh e v)∧Wk w w'
theorem mM.no {F:aX} {t:Tx} {w w':World} {l e:Nat} (h:fV F t= .error (l,e)) (hm:Wk w w'):mM F t w (.tuple #[.pointer none,.agg [.int .i64 2,.int .i64 (l:Nat),.int .i64 (e:Nat)].toArray]) w':=by
 unfold mM; rw [h]; exact ⟨rfl,hm⟩
theorem WE (B fb mc:Nat) (F:aX) (V:fN) (t:Tx) (w:World) (cu:eu w B fb mc F V) (dX:∃ seen,lB F [] seen) (eS:Nx F) (hs:t.length≤1048576):
 bw aE 40 (bl [a6 fb,str t]) w (mM F t w):=by
 refine enter func40 ag ntmps40 ag<|ak fun c9=>p aJ<|e<|hU rI fun bG ff fy cy cn=> ?_;have cm:bX ff.heap bG [.int .i64 0,.int .i64 0,.int .i64 0]:=⟨_,cn⟩
 refine nl<|c9<|aH fun di=>ak fun dn=>aw (a6 fb)<|p (lJ yr ag ag)<|nl<|dn<|cf (ag)<|aT<|di<|ak fun dr=>aw (str t)<|e<|cl Jf (OP t _ hs) ag ?_;rintro v22 cc ⟨⟨a22,rfl,cI⟩,hE22⟩;have ct:=cy.md.trans hE22;have f3:=cy.size;refine p mv<|p (xt ag ag)<|p (xt ag ag)<|p aJ<|az<|dr<|aH fun ds=>ak fun du=>p mv<|p (dw ag ag)<|nl<|du<|cd ag (fun b6=> ?_) fun b6=> ?_;have cF:65536 < t.length:=Classical.byContradiction fun h=>b6<|by rw [if_neg h]
 refine ak fun bz=>p mv<|e<|cl uS (uX 0 (if 65536 < t.length then 10 else 0) cc) ag ?_;rintro v28 gm ⟨rfl,bK⟩;have fX:=(hE22.trans bK).size;refine p aJ<|e<|dy kz ag ag ag ag (Wk.B (hE22.trans bK) cm) (by simp) fun gz ea dU=>nl<|bz<|rt<|tr<|eV ag eI (eo (cs:= [.int .i64 2,.int .i64 0,.int .i64 (if 65536 < t.length then 10 else 0)]) ag l7 ag fun j am=>dU.bF j) ?_;have h:=mM.no (F:=F) (Kg cF)<|(ct.trans bK).trans' ea fun q C h=>by omega
 show mM F t w (.tuple #[.pointer none,.agg [.int .i64 2,.int .i64 0,.int .i64 (if 65536 < t.length then 10 else 0)].toArray]) _;rw [if_pos cF];exact h;have aY:¬65536 < t.length:=fun h=>b6<|by rw [if_pos h]; decide
 rw [if_neg aY] at cI;obtain ⟨c4,xm,rfl⟩:=cM cI;have fE:=pS t;refine aT<|ds<|ak fun bz=>aw (str t)<|e<|cl Je (Oa t _ hs) ag ?_;rintro v31 ao ⟨⟨a31,rfl,cH⟩,hE31⟩;rw [if_neg aY] at cH;obtain ⟨c6,bk,bm⟩:=cH;obtain ⟨ar,cr,rfl⟩:=cM bk;have av:=ct.trans hE31;have aN:=Wk.B (hE22.trans hE31) cm;have f0:=(hE22.trans hE31).size;have c2:=AW t;refine p mv<|p (xt ag ag)<|p (xt ag ag)<|p aJ<|az<|bz<|aH fun dv=>ak fun dx=>p mv<|p (bN Bv ag ag)<|p (bT ag ag)<|nl<|dx<|cd ag (fun b7=> ?_) fun b7=> ?_;have eQ:cx t= []:=fY aj;refine ak fun bq=>p mv<|p (bN ee ag ag)<|p (bJ (((bU t).length+1:Nat):Int) ag ag<|bp aj aj)<|e<|cl uS (uX ((bU t).length+1:Nat) 116 ao) ag ?_;rintro v40 gn ⟨rfl,bO⟩;have f1:=bO.size;exact p aJ<|e<|dy kz ag ag ag ag (Wk.B bO aN) (by simp) fun gA ec dV=>nl<|bq<|rt<|tr<|eV ag eI (eo (cs:= [.int .i64 2,ay ((bU t).length+1),.int .i64 116]) ag l7 ag fun j am=>dV.bF j)<|mM.no (Kh aY eQ)<|(av.trans bO).trans' ec fun q C h=>by omega
 obtain ⟨⟨c5,aI⟩,rest,Z⟩:∃ q rest,cx t=q::rest:=by
  cases h:cx t with
  | nil=>rw [h] at b7; exact absurd rfl b7
  | cons q rest=>exact ⟨q,rest,rfl⟩
 have ca:=bm.1;rw [Z] at bk bm ca c2;obtain ⟨⟨aG,e9⟩,rvs',rfl⟩:∃ q cb,c6=q::cb:=by
  cases c6 with
  | nil=>exact absurd ca<|by simp
  | cons q cb=>exact ⟨q,cb,rfl⟩
 obtain ⟨e0,c0⟩:=bm.2 0 (aG,e9) (c5,aI) rfl rfl;obtain rfl :aG=c5:=e0;obtain ⟨a0,dA,rfl⟩:=c0.slice;have aS:=(bg bk).2;have eF:=(bg bk).1;have cN:∀ q∈(aG,aI)::rest,q.2.length≤70000∧∀ x∈q.2,x.length≤70000:=fun q C=>by
  have h:=AX (show q∈cx t by rw [Z]; exact C);exact ⟨aj,fun x e5=>by have :=(h.2.2.2.2 x e5).2; omega⟩
 have cL:=cN _<|List.mem_cons_self ..;simp only [db] at ca c2 eF;refine aT<|dv<|ak fun bq=>p mv<|p (bh u6 ag ag (by rw [Z]; simp only [db]; omega)<|aR.ok (aS)<|mG<|by simp)<|p (dp y5 ag (ag)<|mH (i:=0) aS ag)<|e<|cl Uh (Wx aG aI cc.heap.size a0 dA ao c0 cL.2 cL.1) ag ?_;rintro v45 fe ⟨rfl,aA⟩;have f2:=aA.size;refine p mv<|p (xt ag ag)<|p (xt ag ag)<|p aJ<|az<|bq<|aH fun da=>ak fun dc=>p mv<|p (dw ag ag)<|nl<|dc<|cd ag (fun cG=> ?_) fun cG=> ?_;obtain ⟨ft,eH,b4⟩:=Dw (F:=F) aY Z cG;refine ak fun bs=>p mv<|p (bh u6 ag ag (by rw [Z]; simp only [db]; omega)<|aR.ok (aS.wk aA)<|mG<|by simp)<|p (fa Ae ag)<|p (ld bL ag<|mH (i:=0) (aS.wk aA) ag 0 aM)<|p mv<|e<|cl uS (uX (aG:Nat) (mi aI).2 fe) ag ?_;rintro v55 gp ⟨rfl,bQ⟩;have f4:=bQ.size;refine p aJ<|e<|dy kz ag ag ag ag (Wk.B (aA.trans bQ) aN) (by simp) fun gu d6 dG=>nl<|bs<|rt<|tr<|eV ag eI (eo (cs:= [.int .i64 2,ay aG,.int .i64 (mi aI).2]) ag l7 ag fun j am=>dG.bF j) ?_;have h:=mM.no b4<|(av.trans<|aA.trans bQ).trans' d6 fun q C h=>by omega
 show mM F t w (.tuple #[.pointer none,.agg [.int .i64 2,ay aG,.int .i64 (mi aI).2].toArray]) _;rw [eH];exact h;obtain ⟨n,cP,fF,b4⟩:=Kd (F:=F) aY Z (show (mi aI).2=0 by omega);have d5:=cu.wk<|av.trans aA;obtain ⟨seen,co⟩:=dX;have fC:=co.len;refine aT<|da<|ak fun bs=>e<|tN fun aa gq fz b2 dR=> ?_;have f5:=b2.size;refine p (dt (ps:= [(1,.map (some aa))]) (L:= [.slice none 0 0,.map (some aa)]) ac6 ag<|ag)<|e<|oB ag fun E fg fA ba dT=> ?_;have f6:=ba.size;have d2:=aA.trans<|b2.md.trans ba.md;refine az<|bs<|ak fun dd=>aw (a6 fb)<|e<|cl zq (y1 B fb mc F V fg (d5.wk<|b2.md.trans ba.md) aj eS) ag ?_;rintro v60 gr ⟨⟨fo,rfl,_⟩,hE60⟩;have f7:=hE60.size;refine p (XD X6 HT ag ag)<|e<|al aeJ fun bC gh fv a5 dH=> ?_;have fL:=a5.size;refine e<|dy V8 ag ag ag ag (dH) (by simp) fun O a3 dI=> ?_;have d0:Wk ao O:=(d2.trans<|hE60.trans a5.md).trans' a3 fun q C h=>by omega
 have fO:=a3.size;have ez:O.heap[E]? =some (.cells [.slice none 0 0,.map (some aa)].toArray 184 (0,0)):=a3.aW (Wk.aW (hE60.trans a5.md) dT) fun h=>by omega
 have eN:dq O.heap aa j5 (fun _=>none):=dq.md (dq.wk (dq.nil dR)<|ba.md.trans<|hE60.trans a5.md) a3 fun h=>by omega
 have em:lZ O O.heap.size E aa (.slice none 0 0) [] []:=⟨ez,dC _ _ _ _,eU.nil _ _ _,⟨_,eN,⟨fun s=>dC _ _ _ _,fun s _=>rfl⟩⟩⟩
 have ew:bX O.heap bC [bA (F.sp.getD 0 0),bA (F.sp.getD 1 0),bA (F.sp.getD 2 0),bA (F.sp.getD 3 0),bA (F.sp.getD 4 0)]:=dI;have cp:aR ao.heap (fR ar cr 1 2) (lr rvs'):=by
  have h:=aS.drop (cap:=cr) (k:=1) (size:=2)<|by rw [Oh]; simp only [db]; omega
  exact h
 have er:jx F ((bU t).length+1) (fV F t) [] (n - 0) (rest.drop 0):=by rw [b4]; exact jx.start
 refine nl<|dd<|aH fun de=>ak fun df=>p mv<|p (sP u6 ag ag<|by rw [Z]; simp only [db]; omega)<|p (bN Bv ag ag)<|p mv<|nl<|df<|aW<|lp (fun cj a1 aq=> ∃ (i:Nat) (xs:List bE) (vs:List Value) (va:Value),(i≤rest.length∧i≤n)∧(xs.length=i)∧(jx F ((bU t).length+1) (fV F t) xs (n - i)<|rest.drop i)∧(lZ aq O.heap.size E aa va vs xs)∧(Wk ao aq)∧(bX aq.heap bC [bA (F.sp.getD 0 0),bA (F.sp.getD 1 0),bA (F.sp.getD 2 0),bA (F.sp.getD 3 0),bA (F.sp.getD 4 0)])∧(O.heap.size≤aq.heap.size)∧(a1 10=ay n)∧(a1 63= .slice (fR ar cr 1 2) rest.length (cr - 1))∧(a1 64=ay (rest.length))∧(Sl a1 [(0,a6 fb),(5,a6 bG),(6,.slice c4 (bU t).length xm),(11,a6 E),(12,a6 bC),(65,ay i)])∧(rest.length - i=cj)) _ ⟨0,[],[],.slice none 0 0,aj,ag,er,em,d0,ew,(cU _),(by first | rfl | (rw [← cP]; rfl)),(by first | rfl | (rw [Z]; rfl)),(by first | rfl | (rw [Z]; rfl)),ag,ag⟩ ?_;rintro cj a1 aq ⟨i,xs,vs,va,hi,c3,ae,aL,Y,cD,gc,e2,e3,e4,e1,rfl⟩;refine bH e1<|fx 10 e2<|fx 63 e3<|fx 64 e4<|ak fun dg=>p (lt ag ag)<|nl<|dg<|aH fun dh=>cd ag (fun eC=> ?_) fun eC=> ?_;refine aT<|dh<|aH fun bt=>aW<|aH fun bu=> ?_;obtain ⟨⟨ln,r⟩,hri⟩:∃ q,rest[i]? =some q:=⟨_,cz aj⟩
 have eG:rest.drop i=(ln,r)::rest.drop (i+1):=by rw [QB aj]; rw [cz aj] at hri; rw [wS hri]
 obtain ⟨p,c1⟩:∃ p,rvs'[i]? =some p:=⟨_,cz aj⟩
 obtain ⟨dD,cC⟩:=bm.2 (i+1) p (ln,r) c1 hri;obtain ⟨e8,ge⟩:=p;obtain rfl :ln=e8:=dD.symm;obtain ⟨a,c,rfl⟩:=cC.slice;have cO:=cN (ln,r)<|om _<|gL hri;rw [eG] at ae;refine rg ag<|aw (ay i)<|p (bh u6 ag ag aj<|aR.ok (cp.wk Y)<|mG aj)<|p (dp y5 ag (ag)<|mH (cp.wk Y) c1)<|e<|al PN fun ch gj bd b1 dJ=> ?_;have fP:=b1.size;refine p (cV (ay i) ag)<|e<|dy JP ag ag ag ag (dJ) (by simp) fun aP b0 dL=> ?_;have a2:Wk ao aP:=(Y.trans b1.md).trans' b0 fun q C h=>by omega
 have cq:Wk aq aP:=b1.md.trans' b0 fun q C h=>by omega
 have bd:bX aP.heap ch [ay ln,.slice a r.length c]:=dL;have fS:=b0.size;refine nl<|bu<|aH fun aQ=>ak fun dj=>aw (ay i)<|aw (ay n)<|p (bT ag ag)<|nl<|dj<|cd ag (fun eD=> ?_) fun eD=> ?_;refine ak fun bv=>p (fa Ae ag)<|p (ld bL ag<|(bd.a7 0).trans ag)<|e<|cl uS (uX (ln:Nat) 116 aP) ag ?_;rintro v75 gs ⟨rfl,bS⟩;have f8:=bS.size;refine p aJ<|e<|dy kz ag ag ag ag (Wk.B (a2.trans bS) aN) (by simp) fun gv d7 dM=>nl<|bv<|rt<|tr<|br<|tr<|tr<|br<|tr<|eV ag eI (eo (cs:= [.int .i64 2,ay ln,.int .i64 116]) ag l7 ag fun j am=>dM.bF j) ?_;rw [show n - i=0 by omega] at ae;exact mM.no ae.more<|(av.trans<|a2.trans bS).trans' d7 fun q C h=>by omega
 refine aT<|aQ<|ak fun bv=>aw (a6 fb)<|p (dp HT ag (ag) fun j am=>(Wk.B cq cD).bF j)<|p (dp y5 ag (ag) fun j am=>bd.bF j)<|e<|cl Ui (Wn B fb mc F V ln r cc.heap.size a c aP (cu.wk<|av.trans a2) ⟨seen,co⟩ (cC.wk a2) cO.2 cO.1) ag ?_;rintro v80 fh ⟨d4,bY⟩;obtain ⟨A,a80,ci,rfl,cZ,cJ⟩:∃ (u:Tx) (a:Value) (e:Nat),v80= .tuple #[.agg [str u,a].toArray,ay e]∧a.oneCell'=true∧((e=0∧∃ l,gF F r= .ok (u,l)∧bB fh aP.heap.size 95 1 a l.length (l.map bA))∨(e≠0∧gF F r= .error e)):=by
  rcases d4 with ⟨x,a,h1,h2,h3⟩ | ⟨e,h1,h2,h3⟩;exact ⟨x.1,a,0,h2,fG h3,.inl ⟨ag,x.2,h1,h3⟩⟩;exact ⟨_,_,e,h3,ag,.inr ⟨h2,h1⟩⟩
 have f9:=bY.size;refine p mv<|p (xt ag ag)<|p (xt ag ag)<|e<|hU rJ fun bD gl fw a9 ck=> ?_;have fQ:=a9.size;refine e<|gS kO ag ag ag (Bt cZ) ck aM fun an a4 dN=> ?_;have aK:Wk aq an:=(cq.trans<|bY.trans a9.md).trans' a4 fun q C h=>by omega
 have cE:an.heap[bD]? =some (.cells [str A,a80].toArray 53 (0,0)):=dN;have fT:=a4.size;have ex:bX an.heap ch [ay ln,.slice a r.length c]:=a4.B (Wk.B (bY.trans a9.md) bd) fun h=>by omega
 refine az<|bv<|aH fun dk=>ak fun dl=>p mv<|p (dw ag ag)<|nl<|dl<|cd ag (fun eE=> ?_) fun eE=> ?_;obtain ⟨fI,hex⟩:=cJ.resolve_left fun h=>by omega
 refine ak fun bx=>p (fa Ae ag)<|p (ld bL ag<|(ex.a7 0).trans ag)<|p mv<|e<|cl uS (uX (ln:Nat) (ci:Nat) an) ag ?_;rintro gg gt ⟨rfl,bZ⟩;have ga:=bZ.size;exact p aJ<|e<|dy kz ag ag ag ag (Wk.B (Y.trans<|aK.trans bZ) aN) (by simp) fun gw d8 dO=>nl<|bx<|rt<|tr<|br<|tr<|tr<|br<|tr<|eV ag eI (eo (cs:= [.int .i64 2,ay ln,ay ci]) ag l7 ag fun j am=>dO.bF j)<|mM.no (ae.bad aj hex)<|(av.trans<|Y.trans<|aK.trans bZ).trans' d8 fun q C h=>by omega
 obtain ⟨_,aF,hex,eX⟩:=cJ.resolve_right fun h=>by omega
 have bb:=aL.wk aK;have eP:¬(va.ownBlock=some E):=eh bb.own bb.cells aM;have eO:¬(va.ownBlock=some bD):=fun h=>by have :=(dK aL.own h).2; omega
 have gd:=aK.size;refine aT<|dk<|aH fun bx=> ?_;have aD:(fun w'=>Md (fun q=>va.ownBlock=some q) an w') an.drew:=(Md.refl _ _).drew;refine fj (fun w'=>Md (fun q=>va.ownBlock=some q) an w') 10 ag wide aD<|bM 0 ag (a6 E) aD<|bM 1 ag (a6 E) aD<|bR 2 ag (nc ag) aD<|bR 3 ag (fa Af ag) aD<|ej 4 ag (fun w' I=>ld wY ag<|Md.a7 I ((bo bb.cells).trans ag) eP) aD<|ej 5 ag (fun w' I=>dp mz ag (ag) fun j am=>bX.bF ⟨_,Md.aW I cE eO⟩ j) aD<|ic 6 ag au<|lF A7 ag ag ag fun fs fk fB ef dW=> ?_;have aB:=jk ef.md;have J:=bb.wk aB;have gb:=aB.size;have cA:(fun w'=>Md (fun q=>va.ownBlock=some q) an w') fk:=Md.mono aB fun _ _ h=>h.elim;refine ⟨cA,?_⟩;refine ic 7 ag au<|ap A7 (J.own) ag aj ag (aR.dZ dW) (ag) (Bt cZ) aj aj fun aZ ce cX ac e7 fD=> ?_;obtain ⟨f,cK,eL⟩:=J.mp;have aU:=ac.aW J.cells<|eh J.own J.cells aM;have cY:bB ce O.heap.size 53 2 aZ (xs++ [(A,aF)]).length (kP<|(xs++ [(A,aF)]).zip<|vs++ [a80]):=by
  have eM:xs.length=vs.length:=by have :=J.fl.1; rw [fH] at this; omega
  rw [List.zip_append eM,List.zip_cons_cons,List.zip_nil_right,Kq,bP]; exact cX
 have e7:=ac.size;have es:=ac.B (Wk.B (aK.trans aB) cD) fun h=>by have :=(dK J.own h).1; omega
 have ey:=ac.aW (Wk.aW aB cE) fun h=>by have :=(dK aL.own h).2; omega
 have d3:Wk ao ce:=(Y.trans<|aK.trans aB).trans' ac fun q C h=>by have :=(dK J.own h).1; omega
 have b3:(fun w'=>Md (fun q=>va.ownBlock=some q) an w') ce:=cA.trans' ac fun _ _ h=>h;refine ⟨b3,?_⟩;refine bR 8 ag (nc ag) b3<|bR 9 ag (fa Af ag) b3<|eb 10 ag au au<|dB JM ag ag (v:=aZ) (fG cX) aU (by show _ < 2; omega) fun ax ah dE=> ?_;have bf:ax.heap[E]? =some (.cells [aZ,.map (some aa)].toArray 184 (0,0)):=dE;have fJ:=ah.size;have dY:Wk ao ax:=d3.trans' ah fun q C h=>by omega
 have et:=ah.B es fun h=>by omega
 have b5:=ah.aW ey fun h=>by omega
 have cT:=dz cY ah fun q C h=>eh cY aU aM<|h ▸ C;have ek:Tg ax O.heap.size 95 aF.length a80 (aF.map bA):=((((((Tg.kj eX).mono aj).wk a9.md).md a4<|gk ck aM).wk aB).md ac<|ji J.own aM).md ah<|gk aU aM;have eJ:=((J.fl.md ac<|ji J.own aM).md ah<|gk aU aM).snoc ek;have b8:=(cK.md ac fun h=>pV J.own h fun cur z=>cK.pT).md ah fun h=>by omega
 have bi:=(eL.md ac<|ji J.own aM).md ah<|gk aU aM;have b9:¬(((f<|str A).getD<|cg none 0 0).ownBlock=some E):=eh (bi.own A) bf aM;have cQ:¬(((f<|str A).getD<|cg none 0 0).ownBlock=some bD):=eh (bi.own A) b5 aM;have cS:¬(((f<|str A).getD<|cg none 0 0).ownBlock=some aa):=fun h=>pV (bi.own A) h fun cur z=>b8.pT;refine fi au<|bx ?_;have G:(fun w'=>Md (fun q=>((f<|str A).getD<|cg none 0 0).ownBlock=some q) ax w') ax.drew:=(Md.refl _ _).drew;refine fj (fun w'=>Md (fun q=>((f<|str A).getD<|cg none 0 0).ownBlock=some q) ax w') 16 ag wide G<|eR 0 ag (a8 (a6 E) ag) G<|eR 1 ag (nc ag) G<|eR 2 ag (fa D6 ag) G<|lq 3 ag au (fun w' I=>ld Cs ag<|Md.a7 I ((bo bf).trans ag) b9) G<|eR 4 ag (fa Aj ag) G<|lq 5 ag au (fun w' I=>ld bW ag<|Md.a7 I ((bo b5).trans ag) cQ) G<|eR 6 ag (a8 (a6 E) ag) G<|eR 7 ag (nc ag) G<|eR 8 ag (fa D6 ag) G<|lq 9 ag au (fun w' I=>ld Cs ag<|Md.a7 I ((bo bf).trans ag) b9) G<|eR 10 ag (fa Aj ag) G<|lq 11 ag au (fun w' I=>ld bW ag<|Md.a7 I ((bo b5).trans ag) cQ) G<|lq 12 ag au (fun w' I=>mX Gx BK jD (dq.md (b8) I cS) ag ag (⟨_,ag⟩)<|ag) G<|eR 13 ag (a8 (ay i) ag) G<|ic 14 ag au<|fU lR ag ag fun fr fd fu ed dF=> ?_;have ab:=jk ed.md;have aO:=bi.md ab fun _ hk=>hk.elim;have fK:=ab.size;have cB:(fun w'=>Md (fun q=>((f<|str A).getD<|cg none 0 0).ownBlock=some q) ax w') fd:=Md.mono ab fun _ _ h=>h.elim;refine ⟨cB,?_⟩;refine ic 15 ag au<|ap lR (aO.own A) ag aj ag (aR.dZ dF) (ag) (ag) (by have :=EB A xs; omega) (by have :=EB A xs; omega) fun fc c7 eT ai e6 aV=> ?_;have e6:=ai.size;have aV:=(b8.wk ab).md ai cS;have eY:bB c7 O.heap.size 3 1 fc (idxs A xs++ [xs.length]).length ((idxs A xs++ [xs.length]).map bV):=by
  rw [bP,fZ,c3]; exact eT
 have ei:(fun w'=>Md (fun q=>((f<|str A).getD<|cg none 0 0).ownBlock=some q) ax w') c7:=cB.trans' ai fun _ _ h=>h;refine ⟨ei,?_⟩;refine eb 16 ag au au<|tZ Gx jD (aV) ag ag ag (⟨_,ag⟩) fun c8 aC eg=> ?_;have eZ:=ox.put (x:=(A,aF)) aO ai eY (fun cur z=>aV.pT) aC;have eB:=aC.aW (ai.aW (Wk.aW ab bf) b9) fun h=>by omega
 have cW:=dz (bc cT ab) ai fun q C=>nT (bc cT ab) (aO.own A) aM C;have eW:=dz cW aC fun q C h=>pV cW C fun cur z=>h ▸ aV.pT;have eK:=((eJ.wk ab).md ai<|ji (aO.own A) aM).md aC fun k hk cur z h=>aV.pT<|hk ▸ h;have en:lZ c8 O.heap.size E aa aZ (vs++ [a80]) (xs++ [(A,aF)]):=⟨eB,eW,by rw [fZ]; exact eK,⟨_,eg,eZ⟩⟩
 have d1:Wk ao c8:=((dY.trans ab).trans' ai fun q C h=>by have :=(dK (aO.own A) h).1; omega).trans' aC fun q C h=>by omega
 have ev:=aC.B (ai.B (Wk.B ab et) fun h=>by have :=(dK (aO.own A) h).1; omega) fun h=>by omega
 have fW:=aC.size;exact fi au<|bn<|bt<|rg ag<|p (ad ag ag<|cR aj)<|p mv<|nl<|tn<|⟨_,aj,i+1,xs++ [(A,aF)],vs++ [a80],aZ,aj,(by rw [bP,c3]; rfl),(by rw [show n - (i+1)=n - i - 1 by omega]; exact ae.step aj hex),en,d1,ev,(aj),(by first | rfl | (rw [← cP]; rfl)),(by first | rfl | (rw [Z]; rfl)),(by first | rfl | (rw [Z]; rfl)),ag,ag⟩
 refine ext<|bj<|bj<|be<|de<|aH fun bt=>aH fun bu=> ?_;obtain ⟨fq,cv,rfl⟩:=cM aL.own;refine rg ag<|aw (a6 E)<|p (nc ag)<|p (fa Af ag)<|p (ld wY ag<|(bo aL.cells).trans ag)<|p (bN Bu ag ag)<|aw (ay n)<|p (lt ag ag)<|nl<|bu<|cd ag (fun eA=> ?_) fun eA=> ?_;refine ak fun aQ=>aw (.slice c4 (bU t).length xm)<|p (bN ee ag ag)<|p (bJ (((bU t).length+1:Nat):Int) ag ag<|bp aj aj)<|e<|cl uS (uX ((bU t).length+1:Nat) 116 aq) ag ?_;rintro gf gi ⟨rfl,bI⟩;have fM:=bI.size;refine p aJ<|e<|dy kz ag ag ag ag (Wk.B (Y.trans bI) aN) (by simp) fun gx d9 dP=>nl<|aQ<|rt<|tr<|eV ag eI (eo (cs:= [.int .i64 2,ay ((bU t).length+1),.int .i64 116]) ag l7 ag fun j am=>dP.bF j) ?_;rw [iS aj] at ae;exact mM.no (ae.ends aj)<|(av.trans<|Y.trans bI).trans' d9 fun q C h=>by omega
 refine aT<|bt<|ak fun aQ=>aw (a6 E)<|p (dt (ps:= []) (L:= [.int .i64 0,.int .i64 0,.int .i64 0]) vJ ag<|ag)<|p (cV (a6 E) ag)<|e<|dy kz ag ag ag ag (Wk.B Y aN) (by simp) fun gy cw dQ=>nl<|aQ<|rt<|eV ag eI (eo (cs:= [.int .i64 0,.int .i64 0,.int .i64 0]) ag l7 ag fun j am=>dQ.bF j) ?_;rw [iS aj,show n - i=0 by omega] at ae;have ep:=ae.done;have el:TF aq [47] (fun q=>q=bG):=TF.eq (dS<|Wk.aW (hE22.trans<|hE31.trans Y) cn) aM;unfold mM;rw [ep];exact ⟨⟨O.heap.size,E,aa,_,vs,aj,ag,aL.md cw el aM (fun h=>by omega),aj,aj⟩,(av.trans Y).trans' cw fun q C h=>by omega⟩
end Go.Hb.jm
end
section
namespace Go.Hb
open Go.Hb.gr Go.Hb.ir Go.Hb.jm
theorem aeC {α:Type} {f:α×Value→List Value} {m c i:Nat} (A:∀ q,(f q).length=m) (C:c < m) (hs:∀ a u v,(f (a,u)).set c v=f (a,v)) {rs:List α} {vs:List Value} {v:Value} (hi:i < rs.length) (J:i < vs.length):((rs.zip vs).flatMap f).set (i*m+c) v=(rs.zip<|vs.set i v).flatMap f:=by
 obtain ⟨r,I⟩:∃ r,rs[i]? =some r:=⟨_,cz hi⟩
 obtain ⟨u,hu⟩:∃ u,vs[i]? =some u:=⟨_,cz J⟩
 have O:(rs.zip vs)[i]? =some (r,u):=j9.2 ⟨I,hu⟩;have Z:rs.zip (vs.set i v)=(rs.zip vs).set i (r,v):=by
  apply qI;intro j;rw [lW];by_cases E:i=j
  · subst E;rw [if_pos rfl,if_pos (fS.1 O).1];exact j9.2 ⟨I,by simp [J]⟩
  · rw [if_neg E];cases h1:(rs.zip vs)[j]? with
    | none=>
      rw [List.getElem?_eq_none_iff,B9] at h1 ⊢;rw [yQ]; exact h1
    | some q=>
      have h2:=j9.1 h1;exact j9.2 ⟨h2.1,by rw [lW,if_neg E]; exact h2.2⟩
 have aa:(rs.zip vs).length=min rs.length vs.length:=B9;have G:((rs.zip vs).flatMap f).length=(rs.zip vs).length*m:=mV A _;have hle:i*m+m≤(rs.zip vs).length*m:=by rw [← Nat.succ_mul]; exact Nat.mul_le_mul_right _ aj
 rw [Z,Ll A _ aj];apply qI;intro j;have V:=fun c C=>zZ A (c:=c) O C;have Y:(((rs.zip vs).flatMap f).take<|i*m).length=i*m:=by rw [dM,G]; omega
 rw [lW];by_cases h1:j < i*m
 · rw [if_neg aj,e6,nq aj,qK,if_pos h1]
 · rw [e6,oh aj,Y];by_cases h2:j < i*m+m
   · rw [nq (by rw [A]; omega)];obtain ⟨d,rfl⟩:∃ d,j=i*m+d:=⟨j - i*m,aj⟩
     rw [V d aj,show i*m+d - i*m=d by omega,← hs r u v,lW];by_cases h3:c=d
     · subst h3; rw [if_pos rfl,if_pos rfl,if_pos (by rw [G]; omega),if_pos (by rw [A]; exact C)]
     · rw [if_neg aj,if_neg h3]
   · rw [if_neg aj,oh (by rw [A]; omega),A,qJ];congr 1; omega
theorem WV {xs:List bE} {vs:List Value} {i:Nat} {v:Value} (hi:i < xs.length) (A:i < vs.length):(kP<|xs.zip vs).set (i*2 +1) v=kP (xs.zip<|vs.set i v):=aeC (f:=qk) (m:=2) (c:=1) (fun _=>rfl) aM (fun _ _ _=>rfl) hi A
theorem uZ {l:List (bE×Value)} {i:Nat} {q:bE×Value} (h:l[i]? =some q):kP l≠[]:=fun h2=>by
 have h3:=WQ l;have h4:=(fS.1 h).1;rw [h2] at h3;have h5:0=l.length*2:=h3;omega
theorem RL (l:List Nat):(l.map bV).all gI=true :=by
 rw [mK]; intro v A; obtain ⟨x,_,rfl⟩:=iT.1 A; rfl
theorem WU {w:World} {B e:Nat} {xs:List bE} {vs:List Value} {E:List (List Nat)} (h:eU w B e vs E):(kP<|xs.zip vs).all gI=true :=by
 rw [mK];intro v A;obtain ⟨q,C,A⟩:=List.mem_flatMap.1 A;have h1:=mK.1 (zd h) q.2 (List.of_mem_zip C).2;simp only [qk,eL,wH,or_false] at A;rcases A with rfl | rfl
 · rfl
 · exact h1
def qP (w:World) (B:Nat) (vs:List Value) (A:List (List Nat)):Prop :=vs.length=A.length∧∀ (i:Nat) v l,vs[i]? =some v→A[i]? =some l→bB w B 95 1 v l.length (l.map bA)
theorem qP.t {w:World} {B:Nat} {vs:List Value} {A:List (List Nat)} (h:qP w B vs A):eU w B 95 vs A:=⟨h.1,fun i v l h1 h2=>Tg.kj<|h.2 i v l h1 h2⟩
theorem HZ {G:Nat→Prop} {w w':World} {B:Nat} {vs:List Value} {A:List (List Nat)} (h:qP w B vs A) (hm:Md G w w') (C:∀ k,G k→∀ cur z,w.heap[k]?≠some (.cells cur 95 z)):qP w' B vs A:=⟨h.1,fun i v l h1 h2=>dz (h.2 i v l h1 h2) hm fun k hk E=>pV (h.2 i v l h1 h2) hk<|C k E⟩
theorem RP (w:World) (B:Nat):qP w B [] []:=⟨rfl,fun i v l A=>by simp at A⟩
theorem RO {w:World} {B i:Nat} {vs:List Value} {A:List (List Nat)} {v:Value} (h:qP w B (vs.take i) (A.take i)) (hi:i < A.length) (I:i < vs.length) (G:bB w B 95 1 v (A.getD i []).length ((A.getD i []).map bA)):qP w B ((vs.set i v).take<|i+1) (A.take<|i+1):=by
 refine ⟨by simp; have :=h.1; simp at this; omega,fun j u l h1 h2=> ?_⟩;rw [qK] at h1 h2;by_cases C:j < i+1
 · rw [if_pos C] at h1 h2;rw [lW] at h1;by_cases E:i=j
   · subst E;rw [if_pos rfl,if_pos I] at h1;cases h1;rw [show A.getD i []=l by rw [da,h2]; rfl] at G;exact G
   · rw [if_neg E] at h1;exact h.2 j u l (by rw [qK,if_pos aj]; exact h1)<|by rw [qK,if_pos aj]; exact h2
 · rw [if_neg C] at h1; cases h1
theorem Wv (B wb mb:Nat) (va:Value) (vs:List Value) (xs:List bE) (w:World) (A:lZ w B wb mb va vs xs) (Y:xs.length≤70000) (s:Tx):
 bw aE 161 (bl [a6 wb,str s]) w (fun v w'=>bB w' w.heap.size 3 1 v (idxs s xs).length ((idxs s xs).map bV)∧Wk w w'):=by
 obtain ⟨f,O,V⟩:=A.mp;exact enter func161 ag ntmps161 ag<|ak fun C=>az<|C<|aH fun E=>ak fun G=>aw (a6 wb)<|p (lJ GA ag ag)<|nl<|G<|cf (ag)<|aT<|E<|aH fun I=>rg ag<|aw (a6 wb)<|p (nc ag)<|p (fa D6 ag)<|p (ld Cs ag<|(bo A.cells).trans ag)<|aw (str s)<|p (mX Gx BK jD (O) ag ag (⟨_,ag⟩)<|ag)<|e<|cl Th (UU _ (idxs s xs).length ((idxs s xs).map bV) w (Rd.kj<|V.own s) (RL _)<|by have :=EB s xs; omega) ag fun Z aa J=>az<|I<|rt<|ba ag<|J
theorem Wm (B wb mb:Nat) (va:Value) (vs:List Value) (xs:List bE) (w:World) (I:lZ w B wb mb va vs xs) (aX:xs.length≤70000) (aJ:∀ x∈xs,x.2.length≤64):
 bw aE 42 (bl [a6 wb]) w (fun v w'=>(∃ vs,bB w' w.heap.size 53 2 v xs.length (kP<|xs.zip vs)∧eU w' w.heap.size 95 vs (xs.map (·.2))∧qP w' w.heap.size vs (xs.map (·.2)))∧Wk w w'):=by
 refine enter func42 ag ntmps42 ag<|ak fun ao=>az<|ao<|aH fun aq=>ak fun au=>aw (a6 wb)<|p (lJ GA ag ag)<|nl<|au<|cf (ag)<|aT<|aq<|aH fun av=>rg ag<|aw (a6 wb)<|p (nc ag)<|p (fa Af ag)<|p (ld wY ag<|(bo I.cells).trans ag)<|e<|cl Un (US va xs.length (kP<|xs.zip vs) w (Rd.kj I.own) (WU I.fl) aj) ag ?_;rintro v11 a0 ⟨ai,aD⟩;obtain ⟨E,lG,rfl⟩:=cM ai;have aP:vs.length=xs.length:=by have :=I.fl.1; rwa [fH] at this
 refine az<|av<|aH fun ax=>ak fun aA=>p mv<|p (bN Bu ag ag)<|p mv<|nl<|aA<|aW<|lp (fun ah an G=> ∃ (i:Nat) (sa:List Value),(i≤xs.length)∧(sa.length=xs.length)∧(sa.drop i=vs.drop i)∧(qP G w.heap.size (sa.take i)<|(xs.map (·.2)).take i)∧(bB G w.heap.size 53 2 (.slice E xs.length lG) xs.length<|kP<|xs.zip sa)∧(Wk w G)∧(Sl an [(3,.slice E xs.length lG),(13,ay (xs.length)),(14,ay i)])∧(xs.length - i=ah)) _ ⟨0,vs,aj,aP,ag,(RP _ _),ai,aD,ag,ag⟩ ?_;rintro ah an G ⟨i,sa,hi,aO,am,O,C,J,aN,rfl⟩;refine bH aN<|ak fun aB=>p (lt ag ag)<|nl<|aB<|aH fun aC=>cd ag (fun aI=> ?_) fun aI=> ?_;refine aT<|aC<|aH fun V=>aW<|aH fun ap=> ?_;obtain ⟨aZ,aQ,Z⟩:=eU.get (I.wk J).fl (show i < (xs.map (·.2)).length by rw [fH]; omega);obtain ⟨ae,ci,rfl⟩:=Z.slice;obtain ⟨x,ac⟩:∃ x,xs[i]? =some x:=⟨_,cz aj⟩
 have aU:(xs.map (·.2)).getD i []=x.2:=by rw [da,List.getElem?_map,ac]; rfl
 have aS:=aJ x<|gL ac;rw [← aU] at aS;have ab:(xs.zip sa)[i]? =some (x,.slice ae ((xs.map (·.2)).getD i []).length ci):=j9.2 ⟨ac,(DA am).trans aQ⟩;refine rg ag<|aw (ay i)<|p (cV (ay i) ag)<|nl<|ap<|rg ag<|aw (.slice E xs.length lG)<|aw (ay i)<|aw (.slice E xs.length lG)<|aw (ay i)<|p (bh DG ag ag aj<|aR.ok ((bg C).2)<|uZ ab)<|p (fa tE ag)<|p (ld oA ag<|fO (f:=qk) (m:=2) (fun _=>rfl) (bg C).2 ab 1 aM)<|e<|cl uR (uT ae ((xs.map (·.2)).getD i []).length ci (((xs.map (·.2)).getD i []).map bA) G Z.du.2 (by simp) (fun h=>Tg.vD Z (by simp) h) (uL _) aj) ag ?_;rintro v24 a1 ⟨aa,A⟩;have aY:=A.size;refine p (bh DG ag ag aj<|aR.ok ((bg<|bc C A).2)<|uZ ab)<|p (fa tE ag)<|e<|tV (j:=i*2 +1) (bc C A) uW ag ag (fG aa) (by rw [Int.toNat_natCast]; omega) aj fun aV Y al=> ?_;rw [WV aj aj] at al;have aF:Wk w aV:=Wk.own (J.trans A) (bc C A) Y aj;have aK:=dz (eT aa (show w.heap.size≤G.heap.size from J.size)) Y fun q aL=>nT aa (bc C A) aM aL;have aG:=HZ (HZ O A fun _ hk=>hk.elim) Y<|ji (bc C A) aM;exact nl<|bn<|V<|rg ag<|p (ad ag ag<|cR aj)<|p mv<|nl<|tn<|⟨_,aj,i+1,sa.set i v24,aj,(by rw [yQ]; exact aO),(ir.set_drop am),(RO aG (by rw [fH]; omega) aj aK),al,aF,ag,ag⟩
 refine ext<|bj<|bj<|be<|ax<|ak fun V=>aw (.slice E xs.length lG)<|p (cV (.slice E xs.length lG) ag)<|nl<|V<|rt<|ba ag ?_;rw [eK aj,eK (by rw [fH]; omega)] at O;exact ⟨⟨sa,C,O.t,O⟩,J⟩
end Go.Hb
end
section
namespace Go.Hb.jX
open Go.Hb.mL Go.Hb.pc
def oK (c:dD):List Value:= [bV c.flag,.int .i64 (c.kind:Nat),.bool c.eQ,.int .i64 (c.first:Nat),.int .i64 (c.count:Nat)]
def sw (l:List dD):List Value:=l.flatMap oK
def kh (q:dd×Value):List Value:= [.int .i64 (q.1.kind:Nat),bV q.1.flag,.bool q.1.eQ,str q.1.strip,str q.1.add,str q.1.cond,q.2,.int .i64 (q.1.line:Nat)]
def nL (l:List (dd×Value)):List Value:=l.flatMap kh
def jl (w:World) (B e:Nat) (vs:List Value) (A:List (List Nat)):Prop :=vs.length=A.length∧∀ (i:Nat) v l,vs[i]? =some v→A[i]? =some l→Tg w B e l.length v (l.map bV)
theorem jl.nil (w:World) (B e:Nat):jl w B e [] []:=⟨rfl,fun i v l A=>by simp at A⟩
theorem jl.md {F:Nat→Prop} {w w':World} {B e:Nat} {vs:List Value} {A:List (List Nat)} (h:jl w B e vs A) (hm:Md F w w') (C:∀ k,F k→∀ cur z,w.heap[k]?≠some (.cells cur e z)):jl w' B e vs A:=⟨h.1,fun i v l h1 h2=>(h.2 i v l h1 h2).md hm C⟩
theorem jl.wk {w w':World} {B e:Nat} {vs:List Value} {A:List (List Nat)} (h:jl w B e vs A) (hm:Wk w w'):jl w' B e vs A:=h.md hm fun _ hk=>hk.elim
theorem jl.snoc {w:World} {B e:Nat} {vs:List Value} {C:List (List Nat)} {v:Value} {l:List Nat} (A:jl w B e vs C) (G:Tg w B e l.length v (l.map bV)):jl w B e (vs++ [v]) (C++ [l]):=by
 refine ⟨by rw [bP,bP,A.1]; rfl,fun i I J h1 h2=> ?_⟩;have E:=A.1;by_cases hi:i < vs.length
 · rw [nq hi] at h1;rw [nq aj] at h2;exact A.2 i I J h1 h2
 · rw [oh aj] at h1;rw [oh aj,← E] at h2;cases hj:i - vs.length with
   | zero=>rw [hj] at h1 h2; cases h1; cases h2; exact G
   | succ j=>rw [hj] at h1; simp at h1
theorem jl.get {w:World} {B e i:Nat} {vs:List Value} {A:List (List Nat)} (h:jl w B e vs A) (hi:i < A.length):∃ v,vs[i]? =some v∧Tg w B e (A.getD i []).length v ((A.getD i []).map bV):=by
 have h1:i < vs.length:=by rw [h.1]; exact hi
 refine ⟨vs[i],cz h1,h.2 i _ _ (cz h1) ?_⟩;rw [da,cz hi]; rfl
structure gT where
 rb:Nat
 fb:Nat
 eof:Nat
 vr:Value
 vs:List (Nat×Value)
 rows:List Rw
structure eM where
 v9:Value
 v10:Value
 v11:Value
 v12:Value
 sa:List Value
 rn:List Value
def pP (F:aX) (V:eM):List Value:= [.int .i64 (F.kind:Nat),str F.tA,str F.tr,bV (F.sp.getD 0 0),bV (F.sp.getD 1 0),bV (F.sp.getD 2 0),bV (F.sp.getD 3 0),bV (F.sp.getD 4 0),.int .i64 (F.least:Nat),V.v9,V.v10,V.v11,V.v12]
def LW (H:gT) (k:Nat) (vh:Value) (ln:Nat):List Value:= [.pointer (some ⟨H.fb,0,none⟩),H.vr,.int .i64 (k:Nat),.int .i64 (H.eof:Nat),vh,.int .i64 (ln:Nat)]
structure e7 (w:World) (B B0 fb:Nat) (F:aX) (V:eM):Prop where
 cells:w.heap[fb]? =some (.cells (pP F V).toArray 154 (0,0))
 o9:bB w B 351 2 V.v9 F.dF.length (lQ F.dF)
 fD:bB w B 85 1 V.v10 F.aliases.length V.sa
 al:jl w B0 3 V.sa F.aliases
 eS:bB w B 216 5 V.v11 F.bG.length (sw F.bG)
 dR:bB w B 214 8 V.v12 F.rules.length (nL<|F.rules.zip V.rn)
 nx:jl w B0 3 V.rn (F.rules.map (·.next))
 lo:B≤fb
 gG:F.sp.length=5
theorem e7.md {G:Nat→Prop} {w w':World} {B B0 fb:Nat} {F:aX} {V:eM} (h:e7 w B B0 fb F V) (hm:Md G w w') {L:List Nat} (A:TF w L G) (C:(L.contains 156 || L.contains 353 || L.contains 87 || L.contains 5 || L.contains 218 || L.contains 216)=false):e7 w' B B0 fb F V:=by
 simp only [oY] at C;obtain ⟨⟨⟨⟨⟨h1,h2⟩,h3⟩,h4⟩,h5⟩,h6⟩:=C;have E:∀ k,G k→∀ cur z,w.heap[k]?≠some (.cells cur 3 z):=fun k hk cur z I=>A.no (dS I) h4 hk;exact ⟨hm.jd A h.cells h1,c7 h.o9 hm A h2,c7 h.fD hm A h3,h.al.md hm E,c7 h.eS hm A h5,c7 h.dR hm A h6,h.nx.md hm E,h.lo,h.gG⟩
theorem e7.wk {w w':World} {B B0 fb:Nat} {F:aX} {V:eM} (h:e7 w B B0 fb F V) (hm:Wk w w'):e7 w' B B0 fb F V:=h.md (L:= []) hm (fun _ hk=>hk.elim) rfl
structure ph (w:World) (B B0 fb:Nat) (F:aX) (V:eM):Prop where
 cells:w.heap[fb]? =some (.cells (pP F V).toArray 154 (0,0))
 fD:bB w B 85 1 V.v10 F.aliases.length V.sa
 al:jl w B0 3 V.sa F.aliases
theorem e7.r {w:World} {B B0 fb:Nat} {F:aX} {V:eM} (h:e7 w B B0 fb F V):ph w B B0 fb F V:=⟨h.cells,h.fD,h.al⟩
theorem ph.md {G:Nat→Prop} {w w':World} {B B0 fb:Nat} {F:aX} {V:eM} (h:ph w B B0 fb F V) (hm:Md G w w') {L:List Nat} (A:TF w L G) (C:(L.contains 156 || L.contains 87 || L.contains 5)=false):ph w' B B0 fb F V:=by
 simp only [oY] at C;obtain ⟨⟨h1,h3⟩,h4⟩:=C;exact ⟨hm.jd A h.cells h1,c7 h.fD hm A h3,h.al.md hm fun k hk cur z E=>A.no (dS E) h4 hk⟩
theorem ph.wk {w w':World} {B B0 fb:Nat} {F:aX} {V:eM} (h:ph w B B0 fb F V) (hm:Wk w w'):ph w' B B0 fb F V:=h.md (L:= []) hm (fun _ hk=>hk.elim) rfl
theorem e7.put {w w':World} {B B0 fb:Nat} {F F':aX} {V:eM} (h:e7 w B B0 fb F V) (hm:Md (fun k=>k=fb) w w') (E:w'.heap[fb]? =some (.cells (pP F' V).toArray 154 (0,0))) (h1:F'.dF=F.dF) (h2:F'.aliases=F.aliases) (h3:F'.bG=F.bG) (h4:F'.rules=F.rules) (h5:F'.sp.length=5):e7 w' B B0 fb F' V:=by
 have A:TF w [156] (fun k=>k=fb):=TF.eq (dS h.cells) aM;have C:∀ k,k=fb→∀ cur z,w.heap[k]?≠some (.cells cur 3 z):=gk h.cells aM;exact ⟨E,h1 ▸ c7 h.o9 hm A aM,h2 ▸ c7 h.fD hm A aM,h2 ▸ h.al.md hm C,h3 ▸ c7 h.eS hm A aM,h4 ▸ c7 h.dR hm A aM,h4 ▸ h.nx.md hm C,h.lo,h5⟩
theorem e7.Cz {w C J:World} {B B0 fb:Nat} {F:aX} {V:eM} {v:Value} {x:Tx×Tx} (h:e7 w B B0 fb F V) (hm:Md (fun k=>V.v9.ownBlock=some k) w C) (Z:bB C B 351 2 v (F.dF++ [x]).length (lQ<|F.dF++ [x])) (A:Md (fun k=>k=fb) C J) (aa:J.heap[fb]? =some (.cells (pP {F with dF:=F.dF++ [x]} {V with v9:=v}).toArray 154 (0,0))):e7 J B B0 fb {F with dF:=F.dF++ [x]} {V with v9:=v} :=by
 have E:TF w [353] (fun k=>V.v9.ownBlock=some k):=TF.own h.o9 aM;have I:=hm.jd E h.cells aM;have G:TF C [156] (fun k=>k=fb):=TF.eq (dS I) aM;have O:∀ k,V.v9.ownBlock=some k→∀ cur z,w.heap[k]?≠some (.cells cur 3 z):=ji h.o9 aM;have Y:∀ k,k=fb→∀ cur z,C.heap[k]?≠some (.cells cur 3 z):=gk I aM;exact ⟨aa,dz Z A (fun k hk ab=>eh Z I aM<|ab ▸ hk),c7 (c7 h.fD hm E aM) A G aM,(h.al.md hm O).md A Y,c7 (c7 h.eS hm E aM) A G aM,c7 (c7 h.dR hm E aM) A G aM,(h.nx.md hm O).md A Y,h.lo,h.gG⟩
theorem e7.Cx {w C Y:World} {B B0 fb:Nat} {F:aX} {V:eM} {v:Value} {x:List Nat} {vx:Value} (h:e7 w B B0 fb F V) (ac:Tg w B0 3 x.length vx (x.map bV)) (hm:Md (fun k=>V.v10.ownBlock=some k) w C) (Z:bB C B 85 1 v (F.aliases++ [x]).length (V.sa++ [vx])) (A:Md (fun k=>k=fb) C Y) (aa:Y.heap[fb]? =some (.cells (pP {F with aliases:=F.aliases++ [x]} {V with v10:=v,sa:=V.sa++ [vx]}).toArray 154 (0,0))):e7 Y B B0 fb {F with aliases:=F.aliases++ [x]} {V with v10:=v,sa:=V.sa++ [vx]} :=by
 have E:TF w [87] (fun k=>V.v10.ownBlock=some k):=TF.own h.fD aM;have I:=hm.jd E h.cells aM;have G:TF C [156] (fun k=>k=fb):=TF.eq (dS I) aM;have J:∀ k,V.v10.ownBlock=some k→∀ cur z,w.heap[k]?≠some (.cells cur 3 z):=ji h.fD aM;have O:∀ k,k=fb→∀ cur z,C.heap[k]?≠some (.cells cur 3 z):=gk I aM;exact ⟨aa,c7 (c7 h.o9 hm E aM) A G aM,dz Z A (fun k hk ab=>eh Z I aM<|ab ▸ hk),((h.al.md hm J).md A O).snoc ((ac.md hm J).md A O),c7 (c7 h.eS hm E aM) A G aM,c7 (c7 h.dR hm E aM) A G aM,(h.nx.md hm J).md A O,h.lo,h.gG⟩
theorem e7.Cy {w C J:World} {B B0 fb:Nat} {F:aX} {V:eM} {v:Value} {x:dD} (h:e7 w B B0 fb F V) (hm:Md (fun k=>V.v11.ownBlock=some k) w C) (Z:bB C B 216 5 v (F.bG++ [x]).length (sw<|F.bG++ [x])) (A:Md (fun k=>k=fb) C J) (aa:J.heap[fb]? =some (.cells (pP {F with bG:=F.bG++ [x]} {V with v11:=v}).toArray 154 (0,0))):e7 J B B0 fb {F with bG:=F.bG++ [x]} {V with v11:=v} :=by
 have E:TF w [218] (fun k=>V.v11.ownBlock=some k):=TF.own h.eS aM;have I:=hm.jd E h.cells aM;have G:TF C [156] (fun k=>k=fb):=TF.eq (dS I) aM;have O:∀ k,V.v11.ownBlock=some k→∀ cur z,w.heap[k]?≠some (.cells cur 3 z):=ji h.eS aM;have Y:∀ k,k=fb→∀ cur z,C.heap[k]?≠some (.cells cur 3 z):=gk I aM;exact ⟨aa,c7 (c7 h.o9 hm E aM) A G aM,c7 (c7 h.fD hm E aM) A G aM,(h.al.md hm O).md A Y,dz Z A (fun k hk ab=>eh Z I aM<|ab ▸ hk),c7 (c7 h.dR hm E aM) A G aM,(h.nx.md hm O).md A Y,h.lo,h.gG⟩
theorem e7.ze {w C Y:World} {B B0 fb:Nat} {F:aX} {V:eM} {v:Value} {x:dd} {vx:Value} (h:e7 w B B0 fb F V) (ac:Tg w B0 3 x.next.length vx (x.next.map bV)) (hm:Md (fun k=>V.v12.ownBlock=some k) w C) (Z:bB C B 214 8 v (F.rules++ [x]).length (nL<|(F.rules++ [x]).zip<|V.rn++ [vx])) (A:Md (fun k=>k=fb) C Y) (aa:Y.heap[fb]? =some (.cells (pP {F with rules:=F.rules++ [x]} {V with v12:=v,rn:=V.rn++ [vx]}).toArray 154 (0,0))):e7 Y B B0 fb {F with rules:=F.rules++ [x]} {V with v12:=v,rn:=V.rn++ [vx]} :=by
 have E:TF w [216] (fun k=>V.v12.ownBlock=some k):=TF.own h.dR aM;have I:=hm.jd E h.cells aM;have G:TF C [156] (fun k=>k=fb):=TF.eq (dS I) aM;have J:∀ k,V.v12.ownBlock=some k→∀ cur z,w.heap[k]?≠some (.cells cur 3 z):=ji h.dR aM;have O:∀ k,k=fb→∀ cur z,C.heap[k]?≠some (.cells cur 3 z):=gk I aM;exact ⟨aa,c7 (c7 h.o9 hm E aM) A G aM,c7 (c7 h.fD hm E aM) A G aM,(h.al.md hm J).md A O,c7 (c7 h.eS hm E aM) A G aM,dz Z A (fun k hk ab=>eh Z I aM<|ab ▸ hk),(by rw [fZ]; exact ((h.nx.md hm J).md A O).snoc<|(ac.md hm J).md A O),h.lo,h.gG⟩
structure iZ (w:World) (B:Nat) (H:gT) (k ln:Nat) (seen:List Tx) (vh:Value):Prop where
 cells:w.heap[H.rb]? =some (.cells (LW H k vh ln).toArray 208 (0,0))
 hd:bB w B 9 1 vh seen.length (seen.map str)
 lo:B≤H.rb
section
variable {w w':World} {B k ln:Nat} {H:gT} {seen:List Tx} {vh:Value}
theorem iZ.md {G:Nat→Prop} (h:iZ w B H k ln seen vh) (hm:Md G w w') {L:List Nat} (C:TF w L G) (A:(L.contains 210 || L.contains 11)=false):iZ w' B H k ln seen vh:=by
 simp only [oY] at A;exact ⟨hm.jd C h.cells A.1,c7 h.hd hm C A.2,h.lo⟩
theorem iZ.wk (h:iZ w B H k ln seen vh) (hm:Wk w w'):iZ w' B H k ln seen vh:=h.md (L:= []) hm (fun _ hk=>hk.elim) rfl
theorem iZ.fb {B0:Nat} {A:aX} {V:eM} (h:iZ w B H k ln seen vh) (C:e7 w B B0 H.fb A V) (hm:Md (fun k=>k=H.fb) w w'):iZ w' B H k ln seen vh:=h.md hm (TF.eq (L:= [156]) (dS C.cells) aM) aM
theorem iZ.own {B' e s n:Nat} {v:Value} {xs:List Value} (h:iZ w B H k ln seen vh) (C:bB w B' e s v n xs) (hm:Md (fun k=>v.ownBlock=some k) w w') (A:([e+2].contains 210 || [e+2].contains 11)=false):iZ w' B H k ln seen vh:=h.md hm (TF.own (L:= [e+2]) C<|by simp) A
theorem iZ.ql {cs:Array Value} {z:Nat×Nat} (h:iZ w B H k ln seen vh) (A:w.heap[H.fb]? =some (.cells cs 154 z)) (hm:Md (fun k=>k=H.fb) w w'):iZ w' B H k ln seen vh:=h.md hm (TF.eq (L:= [156]) (dS A) aM) aM
theorem iZ.ea {k' ln':Nat} (h:iZ w B H k ln seen vh) (hm:Md (fun k=>k=H.rb) w w') (A:w'.heap[H.rb]? =some (.cells (LW H k' vh ln').toArray 208 (0,0))):iZ w' B H k' ln' seen vh:=⟨A,c7 h.hd hm (TF.eq (L:= [210]) (dS h.cells) aM) aM,h.lo⟩
theorem e7.rb {B0:Nat} {A:aX} {V:eM} (h:e7 w B B0 H.fb A V) (C:iZ w B H k ln seen vh) (hm:Md (fun k=>k=H.rb) w w'):e7 w' B B0 H.fb A V:=h.md hm (TF.eq (L:= [210]) (dS C.cells) aM) aM
end
structure pd (F:aX) (rows:List Rw) (seen:List Tx):Prop where
 len:F.dF.length+F.aliases.length+F.bG.length+F.rules.length+rows.length≤70000
 sl:seen.length+rows.length≤70000
 row:∀ q∈rows,q.2≠[]∧q.2.length≤70000∧∀ x∈q.2,x.length≤70000
 kd:F.kind=1∨F.kind=2∨F.kind=3
def GS (A:World) (H:gT):Prop := ∃ B0,Tg A B0 209 H.rows.length H.vr (lr H.vs)∧ja A B0 9 H.vs H.rows∧H.rows.length≤70000
def nv (A w:World) (H:gT) (F:aX) (k ln:Nat) (seen:List Tx):Prop := ∃ V vh,e7 w A.heap.size 0 H.fb F V∧iZ w A.heap.size H k ln seen vh∧pd F (H.rows.drop k) seen∧Wk A w∧k≤H.rows.length
def Rm (w':World) (H:gT) (X:Except (Nat×Nat) (aX×List Rw)) (v:Value):Prop := ∃ l e:Nat,X= .error (l,e)∧e≠0∧v= .int .i64 (e:Nat)∧Hb.a7 w'.heap H.rb 5=some (.int .i64 (l:Nat))
def gE (A:World) (H:gT) (seen:List Tx) (X:Except (Nat×Nat) (aX×List Rw)) (v:Value) (w':World):Prop :=((∃ F' k' ln',X= .ok (F',H.rows.drop k')∧v= .int .i64 (0:Nat)∧nv A w' H F' k' ln' seen)∨Rm w' H X v)∧Wk A w'
theorem pd.q8 {F:aX} {q:Rw} {rest:List Rw} {seen:List Tx} (h:pd F (q::rest) seen):pd F rest seen:=⟨by have :=h.len; simp only [db] at this; omega,by have :=h.sl; simp only [db] at this; omega,fun A h2=>h.row A (om _ h2),h.kd⟩
theorem iZ.dH {w:World} {B:Nat} {H:gT} {k ln:Nat} {seen:List Tx} {vh:Value} (h:iZ w B H k ln seen vh):Hb.a7 w.heap H.rb 5=some (.int .i64 (ln:Nat)):=(bo h.cells).trans rfl
theorem GS.get {E w:World} {H:gT} {k:Nat} (h:GS E H) (hm:Wk E w) (hk:k < H.rows.length):∃ n r ar cr a c,H.rows.drop k=(n,r)::H.rows.drop (k+1)∧H.vr= .slice a H.rows.length c∧aR w.heap a (lr H.vs)∧H.vs[k]? =some (n,.slice ar r.length cr)∧(∃ B0,Tg E B0 9 r.length (.slice ar r.length cr) (r.map str))∧H.vs.length=H.rows.length:=by
 obtain ⟨B0,h1,h2,_⟩:=h;obtain ⟨a,c,I⟩:=h1.slice;have J:=h2.1;obtain ⟨q,C⟩:∃ q,H.rows[k]? =some q:=⟨_,cz hk⟩
 obtain ⟨n,r⟩:=q;obtain ⟨p,hp⟩:∃ p,H.vs[k]? =some p:=⟨_,cz aj⟩
 obtain ⟨G,A⟩:=h2.2 k p (n,r) hp C;obtain ⟨O,V⟩:=p;simp only at G A;subst G;obtain ⟨ar,cr,rfl⟩:=A.slice;rw [I] at h1;refine ⟨O,r,ar,cr,a,c,?_,I,(h1.wk hm).du.2,hp,⟨B0,A⟩,J⟩;rw [QB hk];rw [cz hk] at C;rw [wS C]
end Go.Hb.jX
end
namespace Go.Hb
theorem aat {l:List UInt8} {j:Nat} {b:UInt8} (h:j < l.length):b∈l.take (j+1)↔b∈l.take j∨l.getD j 0=b:=by
 rw [fX l j 0 h,gq,gD,eq_comm (a:=b)]
theorem ya (s:List UInt8) (w:World) (hs:s.length≤1048576):
 bw aE 154 (bl [str s]) w (fun v w'=>v= .bool (hY s)∧Wk w w'):=by
 refine enter func154 ag ntmps154 ag<|ak fun Y=>az<|Y<|aH fun Z=>ak fun aa=>az<|aa<|aW<|lp (fun I V O=> ∃ (i:Nat),(i≤s.length)∧(∀ j,j < i→jy (s.getD j 0)=true)∧(Wk w O)∧(Sl V [(0,str s),(3,.int .i64 i)])∧(s.length - i=I)) _ ⟨0,aj,(fun j J=>by omega),(Md.refl _ _),ag,ag⟩ ?_;rintro I V O ⟨i,hi,hp,A,al,rfl⟩;refine bH al<|aH fun ab=>ak fun ac=>aw (.int .i64 i)<|aw (str s)<|p (c8 u9 ag ag)<|p (lt ag ag)<|nl<|ac<|cd ag (fun ah=> ?_) fun ah=> ?_;refine aT<|ab<|aH fun C=>aW<|ak fun G=>aw (str s)<|aw (.int .i64 i)<|p (fC u9 ag ag aj)<|p (lt ag ag)<|p mv<|gs (t:=14) ag (fun ai=> ?_) fun ai=> ?_;exact aQ ag<|aQ ag<|aQ ag<|aQ ag<|p (bI ag)<|nl<|G<|ct ag<|ak fun E=>az<|E<|rt<|br<|tr<|tr<|br<|tr<|ba ag<|⟨by show cy false =_; rw [uQ (i:=i) aj (DQ aj)],A⟩
 refine aV ag (a8 (str s) ag)<|aV ag (a8 (.int .i64 i) ag)<|aV ag (fC u9 ag ag aj)<|aV ag (bT ag ag)<|p (bD ag)<|nl<|G<|cd ag (fun ae=> ?_) fun ae=> ?_;exact ak fun E=>az<|E<|rt<|br<|tr<|tr<|br<|tr<|ba ag<|⟨by show cy false =_; rw [uQ (i:=i) aj (DQ aj)],A⟩
 have am:jy (s.getD i 0)=true :=Xz aj aj;exact aT<|bn<|C<|rg ag<|aw (.int .i64 i)<|p (ad ag ag<|cR aj)<|p aJ<|nl<|tn<|⟨_,aj,i+1,aj,(fun j J=>by rcases fT j i with h | h <;> first | exact hp j h | (rw [show j=i by omega]; exact am)),A,ag,ag⟩
 exact ext<|bj<|bj<|be<|Z<|ak fun C=>p aJ<|nl<|C<|rt<|ba ag<|⟨by show cy true =_; rw [xh (fun j J=>hp j aj)],A⟩
theorem A1 (s:List UInt8) (w:World) (hs:s.length≤1048576):
 bw aE 158 (bl [str s]) w (fun v w'=>v=NW (bK s)∧Wk w w'):=by
 refine enter func158 ag ntmps158 ag<|ak fun ao=>p aJ<|p aJ<|p aJ<|az<|ao<|ak fun aA=>e<|mQ jj fun ae bd bi aO aK=> ?_;have a7:bB bd w.heap.size 5 1 (.slice (some ⟨ae,0,none⟩) 0 0) (([]:List UInt8)).length (U8<|([]:List UInt8)):=aK _ aj;refine az<|aA<|ak fun aB=>az<|aB<|aH fun aC=>aW<|lp (fun ah am G=> ∃ (i:Nat) (acc:List UInt8) (ab:Value),(i≤s.length∧acc.length≤i)∧(bB G w.heap.size 5 1 (ab) (acc).length<|U8<|acc)∧(Wk w G)∧(j8 acc (s.drop i)=bK s)∧(Sl am [(0,str s),(6,ab),(7,.int .i64 i)])∧(s.length - i=ah)) _ ⟨0,[],.slice (some ⟨ae,0,none⟩) 0 0,(by simp),a7,aO.md,ag,ag,ag⟩ ?_;rintro ah am G ⟨i,acc,ab,hi,E,C,hd,a9,rfl⟩;refine bH a9 ?_;obtain ⟨O,V,rfl⟩:=cM E;refine aH fun aD=>ak fun aF=>aw (.int .i64 i)<|aw (str s)<|p (c8 u9 ag ag)<|p (lt ag ag)<|nl<|aF<|cd ag (fun aX=> ?_) fun aX=> ?_;refine aT<|aD<|aW<|aH fun Z=>ak fun aG=>aw (str s)<|aw (.int .i64 i)<|p (fC u9 ag ag aj)<|p (bT ag ag)<|nl<|aG<|cd ag (fun aY=> ?_) fun aY=> ?_;have aS:(s.getD i 0).toNat=47:=aj;refine aH fun J=> ?_;have A:(fun w'=>Wk G w') G.drew:=(Md.refl _ _).drew;exact cj (fun w'=>Wk G w') ag wide A<|bQ 0 ag (.slice O acc.length V) A<|bQ 2 ag (str s) A<|bQ 3 ag (.int .i64 i) A<|aU 4 ag (bJ ((i+1:Nat):Int) ag ag<|bp aj aj) A<|aU 5 ag (ni u9 ag ag aj) A<|bS 1 ag (fun w' aP=>oG oC ag ((bg<|bc E aP).2)<|ag) A<|aU 6 ag (aJ) A<|aU 7 ag (aJ) A<|aU 8 ag (aJ) A<|aU 9 ag (aJ) A<|hn au<|J<|rt<|tr<|br<|tr<|br<|tr<|f4 ag ag ag ag ag<|⟨by rw [← hd,drop_cons 0 (by omega :i < s.length),GN aS]; rfl,Md.trans C (Md.refl _ _).drew⟩
 refine aT<|Z ?_;refine ez (fun an ac=> ∃ (k:Nat),(k < s.length∧i≤k∧k≤i+1)∧(Wk w ac)∧(bB ac w.heap.size 5 1 (.slice O acc.length V) (acc).length<|U8<|acc)∧(j8 (acc++ [s.getD k 0]) (s.drop<|k+1)=bK s)∧(Sl an [(0,str s),(6,.slice O acc.length V),(7,.int .i64 k)])) ?_ ?_;refine ak fun J=>aw (str s)<|aw (.int .i64 i)<|p (fC u9 ag ag aj)<|p (bT ag ag)<|nl<|J<|cd ag (fun aZ=> ?_) fun aZ=> ?_;have Y:(s.getD i 0).toNat=92:=aj;refine ak fun aq=>aw (.int .i64 i)<|p (bJ ((i+1:Nat):Int) ag ag<|bp aj aj)<|az<|aq<|aH fun av=>ak fun ax=>p mv<|aw (str s)<|p (c8 u9 ag ag)<|p (ge ag ag)<|nl<|ax<|cd ag (fun a0=> ?_) fun a0=> ?_;exact ak fun I=>p aJ<|p aJ<|p aJ<|az<|I<|rt<|tr<|tr<|br<|tr<|br<|tr<|f4 ag ag ag ag ag<|⟨by rw [← hd,drop_cons 0 (by omega :i < s.length),iS aj,GK Y]; rfl,C⟩
 refine aT<|av<|ak fun I=>aw (str s)<|p mv<|p (fC u9 ag ag aj)<|p (dw ag ag)<|p mv<|gs (t:=37) ag (fun a3=> ?_) fun a3=> ?_;refine aV ag (a8 (str s) ag)<|aV ag mv<|aV ag (fC u9 ag ag aj)<|aV ag (dw ag ag)<|p (bI ag)<|p mv<|gs (t:=43) ag (fun a4=> ?_) fun a4=> ?_;refine aV ag (a8 (str s) ag)<|aV ag mv<|aV ag (fC u9 ag ag aj)<|aV ag (dw ag ag)<|p (bI ag)<|nl<|I<|cd ag (fun a1=> ?_) fun a1=> ?_;exact ak fun ay=>p aJ<|p aJ<|p aJ<|az<|ay<|rt<|tr<|br<|tr<|br<|tr<|f4 ag ag ag ag ag<|⟨by rw [← hd,drop_cons 0 (by omega :i < s.length),drop_cons 0 (by omega :i+1 < s.length),GL Y (by rw [me]; exact decide_eq_false aj)]; rfl,C⟩
 exact aT<|tn<|⟨i+1,aj,C,E,(by rw [← hd,drop_cons 0 (by omega :i < s.length),drop_cons 0 (by omega :i+1 < s.length),yu Y (by rw [me]; exact decide_eq_true aj)]),ag⟩
 exact aQ ag<|aQ ag<|aQ ag<|aQ ag<|p (bD ag)<|nl<|I<|cf ag<|aT<|tn<|⟨i+1,aj,C,E,(by rw [← hd,drop_cons 0 (by omega :i < s.length),drop_cons 0 (by omega :i+1 < s.length),yu Y (by rw [me]; exact decide_eq_true aj)]),ag⟩
 exact aQ ag<|aQ ag<|aQ ag<|aQ ag<|p (bD ag)<|p mv<|aQ ag<|aQ ag<|aQ ag<|aQ ag<|p (bD ag)<|nl<|I<|cf ag<|aT<|tn<|⟨i+1,aj,C,E,(by rw [← hd,drop_cons 0 (by omega :i < s.length),drop_cons 0 (by omega :i+1 < s.length),yu Y (by rw [me]; exact decide_eq_true aj)]),ag⟩
 exact aT<|tn<|⟨i,aj,C,E,(by rw [← hd,drop_cons 0 (by omega :i < s.length),GM aj aj]),ag⟩
 rintro an ac ⟨k,hk,aM,al,a2,ba⟩;refine bH ba<|ak fun J=>aw (.slice O acc.length V)<|aw (str s)<|aw (.int .i64 k)<|p (fC u9 ag ag aj)<|e<|fU jj ag ag fun bf bb bh aa aI=> ?_;have ai:Wk w bb:=Md.trans aM aa.md;refine e<|ap jj (bc al aa.md) ag (by have :=ai.size; omega) ag (aR.dZ aI) (ag) (ag) aj aj fun v54 bo a5 aN bm bk=> ?_;have aL:=Wk.own ai (bc al aa.md) aN<|cU _;have a6:=sK a5;exact az<|J<|rg ag<|aw (.int .i64 k)<|p (bJ ((k+1:Nat):Int) ag ag<|bp aj aj)<|p aJ<|nl<|bn<|tn<|⟨_,aj,k+1,acc++ [s.getD k 0],v54,(by rw [bP,fE]; omega),a6,aL,a2,ag,ag⟩
 refine ext<|bj<|bj<|be<|aC<|ak fun Z=>aw (.slice O acc.length V)<|p (oG oC ag ((bg E).2)<|ag)<|p aJ<|p aJ<|p aJ<|az<|Z<|rt<|f4 ag ag ag ag ag ?_;exact ⟨by rw [← hd,iS aj,BI]; rfl,C⟩
theorem ab1 (s:List UInt8) (w:World) (hs:s.length≤1048576):
 bw aE 155 (bl [str s]) w (fun v w'=>v= .tuple #[str (letE s).1,.int .i64 (letE s).2]∧Wk w w'):=by
 refine enter func155 ag ntmps155 ag<|ak fun aP=>p aJ<|az<|aP<|ak fun aZ=>aw (str s)<|e<|cl xk (ya s _ hs) ag ?_;rintro v10 bx ⟨rfl,al⟩;refine az<|aZ<|aH fun a0=>ak fun aK=>aw (str s)<|p (c8 u9 ag ag)<|p (bT ag ag)<|p mv<|gs (t:=14) ag (fun aA=> ?_) fun aA=> ?_;exact aQ ag<|aQ ag<|p (bI ag)<|nl<|aK<|ct ag<|ak fun aa=>p aJ<|az<|aa<|rt<|tr<|f2 ag ag ag<|⟨by show ij #[str [],.int .i64 21]=_; unfold letE; rw [if_pos (.inl<|yP.1 aj)]; rfl,al⟩
 refine aV ag mv<|aV ag (no ag)<|p (bD ag)<|nl<|aK<|cb ag (fun am=> ?_) fun am=> ?_;exact ak fun aa=>p aJ<|az<|aa<|rt<|tr<|f2 ag ag ag<|⟨by show ij #[str [],.int .i64 21]=_; unfold letE; rw [if_pos (.inr<|by simpa using am)]; rfl,al⟩
 refine aT<|a0<|ak fun aa=>e<|mQ jj fun aL aM bu ba a6=> ?_;have bp:bB aM w.heap.size 5 1 (.slice (some ⟨aL,0,none⟩) 0 0) (([]:List UInt8)).length (U8<|([]:List UInt8)):=a6 _<|by have :=al.size; omega
 have a9:Wk w aM:=Md.trans al ba.md;refine az<|aa<|aH fun a1=>ak fun a2=>p aJ<|nl<|a2<|aW<|lp (fun ab aN ao=> ∃ (i:Nat) (aD:Value),(i≤s.length)∧(bB ao w.heap.size 5 1 (aD) (lets<|s.take i).length<|U8<|lets<|s.take i)∧(Wk w ao)∧(Sl aN [(0,str s),(5,aD),(6,.int .i64 i)])∧(s.length - i=ab)) _ ⟨0,.slice (some ⟨aL,0,none⟩) 0 0,aj,bp,a9,ag,ag⟩ ?_;rintro ab aN ao ⟨i,aD,hi,E,ac,bq,rfl⟩;refine bH bq ?_;obtain ⟨G,I,rfl⟩:=cM E;have bk:=ER<|s.take i;rw [dM] at bk;refine aH fun a3=>ak fun a4=>aw (.int .i64 i)<|aw (str s)<|p (c8 u9 ag ag)<|p (lt ag ag)<|nl<|a4<|cd ag (fun bf=> ?_) fun bf=> ?_;refine aT<|a3<|aH fun Y=>aW<|ak fun aS=>p aJ<|nl<|aS<|aH fun aG=>ak fun aX=>az<|aX<|aW ?_;refine lp (fun ab aO ai=> ∃ (j:Nat) (ob:Bool),(j≤(lets<|s.take i).length)∧(ob=decide (s.getD i 0∈(lets<|s.take i).take j))∧(Wk ao ai)∧(Sl aO [(0,str s),(5,.slice G (lets<|s.take i).length I),(6,.int .i64 i),(7,.bool ob),(8,.int .i64 j)])∧((lets<|s.take i).length - j=ab)) _ ⟨0,false,aj,ag,(Md.refl _ _),ag,ag⟩ ?_;rintro ab aO ai ⟨j,ob,bv,an,A,br,rfl⟩;refine bH br<|aH fun aY=>ak fun aI=>aw (.int .i64 j)<|aw (.slice G (lets<|s.take i).length I)<|p (bN oa ag ag)<|p (lt ag ag)<|p mv<|gs (t:=29) ag (fun bm=> ?_) fun bm=> ?_;refine aV ag (a8 (.bool ob) ag)<|aV ag (no ag)<|p (bI ag)<|nl<|aI<|cb ag (fun ay=> ?_) fun ay=> ?_;have bo:¬s.getD i 0∈(lets<|s.take i).take j:=of_decide_eq_false<|by rw [← an]; simpa using ay
 refine aT<|aY<|aH fun Z=>aW ?_;have C:(fun w'=>Wk ai w') ai.drew:=(Md.refl _ _).drew;exact cj (fun w'=>Wk ai w') ag wide C<|bQ 0 ag (.slice G (lets<|s.take i).length I) C<|bQ 1 ag (.int .i64 j) C<|aU 2 ag (bh mU ag ag aj<|aR.ok ((bg<|bc E A).2)<|rD aj) C<|bS 3 ag (fun w' bb=>ld qX ag<|Wk.a7 bb<|rC (i:=j) (bg<|bc E A).2 aj) C<|bQ 4 ag (str s) C<|bQ 5 ag (.int .i64 i) C<|aU 6 ag (fC u9 ag ag aj) C<|aU 7 ag (bT ag ag) C<|aU 8 ag (aJ) C<|hn au<|bn<|Z<|rg ag<|aw (.int .i64 j)<|p (ad ag ag<|cR aj)<|p aJ<|nl<|tn<|⟨_,aj,j+1,decide (((lets<|s.take i).getD j 0).toNat=((s.getD i 0).toNat:Int)),aj,(decide_eq_decide.2<|by rw [aat aj]; constructor <;> intro h <;> first | exact .inr (lA.1 aj) | (rcases h with h | h <;> first | exact absurd h bo | (rw [h]))),(Md.trans A (Md.refl _ _).drew),ag,ag⟩
 have ah:ob=decide (s.getD i 0∈lets (s.take i)):=by
  have h1:ob=true :=by simpa using ay
  rw [h1] at an;rw [h1]; exact (decide_eq_true<|QR<|of_decide_eq_true an.symm).symm
 refine ext<|bj<|bj<|be<|aG<|ak fun Z=>aw (.bool ob)<|p (no ag)<|nl<|Z<|cb ag (fun O=> ?_) fun O=> ?_;have V:¬s.getD i 0∈lets (s.take i):=of_decide_eq_false<|by rw [← ah]; simpa using O
 refine rg ag<|aw (.slice G (lets<|s.take i).length I)<|aw (str s)<|aw (.int .i64 i)<|p (fC u9 ag ag aj)<|e<|fU jj ag ag fun a5 aF bd J aq=> ?_;have ae:Wk w aF:=Md.trans (Md.trans ac A) J.md;refine e<|ap jj (bc (bc E A) J.md) ag (by have :=ae.size; omega) ag (aR.dZ aq) (ag) (ag) aj aj fun v50 bt aB ax bs bi=> ?_;have av:=Wk.own ae (bc (bc E A) J.md) ax<|cU _;have aC:=sK aB;exact p aJ<|nl<|bn<|Y<|rg ag<|aw (.int .i64 i)<|p (ad ag ag<|cR aj)<|p aJ<|nl<|tn<|⟨_,aj,i+1,v50,aj,(by rw [sF aj,if_neg V]; exact aC),av,ag,ag⟩
 have V:s.getD i 0∈lets (s.take i):=of_decide_eq_true<|by rw [← ah]; simpa using O
 exact aT<|bn<|Y<|rg ag<|aw (.int .i64 i)<|p (ad ag ag<|cR aj)<|p aJ<|nl<|tn<|⟨_,aj,i+1,.slice G (lets<|s.take i).length I,aj,(by rw [sF aj,if_pos V]; exact bc E A),(Md.trans ac A),ag,ag⟩
 have ah:ob=decide (s.getD i 0∈lets (s.take i)):=by rw [an,eK aj]
 refine aQ ag<|aQ ag<|p (bD ag)<|nl<|aI<|cf ag<|ext<|bj<|bj<|be<|aG<|ak fun Z=>aw (.bool ob)<|p (no ag)<|nl<|Z<|cb ag (fun O=> ?_) fun O=> ?_;have V:¬s.getD i 0∈lets (s.take i):=of_decide_eq_false<|by rw [← ah]; simpa using O
 refine rg ag<|aw (.slice G (lets<|s.take i).length I)<|aw (str s)<|aw (.int .i64 i)<|p (fC u9 ag ag aj)<|e<|fU jj ag ag fun a5 aF bd J aq=> ?_;have ae:Wk w aF:=Md.trans (Md.trans ac A) J.md;refine e<|ap jj (bc (bc E A) J.md) ag (by have :=ae.size; omega) ag (aR.dZ aq) (ag) (ag) aj aj fun v50 bt aB ax bs bi=> ?_;have av:=Wk.own ae (bc (bc E A) J.md) ax<|cU _;have aC:=sK aB;exact p aJ<|nl<|bn<|Y<|rg ag<|aw (.int .i64 i)<|p (ad ag ag<|cR aj)<|p aJ<|nl<|tn<|⟨_,aj,i+1,v50,aj,(by rw [sF aj,if_neg V]; exact aC),av,ag,ag⟩
 have V:s.getD i 0∈lets (s.take i):=of_decide_eq_true<|by rw [← ah]; simpa using O
 exact aT<|bn<|Y<|rg ag<|aw (.int .i64 i)<|p (ad ag ag<|cR aj)<|p aJ<|nl<|tn<|⟨_,aj,i+1,.slice G (lets<|s.take i).length I,aj,(by rw [sF aj,if_pos V]; exact bc E A),(Md.trans ac A),ag,ag⟩
 exact ext<|bj<|bj<|be<|a1<|ak fun Y=>aw (.slice G (lets<|s.take i).length I)<|p (oG oC ag ((bg E).2)<|ag)<|p aJ<|az<|Y<|rt<|f2 ag ag ag<|⟨by show ij #[str (lets<|s.take i),.int .i64 0]=_; unfold letE; rw [if_neg (fun h=>h.elim (fun h=>by rw [h] at aA; exact aA ag) fun h=>by rw [h] at am; cases am),show s.take i=s from eK aj]; rfl,ac⟩
end Go.Hb
section
namespace Go.Hb.yX
open Go.Hb.gr
theorem adL {L:List Nat} (h:¬L.length≤64) (h2:L.length≤65) {M:List Nat} (h1:L=M.take 65) (x:Nat):L=(M++ [x]).take 65:=by
 have h3:=congrArg jV h1;rw [dM] at h3;rw [List.take_append_of_le_length aj,← h1]
theorem adM {L:List Nat} (h:L.length≤64) {M:List Nat} (h1:L=M.take 65) (x:Nat):L++ [x]=(M++ [x]).take 65:=by
 have h3:=congrArg jV h1;rw [dM] at h3;rw [eK (by rw [bP,fE]; omega)];rw [eK aj] at h1; rw [h1]
theorem ad7 {l out:List Nat} {nx:Int} (h:rY l out nx) (E:nx < 65536):out.length≤65536:=by
 have h1:∀ x∈out,x < 65536:=fun x A=>by have :=((h.2 x).1 A).2; omega
 have h2:out.Nodup:=h.1.imp fun C=>by omega
 have h3:=List.Nodup.length_le_of_subset h2 fun x A=>List.mem_range.2<|h1 x A;simpa using h3
theorem FU (b:UInt8) (w:World):
 bw aE 272 (bl [.int .u8 b.toNat]) w (fun v w'=>v= .bool (jR b)∧Wk w w'):=by
 refine enter func272 ag ntmps272 ag<|ak fun C=>az<|C<|ak fun A=>aw (.int .u8 b.toNat)<|p (ge ag ag)<|p mv<|gs (t:=5) ag (fun I=> ?_) fun I=> ?_;refine aV ag (a8 (.int .u8 b.toNat) ag)<|aV ag (le ag ag)<|p (bI ag)<|p mv<|gs (t:=9) ag (fun J=> ?_) fun J=> ?_;refine aV ag (a8 (.int .u8 b.toNat) ag)<|aV ag (dw ag ag)<|p (bI ag)<|p mv<|gs (t:=13) ag (fun E=> ?_) fun E=> ?_;refine aV ag (a8 (.int .u8 b.toNat) ag)<|aV ag (dw ag ag)<|p (bI ag)<|p mv<|gs (t:=17) ag (fun G=> ?_) fun G=> ?_;exact aV ag (a8 (.int .u8 b.toNat) ag)<|aV ag (dw ag ag)<|p (bI ag)<|az<|A<|rt<|ba ag<|⟨by show cy (decide _)=_; rw [qz]; exact bv (by constructor <;> intro h <;> first | exact ⟨aj,aj,aj,aj,h⟩ | exact h.2.2.2.2),Md.refl _ _⟩
 exact aQ ag<|aQ ag<|p (bD ag)<|az<|A<|rt<|ba ag<|⟨by show cy false =_; rw [qz,decide_eq_false aj],Md.refl _ _⟩
 exact aQ ag<|aQ ag<|p (bD ag)<|p mv<|aQ ag<|aQ ag<|p (bD ag)<|p aJ<|nl<|A<|rt<|ba ag<|⟨by show cy false =_; rw [qz,decide_eq_false aj],Md.refl _ _⟩
 exact aQ ag<|aQ ag<|p (bD ag)<|p mv<|aQ ag<|aQ ag<|p (bD ag)<|p mv<|aQ ag<|aQ ag<|p (bD ag)<|az<|A<|rt<|ba ag<|⟨by show cy false =_; rw [qz,decide_eq_false aj],Md.refl _ _⟩
 exact aQ ag<|aQ ag<|p (bD ag)<|p mv<|aQ ag<|aQ ag<|p (bD ag)<|p mv<|aQ ag<|aQ ag<|p (bD ag)<|p mv<|aQ ag<|aQ ag<|p (bD ag)<|p aJ<|nl<|A<|rt<|ba ag<|⟨by show cy false =_; rw [qz,decide_eq_false aj],Md.refl _ _⟩
theorem PB (kind:Nat) (s:List UInt8) (w:World) (hk:kind=1∨kind=2∨kind=3) (hs:s.length≤1048576):
 bw aE 252 (bl [ay kind,str s]) w (fun v w'=>v=bV (e9 kind s)∧Wk w w'):=by
 refine enter func252 ag ntmps252 ag<|ak fun am=>az<|am<|aH fun ao=>ak fun ap=>aw (ay kind)<|nl<|ap<|aW<|ak fun aq=>p (bT ag ag)<|p aJ<|nl<|aq<|cd ag (fun av=> ?_) fun av=> ?_;refine aH fun Z=>ak fun E=>aw (str s)<|p (c8 u9 ag ag)<|p (dw ag ag)<|p mv<|gs (t:=15) ag (fun aB=> ?_) fun aB=> ?_;exact aQ ag<|aQ ag<|aQ ag<|aQ ag<|p (bI ag)<|nl<|E<|ct ag<|ak fun C=>az<|C<|rt<|tr<|br<|tr<|ba ag<|⟨by rw [u7 aj (fun h=>by omega) (fun h=>by omega)]; rfl,Md.refl _ _⟩
 refine aV ag (a8 (str s) ag)<|aV ag (jQ 0 u9 ag ag aj)<|eg ag ag ag<|cl C4 (FU (s.getD 0 0) _) ag ?_;rintro aD aG ⟨rfl,ah⟩;refine aV ag (no ag)<|p (bD ag)<|nl<|E<|cb ag (fun O=> ?_) fun O=> ?_;exact ak fun C=>az<|C<|rt<|tr<|br<|tr<|ba ag<|⟨by rw [u7 aj (fun h=>by rw [h.2.2] at O; cases O) (fun h=>by omega)]; rfl,ah⟩
 exact aT<|Z<|ak fun C=>aw (str s)<|p (jQ 0 u9 ag ag aj)<|p (mC u3 rE ag<|cR<|by have :=jJ (s.getD 0 0); omega)<|p aJ<|nl<|C<|rt<|br<|tr<|ba ag<|⟨by rw [Lb ⟨aj,aj,by simpa using O⟩]; rfl,ah⟩
 refine ak fun Z=>p (bT ag ag)<|az<|Z<|cd ag (fun ax=> ?_) fun ax=> ?_;refine aH fun E=>ak fun C=>aw (str s)<|p (c8 u9 ag ag)<|p (dw ag ag)<|nl<|C<|cd ag (fun aA=> ?_) fun aA=> ?_;exact ak fun I=>az<|I<|rt<|tr<|br<|tr<|ba ag<|⟨by rw [u7 aj (fun h=>by omega) (fun h=>by omega)]; rfl,Md.refl _ _⟩
 refine aT<|E<|ak fun I=>aw (str s)<|p (jQ 0 u9 ag ag aj)<|e<|cl C4 (FU (s.getD 0 0) _) ag ?_;rintro v31 aI ⟨rfl,aa⟩;refine az<|I<|ak fun J=>aw (str s)<|p (jQ 1 u9 ag ag aj)<|e<|cl C4 (FU (s.getD 1 0) _) ag ?_;rintro aF ac ⟨rfl,ab⟩;refine az<|J<|aH fun an=>ak fun ae=>p mv<|p (no ag)<|p mv<|gb (t:=37) ag (fun Y=> ?_) fun Y=> ?_;exact aQ ag<|aQ ag<|p (bI ag)<|nl<|ae<|ct ag<|ak fun G=>az<|G<|rt<|tr<|br<|tr<|ba ag<|⟨by rw [u7 aj (fun h=>by omega) (fun h=>by rw [h.2.2.1] at Y; cases Y)]; rfl,Md.trans aa ab⟩
 refine aV ag mv<|aV ag (no ag)<|p (bD ag)<|nl<|ae<|cb ag (fun V=> ?_) fun V=> ?_;exact ak fun G=>az<|G<|rt<|tr<|br<|tr<|ba ag<|⟨by rw [u7 aj (fun h=>by omega) (fun h=>by rw [h.2.2.2] at V; cases V)]; rfl,Md.trans aa ab⟩
 refine aT<|an<|aH fun G=> ?_;have g0:=jJ<|s.getD 0 0;have g1:=jJ<|s.getD 1 0;have A:(fun w'=>Wk ac w') ac.drew:=(Md.refl _ _).drew;exact cj (fun w'=>Wk ac w') ag wide A<|bQ 0 ag (str s) A<|aU 1 ag (jQ 0 u9 ag ag aj) A<|aU 2 ag (mC u3 rE ag<|cR<|by have :=jJ (s.getD 0 0); omega) A<|aU 3 ag (qs ((256 *(s.getD 0 0).toNat:Nat):Int) ag ag<|bp aj aj) A<|bQ 4 ag (str s) A<|aU 5 ag (jQ 1 u9 ag ag aj) A<|aU 6 ag (mC u3 rE ag<|cR<|by have :=jJ (s.getD 1 0); omega) A<|aU 7 ag (bJ ((256 *(s.getD 0 0).toNat+(s.getD 1 0).toNat:Nat):Int) ag ag<|bp aj aj) A<|aU 8 ag (aJ) A<|hn au<|G<|rt<|br<|tr<|ba ag<|⟨by rw [Lc ⟨aj,aj,by simpa using Y,by simpa using V⟩]; rfl,(Md.trans aa ab).drew⟩
 refine aT<|bn<|ao<|ak fun E=>aw (str s)<|e<|cl tz (tQ s 65535 _ hs aM) ag ?_;rintro v51 aK ⟨rfl,ai⟩;have aC:=Nt s;refine p mv<|p (xt ag ag)<|p (xt ag ag)<|p aJ<|az<|E<|aH fun C=>ak fun I=>p mv<|p (dw ag ag)<|nl<|I<|cd ag (fun al=> ?_) fun al=> ?_;exact ak fun J=>az<|J<|rt<|tr<|ba ag<|⟨by rw [DS aj]; unfold bV; exact iv (by have h1:=al; unfold eE at*; split <;> first | rfl | (rename_i h2; rw [if_neg h2] at h1; exact absurd ag h1)),ai⟩
 exact aT<|C<|ak fun J=>p mv<|az<|J<|rt<|ba ag<|⟨by rw [DS aj]; rfl,ai⟩
theorem ab4 (kind:Nat) (s:List UInt8) (w:World) (hk:kind=1∨kind=2∨kind=3) (hs:s.length≤1048576):
 bw aE 211 (bl [ay kind,str s]) w (fun v w'=>v= .tuple #[bV (iN kind s).1,ay ((iN kind s).2)]∧Wk w w'):=by
 refine enter func211 ag ntmps211 ag<|ak fun E=>p aJ<|az<|E<|aH fun G=>aH fun I=>rg ag<|aw (ay kind)<|p (lt ag ag)<|p mv<|gs (t:=9) ag (fun h=>absurd h aj) fun aa=>aV ag (a8 (ay kind) ag)<|aV ag (gt ag ag)<|p (bD ag)<|nl<|I<|cd ag (fun h=>absurd h aj) fun Z=>aT<|G<|ak fun J=>aw (ay kind)<|aw (str s)<|e<|cl IW (PB kind s _ hk hs) ag ?_;rintro ab ac ⟨rfl,C⟩;refine az<|J<|aH fun O=>ak fun V=>p mv<|p (bT ag ag)<|nl<|V<|cd ag (fun Y=> ?_) fun Y=> ?_;exact ak fun A=>p aJ<|az<|A<|rt<|tr<|f2 ag ag ag<|⟨by unfold iN; rw [if_pos (show e9 kind s=0 by omega)]; rfl,C⟩
 exact aT<|O<|ak fun A=>p mv<|p aJ<|p aJ<|nl<|A<|rt<|f2 ag ag ag<|⟨by unfold iN; rw [if_neg (show ¬e9 kind s=0 by omega)]; rfl,C⟩
theorem abm (kind:Nat) (s:List UInt8) (w:World) (hk:kind=1∨kind=2∨kind=3) (hs:s.length≤1048576):
 bw aE 255 (bl [ay kind,str s]) w (fun v w'=>bB w' w.heap.size 9 1 (v) (ec kind s).length ((ec kind s).map str)∧Wk w w'):=by
 refine enter func255 ag ntmps255 ag<|ak fun aL=>az<|aL<|ak fun aM=>p aJ<|nl<|aM<|aH fun aN=>ak fun aO=>aw (ay kind)<|p (bT ag ag)<|nl<|aO<|cd ag (fun a0=> ?_) fun a0=> ?_;refine ak fun ae=>az<|ae<|aH fun ah=>ak fun ai=>az<|ai<|aW<|lp (fun Z aG I=> ∃ (i E:Nat) (A:List (List UInt8)) (C:Value),((i≤s.length∧E≤i∧A.length≤i∧A++gA 44 ((s.take i).drop E) (s.drop i)=gA 44 [] s)∨(i=s.length+1∧A=gA 44 [] s))∧(bB I w.heap.size 9 1 (C) (A).length<|(A).map str)∧(Wk w I)∧(Sl aG [(0,ay kind),(1,str s),(5,C),(6,ay E),(7,ay i)])∧(s.length+1 - i=Z)) _ ⟨0,0,[],.slice none 0 0,(.inl ⟨aj,aj,by simp,ag⟩),(dC _ _ _ _),(Md.refl _ _),ag,ag⟩ ?_;rintro Z aG I ⟨i,E,A,C,hi,G,O,bd,rfl⟩;refine bH bd<|aH fun al=>ak fun Y=>aw (ay i)<|aw (str s)<|p (c8 u9 ag ag)<|p (le ag ag)<|nl<|Y<|cd ag (fun a1=> ?_) fun a1=> ?_;refine aT<|al<|aH fun J=>aW<|aH fun ab=> ?_;obtain ⟨bs,bu,bt,hd⟩:=hi.resolve_right fun h=>by omega
 refine rg ag<|aw (ay i)<|aw (str s)<|p (c8 u9 ag ag)<|p (bT ag ag)<|p mv<|gs (t:=22) ag (fun a5=> ?_) fun a5=> ?_;have cj:A++ [(s.take i).drop E]=gA 44 [] s:=by rw [← hd,iS (show s.length≤i by omega),gA]
 refine aQ ag<|aQ ag<|aQ ag<|aQ ag<|p (bI ag)<|nl<|ab<|ct ag<|ak fun ac=>aw (C)<|aw (str s)<|aw (ay E)<|aw (ay i)<|p (ng u9 ag ag ag aj)<|e<|fU eY ag ag fun aP aC aZ V am=> ?_;have aa:Wk w aC:=Md.trans O V.md;refine e<|ap eY (bc G V.md) ag (by have :=aa.size; omega) ag (aR.dZ am) (ag) (ag) aj aj fun aB bi ax ao bh a4=> ?_;have an:=Wk.own aa (bc G V.md) ao<|cU _;have aA:=nU ax;exact az<|ac<|rg ag<|aw (ay i)<|p (bJ ((i+1:Nat):Int) ag ag<|bp aj aj)<|p aJ<|nl<|bn<|J<|rg ag<|aw (ay i)<|p (bJ ((i+1:Nat):Int) ag ag<|bp aj aj)<|p aJ<|nl<|tn<|⟨_,aj,i+1,i+1,A++ [(s.take i).drop E],aB,(.inr ⟨aj,cj⟩),aA,an,ag,ag⟩
 refine aV ag (a8 (str s) ag)<|aV ag (a8 (ay i) ag)<|aV ag (fC u9 ag ag aj)<|aV ag (bT ag ag)<|p (bD ag)<|nl<|ab<|cd ag (fun au=> ?_) fun au=> ?_;have cj:A++ [(s.take i).drop E]++gA 44 [] (s.drop<|i+1)=gA 44 [] s:=by rw [← hd,drop_cons 0 (show i < s.length by omega),gA,if_pos (lA.1 (by have bo:(44:UInt8).toNat=44:=rfl; omega)),e6]; rfl
 refine ak fun ac=>aw (C)<|aw (str s)<|aw (ay E)<|aw (ay i)<|p (ng u9 ag ag ag aj)<|e<|fU eY ag ag fun aP aC aZ V am=> ?_;have aa:Wk w aC:=Md.trans O V.md;refine e<|ap eY (bc G V.md) ag (by have :=aa.size; omega) ag (aR.dZ am) (ag) (ag) aj aj fun aB bi ax ao bh a4=> ?_;have an:=Wk.own aa (bc G V.md) ao<|cU _;have aA:=nU ax;exact az<|ac<|rg ag<|aw (ay i)<|p (bJ ((i+1:Nat):Int) ag ag<|bp aj aj)<|p aJ<|nl<|bn<|J<|rg ag<|aw (ay i)<|p (bJ ((i+1:Nat):Int) ag ag<|bp aj aj)<|p aJ<|nl<|tn<|⟨_,aj,i+1,i+1,A++ [(s.take i).drop E],aB,(.inl ⟨aj,aj,(by rw [bP,fE]; omega),by rw [show (s.take<|i+1).drop (i+1)= [] from iS (by rw [dM]; omega)]; exact cj⟩),aA,an,ag,ag⟩
 have cj:A++gA 44 ((s.take<|i+1).drop E) (s.drop<|i+1)=gA 44 [] s:=by rw [← hd,drop_cons 0 (show i < s.length by omega),gA,if_neg (fun h=>by rw [h] at au; exact au rfl),← yi 0 aj aj]
 exact aT<|bn<|J<|rg ag<|aw (ay i)<|p (bJ ((i+1:Nat):Int) ag ag<|bp aj aj)<|p aJ<|nl<|tn<|⟨_,aj,i+1,E,A,C,(.inl ⟨aj,aj,aj,cj⟩),G,O,ag,ag⟩
 refine ext<|bj<|bj<|be<|ah<|ak fun J=>aw (C)<|p (cV (C) ag)<|nl<|J<|rt<|tr<|ba ag ?_;have av:A=ec kind s:=by unfold ec; rw [if_pos aj]; rcases hi with h | h <;> first | omega | exact h.2
 exact ⟨by rw [← av]; exact G,O⟩;refine aT<|aN<|aH fun ae=>ak fun ah=>az<|ah<|aW<|lp (fun Z aI I=> ∃ (i:Nat) (A:List (List UInt8)) (C:Value),(i≤s.length+kind∧A.length≤i)∧(A++chunks kind (s.drop i)=chunks kind s)∧(bB I w.heap.size 9 1 (C) (A).length<|(A).map str)∧(Wk w I)∧(Sl aI [(0,ay kind),(1,str s),(5,C),(8,ay i)])∧(s.length - i=Z)) _ ⟨0,[],.slice none 0 0,(by simp),ag,(dC _ _ _ _),(Md.refl _ _),ag,ag⟩ ?_;rintro Z aI I ⟨i,A,C,hi,hd,G,O,bf,rfl⟩;refine bH bf<|aH fun ai=>ak fun al=>aw (ay i)<|aw (str s)<|p (c8 u9 ag ag)<|p (lt ag ag)<|nl<|al<|cd ag (fun a2=> ?_) fun a2=> ?_;have a7:s.drop i≠[]:=fun h=>by have :=congrArg jV h; rw [fM,gC] at this; omega
 refine aT<|ai<|aH fun Y=>aW<|ak fun J=>aw (ay i)<|aw (ay kind)<|p (bJ ((i+kind:Nat):Int) ag ag<|bp aj aj)<|az<|J ?_;refine ez (fun aK aF=> ∃ (j:Nat),(i≤j∧j≤s.length∧(s.take j).drop i=(s.drop i).take kind)∧(aF=I)∧(Sl aK [(0,ay kind),(1,str s),(5,C),(8,ay i),(9,ay j)])) ?_ ?_;refine ak fun ab=>p mv<|aw (str s)<|p (c8 u9 ag ag)<|p (gt ag ag)<|nl<|ab<|cd ag (fun a3=> ?_) fun a3=> ?_;exact rg ag<|aw (str s)<|p (c8 u9 ag ag)<|p aJ<|nl<|tn<|⟨s.length,(by refine ⟨aj,aj,?_⟩; rw [List.take_length,eK (by rw [fM]; omega)]),ag,ag⟩
 exact aT<|tn<|⟨i+kind,(by refine ⟨aj,aj,?_⟩; rw [uq,Nat.add_sub_cancel_left]),ag,ag⟩
 rintro aK aF ⟨j,a6,aX,bg⟩;refine bH bg ?_;subst aX;refine rg ag<|aw (C)<|aw (str s)<|aw (ay i)<|aw (ay j)<|p (ng u9 ag ag ag aj)<|e<|fU eY ag ag fun bm bk bq aq aS=> ?_;have aD:Wk w bk:=Md.trans O aq.md;refine e<|ap eY (bc G aq.md) ag (by have :=aD.size; omega) ag (aR.dZ aS) (ag) (ag) aj aj fun v60 bx a9 aY bv br=> ?_;have aU:=Wk.own aD (bc G aq.md) aY<|cU _;have bb:=nU a9;exact p aJ<|nl<|bn<|Y<|rg ag<|aw (ay i)<|aw (ay kind)<|p (bJ ((i+kind:Nat):Int) ag ag<|bp aj aj)<|p aJ<|nl<|tn<|⟨_,aj,i+kind,A++ [(s.drop i).take kind],v60,(by rw [bP,fE]; omega),(by rw [← hd,zu (k:=kind) aj a7,e6,rR]; rfl),(by rw [← a6.2.2]; exact bb),aU,ag,ag⟩
 refine ext<|bj<|bj<|be<|ae<|ak fun Y=>aw (C)<|p (cV (C) ag)<|nl<|Y<|rt<|ba ag ?_;have av:A=ec kind s:=by unfold ec; rw [if_neg aj,← hd,iS aj,zw,eJ]
 exact ⟨by rw [← av]; exact G,O⟩
theorem FQ (l:List Nat) (a:Option Addr) (c:Nat) (w:World) (C:aR w.heap a (l.map bV)) (a4:l.length≤1048576) (aP:∀ x∈l,x < 65536):
 bw aE 256 (bl [.slice a l.length c]) w (fun v w'=>bB w' w.heap.size 3 1 (v) (kX l).length ((kX l).map bV)∧Wk w w'):=by
 refine enter func256 ag ntmps256 ag<|ak fun ao=>az<|ao<|ak fun aq=>p aJ<|nl<|aq<|ak fun au=>az<|au<|aW<|lp (fun V am Y=> ∃ (out:List Nat) (last:Int) (I:Value),(-1≤last∧last < 65536)∧(rY l out last)∧(bB Y w.heap.size 3 1 (I) (out).length<|(out).map bV)∧(Wk w Y)∧(out.length≤65536)∧(Sl am [(0,.slice a l.length c),(3,I),(4,.int .i64 last)])∧((65536 - last).toNat=V)) _ ⟨[],-1,.slice none 0 0,(aM),(rY.nil l),(dC _ _ _ _),(Md.refl _ _),(iK _),ag,ag⟩ ?_;rintro V am Y ⟨out,last,I,a5,al,ac,aF,a9,aX,rfl⟩;refine bH aX<|aW<|ak fun av=>az<|av<|aH fun ax=>ak fun aA=>az<|aA<|aW<|lp (fun V an ae=> ∃ (i:Nat) (nx:Int),(i≤l.length∧ -1≤nx)∧(l5 l last i nx)∧(Wk w ae)∧(Wk Y ae)∧(Sl an [(0,.slice a l.length c),(3,I),(4,.int .i64 last),(5,.int .i64 nx),(6,ay i)])∧(l.length - i=V)) _ ⟨0,-1,(aj),(l5.nil l last),aF,(Md.refl _ _),ag,ag⟩ ?_;rintro V an ae ⟨i,nx,hi,E,A,G,aY,rfl⟩;refine bH aY<|aH fun aB=>ak fun aC=>aw (ay i)<|aw (.slice a l.length c)<|p (bN mI ag ag)<|p (lt ag ag)<|nl<|aC<|cd ag (fun aK=> ?_) fun aK=> ?_;refine aT<|aB<|aH fun J=>aW<|ak fun O=>aw (.slice a l.length c)<|aw (ay i)<|p (bh kp ag ag aj<|aR.ok (C.wk A)<|bY aj)<|p (ld bL ag<|AB (f:=bV) (i:=i) 0 (C.wk A) aj)<|aw (.int .i64 last)<|p (gt ag ag)<|p mv<|gs (t:=19) ag (fun aN=> ?_) fun aN=> ?_;refine aV ag (a8 (.int .i64 nx) ag)<|aV ag (lt ag ag)<|aV ag mv<|gs (t:=22) ag (fun aO=> ?_) fun aO=> ?_;exact aQ ag<|aQ ag<|aQ ag<|aQ ag<|aQ ag<|aQ ag<|aV ag (bI ag)<|p (bI ag)<|nl<|O<|ct ag<|rg ag<|aw (.slice a l.length c)<|aw (ay i)<|p (bh kp ag ag aj<|aR.ok (C.wk A)<|bY aj)<|p (ld bL ag<|AB (f:=bV) (i:=i) 0 (C.wk A) aj)<|p aJ<|nl<|bn<|J<|rg ag<|aw (ay i)<|p (bJ ((i+1:Nat):Int) ag ag<|bp aj aj)<|p aJ<|nl<|tn<|⟨_,aj,i+1,((l.getD i 0:Nat):Int),(aj),(E.take aj aj<|.inl aj),A,G,ag,ag⟩
 refine aV ag (a8 (.slice a l.length c) ag)<|aV ag (a8 (ay i) ag)<|aV ag (bh kp ag ag aj<|aR.ok (C.wk A)<|bY aj)<|aV ag (ld bL ag<|AB (f:=bV) (i:=i) 0 (C.wk A) aj)<|aV ag (a8 (.int .i64 nx) ag)<|aV ag (lt ag ag)<|aV ag (bD ag)<|p (bI ag)<|nl<|O<|cd ag (fun aL=> ?_) fun aL=> ?_;exact rg ag<|aw (.slice a l.length c)<|aw (ay i)<|p (bh kp ag ag aj<|aR.ok (C.wk A)<|bY aj)<|p (ld bL ag<|AB (f:=bV) (i:=i) 0 (C.wk A) aj)<|p aJ<|nl<|bn<|J<|rg ag<|aw (ay i)<|p (bJ ((i+1:Nat):Int) ag ag<|bp aj aj)<|p aJ<|nl<|tn<|⟨_,aj,i+1,((l.getD i 0:Nat):Int),(aj),(E.take aj aj<|.inr aj),A,G,ag,ag⟩
 exact aT<|bn<|J<|rg ag<|aw (ay i)<|p (bJ ((i+1:Nat):Int) ag ag<|bp aj aj)<|p aJ<|nl<|tn<|⟨_,aj,i+1,nx,(aj),(E.skip<|.inr ⟨aj,aj⟩),A,G,ag,ag⟩
 exact aQ ag<|aQ ag<|aQ ag<|eC ag<|eC ag<|eC ag<|eC ag<|eC ag<|eC ag<|aQ ag<|p (bD ag)<|nl<|O<|cf ag<|aT<|bn<|J<|rg ag<|aw (ay i)<|p (bJ ((i+1:Nat):Int) ag ag<|bp aj aj)<|p aJ<|nl<|tn<|⟨_,aj,i+1,nx,(aj),(E.skip<|.inl aj),A,G,ag,ag⟩
 refine ext<|bj<|bj<|be<|ax<|aH fun J=>ak fun O=>aw (.int .i64 nx)<|p (lt ag ag)<|nl<|O<|cd ag (fun ab=> ?_) fun ab=> ?_;refine ak fun Z=>aw (I)<|p (cV (I) ag)<|nl<|Z<|rt<|tr<|br<|tr<|br<|ba ag ?_;have aZ:=l5.done (by rw [show i=l.length by omega] at E; exact E) al ab;exact ⟨by rw [← aZ]; exact bc ac G,A⟩;obtain ⟨m,hm,aS,a6,ai⟩:=l5.more (by rw [show i=l.length by omega] at E; exact E) al ab;have a7:=aP m hm;refine aT<|J<|ak fun Z=>aw (I)<|aw (.int .i64 nx)<|e<|fU lR ag ag fun a1 a0 a2 aa aD=> ?_;have ah:Wk w a0:=Md.trans A aa.md;refine e<|ap lR (bc (bc ac G) aa.md) ag (by have :=ah.size; omega) ag (aR.dZ aD) (ag) (ag) aj aj fun v41 bd aU aI bb a3=> ?_;have aG:=Wk.own ah (bc (bc ac G) aa.md) aI<|cU _;exact az<|Z<|rg ag<|aw (.int .i64 nx)<|p (cV (.int .i64 nx) ag)<|nl<|bn<|tn<|⟨_,aj,out++ [m],nx,v41,(aj),ai,(by rw [bP,fZ]; subst aS; exact aU),aG,(ad7 ai aj),ag,ag⟩
theorem N6 (kind:Nat) (s:List UInt8) (w:World) (hk:kind=1∨kind=2∨kind=3) (hs:s.length≤1048576):
 bw aE 214 (bl [ay kind,str s]) w (fun v w'=>(∃ a,v= .tuple #[a,ay ((eD kind s).2)]∧bB w' w.heap.size 3 1 (a) ((eD kind s).1).length (((eD kind s).1).map bV))∧Wk w w'):=by
 refine enter func214 ag ntmps214 ag<|ak fun aI=>p aJ<|az<|aI<|aH fun aN=>aH fun aO=>rg ag<|aw (ay kind)<|p (lt ag ag)<|p mv<|gs (t:=12) ag (fun h=>absurd h aj) fun bq=>aV ag (a8 (ay kind) ag)<|aV ag (gt ag ag)<|p (bD ag)<|nl<|aO<|cd ag (fun h=>absurd h aj) fun bm=>aT<|aN<|aH fun aP=>ak fun aQ=>aw (str s)<|p (c8 u9 ag ag)<|p (bT ag ag)<|nl<|aQ<|cd ag (fun E=> ?_) fun E=> ?_;refine ak fun an=>p aJ<|az<|an<|rt<|tr<|f2 ag ag ag ?_;have aD:s= []:=fY aj;exact ⟨⟨.slice none 0 0,by unfold eD; rw [if_pos aD]; rfl,by unfold eD; rw [if_pos aD]; exact dC _ _ _ _⟩,Md.refl _ _⟩;refine aT<|aP<|ak fun an=>az<|an<|aH fun aS=>rg ag<|aw (ay kind)<|aw (str s)<|e<|cl Tz (abm kind s _ hk hs) ag ?_;rintro v21 ai ⟨aB,ae⟩;obtain ⟨ab,ac,rfl⟩:=cM aB;have aA:=(bg aB).2;have bs:=NN (kind:=kind) (s:=s) aj;refine az<|aS<|aH fun aU=>ak fun aX=>p aJ<|nl<|aX<|aW<|lp (fun av aG au=> ∃ (i:Nat) (fs:List Nat) (ao:Value),(i≤(ec kind s).length∧fs.length≤65)∧(¬∃ x∈(ec kind s).take i,e9 kind x=0)∧(fs=(((ec kind s).take i).map<|e9 kind).take 65)∧(bB au ai.heap.size 3 1 (ao) (fs).length<|(fs).map bV)∧(Wk ai au)∧(Sl aG [(0,ay kind),(1,str s),(6,ao),(7,.slice ab (ec kind s).length ac),(8,ay i)])∧((ec kind s).length - i=av)) _ ⟨0,[],.slice none 0 0,(by simp),(by rintro ⟨x,ah,_⟩; simp at ah),ag,(dC _ _ _ _),(Md.refl _ _),ag,ag⟩ ?_;rintro av aG au ⟨i,fs,ao,hi,Z,Y,O,A,a9,rfl⟩;refine bH a9<|aH fun aK=>ak fun aL=>aw (ay i)<|aw (.slice ab (ec kind s).length ac)<|p (bN ee ag ag)<|p (lt ag ag)<|nl<|aL<|cd ag (fun a2=> ?_) fun a2=> ?_;refine aT<|aK<|aH fun aa=>aW<|aH fun al=> ?_;obtain ⟨G,I,rfl⟩:=cM O;refine rg ag<|aw (ay kind)<|aw (.slice ab (ec kind s).length ac)<|aw (ay i)<|p (bh cE ag ag aj<|aR.ok (aA.wk A)<|bY aj)<|p (ld bW ag<|cw.get (i:=i) (aA.wk A) aj)<|e<|cl IW (PB kind ((ec kind s).getD i []) _ hk<|by have :=NO (kind:=kind) aj (Ao (d:= []) (show i < (ec kind s).length by omega)); omega) ag ?_;rintro v33 bu ⟨rfl,J⟩;refine az<|al<|aH fun V=>ak fun aM=>p mv<|p (bT ag ag)<|nl<|aM<|cd ag (fun a3=> ?_) fun a3=> ?_;refine ak fun am=>p aJ<|az<|am<|rt<|tr<|br<|tr<|tr<|br<|tr<|f2 ag ag ag ?_;have C:eD kind s=([],31):=by unfold eD; rw [if_neg (fun h=>by rw [h] at E; exact E rfl),if_pos ⟨_,Ao (d:= []) (show i < (ec kind s).length by omega),aj⟩]
 exact ⟨⟨.slice none 0 0,by rw [C]; rfl,by rw [C]; exact dC _ _ _ _⟩,Md.trans ae<|Md.trans A J⟩;refine aT<|V<|ak fun am=>aw (.slice G fs.length I)<|p (bN mI ag ag)<|p (le ag ag)<|nl<|am<|cd ag (fun a4=> ?_) fun a4=> ?_;refine rg ag<|aw (.slice G fs.length I)<|p mv<|e<|fU lR ag ag fun bi bd bk aq aY=> ?_;have ax:Wk ai bd:=Md.trans (Md.trans A J) aq.md;refine e<|ap lR (bc (bc O J) aq.md) ag (by have :=ax.size; omega) ag (aR.dZ aY) (ag) (ag) aj aj fun aF bf a6 a1 bt bo=> ?_;have aZ:=Wk.own ax (bc (bc O J) aq.md) a1<|cU _;have a7:bB bf ai.heap.size 3 1 (aF) (fs++ [e9 kind ((ec kind s).getD i [])]).length ((fs++ [e9 kind ((ec kind s).getD i [])]).map bV):=by
  rw [bP,fZ]; exact a6
 exact p aJ<|nl<|bn<|aa<|rg ag<|aw (ay i)<|p (bJ ((i+1:Nat):Int) ag ag<|bp aj aj)<|p aJ<|nl<|tn<|⟨_,aj,i+1,fs++ [e9 kind ((ec kind s).getD i [])],aF,(by rw [bP,fE]; omega),(DK aj Z aj),(by rw [fX _ i [] aj,fZ]; exact adM aj Y _),a7,aZ,ag,ag⟩
 exact aT<|bn<|aa<|rg ag<|aw (ay i)<|p (bJ ((i+1:Nat):Int) ag ag<|bp aj aj)<|p aJ<|nl<|tn<|⟨_,aj,i+1,fs,.slice G fs.length I,aj,(DK aj Z aj),(by rw [fX _ i [] aj,fZ]; exact adL aj aj Y _),(bc O J),(Md.trans A J),ag,ag⟩
 refine ext<|bj<|bj<|be<|aU<|aH fun aa=>aH fun al=> ?_;obtain ⟨G,I,rfl⟩:=cM O;have ba:(ec kind s).take i=(ec kind s):=eK aj;rw [ba] at Y Z;refine rg ag<|aw (.slice ab (ec kind s).length ac)<|p (bN ee ag ag)<|p (gt ag ag)<|nl<|al<|cd ag (fun a5=> ?_) fun a5=> ?_;refine ak fun V=>p aJ<|az<|V<|rt<|tr<|f2 ag ag ag ?_;have C:eD kind s=([],32):=by unfold eD; rw [if_neg (fun h=>by rw [h] at E; exact E rfl),if_neg Z,if_pos aj]
 exact ⟨⟨.slice none 0 0,by rw [C]; rfl,by rw [C]; exact dC _ _ _ _⟩,Md.trans ae A⟩;refine aT<|aa<|ak fun V=>aw (.slice G fs.length I)<|e<|cl TA (FQ fs G I _ (bg O).2 aj fun x ah=>by rw [Y] at ah; obtain ⟨y,_,rfl⟩:=iT.1 (QR ah); exact La _ _) ag ?_;rintro bb bv ⟨aC,a0⟩;refine p aJ<|az<|V<|rt<|f2 ag ag ag ?_;have C:eD kind s=(kX ((ec kind s).map<|e9 kind),0):=by unfold eD; rw [if_neg (fun h=>by rw [h] at E; exact E rfl),if_neg Z,if_neg aj]
 rw [Y,eK (by rw [fH]; omega)] at aC;exact ⟨⟨bb,by rw [C]; rfl,by rw [C]; exact eT aC<|by have :=ae.size; have :=A.size; omega⟩,Md.trans ae<|Md.trans A a0⟩
end Go.Hb.yX
end
section
namespace Go.Hb
open Go.Hb.pf
theorem Ze {l:List UInt8} {i:Nat} {x:UInt8} (h:i < l.length) (h1:¬x∈l.take i) (h2:¬((l.getD i 0).toNat:Int)=(x.toNat:Int)):¬x∈l.take (i+1):=by
 rw [fX l i 0 h,gq,gD];rintro (h3 | h3)
 · exact h1 h3
 · exact h2<|by rw [h3]
theorem Zd {l:List UInt8} {i:Nat} {x:UInt8} (h:i < l.length) (h2:((l.getD i 0).toNat:Int)=(x.toNat:Int)):x∈l:=by
 have e:l.getD i 0=x:=lA.1 aj;rw [← e]; exact ek h
def q5 (s:List UInt8) (i:Nat):Int:=if fP 93 (s.drop i) < 0 then -1 else ((i+(s.drop i).idxOf 93:Nat):Int)
theorem U9 {s:List UInt8} {i k:Nat} (hk:i≤k∧k < s.length) (A:∀ j,i≤j→j < k→s.getD j 0≠93) (C:s.getD k 0=93):q5 s i=(k:Nat):=by
 have h:=My (x:=93) (l:=s.drop i) (i:=k - i) (by rw [fM]; omega) (fun j E=>by rw [da,qJ,← da]; exact A _ aj aj)<|by rw [da,qJ,← da,show i+(k - i)=k by omega]; exact C
 have h2:=tF (c:=93) (l:=s.drop i) aj;unfold q5;rw [if_neg aj];omega
theorem Va {s:List UInt8} {i:Nat} (C:∀ j,i≤j→j < s.length→s.getD j 0≠93):q5 s i= -1:=by
 have h:=Mz (x:=93) (l:=s.drop i) fun j A=>by rw [fM] at A; rw [da,qJ,← da]; exact C _ aj aj
 unfold q5;rw [if_pos aj]
theorem U7 {s:List UInt8} {i:Nat} (hi:i < s.length) (C:s.getD i 0=91):(q5 s i < 0↔¬(s.drop<|i+1).idxOf 93 < (s.drop<|i+1).length)∧(¬q5 s i < 0→q5 s i=((i+1 +(s.drop<|i+1).idxOf 93:Nat):Int)):=by
 have e:s.drop i=91::s.drop (i+1):=by rw [drop_cons 0 hi,C]
 have A:(91::s.drop (i+1)).idxOf 93=(s.drop<|i+1).idxOf 93 +1:=by rw [List.idxOf_cons]; rfl
 unfold q5 fP;rw [e,A,db];by_cases h:(s.drop<|i+1).idxOf 93 < (s.drop<|i+1).length
 · rw [if_pos (show (s.drop<|i+1).idxOf 93 +1 < (s.drop<|i+1).length+1 by omega)];rw [if_neg aj];refine ⟨⟨fun h1=>by omega,fun h1=>absurd h h1⟩,fun _=>by omega⟩
 · rw [if_neg (show ¬(s.drop<|i+1).idxOf 93 +1 < (s.drop<|i+1).length+1 by omega)];rw [if_pos (show (-1:Int) < 0 from by decide)];refine ⟨⟨fun _=>h,fun _=>by decide⟩,fun h1=>absurd aM h1⟩
theorem abd {w:World} {B e:Nat} {v:Value} {l:List (List UInt8)} {x:List UInt8} (h:w.ownsRow B e 1 v (l.length+1) (l.map str++ [str x])):w.ownsRow B e 1 v (l++ [x]).length ((l++ [x]).map str):=by
 rw [bP,fZ]; exact h
theorem Sp {f:UInt8→Bool} :(bytesOf fun x=> !f x).length=0↔(bytesOf f).length=256:=by
 have :=Sq f 256;unfold bytesOf; omega
theorem MZ {h:Array Obj} {a:Option Addr} {l:List (List UInt8)} {i:Nat} (A:aR h a (l.map str)) (hi:i < l.length):Hb.a7 h (bk a) (fo a+i*1 +0)=some (str<|l.getD i []):=cw.get (i:=i) A hi
theorem UK {s t r:List UInt8} (h:jq s=some (t,r)):(t.length=1∨3≤t.length)∧t.length≤s.length:=by
 cases s with
 | nil=>cases h
 | cons b l=>
   simp only [jq] at h;split at h
   · split at h
     · rename_i A;simp only [gM,uz] at h;obtain ⟨rfl,_⟩:=h;simp only [db,dM];omega
     · cases h
   · simp only [gM,uz] at h;obtain ⟨rfl,_⟩:=h;simp
theorem VH:∀ (f:Nat) (s:List UInt8) (xs:List (List UInt8)),mT f s=some xs→∀ t∈xs,(t.length=1∨3≤t.length)∧t.length≤s.length:=by
 intro f
 induction f with
 | zero=>intro s xs h t A; simp only [mT] at h; split at h <;> first | (cases h; cases A) | cases h
 | succ f C=>
   intro s xs h t A;simp only [mT] at h;split at h
   · cases h; cases A
   · cases hc:jq s with
     | none=>rw [hc] at h; cases h
     | some q=>
       obtain ⟨u,r⟩:=q;rw [hc] at h;simp only at h;cases hr:mT f r with
       | none=>rw [hr] at h; cases h
       | some E=>
         rw [hr] at h;cases h;rcases eL.1 A with rfl | A
         · exact UK hc
         · have h1:=C r E hr t A;have h2:=Di hc;exact ⟨h1.1,aj⟩
theorem JF {s:List UInt8} :(∀ t∈(dE s).1,(t.length=1∨3≤t.length)∧t.length≤s.length)∧(dE s).1.length≤16:=by
 unfold dE;split
 · exact ⟨(fun t A=>by cases A),iK _⟩
 · split
   · exact ⟨(fun t A=>by cases A),iK _⟩
   · split
     · exact ⟨(fun t A=>by cases A),iK _⟩
     · rename_i xs h;split
       · exact ⟨(fun t A=>by cases A),iK _⟩
       · exact ⟨(fun t A=>VH _ _ _ h t A),by simp only; omega⟩
theorem Kj {s:List UInt8} {k:Nat} :(s.drop k).getD 0 0=s.getD k 0:=by rw [da,qJ,← da]; rfl
theorem Ic {s:List UInt8} {i m:Nat} (A:s.getD i 0=91) (h:i+1 +m < s.length):91::(s.drop<|i+1).take (m+1)=(s.take<|i+1 +m+1).drop i:=by
 rw [uq,drop_cons 0 (show i < s.length by omega),A,show i+1 +m+1 - i=m+1 +1 by omega,rU]
theorem aa0 {s:List UInt8} {i:Nat} (h:i < s.length):(s.take<|i+1).drop i= [s.getD i 0]:=by
 rw [uq,drop_cons 0 h,show i+1 - i=0 +1 by omega,rU,List.take_zero]
theorem Rz {t:List UInt8} {b:UInt8} (h:t.length=1) (h1:¬t= [46]):((t.getD 0 0).toNat:Int)=(b.toNat:Int)↔t.getD 0 0=46∨t.getD 0 0=b:=by
 match t,h with
 | [c],_=>
   simp only [mq] at*;constructor
   · intro h2; exact .inr<|lA.1 aj
   · rintro (h2 | h2)
     · exact absurd (by rw [h2]) h1
     · rw [h2]
theorem Mt {b:UInt8} (h:(b.toNat:Int)=94):b=94:=lA.1 (by have :(94:UInt8).toNat=94:=rfl; omega)
theorem aaW {b:UInt8} (h:¬(b.toNat:Int)=94):b≠94:=by rintro rfl; exact h rfl
theorem NG {l:List UInt8} {x:UInt8} (h:l.length=1) (A:l.getD 0 0=x):l= [x]:=by
 match l,h with
 | [c],_=>simp only [mq] at A; rw [A]
theorem acE {f:UInt8→Bool} (h:¬(bytesOf f).length=256) (h1:(bytesOf f).length=1) (h2:(bytesOf f).getD 0 0=46):iR f= [91,46,93]:=by
 have e:=NG h1 h2;have h3:¬f 93=true :=fun h4=>by have :=(Ik f 93).2 h4; rw [e] at this; simp at this
 unfold iR; rw [if_neg h,if_neg (fun h4=>h4.2.1 h2),if_neg h3,e]; rfl
theorem acF {f:UInt8→Bool} (h:¬(bytesOf f).length=256) (h1:(bytesOf f).length=1) (h2:(bytesOf f).getD 0 0=91):iR f= [91,91,93]:=by
 have e:=NG h1 h2;have h3:¬f 93=true :=fun h4=>by have :=(Ik f 93).2 h4; rw [e] at this; simp at this
 unfold iR; rw [if_neg h,if_neg (fun h4=>h4.2.2 h2),if_neg h3,e]; rfl
theorem MR (s:List UInt8) (b:UInt8) (w:World) (hs:s.length≤1048576):
 bw aE 276 (bl [str s,.int .u8 b.toNat]) w (fun v w'=>v= .bool (decide (b∈s))∧Wk w w'):=by
 refine enter func276 ag ntmps276 ag<|ak fun O=>az<|O<|aH fun V=>ak fun Y=>az<|Y<|aW<|lp (fun G J I=> ∃ (i:Nat),(i≤s.length)∧(¬b∈s.take i)∧(I=w)∧(Sl J [(0,str s),(1,.int .u8 b.toNat),(5,ay i)])∧(s.length - i=G)) _ ⟨0,aj,(by simp),ag,ag,ag⟩ ?_;rintro G J I ⟨i,hi,E,ae,ai,rfl⟩;refine bH ai ?_;subst ae;refine aH fun Z=>ak fun aa=>aw (ay i)<|aw (str s)<|p (c8 u9 ag ag)<|p (lt ag ag)<|nl<|aa<|cd ag (fun ah=> ?_) fun ah=> ?_;refine aT<|Z<|aH fun A=>aW<|ak fun ab=>aw (str s)<|aw (ay i)<|p (fC u9 ag ag aj)<|aw (.int .u8 b.toNat)<|p (bT ag ag)<|nl<|ab<|cd ag (fun C=> ?_) fun C=> ?_;exact ak fun ac=>az<|ac<|rt<|br<|tr<|tr<|br<|tr<|ba ag<|⟨by show cy true =_; rw [decide_eq_true (Zd aj C)],Md.refl _ _⟩
 exact aT<|bn<|A<|rg ag<|aw (ay i)<|p (ad ag ag<|cR aj)<|p aJ<|nl<|tn<|⟨_,aj,i+1,aj,(Ze aj E C),ag,ag,ag⟩
 exact ext<|bj<|bj<|be<|V<|ak fun A=>p aJ<|nl<|A<|rt<|ba ag<|⟨by show cy false =_; rw [eK aj] at E; rw [decide_eq_false E],Md.refl _ _⟩
theorem HI (t:List UInt8) (b:UInt8) (w:World) (an:t.length=1∨3≤t.length) (ao:t.length≤1048576):
 bw aE 262 (bl [.agg [str t].toArray,.int .u8 b.toNat]) w (fun v w'=>v= .bool (di t b)∧Wk w w'):=by
 refine enter func262 ag ntmps262 ag<|ak fun J=>e<|je ag fun ai au am C ab=>az<|J<|ak fun O=>p (fa XT ag)<|p (ld bW ag<|ab.a7 0)<|az<|O<|aH fun V=>ak fun Y=>p mv<|p (c8 u9 ag ag)<|p (bT ag ag)<|nl<|Y<|cd ag (fun ah=> ?_) fun ah=> ?_;refine ak fun A=>p mv<|p (ew ag ag)<|p mv<|gs (t:=14) ag (fun I=> ?_) fun I=> ?_;exact aQ ag<|aQ ag<|aQ ag<|aQ ag<|p (bI ag)<|az<|A<|rt<|tr<|ba ag<|⟨by show cy true =_; unfold di; rw [if_pos (show t.length=1 by omega)]; rw [decide_eq_true (.inl<|by rw [I]; rfl)],C.md⟩
 exact aV ag mv<|aV ag (jQ 0 u9 ag ag aj)<|aV ag (a8 (.int .u8 b.toNat) ag)<|aV ag (bT ag ag)<|p (bD ag)<|az<|A<|rt<|tr<|ba ag<|⟨by show cy (decide _)=_; unfold di; rw [if_pos (show t.length=1 by omega)]; exact congrArg cy (decide_eq_decide.2<|Rz aj I),C.md⟩
 refine aT<|V<|aH fun A=>ak fun Z=>p mv<|p (jQ 1 u9 ag ag aj)<|p (bT ag ag)<|nl<|Z<|cd ag (fun G=> ?_) fun G=> ?_;refine ak fun E=>p mv<|p mv<|p (c8 u9 ag ag)<|p (ed ((t.length - 1:Nat):Int) ag ag<|bp aj aj)<|p (ng u9 ag ag ag aj)<|aw (.int .u8 b.toNat)<|e<|cl I0 (MR ((t.take<|t.length - 1).drop 2) b _<|by simp only [fM,dM]; omega) ag ?_;rintro ap av ⟨rfl,ac⟩;exact az<|E<|ak fun aa=>p mv<|p (no ag)<|p aJ<|nl<|aa<|rt<|tr<|ba ag<|⟨by show cy (!decide _)=_; unfold di; rw [if_neg (show ¬t.length=1 by omega),if_pos (lA.1 (by have al:(94:UInt8).toNat=94:=ag; omega))],Md.trans C.md ac⟩
 refine aT<|A<|ak fun E=>p mv<|p mv<|p (c8 u9 ag ag)<|p (ed ((t.length - 1:Nat):Int) ag ag<|bp aj aj)<|p (ng u9 ag ag ag aj)<|aw (.int .u8 b.toNat)<|e<|cl I0 (MR ((t.take<|t.length - 1).drop 1) b _<|by simp only [fM,dM]; omega) ag ?_;rintro aq ax ⟨rfl,ae⟩;exact az<|E<|rt<|ba ag<|⟨by unfold di; rw [if_neg (show ¬t.length=1 by omega),if_neg (fun h=>by rw [h] at G; exact G ag)]; rfl,Md.trans C.md ae⟩
theorem HJ (t:List UInt8) (b:UInt8) (bi:Int) (w:World) (C:t.length=1∨3≤t.length) (E:t.length≤1048576) (A:(b.toNat:Int)=bi):bw aE 262 (bl [.agg [str t].toArray,.int .u8 bi]) w (fun v w'=>v= .bool (di t b)∧Wk w w'):=by
 subst A; exact HI t b w C E
theorem HK (t:List UInt8) (q:Bool) (w:World) (aO:t.length=1∨3≤t.length) (aP:t.length≤1048576):
 bw aE 304 (bl [.agg [str t].toArray,.bool q]) w (fun v w'=>bB w' w.heap.size 5 1 (v) (bytesOf fun x=>decide (di t x=q)).length (U8<|bytesOf fun x=>decide (di t x=q))∧Wk w w'):=by
 refine enter func304 ag ntmps304 ag<|ak fun ai=>e<|je ag fun ax J aV ac aA=>az<|ai<|ak fun al=>e<|mQ jj fun Z aS aY aG aC=> ?_;have aM:bB aS J.heap.size 5 1 (.slice (some ⟨Z,0,none⟩) 0 0) (([]:List UInt8)).length (U8<|([]:List UInt8)):=aC _ aj;refine az<|al<|aH fun am=>ak fun an=>p aJ<|nl<|an<|aW<|lp (fun aa ah Y=> ∃ (i:Nat) (A:Value),(i≤256)∧(bB Y J.heap.size 5 1 (A) (mR (fun x=>decide (di t x=q)) i).length<|U8<|mR (fun x=>decide (di t x=q)) i)∧(Wk J Y)∧(Sl ah [(1,.bool q),(2,a6 ax),(5,A),(6,ay i)])∧(256 - i=aa)) _ ⟨0,.slice (some ⟨Z,0,none⟩) 0 0,aj,aM,aG.md,ag,ag⟩ ?_;rintro aa ah Y ⟨i,A,hi,I,G,aN,rfl⟩;refine bH aN ?_;have aZ:=r9 (fun x=>decide (di t x=q)) i;refine aH fun ao=>ak fun aq=>aw (ay i)<|p (lt ag ag)<|nl<|aq<|cd ag (fun aI=> ?_) fun aI=> ?_;refine aT<|ao<|aH fun E=>aW<|ak fun au=>p (dp uJ ag (ag) (show ∀ j,j < 1→Hb.a7 _ _ (0 +j)= [str t][j]? from fun j a1=>by cases j with | zero=>exact (G.B aA).a7 0 | succ j=>omega))<|aw (ay i)<|p (mC u5 sU ag<|vX aj)<|e<|cl C1 (HJ t (UInt8.ofNat i) _ _ aO aP<|By i aj) ag ?_;rintro a3 a4 ⟨rfl,C⟩;refine az<|au<|ak fun av=>p mv<|aw (.bool q)<|p (DF u4 ag ag)<|nl<|av<|cd ag (fun V=> ?_) fun V=> ?_;refine rg ag<|aw (A)<|aw (ay i)<|p (mC u5 sU ag<|vX aj)<|e<|fU jj ag ag fun aU aQ aX O aB=> ?_;have ab:Wk J aQ:=Md.trans (Md.trans G C) O.md;refine e<|ap jj (bc (bc I C) O.md) ag (by have :=ab.size; omega) ag (aR.dZ aB) (ag) (ag) aj aj fun v24 a5 ae aF a2 a0=> ?_;have aD:=Wk.own ab (bc (bc I C) O.md) aF<|cU _;rw [← By i aj] at ae;have aL:=sK ae;exact p aJ<|nl<|bn<|E<|rg ag<|aw (ay i)<|p (bJ ((i+1:Nat):Int) ag ag<|bp aj aj)<|p aJ<|nl<|tn<|⟨_,aj,i+1,v24,aj,(by rw [uP,if_pos (decide_eq_true V)]; exact aL),aD,ag,ag⟩
 exact aT<|bn<|E<|rg ag<|aw (ay i)<|p (bJ ((i+1:Nat):Int) ag ag<|bp aj aj)<|p aJ<|nl<|tn<|⟨_,aj,i+1,A,aj,(by rw [uP,if_neg (fun h=>V<|of_decide_eq_true h),eJ]; exact bc I C),(Md.trans G C),ag,ag⟩
 refine ext<|bj<|bj<|be<|am<|ak fun E=>aw (A)<|p (cV (A) ag)<|nl<|E<|rt<|ba ag ?_;have aK:i=256:=aj;subst aK;exact ⟨eT I ac.md.size,Md.trans ac.md G⟩
theorem acG (t:List UInt8) (w:World) (aL:t.length=1∨3≤t.length) (aN:t.length≤1048576):
 bw aE 294 (bl [.agg [str t].toArray]) w (fun v w'=>v=str (iR<|di t)∧Wk w w'):=by
 have ck:(bytesOf<|di t).length≤256:=r9 _ 256;have cj:(bytesOf fun x=> !di t x).length≤256:=r9 _ 256;have bO:=Sp (f:=di t);refine enter func294 ag ntmps294 ag ?_;refine aH fun bf=> ?_;refine rg ag ?_;refine e<|je ag fun bx co b9 bL aX=> ?_;refine p aJ ?_;refine nl ?_;refine bf ?_;refine aH fun br=> ?_;refine rg ag ?_;refine p (dp uJ ag (ag) (show ∀ j,j < 1→Hb.a7 _ _ (0 +j)= [str t][j]? from fun j a4=>by cases j with | zero=>exact (aX).a7 0 | succ j=>omega)) ?_;refine e<|cl I4 (HK t true _ aL aN) ag ?_;rintro v10 cp ⟨aG,aZ⟩;rw [Ij (g:=di t) (fun x=>by cases di t x <;> rfl)] at aG;obtain ⟨ab,ac,rfl⟩:=cM aG;have A:=(bg aG).2;have aY:=aZ.B aX;refine p aJ ?_;refine nl ?_;refine br ?_;refine aH fun bs=> ?_;refine rg ag ?_;refine p (dp uJ ag (ag) (show ∀ j,j < 1→Hb.a7 _ _ (0 +j)= [str t][j]? from fun j a4=>by cases j with | zero=>exact (aY).a7 0 | succ j=>omega)) ?_;refine e<|cl I4 (HK t false _ aL aN) ag ?_;rintro v12 b1 ⟨aI,av⟩;rw [Ij (g:=fun x=> !di t x) (fun x=>by cases di t x <;> rfl)] at aI;obtain ⟨b5,b8,rfl⟩:=cM aI;have A:=A.wk av;have bz:=av.B aY;have ah:Wk w b1:=Md.trans bL.md<|Md.trans aZ av;refine p aJ ?_;refine nl ?_;refine bs ?_;refine aH fun bt=> ?_;refine aH fun bu=> ?_;refine rg ag ?_;refine p mv ?_;refine p (bN oa ag ag) ?_;refine p (bT ag ag) ?_;refine nl ?_;refine bu ?_;refine cd ag (fun bQ=> ?_) fun bQ=> ?_;refine aH fun ao=> ?_;refine rg ag ?_;refine p aJ ?_;refine nl ?_;refine ao ?_;refine rt ?_;refine tr ?_;refine ba ag ?_;exact ⟨by unfold iR; rw [if_pos (bO.1 aj)]; rfl,ah⟩;refine aT ?_;refine bt ?_;refine aH fun ao=> ?_;refine aH fun bv=> ?_;refine rg ag ?_;refine p mv ?_;refine p (bN oa ag ag) ?_;refine p (bT ag ag) ?_;refine nl ?_;refine bv ?_;refine cd ag (fun bR=> ?_) fun bR=> ?_;refine aH fun aq=> ?_;refine aH fun au=> ?_;refine rg ag ?_;refine p mv ?_;refine p (bh mU ag ag aj<|aR.ok (A)<|rD aj) ?_;refine p (ld qX ag<|rC (i:=0) A aj) ?_;refine p (bT ag ag) ?_;refine nl ?_;refine au ?_;refine cd ag (fun aB=> ?_) fun aB=> ?_;refine aH fun Y=> ?_;refine rg ag ?_;refine p aJ ?_;refine nl ?_;refine Y ?_;refine rt ?_;refine tr ?_;refine tr ?_;refine ba ag ?_;exact ⟨by rw [acE aj aj (EF aB)]; rfl,ah⟩;refine aT ?_;refine aq ?_;refine aH fun Y=> ?_;refine aH fun Z=> ?_;refine rg ag ?_;refine p mv ?_;refine p (bh mU ag ag aj<|aR.ok (A)<|rD aj) ?_;refine p (ld qX ag<|rC (i:=0) A aj) ?_;refine p (bT ag ag) ?_;refine nl ?_;refine Z ?_;refine cd ag (fun aC=> ?_) fun aC=> ?_;refine aH fun aa=> ?_;refine rg ag ?_;refine p aJ ?_;refine nl ?_;refine aa ?_;refine rt ?_;refine tr ?_;refine tr ?_;refine ba ag ?_;exact ⟨by rw [acF aj aj (Aw aC)]; rfl,ah⟩;refine aT ?_;refine Y ?_;refine aH fun aa=> ?_;refine rg ag ?_;refine aw (.slice ab (bytesOf<|di t).length ac) ?_;refine p (oG oC ag (A)<|ag) ?_;refine p aJ ?_;refine nl ?_;refine aa ?_;refine rt ?_;refine tr ?_;refine ba ag ?_;exact ⟨by unfold iR; rw [if_neg (show ¬(bytesOf<|di t).length=256 by omega),if_pos ⟨aj,Fh aB,x5 aC⟩]; rfl,ah⟩;refine aT ?_;refine ao ?_;refine aH fun aq=> ?_
 refine rg ag ?_;refine p (dp uJ ag (ag) (show ∀ j,j < 1→Hb.a7 _ _ (0 +j)= [str t][j]? from fun j a4=>by cases j with | zero=>exact (bz).a7 0 | succ j=>omega)) ?_;refine e<|cl C1 (HJ t 93 _ _ aL aN ag) ag ?_;rintro v30 V ⟨rfl,J⟩;have ax:=Md.trans ah J;refine p aJ ?_;refine nl ?_;refine aq ?_;refine aH fun au=> ?_;refine aH fun Y=> ?_;refine rg ag ?_;refine p mv ?_;refine nl ?_;refine Y ?_;refine cb ag (fun aD=> ?_) fun aD=> ?_;refine aH fun Z=> ?_;refine rg ag ?_;refine p mv ?_;refine p (oG oC ag ((bg<|bc aI J).2)<|ag) ?_;refine p (cc ag ag<|by simp only [db,gC]; omega) ?_;refine p (cc ag ag<|by simp only [db,gC,bP]; omega) ?_;refine p aJ ?_;refine nl ?_;refine Z ?_;refine rt ?_;refine tr ?_;refine ba ag ?_;exact ⟨by unfold iR; rw [if_neg (show ¬(bytesOf<|di t).length=256 by omega),if_neg (show ¬((bytesOf<|di t).length=1∧_) from fun h=>by omega),if_pos aD]; rfl,ax⟩;refine aT ?_;refine au ?_;refine aH fun Z=> ?_;refine rg ag ?_;refine e<|mQ jj fun aS b2 ca bM bA=> ?_;have bY:bB b2 V.heap.size 5 1 (.slice (some ⟨aS,0,none⟩) 0 0) (([]:List UInt8)).length (U8<|([]:List UInt8)):=bA _ aj;refine p aJ ?_;refine nl ?_;refine Z ?_;refine aH fun aa=> ?_;refine rg ag ?_;refine p aJ ?_;refine nl ?_;refine aa ?_;refine aH fun bi=> ?_;refine aH fun bk=> ?_;refine rg ag ?_;refine p aJ ?_;refine nl ?_;refine bk ?_;refine aW ?_;refine lp (fun aV bb aP=> ∃ (i:Nat) (ob:Bool) (al:Value),(i≤(bytesOf<|di t).length)∧(ob=decide (94∈(bytesOf<|di t).take i))∧(bB aP V.heap.size 5 1 (al) (((bytesOf<|di t).take i).filter fun b=>decide (b≠94)).length<|U8<|((bytesOf<|di t).take i).filter fun b=>decide (b≠94))∧(Wk V aP)∧(Sl bb [(1,a6 bx),(3,.slice ab (bytesOf<|di t).length ac),(6,al),(7,.bool ob),(8,ay i)])∧((bytesOf<|di t).length - i=aV)) _ ⟨0,false,.slice (some ⟨aS,0,none⟩) 0 0,aj,ag,bY,bM.md,ag,ag⟩ ?_;rintro aV bb aP ⟨i,ob,al,hi,O,E,C,bZ,rfl⟩;refine bH bZ ?_;have ci:(((bytesOf<|di t).take i).filter fun b=>decide (b≠94)).length≤256:=fu (List.length_filter_le _ _)<|by rw [dM]; omega
 refine aH fun bm=> ?_;refine aH fun bo=> ?_;refine rg ag ?_;refine aw (ay i) ?_;refine aw (.slice ab (bytesOf<|di t).length ac) ?_;refine p (bN oa ag ag) ?_;refine p (lt ag ag) ?_;refine nl ?_;refine bo ?_;refine cd ag (fun bS=> ?_) fun bS=> ?_;refine aT ?_;refine bm ?_;refine aH fun I=> ?_;refine aW ?_;refine aH fun bq=> ?_;refine rg ag ?_;refine aw (.slice ab (bytesOf<|di t).length ac) ?_;refine aw (ay i) ?_;refine p (bh mU ag ag aj<|aR.ok (A.wk<|Md.trans J C)<|rD aj) ?_;refine p (ld qX ag<|rC (i:=i) (A.wk<|Md.trans J C) aj) ?_;refine p (bT ag ag) ?_;refine nl ?_;refine bq ?_;refine cd ag (fun aF=> ?_) fun aF=> ?_;have ae:=Mt aF;refine rg ag ?_;refine p aJ ?_;refine nl ?_;refine bn ?_;refine I ?_;refine rg ag ?_;refine aw (ay i) ?_;refine p (bJ ((i+1:Nat):Int) ag ag<|bp aj aj) ?_;refine p aJ ?_;refine nl ?_;refine tn ?_;exact ⟨_,aj,i+1,true,al,aj,(by rw [fX _ i 0 aj,ae,decide_eq_true (by simp)]),(by rw [fX _ i 0 aj,ae,s9,List.filter_cons_of_neg (by simp),QF,eJ]; exact E),C,ag,ag⟩;have ae:=aaW aF;refine rg ag ?_;refine aw (al) ?_;refine aw (.slice ab (bytesOf<|di t).length ac) ?_;refine aw (ay i) ?_;refine p (bh mU ag ag aj<|aR.ok (A.wk<|Md.trans J C)<|rD aj) ?_;refine p (ld qX ag<|rC (i:=i) (A.wk<|Md.trans J C) aj) ?_;refine e<|fU jj ag ag fun b6 b3 ce az bC=> ?_;have a0:Wk V b3:=Md.trans C az.md;refine e<|ap jj (bc E az.md) ag (by have :=a0.size; omega) ag (aR.dZ bC) (ag) (ag) aj aj fun v54 cq bV bI cm cg=> ?_;have bE:=Wk.own a0 (bc E az.md) bI<|cU _;have bW:=sK bV;refine p aJ ?_;refine nl ?_;refine bn ?_;refine I ?_;refine rg ag ?_;refine aw (ay i) ?_;refine p (bJ ((i+1:Nat):Int) ag ag<|bp aj aj) ?_;refine p aJ ?_;refine nl ?_;refine tn ?_;exact ⟨_,aj,i+1,ob,v54,aj,(by rw [fX _ i 0 aj,O]; exact decide_eq_decide.2<|by rw [gq,gD]; exact ⟨.inl,fun h=>h.elim id fun h=>absurd h.symm ae⟩),(by rw [fX _ i 0 aj,s9,List.filter_cons_of_pos (by simpa using ae),QF]; exact bW),bE,ag,ag⟩;refine ext ?_;refine bj ?_;refine bj ?_;refine be ?_;refine bi ?_;refine ez (fun bd aO=> ∃ (am:Option Addr) (G an:Nat),(((bytesOf<|di t).filter (fun b=>decide (b≠94))++(if 94∈(bytesOf<|di t) then [94] else [])).length=G)∧(bB aO V.heap.size 5 1 (.slice am G an) G<|U8<|(bytesOf<|di t).filter (fun b=>decide (b≠94))++(if 94∈(bytesOf<|di t) then [94] else []))∧(Wk w aO)∧(G≤300)∧(Sl bd [(6,.slice am G an)])) ?_ ?_;refine aH fun I=> ?_;obtain ⟨aQ,aU,rfl⟩:=cM E;have ak:(bytesOf<|di t).take i=bytesOf (di t):=eK aj;rw [ak] at O;refine rg ag ?_;refine aw (.bool ob) ?_;refine nl ?_;refine I ?_;refine cb ag (fun ai=> ?_) fun ai=> ?_;refine rg ag ?_;refine p (a8 (.slice aQ (((bytesOf<|di t).take i).filter fun b=>decide (b≠94)).length aU) ag) ?_;refine e<|fU jj ag ag fun b7 b4 cf aA bD=> ?_;have a1:Wk V b4:=Md.trans C aA.md;refine e<|ap jj (bc E aA.md) ag (by have :=a1.size; omega) ag (aR.dZ bD) (ag) (ag) aj aj fun v58 cs aK bK cn ch=> ?_;have bF:=Wk.own a1 (bc E aA.md) bK<|cU _;rw [ak] at aK;have a9:=sK (x:=94) aK;obtain ⟨a2,c2,rfl⟩:=cM aK;refine p aJ ?_;refine nl ?_;refine tn ?_
 exact ⟨a2,_,c2,(by rw [if_pos (of_decide_eq_true<|O ▸ ai),bP]; rfl),(by rw [if_pos (of_decide_eq_true<|O ▸ ai)]; rw [bP] at a9; exact a9),(Md.trans ax bF),(by rw [← ak]; omega),ag⟩;refine aT ?_;refine tn ?_;exact ⟨aQ,_,aU,(by rw [if_neg (of_decide_eq_false<|O ▸ ai),eJ,ak]),(by rw [if_neg (of_decide_eq_false<|O ▸ ai),eJ]; have h3:=E; rw [ak] at h3 ⊢; exact h3),(Md.trans ax C),(aj),ag⟩;rintro bd aO ⟨am,G,an,a5,bX,bG,bU,b0⟩;refine bH b0 ?_;have a3:((bytesOf<|di t).filter (fun b=>decide (b≠94))++(if 94∈(bytesOf<|di t) then [94] else [])).length≤300:=by rw [a5]; exact bU
 refine aH fun I=> ?_;refine rg ag ?_;refine aw (.slice am G an) ?_;refine p (oG oC ag ((bg bX).2)<|a5) ?_;refine p (cc ag ag<|fu (Ch a3 _) aM) ?_;refine p (cc ag ag<|by rw [bP]; exact fu (Nat.add_le_add_right (Ch a3 _) _) aM) ?_;refine p aJ ?_;refine nl ?_;refine I ?_;refine rt ?_;refine ba ag ?_;exact ⟨by unfold iR; rw [if_neg (show ¬(bytesOf<|di t).length=256 by omega),if_neg (show ¬((bytesOf<|di t).length=1∧_) from fun h=>by omega),if_neg (show ¬di t 93=true from by rw [aD]; exact Bool.noConfusion)]; rfl,bG⟩
theorem U4 (s:List UInt8) (i:Nat) (w:World) (hs:s.length≤1048576) (hi:i≤s.length):
 bw aE 261 (bl [str s,ay i]) w (fun v w'=>v= .int .i64 (q5 s i)∧Wk w w'):=by
 refine enter func261 ag ntmps261 ag<|ak fun V=>az<|V<|aH fun Y=>aW<|lp (fun I O J=> ∃ (k:Nat),(i≤k∧k≤s.length)∧(∀ j,i≤j→j < k→s.getD j 0≠93)∧(J=w)∧(Sl O [(0,str s),(1,ay k)])∧(s.length - k=I)) _ ⟨i,aj,(fun j h1 h2=>by omega),ag,ag,ag⟩ ?_;rintro I O J ⟨k,hk,G,ae,ai,rfl⟩;refine bH ai ?_;subst ae;refine aH fun Z=>ak fun aa=>aw (ay k)<|aw (str s)<|p (c8 u9 ag ag)<|p (lt ag ag)<|nl<|aa<|cd ag (fun ah=> ?_) fun ah=> ?_;refine aT<|Z<|aW<|aH fun A=>ak fun ab=>aw (str s)<|aw (ay k)<|p (fC u9 ag ag aj)<|p (bT ag ag)<|nl<|ab<|cd ag (fun E=> ?_) fun E=> ?_;have C:s.getD k 0=93:=lA.1 (by have :(93:UInt8).toNat=93:=rfl; omega);exact ak fun ac=>aw (ay k)<|p (cV (ay k) ag)<|nl<|ac<|rt<|tr<|br<|tr<|br<|tr<|ba ag<|⟨by rw [U9 (k:=k) aj G C]; rfl,Md.refl _ _⟩
 have C:s.getD k 0≠93:=fun h=>by rw [h] at E; exact E rfl
 exact aT<|A<|rg ag<|aw (ay k)<|p (bJ ((k+1:Nat):Int) ag ag<|bp aj aj)<|p aJ<|nl<|bn<|tn<|⟨_,aj,k+1,aj,(fun j h1 h2=>by rcases fT j k with h | h <;> first | exact G j h1 h | (rw [show j=k by omega]; exact C)),ag,ag,ag⟩
 exact ext<|bj<|bj<|be<|Y<|ak fun A=>p aJ<|nl<|A<|rt<|ba ag<|⟨by rw [Va (fun j h1 h2=>G j h1 aj)]; rfl,Md.refl _ _⟩
theorem NU (s:List UInt8) (w:World) (hs:s.length≤1048576):
 bw aE 228 (bl [str s]) w (fun v w'=>(∃ a,v= .tuple #[a,ay ((dE s).2)]∧bB w' w.heap.size 359 1 (a) ((dE s).1).length (((dE s).1).map str))∧Wk w w'):=by
 refine enter func228 ag ntmps228 ag<|ak fun aU=>p aJ<|az<|aU<|aH fun aY=>aH fun aG=>rg ag<|aw (str s)<|p (c8 u9 ag ag)<|p (bT ag ag)<|p mv<|gs (t:=11) ag (fun E=> ?_) fun E=> ?_;exact aQ ag<|aQ ag<|aQ ag<|p (bI ag)<|nl<|aG<|ct ag<|aH fun al=>rg ag<|p aJ<|az<|al<|rt<|tr<|f2 ag ag ag<|⟨⟨.slice none 0 0,by unfold dE; rw [if_pos (.inl<|fY aj)]; rfl,by unfold dE; rw [if_pos (.inl<|fY aj)]; exact dC _ _ _ _⟩,Md.refl _ _⟩
 refine aV ag (a8 (str s) ag)<|aV ag (c8 u9 ag ag)<|aV ag (gt ag ag)<|p (bD ag)<|nl<|aG<|cd ag (fun a7=> ?_) fun a7=> ?_;exact ak fun al=>p aJ<|az<|al<|rt<|tr<|f2 ag ag ag<|⟨⟨.slice none 0 0,by unfold dE; rw [if_pos (.inr aj)]; rfl,by unfold dE; rw [if_pos (.inr aj)]; exact dC _ _ _ _⟩,Md.refl _ _⟩
 refine aT<|aY<|ak fun al=>az<|al<|aH fun aZ=>ak fun a0=>aw (str s)<|p (ew ag ag)<|nl<|a0<|cd ag (fun O=> ?_) fun O=> ?_;refine ak fun aq=>p mv<|p aJ<|az<|aq<|rt<|tr<|f2 ag ag ag ?_;have aN:¬(s= []∨512 < s.length):=fun h=>h.elim (fun h=>by rw [h] at E; exact E rfl) fun h=>by omega
 exact ⟨⟨.slice none 0 0,by unfold dE; rw [if_neg aN,if_pos O]; rfl,by unfold dE; rw [if_neg aN,if_pos O]; exact dC _ _ _ _⟩,Md.refl _ _⟩;refine aT<|aZ<|ak fun aq=>az<|aq<|aH fun a1=>aW<|lp (fun aI aP aD=> ∃ (i:Nat) (C:List (List UInt8)) (ac:Value),(i≤s.length∧C.length≤i)∧(k0 s i C)∧(bB aD w.heap.size 359 1 (ac) (C).length<|(C).map str)∧(Wk w aD)∧(Sl aP [(0,str s),(4,ac),(5,ay i)])∧(s.length - i=aI)) _ ⟨0,[],.slice none 0 0,(by simp),(k0.start s),(dC _ _ _ _),(Md.refl _ _),ag,ag⟩ ?_;rintro aI aP aD ⟨i,C,ac,hi,ab,am,I,bo,rfl⟩;refine bH bo<|aH fun a2=>ak fun aX=>aw (ay i)<|aw (str s)<|p (c8 u9 ag ag)<|p (lt ag ag)<|nl<|aX<|cd ag (fun a9=> ?_) fun a9=> ?_;refine aT<|a2<|aW<|ak fun ao=>aw (ay i)<|p (bJ ((i+1:Nat):Int) ag ag<|bp aj aj)<|p aJ<|nl<|ao ?_;refine ez (fun aS aC=> ∃ (j:Nat),(i < j∧j≤s.length)∧(k0 s j<|C++ [(s.take j).drop i])∧(bB aC w.heap.size 359 1 (ac) (C).length<|(C).map str)∧(Wk w aC)∧(Sl aS [(0,str s),(4,ac),(5,ay i),(6,ay j)])) ?_ ?_;refine ak fun ae=>aw (str s)<|aw (ay i)<|p (fC u9 ag ag aj)<|p (bT ag ag)<|nl<|ae<|cd ag (fun aA=> ?_) fun aA=> ?_;refine ak fun ah=>aw (str s)<|aw (ay i)<|e<|cl TD (U4 s i _ hs aj) ag ?_;rintro v31 bF ⟨rfl,Z⟩;have J:=Aw aA;obtain ⟨aL,bb⟩:=U7 (show i < s.length by omega) J;have aa:=drop_cons (l:=s) (i:=i) 0 aj;have bz:(s.drop<|i+1).length=s.length - (i+1):=fM;refine az<|ah<|aH fun aF=>ak fun an=>p mv<|p (lt ag ag)<|p mv<|gs (t:=34) ag (fun bd=> ?_) fun bd=> ?_;have G:jq (s.drop i)=none:=by
  rw [aa,J];exact zx ag fun h=>(aL.1 aj) h.1
 have V:=ab.bad aj G;refine aQ ag<|aQ ag<|aQ ag<|aQ ag<|p (bI ag)<|p mv<|aQ ag<|aQ ag<|aQ ag<|aQ ag<|aQ ag<|eC ag<|eC ag<|eC ag<|eC ag<|eC ag<|aQ ag<|p (bI ag)<|nl<|an<|ct ag<|ak fun ai=>p aJ<|az<|ai<|rt<|tr<|tr<|br<|tr<|br<|tr<|f2 ag ag ag ?_;have A:dE s=([],41):=by unfold dE; rw [if_neg (fun h=>h.elim (fun h=>by rw [h] at E; exact E rfl) fun h=>by omega),if_neg O,V]
 exact ⟨⟨.slice none 0 0,by rw [A]; rfl,by rw [A]; exact dC _ _ _ _⟩,Md.trans I Z⟩;have bx:=bb aj;have aM:(s.drop<|i+1).idxOf 93 < (s.drop<|i+1).length:=GY fun h=>by have :=aL.2 h; omega
 refine aV ag mv<|aV ag (a8 (ay i) ag)<|aV ag (bJ ((i+1:Nat):Int) ag ag<|bp aj aj)<|aV ag (bT ag ag)<|p (bD ag)<|p mv<|gs (t:=40) ag (fun bf=> ?_) fun bf=> ?_;have G:jq (s.drop i)=none:=by
  rw [aa,J];exact zx ag fun h=>h.2.1 aj
 have V:=ab.bad aj G;refine aQ ag<|aQ ag<|aQ ag<|aQ ag<|aQ ag<|eC ag<|eC ag<|eC ag<|eC ag<|eC ag<|aQ ag<|p (bI ag)<|nl<|an<|ct ag<|aH fun ai=>rg ag<|p aJ<|az<|ai<|rt<|tr<|tr<|br<|tr<|br<|tr<|f2 ag ag ag ?_;have A:dE s=([],41):=by unfold dE; rw [if_neg (fun h=>h.elim (fun h=>by rw [h] at E; exact E rfl) fun h=>by omega),if_neg O,V]
 exact ⟨⟨.slice none 0 0,by rw [A]; rfl,by rw [A]; exact dC _ _ _ _⟩,Md.trans I Z⟩;refine aV ag mv<|aV ag (a8 (ay i) ag)<|aV ag (bJ ((i+2:Nat):Int) ag ag<|bp aj aj)<|aV ag (bT ag ag)<|aV ag mv<|gs (t:=45) ag (fun bg=> ?_) fun bg=> ?_;refine aV ag (a8 (str s) ag)<|aV ag (a8 (ay i) ag)<|aV ag (bJ ((i+1:Nat):Int) ag ag<|bp aj aj)<|aV ag (fC u9 ag ag aj)<|aV ag (bT ag ag)<|aV ag (bI ag)<|p (bD ag)<|nl<|an<|cd ag (fun aB=> ?_) fun aB=> ?_;have G:jq (s.drop i)=none:=by
  rw [aa,J];exact zx ag fun h=>h.2.2 ⟨aj,by rw [Kj]; exact Mt aB⟩
 have V:=ab.bad aj G;refine ak fun ai=>p aJ<|az<|ai<|rt<|tr<|tr<|br<|tr<|br<|tr<|f2 ag ag ag ?_;have A:dE s=([],41):=by unfold dE; rw [if_neg (fun h=>h.elim (fun h=>by rw [h] at E; exact E rfl) fun h=>by omega),if_neg O,V]
 exact ⟨⟨.slice none 0 0,by rw [A]; rfl,by rw [A]; exact dC _ _ _ _⟩,Md.trans I Z⟩;have G:jq (s.drop i)=some (91::(s.drop<|i+1).take ((s.drop<|i+1).idxOf 93 +1),(s.drop<|i+1).drop ((s.drop<|i+1).idxOf 93 +1)):=by
  rw [aa,J];exact Dj ag aM aj fun h=>aB<|by rw [← Kj,h.2]; rfl
 have Y:=ab.step (j:=i+1 +(s.drop<|i+1).idxOf 93 +1) G<|by rw [rR]; rfl
 rw [Ic J aj] at Y;exact aT<|aF<|rg ag<|p mv<|p (bJ ((i+1 +(s.drop<|i+1).idxOf 93 +1:Nat):Int) ag ag<|bp aj aj)<|p aJ<|nl<|tn<|⟨i+1 +(s.drop<|i+1).idxOf 93 +1,(aj),Y,(bc am Z),(Md.trans I Z),ag⟩
 have G:jq (s.drop i)=some (91::(s.drop<|i+1).take ((s.drop<|i+1).idxOf 93 +1),(s.drop<|i+1).drop ((s.drop<|i+1).idxOf 93 +1)):=by
  rw [aa,J];exact Dj ag aM aj fun h=>by omega
 have Y:=ab.step (j:=i+1 +(s.drop<|i+1).idxOf 93 +1) G<|by rw [rR]; rfl
 rw [Ic J aj] at Y;refine aQ ag<|aQ ag<|aQ ag<|aQ ag<|aQ ag<|aV ag (bD ag)<|p (bD ag)<|nl<|an<|cf ag<|aT<|aF<|rg ag<|p mv<|p (bJ ((i+1 +(s.drop<|i+1).idxOf 93 +1:Nat):Int) ag ag<|bp aj aj)<|p aJ ?_;exact nl<|tn<|⟨i+1 +(s.drop<|i+1).idxOf 93 +1,(aj),Y,(bc am Z),(Md.trans I Z),ag⟩
 have bi:=x5 aA;have aa:=drop_cons (l:=s) (i:=i) 0 aj;have G:jq (s.drop i)=some ([s.getD i 0],s.drop (i+1)):=by rw [aa]; exact Jo bi
 have Y:=ab.step (j:=i+1) G rfl;rw [← aa0 (show i < s.length by omega)] at Y;exact aT<|tn<|⟨i+1,(aj),Y,am,I,ag⟩
 rintro aS aC ⟨j,bC,bh,aO,a5,bq⟩;refine bH bq<|ak fun ae=>aw (ac)<|aw (str s)<|aw (ay i)<|aw (ay j)<|p (ng u9 ag ag ag aj)<|p (dt (ps:= [(0,str ((s.take j).drop i))]) (L:= [str ((s.take j).drop i)]) ada ag<|ag)<|e<|lF OJ ag ag ag fun bu bt bv ax a3=> ?_;have aK:Wk w bt:=Md.trans a5 ax.md;refine e<|ap OJ (bc aO ax.md) ag (by have :=aK.size; omega) ag (aR.dZ a3) (ag) (ag) aj aj fun bs bG bk a6 bE bA=> ?_;have a4:=Wk.own aK (bc aO ax.md) a6<|cU _;have bm:=abd bk;exact az<|ae<|rg ag<|aw (ay j)<|p (cV (ay j) ag)<|nl<|bn<|tn<|⟨_,aj,j,C++ [(s.take j).drop i],bs,(by rw [bP,fE]; omega),bh,bm,a4,ag,ag⟩
 refine ext<|bj<|bj<|be<|a1<|aH fun ao=>aH fun ae=> ?_;obtain ⟨au,av,rfl⟩:=cM am;have V:=ab.done aj;refine rg ag<|aw (.slice au C.length av)<|p (bN tY ag ag)<|p (gt ag ag)<|nl<|ae<|cd ag (fun ba=> ?_) fun ba=> ?_;refine ak fun ah=>p aJ<|az<|ah<|rt<|tr<|f2 ag ag ag ?_;have A:dE s=([],42):=by unfold dE; rw [if_neg (fun h=>h.elim (fun h=>by rw [h] at E; exact E rfl) fun h=>by omega),if_neg O,V]; exact if_pos aj
 exact ⟨⟨.slice none 0 0,by rw [A]; rfl,by rw [A]; exact dC _ _ _ _⟩,I⟩;refine aT<|ao<|ak fun ah=>aw (.slice au C.length av)<|p (cV (.slice au C.length av) ag)<|p aJ<|nl<|ah<|rt<|f2 ag ag ag ?_;have A:dE s=(C,0):=by unfold dE; rw [if_neg (fun h=>h.elim (fun h=>by rw [h] at E; exact E rfl) fun h=>by omega),if_neg O,V]; exact if_neg aj
 exact ⟨⟨_,by rw [A]; rfl,by rw [A]; exact am⟩,I⟩
theorem ab7 (ps:List (List UInt8)) (a:Option Addr) (c:Nat) (w:World) (V:aR w.heap a (ps.map str)) (hn:ps.length≤4096) (Y:∀ t∈ps,(t.length=1∨3≤t.length)∧t.length≤1048576):
 bw aE 274 (bl [.slice a ps.length c]) w (fun v w'=>v=str (nf ps)∧Wk w w'):=by
 refine enter func274 ag ntmps274 ag<|ak fun Z=>az<|Z<|aH fun ab=>ak fun ac=>aw (.slice a ps.length c)<|p (bN tY ag ag)<|p (bT ag ag)<|nl<|ac<|cd ag (fun G=> ?_) fun G=> ?_;exact ak fun C=>az<|C<|rt<|tr<|ba ag<|⟨by unfold nf; rw [if_pos (fY aj)]; rfl,Md.refl _ _⟩
 refine aT<|ab<|ak fun C=>az<|C<|aH fun ae=>ak fun ah=>az<|ah<|aW<|lp (fun O J I=> ∃ (i:Nat),(i≤ps.length)∧(Wk w I)∧(((ps.take i).flatMap fun t=>iR<|di t).length≤i*300)∧(J 3=str ((ps.take i).flatMap fun t=>iR<|di t))∧(Sl J [(0,.slice a ps.length c),(4,ay i)])∧(ps.length - i=O)) _ ⟨0,aj,(Md.refl _ _),(by simp),(by first | rfl | (rw [fX ps i [] aj,o4,rS]; rfl)),ag,ag⟩ ?_;rintro O J I ⟨i,hi,A,hlen,ap,ao,rfl⟩;refine bH ao<|fx 3 ap<|aH fun ai=>ak fun al=>aw (ay i)<|aw (.slice a ps.length c)<|p (bN tY ag ag)<|p (lt ag ag)<|nl<|al<|cd ag (fun an=> ?_) fun an=> ?_;refine aT<|ai<|aH fun E=>aW<|ak fun aa=>aw (.slice a ps.length c)<|aw (ay i)<|p (bh KA ag ag aj<|aR.ok (V.wk A)<|bY aj)<|p (dp uJ ag (ag) (show ∀ j,j < 1→Hb.a7 I.heap (bk a) (fo a+i*1 +j)= [str (ps.getD i [])][j]? from fun j aq=>by cases j with | zero=>exact (MZ (V.wk A) aj) | succ j=>omega))<|e<|cl TU (acG (ps.getD i []) _ (Y _<|ek aj).1 (Y _<|ek aj).2) ag ?_;rintro av ax ⟨rfl,am⟩;have au:=F5<|di<|ps.getD i [];exact az<|aa<|rg ag<|aw (str<|(ps.take i).flatMap fun t=>iR<|di t)<|p mv<|p (cc ag ag aj)<|p aJ<|nl<|bn<|E<|rg ag<|aw (ay i)<|p (bJ ((i+1:Nat):Int) ag ag<|bp aj aj)<|p aJ<|nl<|tn<|⟨_,aj,i+1,aj,(Md.trans A am),(by rw [fX ps i [] aj,o4,rS,bP]; omega),(by first | rfl | (rw [fX ps i [] aj,o4,rS]; rfl)),ag,ag⟩
 exact ext<|bj<|bj<|be<|ae<|ak fun E=>aw (str<|(ps.take i).flatMap fun t=>iR<|di t)<|p (cV (str<|(ps.take i).flatMap fun t=>iR<|di t) ag)<|nl<|E<|rt<|ba ag<|⟨by unfold nf; rw [if_neg (fun h=>by rw [h] at G; exact G ag),show ps.take i=ps from eK aj]; rfl,A⟩
end Go.Hb
end
section
namespace Go.Hb
open Go.Hb.kL
theorem LP {α:Type} {l:List α} {i:Nat} {d:α} (h:i < l.length):l.getD i d∈l:=by
 rw [da,cz h]; exact List.getElem_mem h
theorem FM (s:List UInt8) (w:World) (hs:s.length≤1048576):
 bw aE 94 (bl [str s]) w (fun v w'=>bB w' w.heap.size 9 1 (v) (bU s).length ((bU s).map str)∧Wk w w'):=by
 refine enter func94 ag ntmps94 ag<|ak fun aZ=>az<|aZ ?_;refine ez (fun aX aV=>(Wk w aV)∧(aX 0=str (lT s))) ?_ ?_;refine ak fun am=>aw (str s)<|e<|cl SO (xV s _) ag ?_;rintro b5 cc ⟨rfl,aN⟩;refine nl<|am<|cb ag (fun ab=> ?_) fun ab=> ?_;have bZ:=aal ab;exact rg ag<|aw (str s)<|p (ni u9 ag ag aj)<|p aJ<|nl<|tn<|⟨aN,by show str (s.drop 3)=_; rw [ad4 ab]⟩
 exact aT<|tn<|⟨aN,by show str s=_; rw [ad3 ab]⟩
 rintro aX aV ⟨aF,bD⟩;refine fx 0 bD ?_;have b1:=BB s;refine ak fun am=>az<|am<|ak fun a0=>e<|mQ jj fun aB aS bN bo a6=> ?_;have bA:bB aS w.heap.size 5 1 (.slice (some ⟨aB,0,none⟩) 0 0) (([]:List UInt8)).length (U8<|([]:List UInt8)):=a6 _<|by have :=aF.size; omega
 have bd:Wk w aS:=Md.trans aF bo.md;refine az<|a0<|ak fun a1=>az<|a1<|aH fun a2=>ak fun a3=>az<|a3<|aW<|lp (fun aD aY ae=> ∃ (i:Nat) (C:List (List UInt8)) (A:List UInt8) (ob:Bool) (G ac:Value),(i≤(lT s).length)∧(C++gR A ((lT s).drop i)=bU s)∧(ob=decide (A≠[]))∧(A.length≤i)∧(Wk w ae)∧(bB ae w.heap.size 9 1 (G) (C).length<|(C).map str)∧(bB ae w.heap.size 5 1 (ac) (A).length<|U8<|A)∧(Sl aY [(0,str (lT s)),(3,G),(4,ac),(5,.bool ob),(6,.int .i64 i)])∧((lT s).length - i=aD)) _ ⟨0,[],[],false,.slice none 0 0,.slice (some ⟨aB,0,none⟩) 0 0,aj,ag,ag,(by simp),bd,(dC _ _ _ _),bA,ag,ag⟩ ?_;rintro aD aY ae ⟨i,C,A,ob,G,ac,hi,hd,aQ,bT,Z,I,E,bE,rfl⟩;refine bH bE ?_;have bV:C.length≤s.length+1:=by have h1:=congrArg jV hd; have h2:=pS s; rw [bP] at h1; omega
 have b0:=Z.size;refine aH fun a4=>ak fun a5=>aw (.int .i64 i)<|aw (str<|lT s)<|p (c8 u9 ag ag)<|p (lt ag ag)<|nl<|a5<|cd ag (fun bq=> ?_) fun bq=> ?_;refine aT<|a4<|aH fun O=>aW<|aH fun ah=>ak fun J=>aw (str<|lT s)<|aw (.int .i64 i)<|p (fC u9 ag ag aj)<|p (dw ag ag)<|nl<|J<|cd ag (fun av=> ?_) fun av=> ?_;refine ak fun ai=>aw (ac)<|aw (str<|lT s)<|aw (.int .i64 i)<|p (fC u9 ag ag aj)<|e<|fU jj ag ag fun bK bG bO aa a7=> ?_;have aG:Wk w bG:=Md.trans Z aa.md;refine e<|ap jj (bc E aa.md) ag (by have :=aG.size; omega) ag (aR.dZ a7) (ag) (ag) aj aj fun bF b6 br aO b2 bW=> ?_;have bf:=Wk.own aG (bc E aa.md) aO<|cU _;have bs:=sK br;have bz:=dz (bc I aa.md) aO fun k hk=>nT I E aM hk;exact az<|ai<|ak fun al=>az<|al<|ext<|bj<|be<|O<|rg ag<|aw (.int .i64 i)<|p (ad ag ag<|cR aj)<|p aJ<|nl<|tn<|⟨_,aj,i+1,C,A++ [(lT s).getD i 0],true,G,bF,aj,(by rw [drop_cons 0 aj,EV (aaU av)] at hd; exact hd),(by simp),(by rw [bP,fE]; omega),bf,bz,bs,ag,ag⟩
 have bp:=Zv<|GY av;obtain ⟨V,Y,rfl⟩:=cM E;refine aT<|ah<|ak fun ai=>aw (G)<|aw (.slice V A.length Y)<|e<|cl Iv (Ko A V Y _ (bg E).2 aj (bg E).1) ag ?_;rintro v30 b7 ⟨rfl,an⟩;refine e<|fU eY ag ag fun bL bI bQ aq a8=> ?_;have aI:Wk w bI:=Md.trans (Md.trans Z an) aq.md;refine e<|ap eY (bc (bc I an) aq.md) ag (by have :=aI.size; omega) ag (aR.dZ a8) (ag) (ag) aj aj fun v32 b8 bt bk b3 bX=> ?_;have aK:=Wk.own aI (bc (bc I an) aq.md) bk<|cU _;have bu:=nU bt;refine az<|ai<|ak fun al=>e<|mQ jj fun aC aU bR aP a9=> ?_;have bh:Wk w aU:=Md.trans aK aP.md;have bC:bB aU w.heap.size 5 1 (.slice (some ⟨aC,0,none⟩) 0 0) (([]:List UInt8)).length (U8<|([]:List UInt8)):=a9 _<|by have :=aK.size; omega
 exact az<|al<|rg ag<|p aJ<|nl<|bn<|O<|rg ag<|aw (.int .i64 i)<|p (ad ag ag<|cR aj)<|p aJ<|nl<|tn<|⟨_,aj,i+1,C++ [ko A],[],false,v32,.slice (some ⟨aC,0,none⟩) 0 0,aj,(by rw [drop_cons 0 aj,bp,MW] at hd; rw [e6]; exact hd),ag,(by simp),bh,(bc bu aP.md),bC,ag,ag⟩
 refine ext<|bj<|bj<|be<|a2<|aH fun O=>ak fun ah=>aw (.bool ob)<|nl<|ah<|cb ag (fun ax=> ?_) fun ax=> ?_;have aA:A≠[]:=by have :=aQ.symm.trans ax; exact of_decide_eq_true this
 obtain ⟨V,Y,rfl⟩:=cM E;refine rg ag<|aw (G)<|aw (.slice V A.length Y)<|e<|cl Iv (Ko A V Y _ (bg E).2 aj (bg E).1) ag ?_;rintro v37 b9 ⟨rfl,ao⟩;refine e<|fU eY ag ag fun bM bJ bS au bb=> ?_;have aL:Wk w bJ:=Md.trans (Md.trans Z ao) au.md;refine e<|ap eY (bc (bc I ao) au.md) ag (by have :=aL.size; omega) ag (aR.dZ bb) (ag) (ag) aj aj fun v39 ca bv bm b4 bY=> ?_;have bi:=Wk.own aL (bc (bc I ao) au.md) bm<|cU _;have bx:=nU bv;refine az<|O<|ak fun J=>p mv<|p aJ<|nl<|J<|rt<|ba ag ?_;have ay:C++ [ko A]=bU s:=by rw [← hd,show List.drop i (lT s)= [] from iS aj,MV aA]
 exact ⟨by rw [← ay]; exact bx,bi⟩;have aA:A= []:=GY<|of_decide_eq_false<|aQ.symm.trans ax;refine aT<|O<|ak fun J=>aw (G)<|p (cV (G) ag)<|nl<|J<|rt<|ba ag ?_;have ay:C=bU s:=by rw [← hd,show List.drop i (lT s)= [] from iS aj,aA,EW,eJ]
 exact ⟨by rw [← ay]; exact I,Z⟩
set_option maxHeartbeats 1000000 in
theorem Ob (s:List UInt8) (w:World) (hs:s.length≤1048576):
 bw aE 93 (bl [str s]) w (fun v w'=>(∃ a,v= .tuple #[a,.int .i64 (if 65536 < s.length then 10 else 0)]∧(if 65536 < s.length then a= .slice none 0 0 else ∃ vs,bB w' w.heap.size 209 2 a (cx s).length (lr vs)∧ja w' w.heap.size 9 vs (cx s)))∧Wk w w'):=by
 refine enter func93 ag ntmps93 ag<|ak fun bb=>p aJ<|az<|bb<|aH fun bm=>aH fun bo=>rg ag<|aw (str s)<|p (c8 u9 ag ag)<|p (gt ag ag)<|nl<|bo<|cd ag (fun bC=> ?_) fun bC=> ?_;refine ak fun aI=>p aJ<|az<|aI<|rt<|tr<|f2 ag ag ag ?_;have aq:65536 < s.length:=aj;exact ⟨⟨.slice none 0 0,by show ij #[.slice none 0 0,.int .i64 10]=_; rw [if_pos aq],by rw [if_pos aq]⟩,Md.refl _ _⟩;refine aT<|bm<|ak fun aI=>az<|aI<|aH fun bq=>rg ag<|aw (str s)<|e<|cl Dd (FM s _ hs) ag ?_;rintro ca ah ⟨a6,aO⟩;obtain ⟨ax,aB,rfl⟩:=cM a6;have a4:=(bg a6).2;have b6:=pS s;refine az<|bq<|aH fun br=>ak fun bs=>p aJ<|nl<|bs<|aW<|lp (fun al a9 aG=> ∃ (i:Nat) (O:Value) (vs:List (Nat×Value)),(i≤(bU s).length)∧(Wk ah aG)∧(bB aG ah.heap.size 209 2 O (mo 1<|(bU s).take i).length<|lr vs)∧(ja aG ah.heap.size 9 vs<|mo 1<|(bU s).take i)∧(Sl a9 [(4,O),(5,.slice ax (bU s).length aB),(6,.int .i64 i)])∧((bU s).length - i=al)) _ ⟨0,.slice none 0 0,[],aj,(Md.refl _ _),(dC _ _ _ _),(ja.nil _ _ _),ag,ag⟩ ?_;rintro al a9 aG ⟨i,O,vs,hi,an,J,ae,bR,rfl⟩;refine bH bR ?_;have bQ:=FR ((bU s).take i) 1;rw [dM] at bQ;have b7:=an.size;refine aH fun bt=>aH fun bu=> ?_;have b5:((bU s).getD i []).length≤s.length:=by rcases fT i (bU s).length with h | h <;> first | exact ET (LP h) | (rw [da,List.getElem?_eq_none h]; exact iK _)
 refine rg ag<|aw (.int .i64 i)<|aw (.slice ax (bU s).length aB)<|p (bN ee ag ag)<|p (lt ag ag)<|nl<|bu<|cd ag (fun bE=> ?_) fun bE=> ?_;refine aT<|bt<|aH fun ab=>aW<|ak fun bd=>p aJ<|nl<|bd<|ak fun bf=>aw (.slice ax (bU s).length aB)<|aw (.int .i64 i)<|p (bh cE ag ag aj<|aR.ok (a4.wk an)<|bY aj)<|p (ld bW ag<|cw.get (i:=i) (a4.wk an) aj)<|e<|cl SN (abX ((bU s).getD i []) _ aj) ag ?_;rintro v25 aF ⟨a7,E⟩;obtain ⟨av,aA,rfl⟩:=cM a7;have aC:=(bg a7).2;have ac:Wk ah aF:=Md.trans an E;have b3:=xA ((bU s).getD i []) [];refine az<|bf<|aH fun a1=>ak fun bi=>p aJ<|nl<|bi<|aW<|lp (fun al ba a0=> ∃ (j:Nat) (aD:Value),(j≤(dj []<|(bU s).getD i []).length)∧(∀ q,q < j→yd ((dj []<|(bU s).getD i []).getD q [])=false)∧(Wk aF a0)∧(bB a0 aF.heap.size 9 1 (aD) ((dj []<|(bU s).getD i []).take j).length<|((dj []<|(bU s).getD i []).take j).map str)∧(Sl ba [(4,O),(5,.slice ax (bU s).length aB),(6,.int .i64 i),(7,aD),(8,.slice av (dj []<|(bU s).getD i []).length aA),(9,.int .i64 j)])∧((dj []<|(bU s).getD i []).length - j=al)) _ ⟨0,.slice none 0 0,aj,(fun q bO=>by omega),(Md.refl _ _),(dC _ _ _ _),ag,ag⟩ ?_;rintro al ba a0 ⟨j,aD,a5,aX,A,Y,bS,rfl⟩;refine bH bS ?_;have b4:((dj []<|(bU s).getD i []).take j).length≤j:=by rw [dM]; omega
 have b8:=A.size;refine aH fun bk=>ak fun a2=>aw (.int .i64 j)<|aw (.slice av (dj []<|(bU s).getD i []).length aA)<|p (bN ee ag ag)<|p (lt ag ag)<|p mv<|gs (t:=30) ag (fun bK=> ?_) fun bK=> ?_;refine aV ag (a8 (.slice av (dj []<|(bU s).getD i []).length aA) ag)<|aV ag (a8 (.int .i64 j) ag)<|aV ag (bh cE ag ag aj<|aR.ok (aC.wk A)<|bY aj)<|aV ag (ld bW ag<|cw.get (i:=j) (aC.wk A) aj)<|aV ag (jQ 0 u9 ag ag<|mr.2 (DX _ _ _<|LP aj).1)<|aV ag (dw ag ag)<|p (bI ag)<|nl<|a2<|cd ag (fun bF=> ?_) fun bF=> ?_;refine aT<|bk<|aH fun ai=>aW<|rg ag<|aw (aD)<|aw (.slice av (dj []<|(bU s).getD i []).length aA)<|aw (.int .i64 j)<|p (bh cE ag ag aj<|aR.ok (aC.wk A)<|bY aj)<|p (ld bW ag<|cw.get (i:=j) (aC.wk A) aj)<|e<|fU eY ag ag fun b0 bV b1 aS bv=> ?_;have a3:Wk aF bV:=Md.trans A aS.md;refine e<|ap eY (bc Y aS.md) ag (by have :=a3.size; omega) ag (aR.dZ bv) (ag) (ag) aj aj fun v46 cb bL bz b9 b2=> ?_;have bx:=Wk.own a3 (bc Y aS.md) bz<|cU _;have bM:=nU bL;exact p aJ<|nl<|bn<|ai<|rg ag<|aw (.int .i64 j)<|p (ad ag ag<|cR aj)<|p aJ<|nl<|tn<|⟨_,aj,j+1,v46,aj,(fun q bO=>by rcases fT q j with h | h <;> first | exact aX q h | (rw [show q=j by omega]; exact decide_eq_false aj)),bx,(by rw [fX _ j [] aj]; exact bM),ag,ag⟩
 have ao:pR (dj []<|(bU s).getD i [])=((dj []<|(bU s).getD i []).take j):=Ay a5 aX<|.inr<|decide_eq_true aj;obtain ⟨G,I,rfl⟩:=cM Y;refine ext<|bj<|bj<|be<|a1<|ak fun ai=>p (a8 (.slice G ((dj []<|(bU s).getD i []).take j).length I) ag)<|p (bN ee ag ag)<|p (gt ag ag)<|nl<|ai<|cd ag (fun aa=> ?_) fun aa=> ?_;have V:ml ((bU s).getD i []) (1 +i)= [(i+1,((dj []<|(bU s).getD i []).take j))]:=by unfold ml; rw [ao,if_neg (fun h=>by rw [h] at aa; simp at aa),Q4]
 refine rg ag<|aw (O)<|aw (.int .i64 i)<|p (bJ ((i+1:Nat):Int) ag ag<|bp aj aj)<|p (a8 (.slice G ((dj []<|(bU s).getD i []).take j).length I) ag)<|p (dt (ps:= [(0,ay (i+1)),(1,.slice G ((dj []<|(bU s).getD i []).take j).length I)]) (L:= [ay (i+1),.slice G ((dj []<|(bU s).getD i []).take j).length I]) OR ag<|ag)<|e<|lF A9 ag ag ag fun aK au bA C aL=> ?_;have aN:bX au.heap aK [ay (i+1),.slice G ((dj []<|(bU s).getD i []).take j).length I]:=aL;have am:Wk ah au:=Md.trans ac<|Md.trans A C.md;refine e<|ap A9 (bc (bc (bc J E) A) C.md) ag (by have :=am.size; omega) ag (aR.dZ aN) (ag) (ag) aj aj fun aZ bZ aU Z bT bG=> ?_;have aP:=Wk.own am (bc (bc (bc J E) A) C.md) Z<|cU _;have aY:=((((ae.wk E).wk A).wk C.md).md Z<|ji (bc (bc (bc J E) A) C.md) aM).snoc (n:=i+1)<|Tg.kj<|eT (dz (bc Y C.md) Z fun k hk=>nT (bc Y C.md) (bc (bc (bc J E) A) C.md) aM hk)<|by have :=Md.size ac; omega
 exact p aJ<|nl<|bn<|ab<|rg ag<|aw (.int .i64 i)<|p (ad ag ag<|cR aj)<|p aJ<|nl<|tn<|⟨_,aj,i+1,aZ,vs++ [(i+1,.slice G ((dj []<|(bU s).getD i []).take j).length I)],aj,aP,(by rw [fX _ i [] aj,oT,show ((bU s).take i).length=i from by rw [dM]; omega,V,bP,F1]; exact aU),(by rw [fX _ i [] aj,oT,show ((bU s).take i).length=i from by rw [dM]; omega,V]; exact aY),ag,ag⟩
 have V:∀ n,ml ((bU s).getD i []) n= []:=fun n=>by unfold ml; rw [ao,if_pos (yP.1 aj)]
 exact aT<|bn<|ab<|rg ag<|aw (.int .i64 i)<|p (ad ag ag<|cR aj)<|p aJ<|nl<|tn<|⟨_,aj,i+1,O,vs,aj,(Md.trans ac A),(by rw [fX _ i [] aj,oT,V,eJ]; exact bc (bc J E) A),(by rw [fX _ i [] aj,oT,V,eJ]; exact (ae.wk E).wk A),ag,ag⟩
 have ao:pR (dj []<|(bU s).getD i [])=((dj []<|(bU s).getD i []).take j):=Ay a5 aX<|.inl aj;obtain ⟨G,I,rfl⟩:=cM Y;refine aQ ag<|aQ ag<|aQ ag<|aQ ag<|aQ ag<|aQ ag<|p (bD ag)<|nl<|a2<|cf ag<|ext<|bj<|bj<|be<|a1<|aH fun ai=> ?_;refine rg ag<|p (a8 (.slice G ((dj []<|(bU s).getD i []).take j).length I) ag)<|p (bN ee ag ag)<|p (gt ag ag)<|nl<|ai<|cd ag (fun aa=> ?_) fun aa=> ?_;have V:ml ((bU s).getD i []) (1 +i)= [(i+1,((dj []<|(bU s).getD i []).take j))]:=by unfold ml; rw [ao,if_neg (fun h=>by rw [h] at aa; simp at aa),Q4]
 refine rg ag<|aw (O)<|aw (.int .i64 i)<|p (bJ ((i+1:Nat):Int) ag ag<|bp aj aj)<|p (a8 (.slice G ((dj []<|(bU s).getD i []).take j).length I) ag)<|p (dt (ps:= [(0,ay (i+1)),(1,.slice G ((dj []<|(bU s).getD i []).take j).length I)]) (L:= [ay (i+1),.slice G ((dj []<|(bU s).getD i []).take j).length I]) OR ag<|ag)<|e<|lF A9 ag ag ag fun aK au bA C aL=> ?_;have aN:bX au.heap aK [ay (i+1),.slice G ((dj []<|(bU s).getD i []).take j).length I]:=aL;have am:Wk ah au:=Md.trans ac<|Md.trans A C.md;refine e<|ap A9 (bc (bc (bc J E) A) C.md) ag (by have :=am.size; omega) ag (aR.dZ aN) (ag) (ag) aj aj fun aZ bZ aU Z bT bG=> ?_;have aP:=Wk.own am (bc (bc (bc J E) A) C.md) Z<|cU _;have aY:=((((ae.wk E).wk A).wk C.md).md Z<|ji (bc (bc (bc J E) A) C.md) aM).snoc (n:=i+1)<|Tg.kj<|eT (dz (bc Y C.md) Z fun k hk=>nT (bc Y C.md) (bc (bc (bc J E) A) C.md) aM hk)<|by have :=Md.size ac; omega
 exact p aJ<|nl<|bn<|ab<|rg ag<|aw (.int .i64 i)<|p (ad ag ag<|cR aj)<|p aJ<|nl<|tn<|⟨_,aj,i+1,aZ,vs++ [(i+1,.slice G ((dj []<|(bU s).getD i []).take j).length I)],aj,aP,(by rw [fX _ i [] aj,oT,show ((bU s).take i).length=i from by rw [dM]; omega,V,bP,F1]; exact aU),(by rw [fX _ i [] aj,oT,show ((bU s).take i).length=i from by rw [dM]; omega,V]; exact aY),ag,ag⟩
 have V:∀ n,ml ((bU s).getD i []) n= []:=fun n=>by unfold ml; rw [ao,if_pos (yP.1 aj)]
 exact aT<|bn<|ab<|rg ag<|aw (.int .i64 i)<|p (ad ag ag<|cR aj)<|p aJ<|nl<|tn<|⟨_,aj,i+1,O,vs,aj,(Md.trans ac A),(by rw [fX _ i [] aj,oT,V,eJ]; exact bc (bc J E) A),(by rw [fX _ i [] aj,oT,V,eJ]; exact (ae.wk E).wk A),ag,ag⟩
 refine ext<|bj<|bj<|be<|br<|ak fun ab=>aw (O)<|p (cV (O) ag)<|az<|ab<|rt<|f2 ag ag ag ?_;have aq:¬65536 < s.length:=aj;rw [show (bU s).take i=bU s from eK aj] at J ae;exact ⟨⟨O,by show ij #[O,.int .i64 0]=_; rw [if_neg aq],by rw [if_neg aq]; exact ⟨vs,eT J aO.size,ae.mono aO.size⟩⟩,Md.trans aO an⟩
end Go.Hb
end
section
namespace Go.Hb.uE
open Go.Hb.jX Go.Hb.mL Go.Hb.pc Go.Hb.yX Go.Hb.kL
theorem yj {s:Tx} {k:Tx} {i:Nat} (h:s=k) (h1:k∈eF) (h2:eF.idxOf k=i):ry s=(i:Nat):=by subst h; unfold ry; rw [if_pos h1,h2]
theorem acR {s:Tx} (h:s∉eF):ry s= -1:=if_neg h
def vH:List Tx:= [jh,jt,jz,kU,fQ,ff]
theorem PE {s:Tx} (h:s∈eF):width s=2:=if_pos<|.inl h
theorem aeq {s:Tx} (h:s∈vH):width s=2:=by
 unfold width;rw [if_pos];simpa [vH] using Or.inr (eL.1 h)
theorem PF {s:Tx} (h:s=gx∨s=dG):width s=4:=by
 unfold width;rw [if_neg,if_pos h];rcases h with rfl | rfl <;> decide
theorem aer {s:Tx} (h:s∉eF) (h1:s∉vH) (h2:s≠gx) (h3:s≠dG):width s=0:=by
 unfold width;rw [if_neg,if_neg (by simp [h2,h3])];intro h4;rcases h4 with h4 | h4
 · exact h h4
 · exact h1<|by simpa [vH] using h4
theorem LS {F:aX} {V:eM} {i:Nat} (hi:i < 5):(pP F V).toArray[0 +3 +((i:Nat):Int).toNat*1]? =some (bV<|F.sp.getD i 0):=by
 match i,hi with
 | 0,_=>rfl
 | 1,_=>rfl
 | 2,_=>rfl
 | 3,_=>rfl
 | 4,_=>rfl
theorem vy {x:Nat} {l:List Nat} (h:∀ j,j < l.length→l.getD j 0≠x):x∉l:=fun hm=>by
 obtain ⟨j,A,e⟩:=mY 0 hm;exact h j A e
theorem Xs {x:Nat} :∀ {cs:List dD} {i:Nat} {c:dD},(∀ j,j < i→(cs.getD j pE).flag≠x)→cs[i]? =some c→c.flag=x→eB cs x=some c:=by
 intro cs
 induction cs with
 | nil=>intro i c _ h; simp at h
 | cons a l G=>
   intro i c C hi E;unfold eB;rw [List.find?_cons];cases i with
   | zero=>simp only [wv,gM] at hi; subst hi; simp [E]
   | succ i=>
     have A:=C 0 aj;simp only [mq] at A;rw [decide_eq_false A];exact G (i:=i) (fun j I=>by have :=C (j+1) aj; simpa using this) (by simpa using hi) E
theorem Xu {x:Nat} {cs:List dD} (h:∀ j,j < cs.length→(cs.getD j pE).flag≠x):eB cs x=none:=by
 unfold eB;rw [List.find?_eq_none];intro c A;obtain ⟨j,C,e⟩:=mY pE A;have :=h j C;rw [e] at this;simpa using this
theorem Ya (l:List dD):(sw l).length=l.length*5:=mV (f:=oK) (m:=5) (fun _=>rfl) _
theorem An {l:List dD} (h:0 < l.length):sw l≠[]:=fun h2=>by have :=congrArg jV h2; rw [Ya] at this; simp at this; omega
theorem xn {l:List dD} {i:Nat} (h:i < l.length):l[i]? =some (l.getD i pE):=by rw [da,cz h]; rfl
theorem J0 {F:aX} {x:Nat} (h:x∈F.sp):e8 F x=true :=by unfold e8; rw [decide_eq_true h]; rfl
theorem Ka {F:aX} {x:Nat} (h:x∉F.sp):e8 F x=(eB F.bG x).isSome:=by unfold e8; rw [decide_eq_false h]; rfl
theorem AR {s:Tx} (h:s∈eF∨s=ff∨s=gx∨s=dG):s∈mm:=by
 rcases h with h | rfl | rfl | rfl
 · have :∀ k∈eF,k∈mm:=aM;exact this s h
 all_goals decide
theorem aa9 {s:Tx} (h:s∉eF) (h1:s≠ff) (h2:s≠gx) (h3:s≠dG):s∉mm:=by
 intro h4;have :∀ k∈mm,k∈eF∨k=ff∨k=gx∨k=dG:=aM;rcases this s h4 with h5 | h5 | h5 | h5
 · exact h h5
 · exact h1 h5
 · exact h2 h5
 · exact h3 h5
theorem AS {seen:List Tx} (h:∀ j,j < seen.length→seen.getD j []∉mm):ordered seen=true :=by
 rw [Fs];intro k hk C;obtain ⟨j,A,e⟩:=mY [] C;exact h j A<|e ▸ hk
theorem Ev (s:Tx) (w:World):
 bw aE 151 (bl [str s]) w (fun v w'=>v= .int .i64 (ry s)∧w'=w):=by
 refine enter func151 ag ntmps151 ag<|ak fun aa=>az<|aa<|aH fun ab=>ak fun ac=>aw (str s)<|nl<|ac<|aW<|ak fun ae=>p (ew ag ag)<|p aJ<|nl<|ae<|cd ag (fun V=> ?_) fun V=> ?_;exact ak fun A=>az<|A<|rt<|br<|tr<|ba ag<|⟨by rw [yj (k:=kV) (i:=0) V aM aM]; rfl,ag⟩
 refine ak fun A=>p (ew ag ag)<|az<|A<|cd ag (fun Y=> ?_) fun Y=> ?_;exact ak fun C=>az<|C<|rt<|br<|tr<|ba ag<|⟨by rw [yj (k:=lg) (i:=1) Y aM aM]; rfl,ag⟩
 refine ak fun C=>p (ew ag ag)<|az<|C<|cd ag (fun Z=> ?_) fun Z=> ?_;exact ak fun E=>az<|E<|rt<|br<|tr<|ba ag<|⟨by rw [yj (k:=lM) (i:=2) Z aM aM]; rfl,ag⟩
 refine ak fun E=>p (ew ag ag)<|az<|E<|cd ag (fun J=> ?_) fun J=> ?_;exact ak fun G=>az<|G<|rt<|br<|tr<|ba ag<|⟨by rw [yj (k:=mj) (i:=3) J aM aM]; rfl,ag⟩
 refine ak fun G=>p (ew ag ag)<|az<|G<|cd ag (fun O=> ?_) fun O=> ?_;exact ak fun I=>az<|I<|rt<|br<|tr<|ba ag<|⟨by rw [yj (k:=mE) (i:=4) O aM aM]; rfl,ag⟩
 exact aT<|bn<|ab<|ak fun I=>az<|I<|rt<|ba ag<|⟨by rw [acR (by unfold eF; simp only [eL,wH,or_false,not_or]; exact ⟨V,Y,Z,J,O⟩)]; rfl,ag⟩
theorem YD (s:Tx) (w:World):
 bw aE 95 (bl [str s]) w (fun v w'=>v=ay (width s)∧Wk w w'):=by
 refine enter func95 ag ntmps95 ag<|ak fun am=>az<|am<|ak fun ap=>aw (str s)<|e<|cl CN (Ev s w) ag ?_;rintro v5 aF ⟨rfl,aD⟩;have E:Wk w aF:=by rw [aD]; exact Md.refl _ _
 refine az<|ap<|aH fun aq=>ak fun au=>p mv<|p (ge ag ag)<|nl<|au<|cd ag (fun Z=> ?_) fun Z=> ?_;have I:=vI.1 Z;exact ak fun J=>az<|J<|rt<|tr<|ba ag<|⟨by rw [PE I]; rfl,E⟩
 have I:s∉eF:=fun h=>Z<|vI.2 h;refine aT<|aq<|aH fun J=>ak fun av=>aw (str s)<|nl<|av<|aW ?_;refine ez (fun aj ah=> ∃ (b:Bool),(b=decide (s∈vH))∧(Wk w ah)∧(Sl aj [(8,str s),(9,.bool b)])) ?_ ?_;refine ak fun C=>p (ew ag ag)<|az<|C<|cd ag (fun A=> ?_) fun A=> ?_;exact aT<|tn<|⟨_,(by rw [A]; decide),E,ag⟩
 refine ak fun ax=>p (ew ag ag)<|az<|ax<|cd ag (fun A=> ?_) fun A=> ?_;exact aT<|tn<|⟨_,(by rw [A]; decide),E,ag⟩
 refine ak fun aA=>p (ew ag ag)<|az<|aA<|cd ag (fun A=> ?_) fun A=> ?_;exact aT<|tn<|⟨_,(by rw [A]; decide),E,ag⟩
 refine ak fun an=>p (ew ag ag)<|az<|an<|cd ag (fun A=> ?_) fun A=> ?_;exact aT<|tn<|⟨_,(by rw [A]; decide),E,ag⟩
 refine ak fun ao=>p (ew ag ag)<|az<|ao<|cd ag (fun A=> ?_) fun A=> ?_;exact aT<|tn<|⟨_,(by rw [A]; decide),E,ag⟩
 exact rg ag<|p (ew ag ag)<|p aJ<|nl<|tn<|⟨_,(by clear I; unfold vH; simp_all [jh,jt,jz,kU,fQ,ff]),E,ag⟩
 rintro aj ah ⟨b,Y,V,ae⟩;refine bH ae<|cb ag (fun A=> ?_) fun A=> ?_;exact ak fun C=>az<|C<|rt<|br<|tr<|ba ag<|⟨by rw [aeq (of_decide_eq_true<|Y.symm.trans A)]; rfl,V⟩
 refine ez (fun al ai=> ∃ (O:Bool),(O=decide (s=gx∨s=dG))∧(Wk w ai)∧(Sl al [(16,.bool O)])) ?_ ?_;refine ak fun C=>p (ew ag ag)<|az<|C<|cd ag (fun G=> ?_) fun G=> ?_;exact aT<|tn<|⟨_,(by rw [G]; decide),V,ag⟩
 exact rg ag<|p (ew ag ag)<|p aJ<|nl<|tn<|⟨_,(by clear Y ae; simp [gx,dG,G]),V,ag⟩
 rintro al ai ⟨O,ac,ab,aC⟩;refine bH aC<|cb ag (fun G=> ?_) fun G=> ?_;exact ak fun C=>az<|C<|rt<|br<|tr<|ba ag<|⟨by rw [PF (of_decide_eq_true<|ac.symm.trans G)]; rfl,ab⟩
 refine aT<|bn<|J<|ak fun C=>az<|C<|rt<|ba ag ?_;have aB:=of_decide_eq_false<|Y.symm.trans A;have aa:=of_decide_eq_false<|ac.symm.trans G;exact ⟨by rw [aer I aB (fun h=>aa<|.inl h) (fun h=>aa<|.inr h)]; rfl,ab⟩
theorem Ew (B:Nat) (H:gT) (k ln:Nat) (seen:List Tx) (vh:Value) (key:Tx) (w:World) (A:iZ w B H k ln seen vh) (ap:seen.length≤70000):
 bw aE 96 (bl [a6 H.rb,str key]) w (fun v w'=>v= .bool (decide (key∈seen))∧w'=w):=by
 obtain ⟨an,ao,rfl⟩:=cM A.hd;refine enter func96 ag ntmps96 ag<|ak fun Y=>az<|Y<|aH fun Z=>ak fun aa=>az<|aa<|aW<|lp (fun G V O=> ∃ (i:Nat),(i≤seen.length)∧(∀ j,j < i→seen.getD j []≠key)∧(O=w)∧(Sl V [(0,a6 H.rb),(1,str key),(5,ay i)])∧(seen.length - i=G)) _ ⟨0,aj,(fun j I=>by omega),ag,ag,ag⟩ ?_;rintro G V O ⟨i,hi,J,ai,am,rfl⟩;refine bH am ?_;subst ai;refine aH fun ab=>ak fun ac=>aw (ay i)<|aw (a6 H.rb)<|p (nc ag)<|p (fa ri ag)<|p (ld ky ag<|(bo A.cells).trans ag)<|p (bN ee ag ag)<|p (lt ag ag)<|nl<|ac<|cd ag (fun al=> ?_) fun al=> ?_;refine aT<|ab<|aH fun C=>aW<|ak fun ae=>aw (a6 H.rb)<|p (nc ag)<|p (fa ri ag)<|p (ld ky ag<|(bo A.cells).trans ag)<|aw (ay i)<|p (bh cE ag ag aj<|aR.ok ((bg A.hd).2)<|bY aj)<|p (ld bW ag<|cw.get (i:=i) (bg A.hd).2 aj)<|aw (str key)<|p (ew ag ag)<|nl<|ae<|cd ag (fun E=> ?_) fun E=> ?_;exact ak fun ah=>az<|ah<|rt<|br<|tr<|tr<|br<|tr<|ba ag<|⟨by rw [decide_eq_true (show key∈seen from E ▸ ek aj)]; rfl,ag⟩
 exact aT<|bn<|C<|rg ag<|aw (ay i)<|p (ad ag ag<|cR aj)<|p aJ<|nl<|tn<|⟨_,aj,i+1,aj,(fun j I=>by rcases fT j i with h | h <;> first | exact J j h | (rw [show j=i by omega]; exact E)),ag,ag,ag⟩
 exact ext<|bj<|bj<|be<|Z<|ak fun C=>p aJ<|nl<|C<|rt<|ba ag<|⟨by rw [decide_eq_false (show ¬key∈seen from fun h=>by obtain ⟨j,I,e⟩:=mY [] h; exact J j aj e)]; rfl,ag⟩
theorem El (B B0 fb:Nat) (F:aX) (V:eM) (x:Nat) (w:World) (aa:e7 w B B0 fb F V) (aN:F.bG.length≤70000):
 bw aE 98 (bl [a6 fb,bV x]) w (fun v w'=>v= .tuple #[.agg (oK<|(eB F.bG x).getD pE).toArray,.bool (eB F.bG x).isSome]∧Wk w w'):=by
 obtain ⟨ax,lG,ac⟩:=cM aa.eS;refine enter func98 ag ntmps98 ag<|ak fun am=>e<|al ub fun aA ae aL G Y=> ?_;have Z:=aa.wk G.md;have I:Hb.a7 ae.heap fb 11=some (.slice ax F.bG.length lG):=by rw [← ac]; exact (bo Z.cells).trans rfl
 have A:=Z.eS;rw [ac] at A;refine az<|am<|aH fun an=>ak fun ao=>p aJ<|nl<|ao<|aW<|lp (fun O ai ah=> ∃ (i:Nat),(i≤F.bG.length)∧(∀ j,j < i→(F.bG.getD j pE).flag≠x)∧(ah=ae)∧(Sl ai [(0,a6 fb),(1,bV x),(4,a6 aA),(6,ay i)])∧(F.bG.length - i=O)) _ ⟨0,aj,(fun j C=>by omega),ag,ag,ag⟩ ?_;rintro O ai ah ⟨i,hi,J,aD,aK,rfl⟩;refine bH aK ?_;subst aD;refine aH fun ap=>ak fun aq=>aw (ay i)<|aw (a6 fb)<|p (nc ag)<|p (fa rh ag)<|p (ld rZ ag<|I)<|p (bN Gw ag ag)<|p (lt ag ag)<|nl<|aq<|cd ag (fun aI=> ?_) fun aI=> ?_;refine aT<|ap<|aH fun E=>aW<|ak fun au=>aw (a6 fb)<|p (nc ag)<|p (fa rh ag)<|p (ld rZ ag<|I)<|aw (ay i)<|p (bh zR ag ag aj<|aR.ok ((bg A).2)<|An aj)<|p (fa Eb ag)<|p (ld bL ag<|fO (f:=oK) (m:=5) (fun _=>rfl) (bg A).2 (xn (by omega :i < F.bG.length)) 0 aM)<|aw (bV x)<|p (bT ag ag)<|nl<|au<|cd ag (fun ab=> ?_) fun ab=> ?_;exact ak fun av=>aw (a6 fb)<|p (nc ag)<|p (fa rh ag)<|p (ld rZ ag<|I)<|aw (ay i)<|p (bh zR ag ag aj<|aR.ok ((bg A).2)<|An aj)<|p (dp uH ag (ag)<|fO (f:=oK) (m:=5) (fun _=>rfl) (bg A).2<|xn (by omega :i < F.bG.length))<|e<|dy sc ag ag ag ag (Y) (by simp) fun aO aF aB=>az<|av<|rt<|br<|tr<|tr<|br<|tr<|eV ag (eo (cs:=oK<|F.bG.getD i pE) ag uH ag fun j C=>aB.bF j) eI<|⟨by rw [Xs J (xn aj) aj]; rfl,G.md.trans' aF fun k hk h=>by omega⟩
 exact aT<|bn<|E<|rg ag<|aw (ay i)<|p (ad ag ag<|cR aj)<|p aJ<|nl<|tn<|⟨_,aj,i+1,aj,(fun j C=>by rcases fT j i with h | h <;> first | exact J j h | (rw [show j=i by omega]; exact fun h2=>ab<|by rw [h2])),ag,ag,ag⟩
 exact ext<|bj<|bj<|be<|an<|ak fun E=>p (dt (ps:= []) (L:= [.int .i64 0,.int .i64 0,.bool false,.int .i64 0,.int .i64 0]) OT ag<|ag)<|e<|dy sc ag ag ag ag (Y) (by simp) fun aP aG aC=>az<|E<|rt<|eV ag (eo (cs:=oK pE) ag uH ag fun j C=>aC.bF j) eI<|⟨by rw [Xu (fun j C=>J j aj)]; rfl,G.md.trans' aG fun k hk h=>by omega⟩
theorem Yb (B B0 fb:Nat) (F:aX) (V:eM) (x:Nat) (w:World) (E:e7 w B B0 fb F V) (av:F.bG.length≤70000):
 bw aE 212 (bl [a6 fb,bV x]) w (fun v w'=>v= .bool (e8 F x)∧Wk w w'):=by
 have aD:=E.gG;refine enter func212 ag ntmps212 ag<|ak fun ab=>az<|ab<|aH fun ac=>ak fun ae=>az<|ae<|aW<|lp (fun I aa G=> ∃ (i:Nat),(i≤5)∧(∀ j,j < i→F.sp.getD j 0≠x)∧(G=w)∧(Sl aa [(0,a6 fb),(1,bV x),(5,ay i)])∧(5 - i=I)) _ ⟨0,aj,(fun j Y=>by omega),ag,ag,ag⟩ ?_;rintro I aa G ⟨i,hi,Z,ao,ax,rfl⟩;refine bH ax ?_;subst ao;refine aH fun ah=>ak fun ai=>aw (ay i)<|p (lt ag ag)<|nl<|ai<|cd ag (fun au=> ?_) fun au=> ?_;refine aT<|ah<|aH fun A=>aW<|ak fun C=>aw (a6 fb)<|aw (ay i)<|p (nc ag)<|p (fa vj ag)<|p (kT uM ag ag aj)<|p (ld bL ag<|(bo E.cells).trans<|LS (i:=i) aj)<|aw (bV x)<|p (bT ag ag)<|nl<|C<|cd ag (fun O=> ?_) fun O=> ?_;exact ak fun am=>az<|am<|rt<|br<|tr<|tr<|br<|tr<|ba ag<|⟨by rw [J0 (show x∈F.sp from by obtain rfl :F.sp.getD i 0=x:=aj; exact ek aj)]; rfl,Md.refl _ _⟩
 exact aT<|bn<|A<|rg ag<|aw (ay i)<|p (ad ag ag<|cR aj)<|p aJ<|nl<|tn<|⟨_,aj,i+1,aj,(fun j Y=>by rcases fT j i with h | h <;> first | exact Z j h | (rw [show j=i by omega]; exact fun h2=>O<|by rw [h2])),ag,ag,ag⟩
 refine ext<|bj<|bj<|be<|ac<|ak fun A=>aw (a6 fb)<|aw (bV x)<|e<|cl Df (El B B0 fb F V x G E av) ag ?_;rintro v23 aG ⟨rfl,J⟩;have aF:=J.size;exact p mv<|p (xt ag ag)<|p (xt ag ag)<|e<|al ub fun aA aI aC aq an=>e<|dy sc ag ag ag ag (an) (by simp) fun aK ap aB=>az<|A<|ak fun C=>p mv<|az<|C<|rt<|ba ag<|⟨by rw [Ka (vy fun j Y=>Z j aj)]; rfl,(J.trans aq.md).trans' ap fun k hk h=>by omega⟩
theorem Em (s:Tx) (w:World) (hs:s.length≤1048576):
 bw aE 273 (bl [str s]) w (fun v w'=>v=ay (iy s)∧Wk w w'):=by
 refine enter func273 ag ntmps273 ag<|ak fun Y=>az<|Y<|ak fun Z=>aw (str s)<|e<|cl xk (ya s w hs) ag ?_;rintro v5 ai ⟨rfl,C⟩;refine az<|Z<|aH fun aa=>ak fun J=>aw (str s)<|p (c8 u9 ag ag)<|p (bT ag ag)<|p mv<|gs (t:=9) ag (fun O=> ?_) fun O=> ?_;have ah:=fY (show s.length=0 by omega);exact aQ ag<|aQ ag<|p (bI ag)<|nl<|J<|ct ag<|ak fun A=>az<|A<|rt<|tr<|ba ag<|⟨by rw [zU (.inl ah)]; rfl,C⟩
 have V:s≠[]:=fun h=>O<|by rw [h]; rfl
 refine aV ag mv<|aV ag (no ag)<|p (bD ag)<|nl<|J<|cb ag (fun E=> ?_) fun E=> ?_;refine ak fun A=>az<|A<|rt<|tr<|ba ag ?_;have ac:hY s=false :=by simpa using E
 exact ⟨by rw [zU (.inr ac)]; rfl,C⟩;refine aT<|aa<|aH fun A=>ak fun ab=>aw (str s)<|p (c8 u9 ag ag)<|p (gt ag ag)<|nl<|ab<|cd ag (fun ae=> ?_) fun ae=> ?_;refine ak fun G=>az<|G<|rt<|tr<|ba ag ?_;have I:hY s=true :=by simpa using E
 exact ⟨by rw [KS V I aj]; rfl,C⟩;refine aT<|A<|ak fun G=>az<|G<|rt<|ba ag ?_;have I:hY s=true :=by simpa using E
 exact ⟨by rw [KU V I aj]; rfl,C⟩
theorem Es (s:Tx) (J:Bool) (w:World) (hs:s.length≤1048576):
 bw aE 253 (bl [str s,.bool J]) w (fun v w'=>(∃ (a:Tx) (e:Nat),v= .tuple #[str a,ay e]∧((eW J s= .ok a∧e=0)∨(eW J s= .error e∧e≠0)))∧Wk w w'):=by
 have ao:=ua s;refine enter func253 ag ntmps253 ag<|ak fun am=>p aJ<|az<|am<|aH fun ai=>aH fun al=>rg ag<|aw (.bool J)<|aw (.bool J)<|gb (t:=11) ag (fun V=> ?_) fun V=> ?_;refine aV ag (a8 (str s) ag)<|aV ag (ew ag ag)<|p (bI ag)<|nl<|al<|cd ag (fun ac=> ?_) fun ac=> ?_;exact ak fun O=>p aJ<|az<|O<|rt<|tr<|f2 ag ag ag<|⟨⟨[],0,ag,.inl ⟨by rw [V]; exact NL ac,ag⟩⟩,Md.refl _ _⟩
 have C:eW J s=eW false s:=by rw [V]; exact FC ac
 refine aT<|ai<|ak fun O=>aw (str s)<|e<|cl zj (A1 s w hs) ag ?_;rintro v17 ah ⟨rfl,I⟩;refine p mv<|p (xt ag ag)<|p (xt ag ag)<|p (xt ag ag)<|p (xt ag ag)<|p aJ<|p aJ<|p aJ<|az<|O<|aH fun Y=>ak fun Z=>p mv<|p (dw ag ag)<|nl<|Z<|cd ag (fun ae=> ?_) fun ae=> ?_;exact ak fun E=>p mv<|p aJ<|az<|E<|rt<|tr<|f2 ag ag ag<|⟨⟨[],_,ag,.inr ⟨C.trans (Fy aj),aj⟩⟩,I⟩
 refine aT<|Y<|aH fun E=>ak fun aa=>p mv<|nl<|aa<|cb ag (fun A=> ?_) fun A=> ?_;exact ak fun G=>p aJ<|az<|G<|rt<|tr<|f2 ag ag ag<|⟨⟨[],114,ag,.inr ⟨C.trans (Fz aj A),aM⟩⟩,I⟩
 refine aT<|E<|ak fun G=>p mv<|p mv<|e<|cl C5 (Em (bK s).1 ah aj) ag ?_;rintro v28 an ⟨rfl,ab⟩;refine p aJ<|az<|G<|rt<|f2 ag ag ag ?_;refine ⟨⟨(bK s).1,iy (bK s).1,ag,?_⟩,I.trans ab⟩;by_cases h:iy (bK s).1=0;exact .inl ⟨C.trans (FB aj A h),h⟩;exact .inr ⟨C.trans (FA aj A h),h⟩;have C:eW J s=eW false s:=by rw [V]
 refine aQ ag<|aQ ag<|p (bD ag)<|nl<|al<|cf ag<|aT<|ai<|ak fun O=>aw (str s)<|e<|cl zj (A1 s w hs) ag ?_;rintro v17 ah ⟨rfl,I⟩;refine p mv<|p (xt ag ag)<|p (xt ag ag)<|p (xt ag ag)<|p (xt ag ag)<|p aJ<|p aJ<|p aJ<|az<|O<|aH fun Y=>ak fun Z=>p mv<|p (dw ag ag)<|nl<|Z<|cd ag (fun ae=> ?_) fun ae=> ?_;exact ak fun E=>p mv<|p aJ<|az<|E<|rt<|tr<|f2 ag ag ag<|⟨⟨[],_,ag,.inr ⟨C.trans (Fy aj),aj⟩⟩,I⟩
 refine aT<|Y<|aH fun E=>ak fun aa=>p mv<|nl<|aa<|cb ag (fun A=> ?_) fun A=> ?_;exact ak fun G=>p aJ<|az<|G<|rt<|tr<|f2 ag ag ag<|⟨⟨[],114,ag,.inr ⟨C.trans (Fz aj A),aM⟩⟩,I⟩
 refine aT<|E<|ak fun G=>p mv<|p mv<|e<|cl C5 (Em (bK s).1 ah aj) ag ?_;rintro v28 an ⟨rfl,ab⟩;refine p aJ<|az<|G<|rt<|f2 ag ag ag ?_;refine ⟨⟨(bK s).1,iy (bK s).1,ag,?_⟩,I.trans ab⟩;by_cases h:iy (bK s).1=0;exact .inl ⟨C.trans (FB aj A h),h⟩;exact .inr ⟨C.trans (FA aj A h),h⟩
theorem LQ (B fb:Nat) (F:aX) (V:eM) (s:Tx) (w:World) (G:ph w B 0 fb F V) (hk:F.kind=1∨F.kind=2∨F.kind=3) (aB:F.aliases.length≤70000) (hs:s.length≤1048576):
 bw aE 159 (bl [a6 fb,str s]) w (fun v w'=>(∃ (a:Value) (e:Nat),v= .tuple #[a,ay e]∧a.oneCell'=true∧((∃ l,e=0∧gJ F.kind F.aliases s= .ok l∧Tg w' 0 3 l.length a (l.map bV))∨(e≠0∧gJ F.kind F.aliases s= .error e)))∧Wk w w'):=by
 obtain ⟨ap,l8,ah⟩:=cM G.fD;have Z:=G.fD;rw [ah] at Z;have O:Hb.a7 w.heap fb 10=some (.slice ap F.aliases.length l8):=by rw [← ah]; exact (bo G.cells).trans rfl
 refine enter func159 ag ntmps159 ag<|ak fun ai=>p aJ<|az<|ai<|aH fun am=>aH fun an=>rg ag<|aw (a6 fb)<|p (nc ag)<|p (fa xF ag)<|p (ld y4 ag<|O)<|p (bN Ph ag ag)<|p (bT ag ag)<|nl<|an<|cd ag (fun Y=> ?_) fun Y=> ?_;have C:F.aliases= []:=fY aj;refine ak fun J=>aw (a6 fb)<|p (nc ag)<|p (fa vg ag)<|p (ld bL ag<|(bo G.cells).trans ag)<|aw (str s)<|e<|cl IN (N6 F.kind s _ hk hs) ag ?_;rintro aD aG ⟨⟨aA,rfl,ae⟩,hE19⟩;refine p (xt ag ag)<|p (xt ag ag)<|p aJ<|az<|J<|rt<|tr<|f2 ag ag ag ?_;obtain ⟨a0,aq,rfl⟩:=cM ae;refine ⟨⟨_,_,ag,ag,?_⟩,hE19⟩;by_cases h:(eD F.kind s).2=0;exact .inl ⟨_,h,by rw [zY C]; exact Am h,(Tg.kj ae).mono<|iK _⟩;exact .inr ⟨h,by rw [zY C]; exact Al h⟩;have C:F.aliases≠[]:=fun h=>by rw [h] at Y; exact Y rfl
 refine aT<|am<|ak fun J=>aw (str s)<|aw (a6 fb)<|p (nc ag)<|p (fa xF ag)<|p (ld y4 ag<|O)<|p (bN Ph ag ag)<|e<|cl tz (tQ s (F.aliases.length:Nat) _ hs aj) ag ?_;rintro aF aI ⟨rfl,A⟩;refine p mv<|p (xt ag ag)<|p (xt ag ag)<|p aJ<|az<|J<|aH fun ao=>ak fun ab=>p mv<|p (dw ag ag)<|p mv<|gs (t:=34) ag (fun av=> ?_) fun av=> ?_;exact aQ ag<|aQ ag<|p (bI ag)<|nl<|ab<|ct ag<|ak fun E=>p aJ<|az<|E<|rt<|tr<|f2 ag ag ag<|⟨⟨.slice none 0 0,13,ag,ag,.inr ⟨aM,Le C (rr aj).1⟩⟩,A⟩
 refine aV ag mv<|aV ag (bT ag ag)<|p (bD ag)<|nl<|ab<|cd ag (fun au=> ?_) fun au=> ?_;refine ak fun E=>p aJ<|az<|E<|rt<|tr<|f2 ag ag ag ?_;have I:=pU (by omega :(eE s (F.aliases.length:Nat)).2=0);rw [show (eE s (F.aliases.length:Nat)).1=0 from by omega] at I;exact ⟨⟨.slice none 0 0,13,ag,ag,.inr ⟨aM,Li C I⟩⟩,A⟩;refine aT<|ao<|aH fun E=> ?_;have I:=pU (by omega :(eE s (F.aliases.length:Nat)).2=0);have aC:=sI s (F.aliases.length:Nat) aj;have ax:(eE s (F.aliases.length:Nat)).1 - 1 < F.aliases.length:=aj;obtain ⟨v51,aa,ac⟩:=jl.get (G.al.wk A) ax;refine rg ag<|aw (a6 fb)<|p (nc ag)<|p (fa xF ag)<|p (ld y4 ag<|Wk.a7 A O)<|p mv<|p (ed (((eE s (F.aliases.length:Nat)).1 - 1:Nat):Int) ag ag<|bp aj aj)<|p (bh Xg ag ag aj<|aR.ok ((bg<|bc Z A).2) fun h=>by rw [h] at aa; cases aa)<|p (ld qY ag<|aR.gQ (bg<|bc Z A).2 aa)<|p aJ<|az<|E<|rt<|f2 ag ag ag ?_;obtain ⟨a0,aq,rfl⟩:=ac.slice;exact ⟨⟨_,0,ag,ag,.inl ⟨_,ag,Lh C I aj,ac⟩⟩,A⟩
theorem LR (B:Nat) (H:gT) (F:aX) (V:eM) (k ln:Nat) (seen:List Tx) (vh:Value) (s:Tx) (w:World) (J:e7 w B 0 H.fb F V) (O:iZ w B H k ln seen vh) (hk:F.kind=1∨F.kind=2∨F.kind=3) (ai:F.bG.length≤70000) (hs:s.length≤1048576):
 bw aE 152 (bl [a6 H.rb,str s]) w (fun v w'=>(∃ x e:Nat,v= .tuple #[bV x,ay e]∧((iF F s= .ok x∧x≠0∧e=0)∨(iF F s= .error e∧e≠0)))∧Wk w w'):=by
 refine enter func152 ag ntmps152 ag<|ak fun Y=>p aJ<|az<|Y<|ak fun Z=>aw (a6 H.rb)<|p (nc ag)<|p (fa mD ag)<|p (ld jc ag<|(bo O.cells).trans ag)<|p (nc ag)<|p (fa vg ag)<|p (ld bL ag<|(bo J.cells).trans ag)<|aw (str s)<|e<|cl Td (ab4 F.kind s w hk hs) ag ?_;rintro am al ⟨rfl,A⟩;refine p mv<|p (xt ag ag)<|p (xt ag ag)<|p aJ<|az<|Z<|aH fun aa=>ak fun ab=>p mv<|p (dw ag ag)<|nl<|ab<|cd ag (fun ah=> ?_) fun ah=> ?_;exact ak fun C=>p mv<|p aJ<|az<|C<|rt<|tr<|f2 ag ag ag<|⟨⟨0,(iN F.kind s).2,ag,.inr ⟨LL aj,aj⟩⟩,A⟩
 refine aT<|aa<|ak fun C=>aw (a6 H.rb)<|p (nc ag)<|p (fa mD ag)<|p (ld jc ag<|(bo (O.wk A).cells).trans ag)<|p mv<|e<|cl Te (Yb B 0 H.fb F V (iN F.kind s).1 al (J.wk A) ai) ag ?_;rintro an ao ⟨rfl,I⟩;refine az<|C<|aH fun ac=>ak fun ae=>p mv<|nl<|ae<|cb ag (fun G=> ?_) fun G=> ?_;exact ak fun E=>p aJ<|az<|E<|rt<|tr<|f2 ag ag ag<|⟨⟨0,115,ag,.inr ⟨LM aj G,aM⟩⟩,A.trans I⟩
 exact aT<|ac<|ak fun E=>p mv<|p aJ<|p aJ<|nl<|E<|rt<|f2 ag ag ag<|⟨⟨_,0,ag,.inl ⟨LN aj G,LD aj,ag⟩⟩,A.trans I⟩
theorem Yu (al:World) (H:gT) (F:aX) (k ln:Nat) (seen r:List Tx) (aK:Nat) (ar:Option Addr) (cr:Nat) (w:World) (aY:nv al w H F k ln seen) (aZ:Tg w aK 9 r.length (.slice ar r.length cr) (r.map str)) (a9:r.length=2) (bb:∀ x∈r,x.length≤70000):
 bw aE 153 (bl [a6 H.rb,.slice ar r.length cr]) w (gE al H seen<|kW F seen (H.rows.drop k) ln r):=by
 obtain ⟨V,vh,C,A,G,J,aC⟩:=aY;have aG:=aZ.du;have a7:=A.lo;have a5:=G.len;obtain ⟨a3,a4,rfl⟩:=cM A.hd;have bc:=G.sl;refine enter func153 ag ntmps153 ag<|ak fun aL=>az<|aL<|aH fun aN=>ak fun aO=>az<|aO<|aW<|lp (fun aF aI aD=> ∃ (i:Nat),(i≤seen.length)∧(∀ j,j < i→seen.getD j []∉mm)∧(aD=w)∧(Sl aI [(0,a6 H.rb),(1,.slice ar r.length cr),(5,ay i)])∧(seen.length - i=aF)) _ ⟨0,aj,(fun j ah=>by omega),ag,ag,ag⟩ ?_;rintro aF aI aD ⟨i,hi,ai,aU,a1,rfl⟩;refine bH a1 ?_;subst aU;refine aH fun aP=>ak fun aS=>aw (ay i)<|aw (a6 H.rb)<|p (nc ag)<|p (fa ri ag)<|p (ld ky ag<|(bo A.cells).trans ag)<|p (bN ee ag ag)<|p (lt ag ag)<|nl<|aS<|cd ag (fun a0=> ?_) fun a0=> ?_;refine aT<|aP<|aH fun aa=>aW<|ak fun aq=>aw (a6 H.rb)<|p (nc ag)<|p (fa ri ag)<|p (ld ky ag<|(bo A.cells).trans ag)<|aw (ay i)<|p (bh cE ag ag aj<|aR.ok ((bg A.hd).2)<|bY aj)<|p (ld bW ag<|cw.get (i:=i) (bg A.hd).2 aj)<|e<|cl CN (Ev (seen.getD i []) aD) ag ?_;rintro v23 bd ⟨rfl,a2⟩;subst a2;refine az<|aq<|ak fun Z=>p mv<|p (ge ag ag)<|p mv<|gs (t:=26) ag (fun ax=> ?_) fun ax=> ?_;exact aQ ag<|aQ ag<|aQ ag<|aQ ag<|aQ ag<|aQ ag<|aQ ag<|aQ ag<|p (bI ag)<|p mv<|aQ ag<|aQ ag<|aQ ag<|aQ ag<|aQ ag<|aQ ag<|aQ ag<|aQ ag<|p (bI ag)<|p mv<|aQ ag<|aQ ag<|aQ ag<|aQ ag<|aQ ag<|aQ ag<|aQ ag<|aQ ag<|p (bI ag)<|nl<|Z<|ct ag<|ak fun E=>az<|E<|rt<|br<|tr<|tr<|br<|tr<|ba ag<|⟨.inr ⟨ln,113,xS (k:=seen.getD i []) (AR<|.inl<|vI.1 ax) (ek aj),aM,ag,A.dH⟩,J⟩
 refine aV ag (a8 (a6 H.rb) ag)<|aV ag (nc ag)<|aV ag (fa ri ag)<|aV ag (ld ky ag<|(bo A.cells).trans ag)<|aV ag (a8 (ay i) ag)<|aV ag (bh cE ag ag aj<|aR.ok ((bg A.hd).2)<|bY aj)<|aV ag (ld bW ag<|cw.get (i:=i) (bg A.hd).2 aj)<|aV ag (ew ag ag)<|p (bD ag)<|p mv<|gs (t:=36) ag (fun aA=> ?_) fun aA=> ?_;exact aQ ag<|aQ ag<|aQ ag<|aQ ag<|aQ ag<|aQ ag<|aQ ag<|aQ ag<|p (bI ag)<|p mv<|aQ ag<|aQ ag<|aQ ag<|aQ ag<|aQ ag<|aQ ag<|aQ ag<|aQ ag<|p (bI ag)<|nl<|Z<|ct ag<|ak fun E=>az<|E<|rt<|br<|tr<|tr<|br<|tr<|ba ag<|⟨.inr ⟨ln,113,xS (k:=seen.getD i []) (AR<|.inr<|.inl aA) (ek aj),aM,ag,A.dH⟩,J⟩
 refine aV ag (a8 (a6 H.rb) ag)<|aV ag (nc ag)<|aV ag (fa ri ag)<|aV ag (ld ky ag<|(bo A.cells).trans ag)<|aV ag (a8 (ay i) ag)<|aV ag (bh cE ag ag aj<|aR.ok ((bg A.hd).2)<|bY aj)<|aV ag (ld bW ag<|cw.get (i:=i) (bg A.hd).2 aj)<|aV ag (ew ag ag)<|p (bD ag)<|p mv<|gs (t:=46) ag (fun aB=> ?_) fun aB=> ?_;refine aQ ag<|aQ ag<|aQ ag<|aQ ag<|aQ ag<|aQ ag<|aQ ag<|aQ ag<|p (bI ag)<|nl<|Z<|ct ag<|ak fun E=>p aJ<|nl<|E<|rt<|br<|tr<|tr<|br<|tr<|ba ag ?_;exact ⟨.inr ⟨ln,113,xS (k:=seen.getD i []) (AR<|.inr<|.inr<|.inl aB) (ek aj),aM,ag,A.dH⟩,J⟩;refine aV ag (a8 (a6 H.rb) ag)<|aV ag (nc ag)<|aV ag (fa ri ag)<|aV ag (ld ky ag<|(bo A.cells).trans ag)<|aV ag (a8 (ay i) ag)<|aV ag (bh cE ag ag aj<|aR.ok ((bg A.hd).2)<|bY aj)<|aV ag (ld bW ag<|cw.get (i:=i) (bg A.hd).2 aj)<|aV ag (ew ag ag)<|p (bD ag)<|nl<|Z<|cd ag (fun au=> ?_) fun au=> ?_;exact ak fun E=>az<|E<|rt<|br<|tr<|tr<|br<|tr<|ba ag<|⟨.inr ⟨ln,113,xS (k:=seen.getD i []) (AR<|.inr<|.inr<|.inr au) (ek aj),aM,ag,A.dH⟩,J⟩
 exact aT<|bn<|aa<|rg ag<|aw (ay i)<|p (ad ag ag<|cR aj)<|p aJ<|nl<|tn<|⟨_,aj,i+1,aj,(fun j ah=>by rcases fT j i with h | h <;> first | exact ai j h | (rw [show j=i by omega]; exact aa9 (fun h=>ax<|vI.2 h) aA aB au)),ag,ag,ag⟩
 refine ext<|bj<|bj<|be<|aN<|aH fun aa=>ak fun aq=>aw (.slice ar r.length cr)<|p (bh cE ag ag aj<|aR.ok (aG.2)<|bY aj)<|p (ld bW ag<|cw.get (i:=1) aG.2 aj)<|nl<|aq<|aW<|ak fun Z=>p (ew ag ag)<|az<|Z<|cd ag (fun ae=> ?_) fun ae=> ?_;refine rg ag<|aw (a6 H.rb)<|p (nc ag)<|p (fa mD ag)<|p (ld jc ag<|(bo A.cells).trans ag)<|p (nc ag)<|p (fa vg ag)<|e<|dB hZ ag ag (v:=ay 1) ag C.cells (by show _ < 13; omega) fun am I ab=>nl<|bn<|aa<|ak fun E=>az<|E<|rt<|ba ag ?_;have Y:ordered seen=true :=AS fun j ah=>ai j aj;have hk:ki (r.getD 1 [])=1:=by unfold ki; rw [if_pos (show r.getD 1 []=tH from ae)]
 have ac:=C.put (F':= {F with kind:=1}) I ab rfl rfl rfl rfl C.gG;have O:Wk al am:=J.trans' I fun k hk h=>by have :=C.lo; omega
 exact ⟨.inl ⟨_,k,ln,(Az Y aj).trans (by rw [hk]),ag,⟨V,_,ac,A.fb C I,⟨G.len,G.sl,G.row,by show 1=1∨1=2∨1=3; decide⟩,O,aC⟩⟩,O⟩;refine ak fun E=>p (ew ag ag)<|az<|E<|cd ag (fun an=> ?_) fun an=> ?_;refine rg ag<|aw (a6 H.rb)<|p (nc ag)<|p (fa mD ag)<|p (ld jc ag<|(bo A.cells).trans ag)<|p (nc ag)<|p (fa vg ag)<|e<|dB hZ ag ag (v:=ay 2) ag C.cells (by show _ < 13; omega) fun am I ab=>nl<|bn<|aa<|ak fun ao=>az<|ao<|rt<|ba ag ?_;have Y:ordered seen=true :=AS fun j ah=>ai j aj;have hk:ki (r.getD 1 [])=2:=by unfold ki; rw [if_neg (show ¬r.getD 1 []=tH from ae),if_pos (show r.getD 1 []=vu from an)]
 have ac:=C.put (F':= {F with kind:=2}) I ab rfl rfl rfl rfl C.gG;have O:Wk al am:=J.trans' I fun k hk h=>by have :=C.lo; omega
 exact ⟨.inl ⟨_,k,ln,(Az Y aj).trans (by rw [hk]),ag,⟨V,_,ac,A.fb C I,⟨G.len,G.sl,G.row,by show 2=1∨2=2∨2=3; decide⟩,O,aC⟩⟩,O⟩;refine ak fun ao=>p (ew ag ag)<|az<|ao<|cd ag (fun av=> ?_) fun av=> ?_;refine rg ag<|aw (a6 H.rb)<|p (nc ag)<|p (fa mD ag)<|p (ld jc ag<|(bo A.cells).trans ag)<|p (nc ag)<|p (fa vg ag)<|e<|dB hZ ag ag (v:=ay 3) ag C.cells (by show _ < 13; omega) fun am I ab=>nl<|bn<|aa<|ak fun ap=>az<|ap<|rt<|ba ag ?_;have Y:ordered seen=true :=AS fun j ah=>ai j aj;have hk:ki (r.getD 1 [])=3:=by unfold ki; rw [if_neg (show ¬r.getD 1 []=tH from ae),if_neg (show ¬r.getD 1 []=vu from an),if_pos (show r.getD 1 []=xT from av)]
 have ac:=C.put (F':= {F with kind:=3}) I ab rfl rfl rfl rfl C.gG;have O:Wk al am:=J.trans' I fun k hk h=>by have :=C.lo; omega
 exact ⟨.inl ⟨_,k,ln,(Az Y aj).trans (by rw [hk]),ag,⟨V,_,ac,A.fb C I,⟨G.len,G.sl,G.row,by show 3=1∨3=2∨3=3; decide⟩,O,aC⟩⟩,O⟩;refine ak fun ap=>az<|ap<|rt<|br<|tr<|ba ag ?_;have Y:ordered seen=true :=AS fun j ah=>ai j aj;exact ⟨.inr ⟨ln,114,MH Y (by unfold ki; rw [if_neg (show ¬r.getD 1 []=tH from ae),if_neg (show ¬r.getD 1 []=vu from an),if_neg (show ¬r.getD 1 []=xT from av)]),aM,ag,A.dH⟩,J⟩
end Go.Hb.uE
end
