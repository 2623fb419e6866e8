/-
  Walks and plain laws that the law rests on, laid together. No conditions but those that each theorem names.
-/
import Derived.Test.YtiagknaekaknhaaGreatDoorMnJoinedSplits5
set_option linter.unusedVariables false
set_option maxRecDepth 20000
set_option maxHeartbeats 1000000
open Bool renaming noConfusion→dn,true_and→pf
open Go renaming Value→ag,World→ah
open Go.Value renaming bool→bq,int→bd,oneCell'→eO,ownBlock→gj,slice→bE
open Go.World renaming ownsRow→ba,ownsRow_nil→ez
open Int renaming toNat_natCast→po
open List renaming ext_getElem?→pq,getD_eq_getElem?_getD→b9,getElem?_eq_getElem→bG,getElem?_eq_none→gF,getElem?_eq_some_iff→cK,getElem?_map→fq,getElem?_range→re,getElem?_set→Em,length→jh,length_append→cz,length_cons→dP,length_map→me,length_nil→lB,length_range→tW,length_set→gl,length_singleton→px,map_append→iM,map_congr_left→Eu,map_const'→Ev,map_map→tX,map_set→jQ,mem_range→mj,replicate→cZ,toArray→bD
open Nat renaming le_refl→aQ,mul_one→ug,zero_le→fK
open Option.some renaming inj→dq
open Go.Proofs.Tryz
open Go.Hb.dL Go.Proofs Go.Hb.fO Go.Hb.jj

namespace Go.Hb.pI
def il (w:ah) (B:Nat) (cs:List ag) (b:dU):Prop := ∃ A rc vs,cs= [.int .i64 (b.least:Nat),str b.tr,.slice A b.cH.length rc]++vs∧vs.length=4∧aX w.heap A (b.cH.flatMap dY)∧∀ i,i < 4→eT w B (vs.getD i .nilFunc) (b.aq.getD i [])
theorem il.wk {w w':ah} {B:Nat} {cs:List ag} {b:dU} (h:il w B cs b) (hm:Wk w w'):il w' B cs b:=by
 obtain ⟨I,rc,vs,h1,A,C,E⟩:=h;exact ⟨I,rc,vs,h1,A,C.wk hm,fun i hi=>(E i hi).wk hm⟩
theorem il.one {w:ah} {B:Nat} {cs:List ag} {b:dU} (h:il w B cs b):cs.length=7∧cs.all eO=true :=by
 obtain ⟨ac,rc,vs,rfl,Z,_,aa⟩:=h;obtain ⟨C,E,I,J,rfl⟩:∃ C E I J,vs= [C,E,I,J]:=by
  match vs,Z with
  | [C,E,I,J],_=>exact ⟨_,_,_,_,rfl⟩
 have A:∀ i,i < 4→([C,E,I,J].getD i .nilFunc).oneCell'=true :=fun i hi=>by
  obtain ⟨_,_,e,_⟩:=(aa i hi).ee;rw [e]; rfl
 have L:=A 0 ab;have M:=A 1 ab;have O:=A 2 ab;have V:=A 3 ab;simp only [List.getD_cons_zero,List.getD_cons_succ] at L M O V;exact ⟨U,by simp only [List.cons_append,List.nil_append,List.all_cons,List.all_nil,L,M,O,V]; rfl⟩
def rz (s:List UInt8) (w:ah) (v:ag) (w':ah):Prop :=((∃ b cs,bJ s= .ok b∧v= .tuple #[.agg cs.toArray,.int .i64 0]∧il w' w.heap.size cs b)∨((∃ A,bJ s= .error A)∧∃ q:Nat,q≠0∧v= .tuple #[.agg [bd .i64 0,str [],.slice none 0 0,.slice none 0 0,.slice none 0 0,.slice none 0 0,.slice none 0 0].toArray,.int .i64 (q:Nat)]))∧Wk w w'
theorem Gt {s:List UInt8} {n p1 L p2 M m p3 O:Nat} {t:List UInt8} (hm:s.take 4=eJ) (h1:((0:Nat)=0∧L=0∧a9 s 4= .ok (n,p1))∨(L≠0∧n=0∧((0:Nat)≠0∨∃ e,a9 s 4= .error e)))
 (A:(L=0∧M=0∧cQ s p1= .ok (t,p2))∨(M≠0∧(L≠0∨∃ e,cQ s p1= .error e))) (C:(M=0∧O=0∧a9 s p2= .ok (m,p3))∨(O≠0∧m=0∧(M≠0∨∃ e,a9 s p2= .error e))):(O=0∧a9 s 4= .ok (n,p1)∧cQ s p1= .ok (t,p2)∧a9 s p2= .ok (m,p3))∨(O≠0∧∃ I,bJ s= .error I):=by
 rcases h1 with ⟨_,U,h1⟩ | ⟨U,_,h1⟩
 · rcases A with ⟨_,J,A⟩ | ⟨J,A⟩
   · rcases C with ⟨_,E,C⟩ | ⟨E,_,C⟩
     · exact .inl ⟨E,h1,A,C⟩
     · exact .inr ⟨E,C.elim (fun h=>absurd J h) fun ⟨e,h⟩=>⟨e,zF hm h1 A h⟩⟩
   · have hb:∃ I,bJ s= .error I:=A.elim (fun h=>absurd U h) fun ⟨e,h⟩=>⟨e,zE hm h1 h⟩
     rcases C with ⟨h,_⟩ | ⟨E,_⟩
     · exact absurd h J
     · exact .inr ⟨E,hb⟩
 · have hb:∃ I,bJ s= .error I:=h1.elim (fun h=>absurd rfl h) fun ⟨e,h⟩=>⟨e,zD hm h⟩
   rcases A with ⟨h,_⟩ | ⟨J,_⟩
   · exact absurd h U
   · rcases C with ⟨h,_⟩ | ⟨E,_⟩
     · exact absurd h J
     · exact .inr ⟨E,hb⟩
def qE (s:List UInt8) (k a:Nat):List (List aM):=match cq (cJ s) k a with
 | .ok x=>x.1
 | .error _=> []
theorem JR {s:List UInt8} {w ai w':ah} {B A C Z ae f9 J rb M V:Nat} {t:List UInt8} {rs:List (List UInt8×List UInt8)} {ls:List (List aM)} {vs:List ag} {L:Option Addr} {cc:Nat} (O:cq (cJ s) A C= .ok (ls,Z)) (aa:bJ s=fS s J t rs C) (bo:dZ J t rs=true)
 (av:(f9=0∧∃ l,cJ s Z= .ok (l,ae)∧eT ai w.heap.size (.slice L V cc) l)∨(f9≠0∧(∃ E,cJ s Z= .error E)∧∃ aj aw c2,bE L V cc= .slice aj aw c2)) (am:∀ i,i < A→eT w B (vs.getD i .nilFunc) (ls.getD i [])) (I:A < 4) (ax:vs.length=4)
 (ao:Md (fun k=>k=rb∨k=M) w w') (ad:∀ k,k=rb∨k=M→k < B) (al:B≤w.heap.size) (ap:Md (fun k=>k=M) ai w'):(f9=0∧(bJ s=fS s J t rs C∧dZ J t rs=true)∧cq (cJ s) (A+1) C= .ok (qE s (A+1) C,ae)∧∀ i,i < A+1→eT w' B ((vs.set A<|.slice L V cc).getD i .nilFunc) ((qE s (A+1) C).getD i []))∨(f9≠0∧∃ E,bJ s= .error E):=by
 rcases av with ⟨h0,l,aq,ak⟩ | ⟨h0,⟨E,he⟩,_⟩
 · have ac:=lR O aq;have ar:=iy O;have au:qE s (A+1) C=ls++ [l]:=by unfold qE; rw [ac]
   rw [ac,au];refine .inl ⟨h0,⟨aa,bo⟩,U,fun i hi=> ?_⟩;rcases Nat.lt_or_ge i A with h | h
   · rw [qa ab,sg ab];exact (am i h).md ao fun k I hb=>absurd hb<|by have :=ad k I; omega
   · obtain rfl :i=A:=ab;rw [ov ab,sf ar.symm];exact (ak.mono al).md ap fun k I hb=>absurd hb<|by have :=ad k (.inr I); omega
 · exact .inr ⟨h0,E,by rw [aa,zA bo (hO O he I)]⟩
set_option maxHeartbeats 4000000 in
theorem Jf (s:List UInt8) (w:ah) (a7:s.length≤1048576):
 bj prog 20 (bD [str s]) w (rz s w):=by
 refine enter func20 U ntmps20 U<|aR 2 U<|e<|al o7 fun Z fz J bR b1=>aj 6 U<|p mv<|aj 3 U<|gs (t:=15) U (fun ed=> ?_) fun ed=> ?_;have av:¬s.take 4=eJ:=fun h=>by have :=congrArg jh h; rw [List.length_take] at this; simp only [eJ,dP,lB] at this; omega
 refine aj 9 U<|p (eU (ps:= []) (L:= [.int .i64 0,.string ⟨⟨[]⟩⟩,.slice none 0 0,.slice none 0 0,.slice none 0 0,.slice none 0 0,.slice none 0 0]) tw U<|U)<|e<|qJ kz U U U U (b1) (by simp) fun eR b4 b2=> ?_
 skip
 exact ax 5 U<|r8 U (iC (cs:= [bd .i64 0,str [],.slice none 0 0,.slice none 0 0,.slice none 0 0,.slice none 0 0,.slice none 0 0]) U jU U fun j ck=>b2.aK j) kT<|⟨.inr ⟨⟨_,uR av⟩,200,aE,U⟩,bR.md.trans' b4 fun k A h=>by omega⟩
 refine bC U mv<|bC U (xw u9 U U ab)<|aJ 4 U<|cd U (fun cg=> ?_) fun cg=> ?_;have av:¬s.take 4=eJ:=cg;refine aG 2 U<|p (eU (ps:= []) (L:= [.int .i64 0,.string ⟨⟨[]⟩⟩,.slice none 0 0,.slice none 0 0,.slice none 0 0,.slice none 0 0,.slice none 0 0]) tw U<|U)<|e<|qJ kz U U U U (b1) (by simp) fun eR b4 b2=> ?_
 skip
 exact ax 5 U<|r8 U (iC (cs:= [bd .i64 0,str [],.slice none 0 0,.slice none 0 0,.slice none 0 0,.slice none 0 0,.slice none 0 0]) U jU U fun j ck=>b2.aK j) kT<|⟨.inr ⟨⟨_,uR av⟩,200,aE,U⟩,bR.md.trans' b4 fun k A h=>by omega⟩
 have av:s.take 4=eJ:=Classical.not_not.1 cg;refine aG 4 U<|p mv<|p (eU (ps:= [(0,str s),(1,.int .i64 ((4:Nat):Int))]) (L:= [str s,.int .i64 ((4:Nat):Int),.int .i64 0]) Kz U<|U)<|e<|n5 U fun c5 fA eW b5 dh=> ?_;obtain ⟨rb,rfl⟩:∃ rb,rb=c5:=⟨_,rfl⟩
 have e7:=bR.size;have e9:=b5.size;refine aj 5 U<|p (eU (ps:= []) (L:= [.int .i64 0,.string ⟨⟨[]⟩⟩,.slice none 0 0,.slice none 0 0,.slice none 0 0,.slice none 0 0,.slice none 0 0]) tw U<|U)<|e<|al o7 fun V fE I bS dq=> ?_;have fg:=bS.size;refine e<|qJ kz U U U U (dq) (by simp) fun bA bO dp=> ?_;have fe:=bO.size;have I:aC bA.heap V [bd .i64 0,str [],.slice none 0 0,.slice none 0 0,.slice none 0 0,.slice none 0 0,.slice none 0 0]:=dp;have J:aC bA.heap Z [bd .i64 0,str [],.slice none 0 0,.slice none 0 0,.slice none 0 0,.slice none 0 0,.slice none 0 0]:=bO.B (Wk.B bS.md<|Wk.B b5.md b1) fun h=>by omega
 have C:aC bA.heap rb [str s,aA 4,aA 0]:=bO.B (Wk.B bS.md dh) fun h=>by omega
 have dy:Wk w bA:=((bR.md.trans b5.md).trans bS.md).trans' bO fun k A h=>by omega
 refine aj 5 U<|e<|bg (oD rb s 4 0 bA C a7 ab) U ?_;rintro fo aa ⟨n,p1,cv,rfl,cA,en,eZ,eC,bL⟩;have fb:=bL.size;have cE:=bL.B J fun h=>by omega
 have cF:=bL.B I fun h=>by omega
 have cD:=(dy).trans' bL fun k A h=>by omega
 refine aJ 3 U ?_;refine ff (fun cX aW=> ∃ (eL:Unit),(aC aW.heap Z [bd .i64 0,str [],.slice none 0 0,.slice none 0 0,.slice none 0 0,.slice none 0 0,.slice none 0 0])∧(aC aW.heap V<|[bd .i64 ((if n≤64 then n else 0:Nat):Int),str [],.slice none 0 0,.slice none 0 0,.slice none 0 0,.slice none 0 0,.slice none 0 0])∧(aC aW.heap rb [str s,aA p1,aA cv])∧(Wk w aW)∧(aa.heap.size≤aW.heap.size)∧(Sl cX [(0,str s),(2,aZ Z),(4,aZ rb),(5,aZ V)])) ?_ ?_;refine cj 6 U<|cd U (fun d8=> ?_) fun d8=> ?_;refine aG 2 U<|p (fw u3 l8 U<|gP ab)<|aj 1 U<|e<|st cI U U (U) (cF) (by simp) fun fN bP du=> ?_
 skip
 exact ax 1 U<|tn<|⟨(),(bP.B cE fun h=>by omega),(by rw [if_pos ab]; exact du),(bP.B cA fun h=>by omega),(cD.trans' bP fun k A h=>by omega),bP.size,U⟩
 exact aH 1 U<|tn<|⟨(),cE,(by rw [if_neg ab]; exact cF),cA,cD,(aQ _),U⟩
 rintro cX aW ⟨eL,J,I,C,M,ad,et⟩;refine bK et<|aG 3 U<|e<|bg (vv rb s p1 cv aW C a7<|en) U ?_;rintro fq fB ⟨t,p2,c7,rfl,dn,eo,e0,eD,bM⟩;have fc:=bM.size;have dL:=bM.B J fun h=>by omega
 have dU:=bM.B I fun h=>by omega
 have dD:=(M).trans' bM fun k A h=>by omega
 refine aj 1 U<|e<|st zx U U (U) (dU) (by simp) fun cW bQ dv=> ?_;have fm:=bQ.size;have dX:aC cW.heap V [bd .i64 ((if n≤64 then n else 0:Nat):Int),str t,.slice none 0 0,.slice none 0 0,.slice none 0 0,.slice none 0 0,.slice none 0 0]:=dv;have dQ:=bQ.B dL fun h=>by omega
 have d6:=bQ.B dn fun h=>by omega
 have dH:=dD.trans' bQ fun k A h=>by omega
 refine aj 5 U<|e<|bg (oD rb s p2 c7 cW d6 a7<|eo) U ?_;rintro fs fC ⟨m,p3,cx,rfl,bG,ep,e1,eE,bN⟩;have fd:=bN.size;have b8:=bN.B dQ fun h=>by omega
 have ca:=bN.B dX fun h=>by omega
 have b7:=(dH).trans' bN fun k A h=>by omega
 have cy:=Gt av eC eD eE;refine aJ 3 U ?_;refine ff (fun cY a8=> ∃ (bb:Nat),(aC a8.heap Z [bd .i64 0,str [],.slice none 0 0,.slice none 0 0,.slice none 0 0,.slice none 0 0,.slice none 0 0])∧(aC a8.heap V<|[bd .i64 ((if n≤64 then n else 0:Nat):Int),str t,.slice none 0 0,.slice none 0 0,.slice none 0 0,.slice none 0 0,.slice none 0 0])∧(aC a8.heap rb [str s,aA p3,aA bb])∧(Wk w a8)∧(aa.heap.size≤a8.heap.size)∧((bb=0∧(a9 s 4= .ok (n,p1)∧cQ s p1= .ok (t,p2)∧a9 s p2= .ok (m,p3))∧¬256 < m)∨(bb≠0∧∃ ak,bJ s= .error ak))∧(Sl cY [(0,str s),(2,aZ Z),(4,aZ rb),(5,aZ V),(7,.int .u64 (m:Nat))])) ?_ ?_;refine aR 5 U<|p (aw U<|bG.aK 2)<|aj 2 U<|gs (t:=42) U (fun cO=> ?_) fun cO=> ?_;have ac:=(cy.resolve_right fun h=>h.1 ab).2;refine aJ 5 U<|cd U (fun d9=> ?_) fun d9=> ?_;refine aG 4 U<|e<|st cI U U (U) (bG) (by simp) fun fJ bH dc=> ?_;have e4:=bH.size;exact ax 1 U<|tn<|⟨201,(bH.B b8 fun h=>by omega),(bH.B ca fun h=>by omega),dc,(b7.trans' bH fun k A h=>by omega),ab,(.inr ⟨aE,_,zG av ac.1 ac.2.1 ac.2.2 ab⟩),U⟩
 exact aH 1 U<|tn<|⟨cx,b8,ca,bG,b7,ab,(.inl ⟨ab,ac,ab⟩),U⟩
 exact ax 7 U<|tn<|⟨cx,b8,ca,bG,b7,ab,(cy.elim (fun h=>absurd h.1 fun ar=>cO ab) .inr),U⟩
 rintro cY a8 ⟨bb,J,I,C,M,ad,c8,eu⟩;refine bK eu ?_;refine ff (fun cZ aB=> ∃ (rs:List (List UInt8×List UInt8)) (O:Option Addr) (rc aq f6:Nat),(aC aB.heap Z [bd .i64 0,str [],.slice none 0 0,.slice none 0 0,.slice none 0 0,.slice none 0 0,.slice none 0 0])∧(aC aB.heap V<|[bd .i64 ((if n≤64 then n else 0:Nat):Int),str t,.slice O rs.length rc,.slice none 0 0,.slice none 0 0,.slice none 0 0,.slice none 0 0])∧(aC aB.heap rb [str s,aA aq,aA f6])∧(Wk w aB)∧(aa.heap.size≤aB.heap.size)∧(aq≤s.length)∧((f6=0∧(a9 s 4= .ok (n,p1)∧cQ s p1= .ok (t,p2)∧a9 s p2= .ok (m,p3))∧¬256 < m∧cq (gz s) m p3= .ok (rs,aq))∨(f6≠0∧∃ ak,bJ s= .error ak))∧(rs.length≤257)∧(∀ r∈rs,r.1.length≤255∧r.2.length≤255)∧(ba aB aa.heap.size 100 2 (.slice O rs.length rc) rs.length<|rs.flatMap dY)∧(Sl cZ [(0,str s),(2,aZ Z),(4,aZ rb),(5,aZ V)])) ?_ ?_;refine cj 1 U<|lp (fun bc c0 aS=> ∃ (rs:List (List UInt8×List UInt8)) (co:ag) (aU f:Nat),(aC aS.heap Z [bd .i64 0,str [],.slice none 0 0,.slice none 0 0,.slice none 0 0,.slice none 0 0,.slice none 0 0])∧(aC aS.heap V<|[bd .i64 ((if n≤64 then n else 0:Nat):Int),str t,co,.slice none 0 0,.slice none 0 0,.slice none 0 0,.slice none 0 0])∧(aC aS.heap rb [str s,aA aU,aA f])∧(Wk w aS)∧(aa.heap.size≤aS.heap.size)∧(aU≤s.length)∧((f=0∧rs.length≤m∧(a9 s 4= .ok (n,p1)∧cQ s p1= .ok (t,p2)∧a9 s p2= .ok (m,p3))∧¬256 < m∧cq (gz s) rs.length p3= .ok (rs,aU))∨(f≠0∧∃ ak,bJ s= .error ak))∧(rs.length≤257)∧(∀ r∈rs,r.1.length≤255∧r.2.length≤255)∧(ba aS aa.heap.size 100 2 co rs.length<|rs.flatMap dY)∧(Sl c0 [(0,str s),(2,aZ Z),(4,aZ rb),(5,aZ V),(7,.int .u64 (m:Nat))])∧(m - rs.length=bc)) _ ⟨[],.slice none 0 0,p3,bb,J,I,C,M,ad,ep,(c8.imp (fun h=>⟨h.1,fK _,h.2.1,h.2.2,U⟩) id),aE,(fun r hr=>by cases hr),(ez _ _ _ _),U,U⟩ ?_;rintro bc c0 aS ⟨rs,co,aU,f,J,I,C,M,ad,bv,a2,cn,bx,E,ew,rfl⟩;refine bK ew ?_;obtain ⟨O,rc,rfl⟩:=dA E;refine aR 4 U<|p (aw U<|I.aK 2)<|aj 1 U<|p (fw o4 tC U<|gC ab)<|aj 3 U<|gs (t:=55) U (fun ef=> ?_) fun ef=> ?_;refine aj 3 U<|bC U (aw U<|C.aK 2)<|aJ 4 U<|cd U (fun cH=> ?_) fun cH=> ?_;obtain ⟨ci,e2,ac,bu,bt⟩:=a2.resolve_right fun h=>h.1 ab;obtain rfl :f=0:=ci;refine aG 6 U<|e<|bg (vv rb s aU 0 aS C a7<|bv) U ?_;rintro ft eO ⟨cp,p5,f5,rfl,dr,eq,eh,cU,bn⟩;have fh:=bn.size;have dM:=bn.B J fun h=>by omega
 have dV:=bn.B I fun h=>by omega
 have dE:=(M).trans' bn fun k A h=>by omega
 refine aj 6 U<|e<|bg (vv rb s p5 f5 eO dr a7<|eq) U ?_;rintro fu fF ⟨x2,eH,f6,rfl,ds,er,ei,eF,bp⟩;have fi:=bp.size;have dN:=bp.B dM fun h=>by omega
 have cG:=bp.B dV fun h=>by omega
 have dF:=(dE).trans' bp fun k A h=>by omega
 have el:=bI (bI E bn fun k A h=>by have :=(cw E A).1; omega) bp fun k A h=>by have :=(cw E A).1; omega
 refine aj 5 U<|p (aw U<|cG.aK 2)<|aj 2 U<|p (eU (ps:= [(0,str cp),(1,str x2)]) (L:= [str cp,str x2]) Ko U<|U)<|e<|n4 CD U U U fun eS fG eX a6 dt=> ?_;have fj:=a6.size;refine e<|ap CD (aV el a6.md) U ab U (aX.fD dt) (U) (U) ab ab fun fv fH cS bq eG eb=> ?_;have eG:=bq.size;have bz:∀ k,(bE O rs.length rc).ownBlock=some k→aa.heap.size≤k:=fun k h=>(cw E h).1;have dO:=bq.B (Wk.B a6.md dN) fun h=>by have :=bz _ h; omega
 have dW:=bq.B (Wk.B a6.md cG) fun h=>by have :=bz _ h; omega
 have d5:=bq.B (Wk.B a6.md ds) fun h=>by have :=bz _ h; omega
 have dG:=(dF.trans a6.md).trans' bq fun k A h=>by have :=bz _ h; omega
 obtain ⟨ct,cu,rfl⟩:=dA cS;refine aj 1 U<|e<|st Gk U U (U) (dW) (by simp) fun eP bh dd=> ?_;have e5:=bh.size;have dS:aC eP.heap V [bd .i64 ((if n≤64 then n else 0:Nat):Int),str t,.slice ct (rs.length+1) cu,.slice none 0 0,.slice none 0 0,.slice none 0 0,.slice none 0 0]:=dd;have dJ:=bh.B dO fun h=>by omega
 have d3:=bh.B d5 fun h=>by omega
 have dB:=dG.trans' bh fun k A h=>by omega
 have ej:=bI cS bh fun k A h=>by rcases eb k A with a1 | a1; exact absurd (bz k a1) ab; omega
 exact ax 2 U<|tn<|⟨_,by rw [cz,px]; omega,rs++ [(cp,x2)],.slice ct (rs.length+1) cu,eH,f6,dJ,dS,d3,dB,ab,er,(by rcases eF with ⟨h1,a1,bZ⟩ | ⟨a1,bZ⟩; exact .inl ⟨a1,by rw [cz,px]; omega,ac,bu,by rw [cz,px]; exact lR bt<|B4 (cU.resolve_right fun h=>h.1 h1).2.2 bZ⟩; refine .inr ⟨a1,?_⟩; rcases cU with ⟨_,h1,b0⟩ | ⟨h1,b0⟩; exact bZ.elim (fun h=>absurd h1 h) (fun ⟨ar,h⟩=>⟨ar,rR av ac.1 ac.2.1 ac.2.2 bu<|hO bt (B3 b0 h) ab⟩); exact b0.elim (fun h=>absurd U h) fun ⟨ar,h⟩=>⟨ar,rR av ac.1 ac.2.1 ac.2.2 bu<|hO bt (B2 h) ab⟩),(by rw [cz,px]; omega),(fun r hr=>by rcases List.mem_append.1 hr with h | h; exact bx r h; rw [List.mem_singleton.1 h]; exact ⟨eh,ei⟩),(by rw [cz,List.flatMap_append]; exact ej),U,U⟩
 exact aH 2 U<|cr<|bl 1 U<|tn<|⟨rs,O,rc,aU,f,J,I,C,M,ad,bv,(a2.elim (fun h=>absurd h.1 fun ar=>cH ab) .inr),cn,bx,E,U⟩
 exact ax 11 U<|cr<|bl 1 U<|tn<|⟨rs,O,rc,aU,f,J,I,C,M,ad,bv,(a2.elim (fun h=> .inl ⟨h.1,h.2.2.1,h.2.2.2.1,(by have eV:=h.2.1; have ar:rs.length=m:=ab; rw [← ar]; exact h.2.2.2.2)⟩) .inr),cn,bx,E,U⟩
 rintro cZ aB ⟨rs,O,rc,aq,f6,J,I,C,M,ad,bv,a2,cn,bx,E,ev⟩;refine bK ev<|aG 2 U<|p (eI jU U (U) (show ∀ j,j < 7→ay aB.heap V (0 +j)=([bd .i64 ((if n≤64 then n else 0:Nat):Int),str t,.slice O rs.length rc,.slice none 0 0,.slice none 0 0,.slice none 0 0,.slice none 0 0]:List ag)[j]? from fun j _=>I.aK j))<|e<|bg (JD (if n≤64 then n else 0) t rs O rc (.slice none 0 0) (.slice none 0 0) (.slice none 0 0) (.slice none 0 0) aB (bB E).2 (by split <;> omega) ab ab fun r hr=>by have :=bx r hr; omega) U ?_;rintro fx fI ⟨rfl,aO⟩;have fl:=aO.size;have b9:=Wk.B aO J;have ce:=Wk.B aO I;have bT:=Wk.B aO C;have cm:=aV E aO;refine aJ 3 U ?_;refine ff (fun c1 aY=> ∃ (f7:Nat),(aC aY.heap Z [bd .i64 0,str [],.slice none 0 0,.slice none 0 0,.slice none 0 0,.slice none 0 0,.slice none 0 0])∧(aC aY.heap V<|[bd .i64 ((if n≤64 then n else 0:Nat):Int),str t,.slice O rs.length rc,.slice none 0 0,.slice none 0 0,.slice none 0 0,.slice none 0 0])∧(aC aY.heap rb [str s,aA aq,aA f7])∧(Wk w aY)∧(aa.heap.size≤aY.heap.size)∧((f7=0∧bJ s=fS s (if n≤64 then n else 0) t rs aq∧dZ (if n≤64 then n else 0) t rs=true)∨(f7≠0∧∃ ak,bJ s= .error ak))∧(ba aY aa.heap.size 100 2 (.slice O rs.length rc) rs.length<|rs.flatMap dY)∧(Sl c1 [(0,str s),(2,aZ Z),(4,aZ rb),(5,aZ V)])) ?_ ?_;refine aR 5 U<|p (aw U<|bT.aK 2)<|aj 2 U<|gs (t:=81) U (fun cP=> ?_) fun cP=> ?_;obtain ⟨_,ac,bu,bt⟩:=a2.resolve_right fun h=>h.1 ab;have cL:=zH av ac.1 ac.2.1 ac.2.2 bu bt;refine aJ 5 U<|cb U (fun ch=> ?_) fun ch=> ?_;have bo:dZ (if n≤64 then n else 0) t rs=false :=by simpa using ch
 refine aG 4 U<|e<|st cI U U (U) (bT) (by simp) fun fL bi de=> ?_;have e6:=bi.size;exact ax 1 U<|tn<|⟨201,(bi.B b9 fun h=>by omega),(bi.B ce fun h=>by omega),de,((M.trans aO).trans' bi fun k A h=>by omega),ab,(.inr ⟨aE,_,by rw [cL,zz bo]⟩),(bI cm bi fun k A h=>by have :=(cw E A).1; omega),U⟩
 have bo:dZ (if n≤64 then n else 0) t rs=true :=by simpa using ch
 exact aH 1 U<|tn<|⟨f6,b9,ce,bT,(M.trans aO),ab,(.inl ⟨ab,cL,bo⟩),cm,U⟩
 exact ax 7 U<|tn<|⟨f6,b9,ce,bT,(M.trans aO),ab,(a2.elim (fun h=>absurd h.1 fun ar=>cP ab) .inr),cm,U⟩
 rintro c1 aY ⟨f7,J,I,C,M,ad,c9,E,ex⟩;refine bK ex ?_;refine ff (fun c2 aP=> ∃ (ls:List (List aM)) (vs:List ag) (am f8:Nat),(aC aP.heap Z [bd .i64 0,str [],.slice none 0 0,.slice none 0 0,.slice none 0 0,.slice none 0 0,.slice none 0 0])∧(aC aP.heap V<|[bd .i64 ((if n≤64 then n else 0:Nat):Int),str t,.slice O rs.length rc]++vs)∧(aC aP.heap rb [str s,aA am,aA f8])∧(Wk w aP)∧(aa.heap.size≤aP.heap.size)∧(am≤s.length)∧(vs.length=4)∧((f8=0∧(bJ s=fS s (if n≤64 then n else 0) t rs aq∧dZ (if n≤64 then n else 0) t rs=true)∧cq (cJ s) 4 aq= .ok (ls,am)∧∀ i,i < 4→eT aP aa.heap.size (vs.getD i .nilFunc) (ls.getD i []))∨(f8≠0∧∃ ak,bJ s= .error ak))∧(ba aP aa.heap.size 100 2 (.slice O rs.length rc) rs.length<|rs.flatMap dY)∧(Sl c2 [(0,str s),(2,aZ Z),(4,aZ rb),(5,aZ V)])) ?_ ?_;refine cj 6 U<|lp (fun bc c3 au=> ∃ (ao:Nat) (ls:List (List aM)) (vs:List ag) (am f8:Nat),(aC au.heap Z [bd .i64 0,str [],.slice none 0 0,.slice none 0 0,.slice none 0 0,.slice none 0 0,.slice none 0 0])∧(aC au.heap V<|[bd .i64 ((if n≤64 then n else 0:Nat):Int),str t,.slice O rs.length rc]++vs)∧(aC au.heap rb [str s,aA am,aA f8])∧(Wk w au)∧(aa.heap.size≤au.heap.size)∧(ao≤4)∧(am≤s.length)∧(vs.length=4)∧((f8=0∧(bJ s=fS s (if n≤64 then n else 0) t rs aq∧dZ (if n≤64 then n else 0) t rs=true)∧cq (cJ s) ao aq= .ok (ls,am)∧∀ i,i < ao→eT au aa.heap.size (vs.getD i .nilFunc) (ls.getD i []))∨(f8≠0∧∃ ak,bJ s= .error ak))∧(ba au aa.heap.size 100 2 (.slice O rs.length rc) rs.length<|rs.flatMap dY)∧(Sl c3 [(0,str s),(2,aZ Z),(4,aZ rb),(5,aZ V),(11,aA ao)])∧(4 - ao=bc)) _ ⟨0,[],[.slice none 0 0,.slice none 0 0,.slice none 0 0,.slice none 0 0],aq,f7,J,I,C,M,ad,ab,bv,U,(c9.imp (fun h=>⟨h.1,h.2,U,fun i hi=>by omega⟩) id),E,U,U⟩ ?_;rintro bc c3 au ⟨ao,ls,vs,am,f8,J,I,C,M,ad,eY,bX,az,a3,E,eA,rfl⟩;refine bK eA<|aR 6 U<|gs (t:=90) U (fun eg=> ?_) fun eg=> ?_;refine aj 3 U<|bC U (aw U<|C.aK 2)<|aJ 4 U<|cd U (fun cK=> ?_) fun cK=> ?_;obtain ⟨ci,aT,bU,a4⟩:=a3.resolve_right fun h=>h.1 ab;obtain rfl :f8=0:=ci;refine aG 7 U<|e<|bg (Fc rb s am au C a7 bX) U ?_;rintro eM fy ⟨eK,f9,db,em,cT,bf⟩;have e3:=bf.size;obtain ⟨a0,bY,cc,rfl⟩:∃ a0 bY cc,eM= .slice a0 bY cc:=by
  rcases cT with ⟨_,l,_,da⟩ | ⟨_,_,h⟩;obtain ⟨a0,cc,h,_⟩:=da.ee; exact ⟨a0,_,cc,h⟩;exact h
 have dI:=bf.B J fun h=>by omega
 have dR:=bf.B I fun h=>by omega
 have dz:=(M).trans' bf fun k A h=>by omega
 refine aj 1 U<|p (iW yT U U ab)<|e<|st Gl U U (U) (dR) (by simp only [cz,dP,lB,az]; omega) fun cV a5 dg=> ?_;have e8:=a5.size;have dT:aC cV.heap V ([bd .i64 ((if n≤64 then n else 0:Nat):Int),str t,.slice O rs.length rc]++vs.set ao (.slice a0 bY cc)):=by rw [← xg]; exact dg
 have dK:=a5.B dI fun h=>by omega
 have d4:=a5.B db fun h=>by omega
 have dC:=dz.trans' a5 fun k A h=>by omega
 have cC:Md (fun k=>k=rb∨k=V) au cV:=(bf.mono fun _ _ h=> .inl h).trans<|a5.mono fun _ _ h=> .inr h;have ek:=bI E cC fun k A h=>by have :=(cw E A).1; omega
 exact aj 5 U<|p (bF<|ao+1)<|ax 2 U<|tn<|⟨_,ab,ao+1,qE s (ao+1) aq,vs.set ao (.slice a0 bY cc),eK,f9,dK,dT,d4,dC,ab,ab,em,(by rw [gl]; exact az),(JR bU aT.1 aT.2 cT a4 ab az cC (fun k A=>by omega) ad a5),ek,U,U⟩
 exact aH 2 U<|cr<|bl 1 U<|tn<|⟨ls,vs,am,f8,J,I,C,M,ad,bX,az,(a3.elim (fun h=>absurd h.1 fun ar=>cK ab) .inr),E,U⟩
 exact ax 11 U<|cr<|bl 1 U<|tn<|⟨ls,vs,am,f8,J,I,C,M,ad,bX,az,((by have c6:ao=4:=ab; subst c6; exact a3)),E,U⟩
 rintro c2 aP ⟨ls,vs,am,f8,J,I,C,M,ad,bX,az,a3,E,ey⟩;refine bK ey ?_;refine ff (fun c4 ae=> ∃ (f9:Nat),(aC ae.heap Z [bd .i64 0,str [],.slice none 0 0,.slice none 0 0,.slice none 0 0,.slice none 0 0,.slice none 0 0])∧(aC ae.heap V<|[bd .i64 ((if n≤64 then n else 0:Nat):Int),str t,.slice O rs.length rc]++vs)∧(aC ae.heap rb [str s,aA am,aA f9])∧(Wk w ae)∧(aa.heap.size≤ae.heap.size)∧((f9=0∧bJ s= .ok ⟨if n≤64 then n else 0,t,rs,ls⟩∧∀ i,i < 4→eT ae aa.heap.size (vs.getD i .nilFunc) (ls.getD i []))∨(f9≠0∧∃ ak,bJ s= .error ak))∧(ba ae aa.heap.size 100 2 (.slice O rs.length rc) rs.length<|rs.flatMap dY)∧(Sl c4 [(0,str s),(2,aZ Z),(4,aZ rb),(5,aZ V)])) ?_ ?_;refine aR 5 U<|p (aw U<|C.aK 2)<|aj 2 U<|gs (t:=109) U (fun cM=> ?_) fun cM=> ?_;obtain ⟨_,aT,bU,a4⟩:=a3.resolve_right fun h=>h.1 ab;refine aj 3 U<|bC U (aw U<|C.aK 1)<|aJ 6 U<|cd U (fun d7=> ?_) fun d7=> ?_;refine aG 4 U<|e<|st cI U U (U) (C) (by simp) fun fM bm di=> ?_;have fa:=bm.size;exact ax 1 U<|tn<|⟨202,(bm.B J fun h=>by omega),(bm.B I fun h=>by omega),di,(M.trans' bm fun k A h=>by omega),ab,(.inr ⟨aE,_,by rw [aT.1,zB aT.2 bU ab]⟩),(bI E bm fun k A h=>by have :=(cw E A).1; omega),U⟩
 exact aH 1 U<|tn<|⟨f8,J,I,C,M,ad,(.inl ⟨ab,by rw [aT.1,zC aT.2 bU ab],a4⟩),E,U⟩
 exact ax 12 U<|tn<|⟨f8,J,I,C,M,ad,(a3.elim (fun h=>absurd h.1 fun ar=>cM ab) .inr),E,U⟩
 rintro c4 ae ⟨f9,J,I,C,M,ad,cB,E,eB⟩;refine bK eB<|aG 6 U<|p (aw U<|C.aK 2)<|aJ 3 U<|cd U (fun cf=> ?_) fun cf=> ?_;obtain ⟨ec,d0⟩:=cB.resolve_left fun h=>cf<|by rw [h.1]; rfl
 refine bW 1 U ?_;have br:(fun w'=>Md (fun k=>k=Z) ae w') ae.drew:=(Md.refl _ _).drew;refine bo (fun w'=>Md (fun k=>k=Z) ae w') U wide br<|cR 0 U (eU (ps:= []) (L:= [.int .i64 0,.string ⟨⟨[]⟩⟩,.slice none 0 0,.slice none 0 0,.slice none 0 0,.slice none 0 0,.slice none 0 0]) tw U<|U) br<|aF [1,2,3] U br<|qe 4 U (fun w' dx=>aw U<|(Md.B dx C fun h=>by omega).aK 2) br<|he 5 U ai<|qJ kz U U U U (J) (by simp) fun eQ dw dk=> ?_
 skip
 have b6:(fun w'=>Md (fun k=>k=Z) ae w') eQ:=Md.trans br dw;refine ⟨b6,?_⟩;exact aF [6] U b6<|hn ai<|bl 3 U<|r8 U (iC (cs:= [bd .i64 0,str [],.slice none 0 0,.slice none 0 0,.slice none 0 0,.slice none 0 0,.slice none 0 0]) U jU U fun j ck=>dk.aK j) kT<|⟨.inr ⟨d0,f9,ec,U⟩,M.trans' b6 fun k A h=>by omega⟩
 obtain ⟨_,ea,a4⟩:=cB.resolve_right fun h=>cf ab;refine bW 3 U ?_;obtain ⟨aD,aI,aL,aN,rfl⟩:∃ aD aI aL aN,vs= [aD,aI,aL,aN]:=by
  match vs,az with
  | [aD,aI,aL,aN],_=>exact ⟨_,_,_,_,rfl⟩
 have d1:il ae w.heap.size [bd .i64 ((if n≤64 then n else 0:Nat):Int),str t,.slice O rs.length rc,aD,aI,aL,aN] ⟨if n≤64 then n else 0,t,rs,ls⟩:=⟨O,rc,[aD,aI,aL,aN],rfl,az,(bB E).2,fun i hi=>(a4 i hi).mono ab⟩
 have d2:=d1.one;refine aG 1 U<|p (eI jU U (U) (show ∀ j,j < 7→ay ae.heap V (0 +j)=([bd .i64 ((if n≤64 then n else 0:Nat):Int),str t,.slice O rs.length rc,aD,aI,aL,aN]:List ag)[j]? from fun j _=>I.aK j))<|e<|qJ kz U U U d2.2 J aE fun eN b3 dl=> ?_;have dm:aC eN.heap Z [bd .i64 ((if n≤64 then n else 0:Nat):Int),str t,.slice O rs.length rc,aD,aI,aL,aN]:=dl;exact ax 4 U<|r8 U (iC (cs:= [bd .i64 ((if n≤64 then n else 0:Nat):Int),str t,.slice O rs.length rc,aD,aI,aL,aN]) U jU U fun j ck=>dm.aK j) kT<|⟨.inl ⟨_,_,ea,U,⟨O,rc,[aD,aI,aL,aN],U,az,(bB<|bI E b3 fun k A h=>by have :=(cw E A).1; omega).2,fun i hi=>((a4 i hi).md b3 fun k A hb=>absurd hb ab).mono ab⟩⟩,M.trans' b3 fun k A h=>by omega⟩
end Go.Hb.pI
section
namespace Go.Hb.yF
open Go.Hb.pI
theorem rz.form {s:List UInt8} {w w':ah} {v:ag} (h:rz s w v w'):∃ E I x2 J L M O q,v= .tuple #[.agg [E,I,x2,J,L,M,O].toArray,.int .i64 ((q:Nat):Int)]∧[E,I,x2,J,L,M,O].all eO=true∧Wk w w'∧
 ((q≠0∧∃ aj,bJ s= .error aj)∨(q=0∧∃ b,bJ s= .ok b∧il w' w.heap.size [E,I,x2,J,L,M,O] b)):=by
 obtain ⟨h,ai⟩:=h;rcases h with ⟨b,cs,A,C,hb⟩ | ⟨A,q,al,C⟩
 · obtain ⟨ak,h1⟩:=hb.one;obtain ⟨V,Z,aa,ab,ac,ad,ae,rfl⟩:∃ V Z aa ab ac ad ae,cs= [V,Z,aa,ab,ac,ad,ae]:=by
    match cs,ak with
    | [V,Z,aa,ab,ac,ad,ae],_=>exact ⟨_,_,_,_,_,_,_,rfl⟩
   exact ⟨_,_,_,_,_,_,_,0,C,h1,ai,.inr ⟨U,b,A,hb⟩⟩
 · exact ⟨_,_,_,_,_,_,_,q,C,U,ai,.inl ⟨al,A⟩⟩
theorem BV {w w':ah} {I e:Nat} {E:Option Addr} {s:List UInt8} {b:dU} (O:b.Is s) (A:aX w.heap E (b.cH.flatMap dY)) (M:w.heap[I]? =some (.cells [bd .i64 0,str [],.slice none 0 0,.slice none 0 0,.slice none 0 0,.slice none 0 0,.slice none 0 0].toArray e (0,0))) (hm:Md (fun k=>k=I) w w'):aX w'.heap E (b.cH.flatMap dY):=by
 refine A.md hm fun J U=> ?_;have hr:=O.cH;cases hrp:b.cH with
 | nil=>rw [hrp] at J; exact J rfl
 | cons r rs=>
   rw [hrp] at A hr;have h1:=A.ay 0 (str r.1) rfl;rw [U,bh M] at h1;have L:=(hr r List.mem_cons_self).1;have :∀ j,j < 7→([bd .i64 0,str [],.slice none 0 0,.slice none 0 0,.slice none 0 0,.slice none 0 0,.slice none 0 0]:List ag).toArray[j]?≠some (str r.1):=fun j C h=>by
    match j,C with
    | 0,_=>cases h
    | 1,_=>exact L<|by simp [str] at h; exact h
    | 2,_=>cases h
    | 3,_=>cases h
    | 4,_=>cases h
    | 5,_=>cases h
    | 6,_=>cases h
   by_cases C:fo E+0 < 7
   · exact this _ C h1
   · rw [Array.getElem?_eq_none (by simp; omega)] at h1; cases h1
def ET (s:List UInt8) (w:ah) (v:ag) (w':ah):Prop := ∃ C E I x2 J L M O A,v= .tuple #[.pointer C,.agg [E,I,x2,J,L,M,O].toArray,.bool A,.bool true]∧[E,I,x2,J,L,M,O].all eO=true∧Wk w w'∧
 ((∃ U b,C=some ⟨U,0,none⟩∧A=true∧bJ s= .ok b∧im w' w.heap.size U b s∧il w' w.heap.size [E,I,x2,J,L,M,O] b)∨(C=none∧A=false∧∃ V,bJ s= .error V))
theorem BS (s:List UInt8) (w:ah) (aW:s.length≤1048576):
 bj prog 8 (bD [str s]) w (ET s w):=by
 refine enter func8 U ntmps8 U<|aR 3 U<|e<|dC o7 fun aw aY bq aQ aB=> ?_;have bx:=aQ.size;refine aj 6 U<|p mv<|e<|bg (A8 s aY aW) U ?_;rintro bo aI ⟨am,ae⟩;have bu:=ae.size;obtain ⟨E,u,rfl,aV,bi⟩:∃ E u,bo= .tuple #[.pointer E,u]∧(∀ C,E=some C→∃ J b,C=⟨J,0,none⟩∧bJ s= .ok b∧im aI aY.heap.size J b s)∧(E=none→∃ ad,bJ s= .error ad):=by
  cases hX:bJ s with
  | ok b=>rw [hX] at am; obtain ⟨J,h,bh⟩:=am; exact ⟨_,_,h,fun C A=>⟨J,b,(dq A).symm,rfl,bh⟩,fun A=>by cases A⟩
  | error q=>rw [hX] at am; exact ⟨_,_,am,fun C A=>(by cases A),fun _=>⟨q,rfl⟩⟩
 clear am;refine p mv<|aj 2 U<|p aT<|p aT<|aj 4 U<|p mv<|e<|bg (Jf s aI aW) U fun bC aX bd=> ?_;obtain ⟨L,M,x2,O,V,Z,aa,q,rfl,av,al,aG⟩:=rz.form bd;have bv:=al.size;have bn:(q=0∧E≠none)∨(q≠0∧E=none):=by
  rcases aG with ⟨h1,ad,A⟩ | ⟨h1,b,A,_⟩;refine .inr ⟨h1,?_⟩;cases hoc:E with
  | none=>rfl
  | some C=>obtain ⟨_,_,_,ap,_⟩:=aV C hoc; rw [A] at ap; cases ap
  refine .inl ⟨h1,fun ap=> ?_⟩;obtain ⟨ad,aM⟩:=bi ap;rw [A] at aM; cases aM
 refine p mv<|aj 2 U<|e<|dC o7 fun aL bE br aS a5=> ?_;have bz:=aS.size;refine e<|eu kz U U U av a5 aE fun ao aP a6=> ?_;have bA:=aP.size;have a7:aC ao.heap aL [L,M,x2,O,V,Z,aa]:=⟨_,a6⟩
 have aq:Wk aX ao:=aS.md.trans' aP fun k aF h=>by omega
 have a4:=Wk.ak aq<|Wk.ak al<|Wk.ak ae aB;refine aJ 4 U<|sx 10 fun I=>qo 0 U (mv) I<|Ir 1 U (fun w' bf=>eI jU U (U)<|(show ∀ j,j < 7→ay w'.heap aL (0 +j)=([L,M,x2,O,V,Z,aa]:List ag)[j]? from fun j _=>(Wk.B bf a7).aK j)) I<|qc [2,3] U I<|qo 4 U (mv) I<|qo 5 U (jw qK U U) I<|qc [6,7] U I<|qo 8 U (u6 u4 U U) I<|qo 9 U (aT) I<|kL 10 U ai ai<|eu kz U U U av a4 aE fun ac ar a8=> ?_;have bB:=ar.size;have a9:aC ac.heap aw [L,M,x2,O,V,Z,aa]:=⟨_,a8⟩
 refine Bb 11 U (fun _=>aT) (fun h=>dn<|(show true =_ from by kernel_rfl).trans h)<|Bb 12 U (fun _=>aT) (fun h=>dn<|(show true =_ from by kernel_rfl).trans h)<|kM ai<|bl 2 U<|G6 U kT (iC (cs:= [L,M,x2,O,V,Z,aa]) U jU U fun j bt=>a9.aK j) kT kT ?_;have bp:Wk ao ac→Wk ao ac:=id;have bc:Wk w ao:=((aQ.md.trans ae).trans al).trans aq;have aN:Wk w ac:=bc.trans' (Md.cy ar) fun k aF h=>by omega
 rcases bn with ⟨h1,A⟩ | ⟨h1,A⟩;obtain ⟨_,b,au,ba⟩:=aG.resolve_left fun h=>h.1 h1;obtain ⟨C,rfl⟩:∃ C,E=some C:=by
  cases E with
  | none=>exact absurd rfl A
  | some C=>exact ⟨C,rfl⟩
 obtain ⟨J,aZ,rfl,aU,bb⟩:=aV C rfl;obtain rfl :b=aZ:=by rw [au] at aU; cases aU; rfl
 subst h1;refine ⟨some ⟨J,0,none⟩,L,M,x2,O,V,Z,aa,true,U,av,aN,.inl ⟨J,b,U,U,au,?_,?_⟩⟩;obtain ⟨cs,a2,⟨aH,rc,vs,rfl,ax,az,aA⟩,g6⟩:=bb;have aD:Md (fun k=>k=aw) aI ac:=(al.trans aq).mono (fun _ _ h=>h.elim) |>.trans (Md.cy ar);exact ⟨_,aD.B a2 (fun h=>by omega),⟨aH,rc,vs,U,ax,BV (rS au) az (Wk.ak ae aB) aD,fun i hi=>((aA i hi).md aD fun k aF hb cur z=>by omega).mono ab⟩,ab⟩;obtain ⟨aH,rc,vs,a3,ax,az,aA⟩:=ba;have aO:Md (fun k=>k=aw) aX ac:=aq.mono (fun _ _ h=>h.elim) |>.trans (Md.cy ar);exact ⟨aH,rc,vs,a3,ax,BV (rS au) az (Wk.ak al<|Wk.ak ae aB) aO,fun i hi=>((aA i hi).md aO fun k aF hb cur z=>by omega).mono ab⟩;subst A;obtain ⟨_,ad,bm⟩:=aG.resolve_right fun h=>h1 h.1;refine ⟨none,L,M,x2,O,V,Z,aa,false,?_,av,aN,.inr ⟨U,U,ad,bm⟩⟩;have a0:decide (((q:Nat):Int)=0)=false :=decide_eq_false ab;show Value.tuple #[.pointer none,.agg [L,M,x2,O,V,Z,aa].toArray,.bool (decide (((q:Nat):Int)=0)),.bool (decide ((none:Option Addr).isNone=decide (((q:Nat):Int)≠0)))]=_;have a1:decide (((q:Nat):Int)≠0)=true :=decide_eq_true ab;rw [a0,a1];rfl
end Go.Hb.yF
end
section
namespace Go.Hb
open Go.Hb.pI
def jN (l:List aM) (q:Nat) (c:UInt8):Int:=match e9 l q c with
 | some m=>(m:Int)
 | none=> -1
theorem JF (a:Option Addr) (c:Nat) (l:List aM) (q:Nat) (C:UInt8) (w:ah) (L:gV w.heap a l) (ae:lH l) (aa:q < l.length):
 bj prog 45 (bD [.slice a l.length c,aA q,.int .u8 C.toNat]) w (fun v w'=>v= .int .i64 (jN l q C)∧Wk w w'):=by
 obtain ⟨ap,aq,M,J⟩:=L.two aa;obtain ⟨au,am⟩:=ae.st aa;refine enter func45 U ntmps45 U<|cj 12 U<|lp (fun V ad ac=> ∃ (k:Nat),(k≤(aO l q).2.length)∧(∀ (j:Nat) (e':UInt8×Int),j < k→(aO l q).2[j]? =some e'→e'.1≠C)∧(Wk w ac)∧(Sl ad [(0,.slice a l.length c),(1,aA q),(2,.int .u8 C.toNat),(7,aA k)])∧((aO l q).2.length - k=V)) _ ⟨0,ab,(fun j e h=>by omega),(Md.refl _ _),U,U⟩ ?_;rintro V ad ac ⟨k,ar,O,A,ao,rfl⟩;refine bK ao<|aR 6 U<|p (bc pW U U ab<|L.ok ab)<|aj 1 U<|p (aw U<|(l7 A M) 1 ab)<|aJ 4 U<|cd U (fun ag=> ?_) fun ag=> ?_;refine bW 5 U ?_;obtain ⟨I,he⟩:∃ d,(aO l q).2[k]? =some d:=⟨_,bG ab⟩
 refine aG 3 U<|p (bc pW U U ab<|L.ok ab)<|aj 1 U<|p (aw U<|(l7 A M) 1 ab)<|aj 1 U<|p (bc om U U ab<|J.ok ab)<|aj 1 U<|p (aw U<|(J.wk A).b k I he)<|aJ 4 U<|cd U (fun Z=> ?_) fun Z=> ?_;refine aG 4 U<|p (bc pW U U ab<|L.ok ab)<|aj 1 U<|p (aw U<|(l7 A M) 1 ab)<|aj 1 U<|p (bc om U U ab<|J.ok ab)<|aj 1 U<|p (aw U<|(J.wk A).to k I he)<|ax 6 U<|tr<|bl 2 U<|aP U ?_;have ai:=AH he (UInt8.toNat_inj.1 ab) O;have al:=(cK.1 he).1;have bo:jN l q C=I.2:=by
  have :=(am _ _ he).1;unfold jN e9;rw [ai,if_pos al,b9,he];show ((I.2.toNat:Nat):Int)=I.2;omega
 rw [bo];exact ⟨U,A⟩;exact aG 5 U<|p (bF<|k+1)<|ax 2 U<|tn<|⟨_,ab,k+1,ab,(fun j e' ak E=>by rcases Nat.lt_succ_iff_lt_or_eq.1 ak with h | rfl; exact O j e' h E; rw [he] at E; cases E; exact fun h=>Z<|by rw [h]),A,U,U⟩
 refine aH 2 U<|cr<|bl 8 U<|aP U ?_;have bo:jN l q C= -1:=by
  unfold jN e9;rw [AI (fun j e' E=>O j e' (by have :=(cK.1 E).1; omega) E),if_neg ab]
 rw [bo];exact ⟨U,A⟩
def et (n:Nat) (g:Nat→Bool):List Bool:=(List.range<|n+1).map g
theorem sU {n k:Nat} (g:Nat→Bool) (A:k≤n):(et n g)[k]? =some (g k):=by
 unfold et;rw [fq,re ab]; rfl
theorem qB (n:Nat) (g:Nat→Bool):(et n g).length=n+1:=by simp [et]
theorem sV {n:Nat} {g h:Nat→Bool} (e:∀ k,k≤n→g k=h k):et n g=et n h:=by
 unfold et;exact Eu fun k A=>e k<|by rw [mj] at A; omega
theorem Jv {n i:Nat} (g:Nat→Bool) (a:Bool):(et n g).set i a=et n fun k=>if k=i then a else g k:=by
 apply pq;intro k;by_cases A:k≤n
 · rw [sU _ A,Em,sU _ A,qB];by_cases h:i=k
   · subst h; rw [if_pos rfl,if_pos ab,if_pos rfl]
   · rw [if_neg h,if_neg (fun e=>h e.symm)]
 · have h1:=qB n fun k=>if k=i then a else g k
   have C:=qB n g;rw [gF (by rw [gl]; omega),gF ab]
theorem Ju (n:Nat):(cZ (n+1)<|bq false)=(et n fun _=>false).map bq:=by
 unfold et;rw [tX,show (bq∘fun _:Nat=>false)=fun _=>bq false from rfl,Ev,tW]
def kd (l:List aM) (least:Nat) (x:List UInt8) (i k:Nat):List Bool:=et x.length fun m=>az l least x i m && decide (m≤k)
theorem JO (l:List aM) (least:Nat) (x:List UInt8) (i:Nat):kd l least x i i=et x.length fun _=>false :=sV fun m _=>by
 unfold az;by_cases h:m≤i
 · rw [decide_eq_false (show ¬(i < m∧m≤x.length∧least≤m - i) by omega)]; rfl
 · rw [decide_eq_false (show ¬m≤i from h),Bool.and_false]
theorem xa {l:List aM} {least:Nat} {x:List UInt8} {i k:Nat} (h:az l least x i (k+1)=false):kd l least x i (k+1)=kd l least x i k:=sV fun m _=>by
 by_cases h1:m=k+1
 · subst h1; rw [h]; rfl
 · congr 1;exact decide_eq_decide.2 ab
theorem JP {l:List aM} {least:Nat} {x:List UInt8} {i k:Nat} (h:az l least x i (k+1)=true):(kd l least x i k).set (k+1) true =kd l least x i (k+1):=by
 unfold kd;rw [Jv];refine sV fun m _=> ?_;by_cases h1:m=k+1
 · subst h1; rw [if_pos rfl,h,decide_eq_true (aQ _)]; rfl
 · rw [if_neg h1]; congr 1;exact decide_eq_decide.2 ab
theorem Cc {l:List aM} {least:Nat} {x:List UInt8} {i k:Nat} (hi:i≤k) (h:k=x.length∨fT l (bU x i k)=none):kd l least x i k=et x.length (az l least x i):=sV fun m hm=>by
 by_cases h1:m≤k
 · rw [decide_eq_true h1,Bool.and_true]
 · rcases h with h | h
   · omega
   · have :=AA (m:=m) hi ab h;unfold az;rw [this]; simp [pZ]
theorem KD {l:List aM} {q m:Nat} {c:UInt8} (h:e9 l q c=some m):jN l q c=(m:Int):=by unfold jN; rw [h]
theorem KC {l:List aM} {q:Nat} {c:UInt8} (h:e9 l q c=none):jN l q c= -1:=by unfold jN; rw [h]
theorem sM {w:ah} {B B' e e' m J n L k:Nat} {v C:ag} {xs M:List ag} (h:w.ownsRow B e m v n xs) (h':w.ownsRow B' e' J C L M) (he:e'≠e) (A:v.ownBlock=some k):C.ownBlock≠some k:=fun I=>by
 rcases h.2 with ⟨rfl,_⟩ | ⟨g,cap,cur,rfl,_,E,_⟩
 · simp [gj] at A
 · simp only [gj,Option.some.injEq] at A;subst A;exact gy h' he _ I _ _ E
def rq (l:List aM) (x:List UInt8) (i k:Nat) (z:Int):Prop :=(∃ q:Nat,fT l (bU x i k)=some q∧z=(q:Int)∧q < l.length)∨(fT l (bU x i k)=none∧z= -1)
theorem rq.next {l:List aM} (C:lH l) (h0:0 < l.length) {x:List UInt8} {i k q:Nat} (hi:i≤k) (E:k < x.length) (I:fT l (bU x i k)=some q):rq l x i (k+1) (jN l q<|x.getD k 0):=by
 have h1:=vB (l:=l) hi E;rw [I] at h1;have A:fT l (bU x i<|k+1)=e9 l q (x.getD k 0):=h1;cases hx:e9 l q (x.getD k 0) with
 | none=>exact .inr ⟨A.trans hx,KC hx⟩
 | some m=>exact .inl ⟨m,A.trans hx,KD hx,Az C h0 h0<|A.trans hx⟩
theorem JG (B:Nat) (cs:List ag) (b:dU) (s x:List UInt8) (w:ah) (bA:il w B cs b) (a2:b.Is s) (ci:x.length≤1024):
 bj prog 22 (bD [.agg cs.toArray,str x]) w (fun v w'=>(∃ I,ba w' w.heap.size 64 1 v x.length I∧∀ C,C < x.length→ba w' w.heap.size 4 1 (I.getD C .nilFunc) (x.length+1) ((et x.length<|az (b.aq.getD 1 []) b.least x C).map bq))∧Wk w w'):=by
 obtain ⟨bo,rc,vs,rfl,b2,cb,bB⟩:=bA;obtain ⟨bp,b8,br,bt,rfl⟩:=four b2;obtain ⟨av,cc,b3,cg,a3⟩:=(bB 1 ab).ee;obtain rfl :b8=_:=b3;obtain ⟨a9,bU,bX⟩:=a2.aq _<|jY (l:=b.aq) (i:=1) (d:= [])<|by rw [a2.sD]; decide
 have bh:lH (b.aq.getD 1 []):=⟨bU,bX⟩
 have bn:0 < (b.aq.getD 1 []).length:=by unfold shaped at a9; simp only [Bool.and_eq_true,decide_eq_true_eq] at a9; exact a9.1.1
 have ch:b.least≤64:=a2.least.2;refine enter func22 U ntmps22 U<|aR 2 U<|e<|pM (L:= [aA (b.least),str b.tr,.slice bo b.cH.length rc,bp,.slice av (b.aq.getD 1 []).length cc,br,bt]) U fun aU E ce bi bz=> ?_;have ck:=bi.size;have bf:aC E.heap aU [aA (b.least),str b.tr,.slice bo b.cH.length rc,bp,.slice av (b.aq.getD 1 []).length cc,br,bt]:=⟨_,bz⟩
 have aL:=bi.md;refine aj 6 U<|p (iW yT U U aE)<|p (aw U<|bf.aK 4)<|p aT<|aJ 14 U<|lp (fun ay bu ak=> ∃ (i:Nat) (ai:ag) (I:List ag),(i≤x.length)∧(ba ak E.heap.size 64 1 ai i I∧∀ C,C < i→ba ak E.heap.size 4 1 (I.getD C .nilFunc) (x.length+1) ((et x.length<|az (b.aq.getD 1 []) b.least x C).map bq))∧(Wk E ak)∧(Sl bu [(1,str x),(2,aZ aU),(5,.slice av (b.aq.getD 1 []).length cc),(6,ai),(7,aA i)])∧(x.length - i=ay)) _ ⟨0,.slice none 0 0,[],ab,(⟨ez _ _ _ _,fun i h=>by omega⟩),(Md.refl _ _),U,U⟩ ?_;rintro ay bu ak ⟨i,ai,I,hi,Z,aD,b0,rfl⟩;refine bK b0 ?_;have cn:=aD.size;refine cj 9 U<|cd U (fun bL=> ?_) fun bL=> ?_;refine aG 8 U<|p (bF<|x.length+1)<|e<|fC (n:=x.length+1) (zv:= .bool false) CF Mc U U U ab (by unfold maxLen; omega) fun M b7 cf ad bY=> ?_;have cm:=ad.size;have bl:=bY ak.heap.size ab;rw [Ju,← JO (b.aq.getD 1 []) b.least x i] at bl;refine aJ 16 U<|lp (fun ay bv ar=> ∃ (k:Nat) (z:Int),(i≤k)∧(k≤x.length)∧(rq (b.aq.getD 1 []) x i k z)∧(ba ar ak.heap.size 4 1 (bE (some ⟨M,0,none⟩) (x.length+1)<|x.length+1) (x.length+1)<|(kd (b.aq.getD 1 []) b.least x i k).map bq)∧(Md (fun k=>k=M) b7 ar)∧(Sl bv [(1,str x),(2,aZ aU),(5,.slice av (b.aq.getD 1 []).length cc),(6,ai),(7,aA i),(8,bE (some ⟨M,0,none⟩) (x.length+1) (x.length+1)),(9,.int .i64 z),(10,aA k)])∧(x.length - k=ay)) _ ⟨i,0,ab,ab,(.inl ⟨0,by rw [zj]; rfl,U,bn⟩),bl,(Md.refl _ _),U,U⟩ ?_;rintro ay bv ar ⟨k,z,aQ,A,bb,ae,V,b1,rfl⟩;refine bK b1<|aR 8 U<|gs (t:=29) U (fun bQ=> ?_) fun bQ=> ?_;refine aJ 5 U<|cd U (fun bM=> ?_) fun bM=> ?_;refine bW 5 U ?_;obtain ⟨q,bS,rfl,bZ⟩:=bb.resolve_right fun ⟨_,h⟩=>by omega
 have au:Wk E ar:=(aD.trans ad.md).trans' V fun k A h=>by omega
 have a1:=aL.trans au;refine aG 5 U<|p (fy u9 U U ab)<|e<|bg (JF av cc (b.aq.getD 1 []) q (x.getD k 0) ar (a3.wk a1) bh bZ) U ?_;rintro cp ct ⟨rfl,ac⟩;have aW:=rq.next bh bn aQ ab bS
 generalize co:jN (b.aq.getD 1 []) q (x.getD k 0)=z2 at aW ⊢;have aM:=V.trans<|ac.mono fun _ _ h=>h.elim;refine aj 8 U<|gs (t:=43) U (fun bR=> ?_) fun bR=> ?_;obtain ⟨m,aO,rfl,aS⟩:=aW.resolve_right fun ⟨_,h⟩=>by omega
 obtain ⟨b9,ca,bH,_⟩:=(a3.wk<|a1.trans ac).two aS;have a7:=BN (least:=b.least) aQ ab aO;refine aj 2 U<|bC U (bc pW U U ab<|(a3.wk<|a1.trans ac).ok ab)<|aj 1 U<|bC U (aw U<|bH 0 ab)<|aj 2 U<|gb (t:=50) U (fun aN=> ?_) fun aN=> ?_;refine aj 1 U<|bC U (bF<|k+1)<|aj 1 U<|bC U (kV<|k+1 - i)<|aj 1 U<|bC U (aw U<|(Wk.B (au.trans ac) bf).aK 0)<|aJ 4 U<|cd U (fun bN=> ?_) fun bN=> ?_;refine aG 1 U<|eL (bE (some ⟨M,0,none⟩) (x.length+1)<|x.length+1)<|aj 1 U<|p (bF<|k+1)<|p (bc pX U U ab<|U)<|e<|jc (j:=k+1) (u:= .bool true) (aV ae ac) uO U U U (by simp [fo]) ab fun cq bG a5=> ?_;rw [jQ.symm] at a5;exact aj 5 U<|p (bF<|k+1)<|ax 2 U<|tn<|⟨_,ab,k+1,(m:Int),ab,ab,(.inl ⟨m,aO,U,aS⟩),(by rw [JP (by rw [a7,aN,pf]; exact decide_eq_true ab)] at a5; exact a5),(aM.trans<|bG.mono fun _ _ h=>(dq h).symm),U,U⟩
 exact aG 5 U<|p (bF<|k+1)<|ax 2 U<|tn<|⟨_,ab,k+1,(m:Int),ab,ab,(.inl ⟨m,aO,U,aS⟩),(by rw [xa (by rw [a7,aN,pf]; exact decide_eq_false ab)]; exact aV ae ac),aM,U,U⟩
 exact aj 16 U<|p (bF<|k+1)<|ax 2 U<|tn<|⟨_,ab,k+1,(m:Int),ab,ab,(.inl ⟨m,aO,U,aS⟩),(by rw [xa (by rw [a7,aN,Bool.false_and])]; exact aV ae ac),aM,U,U⟩
 obtain ⟨bm,rfl⟩:=aW.resolve_left fun ⟨m,_,h,_⟩=>by omega
 exact aj 6 U<|p mv<|aj 16 U<|p (bF<|k+1)<|ax 2 U<|tn<|⟨_,ab,k+1,-1,ab,ab,(.inr ⟨bm,U⟩),(by rw [xa (by unfold az; rw [bm]; simp [pZ])]; exact aV ae ac),aM,U,U⟩
 refine aH 2 U<|cr<|dh 2 U ?_;have au:Wk E ar:=(aD.trans ad.md).trans' V fun k A h=>by omega
 have a8:(kd (b.aq.getD 1 []) b.least x i k)=et x.length (az (b.aq.getD 1 []) b.least x i):=Cc aQ (by
  rcases bb with ⟨q,h1,aB,al⟩ | ⟨h1,_⟩;exact .inl ab;exact .inr h1)
 rw [a8] at ae;have aF:=bI (aV Z.1 ad.md) V fun k A h=>by have :=(cw Z.1 A).2; omega
 have bO:=Z.1.1;have b5:=V.size;refine aG 1 U<|eL (ai)<|eL (bE (some ⟨M,0,none⟩) (x.length+1)<|x.length+1)<|e<|jo tu U U fun bx b6 bJ J aY=> ?_;have b4:=J.size;refine e<|ap tu (aV aF J.md) U ab U (aX.fD aY) (U) (U) ab ab fun aI ao a6 aa bd bP=> ?_;have bd:=aa.size;have am:=aV aF J.md;have a4:ba ao E.heap.size 64 1 aI (i+1) (I++ [bE (some ⟨M,0,none⟩) (x.length+1) (x.length+1)])∧∀ C,C < (i+1)→ba ao E.heap.size 4 1 ((I++ [bE (some ⟨M,0,none⟩) (x.length+1) (x.length+1)]).getD C .nilFunc) (x.length+1) ((et x.length<|az (b.aq.getD 1 []) b.least x C).map bq):=by
  refine ⟨a6,fun i2 aB=> ?_⟩;by_cases h:i2 < i;rw [sg ab];have al:=Z.2 i2 h;have O:=aV (bI (aV al ad.md) V fun k A e=>by have :=(cw al A).2; omega) J.md;exact bI O aa fun k A=>sM O am aE A;obtain rfl :i2=i:=ab;rw [sf ab];have O:=aV (j9 ae (show E.heap.size≤ak.heap.size by omega)) J.md;exact bI O aa fun k A=>sM O am aE A
 have a0:Wk E ao:=(au.trans J.md).trans' aa fun k A h=>by have :=(cw am h).1; omega
 exact p aT<|aj 5 U<|p (bF<|i+1)<|ax 2 U<|tn<|⟨_,ab,i+1,aI,I++ [bE (some ⟨M,0,none⟩) (x.length+1) (x.length+1)],ab,a4,a0,U,U⟩
 refine ax 8 U<|cr<|dh 2 U ?_;have au:Wk E ar:=(aD.trans ad.md).trans' V fun k A h=>by omega
 have a8:(kd (b.aq.getD 1 []) b.least x i k)=et x.length (az (b.aq.getD 1 []) b.least x i):=Cc aQ (by
  rcases bb with ⟨q,h1,aB,al⟩ | ⟨h1,_⟩;exact .inl ab;exact .inr h1)
 rw [a8] at ae;have aF:=bI (aV Z.1 ad.md) V fun k A h=>by have :=(cw Z.1 A).2; omega
 have bO:=Z.1.1;have b5:=V.size;refine aG 1 U<|eL (ai)<|eL (bE (some ⟨M,0,none⟩) (x.length+1)<|x.length+1)<|e<|jo tu U U fun bx b6 bJ J aY=> ?_;have b4:=J.size;refine e<|ap tu (aV aF J.md) U ab U (aX.fD aY) (U) (U) ab ab fun aI ao a6 aa bd bP=> ?_;have bd:=aa.size;have am:=aV aF J.md;have a4:ba ao E.heap.size 64 1 aI (i+1) (I++ [bE (some ⟨M,0,none⟩) (x.length+1) (x.length+1)])∧∀ C,C < (i+1)→ba ao E.heap.size 4 1 ((I++ [bE (some ⟨M,0,none⟩) (x.length+1) (x.length+1)]).getD C .nilFunc) (x.length+1) ((et x.length<|az (b.aq.getD 1 []) b.least x C).map bq):=by
  refine ⟨a6,fun i2 aB=> ?_⟩;by_cases h:i2 < i;rw [sg ab];have al:=Z.2 i2 h;have O:=aV (bI (aV al ad.md) V fun k A e=>by have :=(cw al A).2; omega) J.md;exact bI O aa fun k A=>sM O am aE A;obtain rfl :i2=i:=ab;rw [sf ab];have O:=aV (j9 ae (show E.heap.size≤ak.heap.size by omega)) J.md;exact bI O aa fun k A=>sM O am aE A
 have a0:Wk E ao:=(au.trans J.md).trans' aa fun k A h=>by have :=(cw am h).1; omega
 exact p aT<|aj 5 U<|p (bF<|i+1)<|ax 2 U<|tn<|⟨_,ab,i+1,aI,I++ [bE (some ⟨M,0,none⟩) (x.length+1) (x.length+1)],ab,a4,a0,U,U⟩
 refine aH 2 U<|cr<|eY 4 U<|eL (ai)<|p (pK (ai) U)<|ax 3 U<|aP U ?_;have bT:i=x.length:=ab;subst bT;exact ⟨⟨I,j9 Z.1 aL.size,fun i2 aB=>j9 (Z.2 i2 aB) aL.size⟩,aL.trans aD⟩
end Go.Hb
end
section
namespace Go.Hb
def zv (z:Int):ag:= .int .i64 z
def dO {α:Type} (n:Nat) (g:Nat→α):List α:=(List.range<|n+1).map g
section
variable {α:Type} {n i k:Nat} {g h:Nat→α}
theorem sS (n:Nat) (g:Nat→α):(dO n g).length=n+1:=by simp [dO]
theorem m5 (g:Nat→α) (A:k≤n):(dO n g)[k]? =some (g k):=by
 unfold dO;rw [fq,re ab]; rfl
theorem BY (e:∀ k,k≤n→g k=h k):dO n g=dO n h:=by
 unfold dO;exact Eu fun k A=>e k<|by rw [mj] at A; omega
theorem qA (g:Nat→α) (a:α):(dO n g).set i a=dO n fun k=>if k=i then a else g k:=by
 apply pq;intro k;by_cases A:k≤n
 · rw [m5 _ A,Em,m5 _ A,sS];by_cases h:i=k
   · subst h; rw [if_pos rfl,if_pos ab,if_pos rfl]
   · rw [if_neg h,if_neg (fun e=>h e.symm)]
 · have h1:=sS n fun k=>if k=i then a else g k
   have C:=sS n g;rw [gF (by rw [gl]; omega),gF ab]
theorem Jt (n:Nat) (f:α→ag) (a:α):cZ (n+1) (f a)=(dO n fun _=>a).map f:=by
 unfold dO;rw [tX,show (f∘fun _:Nat=>a)=fun _=>f a from rfl,Ev,tW]
theorem sT (i:Nat) (u v:α) (g:Nat→α):(dO n fun k=>if k=i then v else if k=i then u else g k)=dO n fun k=>if k=i then v else g k:=BY fun k _=>by
 by_cases h:k=i
 · rw [if_pos h,if_pos h]
 · rw [if_neg h,if_neg h,if_neg h]
end
theorem ib {h:Array Obj} {a:Option Addr} {r:List Int} {i:Nat} {x:Int} (A:aX h a (r.map zv)) (hi:r[i]? =some x):ay h (bk a) (fo a+i*1)=some (.int .i64 x):=by
 rw [ug]; exact A.ay _ _<|by rw [fq,hi]; rfl
theorem yY {h:Array Obj} {a:Option Addr} {r:List Bool} {i:Nat} {x:Bool} (A:aX h a (r.map bq)) (hi:r[i]? =some x):ay h (bk a) (fo a+i*1)=some (.bool x):=by
 rw [ug]; exact A.ay _ _<|by rw [fq,hi]; rfl
section
variable {pc:Nat→Nat→Bool} {n i j k:Nat}
def dt (pc:Nat→Nat→Bool) (n j:Nat):Nat→Int:=dc n (fun _=>0) (j1 pc n) j
def fW (pc:Nat→Nat→Bool) (n j i k:Nat):Int:=(List.range' (i+1) k).foldl (jD pc n i<|dt pc n j)<|-1
theorem vM:fW pc n j i (k+1)=jD pc n i (dt pc n j) (fW pc n j i k) (i+1 +k):=by
 unfold fW;rw [List.range'_1_concat,List.foldl_append]; rfl
theorem sp:∀ {j:Nat} (q:Nat),-1≤dt pc n j q∧dt pc n j q≤j
 | 0,q=>by unfold dt dc; omega
 | j+1,q=>by
   have ih:∀ q,-1≤dt pc n j q∧dt pc n j q≤(j:Int):=fun q=>sp q;show -1≤dc n (fun _=>0) (j1 pc n) (j+1) q∧dc n (fun _=>0) (j1 pc n) (j+1) q≤((j+1:Nat):Int);rw [dc];split
   · have :∀ (l:List Nat) (m:Int),-1≤m→m≤((j+1:Nat):Int)→ -1≤l.foldl (jD pc n q<|dc n (fun _=>0) (j1 pc n) j) m∧l.foldl (jD pc n q<|dc n (fun _=>0) (j1 pc n) j) m≤((j+1:Nat):Int):=fun l=>by
      induction l with
      | nil=>intro m h1 A; exact ⟨h1,A⟩
      | cons k l E=>
        intro m h1 A;rw [List.foldl_cons];have C:=ih k;unfold dt at C;refine E _ ?_ ?_ <;> (unfold jD; split; omega; split <;> omega)
     exact this _ _ ab ab
   · have :=ih q;unfold dt at this;omega
theorem HY: -1≤fW pc n j i k∧fW pc n j i k≤((j+1:Nat):Int):=by
 induction k with
 | zero=>show (-1:Int)≤ -1∧(-1:Int)≤_; omega
 | succ k ih=>
   rw [vM];have :=sp (pc:=pc) (n:=n) (j:=j)<|i+1 +k;unfold jD; split; omega; split <;> omega
theorem HZ:((dO n<|dt pc n j).set i<|-1)=dO n fun q=>if q=i then fW pc n j i 0 else dt pc n j q:=qA _ _
theorem H0 (h:i+j+1=n):(dO n fun q=>if q=i then fW pc n j i (n - i) else dt pc n j q)=dO n (dt pc n<|j+1):=BY fun q _=>by
 show _=dc n (fun _=>0) (j1 pc n) (j+1) q;rw [dc,show n - (j+1)=i by omega];by_cases A:q=i
 · subst A; rw [if_pos rfl,if_pos rfl]; rfl
 · rw [if_neg A,if_neg A]; rfl
theorem kI (h:pc i (i+1 +k)=false∨dt pc n j (i+1 +k) < 0∨(i=0∧i+1 +k=n)):fW pc n j i (k+1)=fW pc n j i k:=by
 rw [vM]; unfold jD; rw [if_pos h]
theorem fA (h:¬(pc i (i+1 +k)=false∨dt pc n j (i+1 +k) < 0∨(i=0∧i+1 +k=n))):fW pc n j i (k+1)=if fW pc n j i k < 0∨dt pc n j (i+1 +k)+1 < fW pc n j i k then dt pc n j (i+1 +k)+1 else fW pc n j i k:=by
 rw [vM]; unfold jD; rw [if_neg h]
theorem Gc {i:Nat} (hi:i < n) (h:eE pc n i):(∀ k,i < k→k≤n→(0 < i∨k < n)→pc i k=true→jR pc n k=jR pc n i - 1→k≤bN pc n i)∧jR pc n (bN pc n i)=jR pc n i - 1:=by
 obtain ⟨O,C,U,V,Z,E⟩:=h.next hi
 have L:(jC pc n i).1≠0:=by
  rcases h with h | h
  · omega
  · exact h.2
 have M:jR pc n i=((jC pc n i).1:Nat):=by
  rcases sa (pc:=pc) (n:=n) i ab with h | ⟨_,h | h⟩
  · omega
  · exact absurd h.1 L
  · exact h.2
 refine ⟨fun k h1 A I J aa=> ?_,?_⟩
 · refine Bw (ox.2 ⟨h1,A,J⟩) ?_;unfold cD;refine decide_eq_true ⟨I,?_,?_⟩ <;> (rcases sa (pc:=pc) (n:=n) k A with h | ⟨_,h | h⟩ <;> omega)
 · rcases sa (pc:=pc) (n:=n) (bN pc n i) C with h | ⟨_,h | h⟩
   · omega
   · exfalso;unfold eE at E;omega
   · omega
theorem AM (h0:0 < n):jR pc n 0 < 0↔(jC pc n 0).1=0:=by
 rcases sa (pc:=pc) (n:=n) 0 (fK _) with h | ⟨_,h | h⟩ <;> omega
end
theorem Hd (B:Nat) (a:Option Addr) (c n:Nat) (am:List ag) (pc:Nat→Nat→Bool) (w:ah) (hT:ba w B 64 1 (.slice a n c) n am∧∀ az,az < n→ba w B 4 1 (am.getD az .nilFunc) (n+1) ((et n<|pc az).map bq)) (bl:n≤1024):
 bj prog 23 (bD [.slice a n c,aA n]) w (fun v w'=>ba w' w.heap.size 3 1 v (n+1) ((dO n<|jR pc n).map zv)∧Wk w w'):=by
 have bh:=hT.1.1;refine enter func23 U ntmps23 U<|aR 7 U<|p mv<|p (bF<|n+1)<|e<|fC (n:=n+1) (zv:= .int .i64 0) qG o8 U U U ab (by unfold maxLen; omega) fun I aQ bb ad a3=> ?_;have bn:=ad.size;have aU:ba aQ w.heap.size 3 1 (bE (some ⟨I,0,none⟩) (n+1)<|n+1) (n+1) ((dO n<|dt pc n 0).map zv):=by
  have h:=a3 w.heap.size ab;rw [show cZ (n+1) (bd .i64 0)=_ from Jt n zv 0] at h; exact h
 refine aj 6 U<|p mv<|aJ 5 U<|lp (fun aa aS al=> ∃ (j:Nat) (z:Int),(j≤n)∧(z=(n:Int) - 1 - (j:Int))∧(ba al w.heap.size 3 1 (bE (some ⟨I,0,none⟩) (n+1)<|n+1) (n+1)<|(dO n<|dt pc n j).map zv)∧(Md (fun k=>k=I) aQ al)∧(Sl aS [(0,.slice a n c),(1,aA n),(5,bE (some ⟨I,0,none⟩) (n+1) (n+1)),(6,.int .i64 z)])∧(n - j=aa)) _ ⟨0,(n:Int) - 1,ab,ab,aU,(Md.refl _ _),U,U⟩ ?_;rintro aa aS al ⟨j,z,bi,bm,aN,ap,a6,rfl⟩;refine bK a6<|cj 7 U<|cd U (fun aW=> ?_) fun aW=> ?_;refine bW 5 U ?_;obtain ⟨i,rfl⟩:∃ i:Nat,z=(i:Int):=⟨z.toNat,ab⟩
 have a2:i+j+1=n:=ab;have a9:Wk w al:=ad.md.trans' ap fun k av h=>by omega
 refine aG 1 U<|eL (bE (some ⟨I,0,none⟩) (n+1)<|n+1)<|aj 1 U<|p (bc cn U U ab<|U)<|e<|jc (j:=i) (u:=zv<|-1) aN cI U U U (by simp [fo]) ab fun a8 aE aM=> ?_;have bo:=aE.size;rw [jQ.symm,HZ] at aM;have aI:=ap.trans<|aE.mono fun _ _ h=>(dq h).symm;refine aj 5 U<|p (bF<|i+1)<|aJ 4 U<|lp (fun aa aT ac=> ∃ (k:Nat),(i+k≤n)∧(ba ac w.heap.size 3 1 (bE (some ⟨I,0,none⟩) (n+1)<|n+1) (n+1)<|(dO n (fun q=>if q=i then fW pc n j i k else dt pc n j q)).map zv)∧(Md (fun k=>k=I) a8 ac)∧(Sl aT [(0,.slice a n c),(1,aA n),(5,bE (some ⟨I,0,none⟩) (n+1) (n+1)),(6,aA i),(7,aA (i+1 +k))])∧(n - i - k=aa)) _ ⟨0,ab,aM,(Md.refl _ _),U,U⟩ ?_;rintro aa aT ac ⟨k,av,A,E,a7,rfl⟩;refine bK a7<|cj 8 U<|cd U (fun aY=> ?_) fun aY=> ?_;refine bW 6 U ?_;have aD:Wk w ac:=ad.md.trans' (aI.trans E) fun k av h=>by omega
 have aK:=aV hT.1 aD;have ae:=aV (hT.2 i ab) aD;obtain ⟨aC,ce,aL⟩:=dA ae;rw [aL] at ae;have au:am[i]? =some (.slice aC (n+1) ce):=by rw [← aL,b9,bG ab]; rfl
 have a4:=aX.ok (bB aK).2 fun h=>by rw [h] at au; simp at au
 have a5:=aX.ok (bB ae).2 fun h=>by have :=congrArg jh h; rw [me,qB] at this; simp at this
 have aO:i+1 +k≤n:=ab;have Z:(dO n (fun q=>if q=i then fW pc n j i k else dt pc n j q))[i+1 +k]? =some (dt pc n j<|i+1 +k):=by rw [m5 _ aO,if_neg ab]
 have ak:(dO n (fun q=>if q=i then fW pc n j i k else dt pc n j q))[i]? =some (fW pc n j i k):=by rw [m5 _ ab,if_pos rfl]
 have bg:=sp (pc:=pc) (n:=n) (j:=j)<|i+1 +k;have bf:=HY (pc:=pc) (n:=n) (j:=j) (i:=i) (k:=k);refine aG 3 U<|p (bc Ae U U ab<|a4)<|p (aw U<|(show ay ac.heap (bk a) (fo a+i*1)=some (.slice aC (n+1) ce) from by rw [ug]; exact aX.ay (bB aK).2 _ _ au))<|aj 1 U<|p (bc pX U U ab<|a5)<|p (aw U<|yY (bB ae).2<|sU _ aO)<|aj 2 U<|gb (t:=35) U (fun M=> ?_) fun M=> ?_;rw [po] at M;exact aj 6 U<|p mv<|aj 17 U<|p (bF<|i+1 +k+1)<|ax 2 U<|tn<|⟨_,ab,k+1,ab,(by first | (rw [kI (by first | exact .inl (by simpa using M) | exact .inr ab)]; exact A) | (rw [fA J,if_pos ab]; exact L) | (rw [fA J,if_neg ab]; exact A)),(by first | exact E | exact E.trans (Md.cy<|O.mono fun _ _ h=>(dq h).symm) | exact Md.drew E),U,U⟩
 rw [po] at M;refine bC U (iX (bE (some ⟨I,0,none⟩) (n+1)<|n+1) U)<|aj 1 U<|bC U (bc cn U U ab<|U)<|bC U (aw U<|ib (bB A).2 Z)<|aj 3 U<|gs (t:=42) U (fun a0=> ?_) fun a0=> ?_;exact aj 17 U<|p (bF<|i+1 +k+1)<|ax 2 U<|tn<|⟨_,ab,k+1,ab,(by first | (rw [kI (by first | exact .inl (by simpa using M) | exact .inr ab)]; exact A) | (rw [fA J,if_pos ab]; exact L) | (rw [fA J,if_neg ab]; exact A)),(by first | exact E | exact E.trans (Md.cy<|O.mono fun _ _ h=>(dq h).symm) | exact Md.drew E),U,U⟩
 refine aj 3 U<|gs (t:=45) U (fun a1=> ?_) fun a1=> ?_;refine aJ 7 U<|cd U (fun aZ=> ?_) fun aZ=> ?_;exact aG 6 U<|p (bF<|i+1 +k+1)<|ax 2 U<|tn<|⟨_,ab,k+1,ab,(by first | (rw [kI (by first | exact .inl (by simpa using M) | exact .inr ab)]; exact A) | (rw [fA J,if_pos ab]; exact L) | (rw [fA J,if_neg ab]; exact A)),(by first | exact E | exact E.trans (Md.cy<|O.mono fun _ _ h=>(dq h).symm) | exact Md.drew E),U,U⟩
 refine bW 3 U ?_;have J:¬(pc i (i+1 +k)=false∨dt pc n j (i+1 +k) < 0∨(i=0∧i+1 +k=n)):=fun h=>by
  rcases h with h | h | h;have ao:pc i (i+1 +k)=true :=by simpa using M
  rw [ao] at h; cases h;omega;omega
 refine fU fun C=>kF 0 U (bE (some ⟨I,0,none⟩) (n+1)<|n+1) C<|aF [1] U C<|cR 2 U (bc cn U U ab<|U) C<|di 3 U C (ib (bB A).2 ak)<|aF [4,5] U C<|jA (t:=56) U (fun ar=> ?_) fun ar=> ?_;refine aF [6,7,8,9,10,11,12,13,14,15,16] U C<|hn ai<|eY 3 U<|eL (bE (some ⟨I,0,none⟩) (n+1)<|n+1)<|aj 1 U<|eL (bE (some ⟨I,0,none⟩) (n+1)<|n+1)<|aj 1 U<|p (bc cn U U ab<|U)<|p (aw U<|ib (bB A).2 Z)<|aj 1 U<|p (bc cn U U ab<|U)<|e<|jc (j:=i) (u:=zv<|dt pc n j (i+1 +k)+1) A cI U U U (by simp [fo]) ab fun aB O L=> ?_;rw [jQ.symm,qA,sT] at L;exact aj 5 U<|p (bF<|i+1 +k+1)<|ax 2 U<|tn<|⟨_,ab,k+1,ab,(by first | (rw [kI (by first | exact .inl (by simpa using M) | exact .inr ab)]; exact A) | (rw [fA J,if_pos ab]; exact L) | (rw [fA J,if_neg ab]; exact A)),(by first | exact E | exact E.trans (Md.cy<|O.mono fun _ _ h=>(dq h).symm) | exact Md.drew E),U,U⟩
 refine dk 6 U (fun _ _=>iX (bE (some ⟨I,0,none⟩) (n+1)<|n+1) U) C<|aF [7] U C<|dk 8 U (fun _ _=>bc cn U U ab<|U) C<|dk 9 U (fun w' V=>aw U<|Wk.ay V<|ib (bB A).2 Z) C<|aF [10] U C<|dk 11 U (fun _ _=>iX (bE (some ⟨I,0,none⟩) (n+1)<|n+1) U) C<|aF [12] U C<|dk 13 U (fun _ _=>bc cn U U ab<|U) C<|dk 14 U (fun w' V=>aw U<|Wk.ay V<|ib (bB A).2 ak) C<|aF [15,16] U C<|hn ai<|dh 1 U<|cd U (fun aq=> ?_) fun aq=> ?_;refine aG 1 U<|eL (bE (some ⟨I,0,none⟩) (n+1)<|n+1)<|aj 1 U<|eL (bE (some ⟨I,0,none⟩) (n+1)<|n+1)<|aj 1 U<|p (bc cn U U ab<|U)<|p (aw U<|ib (bB A).2 Z)<|aj 1 U<|p (bc cn U U ab<|U)<|e<|jc (j:=i) (u:=zv<|dt pc n j (i+1 +k)+1) A cI U U U (by simp [fo]) ab fun aB O L=> ?_;rw [jQ.symm,qA,sT] at L;exact aj 5 U<|p (bF<|i+1 +k+1)<|ax 2 U<|tn<|⟨_,ab,k+1,ab,(by first | (rw [kI (by first | exact .inl (by simpa using M) | exact .inr ab)]; exact A) | (rw [fA J,if_pos ab]; exact L) | (rw [fA J,if_neg ab]; exact A)),(by first | exact E | exact E.trans (Md.cy<|O.mono fun _ _ h=>(dq h).symm) | exact Md.drew E),U,U⟩
 exact aG 5 U<|p (bF<|i+1 +k+1)<|ax 2 U<|tn<|⟨_,ab,k+1,ab,(by first | (rw [kI (by first | exact .inl (by simpa using M) | exact .inr ab)]; exact A) | (rw [fA J,if_pos ab]; exact L) | (rw [fA J,if_neg ab]; exact A)),(by first | exact E | exact E.trans (Md.cy<|O.mono fun _ _ h=>(dq h).symm) | exact Md.drew E),U,U⟩
 refine aj 4 U<|p (mY U)<|aJ 6 U ?_;have J:¬(pc i (i+1 +k)=false∨dt pc n j (i+1 +k) < 0∨(i=0∧i+1 +k=n)):=fun h=>by
  rcases h with h | h | h;have ao:pc i (i+1 +k)=true :=by simpa using M
  rw [ao] at h; cases h;omega;omega
 refine fU fun C=>kF 0 U (bE (some ⟨I,0,none⟩) (n+1)<|n+1) C<|aF [1] U C<|cR 2 U (bc cn U U ab<|U) C<|di 3 U C (ib (bB A).2 ak)<|aF [4,5] U C<|jA (t:=56) U (fun ar=> ?_) fun ar=> ?_;refine aF [6,7,8,9,10,11,12,13,14,15,16] U C<|hn ai<|eY 3 U<|eL (bE (some ⟨I,0,none⟩) (n+1)<|n+1)<|aj 1 U<|eL (bE (some ⟨I,0,none⟩) (n+1)<|n+1)<|aj 1 U<|p (bc cn U U ab<|U)<|p (aw U<|ib (bB A).2 Z)<|aj 1 U<|p (bc cn U U ab<|U)<|e<|jc (j:=i) (u:=zv<|dt pc n j (i+1 +k)+1) A cI U U U (by simp [fo]) ab fun aB O L=> ?_;rw [jQ.symm,qA,sT] at L;exact aj 5 U<|p (bF<|i+1 +k+1)<|ax 2 U<|tn<|⟨_,ab,k+1,ab,(by first | (rw [kI (by first | exact .inl (by simpa using M) | exact .inr ab)]; exact A) | (rw [fA J,if_pos ab]; exact L) | (rw [fA J,if_neg ab]; exact A)),(by first | exact E | exact E.trans (Md.cy<|O.mono fun _ _ h=>(dq h).symm) | exact Md.drew E),U,U⟩
 refine dk 6 U (fun _ _=>iX (bE (some ⟨I,0,none⟩) (n+1)<|n+1) U) C<|aF [7] U C<|dk 8 U (fun _ _=>bc cn U U ab<|U) C<|dk 9 U (fun w' V=>aw U<|Wk.ay V<|ib (bB A).2 Z) C<|aF [10] U C<|dk 11 U (fun _ _=>iX (bE (some ⟨I,0,none⟩) (n+1)<|n+1) U) C<|aF [12] U C<|dk 13 U (fun _ _=>bc cn U U ab<|U) C<|dk 14 U (fun w' V=>aw U<|Wk.ay V<|ib (bB A).2 ak) C<|aF [15,16] U C<|hn ai<|dh 1 U<|cd U (fun aq=> ?_) fun aq=> ?_;refine aG 1 U<|eL (bE (some ⟨I,0,none⟩) (n+1)<|n+1)<|aj 1 U<|eL (bE (some ⟨I,0,none⟩) (n+1)<|n+1)<|aj 1 U<|p (bc cn U U ab<|U)<|p (aw U<|ib (bB A).2 Z)<|aj 1 U<|p (bc cn U U ab<|U)<|e<|jc (j:=i) (u:=zv<|dt pc n j (i+1 +k)+1) A cI U U U (by simp [fo]) ab fun aB O L=> ?_;rw [jQ.symm,qA,sT] at L;exact aj 5 U<|p (bF<|i+1 +k+1)<|ax 2 U<|tn<|⟨_,ab,k+1,ab,(by first | (rw [kI (by first | exact .inl (by simpa using M) | exact .inr ab)]; exact A) | (rw [fA J,if_pos ab]; exact L) | (rw [fA J,if_neg ab]; exact A)),(by first | exact E | exact E.trans (Md.cy<|O.mono fun _ _ h=>(dq h).symm) | exact Md.drew E),U,U⟩
 exact aG 5 U<|p (bF<|i+1 +k+1)<|ax 2 U<|tn<|⟨_,ab,k+1,ab,(by first | (rw [kI (by first | exact .inl (by simpa using M) | exact .inr ab)]; exact A) | (rw [fA J,if_pos ab]; exact L) | (rw [fA J,if_neg ab]; exact A)),(by first | exact E | exact E.trans (Md.cy<|O.mono fun _ _ h=>(dq h).symm) | exact Md.drew E),U,U⟩
 refine aH 2 U<|cr<|dh 3 U ?_;obtain rfl :k=n - i:=ab;rw [H0 a2] at A;exact aH 5 U<|tn<|⟨_,ab,j+1,(i:Int) - 1,ab,ab,A,(aI.trans E),U,U⟩
 refine aH 2 U<|cr<|eY 4 U<|eL (bE (some ⟨I,0,none⟩) (n+1)<|n+1)<|p (pK (bE (some ⟨I,0,none⟩) (n+1)<|n+1) U)<|ax 3 U<|aP U ?_;obtain rfl :j=n:=ab;exact ⟨aN,ad.md.trans' ap fun k av h=>by omega⟩
end Go.Hb
end
section
namespace Go.Hb
open Go.Hb.pI
section
variable {pc:Nat→Nat→Bool} {n i k:Nat}
end
theorem AL {pc:Nat→Nat→Bool} {n:Nat} (q:Nat): -1≤jR pc n q∧jR pc n q≤n:=sp (j:=n) q
theorem xx {l:List aM} {least:Nat} {w:List UInt8} (h:0 < w.length→w.length≤1024→(jC (az l least w) w.length 0).1=0):cY l least w= []:=by
 unfold cY;by_cases h0:0 < w.length
 · by_cases h1:w.length≤1024
   · rw [if_neg (fun e=>e.2<|h h0 h1)]
   · rw [if_neg (fun e=>h1 e.1)]
 · obtain rfl :=List.eq_nil_of_length_eq_zero (show w.length=0 by omega);rw [if_neg (fun e=>e.2 HM)]
theorem JE (B:Nat) (cs:List ag) (b:dU) (s x:List UInt8) (w:ah) (a6:il w B cs b) (bH:b.Is s) (cO:x.length≤4294967296):
 bj prog 10 (bD [.agg cs.toArray,str x]) w (fun v w'=>ba w' w.heap.size 9 1 v (cY (b.aq.getD 1 []) b.least x).length ((cY (b.aq.getD 1 []) b.least x).map str)∧Wk w w'):=by
 obtain ⟨aW,rc,vs,rfl,cg,cx,bF⟩:=id a6;obtain ⟨a0,cm,a1,a2,rfl⟩:=four cg;obtain ⟨av,cc,ch,cF,cA⟩:=(bF 1 ab).ee;obtain rfl :cm=_:=ch;refine enter func10 U ntmps10 U<|aR 2 U<|e<|pM (L:= [aA (b.least),str b.tr,.slice aW b.cH.length rc,a0,.slice av (b.aq.getD 1 []).length cc,a1,a2]) U fun a4 aY cB aa bx=> ?_;have cP:=aa.size;have bz:aC aY.heap a4 [aA (b.least),str b.tr,.slice aW b.cH.length rc,a0,.slice av (b.aq.getD 1 []).length cc,a1,a2]:=⟨_,bx⟩
 refine aj 5 U<|p mv<|aj 10 U<|gs (t:=15) U (fun bS=> ?_) fun bS=> ?_;refine ax 13 U<|aP U ?_;have I:cY (b.aq.getD 1 []) b.least x= []:=xx fun h0 h1=>by omega
 exact ⟨by rw [I]; exact ez _ _ _ _,aa.md⟩;refine aJ 5 U<|cd U (fun bI=> ?_) fun bI=> ?_;refine aH 7 U<|aP U ?_;have I:cY (b.aq.getD 1 []) b.least x= []:=xx fun h0 h1=>by omega
 exact ⟨by rw [I]; exact ez _ _ _ _,aa.md⟩;refine aG 4 U<|p (eI jU U (U) (show ∀ j,j < 7→ay aY.heap a4 (0 +j)=([aA (b.least),str b.tr,.slice aW b.cH.length rc,a0,.slice av (b.aq.getD 1 []).length cc,a1,a2]:List ag)[j]? from fun j _=>bz.aK j))<|p mv<|e<|bg (JG B _ b s x aY (il.wk a6 aa.md) bH ab) U ?_;rintro cV ck ⟨⟨a5,ac⟩,hE21⟩;obtain ⟨J,ak,rfl⟩:=dA ac.1;have cG:=ac.1.1;refine p aT<|aj 4 U<|p mv<|aj 1 U<|e<|bg (Hd _ J ak x.length a5 (az (b.aq.getD 1 []) b.least x) ck ac ab) U ?_;rintro cW ad ⟨ar,aD⟩;obtain ⟨au,aB,rfl⟩:=dA ar;have am:Wk w ad:=(aa.md.trans hE21).trans aD;have cQ:=am.size;have bm:=aX.ok (bB ar).2 fun h=>by have :=congrArg jh h; rw [me,sS] at this; simp at this
 refine p aT<|aj 5 U<|p mv<|p (bc cn U U ab<|bm)<|p (aw U<|ib (i:=0) (bB ar).2<|m5 (k:=0) _<|fK _)<|aJ 3 U<|cd U (fun bJ=> ?_) fun bJ=> ?_;refine aH 7 U<|aP U ?_;have I:cY (b.aq.getD 1 []) b.least x= []:=xx fun h0 h1=>(AM h0).1 ab;exact ⟨by rw [I]; exact ez _ _ _ _,am⟩;refine bW 14 U ?_;have bi:(jC (az (b.aq.getD 1 []) b.least x) x.length 0).1≠0:=fun h=>by have :=(AM (pc:=az (b.aq.getD 1 []) b.least x) (n:=x.length) ab).2 h; omega
 have bf:eE (az (b.aq.getD 1 []) b.least x) x.length 0:=(xy bi).2;refine lp (fun Z br ae=> ∃ (i:Nat) (ps:List (Nat×Nat)) (E:ag),(i≤x.length)∧(eE (az (b.aq.getD 1 []) b.least x) x.length i)∧(fR (az (b.aq.getD 1 []) b.least x) x.length 0=ps++fR (az (b.aq.getD 1 []) b.least x) x.length i)∧(ba ae ad.heap.size 9 1 E ps.length<|(ps.map fun p=>bU x p.1 p.2).map str)∧(Wk ad ae)∧(Sl br [(1,str x),(5,aA (x.length)),(6,.slice J x.length ak),(7,.slice au (x.length+1) aB),(8,E),(9,aA i)])∧(x.length - i=Z)) _ ⟨0,[],.slice none 0 0,ab,bf,U,(ez _ _ _ _),(Md.refl _ _),U,U⟩ ?_;rintro Z br ae ⟨i,ps,E,hi,aM,aN,aU,M,ca,rfl⟩;refine bK ca<|cj 8 U<|cd U (fun bL=> ?_) fun bL=> ?_;refine bW 4 U ?_;obtain ⟨cp,cq,al,ct,cu,bv⟩:=aM.next (show i < x.length by omega)
 obtain ⟨bZ,bd⟩:=Gc (show i < x.length by omega) aM;have cM:ps.length≤x.length:=by
  have h1:=congrArg jh aN;rw [cz,uN bf] at h1;have cv:(jC (az (b.aq.getD 1 []) b.least x) x.length 0).1≤x.length:=(oy (l:=b.aq.getD 1 []) (least:=b.least) (x:=x) 0<|aQ _).1;omega
 refine bW 5 U ?_;refine ff (fun bt bq=> ∃ (V:Nat),(Wk ae bq)∧(bN (az (b.aq.getD 1 []) b.least x) x.length i≤V)∧(V≤x.length)∧(0 < i∨V < x.length)∧(Sl bt [(1,str x),(5,aA (x.length)),(6,.slice J x.length ak),(7,.slice au (x.length+1) aB),(8,E),(9,aA i),(10,aA V)])) ?_ ?_;refine cj 6 U<|cd U (fun bM=> ?_) fun bM=> ?_;exact aG 2 U<|p (kV<|x.length - 1)<|ax 2 U<|tn<|⟨x.length - 1,(Md.refl _ _),ab,ab,ab,U⟩
 exact aH 1 U<|tn<|⟨x.length,(Md.refl _ _),ab,ab,ab,U⟩
 rintro bt bq ⟨V,bE,b6,b7,b8,cb⟩;refine bK cb<|bW 2 U<|lp (fun Z bu aZ=> ∃ (k:Nat),(bN (az (b.aq.getD 1 []) b.least x) x.length i≤k)∧(k≤x.length)∧(0 < i∨k < x.length)∧(Wk ae aZ)∧(Sl bu [(1,str x),(5,aA (x.length)),(6,.slice J x.length ak),(7,.slice au (x.length+1) aB),(8,E),(9,aA i),(10,aA k)])∧(k=Z)) _ ⟨V,b6,b7,b8,bE,U,U⟩ ?_;rintro Z bu aZ ⟨k,cK,aS,bX,C,cf,rfl⟩;refine bK cf<|cj 2 U ?_;have bb:=aV ac.1<|aD.trans<|M.trans C;have ao:=aV (ac.2 i ab)<|aD.trans<|M.trans C;obtain ⟨a3,ce,bh⟩:=dA ao;rw [bh] at ao;have aO:a5[i]? =some (.slice a3 (x.length+1) ce):=by rw [← bh,b9,bG ab]; rfl
 have b2:=aX.ok (bB bb).2 fun h=>by rw [h] at aO; simp at aO
 have b3:=aX.ok (bB ao).2 fun h=>by have :=congrArg jh h; rw [me,qB] at this; simp at this
 have a7:=aV ar<|M.trans C;have bn:=bm;have b4:(et x.length<|(az (b.aq.getD 1 []) b.least x) i)[k]? =some ((az (b.aq.getD 1 []) b.least x) i k):=sU _ aS;have bR:(dO x.length<|jR (az (b.aq.getD 1 []) b.least x) x.length)[k]? =some (jR (az (b.aq.getD 1 []) b.least x) x.length k):=m5 _ aS;have bQ:(dO x.length<|jR (az (b.aq.getD 1 []) b.least x) x.length)[i]? =some (jR (az (b.aq.getD 1 []) b.least x) x.length i):=m5 _ ab;have cE:=AL (pc:=az (b.aq.getD 1 []) b.least x) (n:=x.length) k;have cD:=AL (pc:=az (b.aq.getD 1 []) b.least x) (n:=x.length) i;refine fU fun A=>aF [0,1] U A<|cR 2 U (bc Ae U U ab<|b2) A<|di 3 U A ((show ay aZ.heap (bk J) (fo J+i*1)=some (.slice a3 (x.length+1) ce) from by rw [ug]; exact aX.ay (bB bb).2 _ _ aO))<|aF [4] U A<|cR 5 U (bc pX U U ab<|b3) A<|di 6 U A (yY (bB ao).2 b4)<|aF [7,8] U A<|Hx (t:=45) U (fun O=> ?_) fun O=> ?_;refine aF [9,10,11,12,13,14,15,16,17,18,19] U A<|hn ai<|dh 5 U ?_;have bY:k≠bN (az (b.aq.getD 1 []) b.least x) x.length i:=fun h=>by
  rw [← h] at al bd
  first | (rw [al] at O; exact absurd O aE) | omega
 exact aG 2 U<|p (kV<|k - 1)<|ax 3 U<|tn<|⟨_,ab,k - 1,ab,ab,ab,(Md.drew C),U,U⟩
 refine aF [9,10] U A<|dk 11 U (fun _ _=>bc cn U U ab<|bn) A<|dk 12 U (fun w' aL=>aw U<|Wk.ay aL<|ib (bB a7).2 bR) A<|aF [13,14] U A<|dk 15 U (fun _ _=>bc cn U U ab<|bn) A<|dk 16 U (fun w' aL=>aw U<|Wk.ay aL<|ib (bB a7).2 bQ) A<|aF [17,18,19] U A<|hn ai<|dh 1 U<|cd U (fun bO=> ?_) fun bO=> ?_;refine bW 3 U ?_;have bY:k≠bN (az (b.aq.getD 1 []) b.least x) x.length i:=fun h=>by
  rw [← h] at al bd
  first | (rw [al] at O; exact absurd O aE) | omega
 exact aG 2 U<|p (kV<|k - 1)<|ax 3 U<|tn<|⟨_,ab,k - 1,ab,ab,ab,(Md.drew C),U,U⟩
 refine aH 2 U<|cr<|dh 3 U ?_;have b5:(az (b.aq.getD 1 []) b.least x) i k=true :=by simpa using O
 have cL:=bZ k ab aS bX b5 ab;have bl:k=bN (az (b.aq.getD 1 []) b.least x) x.length i:=ab;have bP:=rN (show i < x.length by omega) aM;have cT:=M.size;have cU:=C.size;refine aG 1 U<|eL (E)<|aj 3 U<|p (kX u9 U U U ab)<|e<|jo jL U U fun co cX cC aI bA=> ?_;have cS:=(Md.cy aI.md).size;refine e<|ap jL (aV (aV aU C)<|Md.cy aI.md) U ab U (aX.fD bA) (U) (U) ab ab fun bo bp b0 a8 ci cI=> ?_;have ci:=a8.size;have a9:=Md.cy aI.md;have bC:Wk ad bp:=((M.trans C).trans a9).trans' a8 fun k cJ h=>by have :=(cw (aV (aV aU C) a9) h).1; omega
 have b1:ba bp ad.heap.size 9 1 bo (ps++ [(i,k)]).length (((ps++ [(i,k)]).map fun p=>bU x p.1 p.2).map str):=by
  have e:List.map str (List.map (fun p:Nat×Nat=>bU x p.1 p.2) [(i,k)])= [str ((x.take k).drop i)]:=by
   show [str (bU x i k)]=_;rw [pQ]
  rw [iM,iM,e,cz]; exact b0
 exact p aT<|ax 7 U<|tn<|⟨_,ab,k,ps++ [(i,k)],bo,ab,(by rw [bl]; exact bv),(by rw [bl,aN,bP,List.append_assoc]; rfl),b1,bC,U,U⟩
 refine aH 2 U<|cr<|eY 4 U<|eL (E)<|p (pK (E) U)<|ax 3 U<|aP U ?_;have bT:i=x.length:=ab;have I:cY (b.aq.getD 1 []) b.least x=ps.map fun p=>bU x p.1 p.2:=by unfold cY; rw [if_pos ⟨ab,bi⟩,aN,show fR (az (b.aq.getD 1 []) b.least x) x.length i= [] from by rw [bT]; exact rM,List.append_nil]
 exact ⟨by rw [I,me]; exact j9 aU am.size,am.trans M⟩
end Go.Hb
end
section
namespace Go.Hb
open Go.Hb.yF Go.Hb.pI
theorem Kf (s A:List UInt8) (b:dU) (w:ah) (aW:cO 524 bH w) (aY:s.length≤1048576) (a9:A.length≤1048576) (O:bJ s= .ok b):
 bj prog 3 (bD [str s,str A]) w (fun v w'=>v= .bool true∧Wk w w'):=by
 have M:=rS O;have a8:(cY (b.aq.getD 1 []) b.least A).length≤A.length:=by
  by_cases hw:A.length≤1024;by_cases h:(cY (b.aq.getD 1 []) b.least A)= []
  rw [h]; exact fK _;rw [Kj h];exact (oy (l:=b.aq.getD 1 []) (least:=b.least) (x:=A) 0<|aQ _).1;rw [CH ab]; exact fK _
 refine enter func3 U ntmps3 U<|aR 7 U<|p mv<|e<|bg (BS s w aY) U ?_;rintro bh a0 ⟨bf,au,av,x2,aw,az,aA,aB,bd,rfl,aX,ac,aZ⟩;have ba:=ac.size;obtain ⟨ap,aH,rfl,rfl,ak,Z,aS⟩:=aZ.resolve_right fun ⟨_,_,a4,h⟩=>by rw [O] at h; cases h
 obtain rfl :b=aH:=by rw [O] at ak; cases ak; rfl
 refine p mv<|aj 4 U<|e<|dC o7 fun V bp a5 ai aM=> ?_;have bb:=ai.size;refine p aT<|e<|eu kz U U U aX aM aE fun I ae aN=> ?_;have bc:=ae.size;have E:Wk a0 I:=ai.md.trans' ae fun k a7 h=>by omega
 have aa:=ac.trans E;have aV:cO 524 bH I:=aW.mono aa fun _ _ h=>h;have aO:aC I.heap V [au,av,x2,aw,az,aA,aB]:=⟨_,aN⟩
 refine aj 10 U<|gb (t:=19) U (fun h=>absurd (h.symm.trans<|U) dn) fun a6=>eg U U U<|bg (De I aV) U ?_;rintro v20 ar ⟨rfl,C⟩;refine aJ 4 U<|cf (U)<|bW 13 U<|ct (U)<|aG 1 U<|p (eI jU U (U) (show ∀ j,j < 7→ay ar.heap V (0 +j)=([au,av,x2,aw,az,aA,aB]:List ag)[j]? from fun j _=>(Wk.B C aO).aK j))<|p mv<|e<|bg (JE _ _ b s A ar ((il.wk aS E).wk C) M ab) U ?_;rintro bi a1 ⟨al,J⟩;obtain ⟨aD,aI,rfl⟩:=dA al;refine p aT<|aj 4 U<|p mv<|p mv<|e<|bg (xz _ ap b s A a1 (((Z.wk E).wk C).wk J) M ab) U ?_;rintro bl a2 ⟨am,L⟩;obtain ⟨aF,aL,rfl⟩:=dA am;refine p mv<|e<|bg (xc (cY (b.aq.getD 1 []) b.least A) (cY (b.aq.getD 1 []) b.least A) aF aD aL aI a2 (bB am).2 ((bB al).2.wk L) ab ab) U ?_;rintro bm a3 ⟨ao,ad⟩;rw [decide_eq_true rfl] at ao;subst ao;refine aj 1 U<|bC U mv<|bC U mv<|eg U U U<|bg (zf _ ap b s A a3 (((((Z.wk E).wk C).wk J).wk L).wk ad) M ab) U ?_;rintro bn bo ⟨rfl,aU⟩;exact bC U mv<|aj 2 U<|bC U (u6 u4 U U)<|ax 5 U<|aP U<|⟨congrArg bq (decide_eq_true<|decide_eq_decide.2 ab),((((aa.trans C).trans J).trans L).trans ad).trans aU⟩
theorem Kh (s A:List UInt8) (ac:Nat) (w:ah) (ap:cO 524 bH w) (au:s.length≤1048576) (aQ:A.length≤1048576) (aq:bJ s= .error ac):
 bj prog 3 (bD [str s,str A]) w (fun v w'=>v= .bool true∧Wk w w'):=by
 refine enter func3 U ntmps3 U<|aR 7 U<|p mv<|e<|bg (BS s w au) U ?_;rintro aY aw ⟨aX,aB,aD,x2,aF,aH,aI,aK,aW,rfl,ar,I,av⟩;have aS:=I.size;obtain ⟨rfl,rfl,_⟩:=av.resolve_left fun ⟨_,_,_,_,h,_⟩=>by rw [aq] at h; cases h
 refine p mv<|aj 4 U<|e<|dC o7 fun Z a3 aM L ad=> ?_;have aU:=L.size;refine p aT<|e<|eu kz U U U ar ad aE fun C J ae=> ?_;have aV:=J.size;have am:Wk aw C:=L.md.trans' J fun k aO h=>by omega
 have E:=I.trans am;have ao:cO 524 bH C:=ap.mono E fun _ _ h=>h;have aL:aC C.heap Z [aB,aD,x2,aF,aH,aI,aK]:=⟨_,ae⟩
 refine aj 10 U<|gb (t:=19) U (fun h=>absurd (h.symm.trans<|U) dn) fun aN=>eg U U U<|bg (De C ao) U ?_;rintro v20 ay ⟨rfl,ag⟩;refine aJ 4 U<|cf (U)<|bW 13 U<|cf (U)<|aG 4 U<|p mv<|p mv<|e<|bg (CG A ay ab) U ?_;rintro aZ az ⟨M,ai⟩;obtain ⟨V,aa,rfl⟩:=dA M;refine aj 1 U<|e<|bg (xc [] [] V none aa 0 az (bB M).2 (bB<|ez _ 0 0 1).2 (by simp)<|by simp) U ?_;rintro a0 aA ⟨O,ak⟩;rw [decide_eq_true rfl] at O;subst O;refine aj 1 U<|bC U mv<|bC U mv<|eg U U U<|bg (FP A aA ab) U ?_;rintro a1 a2 ⟨rfl,al⟩;exact aj 3 U<|bC U (u6 u4 U U)<|ax 5 U<|aP U<|⟨U,(((E.trans ag).trans ai).trans ak).trans al⟩
theorem Kk (s A:List UInt8) (w:ah) (C:cO 524 bH w) (E:s.length≤1048576) (I:A.length≤1048576):bj prog 3 (bD [str s,str A]) w (fun v w'=>v= .bool true∧Wk w w'):=by
 cases hX:bJ s with
 | ok b=>exact Kf s A b w C E I hX
 | error J=>exact Kh s A J w C E I hX
end Go.Hb
end
