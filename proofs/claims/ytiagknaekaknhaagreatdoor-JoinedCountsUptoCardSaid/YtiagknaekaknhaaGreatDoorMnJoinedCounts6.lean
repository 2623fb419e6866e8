/-
  Walks and plain laws that the law rests on, laid together. No conditions but those that each theorem names.
-/
import Derived.Test.YtiagknaekaknhaaGreatDoorMnJoinedCounts5
set_option linter.unusedVariables false
set_option maxRecDepth 20000
set_option maxHeartbeats 1000000
open Bool renaming noConfusion→di,true_and→mg
open Go renaming Value→ag,World→ah
open Go.Value renaming bool→bp,int→ba,oneCell'→eQ,ownBlock→gk,slice→bH
open Go.World renaming ownsRow→bd,ownsRow_nil→gE
open List renaming eq_nil_of_length_eq_zero→jV,ext_getElem?→pq,getD_eq_getElem?_getD→bY,getElem?_eq_getElem→bF,getElem?_eq_none→gF,getElem?_eq_some_iff→cI,getElem?_map→fP,getElem?_range→rf,getElem?_set→Ev,length→lz,length_append→cC,length_cons→dL,length_nil→lA,length_range→tU,length_set→gn,length_singleton→px,map_congr_left→nS,map_const'→ED,map_map→tV,map_set→jY,mem_range→jo,range→fw,replicate→cW,toArray→bC
open Nat renaming le_refl→aP
open Option.some renaming inj→dM
open Go.Proofs.Tryz
open Go.Hb.dN Go.Proofs Go.Hb.fT Go.Hb.jq

namespace Go.Hb.pJ
def ix (w:ah) (B:Nat) (cs:List ag) (b:dS):Prop := ∃ A rc vs,cs= [.int .i64 (b.least:Nat),str b.tr,.slice A b.cF.length rc]++vs∧vs.length=4∧a9 w.heap A (b.cF.flatMap dY)∧∀ i,i < 4→eU w B (vs.getD i .nilFunc) (b.an.getD i [])
theorem ix.wk {w w':ah} {B:Nat} {cs:List ag} {b:dS} (h:ix w B cs b) (hm:Wk w w'):ix w' B cs b:=by
 obtain ⟨I,rc,vs,h1,A,C,E⟩:=h;exact ⟨I,rc,vs,h1,A,C.wk hm,fun i hi=>(E i hi).wk hm⟩
theorem ix.one {w:ah} {B:Nat} {cs:List ag} {b:dS} (h:ix w B cs b):cs.length=7∧cs.all eQ=true :=by
 obtain ⟨ac,rc,vs,rfl,Z,_,aa⟩:=h;obtain ⟨C,E,I,J,rfl⟩:∃ C E I J,vs= [C,E,I,J]:=by
  match vs,Z with
  | [C,E,I,J],_=>exact ⟨_,_,_,_,rfl⟩
 have A:∀ i,i < 4→([C,E,I,J].getD i .nilFunc).oneCell'=true :=fun i hi=>by
  obtain ⟨_,_,e,_⟩:=(aa i hi).ee;rw [e]; rfl
 have L:=A 0 ab;have M:=A 1 ab;have O:=A 2 ab;have V:=A 3 ab;simp only [List.getD_cons_zero,List.getD_cons_succ] at L M O V;exact ⟨U,by simp only [List.cons_append,List.nil_append,List.all_cons,List.all_nil,L,M,O,V]; rfl⟩
def rA (s:List UInt8) (w:ah) (v:ag) (w':ah):Prop :=((∃ b cs,bI s= .ok b∧v= .tuple #[.agg cs.toArray,.int .i64 0]∧ix w' w.heap.size cs b)∨((∃ A,bI s= .error A)∧∃ q:Nat,q≠0∧v= .tuple #[.agg [ba .i64 0,str [],.slice none 0 0,.slice none 0 0,.slice none 0 0,.slice none 0 0,.slice none 0 0].toArray,.int .i64 (q:Nat)]))∧Wk w w'
theorem GI {s:List UInt8} {n p1 L p2 M m p3 O:Nat} {t:List UInt8} (hm:s.take 4=eL) (h1:((0:Nat)=0∧L=0∧a0 s 4= .ok (n,p1))∨(L≠0∧n=0∧((0:Nat)≠0∨∃ e,a0 s 4= .error e)))
 (A:(L=0∧M=0∧cN s p1= .ok (t,p2))∨(M≠0∧(L≠0∨∃ e,cN s p1= .error e))) (C:(M=0∧O=0∧a0 s p2= .ok (m,p3))∨(O≠0∧m=0∧(M≠0∨∃ e,a0 s p2= .error e))):(O=0∧a0 s 4= .ok (n,p1)∧cN s p1= .ok (t,p2)∧a0 s p2= .ok (m,p3))∨(O≠0∧∃ I,bI s= .error I):=by
 rcases h1 with ⟨_,U,h1⟩ | ⟨U,_,h1⟩
 · rcases A with ⟨_,J,A⟩ | ⟨J,A⟩
   · rcases C with ⟨_,E,C⟩ | ⟨E,_,C⟩
     · exact .inl ⟨E,h1,A,C⟩
     · exact .inr ⟨E,C.elim (fun h=>absurd J h) fun ⟨e,h⟩=>⟨e,zD hm h1 A h⟩⟩
   · have hb:∃ I,bI s= .error I:=A.elim (fun h=>absurd U h) fun ⟨e,h⟩=>⟨e,zC hm h1 h⟩
     rcases C with ⟨h,_⟩ | ⟨E,_⟩
     · exact absurd h J
     · exact .inr ⟨E,hb⟩
 · have hb:∃ I,bI s= .error I:=h1.elim (fun h=>absurd rfl h) fun ⟨e,h⟩=>⟨e,zB hm h⟩
   rcases A with ⟨h,_⟩ | ⟨J,_⟩
   · exact absurd h U
   · rcases C with ⟨h,_⟩ | ⟨E,_⟩
     · exact absurd h J
     · exact .inr ⟨E,hb⟩
def qF (s:List UInt8) (k a:Nat):List (List aK):=match cj (cH s) k a with
 | .ok x=>x.1
 | .error _=> []
theorem J7 {s:List UInt8} {w ai w':ah} {B A C Z ae f9 J rb M V:Nat} {t:List UInt8} {rs:List (List UInt8×List UInt8)} {ls:List (List aK)} {vs:List ag} {L:Option Addr} {cc:Nat} (O:cj (cH s) A C= .ok (ls,Z)) (aa:bI s=fW s J t rs C) (bj:dZ J t rs=true)
 (av:(f9=0∧∃ l,cH s Z= .ok (l,ae)∧eU ai w.heap.size (.slice L V cc) l)∨(f9≠0∧(∃ E,cH s Z= .error E)∧∃ aj aw c2,bH L V cc= .slice aj aw c2)) (am:∀ i,i < A→eU w B (vs.getD i .nilFunc) (ls.getD i [])) (I:A < 4) (ax:vs.length=4)
 (an:Md (fun k=>k=rb∨k=M) w w') (ad:∀ k,k=rb∨k=M→k < B) (al:B≤w.heap.size) (ao:Md (fun k=>k=M) ai w'):(f9=0∧(bI s=fW s J t rs C∧dZ J t rs=true)∧cj (cH s) (A+1) C= .ok (qF s (A+1) C,ae)∧∀ i,i < A+1→eU w' B ((vs.set A<|.slice L V cc).getD i .nilFunc) ((qF s (A+1) C).getD i []))∨(f9≠0∧∃ E,bI s= .error E):=by
 rcases av with ⟨h0,l,ap,ak⟩ | ⟨h0,⟨E,he⟩,_⟩
 · have ac:=lQ O ap;have ar:=iF O;have au:qF s (A+1) C=ls++ [l]:=by unfold qF; rw [ac]
   rw [ac,au];refine .inl ⟨h0,⟨aa,bj⟩,U,fun i hi=> ?_⟩;rcases Nat.lt_or_ge i A with h | h
   · rw [qc ab,sf ab];exact (am i h).md an fun k I hb=>absurd hb<|by have :=ad k I; omega
   · obtain rfl :i=A:=ab;rw [ov ab,se ar.symm];exact (ak.mono al).md ao fun k I hb=>absurd hb<|by have :=ad k (.inr I); omega
 · exact .inr ⟨h0,E,by rw [aa,zy bj (ig O he I)]⟩
set_option maxHeartbeats 4000000 in
theorem Ju (s:List UInt8) (w:ah) (a7:s.length≤1048576):
 bq prog 20 (bC [str s]) w (rA s w):=by
 refine enter func20 U ntmps20 U<|aT 2 U<|e<|al o9 fun Z fx J bQ b0=>aj 6 U<|p mv<|aj 3 U<|gs (t:=15) U (fun ec=> ?_) fun ec=> ?_;have av:¬s.take 4=eL:=fun h=>by have :=congrArg lz h; rw [List.length_take] at this; simp only [eL,dL,lA] at this; omega
 refine aj 9 U<|p (eV (ps:= []) (L:= [.int .i64 0,.string ⟨⟨[]⟩⟩,.slice none 0 0,.slice none 0 0,.slice none 0 0,.slice none 0 0,.slice none 0 0]) tq U<|U)<|e<|qK kC U U U U (b0) (by simp) fun eQ b3 b1=> ?_
 skip
 exact ax 5 U<|r8 U (iK (cs:= [ba .i64 0,str [],.slice none 0 0,.slice none 0 0,.slice none 0 0,.slice none 0 0,.slice none 0 0]) U j0 U fun j ci=>b1.aJ j) kU<|⟨.inr ⟨⟨_,uQ av⟩,200,aD,U⟩,bQ.md.trans' b3 fun k A h=>by omega⟩
 refine bK U mv<|bK U (xy u9 U U ab)<|aI 4 U<|cd U (fun cf=> ?_) fun cf=> ?_;have av:¬s.take 4=eL:=cf;refine aF 2 U<|p (eV (ps:= []) (L:= [.int .i64 0,.string ⟨⟨[]⟩⟩,.slice none 0 0,.slice none 0 0,.slice none 0 0,.slice none 0 0,.slice none 0 0]) tq U<|U)<|e<|qK kC U U U U (b0) (by simp) fun eQ b3 b1=> ?_
 skip
 exact ax 5 U<|r8 U (iK (cs:= [ba .i64 0,str [],.slice none 0 0,.slice none 0 0,.slice none 0 0,.slice none 0 0,.slice none 0 0]) U j0 U fun j ci=>b1.aJ j) kU<|⟨.inr ⟨⟨_,uQ av⟩,200,aD,U⟩,bQ.md.trans' b3 fun k A h=>by omega⟩
 have av:s.take 4=eL:=Classical.not_not.1 cf;refine aF 4 U<|p mv<|p (eV (ps:= [(0,str s),(1,.int .i64 ((4:Nat):Int))]) (L:= [str s,.int .i64 ((4:Nat):Int),.int .i64 0]) KM U<|U)<|e<|n5 U fun c4 fy eT b4 di=> ?_;obtain ⟨rb,rfl⟩:∃ rb,rb=c4:=⟨_,rfl⟩
 have e6:=bQ.size;have e8:=b4.size;refine aj 5 U<|p (eV (ps:= []) (L:= [.int .i64 0,.string ⟨⟨[]⟩⟩,.slice none 0 0,.slice none 0 0,.slice none 0 0,.slice none 0 0,.slice none 0 0]) tq U<|U)<|e<|al o9 fun V fB I bR dq=> ?_;have fe:=bR.size;refine e<|qK kC U U U U (dq) (by simp) fun bz bM dp=> ?_;have fd:=bM.size;have I:aB bz.heap V [ba .i64 0,str [],.slice none 0 0,.slice none 0 0,.slice none 0 0,.slice none 0 0,.slice none 0 0]:=dp;have J:aB bz.heap Z [ba .i64 0,str [],.slice none 0 0,.slice none 0 0,.slice none 0 0,.slice none 0 0,.slice none 0 0]:=bM.B (Wk.B bR.md<|Wk.B b4.md b0) fun h=>by omega
 have C:aB bz.heap rb [str s,aC 4,aC 0]:=bM.B (Wk.B bR.md di) fun h=>by omega
 have dy:Wk w bz:=((bQ.md.trans b4.md).trans bR.md).trans' bM fun k A h=>by omega
 refine aj 5 U<|e<|bo (oD rb s 4 0 bz C a7 ab) U ?_;rintro fk aa ⟨n,p1,cv,rfl,cz,em,eY,eB,bF⟩;have fa:=bF.size;have cE:=bF.B J fun h=>by omega
 have cF:=bF.B I fun h=>by omega
 have cD:=(dy).trans' bF fun k A h=>by omega
 refine aI 3 U ?_;refine fu (fun cW aV=> ∃ (eI:Unit),(aB aV.heap Z [ba .i64 0,str [],.slice none 0 0,.slice none 0 0,.slice none 0 0,.slice none 0 0,.slice none 0 0])∧(aB aV.heap V<|[ba .i64 ((if n≤64 then n else 0:Nat):Int),str [],.slice none 0 0,.slice none 0 0,.slice none 0 0,.slice none 0 0,.slice none 0 0])∧(aB aV.heap rb [str s,aC p1,aC cv])∧(Wk w aV)∧(aa.heap.size≤aV.heap.size)∧(Sl cW [(0,str s),(2,aY Z),(4,aY rb),(5,aY V)])) ?_ ?_;refine cm 6 U<|cd U (fun d7=> ?_) fun d7=> ?_;refine aF 2 U<|p (fC u3 mb U<|gS ab)<|aj 1 U<|e<|st cG U U (U) (cF) (by simp) fun fK bN du=> ?_
 skip
 exact ax 1 U<|tn<|⟨(),(bN.B cE fun h=>by omega),(by rw [if_pos ab]; exact du),(bN.B cz fun h=>by omega),(cD.trans' bN fun k A h=>by omega),bN.size,U⟩
 exact aH 1 U<|tn<|⟨(),cE,(by rw [if_neg ab]; exact cF),cz,cD,(aP _),U⟩
 rintro cW aV ⟨eI,J,I,C,M,ad,er⟩;refine bO er<|aF 3 U<|e<|bo (vu rb s p1 cv aV C a7<|em) U ?_;rintro fl fz ⟨t,p2,c6,rfl,dn,en,eZ,eC,bJ⟩;have fb:=bJ.size;have dK:=bJ.B J fun h=>by omega
 have dT:=bJ.B I fun h=>by omega
 have dC:=(M).trans' bJ fun k A h=>by omega
 refine aj 1 U<|e<|st zu U U (U) (dT) (by simp) fun cV bP dv=> ?_;have fj:=bP.size;have dW:aB cV.heap V [ba .i64 ((if n≤64 then n else 0:Nat):Int),str t,.slice none 0 0,.slice none 0 0,.slice none 0 0,.slice none 0 0,.slice none 0 0]:=dv;have dP:=bP.B dK fun h=>by omega
 have d5:=bP.B dn fun h=>by omega
 have dG:=dC.trans' bP fun k A h=>by omega
 refine aj 5 U<|e<|bo (oD rb s p2 c6 cV d5 a7<|en) U ?_;rintro fo fA ⟨m,p3,cx,rfl,bA,eo,e0,eD,bL⟩;have fc:=bL.size;have b7:=bL.B dP fun h=>by omega
 have b9:=bL.B dW fun h=>by omega
 have b6:=(dG).trans' bL fun k A h=>by omega
 have cy:=GI av eB eC eD;refine aI 3 U ?_;refine fu (fun cX a8=> ∃ (bb:Nat),(aB a8.heap Z [ba .i64 0,str [],.slice none 0 0,.slice none 0 0,.slice none 0 0,.slice none 0 0,.slice none 0 0])∧(aB a8.heap V<|[ba .i64 ((if n≤64 then n else 0:Nat):Int),str t,.slice none 0 0,.slice none 0 0,.slice none 0 0,.slice none 0 0,.slice none 0 0])∧(aB a8.heap rb [str s,aC p3,aC bb])∧(Wk w a8)∧(aa.heap.size≤a8.heap.size)∧((bb=0∧(a0 s 4= .ok (n,p1)∧cN s p1= .ok (t,p2)∧a0 s p2= .ok (m,p3))∧¬256 < m)∨(bb≠0∧∃ ak,bI s= .error ak))∧(Sl cX [(0,str s),(2,aY Z),(4,aY rb),(5,aY V),(7,.int .u64 (m:Nat))])) ?_ ?_;refine aT 5 U<|p (aw U<|bA.aJ 2)<|aj 2 U<|gs (t:=42) U (fun cP=> ?_) fun cP=> ?_;have ac:=(cy.resolve_right fun h=>h.1 ab).2;refine aI 5 U<|cd U (fun d8=> ?_) fun d8=> ?_;refine aF 4 U<|e<|st cG U U (U) (bA) (by simp) fun fH bE db=> ?_;have e3:=bE.size;exact ax 1 U<|tn<|⟨201,(bE.B b7 fun h=>by omega),(bE.B b9 fun h=>by omega),db,(b6.trans' bE fun k A h=>by omega),ab,(.inr ⟨aD,_,zE av ac.1 ac.2.1 ac.2.2 ab⟩),U⟩
 exact aH 1 U<|tn<|⟨cx,b7,b9,bA,b6,ab,(.inl ⟨ab,ac,ab⟩),U⟩
 exact ax 7 U<|tn<|⟨cx,b7,b9,bA,b6,ab,(cy.elim (fun h=>absurd h.1 fun ar=>cP ab) .inr),U⟩
 rintro cX a8 ⟨bb,J,I,C,M,ad,c7,et⟩;refine bO et ?_;refine fu (fun cY aA=> ∃ (rs:List (List UInt8×List UInt8)) (O:Option Addr) (rc ao f6:Nat),(aB aA.heap Z [ba .i64 0,str [],.slice none 0 0,.slice none 0 0,.slice none 0 0,.slice none 0 0,.slice none 0 0])∧(aB aA.heap V<|[ba .i64 ((if n≤64 then n else 0:Nat):Int),str t,.slice O rs.length rc,.slice none 0 0,.slice none 0 0,.slice none 0 0,.slice none 0 0])∧(aB aA.heap rb [str s,aC ao,aC f6])∧(Wk w aA)∧(aa.heap.size≤aA.heap.size)∧(ao≤s.length)∧((f6=0∧(a0 s 4= .ok (n,p1)∧cN s p1= .ok (t,p2)∧a0 s p2= .ok (m,p3))∧¬256 < m∧cj (gy s) m p3= .ok (rs,ao))∨(f6≠0∧∃ ak,bI s= .error ak))∧(rs.length≤257)∧(∀ r∈rs,r.1.length≤255∧r.2.length≤255)∧(bd aA aa.heap.size 100 2 (.slice O rs.length rc) rs.length<|rs.flatMap dY)∧(Sl cY [(0,str s),(2,aY Z),(4,aY rb),(5,aY V)])) ?_ ?_;refine cm 1 U<|lp (fun bc cZ aR=> ∃ (rs:List (List UInt8×List UInt8)) (cp:ag) (aU f:Nat),(aB aR.heap Z [ba .i64 0,str [],.slice none 0 0,.slice none 0 0,.slice none 0 0,.slice none 0 0,.slice none 0 0])∧(aB aR.heap V<|[ba .i64 ((if n≤64 then n else 0:Nat):Int),str t,cp,.slice none 0 0,.slice none 0 0,.slice none 0 0,.slice none 0 0])∧(aB aR.heap rb [str s,aC aU,aC f])∧(Wk w aR)∧(aa.heap.size≤aR.heap.size)∧(aU≤s.length)∧((f=0∧rs.length≤m∧(a0 s 4= .ok (n,p1)∧cN s p1= .ok (t,p2)∧a0 s p2= .ok (m,p3))∧¬256 < m∧cj (gy s) rs.length p3= .ok (rs,aU))∨(f≠0∧∃ ak,bI s= .error ak))∧(rs.length≤257)∧(∀ r∈rs,r.1.length≤255∧r.2.length≤255)∧(bd aR aa.heap.size 100 2 cp rs.length<|rs.flatMap dY)∧(Sl cZ [(0,str s),(2,aY Z),(4,aY rb),(5,aY V),(7,.int .u64 (m:Nat))])∧(m - rs.length=bc)) _ ⟨[],.slice none 0 0,p3,bb,J,I,C,M,ad,eo,(c7.imp (fun h=>⟨h.1,Nat.zero_le _,h.2.1,h.2.2,U⟩) id),aD,(fun r hr=>by cases hr),(gE _ _ _ _),U,U⟩ ?_;rintro bc cZ aR ⟨rs,cp,aU,f,J,I,C,M,ad,bv,a2,co,bw,E,ev,rfl⟩;refine bO ev ?_;obtain ⟨O,rc,rfl⟩:=ew E;refine aT 4 U<|p (aw U<|I.aJ 2)<|aj 1 U<|p (fC o6 tw U<|gB ab)<|aj 3 U<|gs (t:=55) U (fun ed=> ?_) fun ed=> ?_;refine aj 3 U<|bK U (aw U<|C.aJ 2)<|aI 4 U<|cd U (fun cK=> ?_) fun cK=> ?_;obtain ⟨ch,e1,ac,bu,bt⟩:=a2.resolve_right fun h=>h.1 ab;obtain rfl :f=0:=ch;refine aF 6 U<|e<|bo (vu rb s aU 0 aR C a7<|bv) U ?_;rintro fq eN ⟨cq,p5,f5,rfl,dr,ep,eg,cT,bm⟩;have ff:=bm.size;have dM:=bm.B J fun h=>by omega
 have dU:=bm.B I fun h=>by omega
 have dD:=(M).trans' bm fun k A h=>by omega
 refine aj 6 U<|e<|bo (vu rb s p5 f5 eN dr a7<|ep) U ?_;rintro fs fD ⟨x2,eG,f6,rfl,ds,eq,eh,eE,bn⟩;have fg:=bn.size;have dN:=bn.B dM fun h=>by omega
 have cI:=bn.B dU fun h=>by omega
 have dE:=(dD).trans' bn fun k A h=>by omega
 have ek:=bG (bG E bm fun k A h=>by have :=(cr E A).1; omega) bn fun k A h=>by have :=(cr E A).1; omega
 refine aj 5 U<|p (aw U<|cI.aJ 2)<|aj 2 U<|p (eV (ps:= [(0,str cq),(1,str x2)]) (L:= [str cq,str x2]) KA U<|U)<|e<|n4 CI U U U fun eR fE eW a6 dt=> ?_;have fh:=a6.size;refine e<|ap CI (aW ek a6.md) U ab U (a9.gh dt) (U) (U) ab ab fun ft fF cR bp eF ea=> ?_;have eF:=bp.size;have bx:∀ k,(bH O rs.length rc).ownBlock=some k→aa.heap.size≤k:=fun k h=>(cr E h).1;have dO:=bp.B (Wk.B a6.md dN) fun h=>by have :=bx _ h; omega
 have dV:=bp.B (Wk.B a6.md cI) fun h=>by have :=bx _ h; omega
 have d4:=bp.B (Wk.B a6.md ds) fun h=>by have :=bx _ h; omega
 have dF:=(dE.trans a6.md).trans' bp fun k A h=>by have :=bx _ h; omega
 obtain ⟨ct,cu,rfl⟩:=ew cR;refine aj 1 U<|e<|st Gz U U (U) (dV) (by simp) fun eO bg dc=> ?_;have e4:=bg.size;have dR:aB eO.heap V [ba .i64 ((if n≤64 then n else 0:Nat):Int),str t,.slice ct (rs.length+1) cu,.slice none 0 0,.slice none 0 0,.slice none 0 0,.slice none 0 0]:=dc;have dI:=bg.B dO fun h=>by omega
 have d2:=bg.B d4 fun h=>by omega
 have dA:=dF.trans' bg fun k A h=>by omega
 have ei:=bG cR bg fun k A h=>by rcases ea k A with a1 | a1; exact absurd (bx k a1) ab; omega
 exact ax 2 U<|tn<|⟨_,by rw [cC,px]; omega,rs++ [(cq,x2)],.slice ct (rs.length+1) cu,eG,f6,dI,dR,d2,dA,ab,eq,(by rcases eE with ⟨h1,a1,bY⟩ | ⟨a1,bY⟩; exact .inl ⟨a1,by rw [cC,px]; omega,ac,bu,by rw [cC,px]; exact lQ bt<|B9 (cT.resolve_right fun h=>h.1 h1).2.2 bY⟩; refine .inr ⟨a1,?_⟩; rcases cT with ⟨_,h1,bZ⟩ | ⟨h1,bZ⟩; exact bY.elim (fun h=>absurd h1 h) (fun ⟨ar,h⟩=>⟨ar,rQ av ac.1 ac.2.1 ac.2.2 bu<|ig bt (B8 bZ h) ab⟩); exact bZ.elim (fun h=>absurd U h) fun ⟨ar,h⟩=>⟨ar,rQ av ac.1 ac.2.1 ac.2.2 bu<|ig bt (B7 h) ab⟩),(by rw [cC,px]; omega),(fun r hr=>by rcases List.mem_append.1 hr with h | h; exact bw r h; rw [List.mem_singleton.1 h]; exact ⟨eg,eh⟩),(by rw [cC,List.flatMap_append]; exact ei),U,U⟩
 exact aH 2 U<|cw<|bh 1 U<|tn<|⟨rs,O,rc,aU,f,J,I,C,M,ad,bv,(a2.elim (fun h=>absurd h.1 fun ar=>cK ab) .inr),co,bw,E,U⟩
 exact ax 11 U<|cw<|bh 1 U<|tn<|⟨rs,O,rc,aU,f,J,I,C,M,ad,bv,(a2.elim (fun h=> .inl ⟨h.1,h.2.2.1,h.2.2.2.1,(by have eS:=h.2.1; have ar:rs.length=m:=ab; rw [← ar]; exact h.2.2.2.2)⟩) .inr),co,bw,E,U⟩
 rintro cY aA ⟨rs,O,rc,ao,f6,J,I,C,M,ad,bv,a2,co,bw,E,eu⟩;refine bO eu<|aF 2 U<|p (eK j0 U (U) (show ∀ j,j < 7→ay aA.heap V (0 +j)=([ba .i64 ((if n≤64 then n else 0:Nat):Int),str t,.slice O rs.length rc,.slice none 0 0,.slice none 0 0,.slice none 0 0,.slice none 0 0]:List ag)[j]? from fun j _=>I.aJ j))<|e<|bo (JS (if n≤64 then n else 0) t rs O rc (.slice none 0 0) (.slice none 0 0) (.slice none 0 0) (.slice none 0 0) aA (bU E).2 (by split <;> omega) ab ab fun r hr=>by have :=bw r hr; omega) U ?_;rintro fv fG ⟨rfl,aO⟩;have fi:=aO.size;have b8:=Wk.B aO J;have ca:=Wk.B aO I;have bT:=Wk.B aO C;have ck:=aW E aO;refine aI 3 U ?_;refine fu (fun c0 aX=> ∃ (f7:Nat),(aB aX.heap Z [ba .i64 0,str [],.slice none 0 0,.slice none 0 0,.slice none 0 0,.slice none 0 0,.slice none 0 0])∧(aB aX.heap V<|[ba .i64 ((if n≤64 then n else 0:Nat):Int),str t,.slice O rs.length rc,.slice none 0 0,.slice none 0 0,.slice none 0 0,.slice none 0 0])∧(aB aX.heap rb [str s,aC ao,aC f7])∧(Wk w aX)∧(aa.heap.size≤aX.heap.size)∧((f7=0∧bI s=fW s (if n≤64 then n else 0) t rs ao∧dZ (if n≤64 then n else 0) t rs=true)∨(f7≠0∧∃ ak,bI s= .error ak))∧(bd aX aa.heap.size 100 2 (.slice O rs.length rc) rs.length<|rs.flatMap dY)∧(Sl c0 [(0,str s),(2,aY Z),(4,aY rb),(5,aY V)])) ?_ ?_;refine aT 5 U<|p (aw U<|bT.aJ 2)<|aj 2 U<|gs (t:=81) U (fun cQ=> ?_) fun cQ=> ?_;obtain ⟨_,ac,bu,bt⟩:=a2.resolve_right fun h=>h.1 ab;have cM:=zF av ac.1 ac.2.1 ac.2.2 bu bt;refine aI 5 U<|cb U (fun cg=> ?_) fun cg=> ?_;have bj:dZ (if n≤64 then n else 0) t rs=false :=by simpa using cg
 refine aF 4 U<|e<|st cG U U (U) (bT) (by simp) fun fI bi dg=> ?_;have e5:=bi.size;exact ax 1 U<|tn<|⟨201,(bi.B b8 fun h=>by omega),(bi.B ca fun h=>by omega),dg,((M.trans aO).trans' bi fun k A h=>by omega),ab,(.inr ⟨aD,_,by rw [cM,zx bj]⟩),(bG ck bi fun k A h=>by have :=(cr E A).1; omega),U⟩
 have bj:dZ (if n≤64 then n else 0) t rs=true :=by simpa using cg
 exact aH 1 U<|tn<|⟨f6,b8,ca,bT,(M.trans aO),ab,(.inl ⟨ab,cM,bj⟩),ck,U⟩
 exact ax 7 U<|tn<|⟨f6,b8,ca,bT,(M.trans aO),ab,(a2.elim (fun h=>absurd h.1 fun ar=>cQ ab) .inr),ck,U⟩
 rintro c0 aX ⟨f7,J,I,C,M,ad,c8,E,ex⟩;refine bO ex ?_;refine fu (fun c1 aQ=> ∃ (ls:List (List aK)) (vs:List ag) (am f8:Nat),(aB aQ.heap Z [ba .i64 0,str [],.slice none 0 0,.slice none 0 0,.slice none 0 0,.slice none 0 0,.slice none 0 0])∧(aB aQ.heap V<|[ba .i64 ((if n≤64 then n else 0:Nat):Int),str t,.slice O rs.length rc]++vs)∧(aB aQ.heap rb [str s,aC am,aC f8])∧(Wk w aQ)∧(aa.heap.size≤aQ.heap.size)∧(am≤s.length)∧(vs.length=4)∧((f8=0∧(bI s=fW s (if n≤64 then n else 0) t rs ao∧dZ (if n≤64 then n else 0) t rs=true)∧cj (cH s) 4 ao= .ok (ls,am)∧∀ i,i < 4→eU aQ aa.heap.size (vs.getD i .nilFunc) (ls.getD i []))∨(f8≠0∧∃ ak,bI s= .error ak))∧(bd aQ aa.heap.size 100 2 (.slice O rs.length rc) rs.length<|rs.flatMap dY)∧(Sl c1 [(0,str s),(2,aY Z),(4,aY rb),(5,aY V)])) ?_ ?_;refine cm 6 U<|lp (fun bc c2 au=> ∃ (an:Nat) (ls:List (List aK)) (vs:List ag) (am f8:Nat),(aB au.heap Z [ba .i64 0,str [],.slice none 0 0,.slice none 0 0,.slice none 0 0,.slice none 0 0,.slice none 0 0])∧(aB au.heap V<|[ba .i64 ((if n≤64 then n else 0:Nat):Int),str t,.slice O rs.length rc]++vs)∧(aB au.heap rb [str s,aC am,aC f8])∧(Wk w au)∧(aa.heap.size≤au.heap.size)∧(an≤4)∧(am≤s.length)∧(vs.length=4)∧((f8=0∧(bI s=fW s (if n≤64 then n else 0) t rs ao∧dZ (if n≤64 then n else 0) t rs=true)∧cj (cH s) an ao= .ok (ls,am)∧∀ i,i < an→eU au aa.heap.size (vs.getD i .nilFunc) (ls.getD i []))∨(f8≠0∧∃ ak,bI s= .error ak))∧(bd au aa.heap.size 100 2 (.slice O rs.length rc) rs.length<|rs.flatMap dY)∧(Sl c2 [(0,str s),(2,aY Z),(4,aY rb),(5,aY V),(11,aC an)])∧(4 - an=bc)) _ ⟨0,[],[.slice none 0 0,.slice none 0 0,.slice none 0 0,.slice none 0 0],ao,f7,J,I,C,M,ad,ab,bv,U,(c8.imp (fun h=>⟨h.1,h.2,U,fun i hi=>by omega⟩) id),E,U,U⟩ ?_;rintro bc c2 au ⟨an,ls,vs,am,f8,J,I,C,M,ad,eX,bW,az,a3,E,ez,rfl⟩;refine bO ez<|aT 6 U<|gs (t:=90) U (fun ef=> ?_) fun ef=> ?_;refine aj 3 U<|bK U (aw U<|C.aJ 2)<|aI 4 U<|cd U (fun cL=> ?_) fun cL=> ?_;obtain ⟨ch,aS,bV,a4⟩:=a3.resolve_right fun h=>h.1 ab;obtain rfl :f8=0:=ch;refine aF 7 U<|e<|bo (Fo rb s am au C a7 bW) U ?_;rintro eJ fw ⟨eH,f9,da,el,cS,bf⟩;have e2:=bf.size;obtain ⟨aZ,bX,cc,rfl⟩:∃ aZ bX cc,eJ= .slice aZ bX cc:=by
  rcases cS with ⟨_,l,_,c9⟩ | ⟨_,_,h⟩;obtain ⟨aZ,cc,h,_⟩:=c9.ee; exact ⟨aZ,_,cc,h⟩;exact h
 have dH:=bf.B J fun h=>by omega
 have dQ:=bf.B I fun h=>by omega
 have dz:=(M).trans' bf fun k A h=>by omega
 refine aj 1 U<|p (jc yR U U ab)<|e<|st GA U U (U) (dQ) (by simp only [cC,dL,lA,az]; omega) fun cU a5 dh=> ?_;have e7:=a5.size;have dS:aB cU.heap V ([ba .i64 ((if n≤64 then n else 0:Nat):Int),str t,.slice O rs.length rc]++vs.set an (.slice aZ bX cc)):=by rw [← xi]; exact dh
 have dJ:=a5.B dH fun h=>by omega
 have d3:=a5.B da fun h=>by omega
 have dB:=dz.trans' a5 fun k A h=>by omega
 have cB:Md (fun k=>k=rb∨k=V) au cU:=(bf.mono fun _ _ h=> .inl h).trans<|a5.mono fun _ _ h=> .inr h;have ej:=bG E cB fun k A h=>by have :=(cr E A).1; omega
 exact aj 5 U<|p (bD<|an+1)<|ax 2 U<|tn<|⟨_,ab,an+1,qF s (an+1) ao,vs.set an (.slice aZ bX cc),eH,f9,dJ,dS,d3,dB,ab,ab,el,(by rw [gn]; exact az),(J7 bV aS.1 aS.2 cS a4 ab az cB (fun k A=>by omega) ad a5),ej,U,U⟩
 exact aH 2 U<|cw<|bh 1 U<|tn<|⟨ls,vs,am,f8,J,I,C,M,ad,bW,az,(a3.elim (fun h=>absurd h.1 fun ar=>cL ab) .inr),E,U⟩
 exact ax 11 U<|cw<|bh 1 U<|tn<|⟨ls,vs,am,f8,J,I,C,M,ad,bW,az,((by have c5:an=4:=ab; subst c5; exact a3)),E,U⟩
 rintro c1 aQ ⟨ls,vs,am,f8,J,I,C,M,ad,bW,az,a3,E,ey⟩;refine bO ey ?_;refine fu (fun c3 ae=> ∃ (f9:Nat),(aB ae.heap Z [ba .i64 0,str [],.slice none 0 0,.slice none 0 0,.slice none 0 0,.slice none 0 0,.slice none 0 0])∧(aB ae.heap V<|[ba .i64 ((if n≤64 then n else 0:Nat):Int),str t,.slice O rs.length rc]++vs)∧(aB ae.heap rb [str s,aC am,aC f9])∧(Wk w ae)∧(aa.heap.size≤ae.heap.size)∧((f9=0∧bI s= .ok ⟨if n≤64 then n else 0,t,rs,ls⟩∧∀ i,i < 4→eU ae aa.heap.size (vs.getD i .nilFunc) (ls.getD i []))∨(f9≠0∧∃ ak,bI s= .error ak))∧(bd ae aa.heap.size 100 2 (.slice O rs.length rc) rs.length<|rs.flatMap dY)∧(Sl c3 [(0,str s),(2,aY Z),(4,aY rb),(5,aY V)])) ?_ ?_;refine aT 5 U<|p (aw U<|C.aJ 2)<|aj 2 U<|gs (t:=109) U (fun cO=> ?_) fun cO=> ?_;obtain ⟨_,aS,bV,a4⟩:=a3.resolve_right fun h=>h.1 ab;refine aj 3 U<|bK U (aw U<|C.aJ 1)<|aI 6 U<|cd U (fun d6=> ?_) fun d6=> ?_;refine aF 4 U<|e<|st cG U U (U) (C) (by simp) fun fJ bl dj=> ?_;have e9:=bl.size;exact ax 1 U<|tn<|⟨202,(bl.B J fun h=>by omega),(bl.B I fun h=>by omega),dj,(M.trans' bl fun k A h=>by omega),ab,(.inr ⟨aD,_,by rw [aS.1,zz aS.2 bV ab]⟩),(bG E bl fun k A h=>by have :=(cr E A).1; omega),U⟩
 exact aH 1 U<|tn<|⟨f8,J,I,C,M,ad,(.inl ⟨ab,by rw [aS.1,zA aS.2 bV ab],a4⟩),E,U⟩
 exact ax 12 U<|tn<|⟨f8,J,I,C,M,ad,(a3.elim (fun h=>absurd h.1 fun ar=>cO ab) .inr),E,U⟩
 rintro c3 ae ⟨f9,J,I,C,M,ad,cA,E,eA⟩;refine bO eA<|aF 6 U<|p (aw U<|C.aJ 2)<|aI 3 U<|cd U (fun ce=> ?_) fun ce=> ?_;obtain ⟨eb,dX⟩:=cA.resolve_left fun h=>ce<|by rw [h.1]; rfl
 refine cn 1 U ?_;have br:(fun w'=>Md (fun k=>k=Z) ae w') ae.drew:=(Md.refl _ _).drew;refine bj (fun w'=>Md (fun k=>k=Z) ae w') U wide br<|dd 0 U (eV (ps:= []) (L:= [.int .i64 0,.string ⟨⟨[]⟩⟩,.slice none 0 0,.slice none 0 0,.slice none 0 0,.slice none 0 0,.slice none 0 0]) tq U<|U) br<|aN [1,2,3] U br<|qf 4 U (fun w' dx=>aw U<|(Md.B dx C fun h=>by omega).aJ 2) br<|he 5 U ai<|qK kC U U U U (J) (by simp) fun eP dw dk=> ?_
 skip
 have b5:(fun w'=>Md (fun k=>k=Z) ae w') eP:=Md.trans br dw;refine ⟨b5,?_⟩;exact aN [6] U b5<|hn ai<|bh 3 U<|r8 U (iK (cs:= [ba .i64 0,str [],.slice none 0 0,.slice none 0 0,.slice none 0 0,.slice none 0 0,.slice none 0 0]) U j0 U fun j ci=>dk.aJ j) kU<|⟨.inr ⟨dX,f9,eb,U⟩,M.trans' b5 fun k A h=>by omega⟩
 obtain ⟨_,d9,a4⟩:=cA.resolve_right fun h=>ce ab;refine cn 3 U ?_;obtain ⟨aE,aG,aL,aM,rfl⟩:∃ aE aG aL aM,vs= [aE,aG,aL,aM]:=by
  match vs,az with
  | [aE,aG,aL,aM],_=>exact ⟨_,_,_,_,rfl⟩
 have d0:ix ae w.heap.size [ba .i64 ((if n≤64 then n else 0:Nat):Int),str t,.slice O rs.length rc,aE,aG,aL,aM] ⟨if n≤64 then n else 0,t,rs,ls⟩:=⟨O,rc,[aE,aG,aL,aM],rfl,az,(bU E).2,fun i hi=>(a4 i hi).mono ab⟩
 have d1:=d0.one;refine aF 1 U<|p (eK j0 U (U) (show ∀ j,j < 7→ay ae.heap V (0 +j)=([ba .i64 ((if n≤64 then n else 0:Nat):Int),str t,.slice O rs.length rc,aE,aG,aL,aM]:List ag)[j]? from fun j _=>I.aJ j))<|e<|qK kC U U U d1.2 J aD fun eM b2 dl=> ?_;have dm:aB eM.heap Z [ba .i64 ((if n≤64 then n else 0:Nat):Int),str t,.slice O rs.length rc,aE,aG,aL,aM]:=dl;exact ax 4 U<|r8 U (iK (cs:= [ba .i64 ((if n≤64 then n else 0:Nat):Int),str t,.slice O rs.length rc,aE,aG,aL,aM]) U j0 U fun j ci=>dm.aJ j) kU<|⟨.inl ⟨_,_,d9,U,⟨O,rc,[aE,aG,aL,aM],U,az,(bU<|bG E b2 fun k A h=>by have :=(cr E A).1; omega).2,fun i hi=>((a4 i hi).md b2 fun k A hb=>absurd hb ab).mono ab⟩⟩,M.trans' b2 fun k A h=>by omega⟩
end Go.Hb.pJ
section
namespace Go.Hb.yD
open Go.Hb.pJ
theorem rA.form {s:List UInt8} {w w':ah} {v:ag} (h:rA s w v w'):∃ E I x2 J L M O q,v= .tuple #[.agg [E,I,x2,J,L,M,O].toArray,.int .i64 ((q:Nat):Int)]∧[E,I,x2,J,L,M,O].all eQ=true∧Wk w w'∧
 ((q≠0∧∃ aj,bI s= .error aj)∨(q=0∧∃ b,bI s= .ok b∧ix w' w.heap.size [E,I,x2,J,L,M,O] b)):=by
 obtain ⟨h,ai⟩:=h;rcases h with ⟨b,cs,A,C,hb⟩ | ⟨A,q,al,C⟩
 · obtain ⟨ak,h1⟩:=hb.one;obtain ⟨V,Z,aa,ab,ac,ad,ae,rfl⟩:∃ V Z aa ab ac ad ae,cs= [V,Z,aa,ab,ac,ad,ae]:=by
    match cs,ak with
    | [V,Z,aa,ab,ac,ad,ae],_=>exact ⟨_,_,_,_,_,_,_,rfl⟩
   exact ⟨_,_,_,_,_,_,_,0,C,h1,ai,.inr ⟨U,b,A,hb⟩⟩
 · exact ⟨_,_,_,_,_,_,_,q,C,U,ai,.inl ⟨al,A⟩⟩
theorem B3 {w w':ah} {I e:Nat} {E:Option Addr} {s:List UInt8} {b:dS} (O:b.Is s) (A:a9 w.heap E (b.cF.flatMap dY)) (M:w.heap[I]? =some (.cells [ba .i64 0,str [],.slice none 0 0,.slice none 0 0,.slice none 0 0,.slice none 0 0,.slice none 0 0].toArray e (0,0))) (hm:Md (fun k=>k=I) w w'):a9 w'.heap E (b.cF.flatMap dY):=by
 refine A.md hm fun J U=> ?_;have hr:=O.cF;cases hrp:b.cF with
 | nil=>rw [hrp] at J; exact J rfl
 | cons r rs=>
   rw [hrp] at A hr;have h1:=A.ay 0 (str r.1) rfl;rw [U,bg M] at h1;have L:=(hr r List.mem_cons_self).1;have :∀ j,j < 7→([ba .i64 0,str [],.slice none 0 0,.slice none 0 0,.slice none 0 0,.slice none 0 0,.slice none 0 0]:List ag).toArray[j]?≠some (str r.1):=fun j C h=>by
    match j,C with
    | 0,_=>cases h
    | 1,_=>exact L<|by simp [str] at h; exact h
    | 2,_=>cases h
    | 3,_=>cases h
    | 4,_=>cases h
    | 5,_=>cases h
    | 6,_=>cases h
   by_cases C:fo E+0 < 7
   · exact this _ C h1
   · rw [Array.getElem?_eq_none (by simp; omega)] at h1; cases h1
def E3 (s:List UInt8) (w:ah) (v:ag) (w':ah):Prop := ∃ C E I x2 J L M O A,v= .tuple #[.pointer C,.agg [E,I,x2,J,L,M,O].toArray,.bool A,.bool true]∧[E,I,x2,J,L,M,O].all eQ=true∧Wk w w'∧
 ((∃ U b,C=some ⟨U,0,none⟩∧A=true∧bI s= .ok b∧iy w' w.heap.size U b s∧ix w' w.heap.size [E,I,x2,J,L,M,O] b)∨(C=none∧A=false∧∃ V,bI s= .error V))
theorem BY (s:List UInt8) (w:ah) (aW:s.length≤1048576):
 bq prog 8 (bC [str s]) w (E3 s w):=by
 refine enter func8 U ntmps8 U<|aT 3 U<|e<|dB o9 fun aw aY bp aQ aC=> ?_;have bw:=aQ.size;refine aj 6 U<|p mv<|e<|bo (Bg s aY aW) U ?_;rintro bm aK ⟨am,ae⟩;have bu:=ae.size;obtain ⟨E,u,rfl,aV,bi⟩:∃ E u,bm= .tuple #[.pointer E,u]∧(∀ C,E=some C→∃ J b,C=⟨J,0,none⟩∧bI s= .ok b∧iy aK aY.heap.size J b s)∧(E=none→∃ ad,bI s= .error ad):=by
  cases hX:bI s with
  | ok b=>rw [hX] at am; obtain ⟨J,h,bg⟩:=am; exact ⟨_,_,h,fun C A=>⟨J,b,(dM A).symm,rfl,bg⟩,fun A=>by cases A⟩
  | error q=>rw [hX] at am; exact ⟨_,_,am,fun C A=>(by cases A),fun _=>⟨q,rfl⟩⟩
 clear am;refine p mv<|aj 2 U<|p aR<|p aR<|aj 4 U<|p mv<|e<|bo (Ju s aK aW) U fun bD aX bd=> ?_;obtain ⟨L,M,x2,O,V,Z,aa,q,rfl,av,al,aG⟩:=rA.form bd;have bv:=al.size;have bl:(q=0∧E≠none)∨(q≠0∧E=none):=by
  rcases aG with ⟨h1,ad,A⟩ | ⟨h1,b,A,_⟩;refine .inr ⟨h1,?_⟩;cases hoc:E with
  | none=>rfl
  | some C=>obtain ⟨_,_,_,ao,_⟩:=aV C hoc; rw [A] at ao; cases ao
  refine .inl ⟨h1,fun ao=> ?_⟩;obtain ⟨ad,aM⟩:=bi ao;rw [A] at aM; cases aM
 refine p mv<|aj 2 U<|e<|dB o9 fun aL bE br aS a5=> ?_;have bx:=aS.size;refine e<|ez kC U U U av a5 aD fun an aP a6=> ?_;have bz:=aP.size;have a7:aB an.heap aL [L,M,x2,O,V,Z,aa]:=⟨_,a6⟩
 have ap:Wk aX an:=aS.md.trans' aP fun k aF h=>by omega
 have a4:=Wk.ak ap<|Wk.ak al<|Wk.ak ae aC;refine aI 4 U<|oB 10 fun I=>qq 0 U (mv) I<|ID 1 U (fun w' bf=>eK j0 U (U)<|(show ∀ j,j < 7→ay w'.heap aL (0 +j)=([L,M,x2,O,V,Z,aa]:List ag)[j]? from fun j _=>(Wk.B bf a7).aJ j)) I<|qe [2,3] U I<|qq 4 U (mv) I<|qq 5 U (jB qL U U) I<|qe [6,7] U I<|qq 8 U (Ah u4 U U) I<|qq 9 U (aR) I<|jK 10 U ai ai<|ez kC U U U av a4 aD fun ac ar a8=> ?_;have bA:=ar.size;have a9:aB ac.heap aw [L,M,x2,O,V,Z,aa]:=⟨_,a8⟩
 refine Bj 11 U (fun _=>aR) (fun h=>di<|(show true =_ from by kernel_rfl).trans h)<|Bj 12 U (fun _=>aR) (fun h=>di<|(show true =_ from by kernel_rfl).trans h)<|jL ai<|bh 2 U<|Hm U kU (iK (cs:= [L,M,x2,O,V,Z,aa]) U j0 U fun j bt=>a9.aJ j) kU kU ?_;have bn:Wk an ac→Wk an ac:=id;have bc:Wk w an:=((aQ.md.trans ae).trans al).trans ap;have aN:Wk w ac:=bc.trans' (Md.dc ar) fun k aF h=>by omega
 rcases bl with ⟨h1,A⟩ | ⟨h1,A⟩;obtain ⟨_,b,au,ba⟩:=aG.resolve_left fun h=>h.1 h1;obtain ⟨C,rfl⟩:∃ C,E=some C:=by
  cases E with
  | none=>exact absurd rfl A
  | some C=>exact ⟨C,rfl⟩
 obtain ⟨J,aZ,rfl,aU,bb⟩:=aV C rfl;obtain rfl :b=aZ:=by rw [au] at aU; cases aU; rfl
 subst h1;refine ⟨some ⟨J,0,none⟩,L,M,x2,O,V,Z,aa,true,U,av,aN,.inl ⟨J,b,U,U,au,?_,?_⟩⟩;obtain ⟨cs,a2,⟨aH,rc,vs,rfl,ax,az,aA⟩,g6⟩:=bb;have aE:Md (fun k=>k=aw) aK ac:=(al.trans ap).mono (fun _ _ h=>h.elim) |>.trans (Md.dc ar);exact ⟨_,aE.B a2 (fun h=>by omega),⟨aH,rc,vs,U,ax,B3 (rR au) az (Wk.ak ae aC) aE,fun i hi=>((aA i hi).md aE fun k aF hb cur z=>by omega).mono ab⟩,ab⟩;obtain ⟨aH,rc,vs,a3,ax,az,aA⟩:=ba;have aO:Md (fun k=>k=aw) aX ac:=ap.mono (fun _ _ h=>h.elim) |>.trans (Md.dc ar);exact ⟨aH,rc,vs,a3,ax,B3 (rR au) az (Wk.ak al<|Wk.ak ae aC) aO,fun i hi=>((aA i hi).md aO fun k aF hb cur z=>by omega).mono ab⟩;subst A;obtain ⟨_,ad,bj⟩:=aG.resolve_right fun h=>h1 h.1;refine ⟨none,L,M,x2,O,V,Z,aa,false,?_,av,aN,.inr ⟨U,U,ad,bj⟩⟩;have a0:decide (((q:Nat):Int)=0)=false :=decide_eq_false ab;show Value.tuple #[.pointer none,.agg [L,M,x2,O,V,Z,aa].toArray,.bool (decide (((q:Nat):Int)=0)),.bool (decide ((none:Option Addr).isNone=decide (((q:Nat):Int)≠0)))]=_;have a1:decide (((q:Nat):Int)≠0)=true :=decide_eq_true ab;rw [a0,a1];rfl
end Go.Hb.yD
end
section
namespace Go.Hb
open Go.Hb.pJ
def jR (l:List aK) (q:Nat) (c:UInt8):Int:=match fg l q c with
 | some m=>(m:Int)
 | none=> -1
theorem JT (a:Option Addr) (c:Nat) (l:List aK) (q:Nat) (C:UInt8) (w:ah) (L:gY w.heap a l) (ae:lG l) (aa:q < l.length):
 bq prog 45 (bC [.slice a l.length c,aC q,.int .u8 C.toNat]) w (fun v w'=>v= .int .i64 (jR l q C)∧Wk w w'):=by
 obtain ⟨ao,ap,M,J⟩:=L.two aa;obtain ⟨au,am⟩:=ae.st aa;refine enter func45 U ntmps45 U<|cm 12 U<|lp (fun V ad ac=> ∃ (k:Nat),(k≤(aO l q).2.length)∧(∀ (j:Nat) (e':UInt8×Int),j < k→(aO l q).2[j]? =some e'→e'.1≠C)∧(Wk w ac)∧(Sl ad [(0,.slice a l.length c),(1,aC q),(2,.int .u8 C.toNat),(7,aC k)])∧((aO l q).2.length - k=V)) _ ⟨0,ab,(fun j e h=>by omega),(Md.refl _ _),U,U⟩ ?_;rintro V ad ac ⟨k,ar,O,A,an,rfl⟩;refine bO an<|aT 6 U<|p (bf pX U U ab<|L.ok ab)<|aj 1 U<|p (aw U<|(ma A M) 1 ab)<|aI 4 U<|cd U (fun ag=> ?_) fun ag=> ?_;refine cn 5 U ?_;obtain ⟨I,he⟩:∃ d,(aO l q).2[k]? =some d:=⟨_,bF ab⟩
 refine aF 3 U<|p (bf pX U U ab<|L.ok ab)<|aj 1 U<|p (aw U<|(ma A M) 1 ab)<|aj 1 U<|p (bf om U U ab<|J.ok ab)<|aj 1 U<|p (aw U<|(J.wk A).b k I he)<|aI 4 U<|cd U (fun Z=> ?_) fun Z=> ?_;refine aF 4 U<|p (bf pX U U ab<|L.ok ab)<|aj 1 U<|p (aw U<|(ma A M) 1 ab)<|aj 1 U<|p (bf om U U ab<|J.ok ab)<|aj 1 U<|p (aw U<|(J.wk A).to k I he)<|ax 6 U<|tr<|bh 2 U<|aQ U ?_;have ai:=AP he (UInt8.toNat_inj.1 ab) O;have al:=(cI.1 he).1;have bj:jR l q C=I.2:=by
  have :=(am _ _ he).1;unfold jR fg;rw [ai,if_pos al,bY,he];show ((I.2.toNat:Nat):Int)=I.2;omega
 rw [bj];exact ⟨U,A⟩;exact aF 5 U<|p (bD<|k+1)<|ax 2 U<|tn<|⟨_,ab,k+1,ab,(fun j e' ak E=>by rcases Nat.lt_succ_iff_lt_or_eq.1 ak with h | rfl; exact O j e' h E; rw [he] at E; cases E; exact fun h=>Z<|by rw [h]),A,U,U⟩
 refine aH 2 U<|cw<|bh 8 U<|aQ U ?_;have bj:jR l q C= -1:=by
  unfold jR fg;rw [AQ (fun j e' E=>O j e' (by have :=(cI.1 E).1; omega) E),if_neg ab]
 rw [bj];exact ⟨U,A⟩
def eM (n:Nat) (g:Nat→Bool):List Bool:=(fw<|n+1).map g
theorem wX {n k:Nat} (g:Nat→Bool) (A:k≤n):(eM n g)[k]? =some (g k):=by
 unfold eM;rw [fP,rf ab]; rfl
theorem sR (n:Nat) (g:Nat→Bool):(eM n g).length=n+1:=by simp [eM]
theorem sQ {n:Nat} {g h:Nat→Bool} (e:∀ k,k≤n→g k=h k):eM n g=eM n h:=by
 unfold eM;exact nS fun k A=>e k<|by rw [jo] at A; omega
theorem JK {n i:Nat} (g:Nat→Bool) (a:Bool):(eM n g).set i a=eM n fun k=>if k=i then a else g k:=by
 apply pq;intro k;by_cases A:k≤n
 · rw [wX _ A,Ev,wX _ A,sR];by_cases h:i=k
   · subst h; rw [if_pos rfl,if_pos ab,if_pos rfl]
   · rw [if_neg h,if_neg (fun e=>h e.symm)]
 · have h1:=sR n fun k=>if k=i then a else g k
   have C:=sR n g;rw [gF (by rw [gn]; omega),gF ab]
theorem JJ (n:Nat):(cW (n+1)<|bp false)=(eM n fun _=>false).map bp:=by
 unfold eM;rw [tV,show (bp∘fun _:Nat=>false)=fun _=>bp false from rfl,ED,tU]
def ki (l:List aK) (least:Nat) (x:List UInt8) (i k:Nat):List Bool:=eM x.length fun m=>az l least x i m && decide (m≤k)
theorem J3 (l:List aK) (least:Nat) (x:List UInt8) (i:Nat):ki l least x i i=eM x.length fun _=>false :=sQ fun m _=>by
 unfold az;by_cases h:m≤i
 · rw [decide_eq_false (show ¬(i < m∧m≤x.length∧least≤m - i) by omega)]; rfl
 · rw [decide_eq_false (show ¬m≤i from h),Bool.and_false]
theorem xe {l:List aK} {least:Nat} {x:List UInt8} {i k:Nat} (h:az l least x i (k+1)=false):ki l least x i (k+1)=ki l least x i k:=sQ fun m _=>by
 by_cases h1:m=k+1
 · subst h1; rw [h]; rfl
 · congr 1;exact decide_eq_decide.2 ab
theorem J4 {l:List aK} {least:Nat} {x:List UInt8} {i k:Nat} (h:az l least x i (k+1)=true):(ki l least x i k).set (k+1) true =ki l least x i (k+1):=by
 unfold ki;rw [JK];refine sQ fun m _=> ?_;by_cases h1:m=k+1
 · subst h1; rw [if_pos rfl,h,decide_eq_true (aP _)]; rfl
 · rw [if_neg h1]; congr 1;exact decide_eq_decide.2 ab
theorem Ch {l:List aK} {least:Nat} {x:List UInt8} {i k:Nat} (hi:i≤k) (h:k=x.length∨fX l (bZ x i k)=none):ki l least x i k=eM x.length (az l least x i):=sQ fun m hm=>by
 by_cases h1:m≤k
 · rw [decide_eq_true h1,Bool.and_true]
 · rcases h with h | h
   · omega
   · have :=AJ (m:=m) hi ab h;unfold az;rw [this]; simp [pZ]
theorem KQ {l:List aK} {q m:Nat} {c:UInt8} (h:fg l q c=some m):jR l q c=(m:Int):=by unfold jR; rw [h]
theorem KP {l:List aK} {q:Nat} {c:UInt8} (h:fg l q c=none):jR l q c= -1:=by unfold jR; rw [h]
theorem sK {w:ah} {B B' e e' m J n L k:Nat} {v C:ag} {xs M:List ag} (h:w.ownsRow B e m v n xs) (h':w.ownsRow B' e' J C L M) (he:e'≠e) (A:v.ownBlock=some k):C.ownBlock≠some k:=fun I=>by
 rcases h.2 with ⟨rfl,_⟩ | ⟨g,cap,cur,rfl,_,E,_⟩
 · simp [gk] at A
 · simp only [gk,Option.some.injEq] at A;subst A;exact gx h' he _ I _ _ E
def ru (l:List aK) (x:List UInt8) (i k:Nat) (z:Int):Prop :=(∃ q:Nat,fX l (bZ x i k)=some q∧z=(q:Int)∧q < l.length)∨(fX l (bZ x i k)=none∧z= -1)
theorem ru.next {l:List aK} (C:lG l) (h0:0 < l.length) {x:List UInt8} {i k q:Nat} (hi:i≤k) (E:k < x.length) (I:fX l (bZ x i k)=some q):ru l x i (k+1) (jR l q<|x.getD k 0):=by
 have h1:=vA (l:=l) hi E;rw [I] at h1;have A:fX l (bZ x i<|k+1)=fg l q (x.getD k 0):=h1;cases hx:fg l q (x.getD k 0) with
 | none=>exact .inr ⟨A.trans hx,KP hx⟩
 | some m=>exact .inl ⟨m,A.trans hx,KQ hx,AI C h0 h0<|A.trans hx⟩
theorem JU (B:Nat) (cs:List ag) (b:dS) (s x:List UInt8) (w:ah) (bz:ix w B cs b) (a1:b.Is s) (ch:x.length≤1024):
 bq prog 22 (bC [.agg cs.toArray,str x]) w (fun v w'=>(∃ I,bd w' w.heap.size 64 1 v x.length I∧∀ C,C < x.length→bd w' w.heap.size 4 1 (I.getD C .nilFunc) (x.length+1) ((eM x.length<|az (b.an.getD 1 []) b.least x C).map bp))∧Wk w w'):=by
 obtain ⟨bm,rc,vs,rfl,b1,ca,bA⟩:=bz;obtain ⟨bn,b7,br,bt,rfl⟩:=four b1;obtain ⟨av,cc,b2,cf,a2⟩:=(bA 1 ab).ee;obtain rfl :b7=_:=b2;obtain ⟨a8,bV,bW⟩:=a1.an _<|j5 (l:=b.an) (i:=1) (d:= [])<|by rw [a1.sB]; decide
 have bg:lG (b.an.getD 1 []):=⟨bV,bW⟩
 have bl:0 < (b.an.getD 1 []).length:=by unfold shaped at a8; simp only [Bool.and_eq_true,decide_eq_true_eq] at a8; exact a8.1.1
 have cg:b.least≤64:=a1.least.2;refine enter func22 U ntmps22 U<|aT 2 U<|e<|pM (L:= [aC (b.least),str b.tr,.slice bm b.cF.length rc,bn,.slice av (b.an.getD 1 []).length cc,br,bt]) U fun aU E cb bh bx=> ?_;have ci:=bh.size;have bc:aB E.heap aU [aC (b.least),str b.tr,.slice bm b.cF.length rc,bn,.slice av (b.an.getD 1 []).length cc,br,bt]:=⟨_,bx⟩
 have aL:=bh.md;refine aj 6 U<|p (jc yR U U aD)<|p (aw U<|bc.aJ 4)<|p aR<|aI 14 U<|lp (fun ay bu ak=> ∃ (i:Nat) (ai:ag) (I:List ag),(i≤x.length)∧(bd ak E.heap.size 64 1 ai i I∧∀ C,C < i→bd ak E.heap.size 4 1 (I.getD C .nilFunc) (x.length+1) ((eM x.length<|az (b.an.getD 1 []) b.least x C).map bp))∧(Wk E ak)∧(Sl bu [(1,str x),(2,aY aU),(5,.slice av (b.an.getD 1 []).length cc),(6,ai),(7,aC i)])∧(x.length - i=ay)) _ ⟨0,.slice none 0 0,[],ab,(⟨gE _ _ _ _,fun i h=>by omega⟩),(Md.refl _ _),U,U⟩ ?_;rintro ay bu ak ⟨i,ai,I,hi,Z,aE,bZ,rfl⟩;refine bO bZ ?_;have ck:=aE.size;refine cm 9 U<|cd U (fun bJ=> ?_) fun bJ=> ?_;refine aF 8 U<|p (bD<|x.length+1)<|e<|fI (n:=x.length+1) (zv:= .bool false) CK Mt U U U ab (by unfold maxLen; omega) fun M b6 ce ad bX=> ?_;have cj:=ad.size;have bi:=bX ak.heap.size ab;rw [JJ,← J3 (b.an.getD 1 []) b.least x i] at bi;refine aI 16 U<|lp (fun ay bv ar=> ∃ (k:Nat) (z:Int),(i≤k)∧(k≤x.length)∧(ru (b.an.getD 1 []) x i k z)∧(bd ar ak.heap.size 4 1 (bH (some ⟨M,0,none⟩) (x.length+1)<|x.length+1) (x.length+1)<|(ki (b.an.getD 1 []) b.least x i k).map bp)∧(Md (fun k=>k=M) b6 ar)∧(Sl bv [(1,str x),(2,aY aU),(5,.slice av (b.an.getD 1 []).length cc),(6,ai),(7,aC i),(8,bH (some ⟨M,0,none⟩) (x.length+1) (x.length+1)),(9,.int .i64 z),(10,aC k)])∧(x.length - k=ay)) _ ⟨i,0,ab,ab,(.inl ⟨0,by rw [zg]; rfl,U,bl⟩),bi,(Md.refl _ _),U,U⟩ ?_;rintro ay bv ar ⟨k,z,aP,A,ba,ae,V,b0,rfl⟩;refine bO b0<|aT 8 U<|gs (t:=29) U (fun bQ=> ?_) fun bQ=> ?_;refine aI 5 U<|cd U (fun bL=> ?_) fun bL=> ?_;refine cn 5 U ?_;obtain ⟨q,bT,rfl,bY⟩:=ba.resolve_right fun ⟨_,h⟩=>by omega
 have au:Wk E ar:=(aE.trans ad.md).trans' V fun k A h=>by omega
 have a0:=aL.trans au;refine aF 5 U<|p (fE u9 U U ab)<|e<|bo (JT av cc (b.an.getD 1 []) q (x.getD k 0) ar (a2.wk a0) bg bY) U ?_;rintro cp ct ⟨rfl,ac⟩;have aV:=ru.next bg bl aP ab bT
 generalize co:jR (b.an.getD 1 []) q (x.getD k 0)=z2 at aV ⊢;have aM:=V.trans<|ac.mono fun _ _ h=>h.elim;refine aj 8 U<|gs (t:=43) U (fun bR=> ?_) fun bR=> ?_;obtain ⟨m,aO,rfl,aS⟩:=aV.resolve_right fun ⟨_,h⟩=>by omega
 obtain ⟨b8,b9,bF,_⟩:=(a2.wk<|a0.trans ac).two aS;have a6:=BT (least:=b.least) aP ab aO;refine aj 2 U<|bK U (bf pX U U ab<|(a2.wk<|a0.trans ac).ok ab)<|aj 1 U<|bK U (aw U<|bF 0 ab)<|aj 2 U<|gb (t:=50) U (fun aN=> ?_) fun aN=> ?_;refine aj 1 U<|bK U (bD<|k+1)<|aj 1 U<|bK U (oT<|k+1 - i)<|aj 1 U<|bK U (aw U<|(Wk.B (au.trans ac) bc).aJ 0)<|aI 4 U<|cd U (fun bM=> ?_) fun bM=> ?_;refine aF 1 U<|gL (bH (some ⟨M,0,none⟩) (x.length+1)<|x.length+1)<|aj 1 U<|p (bD<|k+1)<|p (bf rZ U U ab<|U)<|e<|jk (j:=k+1) (u:= .bool true) (aW ae ac) uO U U U (by simp [fo]) ab fun cq bE a4=> ?_;rw [jY.symm] at a4;exact aj 5 U<|p (bD<|k+1)<|ax 2 U<|tn<|⟨_,ab,k+1,(m:Int),ab,ab,(.inl ⟨m,aO,U,aS⟩),(by rw [J4 (by rw [a6,aN,mg]; exact decide_eq_true ab)] at a4; exact a4),(aM.trans<|bE.mono fun _ _ h=>(dM h).symm),U,U⟩
 exact aF 5 U<|p (bD<|k+1)<|ax 2 U<|tn<|⟨_,ab,k+1,(m:Int),ab,ab,(.inl ⟨m,aO,U,aS⟩),(by rw [xe (by rw [a6,aN,mg]; exact decide_eq_false ab)]; exact aW ae ac),aM,U,U⟩
 exact aj 16 U<|p (bD<|k+1)<|ax 2 U<|tn<|⟨_,ab,k+1,(m:Int),ab,ab,(.inl ⟨m,aO,U,aS⟩),(by rw [xe (by rw [a6,aN,Bool.false_and])]; exact aW ae ac),aM,U,U⟩
 obtain ⟨bj,rfl⟩:=aV.resolve_left fun ⟨m,_,h,_⟩=>by omega
 exact aj 6 U<|p mv<|aj 16 U<|p (bD<|k+1)<|ax 2 U<|tn<|⟨_,ab,k+1,-1,ab,ab,(.inr ⟨bj,U⟩),(by rw [xe (by unfold az; rw [bj]; simp [pZ])]; exact aW ae ac),aM,U,U⟩
 refine aH 2 U<|cw<|dw 2 U ?_;have au:Wk E ar:=(aE.trans ad.md).trans' V fun k A h=>by omega
 have a7:(ki (b.an.getD 1 []) b.least x i k)=eM x.length (az (b.an.getD 1 []) b.least x i):=Ch aP (by
  rcases ba with ⟨q,h1,aA,al⟩ | ⟨h1,_⟩;exact .inl ab;exact .inr h1)
 rw [a7] at ae;have aG:=bG (aW Z.1 ad.md) V fun k A h=>by have :=(cr Z.1 A).2; omega
 have bN:=Z.1.1;have b4:=V.size;refine aF 1 U<|gL (ai)<|gL (bH (some ⟨M,0,none⟩) (x.length+1)<|x.length+1)<|e<|j1 tk U U fun bw b5 bI J aX=> ?_;have b3:=J.size;refine e<|ap tk (aW aG J.md) U ab U (a9.gh aX) (U) (U) ab ab fun aK ao a5 aa bb bP=> ?_;have bb:=aa.size;have am:=aW aG J.md;have a3:bd ao E.heap.size 64 1 aK (i+1) (I++ [bH (some ⟨M,0,none⟩) (x.length+1) (x.length+1)])∧∀ C,C < (i+1)→bd ao E.heap.size 4 1 ((I++ [bH (some ⟨M,0,none⟩) (x.length+1) (x.length+1)]).getD C .nilFunc) (x.length+1) ((eM x.length<|az (b.an.getD 1 []) b.least x C).map bp):=by
  refine ⟨a5,fun i2 aA=> ?_⟩;by_cases h:i2 < i;rw [sf ab];have al:=Z.2 i2 h;have O:=aW (bG (aW al ad.md) V fun k A e=>by have :=(cr al A).2; omega) J.md;exact bG O aa fun k A=>sK O am aD A;obtain rfl :i2=i:=ab;rw [se ab];have O:=aW (kR ae (show E.heap.size≤ak.heap.size by omega)) J.md;exact bG O aa fun k A=>sK O am aD A
 have aZ:Wk E ao:=(au.trans J.md).trans' aa fun k A h=>by have :=(cr am h).1; omega
 exact p aR<|aj 5 U<|p (bD<|i+1)<|ax 2 U<|tn<|⟨_,ab,i+1,aK,I++ [bH (some ⟨M,0,none⟩) (x.length+1) (x.length+1)],ab,a3,aZ,U,U⟩
 refine ax 8 U<|cw<|dw 2 U ?_;have au:Wk E ar:=(aE.trans ad.md).trans' V fun k A h=>by omega
 have a7:(ki (b.an.getD 1 []) b.least x i k)=eM x.length (az (b.an.getD 1 []) b.least x i):=Ch aP (by
  rcases ba with ⟨q,h1,aA,al⟩ | ⟨h1,_⟩;exact .inl ab;exact .inr h1)
 rw [a7] at ae;have aG:=bG (aW Z.1 ad.md) V fun k A h=>by have :=(cr Z.1 A).2; omega
 have bN:=Z.1.1;have b4:=V.size;refine aF 1 U<|gL (ai)<|gL (bH (some ⟨M,0,none⟩) (x.length+1)<|x.length+1)<|e<|j1 tk U U fun bw b5 bI J aX=> ?_;have b3:=J.size;refine e<|ap tk (aW aG J.md) U ab U (a9.gh aX) (U) (U) ab ab fun aK ao a5 aa bb bP=> ?_;have bb:=aa.size;have am:=aW aG J.md;have a3:bd ao E.heap.size 64 1 aK (i+1) (I++ [bH (some ⟨M,0,none⟩) (x.length+1) (x.length+1)])∧∀ C,C < (i+1)→bd ao E.heap.size 4 1 ((I++ [bH (some ⟨M,0,none⟩) (x.length+1) (x.length+1)]).getD C .nilFunc) (x.length+1) ((eM x.length<|az (b.an.getD 1 []) b.least x C).map bp):=by
  refine ⟨a5,fun i2 aA=> ?_⟩;by_cases h:i2 < i;rw [sf ab];have al:=Z.2 i2 h;have O:=aW (bG (aW al ad.md) V fun k A e=>by have :=(cr al A).2; omega) J.md;exact bG O aa fun k A=>sK O am aD A;obtain rfl :i2=i:=ab;rw [se ab];have O:=aW (kR ae (show E.heap.size≤ak.heap.size by omega)) J.md;exact bG O aa fun k A=>sK O am aD A
 have aZ:Wk E ao:=(au.trans J.md).trans' aa fun k A h=>by have :=(cr am h).1; omega
 exact p aR<|aj 5 U<|p (bD<|i+1)<|ax 2 U<|tn<|⟨_,ab,i+1,aK,I++ [bH (some ⟨M,0,none⟩) (x.length+1) (x.length+1)],ab,a3,aZ,U,U⟩
 refine aH 2 U<|cw<|fD 4 U<|gL (ai)<|p (ux (ai) U)<|ax 3 U<|aQ U ?_;have bU:i=x.length:=ab;subst bU;exact ⟨⟨I,kR Z.1 aL.size,fun i2 aA=>kR (Z.2 i2 aA) aL.size⟩,aL.trans aE⟩
end Go.Hb
end
section
namespace Go.Hb
def zv (z:Int):ag:= .int .i64 z
def dK {α:Type} (n:Nat) (g:Nat→α):List α:=(fw<|n+1).map g
section
variable {α:Type} {n i k:Nat} {g h:Nat→α}
theorem wW (n:Nat) (g:Nat→α):(dK n g).length=n+1:=by simp [dK]
theorem l6 (g:Nat→α) (A:k≤n):(dK n g)[k]? =some (g k):=by
 unfold dK;rw [fP,rf ab]; rfl
theorem wV (e:∀ k,k≤n→g k=h k):dK n g=dK n h:=by
 unfold dK;exact nS fun k A=>e k<|by rw [jo] at A; omega
theorem qC (g:Nat→α) (a:α):(dK n g).set i a=dK n fun k=>if k=i then a else g k:=by
 apply pq;intro k;by_cases A:k≤n
 · rw [l6 _ A,Ev,l6 _ A,wW];by_cases h:i=k
   · subst h; rw [if_pos rfl,if_pos ab,if_pos rfl]
   · rw [if_neg h,if_neg (fun e=>h e.symm)]
 · have h1:=wW n fun k=>if k=i then a else g k
   have C:=wW n g;rw [gF (by rw [gn]; omega),gF ab]
theorem JI (n:Nat) (f:α→ag) (a:α):cW (n+1) (f a)=(dK n fun _=>a).map f:=by
 unfold dK;rw [tV,show (f∘fun _:Nat=>a)=fun _=>f a from rfl,ED,tU]
theorem sP (i:Nat) (u v:α) (g:Nat→α):(dK n fun k=>if k=i then v else if k=i then u else g k)=dK n fun k=>if k=i then v else g k:=wV fun k _=>by
 by_cases h:k=i
 · rw [if_pos h,if_pos h]
 · rw [if_neg h,if_neg h,if_neg h]
end
theorem Fy {h:Array Obj} {a:Option Addr} {r:List Bool} {i:Nat} {x:Bool} (A:a9 h a (r.map bp)) (hi:r[i]? =some x):ay h (bk a) (fo a+i*1)=some (.bool x):=by
 rw [Nat.mul_one]; exact A.ay _ _<|by rw [fP,hi]; rfl
section
variable {pc:Nat→Nat→Bool} {n i j k:Nat}
end
end Go.Hb
end
section
namespace Go.Hb
open Go.Hb.pJ
section
variable {pc:Nat→Nat→Bool} {n i k:Nat}
def dD (pc:Nat→Nat→Bool) (n k:Nat):Nat→Nat:=eY (fun k=>if k=0 then 1 else 0) (lT pc n) k
def dX (pc:Nat→Nat→Bool) (n k i:Nat):Nat:=(fw i).foldl (lS pc n (k+1)<|dD pc n k) 0
theorem vL:dX pc n k (i+1)=lS pc n (k+1) (dD pc n k) (dX pc n k i) i:=by
 unfold dX;rw [List.range_succ,List.foldl_append]; rfl
theorem AW:dX pc n k i≤da+1:=by
 induction i with
 | zero=>exact Nat.zero_le _
 | succ i ih=>
   rw [vL];unfold lS;split
   · split
     · exact aP _
     · omega
   · exact ih
theorem AX:∀ {k:Nat} (q:Nat),dD pc n k q≤da+1
 | 0,q=>by
   show (if q=0 then 1 else 0)≤da+1;split <;> simp [da]
 | k+1,q=>by
   show eY _ (lT pc n) (k+1) q≤_;rw [eY];split
   · rename_i h;subst h;exact AW (i:=k+1)
   · exact AX (k:=k) q
theorem If:dK n (dD pc n k)=dK n fun q=>if q=k+1 then dX pc n k 0 else dD pc n k q:=wV fun q _=>by
 split
 · rename_i h;subst h;show eY _ (lT pc n) k (k+1)=0;rw [zP ab,if_neg ab]
 · rfl
theorem Ig:(dK n fun q=>if q=k+1 then dX pc n k (k+1) else dD pc n k q)=dK n (dD pc n<|k+1):=wV fun q _=>by
 show _=eY _ (lT pc n) (k+1) q;rw [eY];by_cases A:q=k+1
 · subst A; rw [if_pos rfl,if_pos rfl]; rfl
 · rw [if_neg A,if_neg A]; rfl
theorem oy (h:¬(pc i (k+1)=true∧(0 < i∨k+1 < n))):dX pc n k (i+1)=dX pc n k i:=by
 rw [vL]; unfold lS; rw [if_neg h]
theorem jd (h:pc i (k+1)=true∧(0 < i∨k+1 < n)):dX pc n k (i+1)=if da < dX pc n k i+dD pc n k i then da+1 else dX pc n k i+dD pc n k i:=by
 rw [vL]; unfold lS; rw [if_pos h]
end
theorem Jt (B:Nat) (cs:List ag) (b:dS) (s x:List UInt8) (w:ah) (a5:ix w B cs b) (bv:b.Is s) (b9:x.length≤4294967296):
 bq prog 15 (bC [.agg cs.toArray,str x]) w (fun v w'=>v= .tuple #[aC ((eX (b.an.getD 1 []) b.least x).1),.bool (eX (b.an.getD 1 []) b.least x).2]∧Wk w w'):=by
 obtain ⟨aU,rc,vs,rfl,bW,b1,bu⟩:=id a5;obtain ⟨aZ,b0,a0,a1,rfl⟩:=four bW;obtain ⟨av,cc,bX,b5,b2⟩:=(bu 1 ab).ee;obtain rfl :b0=_:=bX;have b8:da=1099511627776:=rfl;refine enter func15 U ntmps15 U<|aT 2 U<|e<|pM (L:= [aC (b.least),str b.tr,.slice aU b.cF.length rc,aZ,.slice av (b.an.getD 1 []).length cc,a0,a1]) U fun a3 aX bA am bp=> ?_;have ca:=am.size;have br:aB aX.heap a3 [aC (b.least),str b.tr,.slice aU b.cF.length rc,aZ,.slice av (b.an.getD 1 []).length cc,a0,a1]:=⟨_,bp⟩
 refine aj 6 U<|p mv<|aj 10 U<|gs (t:=15) U (fun aN=> ?_) fun aN=> ?_;refine ax 14 U<|f2 U U U ?_;have ac:eX (b.an.getD 1 []) b.least x=(0,true):=if_pos<|by first | exact .inr ab | exact .inl<|jV ab
 rw [ac];exact ⟨U,am.md⟩;refine aI 5 U<|cd U (fun bE=> ?_) fun bE=> ?_;refine aH 8 U<|f2 U U U ?_;have ac:eX (b.an.getD 1 []) b.least x=(0,true):=if_pos<|by first | exact .inr ab | exact .inl<|jV ab
 rw [ac];exact ⟨U,am.md⟩;refine aF 4 U<|p (eK j0 U (U) (show ∀ j,j < 7→ay aX.heap a3 (0 +j)=([aC (b.least),str b.tr,.slice aU b.cF.length rc,aZ,.slice av (b.an.getD 1 []).length cc,a0,a1]:List ag)[j]? from fun j _=>br.aJ j))<|p mv<|e<|bo (JU B _ b s x aX (ix.wk a5 am.md) bv ab) U ?_;rintro cf ad ⟨⟨bn,ar⟩,hE21⟩;obtain ⟨ao,a4,rfl⟩:=ew ar.1;have b6:=ar.1.1;refine p aR<|aj 5 U<|p (bD<|x.length+1)<|e<|fI (n:=x.length+1) (zv:= .int .i64 0) qH pb U U U ab (by unfold maxLen; omega) fun C aY b4 aK bM=> ?_;have cb:=aK.size;have bz:bd aY ad.heap.size 3 1 (bH (some ⟨C,0,none⟩) (x.length+1)<|x.length+1) (x.length+1) ((dK x.length fun _=>0).map nv):=by
  have h:=bM ad.heap.size ab;rw [show cW (x.length+1) (ba .i64 0)=_ from JI x.length nv 0] at h; exact h
 refine aj 6 U<|p (bf cE U U ab<|U)<|e<|jk (j:=0) (u:=nv 1) bz cG U U U (by simp [fo]) ab fun bj bw bi=> ?_;rw [jY.symm,qC] at bi;have bN:bd bj ad.heap.size 3 1 (bH (some ⟨C,0,none⟩) (x.length+1)<|x.length+1) (x.length+1) ((dK x.length<|dD (az (b.an.getD 1 []) b.least x) x.length 0).map nv):=bi;have bx:Md (fun k=>k=C) aY bj:=bw.mono fun _ _ h=>(dM h).symm;refine aI 9 U<|lp (fun al bl ak=> ∃ (k:Nat),(k≤x.length)∧(bd ak ad.heap.size 3 1 (bH (some ⟨C,0,none⟩) (x.length+1)<|x.length+1) (x.length+1)<|(dK x.length<|dD (az (b.an.getD 1 []) b.least x) x.length k).map nv)∧(Md (fun k=>k=C) aY ak)∧(Sl bl [(1,str x),(6,aC (x.length)),(7,.slice ao x.length a4),(8,bH (some ⟨C,0,none⟩) (x.length+1) (x.length+1)),(9,aC (k+1))])∧(x.length - k=al)) _ ⟨0,ab,bN,bx,U,U⟩ ?_;rintro al bl ak ⟨k,aQ,au,aG,bT,rfl⟩;refine bO bT<|cm 8 U<|cd U (fun bG=> ?_) fun bG=> ?_;refine cn 5 U ?_;have bt:Wk ad ak:=aK.md.trans' aG fun k aQ h=>by omega
 rw [If] at au;refine cn 5 U<|lp (fun al bm ae=> ∃ (i:Nat),(i≤k+1)∧(bd ae ad.heap.size 3 1 (bH (some ⟨C,0,none⟩) (x.length+1)<|x.length+1) (x.length+1)<|(dK x.length (fun q=>if q=k+1 then dX (az (b.an.getD 1 []) b.least x) x.length k i else dD (az (b.an.getD 1 []) b.least x) x.length k q)).map nv)∧(Md (fun k=>k=C) ak ae)∧(Sl bm [(1,str x),(6,aC (x.length)),(7,.slice ao x.length a4),(8,bH (some ⟨C,0,none⟩) (x.length+1) (x.length+1)),(9,aC (k+1)),(10,aC i)])∧(k+1 - i=al)) _ ⟨0,ab,au,(Md.refl _ _),U,U⟩ ?_;rintro al bm ae ⟨i,hi,J,E,bV,rfl⟩;refine bO bV<|cm 8 U<|cd U (fun bI=> ?_) fun bI=> ?_;refine cn 5 U ?_;have a7:Wk ad ae:=bt.trans' E fun k aQ h=>by omega
 have a8:=aW ar.1 a7;have ap:=aW (ar.2 i ab) a7;obtain ⟨a2,ce,bb⟩:=ew ap;rw [bb] at ap;have aO:bn[i]? =some (.slice a2 (x.length+1) ce):=by rw [← bb,bY,bF ab]; rfl
 have bP:=a9.ok (bU a8).2 fun h=>by rw [h] at aO; simp at aO
 have bQ:=a9.ok (bU ap).2 fun h=>by have :=congrArg lz h; rw [List.length_map,sR] at this; simp at this
 have bg:(dK x.length (fun q=>if q=k+1 then dX (az (b.an.getD 1 []) b.least x) x.length k i else dD (az (b.an.getD 1 []) b.least x) x.length k q))[k+1]? =some (dX (az (b.an.getD 1 []) b.least x) x.length k i):=by rw [l6 _ ab,if_pos rfl]
 have bc:(dK x.length (fun q=>if q=k+1 then dX (az (b.an.getD 1 []) b.least x) x.length k i else dD (az (b.an.getD 1 []) b.least x) x.length k q))[i]? =some (dD (az (b.an.getD 1 []) b.least x) x.length k i):=by rw [l6 _ ab,if_neg ab]
 have bR:(eM x.length<|(az (b.an.getD 1 []) b.least x) i)[k+1]? =some ((az (b.an.getD 1 []) b.least x) i<|k+1):=wX _ ab;have b3:=AW (pc:=az (b.an.getD 1 []) b.least x) (n:=x.length) (k:=k) (i:=i);have bA:=AX (pc:=az (b.an.getD 1 []) b.least x) (n:=x.length) (k:=k) i;refine aF 3 U<|p (bf Hf U U ab<|bP)<|p (aw U<|(show ay ae.heap (bk ao) (fo ao+i*1)=some (.slice a2 (x.length+1) ce) from by rw [Nat.mul_one]; exact a9.ay (bU a8).2 _ _ aO))<|aj 1 U<|p (bf rZ U U ab<|bQ)<|p (aw U<|Fy (bU ap).2 bR)<|aj 1 U<|gb (t:=44) U (fun I=> ?_) fun I=> ?_;refine aj 3 U<|gs (t:=47) U (fun bL=> ?_) fun bL=> ?_;refine aj 4 U<|p (l5 U)<|aI 4 U ?_;have O:(az (b.an.getD 1 []) b.least x) i (k+1)=true∧(0 < i∨k+1 < x.length):=⟨I,ab⟩
 refine oB 12 fun A=>fc 0 U (iG (bH (some ⟨C,0,none⟩) (x.length+1)<|x.length+1) U) A<|eu [1] U A<|fc 2 U (iG (bH (some ⟨C,0,none⟩) (x.length+1)<|x.length+1) U) A<|eu [3] U A<|fc 4 U (bf cE U U ab<|U) A<|gM 5 U A (dk (bU J).2 bg)<|fc 6 U (iG (bH (some ⟨C,0,none⟩) (x.length+1)<|x.length+1) U) A<|eu [7] U A<|fc 8 U (bf cE U U ab<|U) A<|gM 9 U A (dk (bU J).2 bc)<|fc 10 U (bD<|dX (az (b.an.getD 1 []) b.least x) x.length k i+dD (az (b.an.getD 1 []) b.least x) x.length k i) A<|fG 11 U ai<|ik (bf cE U U ab<|U) ⟨A,?_⟩;refine jK 12 U ai ai<|jk (j:=k+1) (u:=nv<|dX (az (b.an.getD 1 []) b.least x) x.length k i+dD (az (b.an.getD 1 []) b.least x) x.length k i) (aW J (Md.refl _ _).drew) cG U U U (by simp [fo]) ab fun aV aA M=> ?_;rw [jY.symm,qC,sP] at M;have V:Md (fun k=>k=C) ae aV:=Md.dc<|aA.mono fun _ _ h=>(dM h).symm;have aM:(dK x.length fun q=>if q=k+1 then (dX (az (b.an.getD 1 []) b.least x) x.length k i+dD (az (b.an.getD 1 []) b.least x) x.length k i) else dD (az (b.an.getD 1 []) b.least x) x.length k q)[k+1]? =some (dX (az (b.an.getD 1 []) b.least x) x.length k i+dD (az (b.an.getD 1 []) b.least x) x.length k i):=by rw [l6 _ ab,if_pos rfl]
 refine jL ai<|fD 3 U<|gL (bH (some ⟨C,0,none⟩) (x.length+1)<|x.length+1)<|aj 1 U<|p (bf cE U U ab<|U)<|p (aw U<|dk (bU M).2 aM)<|aI 3 U<|cd U (fun aL=> ?_) fun aL=> ?_;refine aF 1 U<|gL (bH (some ⟨C,0,none⟩) (x.length+1)<|x.length+1)<|aj 1 U<|p (bf cE U U ab<|U)<|e<|jk (j:=k+1) (u:=nv<|da+1) M cG U (iv ab) U (by simp [fo]) ab fun bZ aE Z=> ?_;rw [jY.symm,qC,sP] at Z;have aa:=V.trans<|aE.mono fun _ _ h=>(dM h).symm;exact aj 5 U<|p (bD<|i+1)<|ax 2 U<|tn<|⟨_,ab,i+1,ab,(by first | (rw [jd O,if_pos ab]; exact Z) | (rw [jd O,if_neg ab]; exact M) | (rw [oy (fun h=>by first | (rw [h.1] at I; exact absurd I aD) | omega)]; exact J)),(by first | exact E.trans aa | exact E.trans V | exact E),U,U⟩
 exact aF 5 U<|p (bD<|i+1)<|ax 2 U<|tn<|⟨_,ab,i+1,ab,(by first | (rw [jd O,if_pos ab]; exact Z) | (rw [jd O,if_neg ab]; exact M) | (rw [oy (fun h=>by first | (rw [h.1] at I; exact absurd I aD) | omega)]; exact J)),(by first | exact E.trans aa | exact E.trans V | exact E),U,U⟩
 refine aI 7 U<|cd U (fun bJ=> ?_) fun bJ=> ?_;refine cn 1 U ?_;have O:(az (b.an.getD 1 []) b.least x) i (k+1)=true∧(0 < i∨k+1 < x.length):=⟨I,ab⟩
 refine oB 12 fun A=>fc 0 U (iG (bH (some ⟨C,0,none⟩) (x.length+1)<|x.length+1) U) A<|eu [1] U A<|fc 2 U (iG (bH (some ⟨C,0,none⟩) (x.length+1)<|x.length+1) U) A<|eu [3] U A<|fc 4 U (bf cE U U ab<|U) A<|gM 5 U A (dk (bU J).2 bg)<|fc 6 U (iG (bH (some ⟨C,0,none⟩) (x.length+1)<|x.length+1) U) A<|eu [7] U A<|fc 8 U (bf cE U U ab<|U) A<|gM 9 U A (dk (bU J).2 bc)<|fc 10 U (bD<|dX (az (b.an.getD 1 []) b.least x) x.length k i+dD (az (b.an.getD 1 []) b.least x) x.length k i) A<|fG 11 U ai<|ik (bf cE U U ab<|U) ⟨A,?_⟩;refine jK 12 U ai ai<|jk (j:=k+1) (u:=nv<|dX (az (b.an.getD 1 []) b.least x) x.length k i+dD (az (b.an.getD 1 []) b.least x) x.length k i) (aW J (Md.refl _ _).drew) cG U U U (by simp [fo]) ab fun aV aA M=> ?_;rw [jY.symm,qC,sP] at M;have V:Md (fun k=>k=C) ae aV:=Md.dc<|aA.mono fun _ _ h=>(dM h).symm;have aM:(dK x.length fun q=>if q=k+1 then (dX (az (b.an.getD 1 []) b.least x) x.length k i+dD (az (b.an.getD 1 []) b.least x) x.length k i) else dD (az (b.an.getD 1 []) b.least x) x.length k q)[k+1]? =some (dX (az (b.an.getD 1 []) b.least x) x.length k i+dD (az (b.an.getD 1 []) b.least x) x.length k i):=by rw [l6 _ ab,if_pos rfl]
 refine jL ai<|fD 3 U<|gL (bH (some ⟨C,0,none⟩) (x.length+1)<|x.length+1)<|aj 1 U<|p (bf cE U U ab<|U)<|p (aw U<|dk (bU M).2 aM)<|aI 3 U<|cd U (fun aL=> ?_) fun aL=> ?_;refine aF 1 U<|gL (bH (some ⟨C,0,none⟩) (x.length+1)<|x.length+1)<|aj 1 U<|p (bf cE U U ab<|U)<|e<|jk (j:=k+1) (u:=nv<|da+1) M cG U (iv ab) U (by simp [fo]) ab fun bZ aE Z=> ?_;rw [jY.symm,qC,sP] at Z;have aa:=V.trans<|aE.mono fun _ _ h=>(dM h).symm;exact aj 5 U<|p (bD<|i+1)<|ax 2 U<|tn<|⟨_,ab,i+1,ab,(by first | (rw [jd O,if_pos ab]; exact Z) | (rw [jd O,if_neg ab]; exact M) | (rw [oy (fun h=>by first | (rw [h.1] at I; exact absurd I aD) | omega)]; exact J)),(by first | exact E.trans aa | exact E.trans V | exact E),U,U⟩
 exact aF 5 U<|p (bD<|i+1)<|ax 2 U<|tn<|⟨_,ab,i+1,ab,(by first | (rw [jd O,if_pos ab]; exact Z) | (rw [jd O,if_neg ab]; exact M) | (rw [oy (fun h=>by first | (rw [h.1] at I; exact absurd I aD) | omega)]; exact J)),(by first | exact E.trans aa | exact E.trans V | exact E),U,U⟩
 exact aF 5 U<|p (bD<|i+1)<|ax 2 U<|tn<|⟨_,ab,i+1,ab,(by first | (rw [jd O,if_pos ab]; exact Z) | (rw [jd O,if_neg ab]; exact M) | (rw [oy (fun h=>by first | (rw [h.1] at I; exact absurd I aD) | omega)]; exact J)),(by first | exact E.trans aa | exact E.trans V | exact E),U,U⟩
 exact aj 16 U<|p (bD<|i+1)<|ax 2 U<|tn<|⟨_,ab,i+1,ab,(by first | (rw [jd O,if_pos ab]; exact Z) | (rw [jd O,if_neg ab]; exact M) | (rw [oy (fun h=>by first | (rw [h.1] at I; exact absurd I aD) | omega)]; exact J)),(by first | exact E.trans aa | exact E.trans V | exact E),U,U⟩
 refine aH 2 U<|cw<|dw 3 U ?_;obtain rfl :i=k+1:=ab;rw [Ig] at J;exact aF 2 U<|p (bD<|k+1 +1)<|ax 2 U<|tn<|⟨_,ab,k+1,ab,J,(aG.trans E),U,U⟩
 refine aH 2 U<|cw<|dw 4 U ?_;obtain rfl :k=x.length:=ab;have aS:=LB (pc:=az (b.an.getD 1 []) b.least x) (n:=x.length) ab;have bh:¬(x= []∨1024 < x.length):=fun h=>by rcases h with h | h; rw [h] at aN; exact aN rfl; omega
 have b7:dD (az (b.an.getD 1 []) b.least x) x.length x.length x.length=jW (az (b.an.getD 1 []) b.least x) x.length x.length:=rfl;have a6:Wk w ak:=((am.md.trans hE21).trans aK.md).trans' aG fun k aQ h=>by have :=hE21.size; omega
 refine aF 1 U<|gL (bH (some ⟨C,0,none⟩) (x.length+1)<|x.length+1)<|aj 1 U<|p (bf cE U U ab<|U)<|p (aw U<|dk (bU au).2<|l6 (k:=x.length) _<|aP _)<|aI 3 U<|cd U (fun bK=> ?_) fun bK=> ?_;refine aH 8 U<|f2 U U U ?_;have ac:eX (b.an.getD 1 []) b.least x=(0,false):=by unfold eX; rw [if_neg bh,if_pos (by rw [aS]; omega)]
 rw [ac];exact ⟨U,a6⟩;refine aF 4 U<|gL (bH (some ⟨C,0,none⟩) (x.length+1)<|x.length+1)<|aj 1 U<|p (bf cE U U ab<|U)<|p (aw U<|dk (bU au).2<|l6 (k:=x.length) _<|aP _)<|ax 5 U<|f2 U U U ?_;have ac:eX (b.an.getD 1 []) b.least x=(jW (az (b.an.getD 1 []) b.least x) x.length x.length,true):=by unfold eX; rw [if_neg bh,if_neg (by rw [aS]; omega),aS]
 rw [ac];exact ⟨U,a6⟩
end Go.Hb
end
section
namespace Go.Hb
open Go.Hb.yD Go.Hb.pJ
theorem Ge (s C:List UInt8) (b:dS) (w:ah) (aE:cK 524 bE w) (aH:s.length≤1048576) (aW:C.length≤1048576) (L:bI s= .ok b):
 bq prog 4 (bC [str s,str C]) w (fun v w'=>v= .bool true∧Wk w w'):=by
 have Z:=rR L;refine enter func4 U ntmps4 U<|aT 7 U<|p mv<|e<|bo (BY s w aH) U ?_;rintro a2 aM ⟨a1,ai,ak,x2,al,am,an,ao,a0,rfl,aG,V,aK⟩;have aX:=V.size;obtain ⟨aL,ap,rfl,rfl,ad,az,aw⟩:=aK.resolve_right fun ⟨_,_,aO,h⟩=>by rw [L] at h; cases h
 obtain rfl :b=ap:=by rw [L] at ad; cases ad; rfl
 refine p mv<|aj 4 U<|e<|dB o9 fun M a7 aP ac ar=> ?_;have aY:=ac.size;refine p aR<|e<|ez kC U U U aG ar aD fun E aa au=> ?_;have aZ:=aa.size;have J:Wk aM E:=ac.md.trans' aa fun k aV h=>by omega
 have O:=V.trans J;have aC:cK 524 bE E:=aE.mono O fun _ _ h=>h;have av:aB E.heap M [ai,ak,x2,al,am,an,ao]:=⟨_,au⟩
 refine aj 10 U<|gb (t:=22) U (fun h=>absurd (h.symm.trans<|U) di) fun aS=>eg U U U<|bo (Dm E aC) U ?_;rintro a3 aN ⟨rfl,A⟩;refine aI 4 U<|cf (U)<|aF 4 U<|p mv<|p mv<|e<|bo (zf _ aL b s C aN ((az.wk J).wk A) Z ab) U ?_;rintro a4 ae ⟨rfl,I⟩;refine p mv<|aI 13 U<|cf (U)<|aF 4 U<|p (eK j0 U (U) (show ∀ j,j < 7→ay ae.heap M (0 +j)=([ai,ak,x2,al,am,an,ao]:List ag)[j]? from fun j _=>(Wk.B (A.trans I) av).aJ j))<|p mv<|e<|bo (Jt _ _ b s C ae (((ix.wk aw J).wk A).wk I) Z ab) U ?_;rintro a5 a6 ⟨rfl,aA⟩;refine p mv<|aj 12 U<|gs (t:=48) U (fun aU=> ?_) fun h=>absurd U h;exact aj 2 U<|bK U (Ah u4 U U)<|ax 5 U<|aQ U<|⟨congrArg bp (decide_eq_true U),((O.trans A).trans I).trans aA⟩
theorem Gg (s C:List UInt8) (O:Nat) (w:ah) (ag:cK 524 bE w) (al:s.length≤1048576) (aH:C.length≤1048576) (ai:bI s= .error O):
 bq prog 4 (bC [str s,str C]) w (fun v w'=>v= .bool true∧Wk w w'):=by
 refine enter func4 U ntmps4 U<|aT 7 U<|p mv<|e<|bo (BY s w al) U ?_;rintro aO an ⟨aN,ap,ar,x2,au,av,aw,ay,aM,rfl,ak,I,am⟩;have aJ:=I.size;obtain ⟨rfl,rfl,_⟩:=am.resolve_left fun ⟨_,_,_,_,h,_⟩=>by rw [ai] at h; cases h
 refine p mv<|aj 4 U<|e<|dB o9 fun M aV aA L V=> ?_;have aK:=L.size;refine p aR<|e<|ez kC U U U ak V aD fun A J Z=> ?_;have aL:=J.size;have ad:Wk an A:=L.md.trans' J fun k aG h=>by omega
 have E:=I.trans ad;have ae:cK 524 bE A:=ag.mono E fun _ _ h=>h;have az:aB A.heap M [ap,ar,x2,au,av,aw,ay]:=⟨_,Z⟩
 refine aj 10 U<|gb (t:=22) U (fun h=>absurd (h.symm.trans<|U) di) fun aC=>eg U U U<|bo (Dm A ae) U ?_;rintro aP ao ⟨rfl,aa⟩;refine aI 4 U<|cf (U)<|aF 4 U<|p mv<|p mv<|e<|bo (Gc C ao ab) U ?_;rintro aS aU ⟨rfl,ac⟩;refine p mv<|aI 13 U<|ct (U)<|aF 5 U<|gs (t:=36) U (fun aE=> ?_) fun h=>absurd U h;exact ax 7 U<|aQ U<|⟨U,(E.trans aa).trans ac⟩
theorem Gm (s A:List UInt8) (w:ah) (C:cK 524 bE w) (E:s.length≤1048576) (I:A.length≤1048576):bq prog 4 (bC [str s,str A]) w (fun v w'=>v= .bool true∧Wk w w'):=by
 cases hX:bI s with
 | ok b=>exact Ge s A b w C E I hX
 | error J=>exact Gg s A J w C E I hX
end Go.Hb
end
