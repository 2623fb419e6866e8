/-
  Walks and plain laws that the law rests on, laid together. No conditions but those that each theorem names.
-/
import Derived.Test.YtffmhpaepdkabaaGreatDoorMnDeriveLists8
set_option linter.unusedVariables false
open Bool renaming noConfusion→eb
open Go.Proofs.Tryz renaming prog→ay
open Go.Value renaming bool→bQ
open List renaming toArray→ba
open Go.Proofs.Tryz
section
set_option maxRecDepth 20000
set_option maxHeartbeats 1000000
namespace Go.Hb.EP
open Go.Hb.dT
open Go.Proofs
open Go.Hb.fq Go.Hb.fQ Go.Hb.gn Go.Hb.jF Go.Hb.iK Go.Hb.kH Go.Hb.iM Go.Hb.j4 Go.Hb.kK Go.Hb.k0 Go.Hb.lA Go.Hb.lR Go.Hb.mj Go.Hb.ml Go.Hb.jP Go.Hb.lC Go.Hb.mV Go.Hb.nE Go.Hb.ox Go.Hb.qg Go.Hb.pw Go.Hb.qe Go.Hb.rm Go.Hb.uw Go.Hb.xg Go.Hb.ux Go.Hb.Aa
theorem SW (a s1:Tx) (a0 j A d0 i q C d1:Int) (w:World):(binOp .eql 41 (.agg [str a,.int .i64 a0,.int .i64 j,.int .i64 A,.int .i64 d0].toArray)<|.agg [str s1,.int .i64 i,.int .i64 q,.int .i64 C,.int .i64 d1].toArray).run ay w= .ok (.bool<|decide (a=s1∧a0=i∧j=q∧A=C∧d0=d1)) w:=by
 have G:=underlying9
 have I:=underlying3
 have E:ay.underlying 41=some (.struct<|ay.fieldsOf 41):=ag
 have hp:ay.stoodInHeld 41=false :=ag
 rw [run_eql_struct,show (10000:Nat)=9999 +1 from rfl,run_equalIn_agg w 9999 41 _ _ E hp]
 simp only [Program.fieldsOf,underlying41]
 have hs:(str a=str s1)=(a=s1):=by unfold str; simp
 unfold str at*
 go_simp
 by_cases h1:a=s1 <;> by_cases h2:a0=i <;> by_cases h3:j=q <;> by_cases h4:A=C <;> by_cases h5:d0=d1 <;> simp [h1,h2,h3,h4,h5]
section
variable {N:Fm} {σ:Nat→Value} {w:World} {dst:Option Nat} {ty:TypeId} {pos :String} {af:Array Edge} {g:Option (Nat×Bool)} {x y:Operand}
theorem SV {J:TypeId} {C s1:Tx} {a0 i q d0 a j A d1:Int} (G:ev N σ x= .agg [str C,.int .i64 a0,.int .i64 i,.int .i64 q,.int .i64 d0].toArray) (I:ev N σ y= .agg [str s1,.int .i64 a,.int .i64 j,.int .i64 A,.int .i64 d1].toArray):
 (execOp (ev N σ) ⟨dst,.binOp .eql 41 x y J,ty,pos,af,g⟩).run ay w= .ok (.value<|.bool<|decide (C=s1∧a0=a∧i=j∧q=A∧d0=d1)) w:=by
 have hm:ay.eqGuardType ay.depth 41=false :=ag
 have E:=run_eqGuard_agg w .eql 41 x y [str C,.int .i64 a0,.int .i64 i,.int .i64 q,.int .i64 d0].toArray [str s1,.int .i64 a,.int .i64 j,.int .i64 A,.int .i64 d1].toArray hm
 have he:=SW C s1 a0 i q d0 a j A d1 w
 simp only [execOp,G,I,Sem.run_bind,E,he,Result.andThen_ok,Sem.run_pure]
end
theorem uQ {l:List cx} (h:0 < l.length):iX l≠[]:=BQ (f:=eC) (m:=5) (fun _=>rfl) az h
theorem Zo:lr tQ zy=some (jV,nr):=DJ Zi Zk
theorem Zl:ki (ir jV nr 0) 9=wa:=by
 have h:=uP (F:=jV) (xs:=nr) (k:=0) az
 rw [show ((0:Nat):Int)=0 from rfl] at h
 rw [h,Zj]; rfl
theorem qO {w:World} {B e:Nat} {a:Option Addr} {L:List cx} {c:Nat} (h:World.ownsRow w B e 5 (.slice a L.length c) L.length (iX L)):aI w.heap a (iX L):=(aX h).2
theorem Ml (w:World):
 bh ay 12 (ba []) w (fun v w'=>v= .bool true∧Wk w w'):=by
 refine enter func12 aa ntmps12 aa<|aj fun _ G=>aw<|G _ _<|aj fun _ I=>e<|cl F6 (LU tQ zy w az az) aa fun v5 ai ac=> ?_
 obtain ⟨⟨pp,ax,aA,aC,rfl,E⟩,hE5⟩:=ac
 rw [Zo] at E
 obtain ⟨B,tb,O,ao,rfl,ag,V⟩:=E
 refine p mv<|p (xt aa aa)<|p (xt aa aa)<|e<|al p5 fun ak aD ap j U=> ?_
 have av:=j.size
 refine p aB<|e<|cW jT aa aa aa aa (U) (by simp) fun A C an=> ?_
 have Y:Wk w A:=(hE5.trans j.md).trans' C fun q ah h=>by have :=hE5.size; omega
 have Z:Wk ai A:=j.md.trans' C fun q ah h=>by omega
 refine aE<|I _ _<|aj fun _ J=>p mv<|e<|cl AF (JA B tb O jV nr 0 9 A (ag.wk Z) V az) aa fun v9 aF ae=> ?_
 obtain ⟨a,ab⟩:=ae
 rw [Zl] at a
 obtain ⟨a9,am,rfl⟩:=cw a
 refine aw<|J _ _<|aj fun _ M=>p mv<|p (bF tN aa aa)<|p (bH aa aa)<|p mv<|gs (t:=13) aa (fun aq=> ?_) fun h=>absurd aa h
 refine pg aa aa aa mv<|pg aa aa aa (a7 xY aa aa az<|aI.ok (qO a)<|uQ az)<|pg aa aa aa (fa ym aa)<|pg aa aa aa (ld bR aa<|e9 (f:=eC) (m:=5) (i:=0) (fun _=>rfl) (qO a) (show wa[0]? =some ⟨[100,111],0,-1,-1,-1⟩ from aa) 0 az)<|pg aa aa aa (dR aa aa)<|p (bw aa)<|p mv<|gs (t:=20) aa (fun ar=> ?_) fun h=>absurd aa h
 refine pg aa aa aa mv<|pg aa aa aa (a7 xY aa aa az<|aI.ok (qO a)<|uQ az)<|pg aa aa aa (fa ym aa)<|pg aa aa aa (ld bR aa<|e9 (f:=eC) (m:=5) (i:=1) (fun _=>rfl) (qO a) (show wa[1]? =some ⟨[100,111,115],0,0,-1,-1⟩ from aa) 0 az)<|pg aa aa aa (dR aa aa)<|p (bw aa)<|p mv<|gs (t:=27) aa (fun au=> ?_) fun h=>absurd aa h
 exact pg aa aa aa mv<|pg aa aa aa (a7 xY aa aa az<|aI.ok (qO a)<|uQ az)<|pg aa aa aa (cT qk aa (aa)<|e9 (f:=eC) (m:=5) (i:=2) (fun _=>rfl) (qO a) (show wa[2]? =some ⟨[100,111,101,114],0,1,-1,-1⟩ from aa))<|pg aa aa aa (cO (ps:= [(0,str [100,111,101,114]),(2,.int .i64 1),(3,.int .i64 (-1)),(4,.int .i64 (-1))]) (L:= [str [100,111,101,114],.int .i64 0,.int .i64 1,.int .i64 (-1),.int .i64 (-1)]) LD aa<|aa)<|pg aa aa aa (SV aa aa)<|p (bw aa)<|p aB<|nl<|tn<|M _ _<|rt<|f1 aa aa<|⟨congrArg bQ (decide_eq_true ⟨aa,aa,aa,aa,aa⟩),Y.trans ab⟩
theorem VC (d:cx) (w:World):
 bh ay 17 (ba [.agg (eC d).toArray,.agg (eC d).toArray]) w (fun v w'=>v= .bool true∧Wk w w'):=by
 refine enter func17 aa ntmps17 aa<|aj fun _ A=>e<|iV aa fun E O q M I=> ?_
 have q:bL O.heap E (eC d):=I
 refine e<|iV aa fun G U a j J=> ?_
 have a:bL U.heap G (eC d):=J
 have i:=Wk.B j.md q
 refine aw<|A _ _<|aj fun _ C=>p (fa ym aa)<|p (ld bR aa<|i.bB 0)<|p (fa yo aa)<|p (ld bR aa<|a.bB 0)<|p (dR aa aa)<|p mv<|gs (t:=10) aa (fun V=> ?_) fun h=>absurd aa h
 refine pg aa aa aa (fa Iq aa)<|pg aa aa aa (ld bA aa<|i.bB 1)<|pg aa aa aa (fa Ir aa)<|pg aa aa aa (ld bA aa<|a.bB 1)<|pg aa aa aa (bH aa aa)<|p (bw aa)<|p mv<|gs (t:=17) aa (fun Y=> ?_) fun h=>absurd aa h
 refine pg aa aa aa (fa rI aa)<|pg aa aa aa (ld bA aa<|i.bB 2)<|pg aa aa aa (fa yq aa)<|pg aa aa aa (ld bA aa<|a.bB 2)<|pg aa aa aa (bH aa aa)<|p (bw aa)<|p mv<|gs (t:=24) aa (fun Z=> ?_) fun h=>absurd aa h
 refine pg aa aa aa (fa qB aa)<|pg aa aa aa (ld bA aa<|i.bB 3)<|pg aa aa aa (fa yr aa)<|pg aa aa aa (ld bA aa<|a.bB 3)<|pg aa aa aa (bH aa aa)<|p (bw aa)<|p mv<|gs (t:=31) aa (fun ab=> ?_) fun h=>absurd aa h
 exact pg aa aa aa (fa rJ aa)<|pg aa aa aa (ld bA aa<|i.bB 4)<|pg aa aa aa (fa rK aa)<|pg aa aa aa (ld bA aa<|a.bB 4)<|pg aa aa aa (bH aa aa)<|p (bw aa)<|p aB<|nl<|tn<|C _ _<|rt<|f1 aa aa<|⟨congrArg bQ (decide_eq_true aa),M.md.trans j.md⟩
theorem Ou (L:List cx) (a b:Option Addr) (c d:Nat) (w:World) (U:aI w.heap a (iX L)) (V:aI w.heap b (iX L)) (aF:L.length≤1048576):
 bh ay 14 (ba [.slice a L.length c,.slice b L.length d]) w (fun v w'=>v= .bool true∧Wk w w'):=by
 refine enter func14 aa ntmps14 aa<|aj fun _ Z=>aw<|Z _ _<|sq fun _ ae=>aj fun _ ah=>ak (.slice a L.length c)<|p (bF tN aa aa)<|ak (.slice b L.length d)<|p (bF Y3 aa aa)<|p (cX aa aa)<|aE<|ah _ _<|cd aa (fun h=>absurd h fun h=>h aa) fun aD=>aM<|tn<|ae _ _<|sq fun _ ai=>aj fun _ al=>ak (.slice a L.length c)<|p (bF tN aa aa)<|p mv<|aE<|al _ _<|aJ<|lp (fun O E A=> ∃ (i:Nat),(i≤L.length)∧(Wk w A)∧(E 0= .slice a L.length c)∧(E 1= .slice b L.length d)∧(E 12=au (L.length))∧(E 13=au i)∧(L.length - i=O)) _ ⟨0,ab,(Md.refl _ _),aa,aa,aa,aa,aa⟩ ?_
 rintro O E A ⟨i,hi,C,av,ax,az,aA,rfl⟩
 refine fx 0 av<|fx 1 ax<|fx 12 az<|fx 13 aA<|aj fun _ am=>p (lt aa aa)<|aE<|am _ _<|sq fun _ an=>cd aa (fun ar=> ?_) fun ar=> ?_
 refine aM<|tn<|an _ _<|sq fun _ G=>aJ<|aj fun _ ao=>ak (au i)<|p (cH (au i) aa)<|aE<|ao _ _<|sq fun _ ac=> ?_
 obtain ⟨x,Y⟩:∃ x,L[i]? =some x:=⟨_,List.getElem?_eq_getElem ab⟩
 have q:(fun w'=>Wk A w') A.drew:=(Md.refl _ _).drew
 refine bJ (fun w'=>Wk A w') aa wide q<|bC 0 aa (.slice a L.length c) q<|bC 1 aa (au i) q<|aH 2 aa (fun _ _=>a7 xY aa aa ab<|aI.ok ((U.wk C).wk q)<|uQ ab) q<|aH 3 aa (fun w' I=>cT qk aa (aa) fun j M=>e9 (f:=eC) (m:=5) (fun _=>rfl) ((U.wk C).wk I) Y j M) q<|bC 4 aa (.slice b L.length d) q<|bC 5 aa (au i) q<|aH 6 aa (fun _ _=>a7 S6 aa aa ab<|aI.ok ((V.wk C).wk q)<|uQ ab) q<|aH 7 aa (fun w' I=>cT sP aa (aa) fun j M=>e9 (f:=eC) (m:=5) (fun _=>rfl) ((V.wk C).wk I) Y j M) q<|he 8 aa ag<|cl Pq (VC x A.drew) aa fun v24 aC aq=> ?_
 obtain ⟨rfl,ap⟩:=aq
 have J:(fun w'=>Wk A w') aC:=q.trans ap
 refine ⟨J,?_⟩
 exact aH 9 aa (fun _ _=>no aa) J<|hn ag<|tn<|ac _ _<|cf (aa)<|aM<|bn<|tn<|G _ _<|rg aa<|p (ad aa aa<|bT ab)<|p mv<|aE<|⟨_,ab,i+1,ab,(C.trans J),aa,aa,aa,aa,aa⟩
 exact ext<|te _<|te _<|be<|tn<|ai _ _<|aj fun _ G=>p aB<|aE<|G _ _<|rt<|f1 aa aa<|⟨aa,C⟩
theorem KM (a t:Tx) (w:World) (U:a.length≤1048576) (Y:t.length≤1048576):
 bh ay 11 (ba [str a,str t]) w (fun v w'=>(match lr a t with | none=>v= .tuple #[.pointer none,.pointer none,.bool true] | some T=> ∃ B tb E C A fb V ve,v= .tuple #[aQ tb,aQ A,.bool true]∧gp w' B tb E T.1 T.2∧eR T.1 T.2∧fX w' C A fb V ve T.1 T.2)∧Wk w w'):=by
 refine enter func11 aa ntmps11 aa<|aj fun _ ab=>p aB<|p aB<|aw<|ab _ _<|sq fun _ ac=>rg aa<|ak (str a)<|ak (str t)<|e<|cl F6 (LU a t w U Y) aa fun aX av ap=> ?_
 obtain ⟨⟨aO,aR,aS,aT,rfl,i⟩,hE14⟩:=ap
 have aL:=hE14.size
 refine p mv<|p (xt aa aa)<|p (xt aa aa)<|e<|al p5 fun aC aZ aI O am=> ?_
 have aN:=O.size
 refine p aB<|e<|cW jT aa aa aa aa (am) (by simp) fun Z J aD=> ?_
 have I:Wk av Z:=O.md.trans' J fun q au h=>by omega
 have aJ:=J.size
 refine aE<|ac _ _<|aj fun _ ae=>ak (str a)<|ak (str t)<|e<|cl Qk (XI a t Z U Y) aa fun v20 ax aq=> ?_
 obtain ⟨⟨aP,aU,aV,aW,rfl,j⟩,hE20⟩:=aq
 have aM:=hE20.size
 refine p mv<|p (xt aa aa)<|p (xt aa aa)<|e<|al MA fun aA aY aH M ai=> ?_
 have aK:=M.size
 refine p aB<|e<|cW xL aa aa aa aa (ai) (by simp) fun az ao aF=> ?_
 have G:Wk ax az:=M.md.trans' ao fun q au h=>by omega
 refine aE<|ae _ _<|aj fun _ ag=>p mv<|p mv<|p mv<|p (lY vW aa aa)<|p mv<|p (lY DO aa aa)<|p (HA u4 aa aa)<|p aB<|p aB<|aw<|ag _ _<|rt<|f3 aa aa aa aa ?_
 refine ⟨?_,hE14.trans<|I.trans<|hE20.trans G⟩
 cases hx:lr a t with
 | none=>rw [hx] at i j; subst i j; rfl
 | some T=>
   rw [hx] at i j
   obtain ⟨B,tb,E,aG,rfl,ar,ah⟩:=i
   obtain ⟨C,A,fb,V,ve,rfl,an⟩:=j
   exact ⟨B,tb,E,C,A,fb,V,ve,aa,ar.wk (I.trans<|hE20.trans G),ah,an.wk G⟩
end Go.Hb.EP
end
section
set_option maxRecDepth 20000
set_option maxHeartbeats 1000000
namespace Go.Hb.ER
open Go.Hb.dT
open Go.Proofs
open Go.Hb.fq Go.Hb.fQ Go.Hb.gn Go.Hb.jF Go.Hb.iK Go.Hb.kH Go.Hb.iM Go.Hb.j4 Go.Hb.kK Go.Hb.k0 Go.Hb.lA Go.Hb.lR Go.Hb.mj Go.Hb.ml Go.Hb.jP Go.Hb.lC Go.Hb.mV Go.Hb.nE Go.Hb.ox Go.Hb.qg Go.Hb.pw Go.Hb.qe Go.Hb.rm Go.Hb.uw Go.Hb.xg Go.Hb.ux Go.Hb.Aa Go.Hb.EP
theorem YK {L:List cx} {most:Int} (h:most≤400):(ki L most).length≤400:=by
 unfold ki
 split
 · simp
 · rw [List.length_take]; omega
theorem YL (most:Int):ki [] most= []:=by unfold ki; split <;> simp
theorem VG (a t:Tx) (most:Int) (w:World) (aT:a.length≤1048576) (aZ:t.length≤1048576) (F:aR) (xs:List bD) (a1:lr a t=some (F,xs)):
 bh ay 3 (ba [str a,str t,.int .i64 most]) w (fun v w'=>v= .bool true∧Wk w w'):=by
 refine enter func3 aa ntmps3 aa<|aj fun _ ai=>aw<|ai _ _<|aj fun _ ao=>ak (str a)<|ak (str t)<|e<|cl kr (KM a t w aT aZ) aa fun a8 a2 aL=> ?_
 obtain ⟨ae,aG⟩:=aL
 rw [a1] at ae
 obtain ⟨B,tb,U,O,A,fb,V,ve,a0,J,j,G⟩:=ae
 subst a0
 have J:gp _ B tb U F xs:=J
 have j:eR F xs:=j
 have G:fX _ O A fb V ve F xs:=G
 refine p mv<|p (xt aa aa)<|p (xt aa aa)<|p (xt aa aa)<|p aB<|p aB<|p aB<|nl<|tn<|ao _ _<|sq fun _ ap=>aj fun _ aq=>p mv<|p (no aa)<|p mv<|gb (t:=20) aa (fun h=>absurd (h.symm.trans<|aa) eb) fun a6=>eg aa aa aa<|cl ks (Ml a2) aa fun v21 a3 aN=> ?_
 obtain ⟨rfl,E⟩:=aN
 have aH:=aG.trans E
 refine pg aa aa aa (no aa)<|p (bm aa)<|aE<|aq _ _<|cf (aa)<|aM<|tn<|ap _ _<|sq fun _ ar=>rg aa<|ak (.int .i64 most)<|p (mn aa aa)<|aw<|ar _ _<|sq fun _ au=>sq fun _ av=>rg aa<|p mv<|p (lY DO aa aa)<|aE<|av _ _<|cf (aa)<|aM<|tn<|au _ _<|sq fun _ ax=>aj fun _ az=>aw<|az _ _<|aJ<|lp (fun Y C M=> ∃ (i:Nat),(i≤xs.length+2)∧(Wk a3 M)∧(C 2= .int .i64 (min most 400))∧(C 7=aQ tb)∧(C 8=aQ A)∧(C 10= .int .i64 ((i:Int) - 1))∧(xs.length+2 - i=Y)) _ ⟨0,ab,(Md.refl _ _),aa,aa,aa,(by first | rfl | exact iv ab),aa⟩ ?_
 rintro Y C M ⟨i,hi,q,aW,aX,aY,aV,rfl⟩
 refine fx 2 aW<|fx 7 aX<|fx 8 aY<|fx 10 aV ?_
 have a7:=j.xl
 refine sq fun _ al=>aj fun _ am=>ak (.int .i64<|(i:Int) - 1)<|ak (aQ A)<|p (nc aa)<|p (fa vj aa)<|p (ld uD aa<|(G.wk<|E.trans q).DR.choose_spec.choose_spec)<|p (bF zq aa aa)<|p (le aa aa)<|aE<|am _ _<|cd aa (fun aU=> ?_) fun aU=> ?_
 refine aM<|tn<|al _ _<|sq fun _ I=>aJ<|aj fun _ an=>ak (aQ tb)<|ak (.int .i64<|(i:Int) - 1)<|ak (.int .i64<|min most 400)<|e<|cl AF (JA B tb U F xs ((i:Int) - 1) (min most 400) M (J.wk<|E.trans q) j ab) aa fun a9 a4 aO=> ?_
 obtain ⟨ag,Z⟩:=aO
 obtain ⟨aA,aD,rfl⟩:=cw ag
 refine ak (aQ A)<|ak (.int .i64<|(i:Int) - 1)<|ak (.int .i64<|min most 400)<|e<|cl uL (Xu O A fb V ve F xs ((i:Int) - 1) (min most 400) a4 (G.wk<|(E.trans q).trans Z) j ab) aa fun v49 a5 aP=> ?_
 obtain ⟨ah,ac⟩:=aP
 obtain ⟨aC,aF,rfl⟩:=cw ah
 refine e<|cl Pg (Ou (ki (ir F xs<|(i:Int) - 1)<|min most 400) aA aC aD aF a5 (aI.wk (qO ag) ac) (qO ah)<|by have :=YK (L:=ir F xs<|(i:Int) - 1) (show min most 400≤400 by omega); omega) aa fun bb bc aS=> ?_
 obtain ⟨rfl,aK⟩:=aS
 exact p (no aa)<|aE<|an _ _<|cf (aa)<|aM<|bn<|tn<|I _ _<|rg aa<|ak (.int .i64<|(i:Int) - 1)<|p (ad aa aa<|bT ab)<|aw<|⟨_,ab,i+1,ab,(q.trans<|Z.trans<|ac.trans aK),aa,aa,aa,(by first | rfl | exact iv ab),aa⟩
 exact ext<|te _<|te _<|be<|tn<|ax _ _<|aj fun _ I=>p aB<|aE<|I _ _<|rt<|f1 aa aa<|⟨aa,aH.trans q⟩
theorem VF (a t:Tx) (most:Int) (w:World) (ae:a.length≤1048576) (ag:t.length≤1048576) (ai:lr a t=none):
 bh ay 3 (ba [str a,str t,.int .i64 most]) w (fun v w'=>v= .bool true∧Wk w w'):=by
 refine enter func3 aa ntmps3 aa<|aj fun _ q=>aw<|q _ _<|aj fun _ A=>ak (str a)<|ak (str t)<|e<|cl kr (KM a t w ae ag) aa fun al am Y=> ?_
 obtain ⟨i,M⟩:=Y
 rw [ai] at i
 have ah:al=_:=i
 subst ah
 refine p mv<|p (xt aa aa)<|p (xt aa aa)<|p (xt aa aa)<|p aB<|p aB<|p aB<|nl<|tn<|A _ _<|sq fun _ C=>aj fun _ E=>p mv<|p (no aa)<|p mv<|gb (t:=20) aa (fun h=>absurd (h.symm.trans<|aa) eb) fun ar=>eg aa aa aa<|cl ks (Ml am) aa fun v21 an Z=> ?_
 obtain ⟨rfl,U⟩:=Z
 have O:=M.trans U
 refine pg aa aa aa (no aa)<|p (bm aa)<|aE<|E _ _<|cf (aa)<|aM<|tn<|C _ _<|sq fun _ G=>rg aa<|ak (.int .i64 most)<|p (mn aa aa)<|aw<|G _ _<|sq fun _ ao=>sq fun _ I=>rg aa<|p mv<|p (lY DO aa aa)<|aE<|I _ _<|ct (aa)<|aj fun _ J=>p mv<|p mv<|e<|cl AF (VD 0 (min most 400) an ab) aa fun v30 au ac=> ?_
 obtain ⟨j,V⟩:=ac
 rw [YL] at j
 obtain ⟨ap,aq,rfl⟩:=cw j
 exact p (bF tN aa aa)<|p (bH aa aa)<|aw<|J _ _<|rt<|tr<|f1 aa aa<|⟨aa,O.trans V⟩
theorem VH (a t:Tx) (most:Int) (w:World) (i:a.length≤1048576) (j:t.length≤1048576):bh ay 3 [str a,str t,.int .i64 most].toArray w (fun v w'=>v= .bool true∧Wk w w'):=by
 cases hx:lr a t with
 | none=>exact VF a t most w i j hx
 | some Y=>obtain ⟨F,xs⟩:=Y; exact VG a t most w i j F xs hx
end Go.Hb.ER
end
