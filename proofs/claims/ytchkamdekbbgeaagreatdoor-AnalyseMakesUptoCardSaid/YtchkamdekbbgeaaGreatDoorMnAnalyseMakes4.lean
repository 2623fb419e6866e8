/-
  Walks and plain laws that the law rests on, laid together. No conditions but those that each theorem names.
-/
import Derived.Test.YtchkamdekbbgeaaGreatDoorMnAnalyseMakes3
set_option linter.unusedVariables false
set_option maxRecDepth 20000
set_option maxHeartbeats 1000000
open Array renaming getElem?_eq_some_iff→bY
open Bool renaming eq_iff_iff→p8,noConfusion→dv
open Classical renaming not_not→mI
open Go.Proofs.Tryz renaming prog→ao
open Go.Value renaming bool→bU,int→fG,slice→bE,tuple→jY
open Go.Value.slice renaming injEq→l8
open Go.World renaming ownsRow→bq,ownsRow_nil→dS
open List renaming append_assoc→dZ,append_nil→ep,count_eq_zero→qg,count_le_length→sU,count_pos_iff→yf,drop_drop→yg,drop_eq_nil_of_le→lC,drop_succ_cons→uS,drop_take→yh,drop_zero→uT,eq_nil_of_length_eq_zero→gx,flatMap_append→qi,flatMap_singleton→ri,getD_cons_zero→mJ,getD_eq_getElem?_getD→cR,getElem?_eq_getElem→bW,idxOf_lt_length_iff→uV,length→mL,length_append→bK,length_cons→bX,length_drop→gH,length_map→e8,length_nil→fZ,length_replicate→nE,length_singleton→iR,length_take→ee,map_append→iw,map_take→JK,mem_append→js,mem_singleton→iS,replicate→jG,take→rl,take_of_length_le→e9,take_succ_cons→sZ,take_zero→ph,toArray→ba
open Nat renaming add_le_add_left→JY,le_refl→cz,le_trans→ea,lt_or_ge→jh,zero_add→fQ
open UInt8 renaming toNat_inj→rr,toNat_lt→jH
open Go.Proofs.Tryz
open Go.Hb.dF Go.Proofs Go.Hb.fj Go.Hb.et

namespace Go.Hb
theorem Qh {kind:Nat} {s:List UInt8} (h:kind=1∧s.length=1∧iq (s.getD 0 0)=true):eJ kind s=(s.getD 0 0).toNat:=by unfold eJ; rw [if_pos h.1,if_pos h.2]
theorem Qi {kind:Nat} {s:List UInt8} (h:kind=2∧s.length=2∧iq (s.getD 0 0)=true∧iq (s.getD 1 0)=true):eJ kind s=256 *(s.getD 0 0).toNat+(s.getD 1 0).toNat:=by unfold eJ; rw [if_neg ab,if_pos h.1,if_pos h.2]
theorem Qj {kind:Nat} {s:List UInt8} (h:kind=3):eJ kind s=(fC s 65535).1:=by unfold eJ; rw [if_neg ab,if_neg ab]
theorem Qg {kind:Nat} {s:List UInt8} (h:kind=1∨kind=2) (h1:¬(kind=1∧s.length=1∧iq (s.getD 0 0)=true)) (h2:¬(kind=2∧s.length=2∧iq (s.getD 0 0)=true∧iq (s.getD 1 0)=true)):eJ kind s=0:=by
 unfold eJ
 rcases h with h | h
 · rw [if_pos h,if_neg (fun h3=>h1 ⟨h,h3⟩)]
 · rw [if_neg ab,if_pos h,if_neg (fun h3=>h2 ⟨h,h3⟩)]
theorem RN {c:UInt8} {l:List UInt8} (h:0 < l.count c):¬ew c l < 0:=by
 intro h1
 exact F9 h1<|uV.2<|yf.1 h
theorem UA (n:Nat) (x:List UInt8):jG n (str x)=(jG n x).map str:=by rw [List.map_replicate]
theorem HG {a:List (List UInt8)} {m:Nat} {x:List UInt8} (h:0 < m):((a++jG m []).map str).set a.length (str x)=((a++ [x])++jG (m - 1) []).map str:=by
 obtain ⟨m,rfl⟩:∃ k,m=k+1:=⟨m - 1,ab⟩
 rw [← List.map_set,List.set_append_right _ _ (cz _),Nat.sub_self,List.replicate_succ,List.set_cons_zero,Nat.add_sub_cancel,dZ]; rfl
theorem PT {kind:Nat} {ps:List (List UInt8)} {i:Nat} (h:i < ps.length) (h1:¬∃ x∈ps.take i,eJ kind x=0) (h2:eJ kind (ps.getD i [])≠0):¬∃ x∈ps.take (i+1),eJ kind x=0:=by
 rw [kX ps i [] h]
 rintro ⟨x,a,h3⟩
 rcases js.1 a with a | a
 · exact h1 ⟨x,a,h3⟩
 · rw [iS] at a; subst a; exact h2 h3
theorem FJ {α:Type} {l:List α} {i:Nat} {d:α} (h:i < l.length):l.getD i d∈l:=by
 rw [cR,bW h]; exact List.getElem_mem h
theorem E6 (kind:Nat) (s:List UInt8) (w:World) (hk:kind=1∨kind=2∨kind=3) (hs:s.length≤1048576):
 bf ao 238 (ba [aj kind,str s]) w (fun v w'=>v=aX (eJ kind s)∧Wk w w'):=by
 refine enter func238 aa ntmps238 aa<|ak fun ah=>ay<|ah<|az fun ai=>aB ?_
 refine e6 (fun C ae=> ∃ (I:Bool),(I=decide (kind=1∧s.length=1∧iq (s.getD 0 0)=true))∧(Wk w ae)∧(C 0=aj kind)∧(C 1=str s)∧(C 7= .bool I)) ?_ ?_
 refine rg aa<|au (aj kind)<|p (cw aa aa)<|p mv<|gs (t:=10) aa (fun aD=> ?_) fun aD=> ?_
 refine aY aa (aJ (str s) aa)<|aY aa (dB u9 aa aa)<|aY aa (cw aa aa)<|p (bR aa)<|p mv<|gs (t:=15) aa (fun aF=> ?_) fun aF=> ?_
 refine aY aa (aJ (str s) aa)<|aY aa (ng 0 u9 aa aa ab)<|eg aa aa aa<|cl y6 (Bj (s.getD 0 0) _) aa fun aS aV aq=> ?_
 obtain ⟨rfl,am⟩:=aq
 exact p (bR aa)<|p aE<|nl<|tn<|⟨iq (s.getD 0 0),(by rw [p8,decide_eq_true_iff]; exact ⟨fun h=>⟨ab,ab,h⟩,fun h=>h.2.2⟩),am,aa,aa,aa⟩
 exact aT aa<|aT aa<|aT aa<|p (bI aa)<|p aE<|nl<|tn<|⟨false,((decide_eq_false fun h=>by omega).symm),(Md.refl _ _),aa,aa,aa⟩
 exact aT aa<|aT aa<|aT aa<|p (bI aa)<|p mv<|aT aa<|aT aa<|aT aa<|p (bI aa)<|p aE<|nl<|tn<|⟨false,((decide_eq_false fun h=>by omega).symm),(Md.refl _ _),aa,aa,aa⟩
 rintro C ae ⟨I,ac,c,aK,aL,aM⟩
 refine fx 0 aK<|fx 1 aL<|fx 7 aM<|cb aa (fun O=> ?_) fun O=> ?_
 have V:kind=1∧s.length=1∧iq (s.getD 0 0)=true :=of_decide_eq_true<|ac ▸ O
 exact ak fun q=>au (str s)<|p (ng 0 u9 aa aa ab)<|p (nQ xJ uC aa<|sI<|by have :=jH (s.getD 0 0); omega)<|ay<|q<|rt<|br<|tr<|bc aa<|⟨by rw [Qh V]; rfl,c⟩
 have V:¬(kind=1∧s.length=1∧iq (s.getD 0 0)=true):=of_decide_eq_false<|ac ▸ O
 refine e6 (fun E wB=> ∃ (J:Bool),(J=decide (kind=2∧s.length=2∧iq (s.getD 0 0)=true∧iq (s.getD 1 0)=true))∧(Wk w wB)∧(E 0=aj kind)∧(E 1=str s)∧(E 23= .bool J)) ?_ ?_
 refine rg aa<|au (aj kind)<|p (cw aa aa)<|p mv<|gs (t:=26) aa (fun aG=> ?_) fun aG=> ?_
 refine aY aa (aJ (str s) aa)<|aY aa (dB u9 aa aa)<|aY aa (cw aa aa)<|p (bR aa)<|p mv<|gs (t:=31) aa (fun aI=> ?_) fun aI=> ?_
 refine aY aa (aJ (str s) aa)<|aY aa (ng 0 u9 aa aa ab)<|eg aa aa aa<|cl y6 (Bj (s.getD 0 0) _) aa fun aU aW av=> ?_
 obtain ⟨rfl,Z⟩:=av
 refine p (bR aa)<|p mv<|gb (t:=36) aa (fun A=> ?_) fun A=> ?_
 refine aY aa (aJ (str s) aa)<|aY aa (ng 1 u9 aa aa ab)<|eg aa aa aa<|cl y6 (Bj (s.getD 1 0) _) aa fun v39 aZ ax=> ?_
 obtain ⟨rfl,an⟩:=ax
 exact p (bR aa)<|p aE<|nl<|tn<|⟨iq (s.getD 1 0),(by rw [p8,decide_eq_true_iff]; exact ⟨fun h=>⟨ab,ab,A,h⟩,fun h=>h.2.2.2⟩),(Md.trans c<|Md.trans Z an),aa,aa,aa⟩
 exact aT aa<|aT aa<|aT aa<|p (bI aa)<|p aE<|nl<|tn<|⟨false,((decide_eq_false fun h=>by rw [h.2.2.1] at A; cases A).symm),(Md.trans c Z),aa,aa,aa⟩
 exact aT aa<|aT aa<|aT aa<|p (bI aa)<|p mv<|aT aa<|aT aa<|aT aa<|p (bI aa)<|p aE<|nl<|tn<|⟨false,((decide_eq_false fun h=>by omega).symm),c,aa,aa,aa⟩
 exact aT aa<|aT aa<|aT aa<|p (bI aa)<|p mv<|aT aa<|aT aa<|aT aa<|p (bI aa)<|p mv<|aT aa<|aT aa<|aT aa<|p (bI aa)<|p aE<|nl<|tn<|⟨false,((decide_eq_false fun h=>by omega).symm),c,aa,aa,aa⟩
 rintro E wB ⟨J,ad,c,aN,aO,aP⟩
 refine fx 0 aN<|fx 1 aO<|fx 23 aP<|cb aa (fun M=> ?_) fun M=> ?_
 have Y:kind=2∧s.length=2∧iq (s.getD 0 0)=true∧iq (s.getD 1 0)=true :=of_decide_eq_true<|ad ▸ M
 have g0:=jH<|s.getD 0 0
 have g1:=jH<|s.getD 1 0
 refine az fun q=> ?_
 have a:(fun w'=>Wk wB w') wB.drew:=(Md.refl _ _).drew
 exact bT (fun w'=>Wk wB w') aa wide a<|bQ 0 aa (str s) a<|aH 1 aa (fun _ _=>ng 0 u9 aa aa ab) a<|aH 2 aa (fun _ _=>nQ xJ uC aa<|sI ab) a<|aH 3 aa (fun _ _=>shl aa aa aw<|Vc g0) a<|bQ 4 aa (str s) a<|aH 5 aa (fun _ _=>ng 1 u9 aa aa ab) a<|aH 6 aa (fun _ _=>nQ xJ uC aa<|sI ab) a<|aH 7 aa (fun _ _=>C4 aa aa<|TI g0 g1) a<|aH 8 aa (fun _ _=>aE) a<|hn ag<|q<|rt<|br<|tr<|bc aa<|⟨by rw [Qi Y]; rfl,c.drew⟩
 have Y:¬(kind=2∧s.length=2∧iq (s.getD 0 0)=true∧iq (s.getD 1 0)=true):=of_decide_eq_false<|ad ▸ M
 refine ak fun q=>au (aj kind)<|p (cw aa aa)<|ay<|q<|cd aa (fun aC=> ?_) fun aC=> ?_
 refine ak fun G=>au (str s)<|e<|cl vF (xa s 65535 _ hs aw) aa fun v54 a0 aA=> ?_
 obtain ⟨rfl,ap⟩:=aA
 have aQ:=Tp s
 exact p mv<|p (xt aa aa)<|p (xt aa aa)<|p aE<|ay<|G<|az fun al=>rg aa<|p mv<|p (nQ xJ sE aa<|sI ab)<|ay<|al<|rt<|br<|tr<|bc aa<|⟨by rw [Qj ab]; rfl,Md.trans c ap⟩
 exact aR<|bn<|ai<|ak fun G=>ay<|G<|rt<|bc aa<|⟨by rw [Qg ab V Y]; rfl,c⟩
theorem TC (kind:Nat) (s:List UInt8) (w:World) (hk:kind=1∨kind=2∨kind=3) (hs:s.length≤1048576):
 bf ao 233 (ba [aj kind,str s]) w (fun v w'=>v= .tuple #[aX (iN kind s).1,aj ((iN kind s).2)]∧Wk w w'):=by
 refine enter func233 aa ntmps233 aa<|ak fun A=>p aE<|ay<|A<|az fun C=>az fun E=>rg aa<|au (aj kind)<|e<|cl Dz (Ge kind _) aa fun Y ac O=> ?_
 obtain ⟨rfl,q⟩:=O
 refine p (no aa)<|nl<|E<|cf (by rw [decide_eq_true ab]; rfl)<|aR<|C<|ak fun G=>au (aj kind)<|au (str s)<|e<|cl DA (E6 kind s _ hk hs) aa fun v12 Z M=> ?_
 obtain ⟨rfl,c⟩:=M
 refine ay<|G<|az fun I=>ak fun J=>p mv<|p (cw aa aa)<|nl<|J<|cd aa (fun V=> ?_) fun V=> ?_
 exact ak fun a=>p aE<|ay<|a<|rt<|tr<|f2 aa aa aa<|⟨by unfold iN; rw [if_pos (show eJ kind s=0 by omega)]; rfl,Md.trans q c⟩
 exact aR<|I<|ak fun a=>p mv<|p aE<|p aE<|nl<|a<|rt<|f2 aa aa aa<|⟨by unfold iN; rw [if_neg (show ¬eJ kind s=0 by omega)]; rfl,Md.trans q c⟩
theorem Of (s:List UInt8) (c:UInt8) (w:World):
 bf ao 298 (ba [str s,str [c]]) w (fun v w'=>v=aj (s.count c)∧Wk w w'):=by
 refine enter func298 aa ntmps298 aa<|ak fun a=>ay<|a<|az fun q=>ak fun A=>au (str [c])<|p (dB u9 aa aa)<|p (cw aa aa)<|nl<|A<|cd aa (fun h=>absurd h<|by simp) fun J=>aR<|q<|az fun G=>ak fun C=>au (str [c])<|p (dB u9 aa aa)<|p (cw aa aa)<|nl<|C<|cd aa (fun I=> ?_) fun h=>absurd aa h
 exact ak fun E=>au (str s)<|au (str [c])<|p (ng 0 u9 aa aa<|by simp)<|p (Ec (N0 s c _) aa)<|p aE<|nl<|E<|rt<|tr<|bc aa<|⟨aa,Md.refl _ _⟩
theorem QR (s:List UInt8) (w:World) (hs:s.length≤1048576):
 bf ao 280 (ba [str s,str [44],.int .i64 0,.int .i64 (-1)]) w (fun v w'=>bq w' w.heap.size 9 1 (v) (gP 44 [] s).length ((gP 44 [] s).map str)∧Wk w w'):=by
 have bi:=sU (a:=(44:UInt8)) (l:=s)
 have a3:=Bp 44 s []
 refine enter func280 aa ntmps280 aa<|ak fun ag=>ay<|ag<|az fun ax=>ak fun aA=>au (.int .i64<|-1)<|p (cw aa aa)<|nl<|aA<|cd aa (fun h=>absurd h aw) fun a9=>aR<|ax<|az fun aC=>ak fun aD=>au (str [44])<|p (jP aa aa)<|nl<|aD<|cd aa (fun h=>absurd h<|by simp) fun bb=> ?_
 refine aR<|aC<|az fun aF=>ak fun aH=>au (.int .i64<|-1)<|p (lt aa aa)<|nl<|aH<|cd aa (fun bg=> ?_) fun h=>absurd aw h
 refine rg aa<|au (str s)<|au (str [44])<|e<|cl Mx (Of s 44 _) aa fun v23 bo aP=> ?_
 obtain ⟨rfl,Z⟩:=aP
 refine p (bL ((s.count 44 +1:Nat):Int) aa aa<|bm ab ab)<|ay<|aF<|ak fun aI=>p mv<|au (str s)<|p (dB u9 aa aa)<|p (bL ((s.length+1:Nat):Int) aa aa<|bm ab ab)<|p (mn aa aa)<|ay<|aI<|ak fun aJ=>p mv<|e<|S9 (n:=s.count 44 +1) (zv:=str []) kW Xn aa (show fG .i64 (min ((s.count 44 +1:Nat):Int) ((s.length+1:Nat):Int))=_ from iv ab) (show fG .i64 (min ((s.count 44 +1:Nat):Int) ((s.length+1:Nat):Int))=_ from iv ab) ab (by unfold maxLen; omega) fun E bp a7 aO aV=> ?_
 have ac:=aV w.heap.size<|by have :=Z.size; omega
 rw [UA] at ac
 refine ay<|aJ<|ak fun ah=>p mv<|p (dt ((s.count 44:Nat):Int) aa aa<|bm ab ab)<|p aE<|nl<|ah<|ak fun ai=>ay<|ai<|az fun al=>aB<|lp (fun V q O=> ∃ (i:Nat) (A:List (List UInt8)) (r:List UInt8),(A.length=i)∧(r.count 44 +i=s.count 44∧r.length≤s.length)∧(A++gP 44 [] r=gP 44 [] s)∧(bq O w.heap.size 9 1 (.slice (some ⟨E,0,none⟩) (s.count 44 +1)<|s.count 44 +1) (s.count 44 +1)<|(A++jG (s.count 44 +1 - i) []).map str)∧(Wk w O)∧(q 0=str r)∧(q 1=str [44])∧(q 2= .int .i64 0)∧(q 3=aj (s.count 44))∧(q 9= .slice (some ⟨E,0,none⟩) (s.count 44 +1) (s.count 44 +1))∧(q 10=aj i)∧(r.length=V)) _ ⟨0,[],s,aa,(ab),aa,ac,(Md.trans Z aO.md),aa,aa,aa,aa,aa,aa,aa⟩ ?_
 rintro V q O ⟨i,A,r,hi,bk,hd,C,Y,aX,aY,a0,a1,a2,aZ,rfl⟩
 refine fx 0 aX<|fx 1 aY<|fx 2 a0<|fx 3 a1<|fx 9 a2<|fx 10 aZ ?_
 have bl:=sU (a:=(44:UInt8)) (l:=r)
 refine az fun am=>ak fun an=>au (aj i)<|au (aj<|s.count 44)<|p (lt aa aa)<|nl<|an<|cd aa (fun aS=> ?_) fun aS=> ?_
 refine aR<|am<|aB<|ak fun I=>au (str r)<|au (str [44])<|e<|cl My (RD r 44 _) aa fun v39 br aQ=> ?_
 obtain ⟨rfl,G⟩:=aQ
 refine ay<|I<|az fun J=>ak fun ap=>p mv<|p (lt aa aa)<|nl<|ap<|cd aa (fun h=>absurd h<|RN ab) fun aT=>aR<|J<|az fun aq=> ?_
 have ad:=r9 (c:=(44:UInt8)) (l:=r) aT
 have bj:[(44:UInt8)].length=1:=rfl
 refine rg aa<|au (.slice (some ⟨E,0,none⟩) (s.count 44 +1)<|s.count 44 +1)<|au (aj i)<|au (str r)<|p mv<|au (.int .i64 0)<|p (bL ((r.idxOf 44:Nat):Int) aa aa<|bm ab ab)<|p (su u9 aa aa ab)<|p (bd ec aa aa ab<|aG.ok ((a6<|a8 C G).2)<|db<|by rw [bK,nE]; omega)<|e<|sw (j:=i) (u:=str<|r.take<|r.idxOf 44) (a8 C G) oG aa aa aa ab ab fun a4 aM ae=> ?_
 have aK:Wk w a4:=Wk.own (Md.trans Y G) (a8 C G) aM<|cz _
 rw [← hi,HG ab,hi] at ae
 exact nl<|aq<|ak fun av=>au (str r)<|p mv<|au (str [44])<|p (dB u9 aa aa)<|p (bL ((r.idxOf 44 +1:Nat):Int) aa aa<|bm ab ab)<|p (oP u9 aa aa ab)<|ay<|av<|rg aa<|au (aj i)<|p (bL ((i+1:Nat):Int) aa aa<|bm ab ab)<|p aE<|nl<|bn<|tn<|⟨_,by rw [gH]; omega,i+1,A++ [r.take (r.idxOf 44)],r.drop (r.idxOf 44 +1),(by rw [bK,hi]; rfl),(by have :=OA ad.2; rw [gH]; omega),(by rw [dZ,← hd,HO 44 r [] ad.2]; rfl),(by rw [show s.count 44 +1 - (i+1)=s.count 44 +1 - i - 1 by omega]; exact ae),aK,aa,aa,aa,aa,aa,aa,aa⟩
 refine ext<|bh<|bh<|be<|al<|ak fun I=>au (.slice (some ⟨E,0,none⟩) (s.count 44 +1)<|s.count 44 +1)<|au (aj i)<|au (str r)<|p (bd ec aa aa ab<|aG.ok ((a6 C).2)<|db<|by rw [bK,nE]; omega)<|e<|sw (j:=i) (u:=str r) C oG aa aa aa ab ab fun a5 aN M=> ?_
 have aL:Wk w a5:=Wk.own Y C aN<|cz _
 rw [← hi,HG ab,hi] at M
 refine nl<|I<|ak fun J=>au (.slice (some ⟨E,0,none⟩) (s.count 44 +1)<|s.count 44 +1)<|au (aj i)<|p (bL ((i+1:Nat):Int) aa aa<|bm ab ab)<|p (ss ec aa aa ab)<|ay<|J<|rt<|bc aa ?_
 have aW:¬(44:UInt8)∈r:=fun h=>by have :=yf.2 h; omega
 have aU:A++ [r]=gP 44 [] s:=by rw [← hd,Vx 44 r [] aW]; rfl
 rw [show s.count 44 +1 - i - 1=0 by omega,List.replicate_zero,ep,aU] at M
 exact ⟨by rw [a3,show s.count 44 +1=i+1 by omega] at*; exact M,aL⟩
theorem VP (s:List UInt8) (w:World) (hs:s.length≤1048576):
 bf ao 264 (ba [str s,str [44]]) w (fun v w'=>bq w' w.heap.size 9 1 (v) (gP 44 [] s).length ((gP 44 [] s).map str)∧Wk w w'):=by
 exact enter func264 aa ntmps264 aa<|ak fun a=>ay<|a<|ak fun c=>au (str s)<|au (str [44])<|e<|cl Ml (QR s _ hs) aa fun A C q=>ay<|c<|rt<|bc aa<|q
theorem Ub (kind:Nat) (s:List UInt8) (w:World) (hk:kind=1∨kind=2∨kind=3) (hs:s.length≤1048576):
 bf ao 237 (ba [aj kind,str s]) w (fun v w'=>bq w' w.heap.size 9 1 (v) (eA kind s).length ((eA kind s).map str)∧Wk w w'):=by
 refine enter func237 aa ntmps237 aa<|ak fun Y=>ay<|Y<|az fun Z=>ak fun ac=>au (aj kind)<|p (cw aa aa)<|nl<|ac<|cd aa (fun av=> ?_) fun av=> ?_
 refine ak fun A=>au (str s)<|e<|cl Mj (VP s _ hs) aa fun v10 aO an=>ay<|A<|rt<|tr<|bc aa ?_
 unfold eA; rw [if_pos ab]; exact an
 refine aR<|Z<|ak fun A=>ay<|A<|az fun ad=>ak fun ae=>ay<|ae<|aB<|lp (fun J q I=> ∃ (i:Nat) (a:List (List UInt8)) (c:Value),(i≤s.length+kind∧a.length≤i)∧(a++chunks kind (s.drop i)=chunks kind s)∧(bq I w.heap.size 9 1 (c) (a).length<|(a).map str)∧(Wk w I)∧(q 0=aj kind)∧(q 1=str s)∧(q 5=c)∧(q 6=aj i)∧(s.length - i=J)) _ ⟨0,[],.slice none 0 0,(by simp),aa,(dS _ _ _ _),(Md.refl _ _),aa,aa,aa,aa,aa⟩ ?_
 rintro J q I ⟨i,a,c,hi,hd,G,M,aC,aD,aF,aH,rfl⟩
 refine fx 0 aC<|fx 1 aD<|fx 5 aF<|fx 6 aH<|az fun ag=>ak fun ah=>au (aj i)<|au (str s)<|p (dB u9 aa aa)<|p (lt aa aa)<|nl<|ah<|cd aa (fun aq=> ?_) fun aq=> ?_
 have ax:s.drop i≠[]:=fun h=>by have :=congrArg mL h; rw [gH,fZ] at this; omega
 refine aR<|ag<|az fun C=>aB<|rg aa<|au (c)<|au (str s)<|au (aj i)<|au (aj i)<|au (aj kind)<|p (bL ((i+kind:Nat):Int) aa aa<|bm ab ab)<|au (str s)<|p (dB u9 aa aa)<|p (mn aa aa)<|p (uv u9 aa aa aa ab)<|e<|lK kW aa aa fun aK aJ aL E ai=> ?_
 have O:Wk w aJ:=Md.trans M E.md
 refine e<|ap kW (a8 G E.md) aa (by have :=O.size; omega) aa (aG.fV ai) (aa) (aa) ab ab fun aI aP V am aN aM=> ?_
 have al:=Wk.own O (a8 G E.md) am<|cz _
 rw [Nf] at V
 have aA:=A4 V
 exact p aE<|nl<|bn<|C<|rg aa<|au (aj i)<|au (aj kind)<|p (bL ((i+kind:Nat):Int) aa aa<|bm ab ab)<|p aE<|nl<|tn<|⟨_,ab,i+kind,a++ [(s.drop i).take kind],aI,(by rw [bK,iR]; omega),(by rw [← hd,zi (k:=kind) ab ax,dZ,yg]; rfl),aA,al,aa,aa,aa,aa,aa⟩
 refine ext<|bh<|bh<|be<|ad<|ak fun C=>au (c)<|p (cj (c) aa)<|nl<|C<|rt<|bc aa ?_
 have aw:a=eA kind s:=by unfold eA; rw [if_neg ab,← hd,lC ab,zj,ep]
 exact ⟨by rw [← aw]; exact G,M⟩
theorem FF (kind:Nat) (s:List UInt8) (w:World) (hk:kind=1∨kind=2∨kind=3) (hs:s.length≤1048576):
 bf ao 200 (ba [aj kind,str s]) w (fun v w'=>(∃ a,v= .tuple #[a,aj ((eY kind s).2)]∧bq w' w.heap.size 95 1 a (eY kind s).1.length ((eY kind s).1.map aX))∧Wk w w'):=by
 refine enter func200 aa ntmps200 aa<|ak fun aD=>p aE<|ay<|aD<|az fun aK=>az fun aL=>rg aa<|au (aj kind)<|e<|cl Dz (Ge kind _) aa fun v11 bB a0=> ?_
 obtain ⟨rfl,aq⟩:=a0
 refine p (no aa)<|nl<|aL<|cf (by rw [decide_eq_true ab]; rfl)<|aR<|aK<|az fun aM=>az fun aN=>rg aa<|au (str s)<|p (jP aa aa)<|nl<|aN<|cd aa (fun C=> ?_) fun C=> ?_
 exact ak fun ag=>p aE<|ay<|ag<|rt<|tr<|f2 aa aa aa<|⟨⟨.slice none 0 0,by unfold eY; rw [if_pos C]; rfl,by unfold eY; rw [if_pos C]; exact dS _ _ _ _⟩,aq⟩
 refine aR<|aM<|ak fun ag=>ay<|ag<|az fun aO=>ak fun aP=>au (aj kind)<|au (str s)<|e<|cl Mb (Ub kind s _ hk hs) aa fun v17 J a1=> ?_
 obtain ⟨ax,aV⟩:=a1
 obtain ⟨aS,aT,rfl⟩:=cT ax
 have aw:=(a6 ax).2
 have bz:=T9 (kind:=kind) (s:=s) ab
 have V:Wk w J:=Md.trans aq aV
 refine p (bP iQ aa aa)<|p mv<|nl<|aP<|aB<|lp (fun an A am=> ∃ (i:Nat) (O:Value),(i≤(eA kind s).length)∧(¬∃ x∈(eA kind s).take i,eJ kind x=0)∧(bq am J.heap.size 95 1 O (((eA kind s).take i).map<|eJ kind).length<|(((eA kind s).take i).map<|eJ kind).map aX)∧(Wk J am)∧(A 0=aj kind)∧(A 1=str s)∧(A 6=O)∧(A 17= .slice aS (eA kind s).length aT)∧(A 18=aj ((eA kind s).length))∧(A 19=aj i)∧((eA kind s).length - i=an)) _ ⟨0,.slice none 0 0,ab,(by rintro ⟨x,bp,_⟩; simp at bp),(dS _ _ _ _),(Md.refl _ _),aa,aa,aa,aa,aa,aa,aa⟩ ?_
 rintro an A am ⟨i,O,hi,G,I,q,bg,bi,bm,bj,bk,bl,rfl⟩
 refine fx 0 bg<|fx 1 bi<|fx 6 bm<|fx 17 bj<|fx 18 bk<|fx 19 bl ?_
 have bx:(((eA kind s).take i).map<|eJ kind).length≤i:=by rw [e8,ee]; omega
 refine ak fun aQ=>p (lt aa aa)<|nl<|aQ<|az fun aF=>cd aa (fun a5=> ?_) fun a5=> ?_
 refine aR<|aF<|az fun ac=>aB<|ak fun ae=>p (bd ec aa aa ab<|aG.ok (aw.wk q)<|db ab)<|p (ld cH aa<|dz.get (i:=i) (aw.wk q) ab)<|ay<|ae<|ak fun E=>au (aj kind)<|p mv<|e<|cl DA (E6 kind ((eA kind s).getD i []) _ hk<|by have :=Ua (kind:=kind) ab (FJ (d:= []) (show i < (eA kind s).length by omega)); omega) aa fun v25 bC a3=> ?_
 obtain ⟨rfl,Y⟩:=a3
 refine ay<|E<|az fun aH=>ak fun aI=>p mv<|p (cw aa aa)<|nl<|aI<|cd aa (fun a7=> ?_) fun a7=> ?_
 refine ak fun aJ=>p aE<|ay<|aJ<|rt<|tr<|br<|tr<|tr<|br<|tr<|f2 aa aa aa ?_
 have c:eY kind s=([],31):=by unfold eY; rw [if_neg C,if_pos ⟨_,FJ (d:= []) (show i < (eA kind s).length by omega),ab⟩]
 exact ⟨⟨.slice none 0 0,by rw [c]; rfl,by rw [c]; exact dS _ _ _ _⟩,Md.trans V<|Md.trans q Y⟩
 refine aR<|aH<|rg aa<|au (O)<|p mv<|e<|lK xv aa aa fun bu bs bv ai aU=> ?_
 have av:Wk J bs:=Md.trans (Md.trans q Y) ai.md
 refine e<|ap xv (a8 (a8 I Y) ai.md) aa (by have :=av.size; omega) aa (aG.fV aU) (aa) (aa) ab ab fun v31 bt bb aZ bA bw=> ?_
 have aW:=Wk.own av (a8 (a8 I Y) ai.md) aZ<|cz _
 have bc:bq bt J.heap.size 95 1 v31 (((eA kind s).take<|i+1).map<|eJ kind).length ((((eA kind s).take<|i+1).map<|eJ kind).map aX):=by
  rw [kX _ i [] ab,iw,bK,iw]; exact bb
 exact p aE<|nl<|bn<|ac<|rg aa<|p (ad aa aa<|cC ab)<|p mv<|nl<|tn<|⟨_,ab,i+1,v31,ab,(PT ab G ab),bc,aW,aa,aa,aa,aa,aa,aa,aa⟩
 refine ext<|bh<|bh<|be<|aO<|az fun ac=>az fun ae=> ?_
 obtain ⟨M,ah,rfl⟩:=cT I
 have bo:(((eA kind s).take i).map<|eJ kind).length=(eA kind s).length:=by rw [e8,ee]; omega
 have Z:(eA kind s).take i=(eA kind s):=e9 ab
 have a9:M=none→(((eA kind s).take i).map<|eJ kind).length=0:=fun h=>by obtain ⟨a2,c2,aC,_,_,h3⟩:=Rd.kF I; simp only [l8] at aC; exact h3<|aC.1 ▸ h
 refine rg aa<|au (.slice M (((eA kind s).take i).map<|eJ kind).length ah)<|p (bP n4 aa aa)<|p (gt aa aa)<|nl<|ae<|cd aa (fun al=> ?_) fun al=> ?_
 refine ak fun E=>p aE<|ay<|E<|rt<|tr<|f2 aa aa aa ?_
 rw [Z] at G bo
 have c:eY kind s=([],32):=by unfold eY; rw [if_neg C,if_neg G,if_pos (by rw [Z,e8] at al; omega)]
 exact ⟨⟨.slice none 0 0,by rw [c]; rfl,by rw [c]; exact dS _ _ _ _⟩,Md.trans V q⟩
 refine aR<|ac<|ak fun E=>au (.slice M (((eA kind s).take i).map<|eJ kind).length ah)<|e<|cl Du (xc (((eA kind s).take i).map<|eJ kind) M ah _ (a6 I).2 a9<|by rw [e8,ee] at*; omega) aa fun v37 bD a4=> ?_
 obtain ⟨aA,aY⟩:=a4
 refine p aE<|ay<|E<|rt<|f2 aa aa aa ?_
 rw [Z] at G aA
 have c:eY kind s=(kT ((eA kind s).map<|eJ kind),0):=by unfold eY; rw [if_neg C,if_neg G,if_neg (by rw [Z,e8] at al; omega)]
 exact ⟨⟨v37,by rw [c]; rfl,by rw [c]; exact e5 aA<|by have :=V.size; have :=q.size; omega⟩,Md.trans V<|Md.trans q aY⟩
theorem Ad (b:UInt8) (w:World):
 bf ao 191 (ba [.int .u8 b.toNat]) w (fun v w'=>v= .bool (qH b)∧Wk w w'):=by
 refine enter func191 aa ntmps191 aa<|ak fun c=>ay<|c<|ak fun a=>au (.int .u8 b.toNat)<|p (cw aa aa)<|p mv<|gs (t:=5) aa (fun q=> ?_) fun q=> ?_
 exact aT aa<|aT aa<|p (bR aa)<|ay<|a<|rt<|bc aa<|⟨by show bU true =_; rw [FH,decide_eq_true (.inl ab)],Md.refl _ _⟩
 exact aY aa (aJ (.int .u8 b.toNat) aa)<|aY aa (cw aa aa)<|p (bI aa)<|ay<|a<|rt<|bc aa<|⟨by show bU (decide ((b.toNat:Int)=9))=_; rw [FH]; exact congrArg bU (decide_eq_decide.2 ab),Md.refl _ _⟩
theorem PZ (l:List UInt8) (w:World) (bp:l.length≤1048576):
 bf ao 126 (ba [str l]) w (fun v w'=>bq w' w.heap.size 9 1 v (dJ [] l).length ((dJ [] l).map str)∧Wk w w'):=by
 refine enter func126 aa ntmps126 aa<|ak fun aD=>ay<|aD<|ak fun aF=>p aE<|nl<|aF<|ak fun aI=>ay<|aI<|az fun aK=>ak fun aL=>au (str l)<|p (dB u9 aa aa)<|p mv<|nl<|aL<|aB<|lp (fun aA J aw=> ∃ (i:Nat) (a:Int) (M:List UInt8) (c:List (List UInt8)) (v:Value),(i≤l.length)∧(km l i a M)∧(c++dJ M (l.drop i)=(dJ [] l))∧(Wk w aw)∧(bq aw w.heap.size 9 1 v (c).length<|(c).map str)∧(J 0=str l)∧(J 3=v)∧(J 4= .int .i64 a)∧(J 7= .int .i64 l.length)∧(J 8= .int .i64 i)∧(l.length - i=aA)) _ ⟨0,-1,[],[],.slice none 0 0,ab,km.no,aa,(Md.refl _ _),(dS _ _ _ _),aa,aa,aa,aa,aa,aa⟩ ?_
 rintro aA J aw ⟨i,a,M,c,v,hi,G,hd,Y,ah,a5,a6,a7,a9,bb,rfl⟩
 refine fx 0 a5<|fx 3 a6<|fx 4 a7<|fx 7 a9<|fx 8 bb ?_
 have bl:c.length≤l.length+1:=by have h1:=congrArg mL hd; have h2:=zU l []; rw [bK] at h1; omega
 refine ak fun aM=>p (lt aa aa)<|nl<|aM<|az fun aN=>cd aa (fun a0=> ?_) fun a0=> ?_
 refine aR<|aN<|az fun q=>aB<|ak fun al=>au (.int .i64 i)<|p (cj (.int .i64 i) aa)<|nl<|al<|aB<|ak fun I=>au (str l)<|au (.int .i64 i)<|p (j8 u9 aa aa ab)<|e<|cl yU (Ad (l.getD i 0) _) aa fun bu bd aW=> ?_
 obtain ⟨rfl,aC⟩:=aW
 have Z:Wk w bd:=Md.trans Y aC
 have br:=Z.size
 have ai:=a8 ah aC
 refine p mv<|gb (t:=16) aa (fun C=> ?_) fun C=> ?_
 refine aY aa (aJ (.int .i64 a) aa)<|aY aa (ge aa aa)<|p (bR aa)<|ay<|I<|cd aa (fun aX=> ?_) fun aX=> ?_
 obtain ⟨aH,V,av⟩:=G.pos ab
 refine ak fun E=>au (v)<|au (str l)<|au (.int .i64 a)<|au (.int .i64 i)<|p (uv u9 aa aa aa ab)<|e<|lK kW aa aa fun bg bv bj ae aO=>e<|ap kW (a8 ai ae.md) aa (by have :=ae.size; omega) aa (aG.fV aO) (aa) (aa) ab ab fun v26 bw a1 aU bs bm=> ?_
 have aQ:=Wk.own (Md.trans Z ae.md) (a8 ai ae.md) aU<|cz _
 have a2:=A4 a1
 exact ay<|E<|rg aa<|p aE<|nl<|bn<|bn<|q<|rg aa<|p (ad aa aa<|cC ab)<|p mv<|nl<|tn<|⟨_,ab,i+1,-1,[],c++ [(l.take i).drop a.toNat],v26,ab,km.no,(by rw [drop_cons 0 ab,Qr C av,V] at hd; rw [dZ]; exact hd),aQ,a2,aa,aa,aa,aa,aa,aa⟩
 refine ak fun E=>au (str l)<|au (.int .i64 i)<|p (j8 u9 aa aa ab)<|e<|cl yU (Ad (l.getD i 0) _) aa fun v31 ax am=> ?_
 obtain ⟨rfl,O⟩:=am
 have ac:Wk w ax:=Md.trans Z O
 have aj:=a8 ai O
 refine p (no aa)<|p mv<|gb (t:=33) aa (fun A=> ?_) fun A=> ?_
 refine aY aa (aJ (.int .i64 a) aa)<|aY aa (lt aa aa)<|p (bR aa)<|ay<|E<|cd aa (fun an=> ?_) fun an=> ?_
 refine rg aa<|au (.int .i64 i)<|p (cj (.int .i64 i) aa)<|nl<|bn<|bn<|q<|rg aa<|p (ad aa aa<|cC ab)<|p mv<|nl<|tn ?_
 rw [C] at A; cases A
 refine aR<|bn<|bn<|q<|rg aa<|p (ad aa aa<|cC ab)<|p mv<|nl<|tn ?_
 rw [C] at A; cases A
 exact aT aa<|aT aa<|p (bI aa)<|ay<|E<|cf aa<|aR<|bn<|bn<|q<|rg aa<|p (ad aa aa<|cC ab)<|p mv<|nl<|tn<|⟨_,ab,i+1,a,M,c,v,ab,(by obtain ⟨h1,h2⟩:=G.neg ab; subst h1 h2; exact km.no),(by obtain ⟨h1,h2⟩:=G.neg ab; subst h2; rw [drop_cons 0 ab,Qq C] at hd; exact hd),ac,aj,aa,aa,aa,aa,aa,aa⟩
 refine aT aa<|aT aa<|p (bI aa)<|ay<|I<|cf aa<|az fun E=>rg aa<|au (str l)<|au (.int .i64 i)<|p (j8 u9 aa aa ab)<|e<|cl yU (Ad (l.getD i 0) _) aa fun v31 ax am=> ?_
 obtain ⟨rfl,O⟩:=am
 have ac:Wk w ax:=Md.trans Z O
 have aj:=a8 ai O
 refine p (no aa)<|p mv<|gb (t:=33) aa (fun A=> ?_) fun A=> ?_
 refine aY aa (aJ (.int .i64 a) aa)<|aY aa (lt aa aa)<|p (bR aa)<|ay<|E<|cd aa (fun an=> ?_) fun an=> ?_
 exact rg aa<|au (.int .i64 i)<|p (cj (.int .i64 i) aa)<|nl<|bn<|bn<|q<|rg aa<|p (ad aa aa<|cC ab)<|p mv<|nl<|tn<|⟨_,ab,i+1,i,[l.getD i 0],c,v,ab,(km.begin ab),(by obtain ⟨h1,h2⟩:=G.neg ab; subst h2; rw [drop_cons 0 ab,Ff C] at hd; exact hd),ac,aj,aa,aa,aa,aa,aa,aa⟩
 exact aR<|bn<|bn<|q<|rg aa<|p (ad aa aa<|cC ab)<|p mv<|nl<|tn<|⟨_,ab,i+1,a,M++ [l.getD i 0],c,v,ab,(G.more ab ab),(by rw [drop_cons 0 ab,Ff C] at hd; exact hd),ac,aj,aa,aa,aa,aa,aa,aa⟩
 refine aT aa<|aT aa<|p (bI aa)<|ay<|E<|cf aa<|aR<|bn<|bn<|q<|rg aa<|p (ad aa aa<|cC ab)<|p mv<|nl<|tn ?_
 rw [C] at A; cases A
 refine ext<|bh<|bh<|be<|aK<|az fun q=>ak fun al=>au (.int .i64 a)<|p (ge aa aa)<|nl<|al<|cd aa (fun aZ=> ?_) fun aZ=> ?_
 obtain ⟨aH,V,av⟩:=G.pos ab
 refine rg aa<|au (v)<|au (str l)<|au (.int .i64 a)<|p (oP u9 aa aa ab)<|e<|lK kW aa aa fun bi bx bk ag aP=>e<|ap kW (a8 ah ag.md) aa (by have :=ag.size; have :=Y.size; omega) aa (aG.fV aP) (aa) (aa) ab ab fun v46 bz a3 aV bt bo=> ?_
 have aS:=Wk.own (Md.trans Y ag.md) (a8 ah ag.md) aV<|cz _
 have a4:=A4 a3
 refine ay<|q<|ak fun I=>p mv<|p aE<|nl<|I<|rt<|bc aa ?_
 have aq:c++ [l.drop a.toNat]=(dJ [] l):=by rw [← hd,show l.drop i= [] from lC ab,Qs av,V,e9 ab]
 exact ⟨by rw [← aq]; exact a4,aS⟩
 obtain ⟨aH,V⟩:=G.neg ab
 refine aR<|q<|ak fun I=>au (v)<|p (cj (v) aa)<|nl<|I<|rt<|bc aa ?_
 have aq:c=(dJ [] l):=by rw [← hd,lC ab,V,Qt,ep]
 exact ⟨by rw [← aq]; exact ah,Y⟩
theorem Rt {l:List Tx} {x:Tx} :∀ {i:Nat},i < l.length→(∀ j,j < i→l.getD j []≠x)→l.getD i []=x→l.idxOf x=i:=by
 induction l with
 | nil=>intro i h; simp at h
 | cons a l C=>
   intro i hi A c
   cases i with
   | zero=>simp only [mJ] at c; rw [c,List.idxOf_cons_self]
   | succ i=>
     have q:=A 0 ab
     simp only [mJ] at q
     rw [List.idxOf_cons,show (a==x)=false from by simpa using q,cond_false,C (i:=i) (by simpa using hi) (fun j E=>by have :=A (j+1) ab; simpa using this) (by simpa using c)]
theorem PO {a b:List Tx} (h:a.length≠b.length):a≠b:=fun h2=>h<|by rw [h2]
theorem QU {a b:List Tx} {i:Nat} (h:a.getD i []≠b.getD i []):a≠b:=fun h2=>h<|by rw [h2]
theorem QS {a b:List Tx} (c:a.length=b.length) (h:∀ i,i < a.length→a.getD i []=b.getD i []):a=b:=by
 apply List.ext_getElem c
 intro i h1 h2
 have :=h i h1
 rw [cR,cR,bW h1,bW h2] at this
 exact this
theorem V1 {s:Tx} {i:Nat} (h:i < s.length):(s.drop i).take 1= [s.getD i 0]:=by
 rw [drop_cons 0 h]; rfl
theorem Ir (b:UInt8):oS [b]=iM b:=by
 unfold oS gU
 cases h:iM b <;> simp [h]
theorem HM {s:Tx} {i:Nat} (h:i < s.length):(s.take<|i+1).drop i= [s.getD i 0]:=by
 rw [yh,show i+1 - i=1 from by omega,V1 h]
theorem EZ {s:Tx} (h:s= []∨gU s=false):gX s=21:=if_pos h
theorem P8 {s:Tx} (h:s≠[]) (h1:gU s=true) (h2:32 < s.length):gX s=22:=by unfold gX; rw [if_neg (by rw [h1]; simp [h]),if_pos h2]
theorem P9 {s:Tx} (h:s≠[]) (h1:gU s=true) (h2:¬32 < s.length):gX s=0:=by unfold gX; rw [if_neg (by rw [h1]; simp [h]),if_neg h2]
theorem T8 {s:Tx} (h:s= [48]):fW true s= .ok []:=by unfold fW; rw [if_pos ⟨rfl,h⟩]
theorem Ha {s:Tx} (h:s≠[48]):fW true s=fW false s:=by unfold fW; simp [h]
theorem T3 {s:Tx} (h:(bF s).2.2.2≠0):fW false s= .error (bF s).2.2.2:=by unfold fW; rw [if_neg (fun h2=>by cases h2.1),if_pos h]
theorem T4 {s:Tx} (h:(bF s).2.2.2=0) (h1:(bF s).2.2.1=true):fW false s= .error 114:=by unfold fW; rw [if_neg (fun h2=>by cases h2.1),if_neg (fun h2=>h2 h),if_pos h1]
theorem T5 {s:Tx} (h:(bF s).2.2.2=0) (h1:(bF s).2.2.1=false) (h2:gX (bF s).1≠0):fW false s= .error (gX (bF s).1):=by unfold fW; rw [if_neg (fun h2=>by cases h2.1),if_neg (fun h2=>h2 h),if_neg (by rw [h1]; simp),if_pos h2]
theorem T6 {s:Tx} (h:(bF s).2.2.2=0) (h1:(bF s).2.2.1=false) (h2:gX (bF s).1=0):fW false s= .ok (bF s).1:=by unfold fW; rw [if_neg (fun h2=>by cases h2.1),if_neg (fun h2=>h2 h),if_neg (by rw [h1]; simp),if_neg (fun h3=>h3 h2)]
theorem wY {s:Tx} {most:Int} (h:(fC s most).2=0):eD s most= .ok (fC s most).1:=by unfold eD; rw [if_neg (fun h2=>h2 h)]
theorem wX {s:Tx} {most:Int} (h:(fC s most).2≠0):eD s most= .error 13∧(fC s most).2=13:=by
 refine ⟨by unfold eD; rw [if_pos h],?_⟩
 rcases GV s most with h1 | ⟨h1,_⟩
 · rw [h1]
 · rw [h1] at h; exact absurd rfl h
theorem F2 (l:List Tx) (a:Option Addr) (c:Nat) (x:Tx) (w:World) (I:dz w.heap a l) (aw:l.length≤1048576):
 bf ao 192 (ba [.slice a l.length c,str x]) w (fun v w'=>v= .int .i64 (if x∈l then (l.idxOf x:Nat) else -1:Int)∧w'=w):=by
 refine enter func192 aa ntmps192 aa<|ak fun O=>ay<|O<|az fun V=>ak fun Y=>au (.slice a l.length c)<|p (bP iQ aa aa)<|p mv<|nl<|Y<|aB<|lp (fun G q M=> ∃ (i:Nat),(i≤l.length)∧(∀ j,j < i→l.getD j []≠x)∧(M=w)∧(q 0= .slice a l.length c)∧(q 1=str x)∧(q 7=aj (l.length))∧(q 8=aj i)∧(l.length - i=G)) _ ⟨0,ab,(fun j J=>by omega),aa,aa,aa,aa,aa,aa⟩ ?_
 rintro G q M ⟨i,hi,E,ai,am,an,ap,aq,rfl⟩
 refine fx 0 am<|fx 1 an<|fx 7 ap<|fx 8 aq ?_
 subst ai
 refine ak fun Z=>p (lt aa aa)<|nl<|Z<|az fun ac=>cd aa (fun al=> ?_) fun al=> ?_
 refine aR<|ac<|az fun C=>aB<|ak fun ae=>au (aj i)<|p (cj (aj i) aa)<|nl<|ae<|ak fun ag=>au (str x)<|au (.slice a l.length c)<|au (aj i)<|p (bd ec aa aa ab<|aG.ok (I)<|db ab)<|p (ld cH aa<|dz.get (i:=i) I ab)<|p (jP aa aa)<|nl<|ag<|cd aa (fun A=> ?_) fun A=> ?_
 exact ak fun ah=>au (aj i)<|p (cj (aj i) aa)<|nl<|ah<|rt<|br<|tr<|tr<|br<|tr<|bc aa<|⟨by rw [if_pos (by rw [A]; exact eZ ab),Rt ab E A.symm]; rfl,aa⟩
 exact aR<|bn<|C<|rg aa<|p (ad aa aa<|cC ab)<|p mv<|nl<|tn<|⟨_,ab,i+1,ab,(fun j J=>by rcases jh j i with h | h <;> first | exact E j h | (rw [show j=i by omega]; exact fun h2=>A h2.symm)),aa,aa,aa,aa,aa,aa⟩
 exact ext<|bh<|bh<|be<|V<|ak fun C=>p aE<|nl<|C<|rt<|bc aa<|⟨by rw [if_neg (fun h=>by obtain ⟨j,J,av⟩:=oN [] h; exact E j ab av)]; rfl,aa⟩
theorem PQ (l m:List Tx) (A E:Nat) (a b:Option Addr) (c d:Nat) (w:World) (Z:dz w.heap a l) (ac:dz w.heap b m) (aN:l.length=A) (aO:m.length=E) (aL:A≤1048576):
 bf ao 234 (ba [.slice a A c,.slice b E d]) w (fun v w'=>v= .bool (decide (l=m))∧Wk w w'):=by
 refine enter func234 aa ntmps234 aa<|ak fun ai=>ay<|ai<|az fun an=>ak fun ap=>au (.slice a A c)<|p (bP iQ aa aa)<|au (.slice b E d)<|p (bP iQ aa aa)<|p (gE aa aa)<|nl<|ap<|cd aa (fun aA=> ?_) fun aA=> ?_
 exact ak fun J=>ay<|J<|rt<|tr<|bc aa<|⟨by show bU false =_; rw [decide_eq_false (PO ab)],Md.refl _ _⟩
 have aD:l.length=m.length:=ab
 refine aR<|an<|az fun J=>ak fun aq=>au (.slice a A c)<|p (bP iQ aa aa)<|p mv<|nl<|aq<|aB<|lp (fun Y I G=> ∃ (i:Nat),(i≤A)∧(∀ j,j < i→l.getD j []=m.getD j [])∧(Wk w G)∧(I 0= .slice a A c)∧(I 1= .slice b E d)∧(I 12=aj A)∧(I 13=aj i)∧(A - i=Y)) _ ⟨0,ab,(fun j ae=>by omega),(Md.refl _ _),aa,aa,aa,aa,aa⟩ ?_
 rintro Y I G ⟨i,hi,ah,C,aF,aI,aJ,aK,rfl⟩
 refine fx 0 aF<|fx 1 aI<|fx 12 aJ<|fx 13 aK<|ak fun av=>p (lt aa aa)<|nl<|av<|az fun aw=>cd aa (fun aC=> ?_) fun aC=> ?_
 refine aR<|aw<|az fun M=>aB<|ak fun ax=>au (aj i)<|p (cj (aj i) aa)<|nl<|ax<|az fun al=> ?_
 have q:(fun w'=>Wk G w') G.drew:=(Md.refl _ _).drew
 refine bT (fun w'=>Wk G w') aa wide q<|bQ 0 aa (.slice a A c) q<|bQ 1 aa (aj i) q<|aH 2 aa (fun _ _=>bd ec aa aa ab<|aG.ok (Z.wk C)<|db ab) q<|aH 3 aa (fun w' O=>ld cH aa<|Wk.aM O<|dz.get (i:=i) (Z.wk C) ab) q<|bQ 4 aa (.slice b E d) q<|bQ 5 aa (aj i) q<|aH 6 aa (fun _ _=>bd ec aa aa ab<|aG.ok (ac.wk C)<|db ab) q<|aH 7 aa (fun w' O=>ld cH aa<|Wk.aM O<|dz.get (i:=i) (ac.wk C) ab) q<|aH 8 aa (fun _ _=>qO aa aa) q<|hn ag<|al<|cd aa (fun V=> ?_) fun V=> ?_
 exact ak fun am=>ay<|am<|rt<|br<|tr<|tr<|br<|tr<|bc aa<|⟨by show bU false =_; rw [decide_eq_false (QU V)],C.drew⟩
 exact aR<|bn<|M<|rg aa<|p (ad aa aa<|cC ab)<|p mv<|nl<|tn<|⟨_,ab,i+1,ab,(fun j ae=>by rcases jh j i with h | h <;> first | exact ah j h | (rw [show j=i by omega]; exact mI.1 V)),C.drew,aa,aa,aa,aa,aa⟩
 exact ext<|bh<|bh<|be<|J<|ak fun M=>p aE<|nl<|M<|rt<|bc aa<|⟨by show bU true =_; rw [decide_eq_true (QS aD fun j ae=>ah j ab)],C⟩
theorem nW (rb ln:Nat) (e:Int) (w:World) (A:Hb.aM w.heap rb 2=some (.int .i64 (ln:Nat))):
 eG ao 135 (ba [.pointer (some ⟨rb,0,none⟩),.int .i64 e]) w (fun v w'=>v=jY #[]∧e=0∧w'=w) (fun c w'=>c=ij 45 ln e∧e≠0∧w'=w):=by
 refine jw func135 aa ntmps135 aa<|sq fun C a=>rg aa<|p (aJ (.int .i64 e) aa)<|p (gE aa aa)<|nl<|tn<|a _ _<|cd aa (fun q=> ?_) fun q=> ?_
 exact rg aa<|p (aJ (.pointer<|some ⟨rb,0,none⟩) aa)<|p (nc aa)<|p (fa tS aa)<|p (ld bO aa<|A)<|p (aJ (.int .i64 e) aa)<|p (di (ps:= [(0,.int .i64 1),(1,.int .i64 (ln:Nat)),(2,.int .i64 e)]) (L:= [.int .i64 1,.int .i64 (ln:Nat),.int .i64 e]) sv aa<|aa)<|p (S8 AH aa)<|Ud aa fun G E=>⟨aa,ab,aa⟩
 refine aR<|iW<|f0 aa ?_
 exact ⟨aa,ab,aa⟩
theorem gD (rb ln:Nat) (b:Bool) (e:Int) (w:World) (E:Hb.aM w.heap rb 2=some (.int .i64 (ln:Nat))) (he:e≠0):
 eG ao 75 (ba [.pointer (some ⟨rb,0,none⟩),.bool b,.int .i64 e]) w (fun v w'=>v=jY #[]∧b=true∧w'=w) (fun c w'=>c=ij 45 ln e∧b=false∧w'=w):=by
 refine jw func75 aa ntmps75 aa<|sq fun G A=>rg aa<|p (aJ (.bool b) aa)<|p (no aa)<|nl<|tn<|A _ _<|cb aa (fun a=> ?_) fun a=> ?_
 refine rg aa<|p (aJ (.pointer<|some ⟨rb,0,none⟩) aa)<|p (aJ (.int .i64 e) aa)<|eP aa (c7 nN (nW rb ln e w E) aa fun v10 J C=> ?_) fun c w' q M I=>⟨q.1,by simpa using a,q.2.2⟩
 exact absurd C.2.1 he
 refine aR<|iW<|f0 aa ?_
 exact ⟨aa,by simpa using a,aa⟩
theorem H3 (B:Nat) (H:cy) (F:aC) (R:gl) (n:Nat) (r:List Tx) (rest:List Rw) (ln:Nat) (seen:List Tx) (w:World) (c:cD w B H F R ((n,r)::rest) ln seen):
 bf ao 74 (ba [aU H.rb]) w (fun v w'=>(∃ R',cD w' B H F R' rest n seen)∧Tg w' B 9 r.length v (r.map str)∧Md (fun k=>k=H.rb) w w'):=by
 obtain ⟨vr,vs,vn⟩:=R
 obtain ⟨a,cp,aF⟩:=c.rws.slice
 obtain rfl :vr= .slice a (rest.length+1) cp:=aF
 obtain ⟨q,vs,rfl⟩:∃ q G,vs=q::G:=by
  cases vs with
  | nil=>exact absurd c.rt.1<|by simp
  | cons q G=>exact ⟨q,G,rfl⟩
 obtain ⟨C,aH⟩:=q
 obtain ⟨aD,Z⟩:=c.rt.2 0 (C,aH) (n,r) rfl rfl
 obtain rfl :C=n:=aD
 obtain ⟨am,an,rfl⟩:=Z.slice
 have ac:rest.length+1≤cp∧aG w.heap a (l1 ((C,.slice am r.length an)::vs)):=c.rws.cells
 have A:=c.cells
 have aL:H.rb < w.heap.size:=(bY.1 A).1
 refine enter func74 aa ntmps74 aa<|ak fun ad=>ay<|ad<|ak fun ae=>au (aU H.rb)<|p (nc aa)<|p (fa tR aa)<|p (ld rD aa<|(a7 A).trans aa)<|p (bd rW aa aa ab<|aG.ok (ac.2)<|xk<|by simp)<|p (cg vq aa (aa)<|xm (i:=0) ac.2 aa)<|e<|al IN fun aJ aN aK O aq=> ?_
 have aA:=O.md.aB A
 refine e<|cM Ek aa aa aa aa (aq) (by simp) fun aP I ap=> ?_
 have Y:=I.aB aA fun h=>by omega
 refine nl<|ae<|ak fun ag=>au (aU H.rb)<|au (aU H.rb)<|p (nc aa)<|p (fa tR aa)<|p (ld rD aa<|(a7 Y).trans aa)<|p (uu rW aa aa ab)<|p (nc aa)<|p (fa tR aa)<|e<|dy Ej aa aa (v:= .slice (fw a cp 1 2) rest.length<|cp - 1) aa Y (by show _ < 7; decide) fun aO J av=> ?_
 have V:=J.B ap fun h=>by omega
 refine nl<|ag<|ak fun ah=>au (aU H.rb)<|p (fa wm aa)<|p (ld bO aa<|(V.aM 0).trans aa)<|p (nc aa)<|p (fa tS aa)<|e<|dy jN aa aa (v:=aj C) aa av (by show _ < 7; decide) fun aI M ax=> ?_
 have az:=M.B V fun h=>by omega
 refine nl<|ah<|ak fun ai=>p (fa tT aa)<|p (ld qt aa<|(az.aM 1).trans aa)<|p aE<|nl<|ai<|rt<|bc aa ?_
 have E:Md (fun k=>k=H.rb) w aI:=(((O.md.mono fun _ _ h=>h.elim).trans' I fun k hk h=>by omega).trans' J fun _ _ h=>h).trans' M fun _ _ h=>h
 exact ⟨⟨⟨.slice (fw a cp 1 2) rest.length (cp - 1),vs,vn⟩,c.cY (R':=⟨.slice (fw a cp 1 2) rest.length (cp - 1),vs,vn⟩) E ax aa (c.rws.rU (m:=2)<|(Hy _).trans<|by have :=c.rt.1; simp at this; simp [this])<|hU.tl c.rt⟩,Z.md E (ic A aw),E⟩
theorem Am (B:Nat) (H:cy) (F:aC) (R:gl) (rows:List Rw) (ln:Nat) (seen:List Tx) (hd:List Tx) (al C:Nat) (G:Option Addr) (I:Nat) (w:World) (O:cD w B H F R rows ln seen) (hH:Tg w al 9 C (.slice G C I) (hd.map str)) (V:hd.length=C) (aX:C≤1000) (aK:∀ q∈rows,q.2.length≤70000):
 eG ao 197 (ba [.pointer (some ⟨H.rb,0,none⟩),.slice G C I]) w (fun v w'=> ∃ n r rest,rows=(n,r)::rest∧r.take hd.length=hd∧(∃ R',cD w' B H F R' rest n seen)∧Tg w' B 9 r.length v (r.map str)∧Md (fun k=>k=H.rb) w w') (fun c w'=>((rows= []∧c=ij 45 H.eof 116)∨(∃ n r rest,rows=(n,r)::rest∧r.take hd.length≠hd∧c=ij 45 n 116))∧Md (fun k=>k=H.rb) w w'):=by
 obtain ⟨a,cp,aL⟩:=O.rws.slice
 have ad:=O.cells
 have ae:=O.cells
 unfold uo at ad
 rw [aL] at ad
 refine jw func197 aa ntmps197 aa<|sq fun aS ax=>rg aa<|p aE<|nl<|tn<|ax _ _<|sq fun aT ay=>sq fun aU az=>rg aa<|p (aJ (.pointer<|some ⟨H.rb,0,none⟩) aa)<|p (nc aa)<|p (fa tR aa)<|p (ld rD aa<|(a7 ad).trans aa)<|p (bP xI aa aa)<|p (cw aa aa)<|nl<|tn<|az _ _<|cd aa (fun aj=> ?_) fun aj=> ?_
 obtain rfl :rows= []:=gx ab
 refine sq fun am Y=>rg aa<|p (aJ (.pointer<|some ⟨H.rb,0,none⟩) aa)<|p (aJ (.pointer<|some ⟨H.rb,0,none⟩) aa)<|p (nc aa)<|p (fa QE aa)<|p (ld bO aa<|(a7 ae).trans aa)<|p (nc aa)<|p (fa tS aa)<|e<|dy jN aa aa (v:= .int .i64 (H.eof:Nat)) aa ae (by show _ < 7; decide) fun aQ aA aq=>nl<|tn<|Y _ _<|rg aa<|p (aJ (.pointer<|some ⟨H.rb,0,none⟩) aa)<|eP aa (c7 nN (nW H.rb H.eof 116 aQ<|(a7 aq).trans aa) aa fun v20 aZ aB=> ?_) fun c w' A ak ah=>⟨.inl ⟨aa,A.1⟩,A.2.2 ▸ aA⟩
 exact absurd aB.2.1 aw
 obtain ⟨q,rest,rfl⟩:∃ q rest,rows=q::rest:=by
  cases rows with
  | nil=>exact absurd rfl aj
  | cons q rest=>exact ⟨q,rest,rfl⟩
 obtain ⟨n,r⟩:=q
 refine aR<|tn<|ay _ _<|sq fun am Y=>rg aa<|p (aJ (.pointer<|some ⟨H.rb,0,none⟩) aa)<|e<|cl DS (H3 B H F R n r rest ln seen _ O) aa fun v22 aN aD=> ?_
 obtain ⟨⟨ap,M⟩,hT,J⟩:=aD
 obtain ⟨ar,cr,rfl⟩:=hT.slice
 have aH:=hT.dG
 have aY:r.length≤70000:=aK (n,r)<|by simp
 have au:=hH.md J<|ic ae aw
 have av:=au.dG
 have aW:=M.ei
 refine p aE<|nl<|tn<|Y _ _<|sq fun aV ai=>rg aa<|p (aJ (.pointer<|some ⟨H.rb,0,none⟩) aa)<|p mv<|p (bP iQ aa aa)<|p (aJ (.slice G C I) aa)<|p (bP iQ aa aa)<|p (ge aa aa)<|p mv<|gs (t:=29) aa (fun aI=> ?_) fun aI=> ?_
 refine pg aa aa aa mv<|pg aa aa aa (aJ (.slice G C I) aa)<|pg aa aa aa (bP iQ aa aa)<|pg aa aa aa (ss ec aa aa ab)<|pg aa aa aa (aJ (.slice G C I) aa)<|eg aa aa aa<|cl Ma (PQ (r.take C) hd _ _ ar G cr I _ (by have :=aG.take aH.2 C; unfold dz; rw [JK]; exact this) av.2 (by rw [ee]; omega) V ab) aa fun v35 aO aF=> ?_
 obtain ⟨rfl,E⟩:=aF
 refine p (bR aa)<|eP aa (c7 gy (gD H.rb n _ 116 aO (by first | exact M.ei | exact Wk.aM E M.ei) aw) aa fun v37 aP ac=> ?_) fun c w' A ak ah=>⟨.inr ⟨n,r,rest,aa,(by rw [V]; first | exact of_decide_eq_false A.2.1 | exact fun h=>by have :=congrArg mL h; rw [ee] at this; omega),A.1⟩,by rw [A.2.2]; first | exact J.trans' E (fun _ _ h=>h.elim) | exact J⟩
 obtain ⟨rfl,ag,rfl⟩:=ac
 exact nl<|tn<|ai _ _<|sq fun an Z=>rg aa<|p mv<|p aE<|nl<|tn<|Z _ _<|rt<|iW<|f1 aa aa<|⟨n,r,rest,aa,(by rw [V]; exact of_decide_eq_true ag),⟨ap,M.wk E⟩,hT.wk E,J.trans' E fun _ _ h=>h.elim⟩
 refine sk aa aa aa aa<|sk aa aa aa aa<|sk aa aa aa aa<|sk aa aa aa aa<|sk aa aa aa aa<|sk aa aa aa aa<|p (bI aa)<|eP aa (c7 gy (gD H.rb n _ 116 aN (by first | exact M.ei | exact Wk.aM E M.ei) aw) aa fun v37 aP ac=> ?_) fun c w' A ak ah=>⟨.inr ⟨n,r,rest,aa,(by rw [V]; first | exact of_decide_eq_false A.2.1 | exact fun h=>by have :=congrArg mL h; rw [ee] at this; omega),A.1⟩,by rw [A.2.2]; first | exact J.trans' E (fun _ _ h=>h.elim) | exact J⟩
 obtain ⟨rfl,ag,rfl⟩:=ac
 exact nl<|tn<|ai _ _<|sq fun an Z=>rg aa<|p mv<|p aE<|nl<|tn<|Z _ _<|rt<|iW<|f1 aa aa<|absurd ag aw
theorem xf (rb ln:Nat) (s:Tx) (most:Int) (w:World) (O:Hb.aM w.heap rb 2=some (.int .i64 (ln:Nat))) (hs:s.length≤1048576) (hm: -9223372036854775808≤most∧most≤9223372036854775807):
 eG ao 196 (ba [.pointer (some ⟨rb,0,none⟩),str s,.int .i64 most]) w (fun v w'=> ∃ a,eD s most= .ok a∧v= .int .i64 (a:Nat)∧Wk w w') (fun c w'=> ∃ e,eD s most= .error e∧c=ij 45 ln e∧Wk w w'):=by
 refine jw func196 aa ntmps196 aa<|sq fun Z C=>rg aa<|p aE<|nl<|tn<|C _ _<|sq fun ab E=>rg aa<|p (aJ (str s) aa)<|p (aJ (.int .i64 most) aa)<|e<|cl vF (xa s most _ hs hm) aa fun v12 Y J=> ?_
 obtain ⟨rfl,A⟩:=J
 refine p mv<|p (xt aa aa)<|p (xt aa aa)<|p aE<|p aE<|nl<|tn<|E _ _<|sq fun ac G=>rg aa<|p (aJ (.pointer<|some ⟨rb,0,none⟩) aa)<|p mv<|eP aa (c7 nN (nW rb ln (fC s most).2 Y<|Wk.aM A O) aa fun v17 ag M=> ?_) fun c w' q ah ae=>⟨13,(wX q.2.1).1,(by rw [q.1,(wX q.2.1).2]; rfl),by rw [q.2.2]; exact A⟩
 obtain ⟨rfl,V,rfl⟩:=M
 exact nl<|tn<|G _ _<|sq fun ad I=>rg aa<|p mv<|p aE<|nl<|tn<|I _ _<|rt<|iW<|f1 aa aa<|⟨_,wY V,aa,A⟩
theorem A5 (rb ln:Nat) (s:Tx) (w:World) (ai:Hb.aM w.heap rb 2=some (.int .i64 (ln:Nat))) (hs:s.length≤1048576):
 eG ao 193 (ba [.pointer (some ⟨rb,0,none⟩),str s]) w (fun v w'=>v= .tuple #[]∧gU s=true∧Wk w w') (fun c w'=>c=ij 45 ln 21∧gU s=false∧Wk w w'):=by
 refine jw func193 aa ntmps193 aa<|sq fun ap O=>rg aa<|p (aJ (str s) aa)<|p (dB u9 aa aa)<|p mv<|nl<|tn<|O _ _<|aB<|lp (fun E a M=> ∃ (i:Nat),(i≤s.length)∧(∀ j,j < i→iM (s.getD j 0)=true)∧(Wk w M)∧(a 0= .pointer (some ⟨rb,0,none⟩))∧(a 1=str s)∧(a 6= .int .i64 (s.length:Nat))∧(a 7= .int .i64 (i:Nat))∧(s.length - i=E)) _ ⟨0,ab,(fun j G=>by omega),(Md.refl _ _),aa,aa,aa,aa,aa⟩ ?_
 rintro E a M ⟨i,hi,I,q,aj,ak,al,am,rfl⟩
 refine fx 0 aj<|fx 1 ak<|fx 6 al<|fx 7 am<|sq fun aq V=>rg aa<|p (lt aa aa)<|nl<|tn<|V _ _<|sq fun au Y=>cd aa (fun ah=> ?_) fun ah=> ?_
 refine aR<|tn<|Y _ _<|sq fun av Z=>aB<|sq fun ax ac=>rg aa<|p (aJ (.int .i64 (i:Nat)) aa)<|p (cj (.int .i64 (i:Nat)) aa)<|nl<|tn<|ac _ _<|rg aa<|p (aJ (.pointer<|some ⟨rb,0,none⟩) aa)<|p (aJ (str s) aa)<|p (aJ (.int .i64 (i:Nat)) aa)<|p (aJ (.int .i64 (i:Nat)) aa)<|p (bL ((i+1:Nat):Int) aa aa<|bm ab ab)<|p (uv u9 aa aa aa ab)<|e<|cl De (It ((s.take<|i+1).drop i) _<|by rw [gH,ee]; omega) aa fun az an ae=> ?_
 obtain ⟨rfl,A⟩:=ae
 refine eP aa (c7 gy (gD rb ln _ 21 an (Wk.aM (q.trans A) ai) aw) aa fun v17 aA ag=> ?_) fun c w' C aC ay=>⟨C.1,vC (i:=i) ab (by have h:=C.2.1; rw [HM (by omega :i < s.length),Ir] at h; exact h),by rw [C.2.2]; exact q.trans A⟩
 obtain ⟨rfl,J,rfl⟩:=ag
 rw [HM (by omega :i < s.length),Ir] at J
 exact nl<|bn<|tn<|Z _ _<|rg aa<|p (ad aa aa<|cC ab)<|p mv<|nl<|tn<|⟨_,ab,i+1,ab,(fun j G=>by rcases jh j i with h | h <;> first | exact I j h | (rw [show j=i by omega]; exact J)),(q.trans A),aa,aa,aa,aa,aa⟩
 refine ext<|te _<|te _<|be<|iW<|f0 aa ?_
 exact ⟨aa,vD (fun j G=>I j ab),q⟩
theorem Hk (rb ln:Nat) (s:Tx) (w:World) (C:Hb.aM w.heap rb 2=some (.int .i64 (ln:Nat))) (hs:s.length≤1048576):
 eG ao 235 (ba [.pointer (some ⟨rb,0,none⟩),str s]) w (fun v w'=>v=str s∧gX s=0∧Wk w w') (fun c w'=>c=ij 45 ln (gX s:Nat)∧gX s≠0∧Wk w w'):=by
 refine jw func235 aa ntmps235 aa<|sq fun ai M=>rg aa<|p aE<|nl<|tn<|M _ _<|sq fun aj O=>rg aa<|p (aJ (.pointer<|some ⟨rb,0,none⟩) aa)<|p (aJ (str s) aa)<|eP aa (c7 yV (A5 rb ln s w C hs) aa fun aq ah ae=> ?_) (fun c w' a J E=>by have h:gX s=21:=EZ (.inr a.2.1); exact ⟨by rw [h]; exact a.1,by rw [h]; decide,a.2.2⟩)
 obtain ⟨rfl,I,q⟩:=ae
 refine nl<|tn<|O _ _<|sq fun ak V=>rg aa<|p (aJ (.pointer<|some ⟨rb,0,none⟩) aa)<|p (aJ (str s) aa)<|p (qO aa aa)<|eP aa (c7 gy (gD rb ln _ 21 ah (Wk.aM q C) aw) aa fun v11 ag ac=> ?_) (fun c w' a J E=>by have h:gX s=21:=EZ (.inl<|mI.1<|of_decide_eq_false a.2.1); exact ⟨by rw [h]; exact a.1,by rw [h]; decide,by rw [a.2.2]; exact q⟩)
 obtain ⟨rfl,A,rfl⟩:=ac
 have A:s≠[]:=of_decide_eq_true A
 refine nl<|tn<|V _ _<|sq fun al Y=>rg aa<|p (aJ (.pointer<|some ⟨rb,0,none⟩) aa)<|p (aJ (str s) aa)<|p (dB u9 aa aa)<|p (le aa aa)<|eP aa (c7 gy (gD rb ln _ 22 ag (Wk.aM q C) aw) aa fun ap au ad=> ?_) (fun c w' a J E=>by have an:=of_decide_eq_false a.2.1; have h:gX s=22:=P8 A I ab; exact ⟨by rw [h]; exact a.1,by rw [h]; decide,by rw [a.2.2]; exact q⟩)
 obtain ⟨rfl,G,rfl⟩:=ad
 have G:=of_decide_eq_true G
 exact nl<|tn<|Y _ _<|sq fun am Z=>rg aa<|p (aJ (str s) aa)<|p (cj (str s) aa)<|nl<|tn<|Z _ _<|rt<|iW<|f1 aa aa<|⟨aa,P9 A I ab,q⟩
theorem Hc (rb ln:Nat) (s:Tx) (w:World) (G:Hb.aM w.heap rb 2=some (.int .i64 (ln:Nat))) (hs:s.length≤1048576):
 eG ao 198 (ba [.pointer (some ⟨rb,0,none⟩),str s]) w (fun v w'=> ∃ a,fW false s= .ok a∧v=str a∧Wk w w') (fun c w'=> ∃ e,fW false s= .error e∧c=ij 45 ln e∧Wk w w'):=by
 refine jw func198 aa ntmps198 aa<|sq fun am O=>rg aa<|p aE<|nl<|tn<|O _ _<|sq fun an V=>rg aa<|p (aJ (str s) aa)<|e<|cl yS (BQ s _ hs) aa fun v11 aj ad=> ?_
 obtain ⟨rfl,A⟩:=ad
 have av:=xQ s
 refine p mv<|p (xt aa aa)<|p (xt aa aa)<|p (xt aa aa)<|p (xt aa aa)<|p aE<|p aE<|p aE<|p aE<|nl<|tn<|V _ _<|sq fun ap Y=>rg aa<|p (aJ (.pointer<|some ⟨rb,0,none⟩) aa)<|p mv<|eP aa (c7 nN (nW rb ln ((bF s).2.2.2:Nat) aj<|Wk.aM A G) aa fun ax ak ae=> ?_) fun c w' q J I=>⟨_,T3 (by have :=q.2.1; omega),q.1,by rw [q.2.2]; exact A⟩
 obtain ⟨rfl,C,rfl⟩:=ae
 have C:(bF s).2.2.2=0:=ab
 refine nl<|tn<|Y _ _<|sq fun aq Z=>rg aa<|p (aJ (.pointer<|some ⟨rb,0,none⟩) aa)<|p mv<|p (no aa)<|eP aa (c7 gy (gD rb ln _ 114 ak (Wk.aM A G) aw) aa fun v22 al ag=> ?_) fun c w' q J I=>⟨_,T4 C (by simpa using q.2.1),q.1,by rw [q.2.2]; exact A⟩
 obtain ⟨rfl,E,rfl⟩:=ag
 have E:(bF s).2.2.1=false :=by simpa using E
 refine nl<|tn<|Z _ _<|sq fun au ac=>rg aa<|p (aJ (.pointer<|some ⟨rb,0,none⟩) aa)<|p mv<|eP aa (c7 Dy (Hk rb ln (bF s).1 al (Wk.aM A G) ab) aa fun v25 ay ah=> ?_) fun c w' q J I=>⟨_,T5 C E q.2.1,q.1,A.trans q.2.2⟩
 obtain ⟨rfl,ai,M⟩:=ah
 exact p aE<|nl<|tn<|ac _ _<|rt<|iW<|f1 aa aa<|⟨_,T6 C E ai,aa,A.trans M⟩
theorem G9 (rb ln:Nat) (s:Tx) (w:World) (Y:Hb.aM w.heap rb 2=some (.int .i64 (ln:Nat))) (hs:s.length≤1048576):
 eG ao 199 (ba [.pointer (some ⟨rb,0,none⟩),str s]) w (fun v w'=> ∃ a,fW true s= .ok a∧v=str a∧Wk w w') (fun c w'=> ∃ e,fW true s= .error e∧c=ij 45 ln e∧Wk w w'):=by
 refine jw func199 aa ntmps199 aa<|sq fun Z G=>rg aa<|p aE<|nl<|tn<|G _ _<|sq fun ab I=>sq fun ac J=>rg aa<|p (aJ (str s) aa)<|p (jP aa aa)<|nl<|tn<|J _ _<|cd aa (fun q=> ?_) fun q=> ?_
 exact sq fun C A=>rg aa<|p aE<|nl<|tn<|A _ _<|rt<|tr<|iW<|f1 aa aa<|⟨[],T8 q,aa,Md.refl _ _⟩
 refine aR<|tn<|I _ _<|sq fun C A=>rg aa<|p (aJ (.pointer<|some ⟨rb,0,none⟩) aa)<|p (aJ (str s) aa)<|eP aa (c7 Dp (Hc rb ln s w Y hs) aa fun v9 ae O=> ?_) fun c w' M ag ad=>by obtain ⟨e,he,h⟩:=M; exact ⟨e,by rw [Ha q]; exact he,h⟩
 obtain ⟨a,V,rfl,E⟩:=O
 exact p aE<|nl<|tn<|A _ _<|rt<|iW<|f1 aa aa<|⟨a,by rw [Ha q]; exact V,aa,E⟩
theorem QG {kind:Nat} {s:Tx} (h:(iN kind s).2=0):(iN kind s).1≠0:=by
 unfold iN at h ⊢
 split
 · rename_i a; rw [if_pos a] at h; cases h
 · rename_i a; exact a
theorem QJ {F:aC} {s:Tx} (h:(iN F.kind s).2≠0):iP F s= .error (iN F.kind s).2:=if_pos h
theorem QK {F:aC} {s:Tx} (h:(iN F.kind s).2=0) (h1:eu F (iN F.kind s).1=true):iP F s= .error 115:=by unfold iP; rw [if_neg (fun h2=>h2 h),if_pos h1]
theorem QL {F:aC} {s:Tx} (h:(iN F.kind s).2=0) (h1:eu F (iN F.kind s).1=false):iP F s= .ok (iN F.kind s).1:=by unfold iP; rw [if_neg (fun h2=>h2 h),if_neg (by rw [h1]; exact dv)]
theorem Vt {F:aC} {rows:List Rw} {ln e:Nat} {r:List Tx} (h:iP F (r.getD 1 [])= .error e):jV F rows ln r= .error (ln,e):=by unfold jV; rw [h]
theorem Vu {F:aC} {rows:List Rw} {ln x:Nat} {r:List Tx} (h:iP F (r.getD 1 [])= .ok x):jV F rows ln r= .ok ({F with sp:=F.sp.set (gi.idxOf<|r.getD 0 []) x},rows):=by unfold jV; rw [h]
def nX:List Tx:= [jR,j9,kA,kR,lf,iX,iZ,dA]
theorem G5 (hs:List Tx):ordered hs=true↔∀ k∈nX,k∉hs:=by
 unfold ordered
 rw [Bool.not_eq_true',List.any_eq_false]
 have hm:∀ k,k∈nX↔(k∈gi∨k=iX∨k=iZ∨k=dA):=by
  intro k
  simp only [nX,gi,List.mem_cons,List.not_mem_nil,or_false,or_assoc]
 constructor
 · intro h k hk a
   have :=h k a
   rw [decide_eq_true_iff] at this
   exact this<|(hm k).1 hk
 · intro h x c hd
   rw [decide_eq_true_iff] at hd
   exact h x ((hm x).2 hd) c
theorem U5 {F:aC} {rows:List Rw} {ln:Nat} {r:List Tx} (h:gU (r.getD 1 [])=false):mD F rows ln r= .error (ln,21):=if_pos h
theorem U6 {F:aC} {rows:List Rw} {ln:Nat} {r:List Tx} (h:gU (r.getD 1 [])=true):mD F rows ln r= .ok ({F with tx:=r.getD 1 []},rows):=if_neg<|by rw [h]; exact dv
theorem Wm {F:aC} {rows:List Rw} {ln:Nat} {r:List Tx} (h:(letE<|r.getD 1 []).2≠0):mE F rows ln r= .error (ln,(letE<|r.getD 1 []).2):=if_pos h
theorem Wn {F:aC} {rows:List Rw} {ln:Nat} {r:List Tx} (h:(letE<|r.getD 1 []).2=0):mE F rows ln r= .ok ({F with tr:=(letE<|r.getD 1 []).1},rows):=if_neg fun h2=>h2 h
theorem S1 {F:aC} {rows:List Rw} {ln e:Nat} {r:List Tx} (h:eD (r.getD 1 []) 64= .error e):kE F rows ln r= .error (ln,e):=by unfold kE; rw [h]
theorem S2 {F:aC} {rows:List Rw} {ln n:Nat} {r:List Tx} (h:eD (r.getD 1 []) 64= .ok n) (a:n=0):kE F rows ln r= .error (ln,13):=by unfold kE; rw [h]; exact if_pos a
theorem S3 {F:aC} {rows:List Rw} {ln n:Nat} {r:List Tx} (h:eD (r.getD 1 []) 64= .ok n) (a:n≠0):kE F rows ln r= .ok ({F with least:=n},rows):=by unfold kE; rw [h]; exact if_neg a
theorem Sa {F:aC} {seen:List Tx} {rows:List Rw} {ln:Nat} {r:List Tx} {k:Tx} (hk:k∈nX) (h:k∈seen):kB F seen rows ln r= .error (ln,113):=by
 unfold kB
 rw [if_pos]
 cases ho:ordered seen with
 | false =>rfl
 | true =>exact absurd h<|(G5 seen).1 ho k hk
theorem Sb {F:aC} {seen:List Tx} {rows:List Rw} {ln:Nat} {r:List Tx} (h:ordered seen=true) (a:kS (r.getD 1 [])=0):kB F seen rows ln r= .error (ln,114):=by unfold kB; rw [if_neg (by rw [h]; exact dv),if_pos a]
theorem Sc {F:aC} {seen:List Tx} {rows:List Rw} {ln:Nat} {r:List Tx} (h:ordered seen=true) (a:kS (r.getD 1 [])≠0):kB F seen rows ln r= .ok ({F with kind:=kS<|r.getD 1 []},rows):=by unfold kB; rw [if_neg (by rw [h]; exact dv),if_neg a]
def kinds:List Tx:= [As,Ap,Aq]
theorem R8 (s:Tx):((if s∈kinds then (kinds.idxOf s:Nat) else -1:Int))=(kS s:Nat) - 1:=by
 unfold kS kinds
 by_cases h1:s=As
 · subst h1; decide
 · by_cases h2:s=Ap
   · subst h2; decide
   · by_cases h3:s=Aq
     · subst h3; decide
     · rw [if_neg (by simp [h1,h2,h3]),if_neg h1,if_neg h2,if_neg h3]; rfl
theorem R9 (s:Tx):kS s≤3:=by
 unfold kS
 split
 · omega
 · split
   · omega
   · split <;> omega
theorem Ac (B:Nat) (H:cy) (F:aC) (V:eh) (R:gl) (rows:List Rw) (ln:Nat) (seen:List Tx) (s:Tx) (w:World) (G:c8 w B H.fb H.mc F V) (A:cD w B H F R rows ln seen) (hk:F.kind=1∨F.kind=2∨F.kind=3) (hs:s.length≤1048576):
 eG ao 195 (ba [.pointer (some ⟨H.rb,0,none⟩),str s]) w (fun v w'=> ∃ x,iP F s= .ok x∧x≠0∧v=aX x∧eu F x=false∧Wk w w') (fun c w'=> ∃ e,iP F s= .error e∧c=ij 45 ln (e:Nat)∧Wk w w'):=by
 obtain ⟨tf,ag,ah⟩:=A.tm
 refine jw func195 aa ntmps195 aa<|sq fun al J=>rg aa<|p aE<|nl<|tn<|J _ _<|sq fun am M=>rg aa<|p (aJ (.pointer<|some ⟨H.rb,0,none⟩) aa)<|p (nc aa)<|p (fa gu aa)<|p (ld eX aa<|(a7 A.cells).trans aa)<|p (nc aa)<|p (fa fU aa)<|p (fa rY aa)<|p (ld bO aa<|(a7 G.cells).trans aa)<|p (aJ (str s) aa)<|e<|cl L9 (TC F.kind s _ hk hs) aa fun v17 ai ac=> ?_
 obtain ⟨rfl,a⟩:=ac
 refine p mv<|p (xt aa aa)<|p (xt aa aa)<|p aE<|p aE<|nl<|tn<|M _ _<|sq fun an O=>rg aa<|p (aJ (.pointer<|some ⟨H.rb,0,none⟩) aa)<|p mv<|eP aa (c7 nN (nW H.rb ln ((iN F.kind s).2:Nat) ai<|Wk.aM a A.ei) aa fun v22 aj ad=> ?_) fun c w' q ak G=>⟨_,QJ (by have :=q.2.1; omega),q.1,by rw [q.2.2]; exact a⟩
 obtain ⟨rfl,E,rfl⟩:=ad
 have E:(iN F.kind s).2=0:=ab
 have I:=QG E
 refine nl<|tn<|O _ _<|sq fun ap Y=>rg aa<|p (aJ (.pointer<|some ⟨H.rb,0,none⟩) aa)<|p (aJ (.pointer<|some ⟨H.rb,0,none⟩) aa)<|p (nc aa)<|p (fa zY aa)<|p (ld ti aa<|Wk.aM a<|(a7 A.cells).trans aa)<|p mv<|p (lh qU mH qJ (ag.wk a) aa aa (⟨_,aa⟩)<|ah _ I)<|p (cw aa aa)<|eP aa (c7 gy (gD H.rb ln _ 115 aj (Wk.aM a A.ei) aw) aa fun v31 au ae=> ?_) fun c w' q ak G=>⟨115,QK E (by have h:=q.2.1; rw [Eu] at h; simpa using h),q.1,by rw [q.2.2]; exact a⟩
 obtain ⟨rfl,C,rfl⟩:=ae
 rw [Eu] at C
 have C:eu F (iN F.kind s).1=false :=by simpa using C
 exact nl<|tn<|Y _ _<|sq fun aq Z=>rg aa<|p mv<|p aE<|nl<|tn<|Z _ _<|rt<|iW<|f1 aa aa<|⟨_,QL E C,I,aa,C,a⟩
theorem uw (B:Nat) (H:cy) (F:aC) (rows:List Rw) (ln:Nat) (seen:List Tx) (r:List Tx) (aF:Nat) (ar:Option Addr) (cr:Nat) (w:World) (M:St w B H F rows ln seen) (ae:Tg w aF 9 r.length (.slice ar r.length cr) (r.map str)) (a5:r.length=2) (aV:∀ x∈r,x.length≤70000) (ax:r.getD 0 []∈gi) (aW:F.sp.getD (gi.idxOf<|r.getD 0 []) 0=0):
 eG ao 130 (ba [.pointer (some ⟨H.rb,0,none⟩),.slice ar r.length cr]) w (iG B H seen (jV F rows ln r) w) (iF B H (jV F rows ln r) w):=by
 obtain ⟨V,R,A,E,C⟩:=M
 have ap:=ae.dG
 have au:¬(H.rb=H.fb):=fun h=>by have h1:=E.cells; rw [h,A.cells] at h1; cases h1
 have a6:(r.getD 1 []).length≤70000:=aV _<|eZ ab
 have av:¬(bk ar=H.fb):=Tg.ui ae (db ab) A.cells aw
 obtain ⟨tf,ah,ay⟩:=E.tm
 obtain ⟨bb,a8,a9⟩:=E.sm
 have aq:gi.idxOf (r.getD 0 []) < 5:=uV.2 ax
 refine jw func130 aa ntmps130 aa<|sq fun a2 aL=>rg aa<|p (aJ (.pointer<|some ⟨H.rb,0,none⟩) aa)<|p (aJ (.slice ar r.length cr) aa)<|p (bd ec aa aa ab<|aG.ok (ap.2)<|db ab)<|p (ld cH aa<|dz.get (i:=1) ap.2 ab)<|eP aa (c7 yW (Ac B H F V R rows ln seen (r.getD 1 []) w A E C.kd ab) aa fun v9 bc J=> ?_) fun c w' aO bf A=>by obtain ⟨e,he,h,h2⟩:=aO; exact ⟨ln,e,Vt he,h,Wk.mw h2⟩
 obtain ⟨x,aY,aZ,rfl,aA,q⟩:=J
 have aK:=A.wk q
 have J:=E.wk q
 refine p aE<|nl<|tn<|aL _ _<|sq fun a3 aN=>rg aa<|p (aJ (.pointer<|some ⟨H.rb,0,none⟩) aa)<|p (nc aa)<|p (fa zY aa)<|p (ld ti aa<|Wk.aM q<|(a7 E.cells).trans aa)<|p mv<|p (lh qU mH qJ (ah.wk q) aa aa (⟨_,aa⟩) (show _=fG .i64 0 from (ay x aZ).trans<|by rw [aA]; rfl))<|p (bL ((1:Nat):Int) aa aa<|bm ab ab)<|e<|qV qU qJ (ah.wk q) aa aa aa (⟨_,aa⟩) fun G Y aP=> ?_
 have ak:=J.uh (F':= {F with sp:=F.sp.set (gi.idxOf<|r.getD 0 []) x}) Y aP rfl (H4 aA ay<|OP (by rw [A.jU]; exact aq) aW)
 have O:=aK.uh J Y
 have aT:=(ae.wk q).md Y fun k hk cur z aU=>by subst hk; exact (ah.wk q).nj aU
 have an:=aT.dG
 refine nl<|tn<|aN _ _ ?_
 have a:(fun w'=>Md (fun k=>k=H.fb) G w') G.drew:=(Md.refl _ _).drew
 refine bT (fun w'=>Md (fun k=>k=H.fb) G w') aa wide a<|hp 0 aa ag (fun _ _=>aJ (.pointer<|some ⟨H.rb,0,none⟩) aa) a<|hp 1 aa ag (fun _ _=>nc aa) a<|hp 2 aa ag (fun _ _=>fa gu aa) a<|hp 3 aa ag (fun w' M=>ld eX aa<|Md.aM M ((a7 ak.cells).trans aa)<|by first | exact au | exact av) a<|hp 5 aa ag (fun _ _=>aJ (.slice ar r.length cr) aa) a<|hp 6 aa ag (fun _ _=>bd ec aa aa ab<|aG.ok (an.2)<|db ab) a<|hp 7 aa ag (fun w' M=>ld cH aa<|Md.aM M (dz.get (i:=0) an.2 ab)<|by first | exact au | exact av) a<|hp 9 aa ag (fun _ _=>mv) a<|hp 10 aa ag (fun _ _=>nc aa) a<|hp 11 aa ag (fun _ _=>fa fU aa) a<|hp 12 aa ag (fun _ _=>fa wh aa) a<|he 4 aa ag<|qy (L:=gi.map str) kW aa aa aa aa fun ai aD a4 ac aH=> ?_
 have aR:dz aD.heap (some ⟨ai,0,none⟩) gi:=aG.fV ⟨_,aH⟩
 have I:=jb ac.md
 have am:(fun w'=>Md (fun k=>k=H.fb) G w') aD:=a.trans' ac.md fun _ _ h=>h.elim
 refine ⟨am,?_⟩
 refine he 8 aa ag<|cl Dn (F2 gi (some ⟨ai,0,none⟩) 5 (r.getD 0 []) _ aR aw) aa fun v25 a0 aQ=> ?_
 obtain ⟨az,rfl⟩:=aQ
 rw [if_pos ax] at az
 subst az
 have ad:(fun w'=>Md (fun k=>k=H.fb) G w') a0:=am
 refine ⟨ad,?_⟩
 refine hp 13 aa ag (fun _ _=>lS tp aa aa ab) ad<|he 14 aa ag<|dy fq aa aa (v:=aX x) aa (ac.md.aB O.cells) (by show _ < 14; omega) fun a1 Z aj=> ?_
 rw [Qe (i:=gi.idxOf<|r.getD 0 []) A.jU aq ab] at aj
 have aS:(fun w'=>Md (fun k=>k=H.fb) G w') a1:=ad.trans' Z fun _ _ h=>h
 refine ⟨aS,?_⟩
 refine hn ag<|iW<|f0 aa ?_
 have aI:=(O.wk I).put (F':= {F with sp:=F.sp.set (gi.idxOf<|r.getD 0 []) x}) Z aj rfl rfl rfl rfl (by rw [List.length_set]; exact A.jU)
 exact ⟨aa,_,rows,ln,Vu aY,⟨V,R,aI,(ak.wk I).fb (O.wk I) Z,⟨C.len,C.sl,C.row,C.kd,C.al⟩⟩,((Wk.mw q).trans<|eF.mt J Y).trans<|(Wk.mw I).trans<|eF.fb (O.wk I) Z⟩
theorem M8 (B:Nat) (H:cy) (F:aC) (rows:List Rw) (ln:Nat) (seen:List Tx) (r:List Tx) (ai:Nat) (ar:Option Addr) (cr:Nat) (w:World) (G:St w B H F rows ln seen) (Z:Tg w ai 9 r.length (.slice ar r.length cr) (r.map str)) (ax:r.length=2) (ap:∀ x∈r,x.length≤70000):
 eG ao 128 (ba [.pointer (some ⟨H.rb,0,none⟩),.slice ar r.length cr]) w (iG B H seen (mD F rows ln r) w) (iF B H (mD F rows ln r) w):=by
 obtain ⟨V,R,C,E,A⟩:=G
 have ad:=Z.dG
 have ae:¬(H.rb=H.fb):=fun h=>by have h1:=E.cells; rw [h,C.cells] at h1; cases h1
 have ay:(r.getD 1 []).length≤70000:=ap _<|eZ ab
 have ah:¬(bk ar=H.fb):=Tg.ui Z (db ab) C.cells aw
 obtain ⟨tf,aB,aD⟩:=E.tm
 obtain ⟨aE,az,aA⟩:=E.sm
 refine jw func128 aa ntmps128 aa<|sq fun av am=>rg aa<|p (aJ (.pointer<|some ⟨H.rb,0,none⟩) aa)<|p (aJ (.slice ar r.length cr) aa)<|p (bd ec aa aa ab<|aG.ok (ad.2)<|db ab)<|p (ld cH aa<|dz.get (i:=1) ad.2 ab)<|eP aa (c7 yV (A5 H.rb ln (r.getD 1 []) w E.ei ab) aa fun aF O M=> ?_) fun c w' Y aH C=>⟨ln,21,U5 Y.2.1,Y.1,Wk.mw Y.2.2⟩
 obtain ⟨rfl,aq,I⟩:=M
 have J:=C.wk I
 have M:=E.wk I
 have ac:=(Z.wk I).dG
 refine nl<|tn<|am _ _ ?_
 have a:(fun w'=>Md (fun k=>k=H.fb) O w') O.drew:=(Md.refl _ _).drew
 refine bT (fun w'=>Md (fun k=>k=H.fb) O w') aa wide a<|hp 0 aa ag (fun _ _=>aJ (.pointer<|some ⟨H.rb,0,none⟩) aa) a<|hp 1 aa ag (fun _ _=>nc aa) a<|hp 2 aa ag (fun _ _=>fa gu aa) a<|hp 3 aa ag (fun w' G=>ld eX aa<|Md.aM G ((a7 M.cells).trans aa)<|by first | exact ae | exact ah) a<|hp 4 aa ag (fun _ _=>aJ (.slice ar r.length cr) aa) a<|hp 5 aa ag (fun _ _=>bd ec aa aa ab<|aG.ok (ac.2)<|db ab) a<|hp 6 aa ag (fun w' G=>ld cH aa<|Md.aM G (dz.get (i:=1) ac.2 ab)<|by first | exact ae | exact ah) a<|hp 7 aa ag (fun _ _=>nc aa) a<|hp 8 aa ag (fun _ _=>fa fU aa) a<|hp 9 aa ag (fun _ _=>fa QA aa) a<|he 10 aa ag<|dy oG aa aa (v:=str<|r.getD 1 []) aa J.cells (by show _ < 14; omega) fun au q aj=> ?_
 have q:=jb q
 have an:(fun w'=>Md (fun k=>k=H.fb) O w') au:=q
 refine ⟨an,?_⟩
 refine hn ag<|iW<|f0 aa ?_
 have ak:=J.put (F':= {F with tx:=r.getD 1 []}) q aj rfl rfl rfl rfl C.jU
 exact ⟨aa,_,rows,ln,U6 aq,⟨V,R,ak,(M.fb J q).congr aa (fun _=>rfl),⟨A.len,A.sl,A.row,A.kd,A.al⟩⟩,(Wk.mw I).trans<|eF.fb J q⟩
theorem Wo (B:Nat) (H:cy) (F:aC) (rows:List Rw) (ln:Nat) (seen:List Tx) (r:List Tx) (Z:Nat) (ar:Option Addr) (cr:Nat) (w:World) (aj:St w B H F rows ln seen) (M:Tg w Z 9 r.length (.slice ar r.length cr) (r.map str)) (av:r.length=2) (ak:∀ x∈r,x.length≤70000):
 eG ao 129 (ba [.pointer (some ⟨H.rb,0,none⟩),.slice ar r.length cr]) w (iG B H seen (mE F rows ln r) w) (iF B H (mE F rows ln r) w):=by
 obtain ⟨V,R,q,E,a⟩:=aj
 have O:=M.dG
 have aq:¬(H.rb=H.fb):=fun h=>by have h1:=E.cells; rw [h,q.cells] at h1; cases h1
 have ax:(r.getD 1 []).length≤70000:=ak _<|eZ ab
 have au:¬(bk ar=H.fb):=Tg.ui M (db ab) q.cells aw
 obtain ⟨tf,aA,aB⟩:=E.tm
 obtain ⟨aD,ay,az⟩:=E.sm
 refine jw func129 aa ntmps129 aa<|sq fun an ae=>rg aa<|p (aJ (.slice ar r.length cr) aa)<|p (bd ec aa aa ab<|aG.ok (O.2)<|db ab)<|p (ld cH aa<|dz.get (i:=1) O.2 ab)<|e<|cl LX (Sm (r.getD 1 []) _ ab) aa fun v10 am ah=> ?_
 obtain ⟨rfl,A⟩:=ah
 have C:=q.wk A
 have J:=E.wk A
 refine p mv<|p (xt aa aa)<|p (xt aa aa)<|p aE<|p aE<|nl<|tn<|ae _ _<|sq fun ap ag=>rg aa<|p (aJ (.pointer<|some ⟨H.rb,0,none⟩) aa)<|p mv<|eP aa (c7 nN (nW H.rb ln ((letE<|r.getD 1 []).2:Nat) am J.ei) aa fun aF aH ai=> ?_) fun c w' I aK q=>⟨ln,_,Wm (by have :=I.2.1; omega),I.1,by rw [I.2.2]; exact Wk.mw A⟩
 obtain ⟨rfl,Y,rfl⟩:=ai
 have Y:(letE<|r.getD 1 []).2=0:=ab
 refine nl<|tn<|ag _ _<|rg aa<|p (aJ (.pointer<|some ⟨H.rb,0,none⟩) aa)<|p (nc aa)<|p (fa gu aa)<|p (ld eX aa<|(a7 J.cells).trans aa)<|p mv<|p (nc aa)<|p (fa fU aa)<|p (fa QB aa)<|e<|dy oG aa aa (v:=str (letE<|r.getD 1 []).1) aa C.cells (by show _ < 14; omega) fun aI G ac=>nl<|iW<|f0 aa ?_
 have ad:=C.put (F':= {F with tr:=(letE<|r.getD 1 []).1}) G ac rfl rfl rfl rfl q.jU
 exact ⟨aa,_,rows,ln,Wn Y,⟨V,R,ad,(J.fb C G).congr aa (fun _=>rfl),⟨a.len,a.sl,a.row,a.kd,a.al⟩⟩,(Wk.mw A).trans<|eF.fb C G⟩
theorem Sg (B:Nat) (H:cy) (F:aC) (rows:List Rw) (ln:Nat) (seen:List Tx) (r:List Tx) (am:Nat) (ar:Option Addr) (cr:Nat) (w:World) (M:St w B H F rows ln seen) (ac:Tg w am 9 r.length (.slice ar r.length cr) (r.map str)) (aE:r.length=2) (ay:∀ x∈r,x.length≤70000):
 eG ao 131 (ba [.pointer (some ⟨H.rb,0,none⟩),.slice ar r.length cr]) w (iG B H seen (kE F rows ln r) w) (iF B H (kE F rows ln r) w):=by
 obtain ⟨V,R,A,C,E⟩:=M
 have ad:=ac.dG
 have ae:¬(H.rb=H.fb):=fun h=>by have h1:=C.cells; rw [h,A.cells] at h1; cases h1
 have aF:(r.getD 1 []).length≤70000:=ay _<|eZ ab
 have ah:¬(bk ar=H.fb):=Tg.ui ac (db ab) A.cells aw
 obtain ⟨tf,aK,aL⟩:=C.tm
 obtain ⟨aN,aH,aI⟩:=C.sm
 refine jw func131 aa ntmps131 aa<|sq fun aB ap=> ?_
 have a:(fun w'=>Md (fun k=>k=H.fb) w w') w.drew:=(Md.refl _ _).drew
 refine bT (fun w'=>Md (fun k=>k=H.fb) w w') aa wide a<|hp 0 aa ag (fun _ _=>aJ (.pointer<|some ⟨H.rb,0,none⟩) aa) a<|hp 1 aa ag (fun _ _=>nc aa) a<|hp 2 aa ag (fun _ _=>fa gu aa) a<|hp 3 aa ag (fun w' M=>ld eX aa<|Md.aM M ((a7 C.cells).trans aa)<|by first | exact ae | exact ah) a<|hp 4 aa ag (fun _ _=>aJ (.pointer<|some ⟨H.rb,0,none⟩) aa) a<|hp 5 aa ag (fun _ _=>aJ (.slice ar r.length cr) aa) a<|hp 6 aa ag (fun _ _=>bd ec aa aa ab<|aG.ok (ad.2)<|db ab) a<|hp 7 aa ag (fun w' M=>ld cH aa<|Md.aM M (dz.get (i:=1) ad.2 ab)<|by first | exact ae | exact ah) a<|r8 8 aa ag aa (c7 vG (xf H.rb ln (r.getD 1 []) 64 w.drew C.ei ab ab) aa fun v12 az aq=> ?_) fun c w' J aA A=>by obtain ⟨e,he,h,h2⟩:=J; exact ⟨ln,e,S1 he,h,Wk.mw<|jb h2⟩
 obtain ⟨n,ai,rfl,q⟩:=aq
 have q:=jb q
 have G:=A.wk q
 have av:=C.wk q
 have O:(fun w'=>Md (fun k=>k=H.fb) w w') az:=Md.mono q fun _ _ h=>h.elim
 refine ⟨O,?_⟩
 refine hp 9 aa ag (fun _ _=>nc aa) O<|hp 10 aa ag (fun _ _=>fa fU aa) O<|hp 11 aa ag (fun _ _=>fa zV aa) O<|he 12 aa ag<|dy jN aa aa (v:= .int .i64 (n:Nat)) aa G.cells (by show _ < 14; omega) fun ak I Z=> ?_
 have Y:=av.fb G I
 have ax:(fun w'=>Md (fun k=>k=H.fb) w w') ak:=O.trans' I fun _ _ h=>h
 refine ⟨ax,?_⟩
 refine hn ag<|tn<|ap _ _<|rg aa<|p (aJ (.pointer<|some ⟨H.rb,0,none⟩) aa)<|p (aJ (.pointer<|some ⟨H.rb,0,none⟩) aa)<|p (nc aa)<|p (fa gu aa)<|p (ld eX aa<|(a7 Y.cells).trans aa)<|p (nc aa)<|p (fa fU aa)<|p (fa zV aa)<|p (ld bO aa<|(a7 Z).trans aa)<|p (gt aa aa)<|eP aa (c7 gy (gD H.rb ln _ 13 ak Y.ei aw) aa fun v26 aO au=> ?_) fun c w' J aA A=>by have aD:=of_decide_eq_false J.2.1; exact ⟨ln,13,S2 ai ab,J.1,by rw [J.2.2]; exact (Wk.mw q).trans<|eF.fb G I⟩
 obtain ⟨rfl,aj,rfl⟩:=au
 have aj:=of_decide_eq_true aj
 refine nl<|iW<|f0 aa ?_
 have an:=G.put (F':= {F with least:=n}) I Z rfl rfl rfl rfl A.jU
 exact ⟨aa,_,rows,ln,S3 ai ab,⟨V,R,an,Y.congr aa (fun _=>rfl),⟨E.len,E.sl,E.row,E.kd,E.al⟩⟩,(Wk.mw q).trans<|eF.fb G I⟩
theorem Sd (B:Nat) (H:cy) (F:aC) (rows:List Rw) (ln:Nat) (seen:List Tx) (r:List Tx) (aS:Nat) (ar:Option Addr) (cr:Nat) (w:World) (J:St w B H F rows ln seen) (aj:Tg w aS 9 r.length (.slice ar r.length cr) (r.map str)) (bE:r.length=2) (bc:∀ x∈r,x.length≤70000):
 eG ao 127 (ba [.pointer (some ⟨H.rb,0,none⟩),.slice ar r.length cr]) w (iG B H seen (kB F seen rows ln r) w) (iF B H (kB F seen rows ln r) w):=by
 obtain ⟨V,R,E,Z,M⟩:=J
 have bz:=aj.dG
 have aH:¬(H.rb=H.fb):=fun h=>by have h1:=Z.cells; rw [h,E.cells] at h1; cases h1
 have bF:(r.getD 1 []).length≤70000:=bc _<|eZ ab
 have aI:¬(bk ar=H.fb):=Tg.ui aj (db ab) E.cells aw
 obtain ⟨tf,bG,bH⟩:=Z.tm
 obtain ⟨bI,bl,bo⟩:=Z.sm
 refine jw func127 aa ntmps127 aa<|sq fun bs aY=>sq fun bt aZ=>rg aa<|e<|qy (L:=nX.map str) kW aa aa aa aa fun ap am bB a3 aV=> ?_
 have aA:dz am.heap (some ⟨ap,0,none⟩) nX:=aG.fV ⟨_,aV⟩
 have C:Wk w am:=a3.md
 have av:=E.wk C
 have ac:=Z.wk C
 have aD:=(aj.wk C).dG
 have bp:=bl.wk C
 have bD:nX.length=8:=rfl
 refine p (bP iQ aa aa)<|p mv<|nl<|tn<|aZ _ _<|aB<|lp (fun aq I q=> ∃ (i:Nat),(i≤8)∧(∀ j,j < i→nX.getD j []∉seen)∧(q=am)∧(I 0= .pointer (some ⟨H.rb,0,none⟩))∧(I 1= .slice ar r.length cr)∧(I 6= .slice (some ⟨ap,0,none⟩) 8 8)∧(I 7= .int .i64 (8:Nat))∧(I 8= .int .i64 (i:Nat))∧(8 - i=aq)) _ ⟨0,ab,(fun j aF=>by omega),aa,aa,aa,aa,aa,aa,aa⟩ ?_
 rintro aq I q ⟨i,hi,aK,aW,bf,bg,bh,bi,bj,rfl⟩
 refine fx 0 bf<|fx 1 bg<|fx 6 bh<|fx 7 bi<|fx 8 bj ?_
 subst aW
 refine sq fun bu a0=>rg aa<|p (lt aa aa)<|nl<|tn<|a0 _ _<|sq fun bv a1=>cd aa (fun bb=> ?_) fun bb=> ?_
 refine aR<|tn<|a1 _ _<|sq fun aT ah=>aB<|sq fun bw a2=>rg aa<|p (bd ec aa aa ab<|aG.ok (aA)<|db ab)<|p (ld cH aa<|dz.get (i:=i) aA ab)<|p aE<|nl<|tn<|a2 _ _<|rg aa<|p (aJ (.pointer<|some ⟨H.rb,0,none⟩) aa)<|p (aJ (.pointer<|some ⟨H.rb,0,none⟩) aa)<|p (nc aa)<|p (fa r4 aa)<|p (ld rE aa<|(a7 ac.cells).trans aa)<|p mv<|p (lh pY mH gL (bp) aa aa (⟨_,aa⟩)<|bo _)<|p (cw aa aa)<|eP aa (c7 gy (gD H.rb ln _ 113 q ac.ei aw) aa fun v20 bJ a4=> ?_) fun c w' A br E=>⟨ln,113,Sa (k:=nX.getD i []) (eZ ab) (by have h:=of_decide_eq_false A.2.1; exact mI.1 fun h2=>h<|by have :=qg.2 h2; omega),A.1,by rw [A.2.2]; exact Wk.mw C⟩
 obtain ⟨rfl,ak,rfl⟩:=a4
 have ak:nX.getD i []∉seen:=qg.1<|by have :=of_decide_eq_true ak; omega
 exact nl<|bn<|tn<|ah _ _<|rg aa<|p (ad aa aa<|cC ab)<|p mv<|nl<|tn<|⟨_,ab,i+1,ab,(fun j aF=>by rcases jh j i with h | h <;> first | exact aK j h | (rw [show j=i by omega]; exact ak)),aa,aa,aa,aa,aa,aa,aa⟩
 refine ext<|te _<|te _<|be<|tn<|aY _ _<|sq fun aT ah=> ?_
 have aL:ordered seen=true :=(G5 seen).2 fun k hk=>by obtain ⟨j,aF,rfl⟩:=oN [] hk; exact aK j ab
 have a:(fun w'=>Md (fun k=>k=H.fb) q w') q.drew:=(Md.refl _ _).drew
 refine bT (fun w'=>Md (fun k=>k=H.fb) q w') aa wide a<|hp 0 aa ag (fun _ _=>aJ (.pointer<|some ⟨H.rb,0,none⟩) aa) a<|hp 1 aa ag (fun _ _=>nc aa) a<|hp 2 aa ag (fun _ _=>fa gu aa) a<|hp 3 aa ag (fun w' J=>ld eX aa<|Md.aM J ((a7 ac.cells).trans aa)<|by first | exact aH | exact aI) a<|hp 5 aa ag (fun _ _=>aJ (.slice ar r.length cr) aa) a<|hp 6 aa ag (fun _ _=>bd ec aa aa ab<|aG.ok (aD.2)<|db ab) a<|hp 7 aa ag (fun w' J=>ld cH aa<|Md.aM J (dz.get (i:=1) aD.2 ab)<|by first | exact aH | exact aI) a<|he 4 aa ag<|qy (L:=kinds.map str) kW aa aa aa aa fun an aP bA ay aU=> ?_
 have a8:dz aP.heap (some ⟨an,0,none⟩) kinds:=aG.fV ⟨_,aU⟩
 have O:=jb ay.md
 have az:(fun w'=>Md (fun k=>k=H.fb) q w') aP:=a.trans' ay.md fun _ _ h=>h.elim
 refine ⟨az,?_⟩
 refine he 8 aa ag<|cl Dn (F2 kinds (some ⟨an,0,none⟩) 3 (r.getD 1 []) _ a8 aw) aa fun v30 bq a5=> ?_
 obtain ⟨aN,rfl⟩:=a5
 rw [R8] at aN
 subst aN
 have bC:=R9<|r.getD 1 []
 have G:(fun w'=>Md (fun k=>k=H.fb) q w') bq:=az
 refine ⟨G,?_⟩
 refine hp 9 aa ag (fun _ _=>bL ((kS (r.getD 1 []):Nat):Int) aa aa<|bm ab ab) G<|hp 10 aa ag (fun _ _=>nc aa) G<|hp 11 aa ag (fun _ _=>fa fU aa) G<|hp 12 aa ag (fun _ _=>fa rY aa) G<|he 13 aa ag<|dy jN aa aa (v:= .int .i64 (kS (r.getD 1 []):Nat)) aa ((av.wk O).cells) (by show _ < 14; omega) fun aQ Y au=> ?_
 have ae:=av.wk O
 have ai:=(ac.wk O).fb ae Y
 have ax:=((Wk.mw C).trans<|Wk.mw O).trans<|eF.fb ae Y
 have a9:(fun w'=>Md (fun k=>k=H.fb) q w') aQ:=G.trans' Y fun _ _ h=>h
 refine ⟨a9,?_⟩
 refine hn ag<|tn<|ah _ _<|rg aa<|p (aJ (.pointer<|some ⟨H.rb,0,none⟩) aa)<|p (aJ (.pointer<|some ⟨H.rb,0,none⟩) aa)<|p (nc aa)<|p (fa gu aa)<|p (ld eX aa<|(a7 ai.cells).trans aa)<|p (nc aa)<|p (fa fU aa)<|p (fa rY aa)<|p (ld bO aa<|(a7 au).trans aa)<|p (gt aa aa)<|eP aa (c7 gy (gD H.rb ln _ 114 aQ ai.ei aw) aa fun v45 bK a6=> ?_) fun c w' A br E=>by have bx:=of_decide_eq_false A.2.1; exact ⟨ln,114,Sb aL ab,A.1,by rw [A.2.2]; exact ax⟩
 obtain ⟨rfl,aO,rfl⟩:=a6
 have aO:=of_decide_eq_true aO
 refine nl<|iW<|f0 aa ?_
 have aX:=ae.put (F':= {F with kind:=kS<|r.getD 1 []}) Y au rfl rfl rfl rfl E.jU
 exact ⟨aa,_,rows,ln,Sc aL ab,⟨V,R,aX,ai.congr aa (fun _=>rfl),⟨M.len,M.sl,M.row,(by show kS (r.getD 1 [])=1∨kS (r.getD 1 [])=2∨kS (r.getD 1 [])=3; omega),M.al⟩⟩,ax⟩
end Go.Hb
namespace Go.Hb.pw
theorem Eb {h:Array Obj} {b:Nat} {f:UInt8→Bool} (a:bD h b (dQ f)) (c:UInt8):Hb.aM h b (0 +((c.toNat / 64:Nat):Int).toNat*1)=some (.int .u64<|ed f<|c.toNat / 64):=by
 have q:=jH c
 rw [a.aM,show 0 +((c.toNat / 64:Nat):Int).toNat*1=c.toNat / 64 from by omega]; exact zm f ab
theorem NR {h:Array Obj} {b:Nat} {f:UInt8→Bool} {c:UInt8} (a:bD h b ((dQ f).set (0 +((c.toNat / 64:Nat):Int).toNat*1)<|.int .u64 ((ed f (c.toNat / 64) ||| 2 ^ (c.toNat % 64):Nat):Int))):bD h b (dQ (fun x=>f x || decide (x=c))):=by
 rw [show 0 +((c.toNat / 64:Nat):Int).toNat*1=c.toNat / 64 from by omega,NM] at a; exact a
theorem NO {f g:UInt8→Bool} (h:∀ b,f b=g b):dQ f=dQ g:=by rw [show f=g from funext h]
theorem Rv {l:List UInt8} {i:Nat} (h:i < l.length) (x:UInt8):(decide (x∈l.take i) || decide (x=l.getD i 0))=decide (x∈l.take (i+1)):=by
 rw [kX l i 0 h,← Bool.decide_or]
 exact decide_eq_decide.2<|by rw [js,iS]
theorem A2 {w:World} {B e n cp i:Nat} {a:Option Addr} {l:List UInt8} (h:w.ownsRow B e 1 (.slice a n cp) n (U8 l)) (hi:i≤n) (hn:0 < n):w.ownsRow B e 1 (.slice a i cp) i (U8<|l.take i):=by
 have c:a≠none:=by
  rintro rfl
  rcases h.2 with ⟨_,h5⟩ | ⟨g,cap,cur,h4,_⟩
  · omega
  · simp at h4
 have :=G7 h hi c
 rw [Nat.mul_one] at this
 unfold U8 at*
 rwa [JK]
theorem TR {w:World} {B e n cp:Nat} {a:Option Addr} {xs:List Value} (h:w.ownsRow B e 1 (.slice a n cp) n xs) (hn:0 < n):∃ c,a=some ⟨c,0,none⟩:=by
 rcases h.2 with ⟨_,h5⟩ | ⟨g,cap,cur,h4,_⟩
 · omega
 · simp only [l8] at h4; exact ⟨g,h4.1⟩
theorem Ws {w:World} {B e n cp j:Nat} {a:Option Addr} {l:List UInt8} (h:w.ownsRow B e 1 (.slice a n cp) n (U8 l)):aG w.heap (fw a cp j 1) (U8<|l.drop j):=by
 have h2:=(a6 h).2.drop (cap:=cp) (k:=j) (size:=1)<|by have h1:=h.1; have h3:=(a6 h).1; omega
 rw [Nat.mul_one] at h2
 unfold U8 at*
 rwa [List.map_drop]
theorem BD {w:World} {B e n:Nat} {v:Value} {l:List UInt8} (h:w.ownsRow B e 1 v n (U8 l)):l.length=n:=by have :=h.1; rw [vo] at this; omega
theorem Hi (b:Nat) (c:UInt8) (f:UInt8→Bool) (w:World) (A:bD w.heap b (dQ f)):
 bf ao 220 (ba [aU b,.int .u8 c.toNat]) w (fun v w'=>v= .tuple #[]∧bD w'.heap b (dQ (fun x=>f x || decide (x=c)))∧Md (fun q=>q=b) w w'):=by
 have J:=jH c
 refine enter func220 aa ntmps220 aa ?_
 have a:(fun w'=>Wk w w') w.drew:=(Md.refl _ _).drew
 refine eL (fun w'=>Wk w w') 12 aa wide a<|bw 0 aa (aU b) a<|bw 1 aa (.int .u8 c.toNat) a<|bG 2 aa (fun _=>shr aa aa aw<|HI c) (fun _=>a)<|bG 3 aa (fun _=>nc aa) (fun _=>a)<|bG 4 aa (fun _=>lS qv aa aa ab) (fun _=>a)<|ez 5 aa (fun w' I=>ld rF aa<|Wk.aM I<|Eb A c) a<|bw 6 aa (.int .u8 c.toNat) a<|bG 7 aa (fun _=>eH aa aa<|CX c) (fun _=>a)<|bG 8 aa (fun _=>shl aa aa ab<|Vb ab) (fun _=>a)<|bG 9 aa (fun _=>C4 aa aa<|TH (sG _ _)<|Nat.pow_lt_pow_right aw ab) (fun _=>a)<|bG 10 aa (fun _=>nc aa) (fun _=>a)<|bG 11 aa (fun _=>lS qv aa aa ab) (fun _=>a)<|dq 12 aa ag ag<|st OE aa aa (aa) (a.B A) (by rw [vJ]; omega) fun M G E=> ?_
 have C:=NR E
 refine eK ag<|f0 aa ?_
 exact ⟨aa,C,Md.trans (Md.refl _ _).drew G⟩
theorem FP (f:UInt8→Bool) (c:UInt8) (w:World):
 bf ao 259 (ba [.agg (dQ<|f).toArray,.int .u8 c.toNat]) w (fun v w'=>v= .bool (f c)∧Wk w w'):=by
 have I:=jH c
 exact enter func259 aa ntmps259 aa<|ak fun a=>e<|iJ aa fun E J G C A=>ay<|a<|ak fun q=>au (.int .u8 c.toNat)<|p (shr aa aa aw<|HI c)<|p (lS qv aa aa ab)<|p (ld rF aa<|Eb A c)<|au (.int .u8 c.toNat)<|p (eH aa aa<|CX c)<|p (shr aa aa ab<|Vg _ ab)<|p (eH aa aa<|KN<|Nat.lt_of_le_of_lt (Nat.div_le_self _ _)<|sG _ _)<|p (cw aa aa)<|ay<|q<|rt<|bc aa<|⟨congrArg bU (W0 f c),C.md⟩
theorem A1 (f:UInt8→Bool) (w:World):
 bf ao 219 (ba [.agg (dQ<|f).toArray]) w (fun v w'=>v= .agg (dQ fun x=> !f x).toArray∧Wk w w'):=by
 exact enter func219 aa ntmps219 aa<|ak fun A=>e<|iJ aa fun J Z O q c=>e<|al qW fun M ac V a E=>nl<|A<|ak fun C=>p (lS qv aa aa ab)<|p (ld rF aa<|(a.md.B c).aM 0)<|p (vL aa)<|p (lS qv aa aa ab)<|p (ld rF aa<|(a.md.B c).aM 1)<|p (vL aa)<|p (lS qv aa aa ab)<|p (ld rF aa<|(a.md.B c).aM 2)<|p (vL aa)<|p (lS qv aa aa ab)<|p (ld rF aa<|(a.md.B c).aM 3)<|p (vL aa)<|p (C3 (ps:= [(0,.int .u64 (ed (fun x=> !f x) 0:Nat)),(1,.int .u64 (ed (fun x=> !f x) 1:Nat)),(2,.int .u64 (ed (fun x=> !f x) 2:Nat)),(3,.int .u64 (ed (fun x=> !f x) 3:Nat))]) (L:= [.int .u64 (ed (fun x=> !f x) 0:Nat),.int .u64 (ed (fun x=> !f x) 1:Nat),.int .u64 (ed (fun x=> !f x) 2:Nat),.int .u64 (ed (fun x=> !f x) 3:Nat)]) C1 aa<|aa)<|e<|cM oF aa (vs:=dQ fun x=> !f x) aa aa aa E aw fun ad I G=>nl<|C<|rt<|tK aa (dV aa j5 aa fun j Y=>by rw [fQ]; exact G.aM j)<|⟨aa,Md.trans' (Md.trans q.md a.md) I fun k hk h=>by have :=q.md.size; omega⟩
theorem FQ (f:UInt8→Bool) (c:UInt8) (ci:Int) (w:World) (a:(c.toNat:Int)=ci):bf ao 259 (ba [.agg (dQ<|f).toArray,.int .u8 ci]) w (fun v w'=>v= .bool (f c)∧Wk w w'):=by
 subst a; exact FP f c w
theorem C9 (f:UInt8→Bool) (w:World):
 bf ao 281 (ba [.agg (dQ<|f).toArray]) w (fun v w'=>bq w' w.heap.size 5 1 (v) (bytesOf f).length (U8<|bytesOf f)∧Wk w w'):=by
 refine enter func281 aa ntmps281 aa<|ak fun Z=>e<|iJ aa fun an O aP J aq=>ay<|Z<|ak fun ac=>ay<|ac<|az fun ae=>ak fun ag=>p mv<|nl<|ag<|aB<|lp (fun V I G=> ∃ (i:Nat) (a:Value),(i≤256)∧(bq G O.heap.size 5 1 (a) (oD f i).length<|U8<|oD f i)∧(Wk O G)∧(I 1=aU an)∧(I 3=a)∧(I 5=aj i)∧(256 - i=V)) _ ⟨0,.slice none 0 0,ab,(dS _ _ _ _),(Md.refl _ _),aa,aa,aa,aa⟩ ?_
 rintro V I G ⟨i,a,hi,E,q,aH,aI,aJ,rfl⟩
 refine fx 1 aH<|fx 3 aI<|fx 5 aJ ?_
 have aO:Wk w G:=Md.trans J.md q
 have aS:=tt f i
 have aW:=q.size
 refine ak fun ah=>p (lt aa aa)<|nl<|ah<|az fun ai=>cd aa (fun aC=> ?_) fun aC=> ?_
 refine aR<|ai<|az fun A=>aB<|ak fun al=>au (aj i)<|p (cj (aj i) aa)<|nl<|al<|ak fun am=>p (cg j5 aa (aa) fun j aV=>by rw [fQ]; exact (q.B aq).aM j)<|au (aj i)<|p (nQ u5 sE aa<|BR ab)<|e<|cl y5 (FQ f (UInt8.ofNat i) _ _<|Ih i ab) aa fun v11 aY aA=> ?_
 obtain ⟨rfl,c⟩:=aA
 refine nl<|am<|cb aa (fun M=> ?_) fun M=> ?_
 refine rg aa<|au (a)<|au (aj i)<|p (nQ u5 sE aa<|BR ab)<|e<|lK qS aa aa fun aN aZ aQ C av=>e<|ap qS (a8 (a8 E c) C.md) aa (by have :=c.size; have :=C.md.size; omega) aa (aG.fV av) (aa) (aa) ab ab fun aK aL Y ax aX aT=> ?_
 rw [← Ih i ab] at Y
 have aF:=TQ Y
 have aw:Wk O aL:=Wk.own (Md.trans (Md.trans q c) C.md) (a8 (a8 E c) C.md) ax<|cz _
 exact p aE<|nl<|bn<|A<|rg aa<|p (ad aa aa<|cC ab)<|p mv<|nl<|tn<|⟨_,ab,i+1,aK,ab,(by rw [C8,if_pos M]; exact aF),aw,aa,aa,aa,aa⟩
 exact aR<|bn<|A<|rg aa<|p (ad aa aa<|cC ab)<|p mv<|nl<|tn<|⟨_,ab,i+1,a,ab,(by rw [C8,if_neg (by rw [M]; exact dv),ep]; exact a8 E c),(Md.trans q c),aa,aa,aa,aa⟩
 refine ext<|bh<|bh<|be<|ae<|ak fun A=>au (a)<|p (cj (a) aa)<|nl<|A<|rt<|bc aa ?_
 have aD:i=256:=ab
 subst aD
 exact ⟨e5 E J.md.size,Md.trans J.md q⟩
theorem N1 (s:List UInt8) (w:World) (hs:s.length≤1048576):
 bf ao 258 (ba [str s]) w (fun v w'=>v= .agg (dQ fun x=>decide (x∈s)).toArray∧Wk w w'):=by
 refine enter func258 aa ntmps258 aa<|ak fun Z=>e<|al qW fun C aS aN V G=>nl<|Z<|ak fun ac=>e<|al qW fun c aL aP Y ap=> ?_
 have aq:bD aL.heap c (dQ fun x=>decide (x∈s.take 0)):=by rw [show (fun x=>decide (x∈s.take 0))=(fun _:UInt8=>false) from funext fun x=>by simp,zn]; exact ap
 refine nl<|ac<|az fun ae=>ak fun ag=>au (str s)<|p (dB u9 aa aa)<|p mv<|nl<|ag<|aB ?_
 have aO:=G.lt
 refine lp (fun E a q=> ∃ (i:Nat),(i≤s.length)∧(bD q.heap c<|dQ fun x=>decide (x∈s.take i))∧(bD q.heap C [.int .u64 0,.int .u64 0,.int .u64 0,.int .u64 0])∧(Wk w q)∧(a 0=str s)∧(a 2=aU C)∧(a 3=aU c)∧(a 6=aj (s.length))∧(a 7=aj i)∧(s.length - i=E)) _ ⟨0,ab,aq,(Y.md.B G),(Md.trans V.md Y.md),aa,aa,aa,aa,aa,aa⟩ ?_
 rintro E a q ⟨i,hi,I,J,M,aE,aF,aG,aH,aI,rfl⟩
 refine fx 0 aE<|fx 2 aF<|fx 3 aG<|fx 6 aH<|fx 7 aI<|ak fun ah=>p (lt aa aa)<|nl<|ah<|az fun ai=>cd aa (fun aC=> ?_) fun aC=> ?_
 refine aR<|ai<|az fun A=>aB<|ak fun am=>au (aj i)<|p (cj (aj i) aa)<|nl<|am<|rg aa<|au (str s)<|au (aj i)<|p (j8 u9 aa aa ab)<|e<|cl Dw (Hi c (s.getD i 0) _ _ I) aa fun aQ aK aA=> ?_
 obtain ⟨rfl,an,O⟩:=aA
 have ax:Wk w aK:=Md.trans' M O fun k hk h=>by have :=V.md.size; omega
 exact nl<|bn<|A<|rg aa<|p (ad aa aa<|cC ab)<|p mv<|nl<|tn<|⟨_,ab,i+1,ab,(by rw [NO (fun x=>(Rv (show i < s.length by omega) x).symm)]; exact an),(O.B J fun h=>by omega),ax,aa,aa,aa,aa,aa,aa⟩
 refine ext<|bh<|bh<|be<|ae<|ak fun A=>p (cg j5 aa (aa) fun j aD=>by rw [fQ]; exact (I).aM j)<|e<|cM oF aa (vs:=dQ fun x=>decide (x∈s.take i)) aa aa aa J aw fun aT ay av=>nl<|A<|rt<|tK aa (dV aa j5 aa fun j aD=>by rw [fQ]; exact av.aM j) ?_
 have aJ:s.take i=s:=e9 ab
 rw [aJ]
 exact ⟨aa,Md.trans' M ay fun k hk h=>by omega⟩
theorem Ry (s:List UInt8) (c:UInt8) (w:World):
 bf ao 257 (ba [str s,.int .u8 c.toNat]) w (fun v w'=>v= .int .i64 (ew c s)∧Wk w w'):=by
 exact enter func257 aa ntmps257 aa<|ak fun a=>ay<|a<|ak fun q=>au (str s)<|au (.int .u8 c.toNat)<|e<|cl DE (F1 s c _) aa fun C E A=>ay<|q<|rt<|bc aa<|A
theorem Ov (s pr:List UInt8) (w:World) (hs:s.length≤1099511627776) (J:pr.length≤1099511627776):
 bf ao 163 (ba [str s,str pr]) w (fun v w'=>v= .tuple #[str (eN s pr),.bool (decide (s.take pr.length=pr))]∧Wk w w'):=by
 refine enter func163 aa ntmps163 aa<|ak fun C=>p aE<|ay<|C<|az fun E=>az fun G=>rg aa<|au (str s)<|au (str pr)<|e<|cl yZ (Ag s pr _ hs J) aa fun O V I=> ?_
 obtain ⟨rfl,A⟩:=I
 refine p (no aa)<|nl<|G<|cb aa (fun q=> ?_) fun q=> ?_
 have a:¬s.take pr.length=pr:=by simpa using q
 exact ak fun c=>au (str s)<|p (cj (str s) aa)<|ay<|c<|rt<|tr<|f2 aa aa aa<|⟨by unfold eN; rw [if_neg a,decide_eq_false a]; rfl,A⟩
 have a:s.take pr.length=pr:=by simpa using q
 have M:=A7 a
 exact aR<|E<|ak fun c=>au (str s)<|au (str pr)<|p (dB u9 aa aa)<|p (oP u9 aa aa ab)<|p aE<|ay<|c<|rt<|f2 aa aa aa<|⟨by unfold eN; rw [if_pos a,decide_eq_true a]; rfl,A⟩
theorem Eg (s pr:List UInt8) (w:World) (hs:s.length≤1099511627776) (C:pr.length≤1099511627776):
 bf ao 103 (ba [str s,str pr]) w (fun v w'=>v= .tuple #[str (eN s pr),.bool (decide (s.take pr.length=pr))]∧Wk w w'):=by
 refine enter func103 aa ntmps103 aa<|ak fun a=>p aE<|ay<|a<|ak fun c=>au (str s)<|au (str pr)<|e<|cl LP (Ov s pr _ hs C) aa fun E G A=> ?_
 obtain ⟨rfl,q⟩:=A
 exact p (xt aa aa)<|p (xt aa aa)<|p aE<|ay<|c<|rt<|f2 aa aa aa<|⟨aa,q⟩
theorem We (s pr:List UInt8):(eN s pr).length≤s.length:=by unfold eN; split <;> simp
def ib (s:List UInt8) (k:Nat):List UInt8:=(s.drop k).take<|(s.drop k).idxOf 93
theorem Lk (s:List UInt8) (k:Nat):(ib s k).length≤s.length:=by unfold ib; rw [ee,gH]; omega
theorem Lj (s:List UInt8) (k:Nat):(s.take<|k+(s.drop k).idxOf 93).drop k=ib s k:=by
 rw [yh,Nat.add_sub_cancel_left]; rfl
def pE (s:List UInt8) (k:Nat):UInt8→Bool:=fun x=>if (ib s k).take 1= [94] then !decide (x∈eN (ib s k) [94]) else decide (x∈eN (ib s k) [94])
theorem Ln {s:List UInt8} {k:Nat} (h:(ib s k).take [(94:UInt8)].length= [94]):pE s k=fun x=> !decide (x∈eN (ib s k) [94]):=by
 funext x; exact if_pos h
theorem Lo {s:List UInt8} {k:Nat} (h:¬(ib s k).take [(94:UInt8)].length= [94]):pE s k=fun x=>decide (x∈eN (ib s k) [94]):=by
 funext x; exact if_neg h
theorem Ll (s:List UInt8) (k:Nat) (w:World) (hs:s.length≤1048576) (hk:k≤s.length):
 bf ao 218 (ba [str s,aj k]) w (fun v w'=>(∃ f,v= .tuple #[.agg (dQ f).toArray,.int .i64 (if ew 93 (s.drop k) < 0 then 0 else ((k+(s.drop k).idxOf 93 +1:Nat):Int)),.bool (!decide (ew 93 (s.drop k) < 0) && decide (eN (ib s k) [94]≠[]))]∧(¬ew 93 (s.drop k) < 0→f=pE s k))∧Wk w w'):=by
 refine enter func218 aa ntmps218 aa<|ak fun ax=>e<|al qW fun ae bq a9 I G=>p aE<|ay<|ax<|az fun aA=>rg aa<|au (str s)<|au (aj k)<|p (oP u9 aa aa ab)<|e<|cl Mh (Ry (s.drop k) 93 _) aa fun bi bk aV=> ?_
 obtain ⟨rfl,a⟩:=aV
 have bd:(s.drop k).length=s.length - k:=gH
 refine ay<|aA<|az fun aB=>ak fun aC=>p mv<|p (lt aa aa)<|nl<|aC<|cd aa (fun q=> ?_) fun q=> ?_
 refine ak fun M=>p (C3 (ps:= []) (L:= [.int .u64 0,.int .u64 0,.int .u64 0,.int .u64 0]) C1 aa<|aa)<|e<|cM oF aa (vs:=dQ fun _=>false) (by rw [zn]; rfl) aa aa (a.B G) aw fun bo aS aG=>p aE<|ay<|M<|rt<|tr<|EN aa (dV aa j5 aa fun j ac=>by rw [fQ]; exact aG.aM j) eE eE ?_
 refine ⟨⟨fun _=>false,by rw [if_pos q,decide_eq_true q]; rfl,fun h=>absurd q h⟩,Md.trans' (Md.trans I.md a) aS fun k hk h=>by omega⟩
 have bg:=r9 (c:=93) (l:=s.drop k) q
 have bc:(ib s k).length≤s.length:=Lk s k
 refine aR<|aB<|az fun M=> ?_
 have av:=Lj s k
 refine rg aa<|au (str s)<|au (aj k)<|au (aj k)<|p mv<|p (bL ((k+(s.drop k).idxOf 93:Nat):Int) aa aa<|bm ab ab)<|p (uv u9 aa aa aa ab)<|e<|cl Da (Eg ((s.take<|k+(s.drop k).idxOf 93).drop k) [94] _ (by rw [av]; omega) aw) aa fun v25 bl aq=> ?_
 rw [av] at aq
 obtain ⟨rfl,C⟩:=aq
 have bh:=We (ib s k) [94]
 refine p mv<|p (xt aa aa)<|p (xt aa aa)<|p aE<|ay<|M<|az fun aD=>rg aa<|p mv<|e<|cl Mi (N1 (eN (ib s k) [94]) _ ab) aa fun bj bn aW=> ?_
 obtain ⟨rfl,E⟩:=aW
 refine e<|al qW fun ad a4 a8 ap aF=> ?_
 have aN:Wk w a4:=Md.trans I.md<|Md.trans a<|Md.trans C<|Md.trans E ap.md
 have ag:=ap.md.B<|E.B<|C.B<|a.B G
 have bb:=ag.lt
 refine e<|cM oF aa (vs:=dQ fun x=>decide (x∈eN (ib s k) [94])) aa aa aa aF aw fun a5 am V=> ?_
 have ai:Wk w a5:=Md.trans' aN am fun k hk h=>by have :=I.md.size; have :=a.size; have :=C.size; have :=E.size; omega
 have ah:=am.B ag fun h=>by have :=G.lt; have :=a.size; have :=C.size; have :=E.size; omega
 refine nl<|aD ?_
 refine e6 (fun A J=>(bD J.heap ad<|dQ<|pE s k)∧(bD J.heap ae [.int .u64 0,.int .u64 0,.int .u64 0,.int .u64 0])∧(Wk w J)∧(A 0=str s)∧(A 1=aj k)∧(A 4=aU ae)∧(A 7= .int .i64 (ew 93<|s.drop k))∧(A 8=str (eN (ib s k) [94]))∧(A 10=aU ad)) ?_ ?_
 refine ak fun O=>p mv<|nl<|O<|cb aa (fun Z=> ?_) fun Z=> ?_
 refine rg aa<|p (cg j5 aa (aa) fun j ac=>by rw [fQ]; exact (V).aM j)<|e<|cl y4 (A1 (fun x=>decide (x∈eN (ib s k) [94])) _) aa fun v32 bp aX=> ?_
 obtain ⟨rfl,Y⟩:=aX
 refine e<|cM oF aa (vs:=dQ fun x=> !decide (x∈eN (ib s k) [94])) aa aa aa (Y.B V) (cz 4) fun a6 an aI=> ?_
 have aO:Wk w a6:=Md.trans' (Md.trans ai Y) an fun k hk h=>by have :=I.md.size; have :=a.size; have :=C.size; have :=E.size; omega
 have aH:=an.B (Y.B ah) fun h=>by have :=G.lt; have :=a.size; have :=C.size; have :=E.size; omega
 exact nl<|tn<|⟨(by rw [Ln (by simpa using Z)]; exact aI),aH,aO,aa,aa,aa,aa,aa,aa⟩
 exact aR<|tn<|⟨(by rw [Lo (by simpa using Z)]; exact V),ah,ai,aa,aa,aa,aa,aa,aa⟩
 rintro A J ⟨aK,aL,aQ,aY,aZ,a1,a2,a3,a0⟩
 refine fx 0 aY<|fx 1 aZ<|fx 4 a1<|fx 7 a2<|fx 8 a3<|fx 10 a0<|ak fun O=>p (cg j5 aa (aa) fun j ac=>by rw [fQ]; exact (aK).aM j)<|au (aj k)<|au (.int .i64<|ew 93<|s.drop k)<|p (bL ((k+(s.drop k).idxOf 93:Nat):Int) aa aa<|bm ab ab)<|p (bL ((k+(s.drop k).idxOf 93 +1:Nat):Int) aa aa<|bm ab ab)<|au (str<|eN (ib s k) [94])<|p (qO aa aa)<|e<|cM oF aa (vs:=dQ<|pE s k) aa aa aa aL aw fun a7 aT aJ=> ?_
 have aP:Wk w a7:=Md.trans' aQ aT fun k hk h=>by omega
 refine p aE<|ay<|O<|rt<|EN aa (dV aa j5 aa fun j ac=>by rw [fQ]; exact aJ.aM j) eE eE ?_
 refine ⟨⟨pE s k,by rw [if_neg q,decide_eq_false q]; rfl,fun _=>rfl⟩,aP⟩
theorem Rx (l:List UInt8) (a:Option Addr) (n c:Nat) (x:UInt8) (w:World) (G:aG w.heap a (U8 l)) (hn:l.length=n) (aw:n≤1048576):
 bf ao 282 (ba [.slice a n c,.int .u8 x.toNat]) w (fun v w'=>v= .int .i64 (ew x l)∧Wk w w'):=by
 refine enter func282 aa ntmps282 aa<|ak fun O=>ay<|O<|az fun V=>ak fun Y=>au (.slice a n c)<|p (bP pZ aa aa)<|p mv<|nl<|Y<|aB<|lp (fun E q M=> ∃ (i:Nat),(i≤n)∧(∀ j,j < i→l.getD j 0≠x)∧(M=w)∧(q 0= .slice a n c)∧(q 1= .int .u8 x.toNat)∧(q 7=aj n)∧(q 8=aj i)∧(n - i=E)) _ ⟨0,ab,(fun j J=>by omega),aa,aa,aa,aa,aa,aa⟩ ?_
 rintro E q M ⟨i,hi,C,ai,am,an,ap,aq,rfl⟩
 refine fx 0 am<|fx 1 an<|fx 7 ap<|fx 8 aq ?_
 subst ai
 refine ak fun Z=>p (lt aa aa)<|nl<|Z<|az fun ac=>cd aa (fun al=> ?_) fun al=> ?_
 refine aR<|ac<|az fun A=>aB<|ak fun ae=>au (aj i)<|p (cj (aj i) aa)<|nl<|ae<|ak fun ag=>au (.int .u8 x.toNat)<|au (.slice a n c)<|au (aj i)<|p (bd qE aa aa ab<|aG.ok (G)<|BE ab)<|p (ld yI aa<|BC (i:=i) G ab)<|p (cw aa aa)<|nl<|ag<|cd aa (fun I=> ?_) fun I=> ?_
 have av:l.getD i 0=x:=rr.1 ab
 exact ak fun ah=>au (aj i)<|p (cj (aj i) aa)<|nl<|ah<|rt<|br<|tr<|tr<|br<|tr<|bc aa<|⟨by rw [RQ (show i < l.length by omega) C av]; rfl,Md.refl _ _⟩
 exact aR<|bn<|A<|rg aa<|p (ad aa aa<|cC ab)<|p mv<|nl<|tn<|⟨_,ab,i+1,ab,(fun j J=>by rcases jh j i with h | h <;> first | exact C j h | (rw [show j=i by omega]; exact fun h2=>I<|by rw [h2])),aa,aa,aa,aa,aa,aa⟩
 exact ext<|bh<|bh<|be<|V<|ak fun A=>p aE<|nl<|A<|rt<|bc aa<|⟨by rw [RR (fun j J=>C j ab)]; rfl,Md.refl _ _⟩
theorem OQ (l:List UInt8) (i j:Nat) (B n cp a:Nat) (w:World) (hO:bq w B 5 1 (.slice (some ⟨a,0,none⟩) n cp) n (U8 l)) (ah:i < j∧j≤n) (al:n≤1048576):
 bf ao 283 (ba [.slice (some ⟨a,0,none⟩) n cp,aj i,aj j]) w (fun v w'=>v= .slice (some ⟨a,0,none⟩) (i+(n - j)) cp∧bq w' B 5 1 (.slice (some ⟨a,0,none⟩) (i+(n - j)) cp) (i+(n - j)) (U8<|l.take i++l.drop j)∧Md (fun q=>q=a) w w'):=by
 have ai:=BD hO
 have ae:=(a6 hO).1
 refine enter func283 aa ntmps283 aa<|ak fun A=>ay<|A<|ak fun C=>au (.slice (some ⟨a,0,none⟩) n cp)<|au (aj i)<|au (aj j)<|au (.slice (some ⟨a,0,none⟩) n cp)<|p (bP pZ aa aa)<|p (Vk qE aa aa aa aa ab)<|nl<|C<|az fun E=>ak fun G=>au (aj i)<|au (aj j)<|p (cw aa aa)<|nl<|G<|cd aa (fun h=>absurd h ab) fun ad=>aR<|E<|ak fun I=>au (.slice (some ⟨a,0,none⟩) n cp)<|p (bP pZ aa aa)<|p aE<|nl<|I<|az fun J=> ?_
 have c:(fun w'=>Wk w w') w.drew:=(Md.refl _ _).drew
 refine eL (fun w'=>Wk w w') 6 aa wide c<|bw 0 aa (.slice (some ⟨a,0,none⟩) n cp) c<|bw 1 aa (aj i) c<|bG 2 aa (fun _=>ss qE aa aa ab) (fun _=>c)<|bw 3 aa (.slice (some ⟨a,0,none⟩) n cp) c<|bw 4 aa (aj j) c<|bG 5 aa (fun _=>uu qE aa aa ab) (fun _=>c)<|dq 6 aa ag ag<|KQ (B:=B) (xs:=U8<|l.take i) (news:=U8<|l.drop j) (n:=i) (m:=n - j) qS (A2 (a8 hO c) ab ab) aa aa (show aG _ (fw (some ⟨a,0,none⟩) cp j 1) (U8<|l.drop j) from Ws<|a8 hO c) (by unfold fw; split <;> simp) (by rw [vo,gH]; omega) (Kp _) ab fun am V Z=>bG 7 aa (fun _=>aE) (fun h=>dv<|(show true =_ from by kernel_rfl).trans h)<|eK ag<|J<|ak fun M=>au (.slice (some ⟨a,0,none⟩) (i+(n - j)) cp)<|au (.slice (some ⟨a,0,none⟩) (i+(n - j)) cp)<|p (bP pZ aa aa)<|p mv<|p (Vl qE aa aa aa ab) ?_
 exact e<|NJ pZ Xs aa Z (by simp) aa ab fun an Y ac=>nl<|M<|ak fun O=>au (.slice (some ⟨a,0,none⟩) (i+(n - j)) cp)<|p (cj (.slice (some ⟨a,0,none⟩) (i+(n - j)) cp) aa)<|nl<|O<|rt<|bc aa<|⟨aa,by rw [vm]; exact ac,Md.trans (c.mono fun _ _ h=>h.elim)<|Md.trans V<|Y.mono fun q _ h=>by simpa [Value.ownBlock] using h.symm⟩
end Go.Hb.pw
section
namespace Go.Hb
open Go.Hb.pw
theorem C5 {s:List UInt8} {k:Nat} (h:(s.drop k).idxOf 93 < (s.drop k).length):eN (ib s k) [94]≠[]↔(s.drop k).idxOf 93≠0∧¬((s.drop k).idxOf 93=1∧(s.drop k).getD 0 0=94):=by
 unfold ib eN
 generalize c:s.drop k=l at*
 cases l with
 | nil=>simp at h
 | cons b r=>
   generalize hm:(b::r).idxOf 93=m at*
   cases m with
   | zero=>simp
   | succ m=>
     simp only [bX] at h
     simp only [sZ,iR,ph,mJ,uS,uT]
     by_cases a:b=94
     · subst a
       rw [if_pos rfl]
       cases m with
       | zero=>simp
       | succ m=>
         cases r with
         | nil=>simp at h
         | cons x r=>simp
     · rw [if_neg (by simpa using a)]
       simp [a]
theorem Lp {s:List UInt8} {k:Nat} (h:(s.drop k).idxOf 93 < (s.drop k).length) (A:(s.drop k).idxOf 93≠0):pE s k=fk (91::(s.drop k).take ((s.drop k).idxOf 93 +1)):=by
 funext x
 unfold pE ib eN fk
 generalize E:s.drop k=l at*
 cases l with
 | nil=>simp at h
 | cons b r=>
   generalize hm:(b::r).idxOf 93=m at*
   cases m with
   | zero=>exact absurd rfl A
   | succ m=>
     simp only [bX] at h
     have C:(91::rl (m+1 +1) (b::r)).length=m+3:=by simp only [bX,ee]; omega
     rw [C,if_neg (show ¬m+3=1 by omega)]
     have c:(91::rl (m+1 +1) (b::r)).getD 1 0=b:=rfl
     have q:rl (m+3 - 1) (91::rl (m+1 +1) (b::r))=91::rl (m+1) (b::r):=by
      show rl (m+2) (91::rl (m+2) (b::r))=_
      rw [sZ,List.take_take,Nat.min_eq_left ab]
     rw [c,q]
     simp only [sZ,ph,uS,uT,iR]
     by_cases a:b=94
     · subst a; simp
     · simp [a]
theorem Pc:(fun x:UInt8=> !(fun _:UInt8=>false) x)=fk [46]:=by funext x; simp [fk]
theorem TB {c:UInt8} (h:c≠46):(fun x:UInt8=>(fun _:UInt8=>false) x || decide (x=c))=fk [c]:=by
 funext x
 simp only [fk,iR,if_true,Bool.false_or,mJ]
 exact decide_eq_decide.2 ⟨fun h1=> .inr h1.symm,fun h1=>(h1.resolve_left h).symm⟩
theorem D9 {ps:List (List UInt8)} (h:0 < ps.length):ku ps≠[]:=zR (f:=fun t=>dQ<|fk t) (m:=4) (fun _=>rfl) aw h
theorem D8 {h:Array Obj} {a:Option Addr} {ps:List (List UInt8)} {i:Nat} (c:aG h a (ku ps)) (hi:i < ps.length):∀ j,j < 4→Hb.aM h (bk a) (fo a+i*4 +j)=(dQ<|fk<|ps.getD i [])[j]? :=by
 have :=gr (f:=fun t=>dQ<|fk t) (m:=4) (fun _=>rfl) c<|bW hi
 rw [cR,bW hi]; exact this
theorem F6 {b:UInt8} (h:(b.toNat:Int)=91):b=91:=rr.1 (by have :(91:UInt8).toNat=91:=rfl; omega)
theorem AS {b:UInt8} (h:¬(b.toNat:Int)=91):b≠91:=by rintro rfl; exact h rfl
theorem F5 {b:UInt8} (h:(b.toNat:Int)=46):b=46:=rr.1 (by have :(46:UInt8).toNat=46:=rfl; omega)
theorem G2 {b:UInt8} (h:¬(b.toNat:Int)=46):b≠46:=by rintro rfl; exact h rfl
theorem G6 {w:World} {B:Nat} {v:Value} {l:List (List UInt8)} {x:List UInt8} (h:w.ownsRow B 321 4 v (l.length+1) (ku l++dQ (fk x))):w.ownsRow B 321 4 v (l++ [x]).length (ku<|l++ [x]):=by
 rw [bK,NL]; simpa [ku] using h
theorem OR (l:List UInt8) (i j:Nat) (c A:Int) (B n cp a:Nat) (w:World) (hO:bq w B 5 1 (.slice (some ⟨a,0,none⟩) n cp) n (U8 l)) (C:i < j∧j≤n) (G:n≤1048576) (hi:c=(i:Nat)) (E:A=(j:Nat)):
 bf ao 283 (ba [.slice (some ⟨a,0,none⟩) n cp,.int .i64 c,.int .i64 A]) w (fun v w'=>v= .slice (some ⟨a,0,none⟩) (i+(n - j)) cp∧bq w' B 5 1 (.slice (some ⟨a,0,none⟩) (i+(n - j)) cp) (i+(n - j)) (U8<|l.take i++l.drop j)∧Md (fun q=>q=a) w w'):=by
 subst hi E; exact OQ l i j B n cp a w hO C G
theorem Vf (f:UInt8→Bool) (w:World):
 bf ao 266 (ba [.agg (dQ<|f).toArray]) w (fun v w'=>v=str (lr f)∧Wk w w'):=by
 have bS:(bytesOf f).length≤256:=tt f 256
 have bT:(bytesOf fun x=> !f x).length≤256:=tt _ 256
 refine enter func266 aa ntmps266 aa<|ak fun a0=>e<|iJ aa fun a7 aD am Z aH=>ay<|a0<|ak fun a1=>p (cg j5 aa (aa) fun j aP=>by rw [fQ]; exact (aH).aM j)<|e<|cl DF (C9 f _) aa fun v6 aW bu=> ?_
 obtain ⟨ag,al⟩:=bu
 obtain ⟨q,a,rfl⟩:=cT ag
 have E:=(a6 ag).2
 have Y:Wk w aW:=Md.trans Z.md al
 have aI:=al.B aH
 refine ay<|a1<|az fun a3=>aB<|ak fun a4=>au (.slice q (bytesOf f).length a)<|p (bP pZ aa aa)<|p (cw aa aa)<|ay<|a4<|cd aa (fun bw=> ?_) fun bw=> ?_
 exact ak fun G=>ay<|G<|rt<|br<|tr<|bc aa<|⟨by unfold lr; rw [if_pos (show (bytesOf f).length=256 by omega)]; rfl,Y⟩
 refine e6 (fun ai aX=> ∃ (aj:Bool),(aj=decide ((bytesOf f).length=1∧(bytesOf f).getD 0 0≠46∧(bytesOf f).getD 0 0≠91))∧(aX=aW)∧(ai 1=aU a7)∧(ai 3= .slice q (bytesOf f).length a)∧(ai 11= .bool aj)) ?_ ?_
 refine rg aa<|au (.slice q (bytesOf f).length a)<|p (bP pZ aa aa)<|p (cw aa aa)<|p mv<|gs (t:=15) aa (fun bx=> ?_) fun bx=> ?_
 refine aY aa (aJ (.slice q (bytesOf f).length a) aa)<|aY aa (bd qE aa aa ab<|aG.ok (E)<|BE ab)<|aY aa (ld yI aa<|BC (i:=0) E ab)<|aY aa (gE aa aa)<|p (bR aa)<|p mv<|gs (t:=21) aa (fun aO=> ?_) fun aO=> ?_
 exact aY aa (aJ (.slice q (bytesOf f).length a) aa)<|aY aa (bd qE aa aa ab<|aG.ok (E)<|BE ab)<|aY aa (ld yI aa<|BC (i:=0) E ab)<|aY aa (gE aa aa)<|p (bR aa)<|p aE<|nl<|tn<|⟨_,(by first | exact decide_eq_decide.2 ⟨fun h=>⟨ab,by first | exact G2 ab | exact fun h=>by omega,by first | exact AS ab | exact fun h=>by omega⟩,fun h=>by have h1:=h.2.2; exact fun h2=>h1<|F6 h2⟩ | rfl),aa,aa,aa,aa⟩
 exact aT aa<|aT aa<|aT aa<|aT aa<|p (bI aa)<|p aE<|nl<|tn<|⟨false,((decide_eq_false fun h=>h.2.1<|F5<|Decidable.of_not_not aO).symm),aa,aa,aa,aa⟩
 exact aT aa<|aT aa<|aT aa<|aT aa<|p (bI aa)<|p mv<|aT aa<|aT aa<|aT aa<|aT aa<|p (bI aa)<|p aE<|nl<|tn<|⟨false,((decide_eq_false fun h=>by omega).symm),aa,aa,aa,aa⟩
 rintro ai aX ⟨aj,am,bk,bC,bF,bD⟩
 refine fx 1 bC<|fx 3 bF<|fx 11 bD ?_
 subst bk
 refine cb aa (fun an=> ?_) fun an=> ?_
 have ah:(bytesOf f).length=1∧(bytesOf f).getD 0 0≠46∧(bytesOf f).getD 0 0≠91:=of_decide_eq_true<|am ▸ an
 exact ak fun G=>au (.slice q (bytesOf f).length a)<|p (zo yO aa (E)<|by simp)<|ay<|G<|rt<|br<|tr<|bc aa<|⟨by unfold lr; rw [if_neg (show ¬(bytesOf f).length=256 by omega),if_pos ah]; rfl,Y⟩
 have ah:¬((bytesOf f).length=1∧(bytesOf f).getD 0 0≠46∧(bytesOf f).getD 0 0≠91):=of_decide_eq_false<|am ▸ an
 refine ak fun G=>p (cg j5 aa (aa) fun j aP=>by rw [fQ]; exact (aI).aM j)<|e<|cl y5 (FQ f 93 _ _ rfl) aa fun v31 bZ bm=> ?_
 obtain ⟨rfl,A⟩:=bm
 refine ay<|G<|cb aa (fun aq=> ?_) fun aq=> ?_
 refine ak fun I=>p (cg j5 aa (aa) fun j aP=>by rw [fQ]; exact (A.B aI).aM j)<|e<|cl y4 (A1 f _) aa fun v33 b0 bo=> ?_
 obtain ⟨rfl,bb⟩:=bo
 refine e<|cl DF (C9 (fun x=> !f x) _) aa fun bW b1 bp=> ?_
 obtain ⟨aS,bg⟩:=bp
 obtain ⟨bM,bO,rfl⟩:=cT aS
 exact p (zo yO aa ((a6 aS).2)<|aa)<|p (cc aa aa<|by simp only [bX,fZ]; omega)<|p (cc aa aa<|by simp only [bX,fZ,bK]; omega)<|ay<|I<|rt<|br<|tr<|bc aa<|⟨by unfold lr; rw [if_neg (show ¬(bytesOf f).length=256 by omega),if_neg ah,if_pos aq]; rfl,Md.trans Y<|Md.trans A<|Md.trans bb bg⟩
 refine aR<|bn<|a3 ?_
 refine e6 (fun aZ aF=> ∃ (J:Option Addr) (C M:Nat),(((bytesOf f).filter (fun b=>decide (b≠94))++(if 94∈(bytesOf f) then [94] else [])).length=C)∧(bq aF aD.heap.size 5 1 (.slice J C M) C<|U8<|(bytesOf f).filter (fun b=>decide (b≠94))++(if 94∈(bytesOf f) then [94] else []))∧(Wk w aF)∧(C≤300)∧(aZ 3= .slice J C M)) ?_ ?_
 refine ak fun I=>au (.slice q (bytesOf f).length a)<|e<|cl Mm (Rx (bytesOf f) q _ a 94 _ (E.wk A) aa ab) aa fun v39 bH bs=> ?_
 obtain ⟨rfl,V⟩:=bs
 have aK:Wk w bH:=Md.trans Y<|Md.trans A V
 refine ay<|I<|ak fun a5=>p mv<|p (ge aa aa)<|nl<|a5<|cd aa (fun bv=> ?_) fun bv=> ?_
 have av:=r9 (c:=94) (l:=bytesOf f) ab
 have ax:=a8 (a8 ag A) V
 obtain ⟨O,rfl⟩:=TR ax ab
 refine rg aa<|au (.slice (some ⟨O,0,none⟩) (bytesOf f).length a)<|p mv<|p mv<|p (ad aa aa<|cC ab)<|e<|cl Mn (OR (bytesOf f) ((bytesOf f).idxOf 94) ((bytesOf f).idxOf 94 +1) _ _ aD.heap.size _ a O _ ax ab ab ab ab) aa fun v46 bJ bt=> ?_
 obtain ⟨rfl,aA,aN⟩:=bt
 have bh:Wk w bJ:=Md.trans' aK aN fun k hk h=>by have :=cV ax (show (bE (some ⟨O,0,none⟩) _ a).ownBlock=some O from rfl); have :=Z.md.size; omega
 have bz:=BD aA
 refine e<|lK qS aa aa fun bN b2 bQ ac a9=>e<|ap qS (a8 aA ac.md) aa (by have :=Z.md.size; have :=al.size; have :=A.size; have :=V.size; have :=aN.size; have :=ac.md.size; omega) aa (aG.fV a9) (aa) (aa) ab ab fun bY bL aC bl bV bU=> ?_
 have bi:=Wk.own (Md.trans bh ac.md) (a8 aA ac.md) bl Z.md.size
 rw [Ru (Lu f) av.2] at bz aC
 obtain ⟨a2,c2,rfl⟩:=cT aC
 have aV:bq bL aD.heap.size 5 1 (.slice a2 (((bytesOf f).idxOf 94 +((bytesOf f).length - ((bytesOf f).idxOf 94 +1)))+1) c2) (((bytesOf f).idxOf 94 +((bytesOf f).length - ((bytesOf f).idxOf 94 +1)))+1) (U8<|(bytesOf f).filter (fun b=>decide (b≠94))++ [94]):=by rw [vm]; exact aC
 exact p aE<|nl<|tn<|⟨a2,_,c2,(by have :=BD aV; rw [if_pos (uV.1 av.2)]; exact this),(by rw [if_pos (uV.1 av.2)]; exact aV),bi,(ab),aa⟩
 have ae:¬(94:UInt8)∈bytesOf f:=fun h=>by have h1:ew 94 (bytesOf f)=(bytesOf f).idxOf 94:=if_pos (uV.2 h); omega
 exact aR<|tn<|⟨q,(bytesOf f).length,a,(by rw [if_neg ae,GS ae,ep]),(by rw [if_neg ae,GS ae,ep]; exact a8 (a8 ag A) V),aK,(ab),aa⟩
 rintro aZ aF ⟨J,C,M,aQ,bB,bj,bA,bG⟩
 refine fx 3 bG ?_
 have aL:((bytesOf f).filter (fun b=>decide (b≠94))++(if 94∈(bytesOf f) then [94] else [])).length≤300:=by rw [aQ]; exact bA
 exact ak fun I=>au (.slice J C M)<|p (zo yO aa ((a6 bB).2)<|aQ)<|p (cc aa aa<|ea (JY aL _) aw)<|p (cc aa aa<|by rw [bK]; exact ea (Nat.add_le_add_right (JY aL _) _) aw)<|p aE<|nl<|I<|rt<|bc aa<|⟨by unfold lr; rw [if_neg (show ¬(bytesOf f).length=256 by omega),if_neg ah,if_neg (show ¬f 93=true from by rw [aq]; exact dv)]; rfl,bj⟩
theorem Ef (s:List UInt8) (w:World) (hs:s.length≤1048576):
 bf ao 164 (ba [str s]) w (fun v w'=>(∃ a,v= .tuple #[.agg [a].toArray,aj ((dX s).2)]∧bq w' w.heap.size 321 4 (a) ((dX s).1).length (ku<|(dX s).1))∧Wk w w'):=by
 refine enter func164 aa ntmps164 aa<|ak fun b3=>e<|gn xR fun aF dT dA ad aq=>ay<|b3<|az fun b8=>az fun bu=>rg aa<|au (str s)<|p (jP aa aa)<|p mv<|gs (t:=10) aa (fun O=> ?_) fun O=> ?_
 refine aT aa<|aT aa<|aT aa<|p (bR aa)<|nl<|bu<|ct aa<|az fun ai=>rg aa<|p (di (ps:= []) (L:= [.slice none 0 0]) ux aa<|aa)<|e<|fY pH aa (vs:= [.slice none 0 0]) aa aa aa aq aw fun E q A=> ?_
 have C:Wk w E:=Md.trans' ad.md q fun k hk h=>by omega
 exact ay<|ai<|rt<|tr<|fg aa (dV (cs:= [.slice none 0 0]) aa mg aa fun j G=>by cases j with | zero=>exact (a7 A).trans aa | succ j=>omega) eE<|⟨⟨.slice none 0 0,by unfold dX; rw [if_pos (.inl O)]; rfl,by unfold dX; rw [if_pos (.inl O)]; exact dS _ _ _ _⟩,C⟩
 refine aY aa (aJ (str s) aa)<|aY aa (dB u9 aa aa)<|aY aa (gt aa aa)<|p (bI aa)<|nl<|bu<|cd aa (fun cY=> ?_) fun cY=> ?_
 refine ak fun ai=>p (di (ps:= []) (L:= [.slice none 0 0]) ux aa<|aa)<|e<|fY pH aa (vs:= [.slice none 0 0]) aa aa aa aq aw fun E q A=> ?_
 have C:Wk w E:=Md.trans' ad.md q fun k hk h=>by omega
 exact ay<|ai<|rt<|tr<|fg aa (dV (cs:= [.slice none 0 0]) aa mg aa fun j G=>by cases j with | zero=>exact (a7 A).trans aa | succ j=>omega) eE<|⟨⟨.slice none 0 0,by unfold dX; rw [if_pos (.inr ab)]; rfl,by unfold dX; rw [if_pos (.inr ab)]; exact dS _ _ _ _⟩,C⟩
 refine aR<|b8<|az fun ai=>ak fun b9=>au (str s)<|p (jP aa aa)<|nl<|b9<|cd aa (fun ae=> ?_) fun ae=> ?_
 refine ak fun a5=>p (di (ps:= []) (L:= [.slice none 0 0]) ux aa<|aa)<|e<|fY pH aa (vs:= [.slice none 0 0]) aa aa aa aq aw fun E q A=> ?_
 have C:Wk w E:=Md.trans' ad.md q fun k hk h=>by omega
 refine ay<|a5<|rt<|tr<|fg aa (dV (cs:= [.slice none 0 0]) aa mg aa fun j G=>by cases j with | zero=>exact (a7 A).trans aa | succ j=>omega) eE ?_
 have bU:¬(s= []∨512 < s.length):=fun h=>h.elim O fun h=>by omega
 exact ⟨⟨.slice none 0 0,by unfold dX; rw [if_neg bU,if_pos ae]; rfl,by unfold dX; rw [if_neg bU,if_pos ae]; exact dS _ _ _ _⟩,C⟩
 refine aR<|ai<|ak fun a5=>e<|gn xR fun am dv dD bQ cp=> ?_
 have cP:Wk w dv:=Md.trans ad.md bQ.md
 have dC:=(bY.1 aq).1
 have co:=bQ.md.aB aq
 have hs:=hs
 refine nl<|a5<|az fun ca=>ak fun cc=>ay<|cc<|aB<|lp (fun bv aD Y=> ∃ (i:Nat) (c:List (List UInt8)) (aC:Value),(i≤s.length∧c.length≤i)∧(kL s i c)∧(Y.heap[am]? =some (.cells [aC].toArray 275 (0,0)))∧(Y.heap[aF]? =some (.cells [.slice none 0 0].toArray 275 (0,0)))∧(bq Y w.heap.size 321 4 (aC) (c).length<|ku<|c)∧(Wk w Y)∧(aD 0=str s)∧(aD 2=aU aF)∧(aD 4=aU am)∧(aD 5=aj i)∧(s.length - i=bv)) _ ⟨0,[],.slice none 0 0,(by simp),(kL.start s),cp,co,(dS _ _ _ _),cP,aa,aa,aa,(by first | rfl | exact iv<|if_neg aA),aa⟩ ?_
 rintro bv aD Y ⟨i,c,aC,hi,aW,aI,av,V,Z,c8,c9,da,db,rfl⟩
 refine fx 0 c8<|fx 2 c9<|fx 4 da<|fx 5 db<|az fun ce=>ak fun b4=>au (aj i)<|au (str s)<|p (dB u9 aa aa)<|p (lt aa aa)<|nl<|b4<|cd aa (fun cZ=> ?_) fun cZ=> ?_
 refine aR<|ce<|aB<|ak fun a1=>e<|al qW fun an b2 bS aQ cA=> ?_
 have aH:bD b2.heap an (dQ fun _=>false):=by rw [zn]; exact cA
 have bd:Wk w b2:=Md.trans Z aQ.md
 have bb:=aQ.md.aB aI
 have bc:=aQ.md.aB av
 have bs:=a8 V aQ.md
 have bS:an=Y.heap.size:=bS
 have dz:=(bY.1 aI).1
 have dw:=(bY.1 av).1
 have bo:=drop_cons (l:=s) (i:=i) 0 ab
 refine nl<|a1<|ak fun a2=>ay<|a2 ?_
 refine e6 (fun ah ag=>(s.getD i 0≠91)∧(bD ag.heap an<|dQ<|fk [s.getD i 0])∧(ag.heap[am]? =some (.cells [aC].toArray 275 (0,0)))∧(ag.heap[aF]? =some (.cells [.slice none 0 0].toArray 275 (0,0)))∧(bq ag w.heap.size 321 4 (aC) (c).length<|ku<|c)∧(Wk w ag)∧(ah 0=str s)∧(ah 2=aU aF)∧(ah 4=aU am)∧(ah 5=aj i)∧(ah 6=aU an)) ?_ ?_
 refine ak fun J=>au (str s)<|au (aj i)<|p (j8 u9 aa aa ab)<|nl<|J<|aB<|ak fun b5=>p (cw aa aa)<|ay<|b5<|cd aa (fun aS=> ?_) fun aS=> ?_
 refine az fun a3=>ak fun b6=>au (str s)<|au (aj i)<|p (bL ((i+1:Nat):Int) aa aa<|bm ab ab)<|e<|cl L5 (Ll s (i+1) _ hs ab) aa fun dP du cW=> ?_
 obtain ⟨⟨ci,rfl,c1⟩,hE36⟩:=cW
 have cO:Wk w du:=Md.trans bd hE36
 have bT:=F6 aS
 refine p mv<|p (xt aa aa)<|p (xt aa aa)<|p (xt aa aa)<|e<|cM oF aa (vs:=dQ ci) aa aa aa (hE36.B aH) aw fun dp aK bw=> ?_
 have bM:Wk w dp:=Md.trans' cO aK fun k hk h=>by have :=Z.size; omega
 have dK:=hE36.size
 have bx:=aK.aB (hE36.aB bb) fun h=>by omega
 have bG:=aK.aB (hE36.aB bc) fun h=>by omega
 have c3:=cx (a8 bs hE36) aK fun k hk h=>by have :=cV V hk; omega
 have dG:(s.drop<|i+1).length=s.length - (i+1):=gH
 refine p aE<|ay<|b6<|ak fun b7=>p mv<|p (no aa)<|nl<|b7<|cb aa (fun M=> ?_) fun M=> ?_
 have ax:j7 (s.drop i)=none:=by
  rw [bo,bT]
  refine Ni aa fun h=> ?_
  have dh:¬ew 93 (s.drop<|i+1) < 0:=by rw [show ew 93 (s.drop<|i+1)=(s.drop<|i+1).idxOf 93 from if_pos h.1]; omega
  have dj:=(C5 (s:=s) (k:=i+1) h.1).2 h.2
  rw [decide_eq_false dh,decide_eq_true dj] at M; cases M
 have aV:=aW.bad ab ax
 refine ak fun a4=>p (di (ps:= []) (L:= [.slice none 0 0]) ux aa<|aa)<|e<|fY pH aa (vs:= [.slice none 0 0]) aa aa aa bG aw fun E q A=> ?_
 have C:Wk w E:=Md.trans' bM q fun k hk h=>by omega
 refine ay<|a4<|rt<|tr<|br<|tr<|br<|tr<|br<|tr<|fg aa (dV (cs:= [.slice none 0 0]) aa mg aa fun j G=>by cases j with | zero=>exact (a7 A).trans aa | succ j=>omega) eE ?_
 have I:dX s=([],41):=by unfold dX; rw [if_neg (fun h=>h.elim O fun h=>by omega),if_neg ae,aV]
 exact ⟨⟨.slice none 0 0,by rw [I]; rfl,by rw [I]; exact dS _ _ _ _⟩,C⟩
 have aA:¬ew 93 (s.drop<|i+1) < 0:=fun h=>by rw [decide_eq_true h] at M; cases M
 have dk:eN (ib s<|i+1) [94]≠[]:=fun h=>by rw [h] at M; simp at M
 have aX:=r9 aA
 have bt:=(C5 (s:=s) (k:=i+1) aX.2).1 dk
 obtain rfl :=c1 aA
 rw [Lp aX.2 bt.1] at bw
 have ax:j7 (s.drop i)=some (91::(s.drop<|i+1).take ((s.drop<|i+1).idxOf 93 +1),(s.drop<|i+1).drop ((s.drop<|i+1).idxOf 93 +1)):=by rw [bo,bT]; exact Nk rfl aX.2 bt.1 bt.2
 have bp:=aW.step (j:=i+1 +(s.drop<|i+1).idxOf 93 +1) ax<|by rw [yg]; rfl
 have dJ:(s.drop<|i+1).idxOf 93 < s.length - (i+1):=by have :=aX.2; omega
 refine aR<|a3<|ak fun a4=>p (fa lO aa)<|p (ld mR aa<|(a7 bx).trans aa)<|p (cg j5 aa (aa) fun j G=>by rw [fQ]; exact (bw).aM j)<|e<|nM xu aa aa aa fun cf b0 dE aO cq=> ?_
 have cu:bD b0.heap cf (dQ<|fk (91::(s.drop<|i+1).take ((s.drop<|i+1).idxOf 93 +1))):=cq
 have bN:Wk w b0:=Md.trans bM aO.md
 have aZ:=a8 c3 aO.md
 have bz:=aO.md.aB bx
 have bH:=aO.md.aB bG
 refine e<|ap xu (aZ) aa (by have :=bN.size; omega) aa (aG.fV cu) (aa) (Ea _) ab ab fun dl dU bV bj dM dH=> ?_
 have bW:=G6 bV
 have bA:=bj.aB bz fun h=>dx aZ bz aw h
 have cG:=bj.aB bH fun h=>dx aZ bH aw h
 have cQ:=Wk.own bN aZ bj<|cz _
 refine p (fa lO aa)<|e<|dy El aa aa (eM bV) bA (by simp) fun dq bg cj=> ?_
 have cJ:Wk w dq:=Md.trans' cQ bg fun k hk h=>by have :=ad.md.size; omega
 exact nl<|a4<|ext<|mj aw<|bh<|be<|tn<|⟨_,ab,i+1 +(s.drop<|i+1).idxOf 93 +1,c++ [91::(s.drop<|i+1).take ((s.drop<|i+1).idxOf 93 +1)],dl,(by rw [bK,iR]; omega),bp,cj,(bg.aB cG fun h=>by omega),(cx bW bg fun k hk h=>dx bW bA aw<|h ▸ hk),cJ,aa,aa,aa,(by first | rfl | exact iv<|if_neg aA),aa⟩
 refine ak fun a3=>p (cw aa aa)<|ay<|a3<|cd aa (fun bl=> ?_) fun bl=> ?_
 refine rg aa<|p (cg j5 aa (aa) fun j G=>by rw [fQ]; exact (aH).aM j)<|e<|cl y4 (A1 (fun _=>false) _) aa fun dR dW cX=> ?_
 obtain ⟨rfl,ac⟩:=cX
 refine e<|cM oF aa (vs:=dQ fun x=> !(fun _:UInt8=>false) x) aa aa aa (ac.B aH) aw fun dr aL ck=> ?_
 have dL:=ac.size
 have cK:Wk w dr:=Md.trans' (Md.trans bd ac) aL fun k hk h=>by have :=Z.size; omega
 have cC:=aL.aB (ac.aB bb) fun h=>by omega
 have cE:=aL.aB (ac.aB bc) fun h=>by omega
 have c4:=cx (a8 bs ac) aL fun k hk h=>by have :=cV V hk; omega
 exact nl<|bn<|tn<|⟨(AS aS),(by rw [F5 bl,← Pc]; exact ck),cC,cE,c4,cK,aa,aa,aa,aa,aa⟩
 refine rg aa<|au (str s)<|au (aj i)<|p (j8 u9 aa aa ab)<|e<|cl Dw (Hi an (s.getD i 0) _ _ aH) aa fun dO dt cU=> ?_
 obtain ⟨rfl,cn,aN⟩:=cU
 have cN:Wk w dt:=Md.trans' bd aN fun k hk h=>by have :=Z.size; omega
 have cD:=aN.aB bb fun h=>by omega
 have cF:=aN.aB bc fun h=>by omega
 have c5:=cx bs aN fun k hk h=>by have :=cV V hk; omega
 exact nl<|bn<|tn<|⟨(AS aS),(by rw [← TB (G2 bl)]; exact cn),cD,cF,c5,cN,aa,aa,aa,aa,aa⟩
 rintro ah ag ⟨c2,cB,bF,cI,c7,cS,dc,dd,de,df,dg⟩
 refine fx 0 dc<|fx 2 dd<|fx 4 de<|fx 5 df<|fx 6 dg<|ak fun J=>p (fa lO aa)<|p (ld mR aa<|(a7 bF).trans aa)<|p (cg j5 aa (aa) fun j G=>by rw [fQ]; exact (cB).aM j)<|e<|nM xu aa aa aa fun ch b1 dF aP cv=> ?_
 have cy:bD b1.heap ch (dQ<|fk [s.getD i 0]):=cv
 have bO:Wk w b1:=Md.trans cS aP.md
 have a0:=a8 c7 aP.md
 have bB:=aP.md.aB bF
 have bJ:=aP.md.aB cI
 refine e<|ap xu (a0) aa (by have :=bO.size; omega) aa (aG.fV cy) (aa) (Ea _) ab ab fun dn dY bX bk dN dI=> ?_
 have bZ:=G6 bX
 have bC:=bk.aB bB fun h=>dx a0 bB aw h
 have cH:=bk.aB bJ fun h=>dx a0 bJ aw h
 have cR:=Wk.own bO a0 bk<|cz _
 have ax:j7 (s.drop i)=some ([s.getD i 0],s.drop (i+1)):=by rw [bo]; exact Nj c2
 have bp:=aW.step (j:=i+1) ax rfl
 refine p (fa lO aa)<|e<|dy El aa aa (eM bX) bC (by simp) fun ds bi cm=> ?_
 have cL:Wk w ds:=Md.trans' cR bi fun k hk h=>by have :=ad.md.size; omega
 exact nl<|J<|rg aa<|au (aj i)<|p (bL ((i+1:Nat):Int) aa aa<|bm ab ab)<|p aE<|nl<|bn<|tn<|⟨_,ab,i+1,c++ [[s.getD i 0]],dn,(by rw [bK,iR]; omega),bp,cm,(bi.aB cH fun h=>by omega),(cx bZ bi fun k hk h=>dx bZ bC aw<|h ▸ hk),cL,aa,aa,aa,(by first | rfl | exact iv<|if_neg aA),aa⟩
 refine ext<|bh<|bh<|be<|ca<|az fun a1=>az fun a2=> ?_
 obtain ⟨a6,a9,rfl⟩:=cT V
 have aV:=aW.done ab
 refine rg aa<|p (fa lO aa)<|p (ld mR aa<|(a7 aI).trans aa)<|p (bP p5 aa aa)<|p (gt aa aa)<|nl<|a2<|cd aa (fun c0=> ?_) fun c0=> ?_
 refine ak fun J=>p (di (ps:= []) (L:= [.slice none 0 0]) ux aa<|aa)<|e<|fY pH aa (vs:= [.slice none 0 0]) aa aa aa av aw fun E q A=> ?_
 have C:Wk w E:=Md.trans' Z q fun k hk h=>by omega
 refine ay<|J<|rt<|tr<|fg aa (dV (cs:= [.slice none 0 0]) aa mg aa fun j G=>by cases j with | zero=>exact (a7 A).trans aa | succ j=>omega) eE ?_
 have I:dX s=([],42):=by unfold dX; rw [if_neg (fun h=>h.elim O fun h=>by omega),if_neg ae,aV]; exact if_pos ab
 exact ⟨⟨.slice none 0 0,by rw [I]; rfl,by rw [I]; exact dS _ _ _ _⟩,C⟩
 refine aR<|a1<|ak fun J=>p (cg mg aa (aa) (show ∀ j,j < 1→Hb.aM Y.heap am (0 +j)= [bE a6 c.length a9][j]? from fun j G=>by cases j with | zero=>exact (a7 aI).trans aa | succ j=>omega))<|e<|fY pH aa (vs:= [.slice a6 c.length a9]) aa aa aa av aw fun E q A=> ?_
 have C:Wk w E:=Md.trans' Z q fun k hk h=>by omega
 have c6:=cx V q fun k hk h=>dx V av aw<|h ▸ hk
 refine ay<|J<|rt<|fg aa (dV (cs:= [.slice a6 c.length a9]) aa mg aa fun j G=>by cases j with | zero=>exact (a7 A).trans aa | succ j=>omega) eE ?_
 have I:dX s=(c,0):=by unfold dX; rw [if_neg (fun h=>h.elim O fun h=>by omega),if_neg ae,aV]; exact if_neg ab
 exact ⟨⟨_,by rw [I]; rfl,by rw [I]; exact c6⟩,C⟩
theorem Ug (ps:List (List UInt8)) (a:Option Addr) (c:Nat) (w:World) (V:aG w.heap a (ku ps)) (hn:ps.length≤4096):
 bf ao 239 (ba [.agg [.slice a ps.length c].toArray]) w (fun v w'=>v=str (pU ps)∧Wk w w'):=by
 refine enter func239 aa ntmps239 aa<|ak fun Z=>e<|iJ aa fun aN Y aP C O=>ay<|Z<|az fun ae=>az fun ag=>rg aa<|p (fa lO aa)<|p (ld mR aa<|O.aM 0)<|p (bP p5 aa aa)<|p (cw aa aa)<|nl<|ag<|cd aa (fun I=> ?_) fun I=> ?_
 exact ak fun E=>ay<|E<|rt<|tr<|bc aa<|⟨by unfold pU; rw [if_pos (gx ab)]; rfl,C.md⟩
 refine aR<|ae<|ak fun E=>ay<|E<|az fun ah=>ak fun ai=>p (fa lO aa)<|p (ld mR aa<|O.aM 0)<|p (bP p5 aa aa)<|p mv<|nl<|ai<|aB<|lp (fun M A J=> ∃ (i:Nat),(i≤ps.length)∧(Wk Y J)∧(((ps.take i).flatMap fun t=>lr<|fk t).length≤i*300)∧(A 3=str ((ps.take i).flatMap fun t=>lr<|fk t))∧(A 11= .slice a ps.length c)∧(A 12=aj (ps.length))∧(A 13=aj i)∧(ps.length - i=M)) _ ⟨0,ab,(Md.refl _ _),(by simp),(by first | rfl | (rw [kX ps i [] ab,qi,ri]; rfl)),aa,aa,aa,aa⟩ ?_
 rintro M A J ⟨i,hi,q,hlen,aK,aH,aI,aJ,rfl⟩
 refine fx 3 aK<|fx 11 aH<|fx 12 aI<|fx 13 aJ<|ak fun am=>p (lt aa aa)<|nl<|am<|az fun an=>cd aa (fun aF=> ?_) fun aF=> ?_
 refine aR<|an<|az fun G=>aB<|ak fun ac=>p (bd EJ aa aa ab<|aG.ok (V.wk<|Md.trans C.md q)<|D9 ab)<|p (cg j5 aa (aa) (show ∀ j,j < 4→Hb.aM J.heap (bk a) (fo a+i*4 +j)=(dQ<|fk<|ps.getD i [])[j]? from D8 (V.wk<|Md.trans C.md q) ab))<|e<|al qW fun aO aW aQ aC ap=>e<|cM oF aa (vs:=dQ<|fk<|ps.getD i []) aa aa aa ap aw fun aL aA aq=> ?_
 have ax:Wk Y aL:=Md.trans' (Md.trans q aC.md) aA fun k hk h=>by have :=q.size; omega
 refine nl<|ac<|rg aa<|au (str<|(ps.take i).flatMap fun t=>lr<|fk t)<|p (cg j5 aa (aa) fun j aS=>by rw [fQ]; exact (aq).aM j)<|e<|cl Mk (Vf (fk<|ps.getD i []) _) aa fun aU aV aD=> ?_
 obtain ⟨rfl,av⟩:=aD
 have aT:=HH<|fk<|ps.getD i []
 exact p (cc aa aa ab)<|p aE<|nl<|bn<|G<|rg aa<|p (ad aa aa<|cC ab)<|p mv<|nl<|tn<|⟨_,ab,i+1,ab,(Md.trans ax av),(by rw [kX ps i [] ab,qi,ri,bK]; omega),(by first | rfl | (rw [kX ps i [] ab,qi,ri]; rfl)),aa,aa,aa,aa⟩
 exact ext<|bh<|bh<|be<|ah<|ak fun G=>au (str<|(ps.take i).flatMap fun t=>lr<|fk t)<|p (cj (str<|(ps.take i).flatMap fun t=>lr<|fk t) aa)<|nl<|G<|rt<|bc aa<|⟨by unfold pU; rw [if_neg (fun h=>by rw [h] at I; exact I aa),show ps.take i=ps from e9 ab]; rfl,Md.trans C.md q⟩
end Go.Hb
end
section
namespace Go.Hb.ff
open Go.Hb.pw
theorem E8 {kind:Nat} {al:List (List Nat)} {s:Tx} (h:al= []):gd kind al s=kQ kind s:=if_pos h
theorem Qk {kind:Nat} {al:List (List Nat)} {s:Tx} {e:Nat} (h:al≠[]) (h1:eD s al.length= .error e):gd kind al s= .error 13:=by unfold gd; rw [if_neg h,h1]
theorem Qn {kind:Nat} {al:List (List Nat)} {s:Tx} (h:al≠[]) (h1:eD s al.length= .ok 0):gd kind al s= .error 13:=by unfold gd; rw [if_neg h,h1]; rfl
theorem Ql {kind n:Nat} {al:List (List Nat)} {s:Tx} (h:al≠[]) (h1:eD s al.length= .ok n) (a:n≠0):gd kind al s= .ok (al.getD (n - 1) []):=by unfold gd; rw [if_neg h,h1]; exact if_neg a
theorem FD {kind:Nat} {s:Tx} (h:(eY kind s).2=0):kQ kind s= .ok (eY kind s).1:=if_neg fun h2=>h2 h
theorem FA {kind:Nat} {s:Tx} (h:(eY kind s).2≠0):kQ kind s= .error (eY kind s).2:=if_pos h
theorem Hw {kind ln:Nat} {al:List (List Nat)} {c:dP} {r:List Tx} (h:r.length≠4) (h1:r.length≠5):jn kind al c ln r= .error 111:=by unfold jn; rw [if_pos ⟨h,h1⟩]
theorem pT {kind ln:Nat} {al:List (List Nat)} {c:dP} {r:List Tx} (h:r.length=4∨r.length=5):jn kind al c ln r=(match fW true (r.getD 2 []) with
 | .error e=> .error e
 | .ok st=>match k6 (bF<|r.getD 3 []) with
   | .error e=> .error e
   | .ok ad=>match nk kind al c.kind (bF<|r.getD 3 []) with
     | .error e=> .error e
     | .ok nx=>match mo r with
       | .error e=> .error e
       | .ok cd=> .ok ⟨c.kind,c.flag,c.gp,st,ad,cd,nx,ln⟩):=by unfold jn; rw [if_neg ab]; rfl
theorem Kq {r:lE} (h:r.2.2.2≠0):k6 r= .error r.2.2.2:=if_pos h
theorem Ku {r:lE} (h:r.2.2.2=0) (h1:r.1= [48]):k6 r= .ok []:=by unfold k6; rw [if_neg (fun h2=>h2 h),if_pos h1]
theorem Kr {r:lE} (h:r.2.2.2=0) (h1:r.1≠[48]) (h2:gX r.1≠0):k6 r= .error (gX r.1):=by unfold k6; rw [if_neg (fun h2=>h2 h),if_neg h1,if_pos h2]
theorem Ks {r:lE} (h:r.2.2.2=0) (h1:r.1≠[48]) (h2:gX r.1=0):k6 r= .ok r.1:=by unfold k6; rw [if_neg (fun h2=>h2 h),if_neg h1,if_neg (fun h3=>h3 h2)]
theorem Th {kind a:Nat} {al:List (List Nat)} {r:lE} (h:r.2.2.1=false):nk kind al a r= .ok []:=by unfold nk; rw [if_neg (by rw [h]; exact dv)]
theorem Tf {kind a:Nat} {al:List (List Nat)} {r:lE} (h:r.2.2.1=true) (h1:a=1):nk kind al a r= .error 118:=by unfold nk; rw [if_pos h,if_pos h1]
theorem GQ {kind a:Nat} {al:List (List Nat)} {r:lE} (h:r.2.2.1=true) (h1:a≠1):nk kind al a r=gd kind al r.2.1:=by unfold nk; rw [if_pos h,if_neg h1]
theorem N8 {r:List Tx} (h:r.length≠5):mo r= .ok [46]:=if_neg h
theorem N4 {r:List Tx} (h:r.length=5) (h1:gU (r.getD 4 [])=false):mo r= .error 21:=by unfold mo; rw [if_pos h,if_pos h1]
theorem N5 {r:List Tx} (h:r.length=5) (h1:gU (r.getD 4 [])=true) (h2:(dX<|r.getD 4 []).2≠0):mo r= .error (dX<|r.getD 4 []).2:=by unfold mo; rw [if_pos h,if_neg (by rw [h1]; exact dv),if_pos h2]
theorem N6 {r:List Tx} (h:r.length=5) (h1:gU (r.getD 4 [])=true) (h2:(dX<|r.getD 4 []).2=0):mo r= .ok (pU (dX<|r.getD 4 []).1):=by unfold mo; rw [if_pos h,if_neg (by rw [h1]; exact dv),if_neg (fun h3=>h3 h2)]
theorem Og (s:Tx):(dX s).1.length≤16:=by
 unfold dX
 split
 · simp
 · split
   · simp
   · split
     · simp
     · split
       · simp
       · rename_i h; exact Nat.le_of_not_lt h
theorem ES (B fb mc:Nat) (F:aC) (V:eh) (s:Tx) (w:World) (C:c8 w B fb mc F V) (hk:F.kind=1∨F.kind=2∨F.kind=3) (aD:∀ l∈F.aliases,l.length≤64∧l.Pairwise (· < ·)) (aL:F.aliases.length≤70000) (hs:s.length≤1048576):
 bf ao 140 (ba [aU fb,str s]) w (fun v w'=>((∃ a l,v= .tuple #[a,.int .i64 0]∧gd F.kind F.aliases s= .ok l∧bq w' w.heap.size 95 1 a l.length (l.map aX))∨(∃ a e,v= .tuple #[a,aj e]∧e≠0∧gd F.kind F.aliases s= .error e))∧Wk w w'):=by
 obtain ⟨aq,k8,ae⟩:=cT C.gM
 have O:=C.gM
 rw [ae] at O
 have J:Hb.aM w.heap fb 10=some (.slice aq F.aliases.length k8):=by rw [← ae]; exact (a7 C.cells).trans rfl
 refine enter func140 aa ntmps140 aa<|ak fun ag=>p aE<|ay<|ag<|az fun ah=>az fun ai=>rg aa<|au (aU fb)<|p (lN uA aa aa)<|nl<|ai<|cf (aa)<|aR<|ah<|az fun am=>ak fun an=>au (aU fb)<|p (nc aa)<|p (fa fU aa)<|p (fa oI aa)<|p (ld qu aa<|J)<|p (bP xK aa aa)<|p (cw aa aa)<|nl<|an<|cd aa (fun M=> ?_) fun M=> ?_
 have q:F.aliases= []:=gx ab
 refine ak fun G=>au (aU fb)<|p (nc aa)<|p (fa fU aa)<|p (fa rY aa)<|p (ld bO aa<|(a7 C.cells).trans aa)<|au (str s)<|e<|cl Dr (FF F.kind s _ hk hs) aa fun v23 aQ ax=> ?_
 obtain ⟨⟨a23,rfl,aJ⟩,hE23⟩:=ax
 refine p (xt aa aa)<|p (xt aa aa)<|p aE<|ay<|G<|rt<|tr<|f2 aa aa aa ?_
 refine ⟨?_,hE23⟩
 by_cases h:(eY F.kind s).2=0
 exact .inl ⟨a23,_,by rw [h]; rfl,by rw [E8 q]; exact FD h,aJ⟩
 exact .inr ⟨a23,_,aa,h,by rw [E8 q]; exact FA h⟩
 have q:F.aliases≠[]:=fun h=>by rw [h] at M; exact M rfl
 refine aR<|am<|ak fun G=>au (str s)<|au (aU fb)<|p (nc aa)<|p (fa fU aa)<|p (fa oI aa)<|p (ld qu aa<|J)<|p (bP xK aa aa)<|e<|cl vF (xa s (F.aliases.length:Nat) _ hs ab) aa fun aO aS aA=> ?_
 obtain ⟨rfl,c⟩:=aA
 refine p mv<|p (xt aa aa)<|p (xt aa aa)<|p aE<|ay<|G<|az fun ap=>ak fun Z=>p mv<|p (gE aa aa)<|p mv<|gs (t:=39) aa (fun aI=> ?_) fun aI=> ?_
 exact aT aa<|aT aa<|p (bR aa)<|nl<|Z<|ct aa<|ak fun A=>p aE<|ay<|A<|rt<|tr<|f2 aa aa aa<|⟨.inr ⟨.slice none 0 0,13,aa,aw,Qk q (wX ab).1⟩,c⟩
 refine aY aa mv<|aY aa (cw aa aa)<|p (bI aa)<|nl<|Z<|cd aa (fun aH=> ?_) fun aH=> ?_
 refine ak fun A=>p aE<|ay<|A<|rt<|tr<|f2 aa aa aa ?_
 have E:=wY (by omega :(fC s (F.aliases.length:Nat)).2=0)
 rw [show (fC s (F.aliases.length:Nat)).1=0 from by omega] at E
 exact ⟨.inr ⟨.slice none 0 0,13,aa,aw,Qn q E⟩,c⟩
 refine aR<|ap<|az fun A=> ?_
 have E:=wY (by omega :(fC s (F.aliases.length:Nat)).2=0)
 have aN:=wW s (F.aliases.length:Nat) ab
 have ac:(fC s (F.aliases.length:Nat)).1 - 1 < F.aliases.length:=ab
 obtain ⟨v51,Y,I⟩:=dE.get (C.al.wk c) ac
 obtain ⟨a51,aK,rfl⟩:=I.slice
 have aF:=aD _<|eZ (d:= []) ac
 refine rg aa<|au (aU fb)<|p (nc aa)<|p (fa fU aa)<|p (fa oI aa)<|p (ld qu aa<|Wk.aM c J)<|p mv<|p (dt (((fC s (F.aliases.length:Nat)).1 - 1:Nat):Int) aa aa<|bm ab ab)<|p (bd zD aa aa ab<|aG.ok ((a6<|a8 O c).2) fun h=>by rw [h] at Y; cases Y)<|p (ld mh aa<|aG.jk (a6<|a8 O c).2 Y)<|e<|cl Du (xc (F.aliases.getD ((fC s (F.aliases.length:Nat)).1 - 1) []) _ _ _ I.dG.2 (fun h=>Tg.sj I (by simp) h) ab) aa fun aP aV aB=> ?_
 obtain ⟨ad,av⟩:=aB
 rw [Ty aF.2] at ad
 exact p aE<|ay<|A<|rt<|f2 aa aa aa<|⟨.inl ⟨_,_,aa,Ql q E ab,e5 ad c.size⟩,c.trans av⟩
theorem xj (B:Nat) (H:cy) (F:aC) (V:eh) (R:gl) (rows:List Rw) (ln:Nat) (seen:List Tx) (c:dP) (r:List Tx) (b2:Nat) (ar:Option Addr) (cr:Nat) (w:World) (E:c8 w B H.fb H.mc F V) (C:cD w B H F R rows ln seen) (aY:j0 F rows seen) (d1:c.kind=1∨c.kind=2) (au:Tg w b2 9 r.length (.slice ar r.length cr) (r.map str)) (bi:r.length≤70000∧∀ x∈r,x.length≤70000):
 eG ao 201 (ba [.pointer (some ⟨H.rb,0,none⟩),.agg (mW c).toArray,.slice ar r.length cr]) w (fun v w'=> ∃ q,jn F.kind F.aliases c ln r= .ok q∧q.line=ln∧(∃ vn,v= .agg (dC (q,vn)).toArray∧Tg w' B 95 q.next.length vn (q.next.map aX))∧Wk w w') (fun aj w'=> ∃ e,jn F.kind F.aliases c ln r= .error e∧aj=ij 45 ln (e:Nat)∧Wk w w'):=by
 have dU:=au.dG
 have d6:=(bY.1 C.cells).1
 have d2:=C.lo.1
 refine jw func201 aa ntmps201 aa<|sq fun dK cB=>rg aa<|e<|iJ aa fun aW ey dY bv ci=>e<|al oW fun ac aU dZ aN cj=> ?_
 have aF:Wk w aU:=bv.md.trans aN.md
 have bM:=Wk.aM aF C.ei
 have eb:=bv.size
 have ee:=aN.size
 refine nl<|tn<|cB _ _ ?_
 refine e6 (fun aA bX=>(r.length=4∨r.length=5)∧(bX=aU)∧(aA 0= .pointer (some ⟨H.rb,0,none⟩))∧(aA 2= .slice ar r.length cr)∧(aA 4= .pointer (some ⟨aW,0,none⟩))∧(aA 6= .pointer (some ⟨ac,0,none⟩))) ?_ ?_
 refine rg aa<|p (aJ (.pointer<|some ⟨H.rb,0,none⟩) aa)<|p (aJ (.slice ar r.length cr) aa)<|p (bP iQ aa aa)<|p (cw aa aa)<|p mv<|gs (t:=20) aa (fun c5=> ?_) fun c5=> ?_
 refine sk aa aa aa aa<|sk aa aa aa aa<|sk aa aa aa aa<|p (bR aa)<|eP aa (c7 gy (gD H.rb ln _ 111 aU bM aw) aa fun v25 dB bc=> ?_) fun c w' A O E=>by first | exact absurd A.2.1 aw | exact ⟨111,Hw ab (by have :=of_decide_eq_false A.2.1; omega),A.1,by rw [A.2.2]; exact aF⟩
 obtain ⟨rfl,bN,rfl⟩:=bc
 exact nl<|tn<|⟨(.inl ab),aa,aa,aa,aa,aa⟩
 refine pg aa aa aa (aJ (.slice ar r.length cr) aa)<|pg aa aa aa (bP iQ aa aa)<|pg aa aa aa (cw aa aa)<|p (bI aa)<|eP aa (c7 gy (gD H.rb ln _ 111 aU bM aw) aa fun v25 dB bc=> ?_) fun c w' A O E=>by first | exact absurd A.2.1 aw | exact ⟨111,Hw ab (by have :=of_decide_eq_false A.2.1; omega),A.1,by rw [A.2.2]; exact aF⟩
 obtain ⟨rfl,bN,rfl⟩:=bc
 exact nl<|tn<|⟨(.inr<|by have :=of_decide_eq_true bN; omega),aa,aa,aa,aa,aa⟩
 rintro aA bX ⟨hlen,ct,c9,da,dc,dd⟩
 refine fx 0 c9<|fx 2 da<|fx 4 dc<|fx 6 dd ?_
 subst ct
 have aS:=aN.md.B ci
 refine sq fun dL cC=>rg aa<|p (fa tU aa)<|p (ld bO aa<|(aS.aM 1).trans aa)<|p (fa z6 aa)<|p (ld bZ aa<|(aS.aM 0).trans aa)<|p (fa Fp aa)<|p (ld pC aa<|(aS.aM 2).trans aa)<|p (di (ps:= [(0,.int .i64 (c.kind:Nat)),(1,aX c.flag),(2,.bool c.gp),(5,str [46])]) (L:= [.int .i64 (c.kind:Nat),aX c.flag,.bool c.gp,.string ⟨⟨[]⟩⟩,.string ⟨⟨[]⟩⟩,str [46],.slice none 0 0]) Bs aa<|aa)<|e<|al oW fun G eA d0 aO ck=> ?_
 have eg:=aO.size
 refine e<|cM mZ aa aa aa aa (ck) (by simp) fun b0 aI cf=> ?_
 have aH:Wk w b0:=(aF.trans aO.md).trans' aI fun k hk h=>by omega
 have cX:=aI.B (aO.md.B aS) fun h=>by omega
 have cZ:=aI.B (aO.md.B cj) fun h=>by omega
 have ej:=aI.size
 have bx:=(au.wk aH).dG
 have d3:(r.getD 2 []).length≤70000:=bi.2 _<|eZ ab
 have d4:(r.getD 3 []).length≤70000:=bi.2 _<|eZ ab
 refine nl<|tn<|cC _ _<|sq fun dM cE=>rg aa<|p (aJ (.pointer<|some ⟨H.rb,0,none⟩) aa)<|p (aJ (.slice ar r.length cr) aa)<|p (bd ec aa aa ab<|aG.ok (bx.2)<|db ab)<|p (ld cH aa<|dz.get (i:=2) bx.2 ab)<|eP aa (c7 Dq (G9 H.rb ln (r.getD 2 []) b0 (Wk.aM aH C.ei) ab) aa fun v37 ex cJ=> ?_) fun c w' A O E=>by obtain ⟨e,he,h,h2⟩:=A; exact ⟨e,by rw [pT hlen,he],h,aH.trans h2⟩
 obtain ⟨stx,bT,rfl,am⟩:=cJ
 refine p (fa pM aa)<|e<|st oG aa aa (aa) (am.B cf) (by simp) fun b1 aK ch=> ?_
 have bo:bD b1.heap G [.int .i64 (c.kind:Nat),aX c.flag,.bool c.gp,str stx,str [],str [46],.slice none 0 0]:=ch
 have br:Wk w b1:=(aH.trans am).trans' aK fun k hk h=>by omega
 have ea:=am.size
 have bE:=aK.B (am.B cX) fun h=>by omega
 have bG:=aK.B (am.B cZ) fun h=>by omega
 have bw:=(au.wk br).dG
 have d9:=aK.size
 refine nl<|tn<|cE _ _<|sq fun dN cF=>rg aa<|p (aJ (.slice ar r.length cr) aa)<|p (bd ec aa aa ab<|aG.ok (bw.2)<|db ab)<|p (ld cH aa<|dz.get (i:=3) bw.2 ab)<|e<|cl yS (BQ (r.getD 3 []) _ ab) aa fun eq dD cK=> ?_
 obtain ⟨rfl,I⟩:=cK
 have ae:=br.trans I
 have d7:=xQ<|r.getD 3 []
 refine p mv<|p (xt aa aa)<|p (xt aa aa)<|p (xt aa aa)<|p (xt aa aa)<|p aE<|p aE<|p aE<|p aE<|nl<|tn<|cF _ _<|sq fun dO cG=>rg aa<|p (aJ (.pointer<|some ⟨H.rb,0,none⟩) aa)<|p mv<|eP aa (c7 nN (nW H.rb ln ((bF<|r.getD 3 []).2.2.2:Nat) dD<|Wk.aM ae C.ei) aa fun v50 dE cL=> ?_) fun c w' A O E=>⟨_,by rw [pT hlen,bT,Kq (show (bF<|r.getD 3 []).2.2.2≠0 by have :=A.2.1; omega)],A.1,by rw [A.2.2]; exact ae⟩
 obtain ⟨rfl,aT,rfl⟩:=cL
 have aT:(bF<|r.getD 3 []).2.2.2=0:=ab
 refine nl<|tn<|cG _ _ ?_
 refine e6 (fun Y ai=> ∃ (Z:Tx),(k6 (bF<|r.getD 3 [])= .ok Z)∧(bD ai.heap G [.int .i64 (c.kind:Nat),aX c.flag,.bool c.gp,str stx,str Z,str [46],.slice none 0 0])∧(bD ai.heap aW<|mW c)∧(∃ L,L.length=7∧bD ai.heap ac L)∧(Wk w ai)∧(Y 0= .pointer (some ⟨H.rb,0,none⟩))∧(Y 2= .slice ar r.length cr)∧(Y 4= .pointer (some ⟨aW,0,none⟩))∧(Y 6= .pointer (some ⟨ac,0,none⟩))∧(Y 7= .pointer (some ⟨G,0,none⟩))∧(Y 9=str (bF<|r.getD 3 []).2.1)∧(Y 10= .bool (bF<|r.getD 3 []).2.2.1)) ?_ ?_
 refine sq fun aV ad=>rg aa<|p mv<|p (qO aa aa)<|nl<|tn<|ad _ _<|cd aa (fun aQ=> ?_) fun aQ=> ?_
 refine rg aa<|p (aJ (.pointer<|some ⟨H.rb,0,none⟩) aa)<|p mv<|eP aa (c7 Dy (Hk H.rb ln (bF<|r.getD 3 []).1 dE (Wk.aM ae C.ei) ab) aa fun v55 ez cN=> ?_) fun c w' A O E=>⟨_,by rw [pT hlen,bT,Kr aT aQ A.2.1],A.1,ae.trans A.2.2⟩
 obtain ⟨rfl,dv,an⟩:=cN
 refine p (fa tQ aa)<|e<|st oG aa aa (aa) (Wk.B (I.trans an) bo) (by simp) fun dJ bb cm=> ?_
 have cu:Wk w dJ:=(ae.trans an).trans' bb fun k hk h=>by omega
 have ed:=(I.trans an).size
 exact nl<|tn<|⟨(bF<|r.getD 3 []).1,(Ks aT aQ dv),cm,(bb.B (Wk.B (I.trans an) bE) fun h=>by omega),(⟨_,aa,bb.B (Wk.B (I.trans an) bG) fun h=>by omega⟩),cu,aa,aa,aa,aa,aa,aa,aa⟩
 exact aR<|tn<|⟨[],(Ku aT<|mI.1 aQ),(I.B bo),(I.B bE),(⟨_,aa,I.B bG⟩),ae,aa,aa,aa,aa,aa,aa,aa⟩
 rintro Y ai ⟨Z,av,aD,cY,bH,J,de,dg,dh,dj,dk,dl,df⟩
 refine fx 0 de<|fx 2 dg<|fx 4 dh<|fx 6 dj<|fx 7 dk<|fx 9 dl<|fx 10 df ?_
 skip
 refine e6 (fun aB M=> ∃ (nx:List Nat) (vn:Value),(nk F.kind F.aliases c.kind (bF<|r.getD 3 [])= .ok nx)∧(bD M.heap G [.int .i64 (c.kind:Nat),aX c.flag,.bool c.gp,str stx,str Z,str [46],vn])∧(Tg M (G+1) 95 nx.length vn<|nx.map aX)∧(∃ L,L.length=7∧bD M.heap ac L)∧(Wk w M)∧(aB 0= .pointer (some ⟨H.rb,0,none⟩))∧(aB 2= .slice ar r.length cr)∧(aB 6= .pointer (some ⟨ac,0,none⟩))∧(aB 7= .pointer (some ⟨G,0,none⟩))) ?_ ?_
 refine sq fun aV ad=>rg aa<|p (aJ (.bool (bF<|r.getD 3 []).2.2.1) aa)<|nl<|tn<|ad _ _<|cb aa (fun ax=> ?_) fun ax=> ?_
 skip
 refine sq fun b3 a2=>rg aa<|p (aJ (.pointer<|some ⟨H.rb,0,none⟩) aa)<|p (fa tU aa)<|p (ld bO aa<|(cY.aM 1).trans aa)<|p (cw aa aa)<|eP aa (c7 gy (gD H.rb ln _ 118 ai (Wk.aM J C.ei) aw) aa fun er bV cO=> ?_) fun aj w' A O E=>by have dT:=of_decide_eq_false A.2.1; exact ⟨118,by rw [pT hlen,bT]; simp only; rw [av]; simp only; rw [Tf ax ab],A.1,by rw [A.2.2]; exact J⟩
 obtain ⟨rfl,bQ,rfl⟩:=cO
 have bQ:=of_decide_eq_true bQ
 refine nl<|tn<|a2 _ _<|sq fun b4 a3=>rg aa<|p (aJ (.pointer<|some ⟨H.rb,0,none⟩) aa)<|p (nc aa)<|p (fa gu aa)<|p (ld eX aa<|Wk.aM J<|(a7 C.cells).trans aa)<|p (aJ (str (bF<|r.getD 3 []).2.1) aa)<|e<|cl Df (ES B H.fb H.mc F V (bF<|r.getD 3 []).2.1 _ (E.wk J) aY.kd aY.al (by have :=aY.len; omega)<|by have :=xQ (r.getD 3 []); omega) aa fun dy bW cP=> ?_
 obtain ⟨c3,ag⟩:=cP
 obtain ⟨bm,bn,rfl,bK⟩:∃ a,∃ e:Nat,dy= .tuple #[a,.int .i64 (e:Nat)]∧((e=0∧∃ l,gd F.kind F.aliases (bF<|r.getD 3 []).2.1= .ok l∧bq bW bV.heap.size 95 1 a l.length (l.map aX))∨(e≠0∧gd F.kind F.aliases (bF<|r.getD 3 []).2.1= .error e)):=by
  rcases c3 with ⟨a,l,h1,h2,h3⟩ | ⟨a,e,h1,h2,h3⟩
  exact ⟨a,0,h1,.inl ⟨aa,l,h2,h3⟩⟩
  exact ⟨a,e,h1,.inr ⟨h2,h3⟩⟩
 refine p mv<|p (xt aa aa)<|p (xt aa aa)<|p aE<|p aE<|nl<|tn<|a3 _ _<|sq fun b5 a4=>rg aa<|p (aJ (.pointer<|some ⟨H.rb,0,none⟩) aa)<|p mv ?_
 refine eP aa (c7 nN (nW H.rb ln (bn:Nat) bW<|Wk.aM (J.trans ag) C.ei) aa fun es dF cQ=> ?_) (fun aj w' A O E=>by
  rcases bK with ⟨h,_⟩ | ⟨h,h1⟩
  exact absurd ab A.2.1
  exact ⟨bn,by rw [pT hlen,bT]; simp only; rw [av]; simp only; rw [GQ ax ab,h1],A.1,by rw [A.2.2]; exact J.trans ag⟩)
 obtain ⟨rfl,d8,rfl⟩:=cQ
 obtain ⟨nx,ay,bf⟩:∃ l,gd F.kind F.aliases (bF<|r.getD 3 []).2.1= .ok l∧bq dF bV.heap.size 95 1 bm l.length (l.map aX):=by
  rcases bK with ⟨_,h⟩ | ⟨h,_⟩
  exact h
  exact absurd ab h
 refine nl<|tn<|a4 _ _<|rg aa<|p mv<|p (fa pN aa)<|e<|st rR aa aa (eM bf) (ag.B aD) (by simp) fun dH a8 b8=> ?_
 have co:Wk w dH:=(J.trans ag).trans' a8 fun k hk h=>by omega
 have ef:=ag.size
 exact nl<|tn<|⟨nx,bm,(by rw [GQ ax ab]; exact ay),b8,((Tg.kF<|cx bf a8 fun k hk h=>by have :=cV bf hk; have :=aD.lt; omega).mono aD.lt),(by obtain ⟨L,a5,aP⟩:=bH; exact ⟨L,a5,a8.B (ag.B aP) fun h=>by omega⟩),co,aa,aa,aa,aa⟩
 exact aR<|tn<|⟨[],.slice none 0 0,(Th<|by simpa using ax),aD,(⟨none,0,aa,cz _,.inl aa⟩),bH,J,aa,aa,aa,aa⟩
 rintro aB M ⟨nx,vn,ay,aZ,bC,bJ,aq,dn,dp,dq,dr⟩
 refine fx 0 dn<|fx 2 dp<|fx 6 dq<|fx 7 dr ?_
 refine e6 (fun bl az=> ∃ (ak:Tx),(mo r= .ok ak)∧(bD az.heap G [.int .i64 (c.kind:Nat),aX c.flag,.bool c.gp,str stx,str Z,str ak,vn])∧(Tg az (G+1) 95 nx.length vn<|nx.map aX)∧(∃ L,L.length=7∧bD az.heap ac L)∧(Wk w az)∧(bl 6= .pointer (some ⟨ac,0,none⟩))∧(bl 7= .pointer (some ⟨G,0,none⟩))) ?_ ?_
 refine sq fun aV ad=>rg aa<|p (aJ (.slice ar r.length cr) aa)<|p (bP iQ aa aa)<|p (cw aa aa)<|nl<|tn<|ad _ _<|cd aa (fun c2=> ?_) fun c2=> ?_
 have bh:r.length=5:=ab
 have d5:(r.getD 4 []).length≤70000:=bi.2 _<|eZ ab
 have bz:=(au.wk aq).dG
 refine sq fun b3 a2=>rg aa<|p (aJ (.pointer<|some ⟨H.rb,0,none⟩) aa)<|p (aJ (.slice ar r.length cr) aa)<|p (bd ec aa aa ab<|aG.ok (bz.2)<|db ab)<|p (ld cH aa<|dz.get (i:=4) bz.2 ab)<|eP aa (c7 yV (A5 H.rb ln (r.getD 4 []) M (Wk.aM aq C.ei) ab) aa fun et eB cR=> ?_) fun aj w' A O E=>⟨21,by rw [pT hlen,bT]; simp only; rw [av]; simp only; rw [ay]; simp only; rw [N4 bh A.2.1],A.1,aq.trans A.2.2⟩
 obtain ⟨rfl,bS,a1⟩:=cR
 have bs:=aq.trans a1
 have bA:=(au.wk bs).dG
 refine nl<|tn<|a2 _ _<|sq fun b4 a3=>rg aa<|p (aJ (.slice ar r.length cr) aa)<|p (bd ec aa aa ab<|aG.ok (bA.2)<|db ab)<|p (ld cH aa<|dz.get (i:=4) bA.2 ab)<|e<|cl Dj (Ef (r.getD 4 []) _ ab) aa fun eu eC cS=> ?_
 obtain ⟨⟨dR,rfl,bg⟩,hE89⟩:=cS
 obtain ⟨dw,dx,rfl⟩:=cT bg
 have bt:=bs.trans hE89
 refine p mv<|p (xt aa aa)<|p (xt aa aa)<|e<|al xR fun dS dA dW aL b9=> ?_
 have cp:=bt.trans aL.md
 refine e<|cM pH aa aa aa aa (b9) (by simp) fun bk ah ca=> ?_
 have a0:Wk w bk:=cp.trans' ah fun k hk h=>by have :=bt.size; omega
 have bj:Wk M dA:=(a1.trans hE89).trans aL.md
 have el:=a1.size
 have em:=hE89.size
 have en:=aL.size
 have eo:=ah.size
 have du:Wk M bk:=bj.trans' ah fun k hk h=>by omega
 refine p aE<|nl<|tn<|a3 _ _<|sq fun b5 a4=>rg aa<|p (aJ (.pointer<|some ⟨H.rb,0,none⟩) aa)<|p mv<|eP aa (c7 nN (nW H.rb ln ((dX<|r.getD 4 []).2:Nat) bk<|Wk.aM a0 C.ei) aa fun ev eD cU=> ?_) fun aj w' A O E=>⟨_,by rw [pT hlen,bT]; simp only; rw [av]; simp only; rw [ay]; simp only; rw [N5 bh bS (by have :=A.2.1; omega)],A.1,by rw [A.2.2]; exact a0⟩
 obtain ⟨rfl,bU,rfl⟩:=cU
 have bU:(dX<|r.getD 4 []).2=0:=ab
 refine nl<|tn<|a4 _ _<|rg aa<|p (cg mg aa (aa) fun j bL=>ca.bp j)<|e<|cl Mc (Ug (dX<|r.getD 4 []).1 dw dx _ (aG.md (aG.wk (a6 bg).2 aL.md) ah fun c6 h=>by have :=TP bg c6; omega)<|by have :=Og (r.getD 4 []); omega) aa fun ew eE cW=> ?_
 obtain ⟨rfl,ap⟩:=cW
 have cv:=a0.trans ap
 have ek:=ap.size
 refine p (fa Fj aa)<|e<|st oG aa aa (aa) (ap.B<|ah.B (bj.B aZ) fun h=>by have :=aZ.lt; omega) (by simp) fun dI a9 cc=> ?_
 have cq:Wk w dI:=cv.trans' a9 fun k hk h=>by omega
 exact nl<|tn<|⟨pU (dX<|r.getD 4 []).1,(N6 bh bS bU),cc,(Tg.GG (Tg.wk bC<|du.trans ap) a9 fun k hk=>by omega),(by obtain ⟨L,a5,aP⟩:=bJ; exact ⟨L,a5,a9.B (ap.B<|ah.B (bj.B aP) fun h=>by have :=aP.lt; omega) fun h=>by omega⟩),cq,aa,aa⟩
 exact aR<|tn<|⟨[46],(N8 ab),aZ,bC,bJ,aq,aa,aa⟩
 rintro bl az ⟨ak,c4,cn,bB,c0,cA,ds,dt⟩
 refine fx 6 ds<|fx 7 dt ?_
 obtain ⟨dQ,cI,c1⟩:=c0
 obtain ⟨b6,b7,rfl⟩:=bB.slice
 exact sq fun aV ad=>rg aa<|p (cg ju aa (aa) fun j bL=>cn.bp j)<|e<|cM mZ aa aa aa aa (c1) (by rw [cI]; decide) fun eF bu ce=>nl<|tn<|ad _ _<|rt<|iW<|tK aa (dV (cs:=dC (⟨c.kind,c.flag,c.gp,stx,Z,ak,nx,ln⟩,.slice b6 nx.length b7)) aa ju aa fun j bL=>by rw [ce.bp j,lC ab,ep]; rfl)<|⟨⟨c.kind,c.flag,c.gp,stx,Z,ak,nx,ln⟩,by rw [pT hlen,bT]; simp only; rw [av]; simp only; rw [ay]; simp only; rw [c4],aa,⟨_,aa,(Tg.GG bB bu fun k hk=>by have :=aN.size; omega).mono ab⟩,cA.trans' bu fun k hk h=>by omega⟩
end Go.Hb.ff
end
section
namespace Go.Hb.nJ
open Go.Hb.ff Go.Hb.pw
theorem c8.KV {w A G:World} {B fb mc:Nat} {F:aC} {V:eh} {v:Value} {x:Tx×Tx} (h:c8 w B fb mc F V) (hm:Md (fun k=>V.v9.ownBlock=some k) w A) (M:bq A B 189 2 v (F.du++ [x]).length (nn<|F.du++ [x])) (a:Md (fun k=>k=fb) A G) (O:G.heap[fb]? =some (.cells (nR {F with du:=F.du++ [x]} {V with v9:=v} mc).toArray 164 (0,0))):c8 G B fb mc {F with du:=F.du++ [x]} {V with v9:=v} :=by
 have c:TF w [191] (fun k=>V.v9.ownBlock=some k):=TF.own h.o9 aw
 have E:=hm.gT c h.cells aw
 have C:TF A [166] (fun k=>k=fb):=TF.eq (dD E) aw
 have I:∀ k,V.v9.ownBlock=some k→∀ cur z,w.heap[k]?≠some (.cells cur 95 z):=jD h.o9 aw
 have J:∀ k,k=fb→∀ cur z,A.heap[k]?≠some (.cells cur 95 z):=ic E aw
 obtain ⟨f,q,Y⟩:=h.cm
 have Z:=dK<|q.md hm<|c.no (dK q) aw
 exact ⟨O,cx M a (fun k hk q=>dx M E aw<|q ▸ hk),cX (cX h.gM hm c aw) a C aw,(h.al.md hm I).md a J,cX (cX h.gh hm c aw) a C aw,cX (cX h.eo hm c aw) a C aw,(h.nx.md hm I).md a J,⟨f,(q.md hm<|c.no (dK q) aw).md a (C.no Z aw),Y⟩,h.lo,h.jU⟩
theorem c8.KR {w A J:World} {B fb mc:Nat} {F:aC} {V:eh} {v:Value} {x:List Nat} {vx:Value} (h:c8 w B fb mc F V) (aa:Tg w B 95 x.length vx (x.map aX)) (hm:Md (fun k=>V.v10.ownBlock=some k) w A) (M:bq A B 51 1 v (F.aliases++ [x]).length (V.sa++ [vx])) (a:Md (fun k=>k=fb) A J) (O:J.heap[fb]? =some (.cells (nR {F with aliases:=F.aliases++ [x]} {V with v10:=v,sa:=V.sa++ [vx]} mc).toArray 164 (0,0))):c8 J B fb mc {F with aliases:=F.aliases++ [x]} {V with v10:=v,sa:=V.sa++ [vx]} :=by
 have c:TF w [53] (fun k=>V.v10.ownBlock=some k):=TF.own h.gM aw
 have E:=hm.gT c h.cells aw
 have C:TF A [166] (fun k=>k=fb):=TF.eq (dD E) aw
 have G:∀ k,V.v10.ownBlock=some k→∀ cur z,w.heap[k]?≠some (.cells cur 95 z):=jD h.gM aw
 have I:∀ k,k=fb→∀ cur z,A.heap[k]?≠some (.cells cur 95 z):=ic E aw
 obtain ⟨f,q,Y⟩:=h.cm
 have Z:=dK<|q.md hm<|c.no (dK q) aw
 exact ⟨O,cX (cX h.o9 hm c aw) a C aw,cx M a (fun k hk q=>dx M E aw<|q ▸ hk),((h.al.md hm G).md a I).snoc ((aa.md hm G).md a I),cX (cX h.gh hm c aw) a C aw,cX (cX h.eo hm c aw) a C aw,(h.nx.md hm G).md a I,⟨f,(q.md hm<|c.no (dK q) aw).md a (C.no Z aw),Y⟩,h.lo,h.jU⟩
theorem c8.KU {w A J:World} {B fb mc:Nat} {F:aC} {V:eh} {v:Value} {x:cK} {vx:Value} (h:c8 w B fb mc F V) (aa:Tg w B 95 x.next.length vx (x.next.map aX)) (hm:Md (fun k=>V.v12.ownBlock=some k) w A) (M:bq A B 134 7 v (F.rules++ [x]).length (fX<|(F.rules++ [x]).zip<|V.rn++ [vx])) (a:Md (fun k=>k=fb) A J) (O:J.heap[fb]? =some (.cells (nR {F with rules:=F.rules++ [x]} {V with v12:=v,rn:=V.rn++ [vx]} mc).toArray 164 (0,0))):c8 J B fb mc {F with rules:=F.rules++ [x]} {V with v12:=v,rn:=V.rn++ [vx]} :=by
 have c:TF w [136] (fun k=>V.v12.ownBlock=some k):=TF.own h.eo aw
 have E:=hm.gT c h.cells aw
 have C:TF A [166] (fun k=>k=fb):=TF.eq (dD E) aw
 have G:∀ k,V.v12.ownBlock=some k→∀ cur z,w.heap[k]?≠some (.cells cur 95 z):=jD h.eo aw
 have I:∀ k,k=fb→∀ cur z,A.heap[k]?≠some (.cells cur 95 z):=ic E aw
 obtain ⟨f,q,Y⟩:=h.cm
 have Z:=dK<|q.md hm<|c.no (dK q) aw
 exact ⟨O,cX (cX h.o9 hm c aw) a C aw,cX (cX h.gM hm c aw) a C aw,(h.al.md hm G).md a I,cX (cX h.gh hm c aw) a C aw,cx M a (fun k hk q=>dx M E aw<|q ▸ hk),(by rw [iw]; exact ((h.nx.md hm G).md a I).snoc<|(aa.md hm G).md a I),⟨f,(q.md hm<|c.no (dK q) aw).md a (C.no Z aw),Y⟩,h.lo,h.jU⟩
theorem cD.own {w w':World} {B:Nat} {H:cy} {F:aC} {R:gl} {rows:List Rw} {ln:Nat} {seen:List Tx} {B' e s n:Nat} {v:Value} {xs:List Value} (h:cD w B H F R rows ln seen) (C:bq w B' e s v n xs) (hm:Md (fun k=>v.ownBlock=some k) w w') (c:([e+2].contains 169 || [e+2].contains 183 || [e+2].contains 11 || [e+2].contains 5)=false):cD w' B H F R rows ln seen:=by
 have a:TF w [e+2] (fun k=>v.ownBlock=some k):=TF.own C<|by simp
 obtain ⟨f,q,_⟩:=h.sm
 obtain ⟨g,A,_⟩:=h.tm
 exact h.md hm a c (a.no (dK q)<|by simp)<|a.no (dK A)<|by simp
theorem cD.vY {w w':World} {B:Nat} {H:cy} {F:aC} {R:gl} {rows:List Rw} {ln:Nat} {seen:List Tx} {cs:Array Value} {z:Nat×Nat} (h:cD w B H F R rows ln seen) (c:w.heap[H.fb]? =some (.cells cs 164 z)) (hm:Md (fun k=>k=H.fb) w w'):cD w' B H F R rows ln seen:=by
 have a:TF w [166] (fun k=>k=H.fb):=TF.eq (dD c) aw
 obtain ⟨f,q,C⟩:=h.sm
 obtain ⟨g,A,E⟩:=h.tm
 exact h.md hm a aw (a.no (dK q) aw)<|a.no (dK A) aw
theorem Tg.AV {w:World} {b e n:Nat} {L:List Value} {z:Nat×Nat} (h:w.heap[b]? =some (.cells L.toArray e z)) (hn:n=L.length):Tg w b e n (.slice (some ⟨b,0,none⟩) n n) L:=⟨_,_,rfl,cz _,.inr ⟨b,_,_,rfl,cz _,h,fun j u hu=>by simpa using hu⟩⟩
theorem j0.rU {F:aC} {q:Rw} {rest:List Rw} {seen:List Tx} (h:j0 F (q::rest) seen):j0 F rest seen:=⟨by have :=h.len; simp only [bX] at this; omega,by have :=h.sl; simp only [bX] at this; omega,fun a h2=>h.row a (List.mem_cons_of_mem _ h2),h.kd,h.al⟩
theorem UB {eof ln e:Nat} {F:aC} {rows:List Rw} {r:List Tx} (h:eD (r.getD 1 []) 256= .error e):kH eof F rows ln r= .error (ln,e):=by unfold kH; rw [h]
theorem uq {eof ln n:Nat} {F:aC} {rows:List Rw} {r:List Tx} {e:Nat×Nat} (h:eD (r.getD 1 []) 256= .ok n) (h1:group [jy] mB eof n rows= .error e):kH eof F rows ln r= .error e:=by unfold kH; rw [h]; simp only; rw [h1]
theorem UC {eof ln n:Nat} {F:aC} {rows:List Rw} {r:List Tx} {q:List (Tx×Tx)×List Rw} (h:eD (r.getD 1 []) 256= .ok n) (h1:group [jy] mB eof n rows= .ok q):kH eof F rows ln r= .ok ({F with du:=F.du++q.1},q.2):=by unfold kH; rw [h]; simp only; rw [h1]
theorem AQ {s:Tx} {most:Int} {n:Nat} (h:eD s most= .ok n):(n:Int)≤most:=by
 unfold eD at h
 split at h
 · cases h
 · rename_i a; cases h; exact wW s most<|mI.1 a
theorem KF {eof ln:Nat} {F:aC} {hs:List Tx} {rows:List Rw} {r:List Tx} (h:iZ∈hs∨dA∈hs):j6 eof F hs rows ln r= .error (ln,113):=if_pos h
theorem KG {eof ln e:Nat} {F:aC} {hs:List Tx} {rows:List Rw} {r:List Tx} (a:¬(iZ∈hs∨dA∈hs)) (h:eD (r.getD 1 []) 1024= .error e):j6 eof F hs rows ln r= .error (ln,e):=by unfold j6; rw [if_neg a,h]
theorem vv {eof ln n:Nat} {F:aC} {hs:List Tx} {rows:List Rw} {r:List Tx} {e:Nat×Nat} (a:¬(iZ∈hs∨dA∈hs)) (h:eD (r.getD 1 []) 1024= .ok n) (h1:group [iX] (mi F.kind) eof n rows= .error e):j6 eof F hs rows ln r= .error e:=by unfold j6; rw [if_neg a,h]; simp only; rw [h1]
theorem KH {eof ln n:Nat} {F:aC} {hs:List Tx} {rows:List Rw} {r:List Tx} {q:List (List Nat)×List Rw} (a:¬(iZ∈hs∨dA∈hs)) (h:eD (r.getD 1 []) 1024= .ok n) (h1:group [iX] (mi F.kind) eof n rows= .ok q):j6 eof F hs rows ln r= .ok ({F with aliases:=F.aliases++q.1},q.2):=by unfold j6; rw [if_neg a,h]; simp only; rw [h1]
theorem KB {kind ln:Nat} {r:List Tx} (h:r.length≠2):mi kind ln r= .error 111:=if_pos h
theorem CR {kind ln:Nat} {r:List Tx} (h:r.length=2):mi kind ln r=kQ kind (r.getD 1 []):=if_neg ab
theorem Fz {kind:Nat} {s:Tx} (h:(eY kind s).2=0):(eY kind s).1.length≤64∧(eY kind s).1.Pairwise (· < ·):=by
 unfold eY at h ⊢
 split
 · simp
 · split
   · simp
   · split
     · simp
     · rename_i h3
       exact ⟨by have :=Tw ((eA kind s).map<|eJ kind); rw [e8] at this; exact ea this ab,AU _⟩
theorem Uw {ln:Nat} {r:List Tx} (h:r.length≠3):mB ln r= .error 111:=if_pos h
theorem Ux {ln e:Nat} {r:List Tx} (h:r.length=3) (h1:fW false (r.getD 1 [])= .error e):mB ln r= .error e:=by unfold mB; rw [if_neg ab,h1]
theorem Uy {ln e:Nat} {r:List Tx} {a:Tx} (h:r.length=3) (h1:fW false (r.getD 1 [])= .ok a) (h2:fW true (r.getD 2 [])= .error e):mB ln r= .error e:=by unfold mB; rw [if_neg ab,h1]; simp only; rw [h2]
theorem Uz {ln:Nat} {r:List Tx} {a b:Tx} (h:r.length=3) (h1:fW false (r.getD 1 [])= .ok a) (h2:fW true (r.getD 2 [])= .ok b):mB ln r= .ok (a,b):=by unfold mB; rw [if_neg ab,h1]; simp only; rw [h2]
theorem UD (B:Nat) (H:cy) (F:aC) (rows:List Rw) (ln:Nat) (seen:List Tx) (r:List Tx) (bf:Nat) (ar:Option Addr) (cr:Nat) (w:World) (G:St w B H F rows ln seen) (bE:Tg w bf 9 r.length (.slice ar r.length cr) (r.map str)) (ch:r.length=2) (bM:∀ x∈r,x.length≤70000):
 eG ao 132 (ba [.pointer (some ⟨H.rb,0,none⟩),.slice ar r.length cr]) w (iG B H seen (kH H.eof F rows ln r) w) (iF B H (kH H.eof F rows ln r) w):=by
 obtain ⟨V,R,ae,aN,aV⟩:=G
 have a5:=bE.dG
 have ci:(r.getD 1 []).length≤70000:=bM _<|eZ ab
 have cf:=aN.lo
 have ca:=aV.len
 refine jw func132 aa ntmps132 aa<|sq fun bZ bm=>rg aa<|p (aJ (.pointer<|some ⟨H.rb,0,none⟩) aa)<|p (aJ (.slice ar r.length cr) aa)<|p (bd ec aa aa ab<|aG.ok (a5.2)<|db ab)<|p (ld cH aa<|dz.get (i:=1) a5.2 ab)<|eP aa (c7 vG (xf H.rb ln (r.getD 1 []) 256 w aN.ei ab ab) aa fun v10 cm bx=> ?_) fun c w' C aD ae=>by obtain ⟨e,he,h,h2⟩:=C; exact ⟨ln,e,UB he,h,Wk.mw h2⟩
 obtain ⟨n,Y,rfl,aH⟩:=bx
 have cg:=AQ Y
 refine p mv<|nl<|tn<|bm _ _<|aB<|lp (fun aU aF aq=> ∃ (i:Nat) (xs:List (Tx×Tx)) (rows':List Rw) (aA:Nat) (A:eh) (R':gl),(i≤n)∧(gS [jy] mB H.eof (group [jy] mB H.eof n rows) xs (n - i) rows')∧(xs.length=i)∧(c8 aq B H.fb H.mc {F with du:=F.du++xs} A)∧(cD aq B H F R' rows' aA seen)∧(j0 {F with du:=F.du++xs} rows' seen)∧(eF B H w aq)∧(aF 0= .pointer (some ⟨H.rb,0,none⟩))∧(aF 10= .int .i64 (n:Nat))∧(aF 11= .int .i64 (i:Nat))∧(n - i=aU)) _ ⟨0,[],rows,ln,V,R,ab,gS.start,aa,(by rw [ep]; exact ae.wk aH),(aN.wk aH),(by rw [ep]; exact aV),(Wk.mw aH),aa,aa,aa,aa⟩ ?_
 rintro aU aF aq ⟨i,xs,rows',aA,A,R',hi,I,bS,aW,am,aj,aX,bN,bO,bQ,rfl⟩
 refine fx 0 bN<|fx 10 bO<|fx 11 bQ<|sq fun b0 bo=>rg aa<|p (lt aa aa)<|nl<|tn<|bo _ _<|sq fun b1 bp=>cd aa (fun bG=> ?_) fun bG=> ?_
 refine aR<|tn<|bp _ _<|sq fun b2 br=>aB<|sq fun b3 bs=>rg aa<|p (aJ (.pointer<|some ⟨H.rb,0,none⟩) aa)<|e<|qy (L:= [str jy]) kW aa aa aa aa fun bh bb b8 bw bi=> ?_
 have ac:Wk aq bb:=bw.md
 have aY:=aX.trans<|Wk.mw ac
 refine eP aa (c7 yX (Am B H F R' rows' aA seen [jy] bh 1 _ _ bb (am.wk ac) (Tg.AV bi aa) aa aw fun q bL=>(aj.row q bL).2.1) aa fun ck bT bz=> ?_) (fun c w' C aD ae=>by
  obtain ⟨h1,h2⟩:=C
  have hm:=aY.trans<|eF.rb (am.wk ac) h2
  rcases h1 with ⟨rfl,h3⟩ | ⟨ai,O,rest,rfl,h4,h3⟩
  exact ⟨_,_,uq Y (I.ends ab),h3,hm⟩
  exact ⟨_,_,uq Y (I.other ab h4),h3,hm⟩)
 obtain ⟨ai,O,rest,rfl,az,⟨bg,aO⟩,hT15,hM15⟩:=bz
 obtain ⟨b6,tv,rfl⟩:=hT15.slice
 have bl:=(aW.wk ac).rb (am.wk ac) hM15
 have aL:=aY.trans<|eF.rb (am.wk ac) hM15
 have a9:O≠[]∧O.length≤70000∧∀ x∈O,x.length≤70000:=aj.row (ai,O)<|by simp
 have au:=j0.rU aj
 have a3:=hT15.dG
 have bF:=aj.len
 simp only [bX,bK] at bF
 refine p aE<|nl<|tn<|bs _ _<|sq fun b4 bt=>rg aa<|p (aJ (.pointer<|some ⟨H.rb,0,none⟩) aa)<|p mv<|p (bP iQ aa aa)<|p (cw aa aa)<|eP aa (c7 gy (gD H.rb ai _ 111 bT aO.ei aw) aa fun v20 bU bA=> ?_) fun c w' C aD ae=>⟨_,_,uq Y (I.bad ab az<|Uw<|by have :=of_decide_eq_false C.2.1; omega),C.1,by rw [C.2.2]; exact aL⟩
 obtain ⟨rfl,bR,rfl⟩:=bA
 have aT:O.length=3:=by have :=of_decide_eq_true bR; omega
 have cc:=a9.2.2 _<|eZ (d:= []) (i:=1) ab
 have ce:=a9.2.2 _<|eZ (d:= []) (i:=2) ab
 refine nl<|tn<|bt _ _<|sq fun b5 bu=>rg aa<|p (aJ (.pointer<|some ⟨H.rb,0,none⟩) aa)<|p mv<|p (bd ec aa aa ab<|aG.ok (a3.2)<|db ab)<|p (ld cH aa<|dz.get (i:=1) a3.2 ab)<|eP aa (c7 Dp (Hc H.rb ai (O.getD 1 []) bU aO.ei ab) aa fun v25 Z bB=> ?_) fun c w' C aD ae=>by obtain ⟨e,he,h,h2⟩:=C; exact ⟨_,_,uq Y (I.bad ab az<|Ux aT he),h,aL.trans<|Wk.mw h2⟩
 obtain ⟨J,a8,rfl,av⟩:=bB
 have ah:=bl.wk av
 have an:=aO.wk av
 have a4:=hT15.wk av
 have aZ:=aL.trans<|Wk.mw av
 have aS:¬(A.v9.ownBlock=some H.rb):=dx ah.o9 an.cells aw
 have bH:¬(A.v9.ownBlock=some H.fb):=dx ah.o9 ah.cells aw
 refine p aE<|nl<|tn<|bu _ _ ?_
 have a:(fun w'=>Md (fun k=>A.v9.ownBlock=some k) Z w') Z.drew:=(Md.refl _ _).drew
 refine eL (fun w'=>Md (fun k=>A.v9.ownBlock=some k) Z w') 24 aa wide a<|cG 0 aa ag (fun _=>aJ (.pointer<|some ⟨H.rb,0,none⟩) aa) (fun _=>a)<|cG 1 aa ag (fun _=>nc aa) (fun _=>a)<|cG 2 aa ag (fun _=>fa gu aa) (fun _=>a)<|jS 3 aa ag (fun w' G=>ld eX aa<|Md.aM G ((a7 an.cells).trans aa) aS) a<|cG 4 aa ag (fun _=>aJ (.pointer<|some ⟨H.rb,0,none⟩) aa) (fun _=>a)<|cG 5 aa ag (fun _=>nc aa) (fun _=>a)<|cG 6 aa ag (fun _=>fa gu aa) (fun _=>a)<|jS 7 aa ag (fun w' G=>ld eX aa<|Md.aM G ((a7 an.cells).trans aa) aS) a<|cG 8 aa ag (fun _=>nc aa) (fun _=>a)<|cG 9 aa ag (fun _=>fa fU aa) (fun _=>a)<|cG 10 aa ag (fun _=>fa wi aa) (fun _=>a)<|jS 11 aa ag (fun w' G=>ld CQ aa<|Md.aM G ((a7 ah.cells).trans aa) bH) a<|cG 12 aa ag (fun _=>mv) (fun _=>a)<|cG 13 aa ag (fun _=>aJ (.pointer<|some ⟨H.rb,0,none⟩) aa) (fun _=>a)<|cG 14 aa ag (fun _=>mv) (fun _=>a) ?_
 refine cG 15 aa ag (fun _=>bd ec aa aa ab<|aG.ok (a4.dG.2)<|db ab) (fun _=>a)<|jS 16 aa ag (fun w' G=>ld cH aa<|dz.get (i:=2) (a4.md G<|jD ah.o9 aw).dG.2 ab) a<|Gm 17 aa ag aa (c7 Dq (G9 H.rb ai (O.getD 2 []) Z.drew (Md.aM a an.ei aS) ab) aa fun cl bV bC=> ?_) fun c w' C aD ae=>by obtain ⟨e,he,h,h2⟩:=C; exact ⟨_,_,uq Y (I.bad ab az<|Uy aT a8 he),h,aZ.trans<|Wk.mw<|jb h2⟩
 obtain ⟨M,bJ,rfl,ax⟩:=bC
 have ax:=jb ax
 have aP:(fun w'=>Md (fun k=>A.v9.ownBlock=some k) Z w') bV:=Md.mono ax fun _ _ h=>h.elim
 refine ⟨aP,?_⟩
 refine cG 18 aa ag (fun _=>di (ps:= [(0,str J),(1,str M)]) (L:= [str J,str M]) VF aa<|aa) (fun _=>aP)<|ja 19 aa ag<|nM xw aa aa aa fun b7 bW b9 a0 bj=> ?_
 have aI:=ax.trans a0.md
 have E:=ah.wk aI
 have a1:=an.wk aI
 have a2:(fun w'=>Md (fun k=>A.v9.ownBlock=some k) Z w') bW:=aP.trans' a0.md fun _ _ h=>h.elim
 refine ⟨a2,?_⟩
 refine ja 20 aa ag<|ap xw (E.o9) aa (by have :=(bY.1 a1.cells).1; omega) aa (aG.fV bj) (aa) (aa) (by simp only [bK]; omega) (by simp only [bK]; omega) fun v46 bc a6 ak cj cb=> ?_
 have bv:=(aZ.trans<|Wk.mw aI).trans<|Mw.of ak (TF.own E.o9 aw) fun k hk=>(cV E.o9 hk).1
 have bD:=cD.own a1 E.o9 ak aw
 have aQ:=ak.aB E.cells<|dx E.o9 E.cells aw
 have bI:bq bc B 189 2 v46 ((F.du++xs)++ [(J,M)]).length (nn<|(F.du++xs)++ [(J,M)]):=by rw [show nn ((F.du++xs)++ [(J,M)])=nn (F.du++xs)++ [str J,str M] from by simp [nn],bK]; exact a6
 have ay:(fun w'=>Md (fun k=>A.v9.ownBlock=some k) Z w') bc:=a2.trans' ak fun _ _ h=>h
 refine ⟨ay,?_⟩
 exact cG 21 aa ag (fun _=>nc aa) (fun _=>ay)<|cG 22 aa ag (fun _=>fa fU aa) (fun _=>ay)<|cG 23 aa ag (fun _=>fa wi aa) (fun _=>ay)<|dq 24 aa ag ag<|dy Ep aa aa (v:=v46) (eM a6) aQ (by show _ < 14; omega) fun cn aK bk=>eK ag<|bn<|tn<|br _ _<|rg aa<|p (ad aa aa<|cC ab)<|p mv<|nl<|tn<|⟨_,ab,i+1,xs++ [(J,M)],rest,ai,{A with v9:=v46},bg,ab,(by rw [show n - (i+1)=n - i - 1 by omega]; exact I.step ab az<|Uz aT a8 bJ),(by rw [bK,bS]; rfl),(by rw [← dZ]; exact c8.KV (x:=(J,M)) E ak bI aK bk),(cD.vY bD aQ aK),(⟨by simp only [bK,iR]; omega,au.sl,au.row,au.kd,au.al⟩),(bv.trans<|Mw.of aK (TF.eq (dD aQ) aw) fun k hk=>hk ▸ E.lo.1),aa,aa,aa,aa⟩
 refine ext<|te _<|te _<|be<|iW<|f0 aa ?_
 rw [show n - i=0 by omega] at I
 exact ⟨aa,_,rows',aA,UC Y I.done,⟨A,R',aW,am.congr aa (fun _=>rfl),aj⟩,aX⟩
theorem KE (B:Nat) (H:cy) (F:aC) (rows:List Rw) (ln:Nat) (seen:List Tx) (r:List Tx) (bu:Nat) (ar:Option Addr) (cr:Nat) (w:World) (A:St w B H F rows ln seen) (bf:Tg w bu 9 r.length (.slice ar r.length cr) (r.map str)) (cR:r.length=2) (cc:∀ x∈r,x.length≤70000):
 eG ao 133 (ba [.pointer (some ⟨H.rb,0,none⟩),.slice ar r.length cr]) w (iG B H seen (j6 H.eof F seen rows ln r) w) (iF B H (j6 H.eof F seen rows ln r) w):=by
 obtain ⟨V,R,ai,Y,aK⟩:=A
 have cF:=bf.dG
 have cS:(r.getD 1 []).length≤70000:=cc _<|eZ ab
 have cP:=Y.lo
 have cK:=aK.len
 obtain ⟨cW,bl,bo⟩:=Y.sm
 have cL:=sU (a:=iZ) (l:=seen)
 have cM:=sU (a:=dA) (l:=seen)
 have cT:=aK.sl
 refine jw func133 aa ntmps133 aa<|sq fun co bC=> ?_
 have C:(fun w'=>Wk w w') w.drew:=(Md.refl _ _).drew
 refine bT (fun w'=>Wk w w') aa wide C<|hp 0 aa ag (fun _ _=>aJ (.pointer<|some ⟨H.rb,0,none⟩) aa) C<|hp 1 aa ag (fun _ _=>aJ (.pointer<|some ⟨H.rb,0,none⟩) aa) C<|hp 2 aa ag (fun _ _=>nc aa) C<|hp 3 aa ag (fun _ _=>fa r4 aa) C<|hp 4 aa ag (fun w' A=>ld rE aa<|Wk.aM A<|(a7 Y.cells).trans aa) C<|hp 5 aa ag (fun w' A=>lh pY mH gL (bS.md (bl) A id) aa aa (⟨_,aa⟩)<|bo iZ) C<|hp 6 aa ag (fun _ _=>aJ (.pointer<|some ⟨H.rb,0,none⟩) aa) C<|hp 7 aa ag (fun _ _=>nc aa) C<|hp 8 aa ag (fun _ _=>fa r4 aa) C<|hp 9 aa ag (fun w' A=>ld rE aa<|Wk.aM A<|(a7 Y.cells).trans aa) C<|hp 10 aa ag (fun w' A=>lh pY mH gL (bS.md (bl) A id) aa aa (⟨_,aa⟩)<|bo dA) C<|hp 11 aa ag (fun _ _=>bL ((seen.count iZ+seen.count dA:Nat):Int) aa aa<|bm ab ab) C<|hp 12 aa ag (fun _ _=>cw aa aa) C ?_
 refine r8 13 aa ag aa (c7 gy (gD H.rb ln _ 113 w.drew (Wk.aM C Y.ei) aw) aa fun v20 a0 bW=> ?_) (fun c w' E aQ ai=>⟨ln,113,KF (Classical.byContradiction fun h2=>by
  have h1:=qg.2 fun h=>h2<|Or.inl h
  have h3:=qg.2 fun h=>h2<|Or.inr h
  exact of_decide_eq_false E.2.1 ab),E.1,by rw [E.2.2]; exact Wk.mw C⟩)
 obtain ⟨rfl,ci,bp⟩:=bW
 have aL:Wk w a0:=by rw [bp]; exact (Md.refl _ _).drew
 have am:¬(iZ∈seen∨dA∈seen):=by
  have cE:=of_decide_eq_true ci
  rintro (h | h)
  have :=yf.2 h; omega
  have :=yf.2 h; omega
 have bU:=Y.wk aL
 have bg:=(bf.wk aL).dG
 have b4:(fun w'=>Wk w w') a0:=by rw [bp]; exact C
 refine ⟨b4,?_⟩
 refine hn ag<|tn<|bC _ _<|sq fun cp bD=>rg aa<|p (aJ (.pointer<|some ⟨H.rb,0,none⟩) aa)<|p (aJ (.slice ar r.length cr) aa)<|p (bd ec aa aa ab<|aG.ok (bg.2)<|db ab)<|p (ld cH aa<|dz.get (i:=1) bg.2 ab)<|eP aa (c7 vG (xf H.rb ln (r.getD 1 []) 1024 a0 bU.ei ab ab) aa fun v25 cZ bZ=> ?_) fun c w' E aQ ai=>by obtain ⟨e,he,h,h2⟩:=E; exact ⟨ln,e,KG am he,h,Wk.mw<|aL.trans h2⟩
 obtain ⟨n,an,rfl,aq⟩:=bZ
 have cQ:=AQ an
 have aq:=aL.trans aq
 refine p mv<|nl<|tn<|bD _ _<|aB<|lp (fun a1 aS aH=> ∃ (i:Nat) (xs:List (List Nat)) (rows':List Rw) (aP:Nat) (I:eh) (R':gl),(i≤n)∧(gS [iX] (mi F.kind) H.eof (group [iX] (mi F.kind) H.eof n rows) xs (n - i) rows')∧(xs.length=i)∧(c8 aH B H.fb H.mc {F with aliases:=F.aliases++xs} I)∧(cD aH B H F R' rows' aP seen)∧(j0 {F with aliases:=F.aliases++xs} rows' seen)∧(eF B H w aH)∧(aS 0= .pointer (some ⟨H.rb,0,none⟩))∧(aS 25= .int .i64 (n:Nat))∧(aS 26= .int .i64 (i:Nat))∧(n - i=a1)) _ ⟨0,[],rows,ln,V,R,ab,gS.start,aa,(by rw [ep]; exact ai.wk aq),(Y.wk aq),(by rw [ep]; exact aK),(Wk.mw aq),aa,aa,aa,aa⟩ ?_
 rintro a1 aS aH ⟨i,xs,rows',aP,I,R',hi,Z,ck,a2,ay,ac,a4,cf,cg,ch,rfl⟩
 refine fx 0 cf<|fx 25 cg<|fx 26 ch<|sq fun cq bE=>rg aa<|p (lt aa aa)<|nl<|tn<|bE _ _<|sq fun cs bF=>cd aa (fun b7=> ?_) fun b7=> ?_
 refine aR<|tn<|bF _ _<|sq fun ct bG=>aB<|sq fun cu bH=>rg aa<|p (aJ (.pointer<|some ⟨H.rb,0,none⟩) aa)<|e<|qy (L:= [str iX]) kW aa aa aa aa fun bw br cI bQ bx=> ?_
 have ae:Wk aH br:=bQ.md
 have a5:=a4.trans<|Wk.mw ae
 refine eP aa (c7 yX (Am B H F R' rows' aP seen [iX] bw 1 _ _ br (ay.wk ae) (Tg.AV bx aa) aa aw fun q cb=>(ac.row q cb).2.1) aa fun cX cm bV=> ?_) (fun c w' E aQ ai=>by
  obtain ⟨h1,h2⟩:=E
  have hm:=a5.trans<|eF.rb (ay.wk ae) h2
  rcases h1 with ⟨rfl,h3⟩ | ⟨aA,M,rest,rfl,h4,h3⟩
  exact ⟨_,_,vv am an (Z.ends ab),h3,hm⟩
  exact ⟨_,_,vv am an (Z.other ab h4),h3,hm⟩)
 obtain ⟨aA,M,rest,rfl,aX,⟨bv,aN⟩,hT15,hM15⟩:=bV
 obtain ⟨cA,tv,rfl⟩:=hT15.slice
 have a3:=(a2.wk ae).rb (ay.wk ae) hM15
 have a6:=a5.trans<|eF.rb (ay.wk ae) hM15
 have ce:M≠[]∧M.length≤70000∧∀ x∈M,x.length≤70000:=ac.row (aA,M)<|by simp
 have aT:=j0.rU ac
 have bh:=hT15.dG
 have b6:=ac.len
 simp only [bX,bK] at b6
 refine p aE<|nl<|tn<|bH _ _<|sq fun cv bI=>rg aa<|p (aJ (.pointer<|some ⟨H.rb,0,none⟩) aa)<|p mv<|p (bP iQ aa aa)<|p (cw aa aa)<|eP aa (c7 gy (gD H.rb aA _ 111 cm aN.ei aw) aa fun v35 aD b0=> ?_) fun c w' E aQ ai=>⟨_,_,vv am an (Z.bad ab aX<|KB<|by have :=of_decide_eq_false E.2.1; omega),E.1,by rw [E.2.2]; exact a6⟩
 obtain ⟨rfl,cj,rfl⟩:=b0
 have bk:M.length=2:=by have :=of_decide_eq_true cj; omega
 have cO:=ce.2.2 _<|eZ (d:= []) (i:=1) ab
 refine nl<|tn<|bI _ _<|sq fun cx bJ=> ?_
 have J:(fun w'=>Wk aD w') aD.drew:=(Md.refl _ _).drew
 refine bT (fun w'=>Wk aD w') aa wide J<|hp 0 aa ag (fun _ _=>aJ (.pointer<|some ⟨H.rb,0,none⟩) aa) J<|hp 1 aa ag (fun _ _=>nc aa) J<|hp 2 aa ag (fun _ _=>fa gu aa) J<|hp 3 aa ag (fun w' A=>ld eX aa<|Wk.aM A<|(a7 aN.cells).trans aa) J<|hp 4 aa ag (fun _ _=>nc aa) J<|hp 5 aa ag (fun _ _=>fa fU aa) J<|hp 6 aa ag (fun _ _=>fa rY aa) J<|hp 7 aa ag (fun w' A=>ld bO aa<|Wk.aM A<|(a7 a3.cells).trans aa) J<|hp 8 aa ag (fun _ _=>mv) J<|hp 9 aa ag (fun _ _=>bd ec aa aa ab<|aG.ok (bh.2)<|db ab) J<|hp 10 aa ag (fun w' A=>ld cH aa<|Wk.aM A<|dz.get (i:=1) bh.2 ab) J<|he 11 aa ag<|cl Dr (FF F.kind (M.getD 1 []) _ aK.kd ab) aa fun cY bs b1=> ?_
 obtain ⟨⟨aI,rfl,aW⟩,ah⟩:=b1
 have ah:=jb ah
 have av:=a3.wk ah
 have az:=aN.wk ah
 have a9:=a6.trans<|Wk.mw ah
 have bi:¬(I.v10.ownBlock=some H.rb):=dx av.gM az.cells aw
 have b9:¬(I.v10.ownBlock=some H.fb):=dx av.gM av.cells aw
 have bB:B≤aD.heap.size:=by have :=(bY.1 aN.cells).1; omega
 have aj:(fun w'=>Wk aD w') bs:=ah
 refine ⟨aj,?_⟩
 refine hp 12 aa ag (fun _ _=>mv) aj<|hp 13 aa ag (fun _ _=>xt aa aa) aj<|hp 14 aa ag (fun _ _=>xt aa aa) aj<|hp 15 aa ag (fun _ _=>aE) aj<|hp 16 aa ag (fun _ _=>aE) aj<|hn ag<|tn<|bJ _ _<|sq fun cz bM=>rg aa<|p (aJ (.pointer<|some ⟨H.rb,0,none⟩) aa)<|p mv<|eP aa (c7 nN (nW H.rb aA ((eY F.kind<|M.getD 1 []).2:Nat) bs az.ei) aa fun v53 aF b3=> ?_) fun c w' E aQ ai=>⟨_,_,vv am an (Z.bad ab aX<|by rw [CR bk]; exact FA<|by have :=E.2.1; omega),E.1,by rw [E.2.2]; exact a9⟩
 obtain ⟨rfl,aY,rfl⟩:=b3
 have aY:(eY F.kind<|M.getD 1 []).2=0:=ab
 have b8:=Fz aY
 refine nl<|tn<|bM _ _ ?_
 have G:(fun w'=>Md (fun k=>I.v10.ownBlock=some k) aF w') aF.drew:=(Md.refl _ _).drew
 refine eL (fun w'=>Md (fun k=>I.v10.ownBlock=some k) aF w') 18 aa wide G<|cG 0 aa ag (fun _=>aJ (.pointer<|some ⟨H.rb,0,none⟩) aa) (fun _=>G)<|cG 1 aa ag (fun _=>nc aa) (fun _=>G)<|cG 2 aa ag (fun _=>fa gu aa) (fun _=>G)<|jS 3 aa ag (fun w' A=>ld eX aa<|Md.aM A ((a7 az.cells).trans aa) bi) G<|cG 4 aa ag (fun _=>aJ (.pointer<|some ⟨H.rb,0,none⟩) aa) (fun _=>G)<|cG 5 aa ag (fun _=>nc aa) (fun _=>G)<|cG 6 aa ag (fun _=>fa gu aa) (fun _=>G)<|jS 7 aa ag (fun w' A=>ld eX aa<|Md.aM A ((a7 az.cells).trans aa) bi) G<|cG 8 aa ag (fun _=>nc aa) (fun _=>G)<|cG 9 aa ag (fun _=>fa fU aa) (fun _=>G)<|cG 10 aa ag (fun _=>fa oI aa) (fun _=>G)<|jS 11 aa ag (fun w' A=>ld qu aa<|Md.aM A ((a7 av.cells).trans aa) b9) G<|cG 12 aa ag (fun _=>mv) (fun _=>G)<|ja 13 aa ag<|lK xx aa (eM aW) fun cB cn cJ bR bz=> ?_
 have au:=jb bR.md
 have O:=av.wk au
 have bb:=az.wk au
 have b5:=(Tg.kF<|a8 aW au).mono bB
 have bc:(fun w'=>Md (fun k=>I.v10.ownBlock=some k) aF w') cn:=Md.mono au fun _ _ h=>h.elim
 refine ⟨bc,?_⟩
 refine ja 14 aa ag<|ap xx (O.gM) aa (by have :=(bY.1 bb.cells).1; omega) aa (aG.fV bz) (aa) (by show List.all [aI] Value.oneCell'=true; simp only [List.all_cons,List.all_nil,eM aW,Bool.and_self]) (by simp only [bK]; omega) (by simp only [bK]; omega) fun aZ bt bj ax cU cN=> ?_
 have bN:=(a9.trans<|Wk.mw au).trans<|Mw.of ax (TF.own O.gM aw) fun k hk=>(cV O.gM hk).1
 have b2:=cD.own bb O.gM ax aw
 have aV:=ax.aB O.cells<|dx O.gM O.cells aw
 have ca:bq bt B 51 1 aZ ((F.aliases++xs)++ [(eY F.kind<|M.getD 1 []).1]).length (I.sa++ [aI]):=by rw [bK]; exact bj
 have aO:(fun w'=>Md (fun k=>I.v10.ownBlock=some k) aF w') bt:=bc.trans' ax fun _ _ h=>h
 refine ⟨aO,?_⟩
 exact cG 15 aa ag (fun _=>nc aa) (fun _=>aO)<|cG 16 aa ag (fun _=>fa fU aa) (fun _=>aO)<|cG 17 aa ag (fun _=>fa oI aa) (fun _=>aO)<|dq 18 aa ag ag<|dy Er aa aa (v:=aZ) (eM bj) aV (by show _ < 14; omega) fun c0 aU bA=>eK ag<|bn<|tn<|bG _ _<|rg aa<|p (ad aa aa<|cC ab)<|p mv<|nl<|tn<|⟨_,ab,i+1,xs++ [(eY F.kind<|M.getD 1 []).1],rest,aA,{I with v10:=aZ,sa:=I.sa++ [aI]},bv,ab,(by rw [show n - (i+1)=n - i - 1 by omega]; exact Z.step ab aX<|by rw [CR bk]; exact FD aY),(by rw [bK,ck]; rfl),(by rw [← dZ]; exact c8.KR (x:=(eY F.kind<|M.getD 1 []).1) (vx:=aI) O b5 ax ca aU bA),(cD.vY b2 aV aU),(⟨by simp only [bK,iR]; omega,aT.sl,aT.row,aT.kd,by intro l ak; rw [← dZ] at ak; rcases js.1 ak with ak | ak; exact ac.al l ak; rw [iS.1 ak]; exact b8⟩),(bN.trans<|Mw.of aU (TF.eq (dD aV) aw) fun k hk=>hk ▸ O.lo.1),aa,aa,aa,aa⟩
 refine ext<|te _<|te _<|be<|iW<|f0 aa ?_
 rw [show n - i=0 by omega] at Z
 exact ⟨aa,_,rows',aP,KH am an Z.done,⟨I,R',a2,ay.congr aa (fun _=>rfl),ac⟩,a4⟩
end Go.Hb.nJ
end
