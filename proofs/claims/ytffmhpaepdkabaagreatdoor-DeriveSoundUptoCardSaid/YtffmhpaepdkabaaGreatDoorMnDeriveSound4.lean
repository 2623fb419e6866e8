/-
  Walks and plain laws that the law rests on, laid together. No conditions but those that each theorem names.
-/
import Derived.Test.YtffmhpaepdkabaaGreatDoorMnDeriveSound3
set_option linter.unusedVariables false
set_option maxRecDepth 20000
set_option maxHeartbeats 1000000
open Array renaming getElem?_eq_some_iff→cy
open Bool renaming noConfusion→c7,or_eq_false_iff→n8
open Classical renaming not_not→lE
open Except.ok renaming injEq→o6
open Go.Proofs.Tryz renaming prog→ao
open Go.Value renaming bool→bQ,int→gG,slice→bB,tuple→jc
open Go.World renaming ownsRow→bp,ownsRow_nil→dJ
open List renaming any_eq_false→Gd,append_assoc→dK,append_nil→eb,count_eq_zero→om,count_le_length→qM,count_pos_iff→vv,drop_succ_cons→sO,drop_take→vw,drop_zero→sP,eq_nil_of_length_eq_zero→gr,find?_cons→Gi,find?_eq_none→zK,findIdx?_eq_none_iff→Gj,flatMap_append→nC,flatMap_singleton→oo,getD_cons_zero→ma,getD_eq_getElem?_getD→cX,getElem?_eq_getElem→cj,getElem?_eq_some_iff→eH,getElem?_map→gu,idxOf_lt_length_iff→vB,length→k3,length_append→bJ,length_cons→bV,length_drop→fU,length_map→eX,length_nil→fV,length_singleton→iH,length_take→ec,map_append→iJ,map_take→Gs,mem_append→mX,mem_cons→eY,mem_of_getElem?→gV,mem_singleton→lI,take→po,take_of_length_le→fq,take_succ_cons→qQ,take_zero→nG,toArray→a7
open Nat renaming add_le_add_left→GI,le_refl→cw,le_trans→e9,lt_or_ge→gI,zero_add→fF
open Option renaming getD_some→GN,isSome_iff_exists→nI
open UInt8 renaming toNat_inj→pA,toNat_lt→iS
open Go.Proofs.Tryz
open Go.Hb.dG Go.Proofs Go.Hb.eO Go.Hb.fW

namespace Go.Hb
theorem Nl {l:List Tx} {x:Tx} :∀ {i:Nat},i < l.length→(∀ j,j < i→l.getD j []≠x)→l.getD i []=x→l.idxOf x=i:=by
 induction l with
 | nil=>intro i h; simp at h
 | cons a l C=>
   intro i hi A c
   cases i with
   | zero=>simp only [ma] at c; rw [c,List.idxOf_cons_self]
   | succ i=>
     have q:=A 0 ab
     simp only [ma] at q
     rw [List.idxOf_cons,show (a==x)=false from by simpa using q,cond_false,C (i:=i) (by simpa using hi) (fun j E=>by have :=A (j+1) ab; simpa using this) (by simpa using c)]
theorem LR {a b:List Tx} (h:a.length≠b.length):a≠b:=fun h2=>h<|by rw [h2]
theorem MR {a b:List Tx} {i:Nat} (h:a.getD i []≠b.getD i []):a≠b:=fun h2=>h<|by rw [h2]
theorem MP {a b:List Tx} (c:a.length=b.length) (h:∀ i,i < a.length→a.getD i []=b.getD i []):a=b:=by
 apply List.ext_getElem c
 intro i h1 h2
 have :=h i h1
 rw [cX,cX,cj h1,cj h2] at this
 exact this
theorem Rj {s:Tx} {i:Nat} (h:i < s.length):(s.drop i).take 1= [s.getD i 0]:=by
 rw [drop_cons 0 h]; rfl
theorem E3 (b:UInt8):np [b]=gQ b:=by
 unfold np gk
 cases h:gQ b <;> simp [h]
theorem Er {s:Tx} {i:Nat} (h:i < s.length):(s.take<|i+1).drop i= [s.getD i 0]:=by
 rw [vw,show i+1 - i=1 from by omega,Rj h]
theorem B6 {s:Tx} (h:s= []∨gk s=false):gl s=21:=if_pos h
theorem Ma {s:Tx} (h:s≠[]) (h1:gk s=true) (h2:32 < s.length):gl s=22:=by unfold gl; rw [if_neg (by rw [h1]; simp [h]),if_pos h2]
theorem Mb {s:Tx} (h:s≠[]) (h1:gk s=true) (h2:¬32 < s.length):gl s=0:=by unfold gl; rw [if_neg (by rw [h1]; simp [h]),if_neg h2]
theorem PA {s:Tx} (h:s= [48]):fk true s= .ok []:=by unfold fk; rw [if_pos ⟨rfl,h⟩]
theorem DT {s:Tx} (h:s≠[48]):fk true s=fk false s:=by unfold fk; simp [h]
theorem Pv {s:Tx} (h:(bA s).2.2.2≠0):fk false s= .error (bA s).2.2.2:=by unfold fk; rw [if_neg (fun h2=>by cases h2.1),if_pos h]
theorem Pw {s:Tx} (h:(bA s).2.2.2=0) (h1:(bA s).2.2.1=true):fk false s= .error 114:=by unfold fk; rw [if_neg (fun h2=>by cases h2.1),if_neg (fun h2=>h2 h),if_pos h1]
theorem Px {s:Tx} (h:(bA s).2.2.2=0) (h1:(bA s).2.2.1=false) (h2:gl (bA s).1≠0):fk false s= .error (gl (bA s).1):=by unfold fk; rw [if_neg (fun h2=>by cases h2.1),if_neg (fun h2=>h2 h),if_neg (by rw [h1]; simp),if_pos h2]
theorem Py {s:Tx} (h:(bA s).2.2.2=0) (h1:(bA s).2.2.1=false) (h2:gl (bA s).1=0):fk false s= .ok (bA s).1:=by unfold fk; rw [if_neg (fun h2=>by cases h2.1),if_neg (fun h2=>h2 h),if_neg (by rw [h1]; simp),if_neg (fun h3=>h3 h2)]
theorem uj {s:Tx} {most:Int} (h:(eR s most).2=0):dZ s most= .ok (eR s most).1:=by unfold dZ; rw [if_neg (fun h2=>h2 h)]
theorem ui {s:Tx} {most:Int} (h:(eR s most).2≠0):dZ s most= .error 13∧(eR s most).2=13:=by
 refine ⟨by unfold dZ; rw [if_pos h],?_⟩
 rcases DE s most with h1 | ⟨h1,_⟩
 · rw [h1]
 · rw [h1] at h; exact absurd rfl h
theorem CW (l:List Tx) (a:Option Addr) (c:Nat) (x:Tx) (w:World) (I:da w.heap a l) (ar:l.length≤1048576):
 bd ao 192 (a7 [.slice a l.length c,str x]) w (fun v w'=>v= .int .i64 (if x∈l then (l.idxOf x:Nat) else -1:Int)∧w'=w):=by
 refine enter func192 aa ntmps192 aa<|ak fun O=>ay<|O<|az fun U=>ak fun V=>au (.slice a l.length c)<|p (bO gU aa aa)<|p mv<|nl<|V<|aB<|lp (fun G q M=> ∃ (i:Nat),(i≤l.length)∧(∀ j,j < i→l.getD j []≠x)∧(M=w)∧(q 0= .slice a l.length c)∧(q 1=str x)∧(q 7=aj (l.length))∧(q 8=aj i)∧(l.length - i=G)) _ ⟨0,ab,(fun j J=>by omega),aa,aa,aa,aa,aa,aa⟩ ?_
 rintro G q M ⟨i,hi,E,ah,al,am,an,ap,rfl⟩
 refine fx 0 al<|fx 1 am<|fx 7 an<|fx 8 ap ?_
 subst ah
 refine ak fun Y=>p (lt aa aa)<|nl<|Y<|az fun Z=>cd aa (fun ai=> ?_) fun ai=> ?_
 refine aO<|Z<|az fun C=>aB<|ak fun ac=>au (aj i)<|p (bZ (aj i) aa)<|nl<|ac<|ak fun ae=>au (str x)<|au (.slice a l.length c)<|au (aj i)<|p (a6 dN aa aa ab<|aE.ok (I)<|cY ab)<|p (ld cO aa<|da.get (i:=i) I ab)<|p (iM aa aa)<|nl<|ae<|cd aa (fun A=> ?_) fun A=> ?_
 exact ak fun ag=>au (aj i)<|p (bZ (aj i) aa)<|nl<|ag<|rt<|br<|tr<|tr<|br<|tr<|ba aa<|⟨by rw [if_pos (by rw [A]; exact e6 ab),Nl ab E A.symm]; rfl,aa⟩
 exact aO<|bn<|C<|rg aa<|p (ad aa aa<|cg ab)<|p mv<|nl<|tn<|⟨_,ab,i+1,ab,(fun j J=>by rcases gI j i with h | h <;> first | exact E j h | (rw [show j=i by omega]; exact fun h2=>A h2.symm)),aa,aa,aa,aa,aa,aa⟩
 exact ext<|bj<|bj<|be<|U<|ak fun C=>p aA<|nl<|C<|rt<|ba aa<|⟨by rw [if_neg (fun h=>by obtain ⟨j,J,aq⟩:=oR [] h; exact E j ab aq)]; rfl,aa⟩
theorem LS (l m:List Tx) (A E:Nat) (a b:Option Addr) (c d:Nat) (w:World) (Y:da w.heap a l) (Z:da w.heap b m) (aL:l.length=A) (aM:m.length=E) (aK:A≤1048576):
 bd ao 240 (a7 [.slice a A c,.slice b E d]) w (fun v w'=>v= .bool (decide (l=m))∧Wk w w'):=by
 refine enter func240 aa ntmps240 aa<|ak fun ah=>ay<|ah<|az fun am=>ak fun an=>au (.slice a A c)<|p (bO gU aa aa)<|au (.slice b E d)<|p (bO gU aa aa)<|p (fR aa aa)<|nl<|an<|cd aa (fun aw=> ?_) fun aw=> ?_
 exact ak fun J=>ay<|J<|rt<|tr<|ba aa<|⟨by show bQ false =_; rw [decide_eq_false (LR ab)],Md.refl _ _⟩
 have aC:l.length=m.length:=ab
 refine aO<|am<|az fun J=>ak fun ap=>au (.slice a A c)<|p (bO gU aa aa)<|p mv<|nl<|ap<|aB<|lp (fun V I G=> ∃ (i:Nat),(i≤A)∧(∀ j,j < i→l.getD j []=m.getD j [])∧(Wk w G)∧(I 0= .slice a A c)∧(I 1= .slice b E d)∧(I 12=aj A)∧(I 13=aj i)∧(A - i=V)) _ ⟨0,ab,(fun j ac=>by omega),(Md.refl _ _),aa,aa,aa,aa,aa⟩ ?_
 rintro V I G ⟨i,hi,ae,C,aD,aF,aG,aH,rfl⟩
 refine fx 0 aD<|fx 1 aF<|fx 12 aG<|fx 13 aH<|ak fun aq=>p (lt aa aa)<|nl<|aq<|az fun ar=>cd aa (fun ax=> ?_) fun ax=> ?_
 refine aO<|ar<|az fun M=>aB<|ak fun av=>au (aj i)<|p (bZ (aj i) aa)<|nl<|av<|az fun ai=> ?_
 have q:(fun w'=>Wk G w') G.drew:=(Md.refl _ _).drew
 refine bM (fun w'=>Wk G w') aa wide q<|bH 0 aa (.slice a A c) q<|bH 1 aa (aj i) q<|aJ 2 aa (fun _ _=>a6 dN aa aa ab<|aE.ok (Y.wk C)<|cY ab) q<|aJ 3 aa (fun w' O=>ld cO aa<|Wk.aI O<|da.get (i:=i) (Y.wk C) ab) q<|bH 4 aa (.slice b E d) q<|bH 5 aa (aj i) q<|aJ 6 aa (fun _ _=>a6 dN aa aa ab<|aE.ok (Z.wk C)<|cY ab) q<|aJ 7 aa (fun w' O=>ld cO aa<|Wk.aI O<|da.get (i:=i) (Z.wk C) ab) q<|aJ 8 aa (fun _ _=>oV aa aa) q<|hn ag<|ai<|cd aa (fun U=> ?_) fun U=> ?_
 exact ak fun al=>ay<|al<|rt<|br<|tr<|tr<|br<|tr<|ba aa<|⟨by show bQ false =_; rw [decide_eq_false (MR U)],C.drew⟩
 exact aO<|bn<|M<|rg aa<|p (ad aa aa<|cg ab)<|p mv<|nl<|tn<|⟨_,ab,i+1,ab,(fun j ac=>by rcases gI j i with h | h <;> first | exact ae j h | (rw [show j=i by omega]; exact lE.1 U)),C.drew,aa,aa,aa,aa,aa⟩
 exact ext<|bj<|bj<|be<|J<|ak fun M=>p aA<|nl<|M<|rt<|ba aa<|⟨by show bQ true =_; rw [decide_eq_true (MP aC fun j ac=>ae j ab)],C⟩
theorem mG (rb ln:Nat) (e:Int) (w:World) (q:Hb.aI w.heap rb 2=some (.int .i64 (ln:Nat))):
 ee ao 136 (a7 [.pointer (some ⟨rb,0,none⟩),.int .i64 e]) w (fun v w'=>v=jc #[]∧e=0∧w'=w) (fun c w'=>c=gB 47 ln e∧e≠0∧w'=w):=by
 refine iL func136 aa ntmps136 aa<|sq fun A a=>rg aa<|p (aH (.int .i64 e) aa)<|p (fR aa aa)<|nl<|tn<|a _ _<|cd aa (fun i=> ?_) fun i=> ?_
 exact rg aa<|p (aH (.pointer<|some ⟨rb,0,none⟩) aa)<|p (nc aa)<|p (fa rL aa)<|p (ld bK aa<|q)<|p (aH (.int .i64 e) aa)<|p (cT (ps:= [(0,.int .i64 1),(1,.int .i64 (ln:Nat)),(2,.int .i64 e)]) (L:= [.int .i64 1,.int .i64 (ln:Nat),.int .i64 e]) qj aa<|aa)<|p (ON yg aa)<|PF aa fun E C=>⟨aa,ab,aa⟩
 refine aO<|hU<|f0 aa ?_
 exact ⟨aa,ab,aa⟩
theorem fQ (rb ln:Nat) (b:Bool) (e:Int) (w:World) (C:Hb.aI w.heap rb 2=some (.int .i64 (ln:Nat))) (he:e≠0):
 ee ao 85 (a7 [.pointer (some ⟨rb,0,none⟩),.bool b,.int .i64 e]) w (fun v w'=>v=jc #[]∧b=true∧w'=w) (fun c w'=>c=gB 47 ln e∧b=false∧w'=w):=by
 refine iL func85 aa ntmps85 aa<|sq fun E q=>rg aa<|p (aH (.bool b) aa)<|p (no aa)<|nl<|tn<|q _ _<|cb aa (fun a=> ?_) fun a=> ?_
 refine rg aa<|p (aH (.pointer<|some ⟨rb,0,none⟩) aa)<|p (aH (.int .i64 e) aa)<|eP aa (cI mx (mG rb ln e w C) aa fun v10 I A=> ?_) fun c w' i J G=>⟨i.1,by simpa using a,i.2.2⟩
 exact absurd A.2.1 he
 refine aO<|hU<|f0 aa ?_
 exact ⟨aa,by simpa using a,aa⟩
theorem EI (B:Nat) (H:bT) (F:aG) (R:fG) (n:Nat) (r:List Tx) (rest:List Rw) (ln:Nat) (seen:List Tx) (w:World) (c:bW w B H F R ((n,r)::rest) ln seen):
 bd ao 84 (a7 [aW H.rb]) w (fun v w'=>(∃ R',bW w' B H F R' rest n seen)∧Tg w' B 9 r.length v (r.map str)∧Md (fun k=>k=H.rb) w w'):=by
 obtain ⟨vr,vs,vn⟩:=R
 obtain ⟨a,cp,aC⟩:=c.rws.slice
 obtain rfl :vr= .slice a (rest.length+1) cp:=aC
 obtain ⟨q,vs,rfl⟩:∃ q G,vs=q::G:=by
  cases vs with
  | nil=>exact absurd c.rt.1<|by simp
  | cons q G=>exact ⟨q,G,rfl⟩
 obtain ⟨C,aD⟩:=q
 obtain ⟨az,Y⟩:=c.rt.2 0 (C,aD) (n,r) rfl rfl
 obtain rfl :C=n:=az
 obtain ⟨ai,am,rfl⟩:=Y.slice
 have Z:rest.length+1≤cp∧aE w.heap a (kU ((C,.slice ai r.length am)::vs)):=c.rws.cells
 have A:=c.cells
 have aK:H.rb < w.heap.size:=(cy.1 A).1
 refine enter func84 aa ntmps84 aa<|ak fun ac=>ay<|ac<|ak fun ad=>au (aW H.rb)<|p (nc aa)<|p (fa rK aa)<|p (ld pH aa<|(aY A).trans aa)<|p (a6 pW aa aa ab<|aE.ok (Z.2)<|uw<|by simp)<|p (cz ti aa (aa)<|ux (i:=0) Z.2 aa)<|e<|al Fu fun aH aL aJ O ap=> ?_
 have ax:=O.md.aB A
 refine e<|ca Bp aa aa aa aa (ap) (by simp) fun aN I an=> ?_
 have V:=I.aB ax fun h=>by omega
 refine nl<|ad<|ak fun ae=>au (aW H.rb)<|au (aW H.rb)<|p (nc aa)<|p (fa rK aa)<|p (ld pH aa<|(aY V).trans aa)<|p (sh pW aa aa ab)<|p (nc aa)<|p (fa rK aa)<|e<|dF Bo aa aa (v:= .slice (eM a cp 1 2) rest.length<|cp - 1) aa V (by show _ < 7; decide) fun aM J aq=> ?_
 have U:=J.B an fun h=>by omega
 refine nl<|ae<|ak fun ag=>au (aW H.rb)<|p (fa tV aa)<|p (ld bK aa<|(U.aI 0).trans aa)<|p (nc aa)<|p (fa rL aa)<|e<|dF lj aa aa (v:=aj C) aa aq (by show _ < 7; decide) fun aF M ar=> ?_
 have av:=M.B U fun h=>by omega
 refine nl<|ag<|ak fun ah=>p (fa rM aa)<|p (ld oB aa<|(av.aI 1).trans aa)<|p aA<|nl<|ah<|rt<|ba aa ?_
 have E:Md (fun k=>k=H.rb) w aF:=(((O.md.mono fun _ _ h=>h.elim).trans' I fun k hk h=>by omega).trans' J fun _ _ h=>h).trans' M fun _ _ h=>h
 exact ⟨⟨⟨.slice (eM a cp 1 2) rest.length (cp - 1),vs,vn⟩,c.cB (R':=⟨.slice (eM a cp 1 2) rest.length (cp - 1),vs,vn⟩) E ar aa (c.rws.pT (m:=2)<|(Ef _).trans<|by have :=c.rt.1; simp at this; simp [this])<|gv.tl c.rt⟩,Y.md E (gz A aw),E⟩
theorem x3 (B:Nat) (H:bT) (F:aG) (R:fG) (rows:List Rw) (ln:Nat) (seen:List Tx) (hd:List Tx) (aj A:Nat) (E:Option Addr) (G:Nat) (w:World) (M:bW w B H F R rows ln seen) (ap:Tg w aj 9 A (.slice E A G) (hd.map str)) (O:hd.length=A) (aW:A≤1000) (aK:∀ q∈rows,q.2.length≤70000):
 ee ao 197 (a7 [.pointer (some ⟨H.rb,0,none⟩),.slice E A G]) w (fun v w'=> ∃ n r rest,rows=(n,r)::rest∧r.take hd.length=hd∧(∃ R',bW w' B H F R' rest n seen)∧Tg w' B 9 r.length v (r.map str)∧Md (fun k=>k=H.rb) w w') (fun c w'=>((rows= []∧c=gB 47 H.eof 116)∨(∃ n r rest,rows=(n,r)::rest∧r.take hd.length≠hd∧c=gB 47 n 116))∧Md (fun k=>k=H.rb) w w'):=by
 obtain ⟨a,cp,aL⟩:=M.rws.slice
 have Z:=M.cells
 have ac:=M.cells
 unfold sc at Z
 rw [aL] at Z
 refine iL func197 aa ntmps197 aa<|sq fun aR av=>rg aa<|p aA<|nl<|tn<|av _ _<|sq fun aS ax=>sq fun aT ay=>rg aa<|p (aH (.pointer<|some ⟨H.rb,0,none⟩) aa)<|p (nc aa)<|p (fa rK aa)<|p (ld pH aa<|(aY Z).trans aa)<|p (bO uO aa aa)<|p (bR aa aa)<|nl<|tn<|ay _ _<|cd aa (fun ah=> ?_) fun ah=> ?_
 obtain rfl :rows= []:=gr ab
 refine sq fun ak U=>rg aa<|p (aH (.pointer<|some ⟨H.rb,0,none⟩) aa)<|p (aH (.pointer<|some ⟨H.rb,0,none⟩) aa)<|p (nc aa)<|p (fa MC aa)<|p (ld bK aa<|(aY ac).trans aa)<|p (nc aa)<|p (fa rL aa)<|e<|dF lj aa aa (v:= .int .i64 (H.eof:Nat)) aa ac (by show _ < 7; decide) fun aQ az an=>nl<|tn<|U _ _<|rg aa<|p (aH (.pointer<|some ⟨H.rb,0,none⟩) aa)<|eP aa (cI mx (mG H.rb H.eof 116 aQ<|(aY an).trans aa) aa fun v20 a1 aB=> ?_) fun c w' i ai ae=>⟨.inl ⟨aa,i.1⟩,i.2.2 ▸ az⟩
 exact absurd aB.2.1 aw
 obtain ⟨q,rest,rfl⟩:∃ q rest,rows=q::rest:=by
  cases rows with
  | nil=>exact absurd rfl ah
  | cons q rest=>exact ⟨q,rest,rfl⟩
 obtain ⟨n,r⟩:=q
 refine aO<|tn<|ax _ _<|sq fun ak U=>rg aa<|p (aH (.pointer<|some ⟨H.rb,0,none⟩) aa)<|e<|cl A4 (EI B H F R n r rest ln seen _ M) aa fun aZ aM aC=> ?_
 obtain ⟨⟨am,J⟩,hT,I⟩:=aC
 obtain ⟨ar,cr,rfl⟩:=hT.slice
 have aF:=hT.dq
 have aX:r.length≤70000:=aK (n,r)<|by simp
 have aq:=ap.md I<|gz ac aw
 have au:=aq.dq
 have aV:=J.dR
 refine p aA<|nl<|tn<|U _ _<|sq fun aU ag=>rg aa<|p (aH (.pointer<|some ⟨H.rb,0,none⟩) aa)<|p mv<|p (bO gU aa aa)<|p (aH (.slice E A G) aa)<|p (bO gU aa aa)<|p (ge aa aa)<|p mv<|gs (t:=29) aa (fun aJ=> ?_) fun aJ=> ?_
 refine pg aa aa aa mv<|pg aa aa aa (aH (.slice E A G) aa)<|pg aa aa aa (bO gU aa aa)<|pg aa aa aa (uB dN aa aa ab)<|pg aa aa aa (aH (.slice E A G) aa)<|eg aa aa aa<|cl Ir (LS (r.take A) hd _ _ ar E cr G _ (by have :=aE.take aF.2 A; unfold da; rw [Gs]; exact this) au.2 (by rw [ec]; omega) O ab) aa fun a0 aN aD=> ?_
 obtain ⟨rfl,C⟩:=aD
 refine p (bL aa)<|eP aa (cI fM (fQ H.rb n _ 116 aN (by first | exact J.dR | exact Wk.aI C J.dR) aw) aa fun v37 aP Y=> ?_) fun c w' i ai ae=>⟨.inr ⟨n,r,rest,aa,(by rw [O]; first | exact of_decide_eq_false i.2.1 | exact fun h=>by have :=congrArg k3 h; rw [ec] at this; omega),i.1⟩,by rw [i.2.2]; first | exact I.trans' C (fun _ _ h=>h.elim) | exact I⟩
 obtain ⟨rfl,ad,rfl⟩:=Y
 exact nl<|tn<|ag _ _<|sq fun al V=>rg aa<|p mv<|p aA<|nl<|tn<|V _ _<|rt<|hU<|f1 aa aa<|⟨n,r,rest,aa,(by rw [O]; exact of_decide_eq_true ad),⟨am,J.wk C⟩,hT.wk C,I.trans' C fun _ _ h=>h.elim⟩
 refine sk aa aa aa aa<|sk aa aa aa aa<|sk aa aa aa aa<|sk aa aa aa aa<|sk aa aa aa aa<|sk aa aa aa aa<|p (bC aa)<|eP aa (cI fM (fQ H.rb n _ 116 aM (by first | exact J.dR | exact Wk.aI C J.dR) aw) aa fun v37 aP Y=> ?_) fun c w' i ai ae=>⟨.inr ⟨n,r,rest,aa,(by rw [O]; first | exact of_decide_eq_false i.2.1 | exact fun h=>by have :=congrArg k3 h; rw [ec] at this; omega),i.1⟩,by rw [i.2.2]; first | exact I.trans' C (fun _ _ h=>h.elim) | exact I⟩
 obtain ⟨rfl,ad,rfl⟩:=Y
 exact nl<|tn<|ag _ _<|sq fun al V=>rg aa<|p mv<|p aA<|nl<|tn<|V _ _<|rt<|hU<|f1 aa aa<|absurd ad aw
theorem uo (rb ln:Nat) (s:Tx) (most:Int) (w:World) (M:Hb.aI w.heap rb 2=some (.int .i64 (ln:Nat))) (hs:s.length≤1048576) (hm: -9223372036854775808≤most∧most≤9223372036854775807):
 ee ao 196 (a7 [.pointer (some ⟨rb,0,none⟩),str s,.int .i64 most]) w (fun v w'=> ∃ a,dZ s most= .ok a∧v= .int .i64 (a:Nat)∧Wk w w') (fun c w'=> ∃ e,dZ s most= .error e∧c=gB 47 ln e∧Wk w w'):=by
 refine iL func196 aa ntmps196 aa<|sq fun V A=>rg aa<|p aA<|nl<|tn<|A _ _<|sq fun Y C=>rg aa<|p (aH (str s) aa)<|p (aH (.int .i64 most) aa)<|e<|cl tz (uk s most _ hs hm) aa fun v12 U I=> ?_
 obtain ⟨rfl,q⟩:=I
 refine p mv<|p (xt aa aa)<|p (xt aa aa)<|p aA<|p aA<|nl<|tn<|C _ _<|sq fun Z E=>rg aa<|p (aH (.pointer<|some ⟨rb,0,none⟩) aa)<|p mv<|eP aa (cI mx (mG rb ln (eR s most).2 U<|Wk.aI q M) aa fun ad ae J=> ?_) fun c w' i ag ac=>⟨13,(ui i.2.1).1,(by rw [i.1,(ui i.2.1).2]; rfl),by rw [i.2.2]; exact q⟩
 obtain ⟨rfl,O,rfl⟩:=J
 exact nl<|tn<|E _ _<|sq fun ab G=>rg aa<|p mv<|p aA<|nl<|tn<|G _ _<|rt<|hU<|f1 aa aa<|⟨_,uj O,aa,q⟩
theorem yD (rb ln:Nat) (s:Tx) (w:World) (ah:Hb.aI w.heap rb 2=some (.int .i64 (ln:Nat))) (hs:s.length≤1048576):
 ee ao 193 (a7 [.pointer (some ⟨rb,0,none⟩),str s]) w (fun v w'=>v= .tuple #[]∧gk s=true∧Wk w w') (fun c w'=>c=gB 47 ln 21∧gk s=false∧Wk w w'):=by
 refine iL func193 aa ntmps193 aa<|sq fun an O=>rg aa<|p (aH (str s) aa)<|p (dv u9 aa aa)<|p mv<|nl<|tn<|O _ _<|aB<|lp (fun E a M=> ∃ (i:Nat),(i≤s.length)∧(∀ j,j < i→gQ (s.getD j 0)=true)∧(Wk w M)∧(a 0= .pointer (some ⟨rb,0,none⟩))∧(a 1=str s)∧(a 6= .int .i64 (s.length:Nat))∧(a 7= .int .i64 (i:Nat))∧(s.length - i=E)) _ ⟨0,ab,(fun j G=>by omega),(Md.refl _ _),aa,aa,aa,aa,aa⟩ ?_
 rintro E a M ⟨i,hi,I,q,ai,aj,ak,al,rfl⟩
 refine fx 0 ai<|fx 1 aj<|fx 6 ak<|fx 7 al<|sq fun ap U=>rg aa<|p (lt aa aa)<|nl<|tn<|U _ _<|sq fun aq V=>cd aa (fun ag=> ?_) fun ag=> ?_
 refine aO<|tn<|V _ _<|sq fun ar Y=>aB<|sq fun au Z=>rg aa<|p (aH (.int .i64 (i:Nat)) aa)<|p (bZ (.int .i64 (i:Nat)) aa)<|nl<|tn<|Z _ _<|rg aa<|p (aH (.pointer<|some ⟨rb,0,none⟩) aa)<|p (aH (str s) aa)<|p (aH (.int .i64 (i:Nat)) aa)<|p (aH (.int .i64 (i:Nat)) aa)<|p (bI ((i+1:Nat):Int) aa aa<|bf ab ab)<|p (si u9 aa aa aa ab)<|e<|cl AA (E5 ((s.take<|i+1).drop i) _<|by rw [fU,ec]; omega) aa fun ax am ac=> ?_
 obtain ⟨rfl,A⟩:=ac
 refine eP aa (cI fM (fQ rb ln _ 21 am (Wk.aI (q.trans A) ah) aw) aa fun ay az ae=> ?_) fun c w' C aA av=>⟨C.1,tw (i:=i) ab (by have h:=C.2.1; rw [Er (by omega :i < s.length),E3] at h; exact h),by rw [C.2.2]; exact q.trans A⟩
 obtain ⟨rfl,J,rfl⟩:=ae
 rw [Er (by omega :i < s.length),E3] at J
 exact nl<|bn<|tn<|Y _ _<|rg aa<|p (ad aa aa<|cg ab)<|p mv<|nl<|tn<|⟨_,ab,i+1,ab,(fun j G=>by rcases gI j i with h | h <;> first | exact I j h | (rw [show j=i by omega]; exact J)),(q.trans A),aa,aa,aa,aa,aa⟩
 refine ext<|te _<|te _<|be<|hU<|f0 aa ?_
 exact ⟨aa,tx (fun j G=>I j ab),q⟩
theorem D3 (rb ln:Nat) (s:Tx) (w:World) (A:Hb.aI w.heap rb 2=some (.int .i64 (ln:Nat))) (hs:s.length≤1048576):
 ee ao 241 (a7 [.pointer (some ⟨rb,0,none⟩),str s]) w (fun v w'=>v=str s∧gl s=0∧Wk w w') (fun c w'=>c=gB 47 ln (gl s:Nat)∧gl s≠0∧Wk w w'):=by
 refine iL func241 aa ntmps241 aa<|sq fun ag J=>rg aa<|p aA<|nl<|tn<|J _ _<|sq fun ah M=>rg aa<|p (aH (.pointer<|some ⟨rb,0,none⟩) aa)<|p (aH (str s) aa)<|eP aa (cI wc (yD rb ln s w A hs) aa fun an ae ac=> ?_) (fun c w' a I C=>by have h:gl s=21:=B6 (.inr a.2.1); exact ⟨by rw [h]; exact a.1,by rw [h]; decide,a.2.2⟩)
 obtain ⟨rfl,G,i⟩:=ac
 refine nl<|tn<|M _ _<|sq fun ai O=>rg aa<|p (aH (.pointer<|some ⟨rb,0,none⟩) aa)<|p (aH (str s) aa)<|p (oV aa aa)<|eP aa (cI fM (fQ rb ln _ 21 ae (Wk.aI i A) aw) aa fun v11 ad Y=> ?_) (fun c w' a I C=>by have h:gl s=21:=B6 (.inl<|lE.1<|of_decide_eq_false a.2.1); exact ⟨by rw [h]; exact a.1,by rw [h]; decide,by rw [a.2.2]; exact i⟩)
 obtain ⟨rfl,q,rfl⟩:=Y
 have q:s≠[]:=of_decide_eq_true q
 refine nl<|tn<|O _ _<|sq fun aj U=>rg aa<|p (aH (.pointer<|some ⟨rb,0,none⟩) aa)<|p (aH (str s) aa)<|p (dv u9 aa aa)<|p (le aa aa)<|eP aa (cI fM (fQ rb ln _ 22 ad (Wk.aI i A) aw) aa fun am ap Z=> ?_) (fun c w' a I C=>by have al:=of_decide_eq_false a.2.1; have h:gl s=22:=Ma q G ab; exact ⟨by rw [h]; exact a.1,by rw [h]; decide,by rw [a.2.2]; exact i⟩)
 obtain ⟨rfl,E,rfl⟩:=Z
 have E:=of_decide_eq_true E
 exact nl<|tn<|U _ _<|sq fun ak V=>rg aa<|p (aH (str s) aa)<|p (bZ (str s) aa)<|nl<|tn<|V _ _<|rt<|hU<|f1 aa aa<|⟨aa,Mb q G ab,i⟩
theorem DU (rb ln:Nat) (s:Tx) (w:World) (E:Hb.aI w.heap rb 2=some (.int .i64 (ln:Nat))) (hs:s.length≤1048576):
 ee ao 198 (a7 [.pointer (some ⟨rb,0,none⟩),str s]) w (fun v w'=> ∃ a,fk false s= .ok a∧v=str a∧Wk w w') (fun c w'=> ∃ e,fk false s= .error e∧c=gB 47 ln e∧Wk w w'):=by
 refine iL func198 aa ntmps198 aa<|sq fun ak M=>rg aa<|p aA<|nl<|tn<|M _ _<|sq fun al O=>rg aa<|p (aH (str s) aa)<|e<|cl vY (y7 s _ hs) aa fun v11 ah Z=> ?_
 obtain ⟨rfl,q⟩:=Z
 have aq:=uW s
 refine p mv<|p (xt aa aa)<|p (xt aa aa)<|p (xt aa aa)<|p (xt aa aa)<|p aA<|p aA<|p aA<|p aA<|nl<|tn<|O _ _<|sq fun am U=>rg aa<|p (aH (.pointer<|some ⟨rb,0,none⟩) aa)<|p mv<|eP aa (cI mx (mG rb ln ((bA s).2.2.2:Nat) ah<|Wk.aI q E) aa fun ar ai ac=> ?_) fun c w' i I G=>⟨_,Pv (by have :=i.2.1; omega),i.1,by rw [i.2.2]; exact q⟩
 obtain ⟨rfl,A,rfl⟩:=ac
 have A:(bA s).2.2.2=0:=ab
 refine nl<|tn<|U _ _<|sq fun an V=>rg aa<|p (aH (.pointer<|some ⟨rb,0,none⟩) aa)<|p mv<|p (no aa)<|eP aa (cI fM (fQ rb ln _ 114 ai (Wk.aI q E) aw) aa fun au aj ad=> ?_) fun c w' i I G=>⟨_,Pw A (by simpa using i.2.1),i.1,by rw [i.2.2]; exact q⟩
 obtain ⟨rfl,C,rfl⟩:=ad
 have C:(bA s).2.2.1=false :=by simpa using C
 refine nl<|tn<|V _ _<|sq fun ap Y=>rg aa<|p (aH (.pointer<|some ⟨rb,0,none⟩) aa)<|p mv<|eP aa (cI AQ (D3 rb ln (bA s).1 aj (Wk.aI q E) ab) aa fun av ax ae=> ?_) fun c w' i I G=>⟨_,Px A C i.2.1,i.1,q.trans i.2.2⟩
 obtain ⟨rfl,ag,J⟩:=ae
 exact p aA<|nl<|tn<|Y _ _<|rt<|hU<|f1 aa aa<|⟨_,Py A C ag,aa,q.trans J⟩
theorem DS (rb ln:Nat) (s:Tx) (w:World) (U:Hb.aI w.heap rb 2=some (.int .i64 (ln:Nat))) (hs:s.length≤1048576):
 ee ao 199 (a7 [.pointer (some ⟨rb,0,none⟩),str s]) w (fun v w'=> ∃ a,fk true s= .ok a∧v=str a∧Wk w w') (fun c w'=> ∃ e,fk true s= .error e∧c=gB 47 ln e∧Wk w w'):=by
 refine iL func199 aa ntmps199 aa<|sq fun V E=>rg aa<|p aA<|nl<|tn<|E _ _<|sq fun Y G=>sq fun Z I=>rg aa<|p (aH (str s) aa)<|p (iM aa aa)<|nl<|tn<|I _ _<|cd aa (fun i=> ?_) fun i=> ?_
 exact sq fun A q=>rg aa<|p aA<|nl<|tn<|q _ _<|rt<|tr<|hU<|f1 aa aa<|⟨[],PA i,aa,Md.refl _ _⟩
 refine aO<|tn<|G _ _<|sq fun A q=>rg aa<|p (aH (.pointer<|some ⟨rb,0,none⟩) aa)<|p (aH (str s) aa)<|eP aa (cI AJ (DU rb ln s w U hs) aa fun v9 ac M=> ?_) fun c w' J ad ab=>by obtain ⟨e,he,h⟩:=J; exact ⟨e,by rw [DT i]; exact he,h⟩
 obtain ⟨a,O,rfl,C⟩:=M
 exact p aA<|nl<|tn<|q _ _<|rt<|hU<|f1 aa aa<|⟨a,by rw [DT i]; exact O,aa,C⟩
theorem MH {kind:Nat} {s:Tx} (h:(gR kind s).2=0):(gR kind s).1≠0:=by
 unfold gR at h ⊢
 split
 · rename_i a; rw [if_pos a] at h; cases h
 · rename_i a; exact a
theorem MJ {F:aG} {s:Tx} (h:(gR F.kind s).2≠0):gT F s= .error (gR F.kind s).2:=if_pos h
theorem MK {F:aG} {s:Tx} (h:(gR F.kind s).2=0) (h1:dS F (gR F.kind s).1=true):gT F s= .error 115:=by unfold gT; rw [if_neg (fun h2=>h2 h),if_pos h1]
theorem ML {F:aG} {s:Tx} (h:(gR F.kind s).2=0) (h1:dS F (gR F.kind s).1=false):gT F s= .ok (gR F.kind s).1:=by unfold gT; rw [if_neg (fun h2=>h2 h),if_neg (by rw [h1]; exact c7)]
theorem QP {F:aG} {rows:List Rw} {ln e:Nat} {r:List Tx} (h:gT F (r.getD 1 [])= .error e):js F rows ln r= .error (ln,e):=by unfold js; rw [h]
theorem QQ {F:aG} {rows:List Rw} {ln x:Nat} {r:List Tx} (h:gT F (r.getD 1 [])= .ok x):js F rows ln r= .ok ({F with sp:=F.sp.set (fC.idxOf<|r.getD 0 []) x},rows):=by unfold js; rw [h]
def mH:List Tx:= [iX,jn,jK,j0,kr,hZ,ic,db]
theorem DO (hs:List Tx):ordered hs=true↔∀ k∈mH,k∉hs:=by
 unfold ordered
 rw [Bool.not_eq_true',Gd]
 have hm:∀ k,k∈mH↔(k∈fC∨k=hZ∨k=ic∨k=db):=by
  intro k
  simp only [mH,fC,eY,List.not_mem_nil,or_false,or_assoc]
 constructor
 · intro h k hk a
   have :=h k a
   rw [decide_eq_true_iff] at this
   exact this<|(hm k).1 hk
 · intro h x c hd
   rw [decide_eq_true_iff] at hd
   exact h x ((hm x).2 hd) c
theorem Qq {F:aG} {rows:List Rw} {ln:Nat} {r:List Tx} (h:gk (r.getD 1 [])=false):l0 F rows ln r= .error (ln,21):=if_pos h
theorem Qr {F:aG} {rows:List Rw} {ln:Nat} {r:List Tx} (h:gk (r.getD 1 [])=true):l0 F rows ln r= .ok ({F with rk:=r.getD 1 []},rows):=if_neg<|by rw [h]; exact c7
theorem Rz {F:aG} {rows:List Rw} {ln:Nat} {r:List Tx} (h:(letE<|r.getD 1 []).2≠0):l1 F rows ln r= .error (ln,(letE<|r.getD 1 []).2):=if_pos h
theorem RA {F:aG} {rows:List Rw} {ln:Nat} {r:List Tx} (h:(letE<|r.getD 1 []).2=0):l1 F rows ln r= .ok ({F with tr:=(letE<|r.getD 1 []).1},rows):=if_neg fun h2=>h2 h
theorem OF {F:aG} {rows:List Rw} {ln e:Nat} {r:List Tx} (h:dZ (r.getD 1 []) 64= .error e):j6 F rows ln r= .error (ln,e):=by unfold j6; rw [h]
theorem OG {F:aG} {rows:List Rw} {ln n:Nat} {r:List Tx} (h:dZ (r.getD 1 []) 64= .ok n) (a:n=0):j6 F rows ln r= .error (ln,13):=by unfold j6; rw [h]; exact if_pos a
theorem OH {F:aG} {rows:List Rw} {ln n:Nat} {r:List Tx} (h:dZ (r.getD 1 []) 64= .ok n) (a:n≠0):j6 F rows ln r= .ok ({F with least:=n},rows):=by unfold j6; rw [h]; exact if_neg a
theorem N0 {F:aG} {seen:List Tx} {rows:List Rw} {ln:Nat} {r:List Tx} {k:Tx} (hk:k∈mH) (h:k∈seen):j5 F seen rows ln r= .error (ln,113):=by
 unfold j5
 rw [if_pos]
 cases ho:ordered seen with
 | false =>rfl
 | true =>exact absurd h<|(DO seen).1 ho k hk
theorem N1 {F:aG} {seen:List Tx} {rows:List Rw} {ln:Nat} {r:List Tx} (h:ordered seen=true) (a:j4 (r.getD 1 [])=0):j5 F seen rows ln r= .error (ln,114):=by unfold j5; rw [if_neg (by rw [h]; exact c7),if_pos a]
theorem N2 {F:aG} {seen:List Tx} {rows:List Rw} {ln:Nat} {r:List Tx} (h:ordered seen=true) (a:j4 (r.getD 1 [])≠0):j5 F seen rows ln r= .ok ({F with kind:=j4<|r.getD 1 []},rows):=by unfold j5; rw [if_neg (by rw [h]; exact c7),if_neg a]
def kinds:List Tx:= [x7,x5,x6]
theorem NY (s:Tx):((if s∈kinds then (kinds.idxOf s:Nat) else -1:Int))=(j4 s:Nat) - 1:=by
 unfold j4 kinds
 by_cases h1:s=x7
 · subst h1; decide
 · by_cases h2:s=x5
   · subst h2; decide
   · by_cases h3:s=x6
     · subst h3; decide
     · rw [if_neg (by simp [h1,h2,h3]),if_neg h1,if_neg h2,if_neg h3]; rfl
theorem NZ (s:Tx):j4 s≤3:=by
 unfold j4
 split
 · omega
 · split
   · omega
   · split <;> omega
theorem xP (B:Nat) (H:bT) (F:aG) (V:dQ) (R:fG) (rows:List Rw) (ln:Nat) (seen:List Tx) (s:Tx) (w:World) (E:cK w B H.fb H.mc F V) (q:bW w B H F R rows ln seen) (hk:F.kind=1∨F.kind=2∨F.kind=3) (hs:s.length≤1048576):
 ee ao 195 (a7 [.pointer (some ⟨H.rb,0,none⟩),str s]) w (fun v w'=> ∃ x,gT F s= .ok x∧x≠0∧v=aR x∧dS F x=false∧Wk w w') (fun c w'=> ∃ e,gT F s= .error e∧c=gB 47 ln (e:Nat)∧Wk w w'):=by
 obtain ⟨tf,ad,ae⟩:=q.tm
 refine iL func195 aa ntmps195 aa<|sq fun aj I=>rg aa<|p aA<|nl<|tn<|I _ _<|sq fun ak J=>rg aa<|p (aH (.pointer<|some ⟨H.rb,0,none⟩) aa)<|p (nc aa)<|p (fa fJ aa)<|p (ld eF aa<|(aY q.cells).trans aa)<|p (nc aa)<|p (fa fj aa)<|p (fa p5 aa)<|p (ld bK aa<|(aY E.cells).trans aa)<|p (aH (str s) aa)<|e<|cl Iq (Pa F.kind s _ hk hs) aa fun ap ag Y=> ?_
 obtain ⟨rfl,a⟩:=Y
 refine p mv<|p (xt aa aa)<|p (xt aa aa)<|p aA<|p aA<|nl<|tn<|J _ _<|sq fun al M=>rg aa<|p (aH (.pointer<|some ⟨H.rb,0,none⟩) aa)<|p mv<|eP aa (cI mx (mG H.rb ln ((gR F.kind s).2:Nat) ag<|Wk.aI a q.dR) aa fun aq ah Z=> ?_) fun c w' i ai E=>⟨_,MJ (by have :=i.2.1; omega),i.1,by rw [i.2.2]; exact a⟩
 obtain ⟨rfl,C,rfl⟩:=Z
 have C:(gR F.kind s).2=0:=ab
 have G:=MH C
 refine nl<|tn<|M _ _<|sq fun am O=>rg aa<|p (aH (.pointer<|some ⟨H.rb,0,none⟩) aa)<|p (aH (.pointer<|some ⟨H.rb,0,none⟩) aa)<|p (nc aa)<|p (fa xI aa)<|p (ld qY aa<|Wk.aI a<|(aY q.cells).trans aa)<|p mv<|p (mF o4 mS oP (ad.wk a) aa aa (⟨_,aa⟩)<|ae _ G)<|p (bR aa aa)<|eP aa (cI fM (fQ H.rb ln _ 115 ah (Wk.aI a q.dR) aw) aa fun v31 ar ac=> ?_) fun c w' i ai E=>⟨115,MK C (by have h:=i.2.1; rw [BB] at h; simpa using h),i.1,by rw [i.2.2]; exact a⟩
 obtain ⟨rfl,A,rfl⟩:=ac
 rw [BB] at A
 have A:dS F (gR F.kind s).1=false :=by simpa using A
 exact nl<|tn<|O _ _<|sq fun an U=>rg aa<|p mv<|p aA<|nl<|tn<|U _ _<|rt<|hU<|f1 aa aa<|⟨_,ML C A,G,aa,A,a⟩
theorem sn (B:Nat) (H:bT) (F:aG) (rows:List Rw) (ln:Nat) (seen:List Tx) (r:List Tx) (aD:Nat) (ar:Option Addr) (cr:Nat) (w:World) (M:St w B H F rows ln seen) (ad:Tg w aD 9 r.length (.slice ar r.length cr) (r.map str)) (a5:r.length=2) (aV:∀ x∈r,x.length≤70000) (av:r.getD 0 []∈fC) (aW:F.sp.getD (fC.idxOf<|r.getD 0 []) 0=0):
 ee ao 131 (a7 [.pointer (some ⟨H.rb,0,none⟩),.slice ar r.length cr]) w (gM B H seen (js F rows ln r) w) (gL B H (js F rows ln r) w):=by
 obtain ⟨V,R,A,E,C⟩:=M
 have an:=ad.dq
 have aq:¬(H.rb=H.fb):=fun h=>by have h1:=E.cells; rw [h,A.cells] at h1; cases h1
 have a8:(r.getD 1 []).length≤70000:=aV _<|e6 ab
 have au:¬(bk ar=H.fb):=Tg.r4 ad (cY ab) A.cells aw
 obtain ⟨tf,ae,ax⟩:=E.tm
 obtain ⟨bb,a9,ba⟩:=E.sm
 have ap:fC.idxOf (r.getD 0 []) < 5:=vB.2 av
 refine iL func131 aa ntmps131 aa<|sq fun a2 aL=>rg aa<|p (aH (.pointer<|some ⟨H.rb,0,none⟩) aa)<|p (aH (.slice ar r.length cr) aa)<|p (a6 dN aa aa ab<|aE.ok (an.2)<|cY ab)<|p (ld cO aa<|da.get (i:=1) an.2 ab)<|eP aa (cI wg (xP B H F V R rows ln seen (r.getD 1 []) w A E C.kd ab) aa fun v9 bd J=> ?_) fun c w' aN bg A=>by obtain ⟨e,he,h,h2⟩:=aN; exact ⟨ln,e,QP he,h,Wk.mw h2⟩
 obtain ⟨x,aX,aZ,rfl,az,q⟩:=J
 have aK:=A.wk q
 have J:=E.wk q
 refine p aA<|nl<|tn<|aL _ _<|sq fun a3 aM=>rg aa<|p (aH (.pointer<|some ⟨H.rb,0,none⟩) aa)<|p (nc aa)<|p (fa xI aa)<|p (ld qY aa<|Wk.aI q<|(aY E.cells).trans aa)<|p mv<|p (mF o4 mS oP (ae.wk q) aa aa (⟨_,aa⟩) (show _=gG .i64 0 from (ax x aZ).trans<|by rw [az]; rfl))<|p (bI ((1:Nat):Int) aa aa<|bf ab ab)<|e<|qs o4 oP (ae.wk q) aa aa aa (⟨_,aa⟩) fun G U aO=> ?_
 have aj:=J.rY (F':= {F with sp:=F.sp.set (fC.idxOf<|r.getD 0 []) x}) U aO rfl (EJ az ax<|KS (by rw [A.jb]; exact ap) aW)
 have O:=aK.rY J U
 have aT:=(ad.wk q).md U fun k hk cur z aU=>by subst hk; exact (ae.wk q).nm aU
 have am:=aT.dq
 refine nl<|tn<|aM _ _ ?_
 have a:(fun w'=>Md (fun k=>k=H.fb) G w') G.drew:=(Md.refl _ _).drew
 refine bM (fun w'=>Md (fun k=>k=H.fb) G w') aa wide a<|hp 0 aa ag (fun _ _=>aH (.pointer<|some ⟨H.rb,0,none⟩) aa) a<|hp 1 aa ag (fun _ _=>nc aa) a<|hp 2 aa ag (fun _ _=>fa fJ aa) a<|hp 3 aa ag (fun w' M=>ld eF aa<|Md.aI M ((aY aj.cells).trans aa)<|by first | exact aq | exact au) a<|hp 5 aa ag (fun _ _=>aH (.slice ar r.length cr) aa) a<|hp 6 aa ag (fun _ _=>a6 dN aa aa ab<|aE.ok (am.2)<|cY ab) a<|hp 7 aa ag (fun w' M=>ld cO aa<|Md.aI M (da.get (i:=0) am.2 ab)<|by first | exact aq | exact au) a<|hp 9 aa ag (fun _ _=>mv) a<|hp 10 aa ag (fun _ _=>nc aa) a<|hp 11 aa ag (fun _ _=>fa fj aa) a<|hp 12 aa ag (fun _ _=>fa tX aa) a<|he 4 aa ag<|oE (L:=fC.map str) ka aa aa aa aa fun ah aC a4 Z aF=> ?_
 have aQ:da aC.heap (some ⟨ah,0,none⟩) fC:=aE.fA ⟨_,aF⟩
 have I:=ig Z.md
 have ak:(fun w'=>Md (fun k=>k=H.fb) G w') aC:=a.trans' Z.md fun _ _ h=>h.elim
 refine ⟨ak,?_⟩
 refine he 8 aa ag<|cl AI (CW fC (some ⟨ah,0,none⟩) 5 (r.getD 0 []) _ aQ aw) aa fun bc a0 aP=> ?_
 obtain ⟨ay,rfl⟩:=aP
 rw [if_pos av] at ay
 subst ay
 have ac:(fun w'=>Md (fun k=>k=H.fb) G w') a0:=ak
 refine ⟨ac,?_⟩
 refine hp 13 aa ag (fun _ _=>kM q7 aa aa ab) ac<|he 14 aa ag<|dF eJ aa aa (v:=aR x) aa (Z.md.aB O.cells) (by show _ < 14; omega) fun a1 Y ai=> ?_
 rw [Mi (i:=fC.idxOf<|r.getD 0 []) A.jb ap ab] at ai
 have aS:(fun w'=>Md (fun k=>k=H.fb) G w') a1:=ac.trans' Y fun _ _ h=>h
 refine ⟨aS,?_⟩
 refine hn ag<|hU<|f0 aa ?_
 have aJ:=(O.wk I).put (F':= {F with sp:=F.sp.set (fC.idxOf<|r.getD 0 []) x}) Y ai rfl rfl rfl rfl (by rw [List.length_set]; exact A.jb)
 exact ⟨aa,_,rows,ln,QQ aX,⟨V,R,aJ,(aj.wk I).fb (O.wk I) Y,⟨C.len,C.sl,C.row,C.kd,C.al⟩⟩,((Wk.mw q).trans<|ed.mt J U).trans<|(Wk.mw I).trans<|ed.fb (O.wk I) Y⟩
theorem Jk (B:Nat) (H:bT) (F:aG) (rows:List Rw) (ln:Nat) (seen:List Tx) (r:List Tx) (ah:Nat) (ar:Option Addr) (cr:Nat) (w:World) (G:St w B H F rows ln seen) (Y:Tg w ah 9 r.length (.slice ar r.length cr) (r.map str)) (av:r.length=2) (an:∀ x∈r,x.length≤70000):
 ee ao 129 (a7 [.pointer (some ⟨H.rb,0,none⟩),.slice ar r.length cr]) w (gM B H seen (l0 F rows ln r) w) (gL B H (l0 F rows ln r) w):=by
 obtain ⟨V,R,C,E,A⟩:=G
 have ac:=Y.dq
 have ad:¬(H.rb=H.fb):=fun h=>by have h1:=E.cells; rw [h,C.cells] at h1; cases h1
 have ax:(r.getD 1 []).length≤70000:=an _<|e6 ab
 have ae:¬(bk ar=H.fb):=Tg.r4 Y (cY ab) C.cells aw
 obtain ⟨tf,aA,aB⟩:=E.tm
 obtain ⟨aC,ay,az⟩:=E.sm
 refine iL func129 aa ntmps129 aa<|sq fun au ak=>rg aa<|p (aH (.pointer<|some ⟨H.rb,0,none⟩) aa)<|p (aH (.slice ar r.length cr) aa)<|p (a6 dN aa aa ab<|aE.ok (ac.2)<|cY ab)<|p (ld cO aa<|da.get (i:=1) ac.2 ab)<|eP aa (cI wc (yD H.rb ln (r.getD 1 []) w E.dR ab) aa fun aD O M=> ?_) fun c w' U aF C=>⟨ln,21,Qq U.2.1,U.1,Wk.mw U.2.2⟩
 obtain ⟨rfl,ap,I⟩:=M
 have J:=C.wk I
 have M:=E.wk I
 have Z:=(Y.wk I).dq
 refine nl<|tn<|ak _ _ ?_
 have a:(fun w'=>Md (fun k=>k=H.fb) O w') O.drew:=(Md.refl _ _).drew
 refine bM (fun w'=>Md (fun k=>k=H.fb) O w') aa wide a<|hp 0 aa ag (fun _ _=>aH (.pointer<|some ⟨H.rb,0,none⟩) aa) a<|hp 1 aa ag (fun _ _=>nc aa) a<|hp 2 aa ag (fun _ _=>fa fJ aa) a<|hp 3 aa ag (fun w' G=>ld eF aa<|Md.aI G ((aY M.cells).trans aa)<|by first | exact ad | exact ae) a<|hp 4 aa ag (fun _ _=>aH (.slice ar r.length cr) aa) a<|hp 5 aa ag (fun _ _=>a6 dN aa aa ab<|aE.ok (Z.2)<|cY ab) a<|hp 6 aa ag (fun w' G=>ld cO aa<|Md.aI G (da.get (i:=1) Z.2 ab)<|by first | exact ad | exact ae) a<|hp 7 aa ag (fun _ _=>nc aa) a<|hp 8 aa ag (fun _ _=>fa fj aa) a<|hp 9 aa ag (fun _ _=>fa MD aa) a<|he 10 aa ag<|dF nd aa aa (v:=str<|r.getD 1 []) aa J.cells (by show _ < 14; omega) fun aq q ai=> ?_
 have q:=ig q
 have am:(fun w'=>Md (fun k=>k=H.fb) O w') aq:=q
 refine ⟨am,?_⟩
 refine hn ag<|hU<|f0 aa ?_
 have aj:=J.put (F':= {F with rk:=r.getD 1 []}) q ai rfl rfl rfl rfl C.jb
 exact ⟨aa,_,rows,ln,Qr ap,⟨V,R,aj,(M.fb J q).congr aa (fun _=>rfl),⟨A.len,A.sl,A.row,A.kd,A.al⟩⟩,(Wk.mw I).trans<|ed.fb J q⟩
theorem RB (B:Nat) (H:bT) (F:aG) (rows:List Rw) (ln:Nat) (seen:List Tx) (r:List Tx) (Y:Nat) (ar:Option Addr) (cr:Nat) (w:World) (ai:St w B H F rows ln seen) (M:Tg w Y 9 r.length (.slice ar r.length cr) (r.map str)) (au:r.length=2) (aj:∀ x∈r,x.length≤70000):
 ee ao 130 (a7 [.pointer (some ⟨H.rb,0,none⟩),.slice ar r.length cr]) w (gM B H seen (l1 F rows ln r) w) (gL B H (l1 F rows ln r) w):=by
 obtain ⟨V,R,q,E,a⟩:=ai
 have O:=M.dq
 have ap:¬(H.rb=H.fb):=fun h=>by have h1:=E.cells; rw [h,q.cells] at h1; cases h1
 have av:(r.getD 1 []).length≤70000:=aj _<|e6 ab
 have aq:¬(bk ar=H.fb):=Tg.r4 M (cY ab) q.cells aw
 obtain ⟨tf,az,aB⟩:=E.tm
 obtain ⟨aC,ax,ay⟩:=E.sm
 refine iL func130 aa ntmps130 aa<|sq fun am ad=>rg aa<|p (aH (.slice ar r.length cr) aa)<|p (a6 dN aa aa ab<|aE.ok (O.2)<|cY ab)<|p (ld cO aa<|da.get (i:=1) O.2 ab)<|e<|cl Ie (Oa (r.getD 1 []) _ ab) aa fun v10 ak ag=> ?_
 obtain ⟨rfl,A⟩:=ag
 have C:=q.wk A
 have J:=E.wk A
 refine p mv<|p (xt aa aa)<|p (xt aa aa)<|p aA<|p aA<|nl<|tn<|ad _ _<|sq fun an ae=>rg aa<|p (aH (.pointer<|some ⟨H.rb,0,none⟩) aa)<|p mv<|eP aa (cI mx (mG H.rb ln ((letE<|r.getD 1 []).2:Nat) ak J.dR) aa fun aD aF ah=> ?_) fun c w' I aJ q=>⟨ln,_,Rz (by have :=I.2.1; omega),I.1,by rw [I.2.2]; exact Wk.mw A⟩
 obtain ⟨rfl,U,rfl⟩:=ah
 have U:(letE<|r.getD 1 []).2=0:=ab
 refine nl<|tn<|ae _ _<|rg aa<|p (aH (.pointer<|some ⟨H.rb,0,none⟩) aa)<|p (nc aa)<|p (fa fJ aa)<|p (ld eF aa<|(aY J.cells).trans aa)<|p mv<|p (nc aa)<|p (fa fj aa)<|p (fa ME aa)<|e<|dF nd aa aa (v:=str (letE<|r.getD 1 []).1) aa C.cells (by show _ < 14; omega) fun aI G Z=>nl<|hU<|f0 aa ?_
 have ac:=C.put (F':= {F with tr:=(letE<|r.getD 1 []).1}) G Z rfl rfl rfl rfl q.jb
 exact ⟨aa,_,rows,ln,RA U,⟨V,R,ac,(J.fb C G).congr aa (fun _=>rfl),⟨a.len,a.sl,a.row,a.kd,a.al⟩⟩,(Wk.mw A).trans<|ed.fb C G⟩
theorem N6 (B:Nat) (H:bT) (F:aG) (rows:List Rw) (ln:Nat) (seen:List Tx) (r:List Tx) (ak:Nat) (ar:Option Addr) (cr:Nat) (w:World) (M:St w B H F rows ln seen) (Z:Tg w ak 9 r.length (.slice ar r.length cr) (r.map str)) (aC:r.length=2) (ax:∀ x∈r,x.length≤70000):
 ee ao 132 (a7 [.pointer (some ⟨H.rb,0,none⟩),.slice ar r.length cr]) w (gM B H seen (j6 F rows ln r) w) (gL B H (j6 F rows ln r) w):=by
 obtain ⟨V,R,A,C,E⟩:=M
 have ac:=Z.dq
 have ad:¬(H.rb=H.fb):=fun h=>by have h1:=C.cells; rw [h,A.cells] at h1; cases h1
 have aD:(r.getD 1 []).length≤70000:=ax _<|e6 ab
 have ae:¬(bk ar=H.fb):=Tg.r4 Z (cY ab) A.cells aw
 obtain ⟨tf,aK,aL⟩:=C.tm
 obtain ⟨aM,aF,aJ⟩:=C.sm
 refine iL func132 aa ntmps132 aa<|sq fun aA an=> ?_
 have a:(fun w'=>Md (fun k=>k=H.fb) w w') w.drew:=(Md.refl _ _).drew
 refine bM (fun w'=>Md (fun k=>k=H.fb) w w') aa wide a<|hp 0 aa ag (fun _ _=>aH (.pointer<|some ⟨H.rb,0,none⟩) aa) a<|hp 1 aa ag (fun _ _=>nc aa) a<|hp 2 aa ag (fun _ _=>fa fJ aa) a<|hp 3 aa ag (fun w' M=>ld eF aa<|Md.aI M ((aY C.cells).trans aa)<|by first | exact ad | exact ae) a<|hp 4 aa ag (fun _ _=>aH (.pointer<|some ⟨H.rb,0,none⟩) aa) a<|hp 5 aa ag (fun _ _=>aH (.slice ar r.length cr) aa) a<|hp 6 aa ag (fun _ _=>a6 dN aa aa ab<|aE.ok (ac.2)<|cY ab) a<|hp 7 aa ag (fun w' M=>ld cO aa<|Md.aI M (da.get (i:=1) ac.2 ab)<|by first | exact ad | exact ae) a<|p9 8 aa ag aa (cI tA (uo H.rb ln (r.getD 1 []) 64 w.drew C.dR ab ab) aa fun v12 ay ap=> ?_) fun c w' J az A=>by obtain ⟨e,he,h,h2⟩:=J; exact ⟨ln,e,OF he,h,Wk.mw<|ig h2⟩
 obtain ⟨n,ah,rfl,q⟩:=ap
 have q:=ig q
 have G:=A.wk q
 have au:=C.wk q
 have O:(fun w'=>Md (fun k=>k=H.fb) w w') ay:=Md.mono q fun _ _ h=>h.elim
 refine ⟨O,?_⟩
 refine hp 9 aa ag (fun _ _=>nc aa) O<|hp 10 aa ag (fun _ _=>fa fj aa) O<|hp 11 aa ag (fun _ _=>fa xK aa) O<|he 12 aa ag<|dF lj aa aa (v:= .int .i64 (n:Nat)) aa G.cells (by show _ < 14; omega) fun aj I Y=> ?_
 have U:=au.fb G I
 have av:(fun w'=>Md (fun k=>k=H.fb) w w') aj:=O.trans' I fun _ _ h=>h
 refine ⟨av,?_⟩
 refine hn ag<|tn<|an _ _<|rg aa<|p (aH (.pointer<|some ⟨H.rb,0,none⟩) aa)<|p (aH (.pointer<|some ⟨H.rb,0,none⟩) aa)<|p (nc aa)<|p (fa fJ aa)<|p (ld eF aa<|(aY U.cells).trans aa)<|p (nc aa)<|p (fa fj aa)<|p (fa xK aa)<|p (ld bK aa<|(aY Y).trans aa)<|p (gt aa aa)<|eP aa (cI fM (fQ H.rb ln _ 13 aj U.dR aw) aa fun aN aO aq=> ?_) fun c w' J az A=>by have aB:=of_decide_eq_false J.2.1; exact ⟨ln,13,OG ah ab,J.1,by rw [J.2.2]; exact (Wk.mw q).trans<|ed.fb G I⟩
 obtain ⟨rfl,ai,rfl⟩:=aq
 have ai:=of_decide_eq_true ai
 refine nl<|hU<|f0 aa ?_
 have am:=G.put (F':= {F with least:=n}) I Y rfl rfl rfl rfl A.jb
 exact ⟨aa,_,rows,ln,OH ah ab,⟨V,R,am,U.congr aa (fun _=>rfl),⟨E.len,E.sl,E.row,E.kd,E.al⟩⟩,(Wk.mw q).trans<|ed.fb G I⟩
theorem N3 (B:Nat) (H:bT) (F:aG) (rows:List Rw) (ln:Nat) (seen:List Tx) (r:List Tx) (aR:Nat) (ar:Option Addr) (cr:Nat) (w:World) (J:St w B H F rows ln seen) (ai:Tg w aR 9 r.length (.slice ar r.length cr) (r.map str)) (bD:r.length=2) (bc:∀ x∈r,x.length≤70000):
 ee ao 128 (a7 [.pointer (some ⟨H.rb,0,none⟩),.slice ar r.length cr]) w (gM B H seen (j5 F seen rows ln r) w) (gL B H (j5 F seen rows ln r) w):=by
 obtain ⟨V,R,E,Y,M⟩:=J
 have bx:=ai.dq
 have aF:¬(H.rb=H.fb):=fun h=>by have h1:=Y.cells; rw [h,E.cells] at h1; cases h1
 have bE:(r.getD 1 []).length≤70000:=bc _<|e6 ab
 have aJ:¬(bk ar=H.fb):=Tg.r4 ai (cY ab) E.cells aw
 obtain ⟨tf,bF,bG⟩:=Y.tm
 obtain ⟨bH,bl,bm⟩:=Y.sm
 refine iL func128 aa ntmps128 aa<|sq fun br aX=>sq fun bs aZ=>rg aa<|e<|oE (L:=mH.map str) ka aa aa aa aa fun an ak bA a3 aU=> ?_
 have az:da ak.heap (some ⟨an,0,none⟩) mH:=aE.fA ⟨_,aU⟩
 have C:Wk w ak:=a3.md
 have au:=E.wk C
 have Z:=Y.wk C
 have aC:=(ai.wk C).dq
 have bo:=bl.wk C
 have bC:mH.length=8:=rfl
 refine p (bO gU aa aa)<|p mv<|nl<|tn<|aZ _ _<|aB<|lp (fun ap I q=> ∃ (i:Nat),(i≤8)∧(∀ j,j < i→mH.getD j []∉seen)∧(q=ak)∧(I 0= .pointer (some ⟨H.rb,0,none⟩))∧(I 1= .slice ar r.length cr)∧(I 6= .slice (some ⟨an,0,none⟩) 8 8)∧(I 7= .int .i64 (8:Nat))∧(I 8= .int .i64 (i:Nat))∧(8 - i=ap)) _ ⟨0,ab,(fun j aD=>by omega),aa,aa,aa,aa,aa,aa,aa⟩ ?_
 rintro ap I q ⟨i,hi,aK,aV,bd,bg,bh,bi,bj,rfl⟩
 refine fx 0 bd<|fx 1 bg<|fx 6 bh<|fx 7 bi<|fx 8 bj ?_
 subst aV
 refine sq fun bt a0=>rg aa<|p (lt aa aa)<|nl<|tn<|a0 _ _<|sq fun bu a1=>cd aa (fun bb=> ?_) fun bb=> ?_
 refine aO<|tn<|a1 _ _<|sq fun aS ae=>aB<|sq fun bv a2=>rg aa<|p (a6 dN aa aa ab<|aE.ok (az)<|cY ab)<|p (ld cO aa<|da.get (i:=i) az ab)<|p aA<|nl<|tn<|a2 _ _<|rg aa<|p (aH (.pointer<|some ⟨H.rb,0,none⟩) aa)<|p (aH (.pointer<|some ⟨H.rb,0,none⟩) aa)<|p (nc aa)<|p (fa p4 aa)<|p (ld pI aa<|(aY Z.cells).trans aa)<|p mv<|p (mF n6 mS gp (bo) aa aa (⟨_,aa⟩)<|bm _)<|p (bR aa aa)<|eP aa (cI fM (fQ H.rb ln _ 113 q Z.dR aw) aa fun v20 bL a4=> ?_) fun c w' A bq E=>⟨ln,113,N0 (k:=mH.getD i []) (e6 ab) (by have h:=of_decide_eq_false A.2.1; exact lE.1 fun h2=>h<|by have :=om.2 h2; omega),A.1,by rw [A.2.2]; exact Wk.mw C⟩
 obtain ⟨rfl,aj,rfl⟩:=a4
 have aj:mH.getD i []∉seen:=om.1<|by have :=of_decide_eq_true aj; omega
 exact nl<|bn<|tn<|ae _ _<|rg aa<|p (ad aa aa<|cg ab)<|p mv<|nl<|tn<|⟨_,ab,i+1,ab,(fun j aD=>by rcases gI j i with h | h <;> first | exact aK j h | (rw [show j=i by omega]; exact aj)),aa,aa,aa,aa,aa,aa,aa⟩
 refine ext<|te _<|te _<|be<|tn<|aX _ _<|sq fun aS ae=> ?_
 have aL:ordered seen=true :=(DO seen).2 fun k hk=>by obtain ⟨j,aD,rfl⟩:=oR [] hk; exact aK j ab
 have a:(fun w'=>Md (fun k=>k=H.fb) q w') q.drew:=(Md.refl _ _).drew
 refine bM (fun w'=>Md (fun k=>k=H.fb) q w') aa wide a<|hp 0 aa ag (fun _ _=>aH (.pointer<|some ⟨H.rb,0,none⟩) aa) a<|hp 1 aa ag (fun _ _=>nc aa) a<|hp 2 aa ag (fun _ _=>fa fJ aa) a<|hp 3 aa ag (fun w' J=>ld eF aa<|Md.aI J ((aY Z.cells).trans aa)<|by first | exact aF | exact aJ) a<|hp 5 aa ag (fun _ _=>aH (.slice ar r.length cr) aa) a<|hp 6 aa ag (fun _ _=>a6 dN aa aa ab<|aE.ok (aC.2)<|cY ab) a<|hp 7 aa ag (fun w' J=>ld cO aa<|Md.aI J (da.get (i:=1) aC.2 ab)<|by first | exact aF | exact aJ) a<|he 4 aa ag<|oE (L:=kinds.map str) ka aa aa aa aa fun am aP bz ax aT=> ?_
 have a9:da aP.heap (some ⟨am,0,none⟩) kinds:=aE.fA ⟨_,aT⟩
 have O:=ig ax.md
 have ay:(fun w'=>Md (fun k=>k=H.fb) q w') aP:=a.trans' ax.md fun _ _ h=>h.elim
 refine ⟨ay,?_⟩
 refine he 8 aa ag<|cl AI (CW kinds (some ⟨am,0,none⟩) 3 (r.getD 1 []) _ a9 aw) aa fun v30 bp a5=> ?_
 obtain ⟨aM,rfl⟩:=a5
 rw [NY] at aM
 subst aM
 have bB:=NZ<|r.getD 1 []
 have G:(fun w'=>Md (fun k=>k=H.fb) q w') bp:=ay
 refine ⟨G,?_⟩
 refine hp 9 aa ag (fun _ _=>bI ((j4 (r.getD 1 []):Nat):Int) aa aa<|bf ab ab) G<|hp 10 aa ag (fun _ _=>nc aa) G<|hp 11 aa ag (fun _ _=>fa fj aa) G<|hp 12 aa ag (fun _ _=>fa p5 aa) G<|he 13 aa ag<|dF lj aa aa (v:= .int .i64 (j4 (r.getD 1 []):Nat)) aa ((au.wk O).cells) (by show _ < 14; omega) fun aQ U aq=> ?_
 have ac:=au.wk O
 have ah:=(Z.wk O).fb ac U
 have av:=((Wk.mw C).trans<|Wk.mw O).trans<|ed.fb ac U
 have ba:(fun w'=>Md (fun k=>k=H.fb) q w') aQ:=G.trans' U fun _ _ h=>h
 refine ⟨ba,?_⟩
 refine hn ag<|tn<|ae _ _<|rg aa<|p (aH (.pointer<|some ⟨H.rb,0,none⟩) aa)<|p (aH (.pointer<|some ⟨H.rb,0,none⟩) aa)<|p (nc aa)<|p (fa fJ aa)<|p (ld eF aa<|(aY ah.cells).trans aa)<|p (nc aa)<|p (fa fj aa)<|p (fa p5 aa)<|p (ld bK aa<|(aY aq).trans aa)<|p (gt aa aa)<|eP aa (cI fM (fQ H.rb ln _ 114 aQ ah.dR aw) aa fun bJ bN a8=> ?_) fun c w' A bq E=>by have bw:=of_decide_eq_false A.2.1; exact ⟨ln,114,N1 aL ab,A.1,by rw [A.2.2]; exact av⟩
 obtain ⟨rfl,aN,rfl⟩:=a8
 have aN:=of_decide_eq_true aN
 refine nl<|hU<|f0 aa ?_
 have aW:=ac.put (F':= {F with kind:=j4<|r.getD 1 []}) U aq rfl rfl rfl rfl E.jb
 exact ⟨aa,_,rows,ln,N2 aL ab,⟨V,R,aW,ah.congr aa (fun _=>rfl),⟨M.len,M.sl,M.row,(by show j4 (r.getD 1 [])=1∨j4 (r.getD 1 [])=2∨j4 (r.getD 1 [])=3; omega),M.al⟩⟩,av⟩
end Go.Hb
namespace Go.Hb.ov
theorem Bj {h:Array Obj} {b:Nat} {f:UInt8→Bool} (a:bw h b (dA f)) (c:UInt8):Hb.aI h b (0 +((c.toNat / 64:Nat):Int).toNat*1)=some (.int .u64<|dP f<|c.toNat / 64):=by
 have i:=iS c
 rw [a.aI,show 0 +((c.toNat / 64:Nat):Int).toNat*1=c.toNat / 64 from by omega]; exact wW f ab
theorem JU {h:Array Obj} {b:Nat} {f:UInt8→Bool} {c:UInt8} (a:bw h b ((dA f).set (0 +((c.toNat / 64:Nat):Int).toNat*1)<|.int .u64 ((dP f (c.toNat / 64) ||| 2 ^ (c.toNat % 64):Nat):Int))):bw h b (dA (fun x=>f x || decide (x=c))):=by
 rw [show 0 +((c.toNat / 64:Nat):Int).toNat*1=c.toNat / 64 from by omega,JP] at a; exact a
theorem JR {f g:UInt8→Bool} (h:∀ b,f b=g b):dA f=dA g:=by rw [show f=g from funext h]
theorem No {l:List UInt8} {i:Nat} (h:i < l.length) (x:UInt8):(decide (x∈l.take i) || decide (x=l.getD i 0))=decide (x∈l.take (i+1)):=by
 rw [ky l i 0 h,← Bool.decide_or]
 exact decide_eq_decide.2<|by rw [mX,lI]
theorem yB {w:World} {B e n cp i:Nat} {a:Option Addr} {l:List UInt8} (h:w.ownsRow B e 1 (.slice a n cp) n (U8 l)) (hi:i≤n) (hn:0 < n):w.ownsRow B e 1 (.slice a i cp) i (U8<|l.take i):=by
 have c:a≠none:=by
  rintro rfl
  rcases h.2 with ⟨_,h5⟩ | ⟨g,cap,cur,h4,_⟩
  · omega
  · simp at h4
 have :=DQ h hi c
 rw [Nat.mul_one] at this
 unfold U8 at*
 rwa [Gs]
theorem Pj {w:World} {B e n cp:Nat} {a:Option Addr} {xs:List Value} (h:w.ownsRow B e 1 (.slice a n cp) n xs) (hn:0 < n):∃ c,a=some ⟨c,0,none⟩:=by
 rcases h.2 with ⟨_,h5⟩ | ⟨g,cap,cur,h4,_⟩
 · omega
 · simp only [Value.slice.injEq] at h4; exact ⟨g,h4.1⟩
theorem RF {w:World} {B e n cp j:Nat} {a:Option Addr} {l:List UInt8} (h:w.ownsRow B e 1 (.slice a n cp) n (U8 l)):aE w.heap (eM a cp j 1) (U8<|l.drop j):=by
 have h2:=(aV h).2.drop (cap:=cp) (k:=j) (size:=1)<|by have h1:=h.1; have h3:=(aV h).1; omega
 rw [Nat.mul_one] at h2
 unfold U8 at*
 rwa [List.map_drop]
theorem y0 {w:World} {B e n:Nat} {v:Value} {l:List UInt8} (h:w.ownsRow B e 1 v n (U8 l)):l.length=n:=by have :=h.1; rw [td] at this; omega
theorem D1 (b:Nat) (c:UInt8) (f:UInt8→Bool) (w:World) (i:bw w.heap b (dA f)):
 bd ao 209 (a7 [aW b,.int .u8 c.toNat]) w (fun v w'=>v= .tuple #[]∧bw w'.heap b (dA (fun x=>f x || decide (x=c)))∧Md (fun q=>q=b) w w'):=by
 have I:=iS c
 refine enter func209 aa ntmps209 aa ?_
 have a:(fun w'=>Wk w w') w.drew:=(Md.refl _ _).drew
 refine eB (fun w'=>Wk w w') 12 aa wide a<|bl 0 aa (aW b) a<|bl 1 aa (.int .u8 c.toNat) a<|bz 2 aa (fun _=>shr aa aa aw<|En c) (fun _=>a)<|bz 3 aa (fun _=>nc aa) (fun _=>a)<|bz 4 aa (fun _=>kM oC aa aa ab) (fun _=>a)<|dU 5 aa (fun w' G=>ld pG aa<|Wk.aI G<|Bj i c) a<|bl 6 aa (.int .u8 c.toNat) a<|bz 7 aa (fun _=>eh aa aa<|Aj c) (fun _=>a)<|bz 8 aa (fun _=>shl aa aa ab<|Qu ab) (fun _=>a)<|bz 9 aa (fun _=>Aq aa aa<|Pd (qv _ _)<|Nat.pow_lt_pow_right aw ab) (fun _=>a)<|bz 10 aa (fun _=>nc aa) (fun _=>a)<|bz 11 aa (fun _=>kM oC aa aa ab) (fun _=>a)<|c5 12 aa ag ag<|st KI aa aa (aa) (a.B i) (by rw [tC]; omega) fun J E C=> ?_
 have A:=JU C
 refine eA ag<|f0 aa ?_
 exact ⟨aa,A,Md.trans (Md.refl _ _).drew E⟩
theorem CK (f:UInt8→Bool) (c:UInt8) (w:World):
 bd ao 251 (a7 [.agg (dA<|f).toArray,.int .u8 c.toNat]) w (fun v w'=>v= .bool (f c)∧Wk w w'):=by
 have G:=iS c
 exact enter func251 aa ntmps251 aa<|ak fun a=>e<|iV aa fun C I E A q=>ay<|a<|ak fun i=>au (.int .u8 c.toNat)<|p (shr aa aa aw<|En c)<|p (kM oC aa aa ab)<|p (ld pG aa<|Bj q c)<|au (.int .u8 c.toNat)<|p (eh aa aa<|Aj c)<|p (shr aa aa ab<|Qz _ ab)<|p (eh aa aa<|Hm<|Nat.lt_of_le_of_lt (Nat.div_le_self _ _)<|qv _ _)<|p (bR aa aa)<|ay<|i<|rt<|ba aa<|⟨congrArg bQ (RZ f c),A.md⟩
theorem yA (f:UInt8→Bool) (w:World):
 bd ao 208 (a7 [.agg (dA<|f).toArray]) w (fun v w'=>v= .agg (dA fun x=> !f x).toArray∧Wk w w'):=by
 exact enter func208 aa ntmps208 aa<|ak fun q=>e<|iV aa fun I V M i c=>e<|al o5 fun J Y O a C=>nl<|q<|ak fun A=>p (kM oC aa aa ab)<|p (ld pG aa<|(a.md.B c).aI 0)<|p (tD aa)<|p (kM oC aa aa ab)<|p (ld pG aa<|(a.md.B c).aI 1)<|p (tD aa)<|p (kM oC aa aa ab)<|p (ld pG aa<|(a.md.B c).aI 2)<|p (tD aa)<|p (kM oC aa aa ab)<|p (ld pG aa<|(a.md.B c).aI 3)<|p (tD aa)<|p (Ap (ps:= [(0,.int .u64 (dP (fun x=> !f x) 0:Nat)),(1,.int .u64 (dP (fun x=> !f x) 1:Nat)),(2,.int .u64 (dP (fun x=> !f x) 2:Nat)),(3,.int .u64 (dP (fun x=> !f x) 3:Nat))]) (L:= [.int .u64 (dP (fun x=> !f x) 0:Nat),.int .u64 (dP (fun x=> !f x) 1:Nat),.int .u64 (dP (fun x=> !f x) 2:Nat),.int .u64 (dP (fun x=> !f x) 3:Nat)]) Am aa<|aa)<|e<|ca nb aa (vs:=dA fun x=> !f x) aa aa aa C aw fun Z G E=>nl<|A<|rt<|rG aa (dB aa ji aa fun j U=>by rw [fF]; exact E.aI j)<|⟨aa,Md.trans' (Md.trans i.md a.md) G fun k hk h=>by have :=i.md.size; omega⟩
theorem CL (f:UInt8→Bool) (c:UInt8) (ci:Int) (w:World) (a:(c.toNat:Int)=ci):bd ao 251 (a7 [.agg (dA<|f).toArray,.int .u8 ci]) w (fun v w'=>v= .bool (f c)∧Wk w w'):=by
 subst a; exact CK f c w
theorem Aw (f:UInt8→Bool) (w:World):
 bd ao 280 (a7 [.agg (dA<|f).toArray]) w (fun v w'=>bp w' w.heap.size 5 1 (v) (bytesOf f).length (U8<|bytesOf f)∧Wk w w'):=by
 refine enter func280 aa ntmps280 aa<|ak fun Y=>e<|iV aa fun am O aN J an=>ay<|Y<|ak fun Z=>ay<|Z<|az fun ac=>ak fun ae=>p mv<|nl<|ae<|aB<|lp (fun U I G=> ∃ (i:Nat) (a:Value),(i≤256)∧(bp G O.heap.size 5 1 (a) (m9 f i).length<|U8<|m9 f i)∧(Wk O G)∧(I 1=aW am)∧(I 3=a)∧(I 5=aj i)∧(256 - i=U)) _ ⟨0,.slice none 0 0,ab,(dJ _ _ _ _),(Md.refl _ _),aa,aa,aa,aa⟩ ?_
 rintro U I G ⟨i,a,hi,E,q,aF,aG,aH,rfl⟩
 refine fx 1 aF<|fx 3 aG<|fx 5 aH ?_
 have aM:Wk w G:=Md.trans J.md q
 have aQ:=rh f i
 have aT:=q.size
 refine ak fun ag=>p (lt aa aa)<|nl<|ag<|az fun ah=>cd aa (fun ax=> ?_) fun ax=> ?_
 refine aO<|ah<|az fun A=>aB<|ak fun ai=>au (aj i)<|p (bZ (aj i) aa)<|nl<|ai<|ak fun al=>p (cz ji aa (aa) fun j aS=>by rw [fF]; exact (q.B an).aI j)<|au (aj i)<|p (mA u5 qt aa<|y8 ab)<|e<|cl wq (CL f (UInt8.ofNat i) _ _<|EY i ab) aa fun v11 aV aw=> ?_
 obtain ⟨rfl,c⟩:=aw
 refine nl<|al<|cb aa (fun M=> ?_) fun M=> ?_
 refine rg aa<|au (a)<|au (aj i)<|p (mA u5 qt aa<|y8 ab)<|e<|lf oZ aa aa fun aL aY aP C aq=>e<|ap oZ (aX (aX E c) C.md) aa (by have :=c.size; have :=C.md.size; omega) aa (aE.fA aq) (aa) (aa) ab ab fun aJ aK V av aU aR=> ?_
 rw [← EY i ab] at V
 have aD:=Ph V
 have ar:Wk O aK:=Wk.own (Md.trans (Md.trans q c) C.md) (aX (aX E c) C.md) av<|cw _
 exact p aA<|nl<|bn<|A<|rg aa<|p (ad aa aa<|cg ab)<|p mv<|nl<|tn<|⟨_,ab,i+1,aJ,ab,(by rw [Av,if_pos M]; exact aD),ar,aa,aa,aa,aa⟩
 exact aO<|bn<|A<|rg aa<|p (ad aa aa<|cg ab)<|p mv<|nl<|tn<|⟨_,ab,i+1,a,ab,(by rw [Av,if_neg (by rw [M]; exact c7),eb]; exact aX E c),(Md.trans q c),aa,aa,aa,aa⟩
 refine ext<|bj<|bj<|be<|ac<|ak fun A=>au (a)<|p (bZ (a) aa)<|nl<|A<|rt<|ba aa ?_
 have aC:i=256:=ab
 subst aC
 exact ⟨eS E J.md.size,Md.trans J.md q⟩
theorem Kb (s:List UInt8) (w:World) (hs:s.length≤1048576):
 bd ao 250 (a7 [str s]) w (fun v w'=>v= .agg (dA fun x=>decide (x∈s)).toArray∧Wk w w'):=by
 refine enter func250 aa ntmps250 aa<|ak fun Y=>e<|al o5 fun C aQ aL U G=>nl<|Y<|ak fun Z=>e<|al o5 fun c aK aN V an=> ?_
 have ap:bw aK.heap c (dA fun x=>decide (x∈s.take 0)):=by rw [show (fun x=>decide (x∈s.take 0))=(fun _:UInt8=>false) from funext fun x=>by simp,wX]; exact an
 refine nl<|Z<|az fun ac=>ak fun ae=>au (str s)<|p (dv u9 aa aa)<|p mv<|nl<|ae<|aB ?_
 have aM:=G.lt
 refine lp (fun E a q=> ∃ (i:Nat),(i≤s.length)∧(bw q.heap c<|dA fun x=>decide (x∈s.take i))∧(bw q.heap C [.int .u64 0,.int .u64 0,.int .u64 0,.int .u64 0])∧(Wk w q)∧(a 0=str s)∧(a 2=aW C)∧(a 3=aW c)∧(a 6=aj (s.length))∧(a 7=aj i)∧(s.length - i=E)) _ ⟨0,ab,ap,(V.md.B G),(Md.trans U.md V.md),aa,aa,aa,aa,aa,aa⟩ ?_
 rintro E a q ⟨i,hi,I,J,M,aC,aD,aE,aF,aG,rfl⟩
 refine fx 0 aC<|fx 2 aD<|fx 3 aE<|fx 6 aF<|fx 7 aG<|ak fun ag=>p (lt aa aa)<|nl<|ag<|az fun ah=>cd aa (fun ay=> ?_) fun ay=> ?_
 refine aO<|ah<|az fun A=>aB<|ak fun ai=>au (aj i)<|p (bZ (aj i) aa)<|nl<|ai<|rg aa<|au (str s)<|au (aj i)<|p (jm u9 aa aa ab)<|e<|cl AP (D1 c (s.getD i 0) _ _ I) aa fun aP aJ ax=> ?_
 obtain ⟨rfl,am,O⟩:=ax
 have ar:Wk w aJ:=Md.trans' M O fun k hk h=>by have :=U.md.size; omega
 exact nl<|bn<|A<|rg aa<|p (ad aa aa<|cg ab)<|p mv<|nl<|tn<|⟨_,ab,i+1,ab,(by rw [JR (fun x=>(No (show i < s.length by omega) x).symm)]; exact am),(O.B J fun h=>by omega),ar,aa,aa,aa,aa,aa,aa⟩
 refine ext<|bj<|bj<|be<|ac<|ak fun A=>p (cz ji aa (aa) fun j aA=>by rw [fF]; exact (I).aI j)<|e<|ca nb aa (vs:=dA fun x=>decide (x∈s.take i)) aa aa aa J aw fun aR av aq=>nl<|A<|rt<|rG aa (dB aa ji aa fun j aA=>by rw [fF]; exact aq.aI j) ?_
 have aH:s.take i=s:=fq ab
 rw [aH]
 exact ⟨aa,Md.trans' M av fun k hk h=>by omega⟩
theorem Nq (s:List UInt8) (c:UInt8) (w:World):
 bd ao 248 (a7 [str s,.int .u8 c.toNat]) w (fun v w'=>v= .int .i64 (dT c s)∧Wk w w'):=by
 exact enter func248 aa ntmps248 aa<|ak fun a=>ay<|a<|ak fun i=>au (str s)<|au (.int .u8 c.toNat)<|e<|cl AU (CV s c _) aa fun A C q=>ay<|i<|rt<|ba aa<|q
theorem Kz (s pr:List UInt8) (w:World) (hs:s.length≤1099511627776) (I:pr.length≤1099511627776):
 bd ao 270 (a7 [str s,str pr]) w (fun v w'=>v= .tuple #[str (eV s pr),.bool (decide (s.take pr.length=pr))]∧Wk w w'):=by
 refine enter func270 aa ntmps270 aa<|ak fun A=>p aA<|ay<|A<|az fun C=>az fun E=>rg aa<|au (str s)<|au (str pr)<|e<|cl wm (xU s pr _ hs I) aa fun M O G=> ?_
 obtain ⟨rfl,q⟩:=G
 refine p (no aa)<|nl<|E<|cb aa (fun i=> ?_) fun i=> ?_
 have a:¬s.take pr.length=pr:=by simpa using i
 exact ak fun c=>au (str s)<|p (bZ (str s) aa)<|ay<|c<|rt<|tr<|f2 aa aa aa<|⟨by unfold eV; rw [if_neg a,decide_eq_false a]; rfl,q⟩
 have a:s.take pr.length=pr:=by simpa using i
 have J:=yF a
 exact aO<|C<|ak fun c=>au (str s)<|au (str pr)<|p (dv u9 aa aa)<|p (nn u9 aa aa ab)<|p aA<|ay<|c<|rt<|f2 aa aa aa<|⟨by unfold eV; rw [if_pos a,decide_eq_true a]; rfl,q⟩
theorem KA (s pr:List UInt8) (w:World) (hs:s.length≤1099511627776) (A:pr.length≤1099511627776):
 bd ao 249 (a7 [str s,str pr]) w (fun v w'=>v= .tuple #[str (eV s pr),.bool (decide (s.take pr.length=pr))]∧Wk w w'):=by
 refine enter func249 aa ntmps249 aa<|ak fun a=>p aA<|ay<|a<|ak fun c=>au (str s)<|au (str pr)<|e<|cl ID (Kz s pr _ hs A) aa fun C E q=> ?_
 obtain ⟨rfl,i⟩:=q
 exact p (xt aa aa)<|p (xt aa aa)<|p aA<|ay<|c<|rt<|f2 aa aa aa<|⟨aa,i⟩
theorem Rs (s pr:List UInt8):(eV s pr).length≤s.length:=by unfold eV; split <;> simp
def gy (s:List UInt8) (k:Nat):List UInt8:=(s.drop k).take<|(s.drop k).idxOf 93
theorem HJ (s:List UInt8) (k:Nat):(gy s k).length≤s.length:=by unfold gy; rw [ec,fU]; omega
theorem HI (s:List UInt8) (k:Nat):(s.take<|k+(s.drop k).idxOf 93).drop k=gy s k:=by
 rw [vw,Nat.add_sub_cancel_left]; rfl
def nN (s:List UInt8) (k:Nat):UInt8→Bool:=fun x=>if (gy s k).take 1= [94] then !decide (x∈eV (gy s k) [94]) else decide (x∈eV (gy s k) [94])
theorem HM {s:List UInt8} {k:Nat} (h:(gy s k).take [(94:UInt8)].length= [94]):nN s k=fun x=> !decide (x∈eV (gy s k) [94]):=by
 funext x; exact if_pos h
theorem HN {s:List UInt8} {k:Nat} (h:¬(gy s k).take [(94:UInt8)].length= [94]):nN s k=fun x=>decide (x∈eV (gy s k) [94]):=by
 funext x; exact if_neg h
theorem HK (s:List UInt8) (k:Nat) (w:World) (hs:s.length≤1048576) (hk:k≤s.length):
 bd ao 207 (a7 [str s,aj k]) w (fun v w'=>(∃ f,v= .tuple #[.agg (dA f).toArray,.int .i64 (if dT 93 (s.drop k) < 0 then 0 else ((k+(s.drop k).idxOf 93 +1:Nat):Int)),.bool (!decide (dT 93 (s.drop k) < 0) && decide (eV (gy s k) [94]≠[]))]∧(¬dT 93 (s.drop k) < 0→f=nN s k))∧Wk w w'):=by
 refine enter func207 aa ntmps207 aa<|ak fun aq=>e<|al o5 fun ac bp a6 G E=>p aA<|ay<|aq<|az fun ar=>rg aa<|au (str s)<|au (aj k)<|p (nn u9 aa aa ab)<|e<|cl Iw (Nq (s.drop k) 93 _) aa fun bg bk aR=> ?_
 obtain ⟨rfl,a⟩:=aR
 have ba:(s.drop k).length=s.length - k:=fU
 refine ay<|ar<|az fun av=>ak fun ax=>p mv<|p (lt aa aa)<|nl<|ax<|cd aa (fun i=> ?_) fun i=> ?_
 refine ak fun J=>p (Ap (ps:= []) (L:= [.int .u64 0,.int .u64 0,.int .u64 0,.int .u64 0]) Am aa<|aa)<|e<|ca nb aa (vs:=dA fun _=>false) (by rw [wX]; rfl) aa aa (a.B E) aw fun bn aP aD=>p aA<|ay<|J<|rt<|tr<|BT aa (dB aa ji aa fun j Y=>by rw [fF]; exact aD.aI j) dX dX ?_
 refine ⟨⟨fun _=>false,by rw [if_pos i,decide_eq_true i]; rfl,fun h=>absurd i h⟩,Md.trans' (Md.trans G.md a) aP fun k hk h=>by omega⟩
 have bb:=qa (c:=93) (l:=s.drop k) i
 have a9:(gy s k).length≤s.length:=HJ s k
 refine aO<|av<|az fun J=> ?_
 have ap:=HI s k
 refine rg aa<|au (str s)<|au (aj k)<|au (aj k)<|p mv<|p (bI ((k+(s.drop k).idxOf 93:Nat):Int) aa aa<|bf ab ab)<|p (si u9 aa aa aa ab)<|e<|cl Ix (KA ((s.take<|k+(s.drop k).idxOf 93).drop k) [94] _ (by rw [ap]; omega) aw) aa fun bh bl an=> ?_
 rw [ap] at an
 obtain ⟨rfl,A⟩:=an
 have bc:=Rs (gy s k) [94]
 refine p mv<|p (xt aa aa)<|p (xt aa aa)<|p aA<|ay<|J<|az fun aB=>rg aa<|p mv<|e<|cl Iy (Kb (eV (gy s k) [94]) _ ab) aa fun bi bm aS=> ?_
 obtain ⟨rfl,C⟩:=aS
 refine e<|al o5 fun Z a1 a5 am aC=> ?_
 have aK:Wk w a1:=Md.trans G.md<|Md.trans a<|Md.trans A<|Md.trans C am.md
 have ad:=am.md.B<|C.B<|A.B<|a.B E
 have a8:=ad.lt
 refine e<|ca nb aa (vs:=dA fun x=>decide (x∈eV (gy s k) [94])) aa aa aa aC aw fun a2 ah O=> ?_
 have ag:Wk w a2:=Md.trans' aK ah fun k hk h=>by have :=G.md.size; have :=a.size; have :=A.size; have :=C.size; omega
 have ae:=ah.B ad fun h=>by have :=E.lt; have :=a.size; have :=A.size; have :=C.size; omega
 refine nl<|aB ?_
 refine eD (fun q I=>(bw I.heap Z<|dA<|nN s k)∧(bw I.heap ac [.int .u64 0,.int .u64 0,.int .u64 0,.int .u64 0])∧(Wk w I)∧(q 0=str s)∧(q 1=aj k)∧(q 4=aW ac)∧(q 7= .int .i64 (dT 93<|s.drop k))∧(q 8=str (eV (gy s k) [94]))∧(q 10=aW Z)) ?_ ?_
 refine ak fun M=>p mv<|nl<|M<|cb aa (fun V=> ?_) fun V=> ?_
 refine rg aa<|p (cz ji aa (aa) fun j Y=>by rw [fF]; exact (O).aI j)<|e<|cl wi (yA (fun x=>decide (x∈eV (gy s k) [94])) _) aa fun bj bo aT=> ?_
 obtain ⟨rfl,U⟩:=aT
 refine e<|ca nb aa (vs:=dA fun x=> !decide (x∈eV (gy s k) [94])) aa aa aa (U.B O) (cw 4) fun a3 ai aF=> ?_
 have aL:Wk w a3:=Md.trans' (Md.trans ag U) ai fun k hk h=>by have :=G.md.size; have :=a.size; have :=A.size; have :=C.size; omega
 have aE:=ai.B (U.B ae) fun h=>by have :=E.lt; have :=a.size; have :=A.size; have :=C.size; omega
 exact nl<|tn<|⟨(by rw [HM (by simpa using V)]; exact aF),aE,aL,aa,aa,aa,aa,aa,aa⟩
 exact aO<|tn<|⟨(by rw [HN (by simpa using V)]; exact O),ae,ag,aa,aa,aa,aa,aa,aa⟩
 rintro q I ⟨aH,aJ,aN,aU,aV,aY,aZ,a0,aX⟩
 refine fx 0 aU<|fx 1 aV<|fx 4 aY<|fx 7 aZ<|fx 8 a0<|fx 10 aX<|ak fun M=>p (cz ji aa (aa) fun j Y=>by rw [fF]; exact (aH).aI j)<|au (aj k)<|au (.int .i64<|dT 93<|s.drop k)<|p (bI ((k+(s.drop k).idxOf 93:Nat):Int) aa aa<|bf ab ab)<|p (bI ((k+(s.drop k).idxOf 93 +1:Nat):Int) aa aa<|bf ab ab)<|au (str<|eV (gy s k) [94])<|p (oV aa aa)<|e<|ca nb aa (vs:=dA<|nN s k) aa aa aa aJ aw fun a4 aQ aG=> ?_
 have aM:Wk w a4:=Md.trans' aN aQ fun k hk h=>by omega
 refine p aA<|ay<|M<|rt<|BT aa (dB aa ji aa fun j Y=>by rw [fF]; exact aG.aI j) dX dX ?_
 refine ⟨⟨nN s k,by rw [if_neg i,decide_eq_false i]; rfl,fun _=>rfl⟩,aM⟩
theorem Np (l:List UInt8) (a:Option Addr) (n c:Nat) (x:UInt8) (w:World) (G:aE w.heap a (U8 l)) (hn:l.length=n) (ar:n≤1048576):
 bd ao 281 (a7 [.slice a n c,.int .u8 x.toNat]) w (fun v w'=>v= .int .i64 (dT x l)∧Wk w w'):=by
 refine enter func281 aa ntmps281 aa<|ak fun O=>ay<|O<|az fun U=>ak fun V=>au (.slice a n c)<|p (bO n5 aa aa)<|p mv<|nl<|V<|aB<|lp (fun E q M=> ∃ (i:Nat),(i≤n)∧(∀ j,j < i→l.getD j 0≠x)∧(M=w)∧(q 0= .slice a n c)∧(q 1= .int .u8 x.toNat)∧(q 7=aj n)∧(q 8=aj i)∧(n - i=E)) _ ⟨0,ab,(fun j J=>by omega),aa,aa,aa,aa,aa,aa⟩ ?_
 rintro E q M ⟨i,hi,C,ah,al,am,an,ap,rfl⟩
 refine fx 0 al<|fx 1 am<|fx 7 an<|fx 8 ap ?_
 subst ah
 refine ak fun Y=>p (lt aa aa)<|nl<|Y<|az fun Z=>cd aa (fun ai=> ?_) fun ai=> ?_
 refine aO<|Z<|az fun A=>aB<|ak fun ac=>au (aj i)<|p (bZ (aj i) aa)<|nl<|ac<|ak fun ae=>au (.int .u8 x.toNat)<|au (.slice a n c)<|au (aj i)<|p (a6 oK aa aa ab<|aE.ok (G)<|y1 ab)<|p (ld vL aa<|yZ (i:=i) G ab)<|p (bR aa aa)<|nl<|ae<|cd aa (fun I=> ?_) fun I=> ?_
 have aq:l.getD i 0=x:=pA.1 ab
 exact ak fun ag=>au (aj i)<|p (bZ (aj i) aa)<|nl<|ag<|rt<|br<|tr<|tr<|br<|tr<|ba aa<|⟨by rw [NL (show i < l.length by omega) C aq]; rfl,Md.refl _ _⟩
 exact aO<|bn<|A<|rg aa<|p (ad aa aa<|cg ab)<|p mv<|nl<|tn<|⟨_,ab,i+1,ab,(fun j J=>by rcases gI j i with h | h <;> first | exact C j h | (rw [show j=i by omega]; exact fun h2=>I<|by rw [h2])),aa,aa,aa,aa,aa,aa⟩
 exact ext<|bj<|bj<|be<|U<|ak fun A=>p aA<|nl<|A<|rt<|ba aa<|⟨by rw [NM (fun j J=>C j ab)]; rfl,Md.refl _ _⟩
theorem KU (l:List UInt8) (i j:Nat) (B n cp a:Nat) (w:World) (A:bp w B 5 1 (.slice (some ⟨a,0,none⟩) n cp) n (U8 l)) (ah:i < j∧j≤n) (al:n≤1048576):
 bd ao 282 (a7 [.slice (some ⟨a,0,none⟩) n cp,aj i,aj j]) w (fun v w'=>v= .slice (some ⟨a,0,none⟩) (i+(n - j)) cp∧bp w' B 5 1 (.slice (some ⟨a,0,none⟩) (i+(n - j)) cp) (i+(n - j)) (U8<|l.take i++l.drop j)∧Md (fun q=>q=a) w w'):=by
 have ai:=y0 A
 have ae:=(aV A).1
 refine enter func282 aa ntmps282 aa<|ak fun C=>ay<|C<|ak fun E=>au (.slice (some ⟨a,0,none⟩) n cp)<|au (aj i)<|au (aj j)<|au (.slice (some ⟨a,0,none⟩) n cp)<|p (bO n5 aa aa)<|p (QD oK aa aa aa aa ab)<|nl<|E<|az fun G=>ak fun I=>au (aj i)<|au (aj j)<|p (bR aa aa)<|nl<|I<|cd aa (fun h=>absurd h ab) fun ad=>aO<|G<|ak fun J=>au (.slice (some ⟨a,0,none⟩) n cp)<|p (bO n5 aa aa)<|p aA<|nl<|J<|az fun M=> ?_
 have c:(fun w'=>Wk w w') w.drew:=(Md.refl _ _).drew
 refine eB (fun w'=>Wk w w') 6 aa wide c<|bl 0 aa (.slice (some ⟨a,0,none⟩) n cp) c<|bl 1 aa (aj i) c<|bz 2 aa (fun _=>uB oK aa aa ab) (fun _=>c)<|bl 3 aa (.slice (some ⟨a,0,none⟩) n cp) c<|bl 4 aa (aj j) c<|bz 5 aa (fun _=>sh oK aa aa ab) (fun _=>c)<|c5 6 aa ag ag<|Hp (B:=B) (xs:=U8<|l.take i) (news:=U8<|l.drop j) (n:=i) (m:=n - j) oZ (yB (aX A c) ab ab) aa aa (show aE _ (eM (some ⟨a,0,none⟩) cp j 1) (U8<|l.drop j) from RF<|aX A c) (by unfold eM; split <;> simp) (by rw [td,fU]; omega) (GZ _) ab fun am V Z=>bz 7 aa (fun _=>aA) (fun h=>c7<|(show true =_ from by kernel_rfl).trans h)<|eA ag<|M<|ak fun O=>au (.slice (some ⟨a,0,none⟩) (i+(n - j)) cp)<|au (.slice (some ⟨a,0,none⟩) (i+(n - j)) cp)<|p (bO n5 aa aa)<|p mv<|p (QE oK aa aa aa ab) ?_
 exact e<|JM n5 Su aa Z (by simp) aa ab fun an Y ac=>nl<|O<|ak fun U=>au (.slice (some ⟨a,0,none⟩) (i+(n - j)) cp)<|p (bZ (.slice (some ⟨a,0,none⟩) (i+(n - j)) cp) aa)<|nl<|U<|rt<|ba aa<|⟨aa,by rw [tc]; exact ac,Md.trans (c.mono fun _ _ h=>h.elim)<|Md.trans V<|Y.mono fun q _ h=>by simpa [Value.ownBlock] using h.symm⟩
end Go.Hb.ov
section
namespace Go.Hb
open Go.Hb.ov
theorem Ar {s:List UInt8} {k:Nat} (h:(s.drop k).idxOf 93 < (s.drop k).length):eV (gy s k) [94]≠[]↔(s.drop k).idxOf 93≠0∧¬((s.drop k).idxOf 93=1∧(s.drop k).getD 0 0=94):=by
 unfold gy eV
 generalize c:s.drop k=l at*
 cases l with
 | nil=>simp at h
 | cons b r=>
   generalize hm:(b::r).idxOf 93=m at*
   cases m with
   | zero=>simp
   | succ m=>
     simp only [bV] at h
     simp only [qQ,iH,nG,ma,sO,sP]
     by_cases a:b=94
     · subst a
       rw [if_pos rfl]
       cases m with
       | zero=>simp
       | succ m=>
         cases r with
         | nil=>simp at h
         | cons x r=>simp
     · rw [if_neg (by simpa using a)]
       simp [a]
theorem HO {s:List UInt8} {k:Nat} (h:(s.drop k).idxOf 93 < (s.drop k).length) (q:(s.drop k).idxOf 93≠0):nN s k=eI (91::(s.drop k).take ((s.drop k).idxOf 93 +1)):=by
 funext x
 unfold nN gy eV eI
 generalize C:s.drop k=l at*
 cases l with
 | nil=>simp at h
 | cons b r=>
   generalize hm:(b::r).idxOf 93=m at*
   cases m with
   | zero=>exact absurd rfl q
   | succ m=>
     simp only [bV] at h
     have A:(91::po (m+1 +1) (b::r)).length=m+3:=by simp only [bV,ec]; omega
     rw [A,if_neg (show ¬m+3=1 by omega)]
     have c:(91::po (m+1 +1) (b::r)).getD 1 0=b:=rfl
     have i:po (m+3 - 1) (91::po (m+1 +1) (b::r))=91::po (m+1) (b::r):=by
      show po (m+2) (91::po (m+2) (b::r))=_
      rw [qQ,List.take_take,Nat.min_eq_left ab]
     rw [c,i]
     simp only [qQ,nG,sO,sP,iH]
     by_cases a:b=94
     · subst a; simp
     · simp [a]
theorem Lj:(fun x:UInt8=> !(fun _:UInt8=>false) x)=eI [46]:=by funext x; simp [eI]
theorem O9 {c:UInt8} (h:c≠46):(fun x:UInt8=>(fun _:UInt8=>false) x || decide (x=c))=eI [c]:=by
 funext x
 simp only [eI,iH,if_true,Bool.false_or,ma]
 exact decide_eq_decide.2 ⟨fun h1=> .inr h1.symm,fun h1=>(h1.resolve_left h).symm⟩
theorem Bg {ps:List (List UInt8)} (h:0 < ps.length):jH ps≠[]:=xB (f:=fun t=>dA<|eI t) (m:=4) (fun _=>rfl) aw h
theorem Bf {h:Array Obj} {a:Option Addr} {ps:List (List UInt8)} {i:Nat} (c:aE h a (jH ps)) (hi:i < ps.length):∀ j,j < 4→Hb.aI h (bk a) (fo a+i*4 +j)=(dA<|eI<|ps.getD i [])[j]? :=by
 have :=gn (f:=fun t=>dA<|eI t) (m:=4) (fun _=>rfl) c<|cj hi
 rw [cX,cj hi]; exact this
theorem C0 {b:UInt8} (h:(b.toNat:Int)=91):b=91:=pA.1 (by have :(91:UInt8).toNat=91:=rfl; omega)
theorem ys {b:UInt8} (h:¬(b.toNat:Int)=91):b≠91:=by rintro rfl; exact h rfl
theorem CZ {b:UInt8} (h:(b.toNat:Int)=46):b=46:=pA.1 (by have :(46:UInt8).toNat=46:=rfl; omega)
theorem DK {b:UInt8} (h:¬(b.toNat:Int)=46):b≠46:=by rintro rfl; exact h rfl
theorem DP {w:World} {B:Nat} {v:Value} {l:List (List UInt8)} {x:List UInt8} (h:w.ownsRow B 325 4 v (l.length+1) (jH l++dA (eI x))):w.ownsRow B 325 4 v (l++ [x]).length (jH<|l++ [x]):=by
 rw [bJ,JO]; simpa [jH] using h
theorem KV (l:List UInt8) (i j:Nat) (c A:Int) (B n cp a:Nat) (w:World) (C:bp w B 5 1 (.slice (some ⟨a,0,none⟩) n cp) n (U8 l)) (E:i < j∧j≤n) (I:n≤1048576) (hi:c=(i:Nat)) (G:A=(j:Nat)):
 bd ao 282 (a7 [.slice (some ⟨a,0,none⟩) n cp,.int .i64 c,.int .i64 A]) w (fun v w'=>v= .slice (some ⟨a,0,none⟩) (i+(n - j)) cp∧bp w' B 5 1 (.slice (some ⟨a,0,none⟩) (i+(n - j)) cp) (i+(n - j)) (U8<|l.take i++l.drop j)∧Md (fun q=>q=a) w w'):=by
 subst hi G; exact KU l i j B n cp a w C E I
theorem Qy (f:UInt8→Bool) (w:World):
 bd ao 267 (a7 [.agg (dA<|f).toArray]) w (fun v w'=>v=str (kv f)∧Wk w w'):=by
 have bQ:(bytesOf f).length≤256:=rh f 256
 have bS:(bytesOf fun x=> !f x).length≤256:=rh _ 256
 refine enter func267 aa ntmps267 aa<|ak fun a0=>e<|iV aa fun a8 aC al Y aF=>ay<|a0<|ak fun a1=>p (cz ji aa (aa) fun j aP=>by rw [fF]; exact (aF).aI j)<|e<|cl AV (Aw f _) aa fun v6 aT bs=> ?_
 obtain ⟨ae,aj⟩:=bs
 obtain ⟨q,a,rfl⟩:=cU ae
 have E:=(aV ae).2
 have V:Wk w aT:=Md.trans Y.md aj
 have aG:=aj.B aF
 refine ay<|a1<|az fun a3=>aB<|ak fun a4=>au (.slice q (bytesOf f).length a)<|p (bO n5 aa aa)<|p (bR aa aa)<|ay<|a4<|cd aa (fun bu=> ?_) fun bu=> ?_
 exact ak fun G=>ay<|G<|rt<|br<|tr<|ba aa<|⟨by unfold kv; rw [if_pos (show (bytesOf f).length=256 by omega)]; rfl,V⟩
 refine eD (fun ah aY=> ∃ (ai:Bool),(ai=decide ((bytesOf f).length=1∧(bytesOf f).getD 0 0≠46∧(bytesOf f).getD 0 0≠91))∧(aY=aT)∧(ah 1=aW a8)∧(ah 3= .slice q (bytesOf f).length a)∧(ah 11= .bool ai)) ?_ ?_
 refine rg aa<|au (.slice q (bytesOf f).length a)<|p (bO n5 aa aa)<|p (bR aa aa)<|p mv<|gs (t:=15) aa (fun bv=> ?_) fun bv=> ?_
 refine aU aa (aH (.slice q (bytesOf f).length a) aa)<|aU aa (a6 oK aa aa ab<|aE.ok (E)<|y1 ab)<|aU aa (ld vL aa<|yZ (i:=0) E ab)<|aU aa (fR aa aa)<|p (bL aa)<|p mv<|gs (t:=21) aa (fun aN=> ?_) fun aN=> ?_
 exact aU aa (aH (.slice q (bytesOf f).length a) aa)<|aU aa (a6 oK aa aa ab<|aE.ok (E)<|y1 ab)<|aU aa (ld vL aa<|yZ (i:=0) E ab)<|aU aa (fR aa aa)<|p (bL aa)<|p aA<|nl<|tn<|⟨_,(by first | exact decide_eq_decide.2 ⟨fun h=>⟨ab,by first | exact DK ab | exact fun h=>by omega,by first | exact ys ab | exact fun h=>by omega⟩,fun h=>by have h1:=h.2.2; exact fun h2=>h1<|C0 h2⟩ | rfl),aa,aa,aa,aa⟩
 exact aK aa<|aK aa<|aK aa<|aK aa<|p (bC aa)<|p aA<|nl<|tn<|⟨false,((decide_eq_false fun h=>h.2.1<|CZ<|Decidable.of_not_not aN).symm),aa,aa,aa,aa⟩
 exact aK aa<|aK aa<|aK aa<|aK aa<|p (bC aa)<|p mv<|aK aa<|aK aa<|aK aa<|aK aa<|p (bC aa)<|p aA<|nl<|tn<|⟨false,((decide_eq_false fun h=>by omega).symm),aa,aa,aa,aa⟩
 rintro ah aY ⟨ai,al,bi,bA,bE,bD⟩
 refine fx 1 bA<|fx 3 bE<|fx 11 bD ?_
 subst bi
 refine cb aa (fun am=> ?_) fun am=> ?_
 have ag:(bytesOf f).length=1∧(bytesOf f).getD 0 0≠46∧(bytesOf f).getD 0 0≠91:=of_decide_eq_true<|al ▸ am
 exact ak fun G=>au (.slice q (bytesOf f).length a)<|p (wY vT aa (E)<|by simp)<|ay<|G<|rt<|br<|tr<|ba aa<|⟨by unfold kv; rw [if_neg (show ¬(bytesOf f).length=256 by omega),if_pos ag]; rfl,V⟩
 have ag:¬((bytesOf f).length=1∧(bytesOf f).getD 0 0≠46∧(bytesOf f).getD 0 0≠91):=of_decide_eq_false<|al ▸ am
 refine ak fun G=>p (cz ji aa (aa) fun j aP=>by rw [fF]; exact (aG).aI j)<|e<|cl wq (CL f 93 _ _ rfl) aa fun v31 b0 bk=> ?_
 obtain ⟨rfl,A⟩:=bk
 refine ay<|G<|cb aa (fun an=> ?_) fun an=> ?_
 refine ak fun I=>p (cz ji aa (aa) fun j aP=>by rw [fF]; exact (A.B aG).aI j)<|e<|cl wi (yA f _) aa fun bW b1 bl=> ?_
 obtain ⟨rfl,bb⟩:=bl
 refine e<|cl AV (Aw (fun x=> !f x) _) aa fun bX b2 bm=> ?_
 obtain ⟨aR,bc⟩:=bm
 obtain ⟨bK,bN,rfl⟩:=cU aR
 exact p (wY vT aa ((aV aR).2)<|aa)<|p (cc aa aa<|by simp only [bV,fV]; omega)<|p (cc aa aa<|by simp only [bV,fV,bJ]; omega)<|ay<|I<|rt<|br<|tr<|ba aa<|⟨by unfold kv; rw [if_neg (show ¬(bytesOf f).length=256 by omega),if_neg ag,if_pos an]; rfl,Md.trans V<|Md.trans A<|Md.trans bb bc⟩
 refine aO<|bn<|a3 ?_
 refine eD (fun aZ aD=> ∃ (J:Option Addr) (C M:Nat),(((bytesOf f).filter (fun b=>decide (b≠94))++(if 94∈(bytesOf f) then [94] else [])).length=C)∧(bp aD aC.heap.size 5 1 (.slice J C M) C<|U8<|(bytesOf f).filter (fun b=>decide (b≠94))++(if 94∈(bytesOf f) then [94] else []))∧(Wk w aD)∧(C≤300)∧(aZ 3= .slice J C M)) ?_ ?_
 refine ak fun I=>au (.slice q (bytesOf f).length a)<|e<|cl IF (Np (bytesOf f) q _ a 94 _ (E.wk A) aa ab) aa fun bY bG bo=> ?_
 obtain ⟨rfl,U⟩:=bo
 have aJ:Wk w bG:=Md.trans V<|Md.trans A U
 refine ay<|I<|ak fun a5=>p mv<|p (ge aa aa)<|nl<|a5<|cd aa (fun bt=> ?_) fun bt=> ?_
 have aq:=qa (c:=94) (l:=bytesOf f) ab
 have ar:=aX (aX ae A) U
 obtain ⟨O,rfl⟩:=Pj ar ab
 refine rg aa<|au (.slice (some ⟨O,0,none⟩) (bytesOf f).length a)<|p mv<|p mv<|p (ad aa aa<|cg ab)<|e<|cl IG (KV (bytesOf f) ((bytesOf f).idxOf 94) ((bytesOf f).idxOf 94 +1) _ _ aC.heap.size _ a O _ ar ab ab ab ab) aa fun v46 bH bq=> ?_
 obtain ⟨rfl,av,aM⟩:=bq
 have bf:Wk w bH:=Md.trans' aJ aM fun k hk h=>by have :=dd ar (show (bB (some ⟨O,0,none⟩) _ a).ownBlock=some O from rfl); have :=Y.md.size; omega
 have bw:=y0 av
 refine e<|lf oZ aa aa fun bM b3 bP Z a9=>e<|ap oZ (aX av Z.md) aa (by have :=Y.md.size; have :=aj.size; have :=A.size; have :=U.size; have :=aM.size; have :=Z.md.size; omega) aa (aE.fA a9) (aa) (aa) ab ab fun bZ bI ax bj bU bT=> ?_
 have bg:=Wk.own (Md.trans bf Z.md) (aX av Z.md) bj Y.md.size
 rw [Nn (HT f) aq.2] at bw ax
 obtain ⟨a2,c2,rfl⟩:=cU ax
 have aS:bp bI aC.heap.size 5 1 (.slice a2 (((bytesOf f).idxOf 94 +((bytesOf f).length - ((bytesOf f).idxOf 94 +1)))+1) c2) (((bytesOf f).idxOf 94 +((bytesOf f).length - ((bytesOf f).idxOf 94 +1)))+1) (U8<|(bytesOf f).filter (fun b=>decide (b≠94))++ [94]):=by rw [tc]; exact ax
 exact p aA<|nl<|tn<|⟨a2,_,c2,(by have :=y0 aS; rw [if_pos (vB.1 aq.2)]; exact this),(by rw [if_pos (vB.1 aq.2)]; exact aS),bg,(ab),aa⟩
 have ac:¬(94:UInt8)∈bytesOf f:=fun h=>by have h1:dT 94 (bytesOf f)=(bytesOf f).idxOf 94:=if_pos (vB.2 h); omega
 exact aO<|tn<|⟨q,(bytesOf f).length,a,(by rw [if_neg ac,DC ac,eb]),(by rw [if_neg ac,DC ac,eb]; exact aX (aX ae A) U),aJ,(ab),aa⟩
 rintro aZ aD ⟨J,C,M,aQ,bz,bh,bx,bF⟩
 refine fx 3 bF ?_
 have aL:((bytesOf f).filter (fun b=>decide (b≠94))++(if 94∈(bytesOf f) then [94] else [])).length≤300:=by rw [aQ]; exact bx
 exact ak fun I=>au (.slice J C M)<|p (wY vT aa ((aV bz).2)<|aQ)<|p (cc aa aa<|e9 (GI aL _) aw)<|p (cc aa aa<|by rw [bJ]; exact e9 (Nat.add_le_add_right (GI aL _) _) aw)<|p aA<|nl<|I<|rt<|ba aa<|⟨by unfold kv; rw [if_neg (show ¬(bytesOf f).length=256 by omega),if_neg ag,if_neg (show ¬f 93=true from by rw [an]; exact c7)]; rfl,bh⟩
theorem Bn (s:List UInt8) (w:World) (hs:s.length≤1048576):
 bd ao 144 (a7 [str s]) w (fun v w'=>(∃ a,v= .tuple #[.agg [a].toArray,aj ((dH s).2)]∧bp w' w.heap.size 325 4 (a) ((dH s).1).length (jH<|(dH s).1))∧Wk w w'):=by
 refine enter func144 aa ntmps144 aa<|ak fun b1=>e<|gx uY fun aD dR dw ac an=>ay<|b1<|az fun b6=>az fun bs=>rg aa<|au (str s)<|p (iM aa aa)<|p mv<|gs (t:=10) aa (fun O=> ?_) fun O=> ?_
 refine aK aa<|aK aa<|aK aa<|p (bL aa)<|nl<|bs<|ct aa<|az fun ah=>rg aa<|p (cT (ps:= []) (L:= [.slice none 0 0]) sr aa<|aa)<|e<|gi nP aa (vs:= [.slice none 0 0]) aa aa aa an aw fun E q A=> ?_
 have C:Wk w E:=Md.trans' ac.md q fun k hk h=>by omega
 exact ay<|ah<|rt<|tr<|ew aa (dB (cs:= [.slice none 0 0]) aa k5 aa fun j G=>by cases j with | zero=>exact (aY A).trans aa | succ j=>omega) dX<|⟨⟨.slice none 0 0,by unfold dH; rw [if_pos (.inl O)]; rfl,by unfold dH; rw [if_pos (.inl O)]; exact dJ _ _ _ _⟩,C⟩
 refine aU aa (aH (str s) aa)<|aU aa (dv u9 aa aa)<|aU aa (gt aa aa)<|p (bC aa)<|nl<|bs<|cd aa (fun cV=> ?_) fun cV=> ?_
 refine ak fun ah=>p (cT (ps:= []) (L:= [.slice none 0 0]) sr aa<|aa)<|e<|gi nP aa (vs:= [.slice none 0 0]) aa aa aa an aw fun E q A=> ?_
 have C:Wk w E:=Md.trans' ac.md q fun k hk h=>by omega
 exact ay<|ah<|rt<|tr<|ew aa (dB (cs:= [.slice none 0 0]) aa k5 aa fun j G=>by cases j with | zero=>exact (aY A).trans aa | succ j=>omega) dX<|⟨⟨.slice none 0 0,by unfold dH; rw [if_pos (.inr ab)]; rfl,by unfold dH; rw [if_pos (.inr ab)]; exact dJ _ _ _ _⟩,C⟩
 refine aO<|b6<|az fun ah=>ak fun b7=>au (str s)<|p (iM aa aa)<|nl<|b7<|cd aa (fun ad=> ?_) fun ad=> ?_
 refine ak fun a5=>p (cT (ps:= []) (L:= [.slice none 0 0]) sr aa<|aa)<|e<|gi nP aa (vs:= [.slice none 0 0]) aa aa aa an aw fun E q A=> ?_
 have C:Wk w E:=Md.trans' ac.md q fun k hk h=>by omega
 refine ay<|a5<|rt<|tr<|ew aa (dB (cs:= [.slice none 0 0]) aa k5 aa fun j G=>by cases j with | zero=>exact (aY A).trans aa | succ j=>omega) dX ?_
 have bT:¬(s= []∨512 < s.length):=fun h=>h.elim O fun h=>by omega
 exact ⟨⟨.slice none 0 0,by unfold dH; rw [if_neg bT,if_pos ad]; rfl,by unfold dH; rw [if_neg bT,if_pos ad]; exact dJ _ _ _ _⟩,C⟩
 refine aO<|ah<|ak fun a5=>e<|gx uY fun ai ds dy bP cn=> ?_
 have cM:Wk w ds:=Md.trans ac.md bP.md
 have dx:=(cy.1 an).1
 have cm:=bP.md.aB an
 have hs:=hs
 refine nl<|a5<|az fun b8=>ak fun b9=>ay<|b9<|aB<|lp (fun bt aC V=> ∃ (i:Nat) (c:List (List UInt8)) (ax:Value),(i≤s.length∧c.length≤i)∧(jS s i c)∧(V.heap[ai]? =some (.cells [ax].toArray 270 (0,0)))∧(V.heap[aD]? =some (.cells [.slice none 0 0].toArray 270 (0,0)))∧(bp V w.heap.size 325 4 (ax) (c).length<|jH<|c)∧(Wk w V)∧(aC 0=str s)∧(aC 2=aW aD)∧(aC 4=aW ai)∧(aC 5=aj i)∧(s.length - i=bt)) _ ⟨0,[],.slice none 0 0,(by simp),(jS.start s),cn,cm,(dJ _ _ _ _),cM,aa,aa,aa,(by first | rfl | exact iv<|if_neg av),aa⟩ ?_
 rintro bt aC V ⟨i,c,ax,hi,aT,aG,aq,U,Y,c5,c6,c7,c9,rfl⟩
 refine fx 0 c5<|fx 2 c6<|fx 4 c7<|fx 5 c9<|az fun cc=>ak fun b2=>au (aj i)<|au (str s)<|p (dv u9 aa aa)<|p (lt aa aa)<|nl<|b2<|cd aa (fun cW=> ?_) fun cW=> ?_
 refine aO<|cc<|aB<|ak fun a1=>e<|al o5 fun am b0 bQ aQ cu=> ?_
 have aF:bw b0.heap am (dA fun _=>false):=by rw [wX]; exact cu
 have bb:Wk w b0:=Md.trans Y aQ.md
 have a9:=aQ.md.aB aG
 have ba:=aQ.md.aB aq
 have bo:=aX U aQ.md
 have bQ:am=V.heap.size:=bQ
 have du:=(cy.1 aG).1
 have dt:=(cy.1 aq).1
 have bl:=drop_cons (l:=s) (i:=i) 0 ab
 refine nl<|a1<|ak fun a2=>ay<|a2 ?_
 refine eD (fun ag ae=>(s.getD i 0≠91)∧(bw ae.heap am<|dA<|eI [s.getD i 0])∧(ae.heap[ai]? =some (.cells [ax].toArray 270 (0,0)))∧(ae.heap[aD]? =some (.cells [.slice none 0 0].toArray 270 (0,0)))∧(bp ae w.heap.size 325 4 (ax) (c).length<|jH<|c)∧(Wk w ae)∧(ag 0=str s)∧(ag 2=aW aD)∧(ag 4=aW ai)∧(ag 5=aj i)∧(ag 6=aW am)) ?_ ?_
 refine ak fun J=>au (str s)<|au (aj i)<|p (jm u9 aa aa ab)<|nl<|J<|aB<|ak fun b3=>p (bR aa aa)<|ay<|b3<|cd aa (fun aR=> ?_) fun aR=> ?_
 refine az fun a3=>ak fun b4=>au (str s)<|au (aj i)<|p (bI ((i+1:Nat):Int) aa aa<|bf ab ab)<|e<|cl Ii (HK s (i+1) _ hs ab) aa fun dP dr cR=> ?_
 obtain ⟨⟨cg,rfl,cY⟩,hE36⟩:=cR
 have cL:Wk w dr:=Md.trans bb hE36
 have bS:=C0 aR
 refine p mv<|p (xt aa aa)<|p (xt aa aa)<|p (xt aa aa)<|e<|ca nb aa (vs:=dA cg) aa aa aa (hE36.B aF) aw fun dl aJ bu=> ?_
 have bK:Wk w dl:=Md.trans' cL aJ fun k hk h=>by have :=Y.size; omega
 have dK:=hE36.size
 have bv:=aJ.aB (hE36.aB a9) fun h=>by omega
 have bF:=aJ.aB (hE36.aB ba) fun h=>by omega
 have c0:=cx (aX bo hE36) aJ fun k hk h=>by have :=dd U hk; omega
 have dD:(s.drop<|i+1).length=s.length - (i+1):=fU
 refine p aA<|ay<|b4<|ak fun b5=>p mv<|p (no aa)<|nl<|b5<|cb aa (fun M=> ?_) fun M=> ?_
 have ar:jk (s.drop i)=none:=by
  rw [bl,bS]
  refine Jt aa fun h=> ?_
  have dg:¬dT 93 (s.drop<|i+1) < 0:=by rw [show dT 93 (s.drop<|i+1)=(s.drop<|i+1).idxOf 93 from if_pos h.1]; omega
  have dh:=(Ar (s:=s) (k:=i+1) h.1).2 h.2
  rw [decide_eq_false dg,decide_eq_true dh] at M; cases M
 have aS:=aT.bad ab ar
 refine ak fun a4=>p (cT (ps:= []) (L:= [.slice none 0 0]) sr aa<|aa)<|e<|gi nP aa (vs:= [.slice none 0 0]) aa aa aa bF aw fun E q A=> ?_
 have C:Wk w E:=Md.trans' bK q fun k hk h=>by omega
 refine ay<|a4<|rt<|tr<|br<|tr<|br<|tr<|br<|tr<|ew aa (dB (cs:= [.slice none 0 0]) aa k5 aa fun j G=>by cases j with | zero=>exact (aY A).trans aa | succ j=>omega) dX ?_
 have I:dH s=([],41):=by unfold dH; rw [if_neg (fun h=>h.elim O fun h=>by omega),if_neg ad,aS]
 exact ⟨⟨.slice none 0 0,by rw [I]; rfl,by rw [I]; exact dJ _ _ _ _⟩,C⟩
 have av:¬dT 93 (s.drop<|i+1) < 0:=fun h=>by rw [decide_eq_true h] at M; cases M
 have di:eV (gy s<|i+1) [94]≠[]:=fun h=>by rw [h] at M; simp at M
 have aV:=qa av
 have bq:=(Ar (s:=s) (k:=i+1) aV.2).1 di
 obtain rfl :=cY av
 rw [HO aV.2 bq.1] at bu
 have ar:jk (s.drop i)=some (91::(s.drop<|i+1).take ((s.drop<|i+1).idxOf 93 +1),(s.drop<|i+1).drop ((s.drop<|i+1).idxOf 93 +1)):=by rw [bl,bS]; exact Jv rfl aV.2 bq.1 bq.2
 have bm:=aT.step (j:=i+1 +(s.drop<|i+1).idxOf 93 +1) ar<|by rw [List.drop_drop]; rfl
 have dI:(s.drop<|i+1).idxOf 93 < s.length - (i+1):=by have :=aV.2; omega
 refine aO<|a3<|ak fun a4=>p (fa kL aa)<|p (ld lP aa<|(aY bv).trans aa)<|p (cz ji aa (aa) fun j G=>by rw [fF]; exact (bu).aI j)<|e<|mu uC aa aa aa fun ce bY dz aN co=> ?_
 have cp:bw bY.heap ce (dA<|eI (91::(s.drop<|i+1).take ((s.drop<|i+1).idxOf 93 +1))):=co
 have bM:Wk w bY:=Md.trans bK aN.md
 have aZ:=aX c0 aN.md
 have bx:=aN.md.aB bv
 have bG:=aN.md.aB bF
 refine e<|ap uC (aZ) aa (by have :=bM.size; omega) aa (aE.fA cp) (aa) (Bi _) ab ab fun dj dS bU bh dM dE=> ?_
 have bV:=DP bU
 have bz:=bh.aB bx fun h=>c8 aZ bx aw h
 have cE:=bh.aB bG fun h=>c8 aZ bG aw h
 have cN:=Wk.own bM aZ bh<|cw _
 refine p (fa kL aa)<|e<|dF Bq aa aa (ej bU) bz (by simp) fun dm bc ch=> ?_
 have cH:Wk w dm:=Md.trans' cN bc fun k hk h=>by have :=ac.md.size; omega
 exact nl<|a4<|ext<|la aw<|bj<|be<|tn<|⟨_,ab,i+1 +(s.drop<|i+1).idxOf 93 +1,c++ [91::(s.drop<|i+1).take ((s.drop<|i+1).idxOf 93 +1)],dj,(by rw [bJ,iH]; omega),bm,ch,(bc.aB cE fun h=>by omega),(cx bV bc fun k hk h=>c8 bV bz aw<|h ▸ hk),cH,aa,aa,aa,(by first | rfl | exact iv<|if_neg av),aa⟩
 refine ak fun a3=>p (bR aa aa)<|ay<|a3<|cd aa (fun bk=> ?_) fun bk=> ?_
 refine rg aa<|p (cz ji aa (aa) fun j G=>by rw [fF]; exact (aF).aI j)<|e<|cl wi (yA (fun _=>false) _) aa fun dQ dU cS=> ?_
 obtain ⟨rfl,Z⟩:=cS
 refine e<|ca nb aa (vs:=dA fun x=> !(fun _:UInt8=>false) x) aa aa aa (Z.B aF) aw fun dn aL ci=> ?_
 have dL:=Z.size
 have cI:Wk w dn:=Md.trans' (Md.trans bb Z) aL fun k hk h=>by have :=Y.size; omega
 have cA:=aL.aB (Z.aB a9) fun h=>by omega
 have cC:=aL.aB (Z.aB ba) fun h=>by omega
 have c1:=cx (aX bo Z) aL fun k hk h=>by have :=dd U hk; omega
 exact nl<|bn<|tn<|⟨(ys aR),(by rw [CZ bk,← Lj]; exact ci),cA,cC,c1,cI,aa,aa,aa,aa,aa⟩
 refine rg aa<|au (str s)<|au (aj i)<|p (jm u9 aa aa ab)<|e<|cl AP (D1 am (s.getD i 0) _ _ aF) aa fun dO dq cQ=> ?_
 obtain ⟨rfl,ck,aM⟩:=cQ
 have cK:Wk w dq:=Md.trans' bb aM fun k hk h=>by have :=Y.size; omega
 have cB:=aM.aB a9 fun h=>by omega
 have cD:=aM.aB ba fun h=>by omega
 have c2:=cx bo aM fun k hk h=>by have :=dd U hk; omega
 exact nl<|bn<|tn<|⟨(ys aR),(by rw [← O9 (DK bk)]; exact ck),cB,cD,c2,cK,aa,aa,aa,aa,aa⟩
 rintro ag ae ⟨cZ,cv,bE,cG,c4,cP,da,db,dc,de,df⟩
 refine fx 0 da<|fx 2 db<|fx 4 dc<|fx 5 de<|fx 6 df<|ak fun J=>p (fa kL aa)<|p (ld lP aa<|(aY bE).trans aa)<|p (cz ji aa (aa) fun j G=>by rw [fF]; exact (cv).aI j)<|e<|mu uC aa aa aa fun cf bZ dC aP cq=> ?_
 have cr:bw bZ.heap cf (dA<|eI [s.getD i 0]):=cq
 have bN:Wk w bZ:=Md.trans cP aP.md
 have a0:=aX c4 aP.md
 have bA:=aP.md.aB bE
 have bH:=aP.md.aB cG
 refine e<|ap uC (a0) aa (by have :=bN.size; omega) aa (aE.fA cr) (aa) (Bi _) ab ab fun dk dV bW bi dN dG=> ?_
 have bX:=DP bW
 have bD:=bi.aB bA fun h=>c8 a0 bA aw h
 have cF:=bi.aB bH fun h=>c8 a0 bH aw h
 have cO:=Wk.own bN a0 bi<|cw _
 have ar:jk (s.drop i)=some ([s.getD i 0],s.drop (i+1)):=by rw [bl]; exact Ju cZ
 have bm:=aT.step (j:=i+1) ar rfl
 refine p (fa kL aa)<|e<|dF Bq aa aa (ej bW) bD (by simp) fun dp bg cj=> ?_
 have cJ:Wk w dp:=Md.trans' cO bg fun k hk h=>by have :=ac.md.size; omega
 exact nl<|J<|rg aa<|au (aj i)<|p (bI ((i+1:Nat):Int) aa aa<|bf ab ab)<|p aA<|nl<|bn<|tn<|⟨_,ab,i+1,c++ [[s.getD i 0]],dk,(by rw [bJ,iH]; omega),bm,cj,(bg.aB cF fun h=>by omega),(cx bX bg fun k hk h=>c8 bX bD aw<|h ▸ hk),cJ,aa,aa,aa,(by first | rfl | exact iv<|if_neg av),aa⟩
 refine ext<|bj<|bj<|be<|b8<|az fun a1=>az fun a2=> ?_
 obtain ⟨a6,a8,rfl⟩:=cU U
 have aS:=aT.done ab
 refine rg aa<|p (fa kL aa)<|p (ld lP aa<|(aY aG).trans aa)<|p (bO n7 aa aa)<|p (gt aa aa)<|nl<|a2<|cd aa (fun cX=> ?_) fun cX=> ?_
 refine ak fun J=>p (cT (ps:= []) (L:= [.slice none 0 0]) sr aa<|aa)<|e<|gi nP aa (vs:= [.slice none 0 0]) aa aa aa aq aw fun E q A=> ?_
 have C:Wk w E:=Md.trans' Y q fun k hk h=>by omega
 refine ay<|J<|rt<|tr<|ew aa (dB (cs:= [.slice none 0 0]) aa k5 aa fun j G=>by cases j with | zero=>exact (aY A).trans aa | succ j=>omega) dX ?_
 have I:dH s=([],42):=by unfold dH; rw [if_neg (fun h=>h.elim O fun h=>by omega),if_neg ad,aS]; exact if_pos ab
 exact ⟨⟨.slice none 0 0,by rw [I]; rfl,by rw [I]; exact dJ _ _ _ _⟩,C⟩
 refine aO<|a1<|ak fun J=>p (cz k5 aa (aa) (show ∀ j,j < 1→Hb.aI V.heap ai (0 +j)= [bB a6 c.length a8][j]? from fun j G=>by cases j with | zero=>exact (aY aG).trans aa | succ j=>omega))<|e<|gi nP aa (vs:= [.slice a6 c.length a8]) aa aa aa aq aw fun E q A=> ?_
 have C:Wk w E:=Md.trans' Y q fun k hk h=>by omega
 have c3:=cx U q fun k hk h=>c8 U aq aw<|h ▸ hk
 refine ay<|J<|rt<|ew aa (dB (cs:= [.slice a6 c.length a8]) aa k5 aa fun j G=>by cases j with | zero=>exact (aY A).trans aa | succ j=>omega) dX ?_
 have I:dH s=(c,0):=by unfold dH; rw [if_neg (fun h=>h.elim O fun h=>by omega),if_neg ad,aS]; exact if_neg ab
 exact ⟨⟨_,by rw [I]; rfl,by rw [I]; exact c3⟩,C⟩
theorem PH (ps:List (List UInt8)) (a:Option Addr) (c:Nat) (w:World) (U:aE w.heap a (jH ps)) (hn:ps.length≤4096):
 bd ao 245 (a7 [.agg [.slice a ps.length c].toArray]) w (fun v w'=>v=str (n2 ps)∧Wk w w'):=by
 refine enter func245 aa ntmps245 aa<|ak fun Y=>e<|iV aa fun aL V aN C O=>ay<|Y<|az fun ac=>az fun ae=>rg aa<|p (fa kL aa)<|p (ld lP aa<|O.aI 0)<|p (bO n7 aa aa)<|p (bR aa aa)<|nl<|ae<|cd aa (fun I=> ?_) fun I=> ?_
 exact ak fun E=>ay<|E<|rt<|tr<|ba aa<|⟨by unfold n2; rw [if_pos (gr ab)]; rfl,C.md⟩
 refine aO<|ac<|ak fun E=>ay<|E<|az fun ag=>ak fun ah=>p (fa kL aa)<|p (ld lP aa<|O.aI 0)<|p (bO n7 aa aa)<|p mv<|nl<|ah<|aB<|lp (fun M A J=> ∃ (i:Nat),(i≤ps.length)∧(Wk V J)∧(((ps.take i).flatMap fun t=>kv<|eI t).length≤i*300)∧(A 3=str ((ps.take i).flatMap fun t=>kv<|eI t))∧(A 11= .slice a ps.length c)∧(A 12=aj (ps.length))∧(A 13=aj i)∧(ps.length - i=M)) _ ⟨0,ab,(Md.refl _ _),(by simp),(by first | rfl | (rw [ky ps i [] ab,nC,oo]; rfl)),aa,aa,aa,aa⟩ ?_
 rintro M A J ⟨i,hi,q,hlen,aJ,aF,aG,aH,rfl⟩
 refine fx 3 aJ<|fx 11 aF<|fx 12 aG<|fx 13 aH<|ak fun ai=>p (lt aa aa)<|nl<|ai<|az fun am=>cd aa (fun aD=> ?_) fun aD=> ?_
 refine aO<|am<|az fun G=>aB<|ak fun Z=>p (a6 BP aa aa ab<|aE.ok (U.wk<|Md.trans C.md q)<|Bg ab)<|p (cz ji aa (aa) (show ∀ j,j < 4→Hb.aI J.heap (bk a) (fo a+i*4 +j)=(dA<|eI<|ps.getD i [])[j]? from Bf (U.wk<|Md.trans C.md q) ab))<|e<|al o5 fun aM aU aP ax an=>e<|ca nb aa (vs:=dA<|eI<|ps.getD i []) aa aa aa an aw fun aK av ap=> ?_
 have ar:Wk V aK:=Md.trans' (Md.trans q ax.md) av fun k hk h=>by have :=q.size; omega
 refine nl<|Z<|rg aa<|au (str<|(ps.take i).flatMap fun t=>kv<|eI t)<|p (cz ji aa (aa) fun j aQ=>by rw [fF]; exact (ap).aI j)<|e<|cl IB (Qy (eI<|ps.getD i []) _) aa fun aS aT aC=> ?_
 obtain ⟨rfl,aq⟩:=aC
 have aR:=Em<|eI<|ps.getD i []
 exact p (cc aa aa ab)<|p aA<|nl<|bn<|G<|rg aa<|p (ad aa aa<|cg ab)<|p mv<|nl<|tn<|⟨_,ab,i+1,ab,(Md.trans ar aq),(by rw [ky ps i [] ab,nC,oo,bJ]; omega),(by first | rfl | (rw [ky ps i [] ab,nC,oo]; rfl)),aa,aa,aa,aa⟩
 exact ext<|bj<|bj<|be<|ag<|ak fun G=>au (str<|(ps.take i).flatMap fun t=>kv<|eI t)<|p (bZ (str<|(ps.take i).flatMap fun t=>kv<|eI t) aa)<|nl<|G<|rt<|ba aa<|⟨by unfold n2; rw [if_neg (fun h=>by rw [h] at I; exact I aa),show ps.take i=ps from fq ab]; rfl,Md.trans C.md q⟩
end Go.Hb
end
section
namespace Go.Hb.fL
open Go.Hb.ov
theorem Ce {kind:Nat} {al:List (List Nat)} {s:Tx} (h:al= []):fy kind al s=jZ kind s:=if_pos h
theorem Mo {kind:Nat} {al:List (List Nat)} {s:Tx} {e:Nat} (h:al≠[]) (h1:dZ s al.length= .error e):fy kind al s= .error 13:=by unfold fy; rw [if_neg h,h1]
theorem Mr {kind:Nat} {al:List (List Nat)} {s:Tx} (h:al≠[]) (h1:dZ s al.length= .ok 0):fy kind al s= .error 13:=by unfold fy; rw [if_neg h,h1]; rfl
theorem Mp {kind n:Nat} {al:List (List Nat)} {s:Tx} (h:al≠[]) (h1:dZ s al.length= .ok n) (a:n≠0):fy kind al s= .ok (al.getD (n - 1) []):=by unfold fy; rw [if_neg h,h1]; exact if_neg a
theorem Cy {kind:Nat} {s:Tx} (h:(ez kind s).2=0):jZ kind s= .ok (ez kind s).1:=if_neg fun h2=>h2 h
theorem Cv {kind:Nat} {s:Tx} (h:(ez kind s).2≠0):jZ kind s= .error (ez kind s).2:=if_pos h
theorem Ee {kind ln:Nat} {al:List (List Nat)} {c:dz} {r:List Tx} (h:r.length≠4) (h1:r.length≠5):iz kind al c ln r= .error 111:=by unfold iz; rw [if_pos ⟨h,h1⟩]
theorem n0 {kind ln:Nat} {al:List (List Nat)} {c:dz} {r:List Tx} (h:r.length=4∨r.length=5):iz kind al c ln r=(match fk true (r.getD 2 []) with
 | .error e=> .error e
 | .ok st=>match kg (bA<|r.getD 3 []) with
   | .error e=> .error e
   | .ok ad=>match lY kind al c.kind (bA<|r.getD 3 []) with
     | .error e=> .error e
     | .ok nx=>match lh r with
       | .error e=> .error e
       | .ok cd=> .ok ⟨c.kind,c.flag,c.fI,st,ad,cd,nx,ln⟩):=by unfold iz; rw [if_neg ab]; rfl
theorem G0 {r:kF} (h:r.2.2.2≠0):kg r= .error r.2.2.2:=if_pos h
theorem G4 {r:kF} (h:r.2.2.2=0) (h1:r.1= [48]):kg r= .ok []:=by unfold kg; rw [if_neg (fun h2=>h2 h),if_pos h1]
theorem G1 {r:kF} (h:r.2.2.2=0) (h1:r.1≠[48]) (h2:gl r.1≠0):kg r= .error (gl r.1):=by unfold kg; rw [if_neg (fun h2=>h2 h),if_neg h1,if_pos h2]
theorem G2 {r:kF} (h:r.2.2.2=0) (h1:r.1≠[48]) (h2:gl r.1=0):kg r= .ok r.1:=by unfold kg; rw [if_neg (fun h2=>h2 h),if_neg h1,if_neg (fun h3=>h3 h2)]
theorem OT {kind a:Nat} {al:List (List Nat)} {r:kF} (h:r.2.2.1=false):lY kind al a r= .ok []:=by unfold lY; rw [if_neg (by rw [h]; exact c7)]
theorem OS {kind a:Nat} {al:List (List Nat)} {r:kF} (h:r.2.2.1=true) (h1:a=1):lY kind al a r= .error 118:=by unfold lY; rw [if_pos h,if_pos h1]
theorem DA {kind a:Nat} {al:List (List Nat)} {r:kF} (h:r.2.2.1=true) (h1:a≠1):lY kind al a r=fy kind al r.2.1:=by unfold lY; rw [if_pos h,if_neg h1]
theorem Kh {r:List Tx} (h:r.length≠5):lh r= .ok [46]:=if_neg h
theorem Kd {r:List Tx} (h:r.length=5) (h1:gk (r.getD 4 [])=false):lh r= .error 21:=by unfold lh; rw [if_pos h,if_pos h1]
theorem Ke {r:List Tx} (h:r.length=5) (h1:gk (r.getD 4 [])=true) (h2:(dH<|r.getD 4 []).2≠0):lh r= .error (dH<|r.getD 4 []).2:=by unfold lh; rw [if_pos h,if_neg (by rw [h1]; exact c7),if_pos h2]
theorem Kf {r:List Tx} (h:r.length=5) (h1:gk (r.getD 4 [])=true) (h2:(dH<|r.getD 4 []).2=0):lh r= .ok (n2 (dH<|r.getD 4 []).1):=by unfold lh; rw [if_pos h,if_neg (by rw [h1]; exact c7),if_neg (fun h3=>h3 h2)]
theorem Ko (s:Tx):(dH s).1.length≤16:=by
 unfold dH
 split
 · simp
 · split
   · simp
   · split
     · simp
     · split
       · simp
       · rename_i h; exact Nat.le_of_not_lt h
theorem BX (B fb mc:Nat) (F:aG) (V:dQ) (s:Tx) (w:World) (A:cK w B fb mc F V) (hk:F.kind=1∨F.kind=2∨F.kind=3) (aC:∀ l∈F.aliases,l.length≤64∧l.Pairwise (· < ·)) (aL:F.aliases.length≤70000) (hs:s.length≤1048576):
 bd ao 141 (a7 [aW fb,str s]) w (fun v w'=>((∃ a l,v= .tuple #[a,.int .i64 0]∧fy F.kind F.aliases s= .ok l∧bp w' w.heap.size 51 1 a l.length (l.map aR))∨(∃ a e,v= .tuple #[a,aj e]∧e≠0∧fy F.kind F.aliases s= .error e))∧Wk w w'):=by
 obtain ⟨ap,aq,ad⟩:=cU A.fZ
 have M:=A.fZ
 rw [ad] at M
 have I:Hb.aI w.heap fb 10=some (.slice ap F.aliases.length aq):=by rw [← ad]; exact (aY A.cells).trans rfl
 refine enter func141 aa ntmps141 aa<|ak fun ae=>p aA<|ay<|ae<|az fun ag=>az fun ah=>rg aa<|au (aW fb)<|p (lU sw aa aa)<|nl<|ah<|cf (aa)<|aO<|ag<|az fun ai=>ak fun am=>au (aW fb)<|p (nc aa)<|p (fa fj aa)<|p (fa ng aa)<|p (ld oA aa<|I)<|p (bO uQ aa aa)<|p (bR aa aa)<|nl<|am<|cd aa (fun J=> ?_) fun J=> ?_
 have i:F.aliases= []:=gr ab
 refine ak fun E=>au (aW fb)<|p (nc aa)<|p (fa fj aa)<|p (fa p5 aa)<|p (ld bK aa<|(aY A.cells).trans aa)<|au (str s)<|e<|cl AL (CA F.kind s _ hk hs) aa fun aN aS av=> ?_
 obtain ⟨⟨Y,rfl,aJ⟩,hE23⟩:=av
 refine p (xt aa aa)<|p (xt aa aa)<|p aA<|ay<|E<|rt<|tr<|f2 aa aa aa ?_
 refine ⟨?_,hE23⟩
 by_cases h:(ez F.kind s).2=0
 exact .inl ⟨Y,_,by rw [h]; rfl,by rw [Ce i]; exact Cy h,aJ⟩
 exact .inr ⟨Y,_,aa,h,by rw [Ce i]; exact Cv h⟩
 have i:F.aliases≠[]:=fun h=>by rw [h] at J; exact J rfl
 refine aO<|ai<|ak fun E=>au (str s)<|au (aW fb)<|p (nc aa)<|p (fa fj aa)<|p (fa ng aa)<|p (ld oA aa<|I)<|p (bO uQ aa aa)<|e<|cl tz (uk s (F.aliases.length:Nat) _ hs ab) aa fun aP aT ax=> ?_
 obtain ⟨rfl,c⟩:=ax
 refine p mv<|p (xt aa aa)<|p (xt aa aa)<|p aA<|ay<|E<|az fun an=>ak fun U=>p mv<|p (fR aa aa)<|p mv<|gs (t:=39) aa (fun aH=> ?_) fun aH=> ?_
 exact aK aa<|aK aa<|p (bL aa)<|nl<|U<|ct aa<|ak fun q=>p aA<|ay<|q<|rt<|tr<|f2 aa aa aa<|⟨.inr ⟨.slice none 0 0,13,aa,aw,Mo i (ui ab).1⟩,c⟩
 refine aU aa mv<|aU aa (bR aa aa)<|p (bC aa)<|nl<|U<|cd aa (fun aF=> ?_) fun aF=> ?_
 refine ak fun q=>p aA<|ay<|q<|rt<|tr<|f2 aa aa aa ?_
 have C:=uj (by omega :(eR s (F.aliases.length:Nat)).2=0)
 rw [show (eR s (F.aliases.length:Nat)).1=0 from by omega] at C
 exact ⟨.inr ⟨.slice none 0 0,13,aa,aw,Mr i C⟩,c⟩
 refine aO<|an<|az fun q=> ?_
 have C:=uj (by omega :(eR s (F.aliases.length:Nat)).2=0)
 have aM:=uh s (F.aliases.length:Nat) ab
 have Z:(eR s (F.aliases.length:Nat)).1 - 1 < F.aliases.length:=ab
 obtain ⟨v51,O,G⟩:=dm.get (A.al.wk c) Z
 obtain ⟨a51,oF,rfl⟩:=G.slice
 have aD:=aC _<|e6 (d:= []) Z
 refine rg aa<|au (aW fb)<|p (nc aa)<|p (fa fj aa)<|p (fa ng aa)<|p (ld oA aa<|Wk.aI c I)<|p mv<|p (c4 (((eR s (F.aliases.length:Nat)).1 - 1:Nat):Int) aa aa<|bf ab ab)<|p (a6 xm aa aa ab<|aE.ok ((aV<|aX M c).2) fun h=>by rw [h] at O; cases O)<|p (ld k8 aa<|aE.jj (aV<|aX M c).2 O)<|e<|cl AO (um (F.aliases.getD ((eR s (F.aliases.length:Nat)).1 - 1) []) _ _ _ G.dq.2 (fun h=>Tg.qe G (by simp) h) ab) aa fun aQ aZ aB=> ?_
 obtain ⟨ac,ar⟩:=aB
 rw [O6 aD.2] at ac
 exact p aA<|ay<|q<|rt<|f2 aa aa aa<|⟨.inl ⟨_,_,aa,Mp i C ab,eS ac c.size⟩,c.trans ar⟩
theorem se (B:Nat) (H:bT) (F:aG) (V:dQ) (R:fG) (rows:List Rw) (ln:Nat) (seen:List Tx) (c:dz) (r:List Tx) (b3:Nat) (ar:Option Addr) (cr:Nat) (w:World) (E:cK w B H.fb H.mc F V) (C:bW w B H F R rows ln seen) (aZ:jg F rows seen) (d3:c.kind=1∨c.kind=2) (aq:Tg w b3 9 r.length (.slice ar r.length cr) (r.map str)) (bh:r.length≤70000∧∀ x∈r,x.length≤70000):
 ee ao 201 (a7 [.pointer (some ⟨H.rb,0,none⟩),.agg (lR c).toArray,.slice ar r.length cr]) w (fun v w'=> ∃ q,iz F.kind F.aliases c ln r= .ok q∧q.line=ln∧(∃ vn,v= .agg (dC (q,vn)).toArray∧Tg w' B 51 q.next.length vn (q.next.map aR))∧Wk w w') (fun ai w'=> ∃ e,iz F.kind F.aliases c ln r= .error e∧ai=gB 47 ln (e:Nat)∧Wk w w'):=by
 have dY:=aq.dq
 have d8:=(cy.1 C.cells).1
 have d4:=C.lo.1
 refine iL func201 aa ntmps201 aa<|sq fun dM cC=>rg aa<|e<|iV aa fun aX eB d0 bu cj=>e<|al nv fun Z aU d1 aM ck=> ?_
 have aD:Wk w aU:=bu.md.trans aM.md
 have bQ:=Wk.aI aD C.dR
 have ef:=bu.size
 have eh:=aM.size
 refine nl<|tn<|cC _ _ ?_
 refine eD (fun az b0=>(r.length=4∨r.length=5)∧(b0=aU)∧(az 0= .pointer (some ⟨H.rb,0,none⟩))∧(az 2= .slice ar r.length cr)∧(az 4= .pointer (some ⟨aX,0,none⟩))∧(az 6= .pointer (some ⟨Z,0,none⟩))) ?_ ?_
 refine rg aa<|p (aH (.pointer<|some ⟨H.rb,0,none⟩) aa)<|p (aH (.slice ar r.length cr) aa)<|p (bO gU aa aa)<|p (bR aa aa)<|p mv<|gs (t:=20) aa (fun c7=> ?_) fun c7=> ?_
 refine sk aa aa aa aa<|sk aa aa aa aa<|sk aa aa aa aa<|p (bL aa)<|eP aa (cI fM (fQ H.rb ln _ 111 aU bQ aw) aa fun dy dE bc=> ?_) fun c w' A O E=>by first | exact absurd A.2.1 aw | exact ⟨111,Ee ab (by have :=of_decide_eq_false A.2.1; omega),A.1,by rw [A.2.2]; exact aD⟩
 obtain ⟨rfl,bS,rfl⟩:=bc
 exact nl<|tn<|⟨(.inl ab),aa,aa,aa,aa,aa⟩
 refine pg aa aa aa (aH (.slice ar r.length cr) aa)<|pg aa aa aa (bO gU aa aa)<|pg aa aa aa (bR aa aa)<|p (bC aa)<|eP aa (cI fM (fQ H.rb ln _ 111 aU bQ aw) aa fun dy dE bc=> ?_) fun c w' A O E=>by first | exact absurd A.2.1 aw | exact ⟨111,Ee ab (by have :=of_decide_eq_false A.2.1; omega),A.1,by rw [A.2.2]; exact aD⟩
 obtain ⟨rfl,bS,rfl⟩:=bc
 exact nl<|tn<|⟨(.inr<|by have :=of_decide_eq_true bS; omega),aa,aa,aa,aa,aa⟩
 rintro az b0 ⟨hlen,cu,c9,db,dc,de⟩
 refine fx 0 c9<|fx 2 db<|fx 4 dc<|fx 6 de ?_
 subst cu
 have aS:=aM.md.B cj
 refine sq fun dO cD=>rg aa<|p (fa rI aa)<|p (ld bK aa<|(aS.aI 1).trans aa)<|p (fa xE aa)<|p (ld bP aa<|(aS.aI 0).trans aa)<|p (fa Cm aa)<|p (ld oz aa<|(aS.aI 2).trans aa)<|p (cT (ps:= [(0,.int .i64 (c.kind:Nat)),(1,aR c.flag),(2,.bool c.fI),(5,str [46])]) (L:= [.int .i64 (c.kind:Nat),aR c.flag,.bool c.fI,.string ⟨⟨[]⟩⟩,.string ⟨⟨[]⟩⟩,str [46],.slice none 0 0]) yT aa<|aa)<|e<|al nv fun G eE d2 aN cm=> ?_
 have ek:=aN.size
 refine e<|ca lT aa aa aa aa (cm) (by simp) fun b1 aJ ch=> ?_
 have aF:Wk w b1:=(aD.trans aN.md).trans' aJ fun k hk h=>by omega
 have cZ:=aJ.B (aN.md.B aS) fun h=>by omega
 have c1:=aJ.B (aN.md.B ck) fun h=>by omega
 have el:=aJ.size
 have bx:=(aq.wk aF).dq
 have d5:(r.getD 2 []).length≤70000:=bh.2 _<|e6 ab
 have d6:(r.getD 3 []).length≤70000:=bh.2 _<|e6 ab
 refine nl<|tn<|cD _ _<|sq fun dP cE=>rg aa<|p (aH (.pointer<|some ⟨H.rb,0,none⟩) aa)<|p (aH (.slice ar r.length cr) aa)<|p (a6 dN aa aa ab<|aE.ok (bx.2)<|cY ab)<|p (ld cO aa<|da.get (i:=2) bx.2 ab)<|eP aa (cI AK (DS H.rb ln (r.getD 2 []) b1 (Wk.aI aF C.dR) ab) aa fun v37 eA cJ=> ?_) fun c w' A O E=>by obtain ⟨e,he,h,h2⟩:=A; exact ⟨e,by rw [n0 hlen,he],h,aF.trans h2⟩
 obtain ⟨stx,bM,rfl,ak⟩:=cJ
 refine p (fa p7 aa)<|e<|st nd aa aa (aa) (ak.B ch) (by simp) fun b2 aK ci=> ?_
 have bo:bw b2.heap G [.int .i64 (c.kind:Nat),aR c.flag,.bool c.fI,str stx,str [],str [46],.slice none 0 0]:=ci
 have bq:Wk w b2:=(aF.trans ak).trans' aK fun k hk h=>by omega
 have ed:=ak.size
 have bF:=aK.B (ak.B cZ) fun h=>by omega
 have bG:=aK.B (ak.B c1) fun h=>by omega
 have bv:=(aq.wk bq).dq
 have ec:=aK.size
 refine nl<|tn<|cE _ _<|sq fun dS cF=>rg aa<|p (aH (.slice ar r.length cr) aa)<|p (a6 dN aa aa ab<|aE.ok (bv.2)<|cY ab)<|p (ld cO aa<|da.get (i:=3) bv.2 ab)<|e<|cl vY (y7 (r.getD 3 []) _ ab) aa fun er dF cL=> ?_
 obtain ⟨rfl,I⟩:=cL
 have ad:=bq.trans I
 have d9:=uW<|r.getD 3 []
 refine p mv<|p (xt aa aa)<|p (xt aa aa)<|p (xt aa aa)<|p (xt aa aa)<|p aA<|p aA<|p aA<|p aA<|nl<|tn<|cF _ _<|sq fun dT cG=>rg aa<|p (aH (.pointer<|some ⟨H.rb,0,none⟩) aa)<|p mv<|eP aa (cI mx (mG H.rb ln ((bA<|r.getD 3 []).2.2.2:Nat) dF<|Wk.aI ad C.dR) aa fun es dG cM=> ?_) fun c w' A O E=>⟨_,by rw [n0 hlen,bM,G0 (show (bA<|r.getD 3 []).2.2.2≠0 by have :=A.2.1; omega)],A.1,by rw [A.2.2]; exact ad⟩
 obtain ⟨rfl,aT,rfl⟩:=cM
 have aT:(bA<|r.getD 3 []).2.2.2=0:=ab
 refine nl<|tn<|cG _ _ ?_
 refine eD (fun U ah=> ∃ (Y:Tx),(kg (bA<|r.getD 3 [])= .ok Y)∧(bw ah.heap G [.int .i64 (c.kind:Nat),aR c.flag,.bool c.fI,str stx,str Y,str [46],.slice none 0 0])∧(bw ah.heap aX<|lR c)∧(∃ L,L.length=7∧bw ah.heap Z L)∧(Wk w ah)∧(U 0= .pointer (some ⟨H.rb,0,none⟩))∧(U 2= .slice ar r.length cr)∧(U 4= .pointer (some ⟨aX,0,none⟩))∧(U 6= .pointer (some ⟨Z,0,none⟩))∧(U 7= .pointer (some ⟨G,0,none⟩))∧(U 9=str (bA<|r.getD 3 []).2.1)∧(U 10= .bool (bA<|r.getD 3 []).2.2.1)) ?_ ?_
 refine sq fun aW ac=>rg aa<|p mv<|p (oV aa aa)<|nl<|tn<|ac _ _<|cd aa (fun aQ=> ?_) fun aQ=> ?_
 refine rg aa<|p (aH (.pointer<|some ⟨H.rb,0,none⟩) aa)<|p mv<|eP aa (cI AQ (D3 H.rb ln (bA<|r.getD 3 []).1 dG (Wk.aI ad C.dR) ab) aa fun et eC cN=> ?_) fun c w' A O E=>⟨_,by rw [n0 hlen,bM,G1 aT aQ A.2.1],A.1,ad.trans A.2.2⟩
 obtain ⟨rfl,dv,am⟩:=cN
 refine p (fa xN aa)<|e<|st nd aa aa (aa) (Wk.B (I.trans am) bo) (by simp) fun dL bb cn=> ?_
 have cv:Wk w dL:=(ad.trans am).trans' bb fun k hk h=>by omega
 have eg:=(I.trans am).size
 exact nl<|tn<|⟨(bA<|r.getD 3 []).1,(G2 aT aQ dv),cn,(bb.B (Wk.B (I.trans am) bF) fun h=>by omega),(⟨_,aa,bb.B (Wk.B (I.trans am) bG) fun h=>by omega⟩),cv,aa,aa,aa,aa,aa,aa,aa⟩
 exact aO<|tn<|⟨[],(G4 aT<|lE.1 aQ),(I.B bo),(I.B bF),(⟨_,aa,I.B bG⟩),ad,aa,aa,aa,aa,aa,aa,aa⟩
 rintro U ah ⟨Y,au,aC,c0,bH,J,df,dh,di,dj,dk,dl,dg⟩
 refine fx 0 df<|fx 2 dh<|fx 4 di<|fx 6 dj<|fx 7 dk<|fx 9 dl<|fx 10 dg ?_
 skip
 refine eD (fun aB M=> ∃ (nx:List Nat) (vn:Value),(lY F.kind F.aliases c.kind (bA<|r.getD 3 [])= .ok nx)∧(bw M.heap G [.int .i64 (c.kind:Nat),aR c.flag,.bool c.fI,str stx,str Y,str [46],vn])∧(Tg M (G+1) 51 nx.length vn<|nx.map aR)∧(∃ L,L.length=7∧bw M.heap Z L)∧(Wk w M)∧(aB 0= .pointer (some ⟨H.rb,0,none⟩))∧(aB 2= .slice ar r.length cr)∧(aB 6= .pointer (some ⟨Z,0,none⟩))∧(aB 7= .pointer (some ⟨G,0,none⟩))) ?_ ?_
 refine sq fun aW ac=>rg aa<|p (aH (.bool (bA<|r.getD 3 []).2.2.1) aa)<|nl<|tn<|ac _ _<|cb aa (fun av=> ?_) fun av=> ?_
 skip
 refine sq fun b4 a3=>rg aa<|p (aH (.pointer<|some ⟨H.rb,0,none⟩) aa)<|p (fa rI aa)<|p (ld bK aa<|(c0.aI 1).trans aa)<|p (bR aa aa)<|eP aa (cI fM (fQ H.rb ln _ 118 ah (Wk.aI J C.dR) aw) aa fun eu bY cP=> ?_) fun ai w' A O E=>by have dX:=of_decide_eq_false A.2.1; exact ⟨118,by rw [n0 hlen,bM]; simp only; rw [au]; simp only; rw [OS av ab],A.1,by rw [A.2.2]; exact J⟩
 obtain ⟨rfl,bU,rfl⟩:=cP
 have bU:=of_decide_eq_true bU
 refine nl<|tn<|a3 _ _<|sq fun b5 a4=>rg aa<|p (aH (.pointer<|some ⟨H.rb,0,none⟩) aa)<|p (nc aa)<|p (fa fJ aa)<|p (ld eF aa<|Wk.aI J<|(aY C.cells).trans aa)<|p (aH (str (bA<|r.getD 3 []).2.1) aa)<|e<|cl AB (BX B H.fb H.mc F V (bA<|r.getD 3 []).2.1 _ (E.wk J) aZ.kd aZ.al (by have :=aZ.len; omega)<|by have :=uW (r.getD 3 []); omega) aa fun dA bZ cQ=> ?_
 obtain ⟨c5,ae⟩:=cQ
 obtain ⟨bl,bn,rfl,bJ⟩:∃ a,∃ e:Nat,dA= .tuple #[a,.int .i64 (e:Nat)]∧((e=0∧∃ l,fy F.kind F.aliases (bA<|r.getD 3 []).2.1= .ok l∧bp bZ bY.heap.size 51 1 a l.length (l.map aR))∨(e≠0∧fy F.kind F.aliases (bA<|r.getD 3 []).2.1= .error e)):=by
  rcases c5 with ⟨a,l,h1,h2,h3⟩ | ⟨a,e,h1,h2,h3⟩
  exact ⟨a,0,h1,.inl ⟨aa,l,h2,h3⟩⟩
  exact ⟨a,e,h1,.inr ⟨h2,h3⟩⟩
 refine p mv<|p (xt aa aa)<|p (xt aa aa)<|p aA<|p aA<|nl<|tn<|a4 _ _<|sq fun b6 a5=>rg aa<|p (aH (.pointer<|some ⟨H.rb,0,none⟩) aa)<|p mv ?_
 refine eP aa (cI mx (mG H.rb ln (bn:Nat) bZ<|Wk.aI (J.trans ae) C.dR) aa fun ev dI cR=> ?_) (fun ai w' A O E=>by
  rcases bJ with ⟨h,_⟩ | ⟨h,h1⟩
  exact absurd ab A.2.1
  exact ⟨bn,by rw [n0 hlen,bM]; simp only; rw [au]; simp only; rw [DA av ab,h1],A.1,by rw [A.2.2]; exact J.trans ae⟩)
 obtain ⟨rfl,ea,rfl⟩:=cR
 obtain ⟨nx,ax,bd⟩:∃ l,fy F.kind F.aliases (bA<|r.getD 3 []).2.1= .ok l∧bp dI bY.heap.size 51 1 bl l.length (l.map aR):=by
  rcases bJ with ⟨_,h⟩ | ⟨h,_⟩
  exact h
  exact absurd ab h
 refine nl<|tn<|a5 _ _<|rg aa<|p mv<|p (fa nS aa)<|e<|st pQ aa aa (ej bd) (ae.B aC) (by simp) fun dJ a9 b9=> ?_
 have cp:Wk w dJ:=(J.trans ae).trans' a9 fun k hk h=>by omega
 have ei:=ae.size
 exact nl<|tn<|⟨nx,bl,(by rw [DA av ab]; exact ax),b9,((Tg.j8<|cx bd a9 fun k hk h=>by have :=dd bd hk; have :=aC.lt; omega).mono aC.lt),(by obtain ⟨L,a8,aP⟩:=bH; exact ⟨L,a8,a9.B (ae.B aP) fun h=>by omega⟩),cp,aa,aa,aa,aa⟩
 exact aO<|tn<|⟨[],.slice none 0 0,(OT<|by simpa using av),aC,(⟨none,0,aa,cw _,.inl aa⟩),bH,J,aa,aa,aa,aa⟩
 rintro aB M ⟨nx,vn,ax,a0,bE,bI,ap,dm,dn,dp,dr⟩
 refine fx 0 dm<|fx 2 dn<|fx 6 dp<|fx 7 dr ?_
 refine eD (fun bk ay=> ∃ (aj:Tx),(lh r= .ok aj)∧(bw ay.heap G [.int .i64 (c.kind:Nat),aR c.flag,.bool c.fI,str stx,str Y,str aj,vn])∧(Tg ay (G+1) 51 nx.length vn<|nx.map aR)∧(∃ L,L.length=7∧bw ay.heap Z L)∧(Wk w ay)∧(bk 6= .pointer (some ⟨Z,0,none⟩))∧(bk 7= .pointer (some ⟨G,0,none⟩))) ?_ ?_
 refine sq fun aW ac=>rg aa<|p (aH (.slice ar r.length cr) aa)<|p (bO gU aa aa)<|p (bR aa aa)<|nl<|tn<|ac _ _<|cd aa (fun c4=> ?_) fun c4=> ?_
 have bg:r.length=5:=ab
 have d7:(r.getD 4 []).length≤70000:=bh.2 _<|e6 ab
 have bz:=(aq.wk ap).dq
 refine sq fun b4 a3=>rg aa<|p (aH (.pointer<|some ⟨H.rb,0,none⟩) aa)<|p (aH (.slice ar r.length cr) aa)<|p (a6 dN aa aa ab<|aE.ok (bz.2)<|cY ab)<|p (ld cO aa<|da.get (i:=4) bz.2 ab)<|eP aa (cI wc (yD H.rb ln (r.getD 4 []) M (Wk.aI ap C.dR) ab) aa fun ew eG cS=> ?_) fun ai w' A O E=>⟨21,by rw [n0 hlen,bM]; simp only; rw [au]; simp only; rw [ax]; simp only; rw [Kd bg A.2.1],A.1,ap.trans A.2.2⟩
 obtain ⟨rfl,bV,a2⟩:=cS
 have br:=ap.trans a2
 have bB:=(aq.wk br).dq
 refine nl<|tn<|a3 _ _<|sq fun b5 a4=>rg aa<|p (aH (.slice ar r.length cr) aa)<|p (a6 dN aa aa ab<|aE.ok (bB.2)<|cY ab)<|p (ld cO aa<|da.get (i:=4) bB.2 ab)<|e<|cl AD (Bn (r.getD 4 []) _ ab) aa fun ex eH cV=> ?_
 obtain ⟨⟨dV,rfl,bf⟩,hE89⟩:=cV
 obtain ⟨dw,dx,rfl⟩:=cU bf
 have bs:=br.trans hE89
 refine p mv<|p (xt aa aa)<|p (xt aa aa)<|e<|al uY fun dW dD dZ aL cc=> ?_
 have cq:=bs.trans aL.md
 refine e<|ca nP aa aa aa aa (cc) (by simp) fun bj ag ce=> ?_
 have a1:Wk w bj:=cq.trans' ag fun k hk h=>by have :=bs.size; omega
 have bi:Wk M dD:=(a2.trans hE89).trans aL.md
 have en:=a2.size
 have eo:=hE89.size
 have ep:=aL.size
 have eq:=ag.size
 have du:Wk M bj:=bi.trans' ag fun k hk h=>by omega
 refine p aA<|nl<|tn<|a4 _ _<|sq fun b6 a5=>rg aa<|p (aH (.pointer<|some ⟨H.rb,0,none⟩) aa)<|p mv<|eP aa (cI mx (mG H.rb ln ((dH<|r.getD 4 []).2:Nat) bj<|Wk.aI a1 C.dR) aa fun ey eI cW=> ?_) fun ai w' A O E=>⟨_,by rw [n0 hlen,bM]; simp only; rw [au]; simp only; rw [ax]; simp only; rw [Ke bg bV (by have :=A.2.1; omega)],A.1,by rw [A.2.2]; exact a1⟩
 obtain ⟨rfl,bX,rfl⟩:=cW
 have bX:(dH<|r.getD 4 []).2=0:=ab
 refine nl<|tn<|a5 _ _<|rg aa<|p (cz k5 aa (aa) fun j bN=>ce.bm j)<|e<|cl It (PH (dH<|r.getD 4 []).1 dw dx _ (aE.md (aE.wk (aV bf).2 aL.md) ag fun c8 h=>by have :=Pf bf c8; omega)<|by have :=Ko (r.getD 4 []); omega) aa fun ez eJ cX=> ?_
 obtain ⟨rfl,an⟩:=cX
 have cA:=a1.trans an
 have em:=an.size
 refine p (fa Ct aa)<|e<|st nd aa aa (aa) (an.B<|ag.B (bi.B a0) fun h=>by have :=a0.lt; omega) (by simp) fun dK ba cf=> ?_
 have ct:Wk w dK:=cA.trans' ba fun k hk h=>by omega
 exact nl<|tn<|⟨n2 (dH<|r.getD 4 []).1,(Kf bg bV bX),cf,(Tg.Dq (Tg.wk bE<|du.trans an) ba fun k hk=>by omega),(by obtain ⟨L,a8,aP⟩:=bI; exact ⟨L,a8,ba.B (an.B<|ag.B (bi.B aP) fun h=>by have :=aP.lt; omega) fun h=>by omega⟩),ct,aa,aa⟩
 exact aO<|tn<|⟨[46],(Kh ab),a0,bE,bI,ap,aa,aa⟩
 rintro bk ay ⟨aj,c6,co,bD,c2,cB,ds,dt⟩
 refine fx 6 ds<|fx 7 dt ?_
 obtain ⟨dU,cH,c3⟩:=c2
 obtain ⟨b7,b8,rfl⟩:=bD.slice
 exact sq fun aW ac=>rg aa<|p (cz jF aa (aa) fun j bN=>co.bm j)<|e<|ca lT aa aa aa aa (c3) (by rw [cH]; decide) fun eK bt cg=>nl<|tn<|ac _ _<|rt<|hU<|rG aa (dB (cs:=dC (⟨c.kind,c.flag,c.fI,stx,Y,aj,nx,ln⟩,.slice b7 nx.length b8)) aa jF aa fun j bN=>by rw [cg.bm j,List.drop_eq_nil_of_le ab,eb]; rfl)<|⟨⟨c.kind,c.flag,c.fI,stx,Y,aj,nx,ln⟩,by rw [n0 hlen,bM]; simp only; rw [au]; simp only; rw [ax]; simp only; rw [c6],aa,⟨_,aa,(Tg.Dq bD bt fun k hk=>by have :=aM.size; omega).mono ab⟩,cB.trans' bt fun k hk h=>by omega⟩
end Go.Hb.fL
end
section
namespace Go.Hb.ml
open Go.Hb.fL Go.Hb.ov
theorem cK.Ht {w q E:World} {B fb mc:Nat} {F:aG} {V:dQ} {v:Value} {x:Tx×Tx} (h:cK w B fb mc F V) (hm:Md (fun k=>V.v9.ownBlock=some k) w q) (J:bp q B 128 2 v (F.c6++ [x]).length (lZ<|F.c6++ [x])) (a:Md (fun k=>k=fb) q E) (M:E.heap[fb]? =some (.cells (mB {F with c6:=F.c6++ [x]} {V with v9:=v} mc).toArray 125 (0,0))):cK E B fb mc {F with c6:=F.c6++ [x]} {V with v9:=v} :=by
 have c:TF w [130] (fun k=>V.v9.ownBlock=some k):=TF.own h.o9 aw
 have C:=hm.im c h.cells aw
 have A:TF q [127] (fun k=>k=fb):=TF.eq (dt C) aw
 have G:∀ k,V.v9.ownBlock=some k→∀ cur z,w.heap[k]?≠some (.cells cur 51 z):=iQ h.o9 aw
 have I:∀ k,k=fb→∀ cur z,q.heap[k]?≠some (.cells cur 51 z):=gz C aw
 obtain ⟨f,i,O⟩:=h.cm
 have U:=dw<|i.md hm<|c.no (dw i) aw
 exact ⟨M,cx J a (fun k hk i=>c8 J C aw<|i ▸ hk),cW (cW h.fZ hm c aw) a A aw,(h.al.md hm G).md a I,cW (cW h.fz hm c aw) a A aw,cW (cW h.ea hm c aw) a A aw,(h.nx.md hm G).md a I,⟨f,(i.md hm<|c.no (dw i) aw).md a (A.no U aw),O⟩,h.lo,h.jb⟩
theorem cK.Hq {w q I:World} {B fb mc:Nat} {F:aG} {V:dQ} {v:Value} {x:List Nat} {vx:Value} (h:cK w B fb mc F V) (Y:Tg w B 51 x.length vx (x.map aR)) (hm:Md (fun k=>V.v10.ownBlock=some k) w q) (J:bp q B 70 1 v (F.aliases++ [x]).length (V.sa++ [vx])) (a:Md (fun k=>k=fb) q I) (M:I.heap[fb]? =some (.cells (mB {F with aliases:=F.aliases++ [x]} {V with v10:=v,sa:=V.sa++ [vx]} mc).toArray 125 (0,0))):cK I B fb mc {F with aliases:=F.aliases++ [x]} {V with v10:=v,sa:=V.sa++ [vx]} :=by
 have c:TF w [72] (fun k=>V.v10.ownBlock=some k):=TF.own h.fZ aw
 have C:=hm.im c h.cells aw
 have A:TF q [127] (fun k=>k=fb):=TF.eq (dt C) aw
 have E:∀ k,V.v10.ownBlock=some k→∀ cur z,w.heap[k]?≠some (.cells cur 51 z):=iQ h.fZ aw
 have G:∀ k,k=fb→∀ cur z,q.heap[k]?≠some (.cells cur 51 z):=gz C aw
 obtain ⟨f,i,O⟩:=h.cm
 have U:=dw<|i.md hm<|c.no (dw i) aw
 exact ⟨M,cW (cW h.o9 hm c aw) a A aw,cx J a (fun k hk i=>c8 J C aw<|i ▸ hk),((h.al.md hm E).md a G).snoc ((Y.md hm E).md a G),cW (cW h.fz hm c aw) a A aw,cW (cW h.ea hm c aw) a A aw,(h.nx.md hm E).md a G,⟨f,(i.md hm<|c.no (dw i) aw).md a (A.no U aw),O⟩,h.lo,h.jb⟩
theorem cK.Hs {w q I:World} {B fb mc:Nat} {F:aG} {V:dQ} {v:Value} {x:cG} {vx:Value} (h:cK w B fb mc F V) (Y:Tg w B 51 x.next.length vx (x.next.map aR)) (hm:Md (fun k=>V.v12.ownBlock=some k) w q) (J:bp q B 77 7 v (F.rules++ [x]).length (eC<|(F.rules++ [x]).zip<|V.rn++ [vx])) (a:Md (fun k=>k=fb) q I) (M:I.heap[fb]? =some (.cells (mB {F with rules:=F.rules++ [x]} {V with v12:=v,rn:=V.rn++ [vx]} mc).toArray 125 (0,0))):cK I B fb mc {F with rules:=F.rules++ [x]} {V with v12:=v,rn:=V.rn++ [vx]} :=by
 have c:TF w [79] (fun k=>V.v12.ownBlock=some k):=TF.own h.ea aw
 have C:=hm.im c h.cells aw
 have A:TF q [127] (fun k=>k=fb):=TF.eq (dt C) aw
 have E:∀ k,V.v12.ownBlock=some k→∀ cur z,w.heap[k]?≠some (.cells cur 51 z):=iQ h.ea aw
 have G:∀ k,k=fb→∀ cur z,q.heap[k]?≠some (.cells cur 51 z):=gz C aw
 obtain ⟨f,i,O⟩:=h.cm
 have U:=dw<|i.md hm<|c.no (dw i) aw
 exact ⟨M,cW (cW h.o9 hm c aw) a A aw,cW (cW h.fZ hm c aw) a A aw,(h.al.md hm E).md a G,cW (cW h.fz hm c aw) a A aw,cx J a (fun k hk i=>c8 J C aw<|i ▸ hk),(by rw [iJ]; exact ((h.nx.md hm E).md a G).snoc<|(Y.md hm E).md a G),⟨f,(i.md hm<|c.no (dw i) aw).md a (A.no U aw),O⟩,h.lo,h.jb⟩
theorem bW.own {w w':World} {B:Nat} {H:bT} {F:aG} {R:fG} {rows:List Rw} {ln:Nat} {seen:List Tx} {B' e s n:Nat} {v:Value} {xs:List Value} (h:bW w B H F R rows ln seen) (A:bp w B' e s v n xs) (hm:Md (fun k=>v.ownBlock=some k) w w') (c:([e+2].contains 197 || [e+2].contains 211 || [e+2].contains 11 || [e+2].contains 5)=false):bW w' B H F R rows ln seen:=by
 have a:TF w [e+2] (fun k=>v.ownBlock=some k):=TF.own A<|by simp
 obtain ⟨f,i,_⟩:=h.sm
 obtain ⟨g,q,_⟩:=h.tm
 exact h.md hm a c (a.no (dw i)<|by simp)<|a.no (dw q)<|by simp
theorem bW.tQ {w w':World} {B:Nat} {H:bT} {F:aG} {R:fG} {rows:List Rw} {ln:Nat} {seen:List Tx} {cs:Array Value} {z:Nat×Nat} (h:bW w B H F R rows ln seen) (c:w.heap[H.fb]? =some (.cells cs 125 z)) (hm:Md (fun k=>k=H.fb) w w'):bW w' B H F R rows ln seen:=by
 have a:TF w [127] (fun k=>k=H.fb):=TF.eq (dt c) aw
 obtain ⟨f,i,A⟩:=h.sm
 obtain ⟨g,q,C⟩:=h.tm
 exact h.md hm a aw (a.no (dw i) aw)<|a.no (dw q) aw
theorem Tg.yv {w:World} {b e n:Nat} {L:List Value} {z:Nat×Nat} (h:w.heap[b]? =some (.cells L.toArray e z)) (hn:n=L.length):Tg w b e n (.slice (some ⟨b,0,none⟩) n n) L:=⟨_,_,rfl,cw _,.inr ⟨b,_,_,rfl,cw _,h,fun j u hu=>by simpa using hu⟩⟩
theorem jg.pT {F:aG} {q:Rw} {rest:List Rw} {seen:List Tx} (h:jg F (q::rest) seen):jg F rest seen:=⟨by have :=h.len; simp only [bV] at this; omega,by have :=h.sl; simp only [bV] at this; omega,fun a h2=>h.row a (List.mem_cons_of_mem _ h2),h.kd,h.al⟩
theorem P2 {eof ln e:Nat} {F:aG} {rows:List Rw} {r:List Tx} (h:dZ (r.getD 1 []) 256= .error e):j9 eof F rows ln r= .error (ln,e):=by unfold j9; rw [h]
theorem sd {eof ln n:Nat} {F:aG} {rows:List Rw} {r:List Tx} {e:Nat×Nat} (h:dZ (r.getD 1 []) 256= .ok n) (h1:group [iO] lr eof n rows= .error e):j9 eof F rows ln r= .error e:=by unfold j9; rw [h]; simp only; rw [h1]
theorem P3 {eof ln n:Nat} {F:aG} {rows:List Rw} {r:List Tx} {q:List (Tx×Tx)×List Rw} (h:dZ (r.getD 1 []) 256= .ok n) (h1:group [iO] lr eof n rows= .ok q):j9 eof F rows ln r= .ok ({F with c6:=F.c6++q.1},q.2):=by unfold j9; rw [h]; simp only; rw [h1]
theorem yq {s:Tx} {most:Int} {n:Nat} (h:dZ s most= .ok n):(n:Int)≤most:=by
 unfold dZ at h
 split at h
 · cases h
 · rename_i a; cases h; exact uh s most<|lE.1 a
theorem Hg {eof ln:Nat} {F:aG} {hs:List Tx} {rows:List Rw} {r:List Tx} (h:ic∈hs∨db∈hs):jG eof F hs rows ln r= .error (ln,113):=if_pos h
theorem Hh {eof ln e:Nat} {F:aG} {hs:List Tx} {rows:List Rw} {r:List Tx} (a:¬(ic∈hs∨db∈hs)) (h:dZ (r.getD 1 []) 1024= .error e):jG eof F hs rows ln r= .error (ln,e):=by unfold jG; rw [if_neg a,h]
theorem tp {eof ln n:Nat} {F:aG} {hs:List Tx} {rows:List Rw} {r:List Tx} {e:Nat×Nat} (a:¬(ic∈hs∨db∈hs)) (h:dZ (r.getD 1 []) 1024= .ok n) (h1:group [hZ] (k9 F.kind) eof n rows= .error e):jG eof F hs rows ln r= .error e:=by unfold jG; rw [if_neg a,h]; simp only; rw [h1]
theorem Hi {eof ln n:Nat} {F:aG} {hs:List Tx} {rows:List Rw} {r:List Tx} {q:List (List Nat)×List Rw} (a:¬(ic∈hs∨db∈hs)) (h:dZ (r.getD 1 []) 1024= .ok n) (h1:group [hZ] (k9 F.kind) eof n rows= .ok q):jG eof F hs rows ln r= .ok ({F with aliases:=F.aliases++q.1},q.2):=by unfold jG; rw [if_neg a,h]; simp only; rw [h1]
theorem Hc {kind ln:Nat} {r:List Tx} (h:r.length≠2):k9 kind ln r= .error 111:=if_pos h
theorem Ae {kind ln:Nat} {r:List Tx} (h:r.length=2):k9 kind ln r=jZ kind (r.getD 1 []):=if_neg ab
theorem Cu {kind:Nat} {s:Tx} (h:(ez kind s).2=0):(ez kind s).1.length≤64∧(ez kind s).1.Pairwise (· < ·):=by
 unfold ez at h ⊢
 split
 · simp
 · split
   · simp
   · split
     · simp
     · rename_i h3
       exact ⟨by have :=O5 ((dW kind s).map<|ei kind); rw [eX] at this; exact e9 this ab,yu _⟩
theorem PX {ln:Nat} {r:List Tx} (h:r.length≠3):lr ln r= .error 111:=if_pos h
theorem PY {ln e:Nat} {r:List Tx} (h:r.length=3) (h1:fk false (r.getD 1 [])= .error e):lr ln r= .error e:=by unfold lr; rw [if_neg ab,h1]
theorem PZ {ln e:Nat} {r:List Tx} {a:Tx} (h:r.length=3) (h1:fk false (r.getD 1 [])= .ok a) (h2:fk true (r.getD 2 [])= .error e):lr ln r= .error e:=by unfold lr; rw [if_neg ab,h1]; simp only; rw [h2]
theorem P0 {ln:Nat} {r:List Tx} {a b:Tx} (h:r.length=3) (h1:fk false (r.getD 1 [])= .ok a) (h2:fk true (r.getD 2 [])= .ok b):lr ln r= .ok (a,b):=by unfold lr; rw [if_neg ab,h1]; simp only; rw [h2]
theorem P4 (B:Nat) (H:bT) (F:aG) (rows:List Rw) (ln:Nat) (seen:List Tx) (r:List Tx) (bd:Nat) (ar:Option Addr) (cr:Nat) (w:World) (G:St w B H F rows ln seen) (bD:Tg w bd 9 r.length (.slice ar r.length cr) (r.map str)) (cl:r.length=2) (bL:∀ x∈r,x.length≤70000):
 ee ao 133 (a7 [.pointer (some ⟨H.rb,0,none⟩),.slice ar r.length cr]) w (gM B H seen (j9 H.eof F rows ln r) w) (gL B H (j9 H.eof F rows ln r) w):=by
 obtain ⟨V,R,ac,aM,aU⟩:=G
 have a5:=bD.dq
 have cm:(r.getD 1 []).length≤70000:=bL _<|e6 ab
 have cj:=aM.lo
 have ce:=aU.len
 refine iL func133 aa ntmps133 aa<|sq fun b1 bl=>rg aa<|p (aH (.pointer<|some ⟨H.rb,0,none⟩) aa)<|p (aH (.slice ar r.length cr) aa)<|p (a6 dN aa aa ab<|aE.ok (a5.2)<|cY ab)<|p (ld cO aa<|da.get (i:=1) a5.2 ab)<|eP aa (cI tA (uo H.rb ln (r.getD 1 []) 256 w aM.dR ab ab) aa fun v10 cs bw=> ?_) fun c w' C aC ac=>by obtain ⟨e,he,h,h2⟩:=C; exact ⟨ln,e,P2 he,h,Wk.mw h2⟩
 obtain ⟨n,U,rfl,aF⟩:=bw
 have ck:=yq U
 refine p mv<|nl<|tn<|bl _ _<|aB<|lp (fun aT aD an=> ∃ (i:Nat) (xs:List (Tx×Tx)) (rows':List Rw) (az:Nat) (A:dQ) (R':fG),(i≤n)∧(gj [iO] lr H.eof (group [iO] lr H.eof n rows) xs (n - i) rows')∧(xs.length=i)∧(cK an B H.fb H.mc {F with c6:=F.c6++xs} A)∧(bW an B H F R' rows' az seen)∧(jg {F with c6:=F.c6++xs} rows' seen)∧(ed B H w an)∧(aD 0= .pointer (some ⟨H.rb,0,none⟩))∧(aD 10= .int .i64 (n:Nat))∧(aD 11= .int .i64 (i:Nat))∧(n - i=aT)) _ ⟨0,[],rows,ln,V,R,ab,gj.start,aa,(by rw [eb]; exact ac.wk aF),(aM.wk aF),(by rw [eb]; exact aU),(Wk.mw aF),aa,aa,aa,aa⟩ ?_
 rintro aT aD an ⟨i,xs,rows',az,A,R',hi,I,bS,aV,ak,ai,aW,bM,bN,bP,rfl⟩
 refine fx 0 bM<|fx 10 bN<|fx 11 bP<|sq fun b2 bm=>rg aa<|p (lt aa aa)<|nl<|tn<|bm _ _<|sq fun b3 bo=>cd aa (fun bF=> ?_) fun bF=> ?_
 refine aO<|tn<|bo _ _<|sq fun b4 bq=>aB<|sq fun b5 br=>rg aa<|p (aH (.pointer<|some ⟨H.rb,0,none⟩) aa)<|e<|oE (L:= [str iO]) ka aa aa aa aa fun bg bb cb bv bh=> ?_
 have Z:Wk an bb:=bv.md
 have aX:=aW.trans<|Wk.mw Z
 refine eP aa (cI wh (x3 B H F R' rows' az seen [iO] bg 1 _ _ bb (ak.wk Z) (Tg.yv bh aa) aa aw fun q bK=>(ai.row q bK).2.1) aa fun co bU bx=> ?_) (fun c w' C aC ac=>by
  obtain ⟨h1,h2⟩:=C
  have hm:=aX.trans<|ed.rb (ak.wk Z) h2
  rcases h1 with ⟨rfl,h3⟩ | ⟨ah,O,rest,rfl,h4,h3⟩
  exact ⟨_,_,sd U (I.ends ab),h3,hm⟩
  exact ⟨_,_,sd U (I.other ab h4),h3,hm⟩)
 obtain ⟨ah,O,rest,rfl,ay,⟨bf,aN⟩,hT15,hM15⟩:=bx
 obtain ⟨b8,ca,rfl⟩:=hT15.slice
 have bk:=(aV.wk Z).rb (ak.wk Z) hM15
 have aL:=aX.trans<|ed.rb (ak.wk Z) hM15
 have ba:O≠[]∧O.length≤70000∧∀ x∈O,x.length≤70000:=ai.row (ah,O)<|by simp
 have aq:=jg.pT ai
 have a3:=hT15.dq
 have bE:=ai.len
 simp only [bV,bJ] at bE
 refine p aA<|nl<|tn<|br _ _<|sq fun b6 bs=>rg aa<|p (aH (.pointer<|some ⟨H.rb,0,none⟩) aa)<|p mv<|p (bO gU aa aa)<|p (bR aa aa)<|eP aa (cI fM (fQ H.rb ah _ 111 bU aN.dR aw) aa fun v20 bY bz=> ?_) fun c w' C aC ac=>⟨_,_,sd U (I.bad ab ay<|PX<|by have :=of_decide_eq_false C.2.1; omega),C.1,by rw [C.2.2]; exact aL⟩
 obtain ⟨rfl,bQ,rfl⟩:=bz
 have aS:O.length=3:=by have :=of_decide_eq_true bQ; omega
 have ch:=ba.2.2 _<|e6 (d:= []) (i:=1) ab
 have ci:=ba.2.2 _<|e6 (d:= []) (i:=2) ab
 refine nl<|tn<|bs _ _<|sq fun b7 bt=>rg aa<|p (aH (.pointer<|some ⟨H.rb,0,none⟩) aa)<|p mv<|p (a6 dN aa aa ab<|aE.ok (a3.2)<|cY ab)<|p (ld cO aa<|da.get (i:=1) a3.2 ab)<|eP aa (cI AJ (DU H.rb ah (O.getD 1 []) bY aN.dR ab) aa fun cp Y bA=> ?_) fun c w' C aC ac=>by obtain ⟨e,he,h,h2⟩:=C; exact ⟨_,_,sd U (I.bad ab ay<|PY aS he),h,aL.trans<|Wk.mw h2⟩
 obtain ⟨J,a9,rfl,au⟩:=bA
 have ae:=bk.wk au
 have am:=aN.wk au
 have a4:=hT15.wk au
 have aZ:=aL.trans<|Wk.mw au
 have aR:¬(A.v9.ownBlock=some H.rb):=c8 ae.o9 am.cells aw
 have bG:¬(A.v9.ownBlock=some H.fb):=c8 ae.o9 ae.cells aw
 refine p aA<|nl<|tn<|bt _ _ ?_
 have a:(fun w'=>Md (fun k=>A.v9.ownBlock=some k) Y w') Y.drew:=(Md.refl _ _).drew
 refine eB (fun w'=>Md (fun k=>A.v9.ownBlock=some k) Y w') 24 aa wide a<|bX 0 aa ag (fun _=>aH (.pointer<|some ⟨H.rb,0,none⟩) aa) (fun _=>a)<|bX 1 aa ag (fun _=>nc aa) (fun _=>a)<|bX 2 aa ag (fun _=>fa fJ aa) (fun _=>a)<|iZ 3 aa ag (fun w' G=>ld eF aa<|Md.aI G ((aY am.cells).trans aa) aR) a<|bX 4 aa ag (fun _=>aH (.pointer<|some ⟨H.rb,0,none⟩) aa) (fun _=>a)<|bX 5 aa ag (fun _=>nc aa) (fun _=>a)<|bX 6 aa ag (fun _=>fa fJ aa) (fun _=>a)<|iZ 7 aa ag (fun w' G=>ld eF aa<|Md.aI G ((aY am.cells).trans aa) aR) a<|bX 8 aa ag (fun _=>nc aa) (fun _=>a)<|bX 9 aa ag (fun _=>fa fj aa) (fun _=>a)<|bX 10 aa ag (fun _=>fa tY aa) (fun _=>a)<|iZ 11 aa ag (fun w' G=>ld Ad aa<|Md.aI G ((aY ae.cells).trans aa) bG) a<|bX 12 aa ag (fun _=>mv) (fun _=>a)<|bX 13 aa ag (fun _=>aH (.pointer<|some ⟨H.rb,0,none⟩) aa) (fun _=>a)<|bX 14 aa ag (fun _=>mv) (fun _=>a) ?_
 refine bX 15 aa ag (fun _=>a6 dN aa aa ab<|aE.ok (a4.dq.2)<|cY ab) (fun _=>a)<|iZ 16 aa ag (fun w' G=>ld cO aa<|da.get (i:=2) (a4.md G<|iQ ae.o9 aw).dq.2 ab) a<|Db 17 aa ag aa (cI AK (DS H.rb ah (O.getD 2 []) Y.drew (Md.aI a am.dR aR) ab) aa fun cq bZ bB=> ?_) fun c w' C aC ac=>by obtain ⟨e,he,h,h2⟩:=C; exact ⟨_,_,sd U (I.bad ab ay<|PZ aS a9 he),h,aZ.trans<|Wk.mw<|ig h2⟩
 obtain ⟨M,bI,rfl,av⟩:=bB
 have av:=ig av
 have aP:(fun w'=>Md (fun k=>A.v9.ownBlock=some k) Y w') bZ:=Md.mono av fun _ _ h=>h.elim
 refine ⟨aP,?_⟩
 refine bX 18 aa ag (fun _=>cT (ps:= [(0,str J),(1,str M)]) (L:= [str J,str M]) QW aa<|aa) (fun _=>aP)<|iY 19 aa ag<|mu uE aa aa aa fun b9 b0 cc a0 bi=> ?_
 have aJ:=av.trans a0.md
 have E:=ae.wk aJ
 have a1:=am.wk aJ
 have a2:(fun w'=>Md (fun k=>A.v9.ownBlock=some k) Y w') b0:=aP.trans' a0.md fun _ _ h=>h.elim
 refine ⟨a2,?_⟩
 refine iY 20 aa ag<|ap uE (E.o9) aa (by have :=(cy.1 a1.cells).1; omega) aa (aE.fA bi) (aa) (aa) (by simp only [bJ]; omega) (by simp only [bJ]; omega) fun v46 bc a8 aj cn cf=> ?_
 have bu:=(aZ.trans<|Wk.mw aJ).trans<|Mw.of aj (TF.own E.o9 aw) fun k hk=>(dd E.o9 hk).1
 have bC:=bW.own a1 E.o9 aj aw
 have aQ:=aj.aB E.cells<|c8 E.o9 E.cells aw
 have bH:bp bc B 128 2 v46 ((F.c6++xs)++ [(J,M)]).length (lZ<|(F.c6++xs)++ [(J,M)]):=by rw [show lZ ((F.c6++xs)++ [(J,M)])=lZ (F.c6++xs)++ [str J,str M] from by simp [lZ],bJ]; exact a8
 have ax:(fun w'=>Md (fun k=>A.v9.ownBlock=some k) Y w') bc:=a2.trans' aj fun _ _ h=>h
 refine ⟨ax,?_⟩
 exact bX 21 aa ag (fun _=>nc aa) (fun _=>ax)<|bX 22 aa ag (fun _=>fa fj aa) (fun _=>ax)<|bX 23 aa ag (fun _=>fa tY aa) (fun _=>ax)<|c5 24 aa ag ag<|dF Bu aa aa (v:=v46) (ej a8) aQ (by show _ < 14; omega) fun ct aK bj=>eA ag<|bn<|tn<|bq _ _<|rg aa<|p (ad aa aa<|cg ab)<|p mv<|nl<|tn<|⟨_,ab,i+1,xs++ [(J,M)],rest,ah,{A with v9:=v46},bf,ab,(by rw [show n - (i+1)=n - i - 1 by omega]; exact I.step ab ay<|P0 aS a9 bI),(by rw [bJ,bS]; rfl),(by rw [← dK]; exact cK.Ht (x:=(J,M)) E aj bH aK bj),(bW.tQ bC aQ aK),(⟨by simp only [bJ,iH]; omega,aq.sl,aq.row,aq.kd,aq.al⟩),(bu.trans<|Mw.of aK (TF.eq (dt aQ) aw) fun k hk=>hk ▸ E.lo.1),aa,aa,aa,aa⟩
 refine ext<|te _<|te _<|be<|hU<|f0 aa ?_
 rw [show n - i=0 by omega] at I
 exact ⟨aa,_,rows',az,P3 U I.done,⟨A,R',aV,ak.congr aa (fun _=>rfl),ai⟩,aW⟩
theorem Hf (B:Nat) (H:bT) (F:aG) (rows:List Rw) (ln:Nat) (seen:List Tx) (r:List Tx) (bt:Nat) (ar:Option Addr) (cr:Nat) (w:World) (A:St w B H F rows ln seen) (bd:Tg w bt 9 r.length (.slice ar r.length cr) (r.map str)) (cT:r.length=2) (cf:∀ x∈r,x.length≤70000):
 ee ao 134 (a7 [.pointer (some ⟨H.rb,0,none⟩),.slice ar r.length cr]) w (gM B H seen (jG H.eof F seen rows ln r) w) (gL B H (jG H.eof F seen rows ln r) w):=by
 obtain ⟨V,R,ah,U,aK⟩:=A
 have cG:=bd.dq
 have cU:(r.getD 1 []).length≤70000:=cf _<|e6 ab
 have cR:=U.lo
 have cL:=aK.len
 obtain ⟨cX,bl,bm⟩:=U.sm
 have cM:=qM (a:=ic) (l:=seen)
 have cN:=qM (a:=db) (l:=seen)
 have cV:=aK.sl
 refine iL func134 aa ntmps134 aa<|sq fun cs bB=> ?_
 have C:(fun w'=>Wk w w') w.drew:=(Md.refl _ _).drew
 refine bM (fun w'=>Wk w w') aa wide C<|hp 0 aa ag (fun _ _=>aH (.pointer<|some ⟨H.rb,0,none⟩) aa) C<|hp 1 aa ag (fun _ _=>aH (.pointer<|some ⟨H.rb,0,none⟩) aa) C<|hp 2 aa ag (fun _ _=>nc aa) C<|hp 3 aa ag (fun _ _=>fa p4 aa) C<|hp 4 aa ag (fun w' A=>ld pI aa<|Wk.aI A<|(aY U.cells).trans aa) C<|hp 5 aa ag (fun w' A=>mF n6 mS gp (bU.md (bl) A id) aa aa (⟨_,aa⟩)<|bm ic) C<|hp 6 aa ag (fun _ _=>aH (.pointer<|some ⟨H.rb,0,none⟩) aa) C<|hp 7 aa ag (fun _ _=>nc aa) C<|hp 8 aa ag (fun _ _=>fa p4 aa) C<|hp 9 aa ag (fun w' A=>ld pI aa<|Wk.aI A<|(aY U.cells).trans aa) C<|hp 10 aa ag (fun w' A=>mF n6 mS gp (bU.md (bl) A id) aa aa (⟨_,aa⟩)<|bm db) C<|hp 11 aa ag (fun _ _=>bI ((seen.count ic+seen.count db:Nat):Int) aa aa<|bf ab ab) C<|hp 12 aa ag (fun _ _=>bR aa aa) C ?_
 refine p9 13 aa ag aa (cI fM (fQ H.rb ln _ 113 w.drew (Wk.aI C U.dR) aw) aa fun v20 a1 b0=> ?_) (fun c w' E aQ ah=>⟨ln,113,Hg (Classical.byContradiction fun h2=>by
  have h1:=om.2 fun h=>h2<|Or.inl h
  have h3:=om.2 fun h=>h2<|Or.inr h
  exact of_decide_eq_false E.2.1 ab),E.1,by rw [E.2.2]; exact Wk.mw C⟩)
 obtain ⟨rfl,cm,bo⟩:=b0
 have aL:Wk w a1:=by rw [bo]; exact (Md.refl _ _).drew
 have ak:¬(ic∈seen∨db∈seen):=by
  have cF:=of_decide_eq_true cm
  rintro (h | h)
  have :=vv.2 h; omega
  have :=vv.2 h; omega
 have bY:=U.wk aL
 have bg:=(bd.wk aL).dq
 have b6:(fun w'=>Wk w w') a1:=by rw [bo]; exact C
 refine ⟨b6,?_⟩
 refine hn ag<|tn<|bB _ _<|sq fun ct bC=>rg aa<|p (aH (.pointer<|some ⟨H.rb,0,none⟩) aa)<|p (aH (.slice ar r.length cr) aa)<|p (a6 dN aa aa ab<|aE.ok (bg.2)<|cY ab)<|p (ld cO aa<|da.get (i:=1) bg.2 ab)<|eP aa (cI tA (uo H.rb ln (r.getD 1 []) 1024 a1 bY.dR ab ab) aa fun c0 c3 b1=> ?_) fun c w' E aQ ah=>by obtain ⟨e,he,h,h2⟩:=E; exact ⟨ln,e,Hh ak he,h,Wk.mw<|aL.trans h2⟩
 obtain ⟨n,am,rfl,an⟩:=b1
 have cS:=yq am
 have an:=aL.trans an
 refine p mv<|nl<|tn<|bC _ _<|aB<|lp (fun a2 aR aF=> ∃ (i:Nat) (xs:List (List Nat)) (rows':List Rw) (aP:Nat) (I:dQ) (R':fG),(i≤n)∧(gj [hZ] (k9 F.kind) H.eof (group [hZ] (k9 F.kind) H.eof n rows) xs (n - i) rows')∧(xs.length=i)∧(cK aF B H.fb H.mc {F with aliases:=F.aliases++xs} I)∧(bW aF B H F R' rows' aP seen)∧(jg {F with aliases:=F.aliases++xs} rows' seen)∧(ed B H w aF)∧(aR 0= .pointer (some ⟨H.rb,0,none⟩))∧(aR 25= .int .i64 (n:Nat))∧(aR 26= .int .i64 (i:Nat))∧(n - i=a2)) _ ⟨0,[],rows,ln,V,R,ab,gj.start,aa,(by rw [eb]; exact ah.wk an),(U.wk an),(by rw [eb]; exact aK),(Wk.mw an),aa,aa,aa,aa⟩ ?_
 rintro a2 aR aF ⟨i,xs,rows',aP,I,R',hi,Y,co,a3,ax,Z,a5,ci,cj,ck,rfl⟩
 refine fx 0 ci<|fx 25 cj<|fx 26 ck<|sq fun cu bD=>rg aa<|p (lt aa aa)<|nl<|tn<|bD _ _<|sq fun cv bE=>cd aa (fun b9=> ?_) fun b9=> ?_
 refine aO<|tn<|bE _ _<|sq fun cw bF=>aB<|sq fun cx bG=>rg aa<|p (aH (.pointer<|some ⟨H.rb,0,none⟩) aa)<|e<|oE (L:= [str hZ]) ka aa aa aa aa fun bv bq cH bQ bw=> ?_
 have ac:Wk aF bq:=bQ.md
 have a8:=a5.trans<|Wk.mw ac
 refine eP aa (cI wh (x3 B H F R' rows' aP seen [hZ] bv 1 _ _ bq (ax.wk ac) (Tg.yv bw aa) aa aw fun q ce=>(Z.row q ce).2.1) aa fun cZ cp bZ=> ?_) (fun c w' E aQ ah=>by
  obtain ⟨h1,h2⟩:=E
  have hm:=a8.trans<|ed.rb (ax.wk ac) h2
  rcases h1 with ⟨rfl,h3⟩ | ⟨az,M,rest,rfl,h4,h3⟩
  exact ⟨_,_,tp ak am (Y.ends ab),h3,hm⟩
  exact ⟨_,_,tp ak am (Y.other ab h4),h3,hm⟩)
 obtain ⟨az,M,rest,rfl,aW,⟨bu,aM⟩,hT15,hM15⟩:=bZ
 obtain ⟨cC,cE,rfl⟩:=hT15.slice
 have a4:=(a3.wk ac).rb (ax.wk ac) hM15
 have a9:=a8.trans<|ed.rb (ax.wk ac) hM15
 have ch:M≠[]∧M.length≤70000∧∀ x∈M,x.length≤70000:=Z.row (az,M)<|by simp
 have aS:=jg.pT Z
 have bh:=hT15.dq
 have b8:=Z.len
 simp only [bV,bJ] at b8
 refine p aA<|nl<|tn<|bG _ _<|sq fun cz bH=>rg aa<|p (aH (.pointer<|some ⟨H.rb,0,none⟩) aa)<|p mv<|p (bO gU aa aa)<|p (bR aa aa)<|eP aa (cI fM (fQ H.rb az _ 111 cp aM.dR aw) aa fun c1 aC b2=> ?_) fun c w' E aQ ah=>⟨_,_,tp ak am (Y.bad ab aW<|Hc<|by have :=of_decide_eq_false E.2.1; omega),E.1,by rw [E.2.2]; exact a9⟩
 obtain ⟨rfl,cn,rfl⟩:=b2
 have bk:M.length=2:=by have :=of_decide_eq_true cn; omega
 have cQ:=ch.2.2 _<|e6 (d:= []) (i:=1) ab
 refine nl<|tn<|bH _ _<|sq fun cA bL=> ?_
 have J:(fun w'=>Wk aC w') aC.drew:=(Md.refl _ _).drew
 refine bM (fun w'=>Wk aC w') aa wide J<|hp 0 aa ag (fun _ _=>aH (.pointer<|some ⟨H.rb,0,none⟩) aa) J<|hp 1 aa ag (fun _ _=>nc aa) J<|hp 2 aa ag (fun _ _=>fa fJ aa) J<|hp 3 aa ag (fun w' A=>ld eF aa<|Wk.aI A<|(aY aM.cells).trans aa) J<|hp 4 aa ag (fun _ _=>nc aa) J<|hp 5 aa ag (fun _ _=>fa fj aa) J<|hp 6 aa ag (fun _ _=>fa p5 aa) J<|hp 7 aa ag (fun w' A=>ld bK aa<|Wk.aI A<|(aY a4.cells).trans aa) J<|hp 8 aa ag (fun _ _=>mv) J<|hp 9 aa ag (fun _ _=>a6 dN aa aa ab<|aE.ok (bh.2)<|cY ab) J<|hp 10 aa ag (fun w' A=>ld cO aa<|Wk.aI A<|da.get (i:=1) bh.2 ab) J<|he 11 aa ag<|cl AL (CA F.kind (M.getD 1 []) _ aK.kd ab) aa fun c2 br b3=> ?_
 obtain ⟨⟨aJ,rfl,aV⟩,ae⟩:=b3
 have ae:=ig ae
 have au:=a4.wk ae
 have ay:=aM.wk ae
 have ba:=a9.trans<|Wk.mw ae
 have bi:¬(I.v10.ownBlock=some H.rb):=c8 au.fZ ay.cells aw
 have cb:¬(I.v10.ownBlock=some H.fb):=c8 au.fZ au.cells aw
 have bA:B≤aC.heap.size:=by have :=(cy.1 aM.cells).1; omega
 have ai:(fun w'=>Wk aC w') br:=ae
 refine ⟨ai,?_⟩
 refine hp 12 aa ag (fun _ _=>mv) ai<|hp 13 aa ag (fun _ _=>xt aa aa) ai<|hp 14 aa ag (fun _ _=>xt aa aa) ai<|hp 15 aa ag (fun _ _=>aA) ai<|hp 16 aa ag (fun _ _=>aA) ai<|hn ag<|tn<|bL _ _<|sq fun cB bN=>rg aa<|p (aH (.pointer<|some ⟨H.rb,0,none⟩) aa)<|p mv<|eP aa (cI mx (mG H.rb az ((ez F.kind<|M.getD 1 []).2:Nat) br ay.dR) aa fun v53 aD b5=> ?_) fun c w' E aQ ah=>⟨_,_,tp ak am (Y.bad ab aW<|by rw [Ae bk]; exact Cv<|by have :=E.2.1; omega),E.1,by rw [E.2.2]; exact ba⟩
 obtain ⟨rfl,aZ,rfl⟩:=b5
 have aZ:(ez F.kind<|M.getD 1 []).2=0:=ab
 have ca:=Cu aZ
 refine nl<|tn<|bN _ _ ?_
 have G:(fun w'=>Md (fun k=>I.v10.ownBlock=some k) aD w') aD.drew:=(Md.refl _ _).drew
 refine eB (fun w'=>Md (fun k=>I.v10.ownBlock=some k) aD w') 18 aa wide G<|bX 0 aa ag (fun _=>aH (.pointer<|some ⟨H.rb,0,none⟩) aa) (fun _=>G)<|bX 1 aa ag (fun _=>nc aa) (fun _=>G)<|bX 2 aa ag (fun _=>fa fJ aa) (fun _=>G)<|iZ 3 aa ag (fun w' A=>ld eF aa<|Md.aI A ((aY ay.cells).trans aa) bi) G<|bX 4 aa ag (fun _=>aH (.pointer<|some ⟨H.rb,0,none⟩) aa) (fun _=>G)<|bX 5 aa ag (fun _=>nc aa) (fun _=>G)<|bX 6 aa ag (fun _=>fa fJ aa) (fun _=>G)<|iZ 7 aa ag (fun w' A=>ld eF aa<|Md.aI A ((aY ay.cells).trans aa) bi) G<|bX 8 aa ag (fun _=>nc aa) (fun _=>G)<|bX 9 aa ag (fun _=>fa fj aa) (fun _=>G)<|bX 10 aa ag (fun _=>fa ng aa) (fun _=>G)<|iZ 11 aa ag (fun w' A=>ld oA aa<|Md.aI A ((aY au.cells).trans aa) cb) G<|bX 12 aa ag (fun _=>mv) (fun _=>G)<|iY 13 aa ag<|lf uF aa (ej aV) fun cD cq cJ bS bx=> ?_
 have aq:=ig bS.md
 have O:=au.wk aq
 have bb:=ay.wk aq
 have b7:=(Tg.j8<|aX aV aq).mono bA
 have bc:(fun w'=>Md (fun k=>I.v10.ownBlock=some k) aD w') cq:=Md.mono aq fun _ _ h=>h.elim
 refine ⟨bc,?_⟩
 refine iY 14 aa ag<|ap uF (O.fZ) aa (by have :=(cy.1 bb.cells).1; omega) aa (aE.fA bx) (aa) (by show List.all [aJ] Value.oneCell'=true; simp only [List.all_cons,List.all_nil,ej aV,Bool.and_self]) (by simp only [bJ]; omega) (by simp only [bJ]; omega) fun a0 bs bj av cW cP=> ?_
 have bP:=(ba.trans<|Wk.mw aq).trans<|Mw.of av (TF.own O.fZ aw) fun k hk=>(dd O.fZ hk).1
 have b4:=bW.own bb O.fZ av aw
 have aU:=av.aB O.cells<|c8 O.fZ O.cells aw
 have cc:bp bs B 70 1 a0 ((F.aliases++xs)++ [(ez F.kind<|M.getD 1 []).1]).length (I.sa++ [aJ]):=by rw [bJ]; exact bj
 have aN:(fun w'=>Md (fun k=>I.v10.ownBlock=some k) aD w') bs:=bc.trans' av fun _ _ h=>h
 refine ⟨aN,?_⟩
 exact bX 15 aa ag (fun _=>nc aa) (fun _=>aN)<|bX 16 aa ag (fun _=>fa fj aa) (fun _=>aN)<|bX 17 aa ag (fun _=>fa ng aa) (fun _=>aN)<|c5 18 aa ag ag<|dF Bv aa aa (v:=a0) (ej bj) aU (by show _ < 14; omega) fun c4 aT bz=>eA ag<|bn<|tn<|bF _ _<|rg aa<|p (ad aa aa<|cg ab)<|p mv<|nl<|tn<|⟨_,ab,i+1,xs++ [(ez F.kind<|M.getD 1 []).1],rest,az,{I with v10:=a0,sa:=I.sa++ [aJ]},bu,ab,(by rw [show n - (i+1)=n - i - 1 by omega]; exact Y.step ab aW<|by rw [Ae bk]; exact Cy aZ),(by rw [bJ,co]; rfl),(by rw [← dK]; exact cK.Hq (x:=(ez F.kind<|M.getD 1 []).1) (vx:=aJ) O b7 av cc aT bz),(bW.tQ b4 aU aT),(⟨by simp only [bJ,iH]; omega,aS.sl,aS.row,aS.kd,by intro l aj; rw [← dK] at aj; rcases mX.1 aj with aj | aj; exact Z.al l aj; rw [lI.1 aj]; exact ca⟩),(bP.trans<|Mw.of aT (TF.eq (dt aU) aw) fun k hk=>hk ▸ O.lo.1),aa,aa,aa,aa⟩
 refine ext<|te _<|te _<|be<|hU<|f0 aa ?_
 rw [show n - i=0 by omega] at Y
 exact ⟨aa,_,rows',aP,Hi ak am Y.done,⟨I,R',a3,ax.congr aa (fun _=>rfl),Z⟩,a5⟩
end Go.Hb.ml
end
section
namespace Go.Hb.ou
open Go.Hb.fL Go.Hb.ml Go.Hb.ov
structure mm (w:World) (B fb:Nat) (mc:Nat) (F:aG) (V:dQ):Prop where
 cells:w.heap[fb]? =some (.cells (mB F V mc).toArray 125 (0,0))
 o9:bp w B 128 2 V.v9 F.c6.length (lZ F.c6)
 fZ:bp w B 70 1 V.v10 F.aliases.length V.sa
 al:dm w B 51 V.sa F.aliases
 fz:bp w B 131 5 V.v11 F.bu.length (lg F.bu)
 ea:bp w B 77 7 V.v12 F.rules.length (eC<|F.rules.zip V.rn)
 nx:dm w B 51 V.rn (F.rules.map (·.next))
 lo:B≤fb∧B≤mc
 jb:F.sp.length=5
theorem mm.md {G:Nat→Prop} {w w':World} {B fb mc:Nat} {F:aG} {V:dQ} (h:mm w B fb mc F V) (hm:Md G w w') {L:List Nat} (a:TF w L G) (c:(L.contains 127 || L.contains 130 || L.contains 72 || L.contains 53 || L.contains 133 || L.contains 79)=false):mm w' B fb mc F V:=by
 simp only [n8] at c
 obtain ⟨⟨⟨⟨⟨h1,h2⟩,h3⟩,h4⟩,h5⟩,h6⟩:=c
 have i:∀ k,G k→∀ cur z,w.heap[k]?≠some (.cells cur 51 z):=fun k hk cur z q=>a.no (dt q) h4 hk
 exact ⟨hm.im a h.cells h1,cW h.o9 hm a h2,cW h.fZ hm a h3,h.al.md hm i,cW h.fz hm a h5,cW h.ea hm a h6,h.nx.md hm i,h.lo,h.jb⟩
theorem mm.wk {w w':World} {B fb mc:Nat} {F:aG} {V:dQ} (h:mm w B fb mc F V) (hm:Wk w w'):mm w' B fb mc F V:=h.md (L:= []) hm (fun _ hk=>hk.elim) rfl
theorem LX {w:World} {B fb mc:Nat} {F:aG} {V:dQ} (h:cK w B fb mc F V):mm w B fb mc F V:=⟨h.cells,h.o9,h.fZ,h.al,h.fz,h.ea,h.nx,h.lo,h.jb⟩
theorem mm.Hr {w C I:World} {B fb mc:Nat} {F:aG} {V:dQ} {v:Value} {x:dz} {f:Value→Option Value} (h:mm w B fb mc F V) (A:bU w.heap mc (ni .u16) f) (Y:∀ y:Nat,f (aR y)=((F.bu++ [x]).findIdx? fun c=>decide (c.flag=y)).map fun i:Nat=>gG .i64 i) (hm:Md (fun k=>V.v11.ownBlock=some k) w C) (O:bp C B 131 5 v (F.bu++ [x]).length (lg<|F.bu++ [x])) (a:Md (fun k=>k=fb) C I) (U:I.heap[fb]? =some (.cells (mB {F with bu:=F.bu++ [x]} {V with v11:=v} mc).toArray 125 (0,0))):cK I B fb mc {F with bu:=F.bu++ [x]} {V with v11:=v} :=by
 have q:TF w [133] (fun k=>V.v11.ownBlock=some k):=TF.own h.fz aw
 have G:=hm.im q h.cells aw
 have E:TF C [127] (fun k=>k=fb):=TF.eq (dt G) aw
 have J:∀ k,V.v11.ownBlock=some k→∀ cur z,w.heap[k]?≠some (.cells cur 51 z):=iQ h.fz aw
 have M:∀ k,k=fb→∀ cur z,C.heap[k]?≠some (.cells cur 51 z):=gz G aw
 have Z:=dw<|A.md hm<|q.no (dw A) aw
 exact ⟨U,cW (cW h.o9 hm q aw) a E aw,cW (cW h.fZ hm q aw) a E aw,(h.al.md hm J).md a M,cx O a (fun k hk A=>c8 O G aw<|A ▸ hk),cW (cW h.ea hm q aw) a E aw,(h.nx.md hm J).md a M,⟨f,(A.md hm<|q.no (dw A) aw).md a (E.no Z aw),Y⟩,h.lo,h.jb⟩
theorem bW.OW {w A E:World} {B:Nat} {H:bT} {F F':aG} {R:fG} {rows:List Rw} {ln:Nat} {seen:List Tx} {v:Value} {q:cG} (h:bW w B H F R rows ln seen) (hm:Md (fun k=>R.vn.ownBlock=some k) w A) (O:bp A B 3 1 v (F.rules++ [q]).length ((F.rules++ [q]).map fun r=>gG .i64 (r.line:Nat))) (a:Md (fun k=>k=H.rb) A E) (U:E.heap[H.rb]? =some (.cells (sc H {R with vn:=v} ln).toArray 195 (0,0))) (Z:F'.rules=F.rules++ [q]) (hd:∀ x,dS F' x=dS F x):bW E B H F' {R with vn:=v} rows ln seen:=by
 have C:TF w [5] (fun k=>R.vn.ownBlock=some k):=TF.own h.on aw
 have c:=hm.im C h.cells aw
 have G:TF A [197] (fun k=>k=H.rb):=TF.eq (dt c) aw
 obtain ⟨f,i,V⟩:=h.sm
 obtain ⟨g,J,Y⟩:=h.tm
 have I:=i.md hm<|C.no (dw i) aw
 have M:=J.md hm<|C.no (dw J) aw
 exact ⟨U,(h.rws.md hm<|iQ h.on aw).md a (gz c aw),(h.rt.md hm<|iQ h.on aw).md a (gz c aw),⟨f,I.md a (G.no (dw I) aw),V⟩,⟨g,M.md a (G.no (dw M) aw),fun x aa=>by rw [hd]; exact Y x aa⟩,by rw [Z]; exact cx O a (fun k hk i=>c8 O c aw<|i ▸ hk),h.lo,h.ne⟩
theorem xw {cs:List dz} {x:Nat} (h:(dx cs x).isSome=false):cs.findIdx? (fun c=>decide (c.flag=x))=none:=by
 rw [Gj]
 unfold dx at h
 rw [Option.isSome_eq_false_iff,Option.isNone_iff_eq_none,zK] at h
 intro c a
 simpa using h c a
theorem KR {F:aG} {c:dz} (y:Nat):dS {F with bu:=F.bu++ [c]} y=(decide (y=c.flag) || dS F y):=by
 have h1:(dx (F.bu++ [c]) y).isSome=((dx F.bu y).isSome || decide (y=c.flag)):=by
  unfold dx
  rw [List.find?_append,Option.isSome_or]
  congr 1
  by_cases h:c.flag=y
  · simp [h]
  · simp [h,Ne.symm h]
 unfold dS
 show (decide (y∈F.sp) || (dx (F.bu++ [c]) y).isSome)=_
 rw [h1]
 cases decide (y∈F.sp) <;> cases (dx F.bu y).isSome <;> cases decide (y=c.flag) <;> rfl
theorem J0 {F:aG} {c:dz} {f:Value→Option Value} (hd:dS F c.flag=false) (a:∀ x:Nat,f (aR x)=(F.bu.findIdx? fun c=>decide (c.flag=x)).map fun i:Nat=>gG .i64 i) (y:Nat):bD f (aR c.flag) (.int .i64 (F.bu.length:Nat)) (aR y)=((F.bu++ [c]).findIdx? fun c=>decide (c.flag=y)).map fun i:Nat=>gG .i64 i:=by
 unfold dS at hd
 rw [n8] at hd
 rw [List.findIdx?_append]
 by_cases h:y=c.flag
 · subst h
   rw [r7,xw hd.2]
   simp
 · rw [qh (fun h2=>h<|ER h2),a y]
   cases F.bu.findIdx? fun c=>decide (c.flag=y) <;> simp [Ne.symm h]
theorem Bb {eof ln e:Nat} {F:aG} {rows:List Rw} {r:List Tx} (h:gT F (r.getD 1 [])= .error e):gA eof F rows ln r= .error (ln,e):=by unfold gA; rw [h]
theorem Bc {eof ln x:Nat} {F:aG} {rows:List Rw} {r:List Tx} (h:gT F (r.getD 1 [])= .ok x) (h1:r.getD 2 []≠[89]) (h2:r.getD 2 []≠[78]):gA eof F rows ln r= .error (ln,114):=by unfold gA; rw [h]; exact if_pos ⟨h1,h2⟩
theorem Jw {eof ln x e:Nat} {F:aG} {rows:List Rw} {r:List Tx} (h:gT F (r.getD 1 [])= .ok x) (h1:r.getD 2 []= [89]∨r.getD 2 []= [78]) (h2:dZ (r.getD 3 []) 1024= .error e):gA eof F rows ln r= .error (ln,e):=by
 unfold gA; rw [h]; simp only; rw [if_neg (fun h3=>h1.elim h3.1 h3.2),h2]
theorem Jx {eof ln x n:Nat} {F:aG} {rows:List Rw} {r:List Tx} (h:gT F (r.getD 1 [])= .ok x) (h1:r.getD 2 []= [89]∨r.getD 2 []= [78]) (h2:dZ (r.getD 3 []) 1024= .ok n) (h3:1024 < F.rules.length+n):gA eof F rows ln r= .error (ln,117):=by
 unfold gA; rw [h]; simp only; rw [if_neg (fun h3=>h1.elim h3.1 h3.2),h2]; simp only; rw [if_pos h3]
theorem wU {eof ln x n:Nat} {F:aG} {rows:List Rw} {r:List Tx} {e:Nat×Nat} (h:gT F (r.getD 1 [])= .ok x) (h1:r.getD 2 []= [89]∨r.getD 2 []= [78]) (h2:dZ (r.getD 3 []) 1024= .ok n) (h3:¬1024 < F.rules.length+n) (h4:group [r.getD 0 [],r.getD 1 []] (iz F.kind F.aliases (⟨x,(if r.getD 0 []=db then 2 else 1:Nat),(decide (r.getD 2 []= [89])),F.rules.length,n⟩:dz)) eof n rows= .error e):gA eof F rows ln r= .error e:=by
 unfold gA; rw [h]; simp only; rw [if_neg (fun h3=>h1.elim h3.1 h3.2),h2]; simp only; rw [if_neg h3,h4]
theorem Jy {eof ln x n:Nat} {F:aG} {rows:List Rw} {r:List Tx} {q:List cG×List Rw} (h:gT F (r.getD 1 [])= .ok x) (h1:r.getD 2 []= [89]∨r.getD 2 []= [78]) (h2:dZ (r.getD 3 []) 1024= .ok n) (h3:¬1024 < F.rules.length+n) (h4:group [r.getD 0 [],r.getD 1 []] (iz F.kind F.aliases (⟨x,(if r.getD 0 []=db then 2 else 1:Nat),(decide (r.getD 2 []= [89])),F.rules.length,n⟩:dz)) eof n rows= .ok q):gA eof F rows ln r= .ok ({F with bu:=F.bu++ [(⟨x,(if r.getD 0 []=db then 2 else 1:Nat),(decide (r.getD 2 []= [89])),F.rules.length,n⟩:dz)],rules:=F.rules++q.1},q.2):=by
 unfold gA; rw [h]; simp only; rw [if_neg (fun h3=>h1.elim h3.1 h3.2),h2]; simp only; rw [if_neg h3,h4]
theorem Be (B:Nat) (H:bT) (F:aG) (rows:List Rw) (ln:Nat) (seen:List Tx) (r:List Tx) (cD:Nat) (ar:Option Addr) (cr:Nat) (w:World) (a:St w B H F rows ln seen) (c7:Tg w cD 9 r.length (.slice ar r.length cr) (r.map str)) (gg:r.length=4) (cv:∀ x∈r,x.length≤70000) (f4:F.c6.length+F.aliases.length+F.bu.length+F.rules.length+rows.length < 70000):
 ee ao 135 (a7 [.pointer (some ⟨H.rb,0,none⟩),.slice ar r.length cr]) w (gM B H seen (gA H.eof F rows ln r) w) (gL B H (gA H.eof F rows ln r) w):=by
 obtain ⟨V,R,J,ak,aD⟩:=a
 have Z:=c7.dq
 have gh:(r.getD 1 []).length≤70000:=cv _<|e6 ab
 have gk:(r.getD 2 []).length≤70000:=cv _<|e6 ab
 have gl:(r.getD 3 []).length≤70000:=cv _<|e6 ab
 have ge:=ak.lo
 have f9:=aD.len
 have gm:=(cy.1 ak.cells).1
 obtain ⟨a12,ki,fw⟩:=cU J.ea
 obtain ⟨cE,cF,dv⟩:=cU J.fz
 have eZ:Hb.aI w.heap H.fb 12=some (.slice a12 F.rules.length ki):=by rw [← fw]; exact (aY J.cells).trans rfl
 have ga:Hb.aI w.heap H.fb 11=some (.slice cE F.bu.length cF):=by rw [← dv]; exact (aY J.cells).trans rfl
 have e3:∀ b,w.heap.size≤b→¬(V.v11.ownBlock=some b):=fun b f3 h=>by have :=dd J.fz h; omega
 obtain ⟨tf,fv,ds⟩:=ak.tm
 refine iL func135 aa ntmps135 aa ?_
 refine eD (fun b3 cC=> ∃ (x I:Nat),(gT F (r.getD 1 [])= .ok x)∧(x≠0)∧(dS F x=false)∧(w.heap.size≤I)∧(cC.heap[I]? =some (.cells [aR x,.int .i64 (1:Nat),.bool false,.int .i64 (F.rules.length:Nat),.int .i64 (0:Nat)].toArray 131 (0,0)))∧(Wk w cC)∧(b3 0= .pointer (some ⟨H.rb,0,none⟩))∧(b3 1= .slice ar r.length cr)∧(b3 4= .pointer (some ⟨I,0,none⟩))) ?_ ?_
 have C:(fun w'=>Wk w w') w.drew:=(Md.refl _ _).drew
 refine bM (fun w'=>Wk w w') aa wide C<|hp 0 aa ag (fun _ _=>aH (.pointer<|some ⟨H.rb,0,none⟩) aa) C<|hp 1 aa ag (fun _ _=>aH (.slice ar r.length cr) aa) C<|hp 2 aa ag (fun _ _=>a6 dN aa aa ab<|aE.ok (Z.2)<|cY ab) C<|hp 3 aa ag (fun w' a=>ld cO aa<|Wk.aI a<|da.get (i:=1) Z.2 ab) C<|hp 5 aa ag (fun _ _=>aH (.pointer<|some ⟨H.rb,0,none⟩) aa) C<|hp 6 aa ag (fun _ _=>nc aa) C<|hp 7 aa ag (fun _ _=>fa fJ aa) C<|hp 8 aa ag (fun w' a=>ld eF aa<|Wk.aI a<|(aY ak.cells).trans aa) C<|hp 9 aa ag (fun _ _=>nc aa) C<|hp 10 aa ag (fun _ _=>fa fj aa) C<|hp 11 aa ag (fun _ _=>fa lV aa) C<|hp 12 aa ag (fun w' a=>ld kh aa<|Wk.aI a<|eZ) C<|hp 13 aa ag (fun _ _=>bO qp aa aa) C<|Nc (Pn:=fun c w'=> ∃ e,gT F (r.getD 1 [])= .error e∧c=gB 47 ln (e:Nat)∧Wk w.drew w') 4 15 aa aa ag aa aa ?_ (fun c w' A aS J=>by obtain ⟨e,he,h,h2⟩:=A; exact ⟨ln,e,Bb he,h,Wk.mw<|Md.trans C h2⟩) ?_
 refine cI wg (xP B H F V R rows ln seen (r.getD 1 []) w.drew (J.wk C) (ak.wk C) aD.kd ab) aa fun v10 b0 bi=> ?_
 obtain ⟨x,ac,bz,rfl,aQ,bE⟩:=bi
 have am:(fun w'=>Wk w w') b0:=Md.trans C bE
 refine ⟨am,?_⟩
 refine hp 14 aa ag (fun _ _=>cT (ps:= [(0,aR x),(1,.int .i64 (1:Nat)),(3,.int .i64 (F.rules.length:Nat))]) (L:= [aR x,.int .i64 (1:Nat),.bool false,.int .i64 (F.rules.length:Nat),.int .i64 0]) yR aa<|aa) am<|he 15 aa ag<|gx qz fun I b2 eU cc b6=> ?_
 have ay:(fun w'=>Wk w w') b2:=Md.trans am cc.md
 refine ⟨ay,?_⟩
 refine he 16 aa ag<|gi oG aa aa aa aa b6 aw fun cA ca b7=> ?_
 have bl:(fun w'=>Wk w w') cA:=Md.trans' ay ca fun k hk h=>by have h1:=Md.size am; have h2:=Md.size C; omega
 refine ⟨bl,?_⟩
 exact hn ag<|tn<|⟨x,I,ac,bz,aQ,(by have h1:=Md.size am; have h2:=Md.size C; omega),b7,bl,aa,aa,aa⟩
 refine gx qz fun I b2 eU cc b6=> ?_
 have ay:(fun w'=>Wk w w') b2:=Md.trans C cc.md
 refine ⟨ay,?_⟩
 refine p9 4 aa ag aa (cI wg (xP B H F V R rows ln seen (r.getD 1 []) b2 (J.wk ay) (ak.wk ay) aD.kd ab) aa fun v10 b0 bi=> ?_) fun c w' A aS J=>by obtain ⟨e,he,h,h2⟩:=A; exact ⟨ln,e,Bb he,h,Wk.mw<|Md.trans ay h2⟩
 obtain ⟨x,ac,bz,rfl,aQ,bE⟩:=bi
 have am:(fun w'=>Wk w w') b0:=Md.trans ay bE
 refine ⟨am,?_⟩
 refine hp 14 aa ag (fun _ _=>cT (ps:= [(0,aR x),(1,.int .i64 (1:Nat)),(3,.int .i64 (F.rules.length:Nat))]) (L:= [aR x,.int .i64 (1:Nat),.bool false,.int .i64 (F.rules.length:Nat),.int .i64 0]) yR aa<|aa) am<|he 16 aa ag<|gi oG aa aa aa aa (Wk.aB bE b6) aw fun cA ca b7=> ?_
 have bl:(fun w'=>Wk w w') cA:=Md.trans' am ca fun k hk h=>by have h1:=Md.size am; have h2:=Md.size C; omega
 refine ⟨bl,?_⟩
 exact hn ag<|tn<|⟨x,I,ac,bz,aQ,(by have h1:=Md.size am; have h2:=Md.size C; omega),b7,bl,aa,aa,aa⟩
 rintro b3 cC ⟨x,I,ac,bz,aQ,e9,dp,bB,fe,ff,fg⟩
 refine fx 0 fe<|fx 1 ff<|fx 4 fg ?_
 refine eD (fun b4 a0=>(a0.heap[I]? =some (.cells [aR x,.int .i64 ((if r.getD 0 []=db then 2 else 1:Nat):Nat),.bool false,.int .i64 (F.rules.length:Nat),.int .i64 (0:Nat)].toArray 131 (0,0)))∧(Wk w a0)∧(b4 0= .pointer (some ⟨H.rb,0,none⟩))∧(b4 1= .slice ar r.length cr)∧(b4 4= .pointer (some ⟨I,0,none⟩))) ?_ ?_
 refine sq fun dG b9=>rg aa<|p (aH (.slice ar r.length cr) aa)<|p (a6 dN aa aa ab<|aE.ok (aE.wk Z.2 bB)<|cY ab)<|p (ld cO aa<|da.get (i:=0) (aE.wk Z.2 bB) ab)<|p (iM aa aa)<|nl<|tn<|b9 _ _<|cd aa (fun co=> ?_) fun co=> ?_
 exact rg aa<|p (fa rI aa)<|e<|dF lj aa aa (v:= .int .i64 (2:Nat)) aa dp (by show _ < 5; decide) fun gE eg dT=>nl<|tn<|⟨(by rw [if_pos (show r.getD 0 []=db from co)]; exact dT),(bB.trans' eg fun k hk h=>by omega),aa,aa,aa⟩
 exact aO<|tn<|⟨(by rw [if_neg (show ¬r.getD 0 []=db from co)]; exact dp),bB,aa,aa,aa⟩
 rintro b4 a0 ⟨e8,ai,fh,fi,fk⟩
 refine fx 0 fh<|fx 1 fi<|fx 4 fk ?_
 refine eD (fun b5 dE=>(r.getD 2 []= [89]∨r.getD 2 []= [78])∧(dE=a0)∧(b5 0= .pointer (some ⟨H.rb,0,none⟩))∧(b5 1= .slice ar r.length cr)∧(b5 4= .pointer (some ⟨I,0,none⟩))) ?_ ?_
 refine rg aa<|p (aH (.pointer<|some ⟨H.rb,0,none⟩) aa)<|p (aH (.slice ar r.length cr) aa)<|p (a6 dN aa aa ab<|aE.ok (aE.wk Z.2 ai)<|cY ab)<|p (ld cO aa<|da.get (i:=2) (aE.wk Z.2 ai) ab)<|p (iM aa aa)<|p mv<|gs (t:=31) aa (fun bR=> ?_) fun bR=> ?_
 refine sk aa aa aa aa<|sk aa aa aa aa<|sk aa aa aa aa<|sk aa aa aa aa<|p (bL aa)<|eP aa (cI fM (fQ H.rb ln _ 114 a0 (Wk.aI ai ak.dR) aw) aa fun v37 fH ce=> ?_) fun c w' A aS J=>by first | exact absurd A.2.1 aw | exact ⟨ln,114,Bc ac bR (of_decide_eq_false A.2.1),A.1,by rw [A.2.2]; exact Wk.mw ai⟩
 obtain ⟨rfl,dx,rfl⟩:=ce
 exact nl<|tn<|⟨(.inl bR),aa,aa,aa,aa⟩
 refine pg aa aa aa (aH (.slice ar r.length cr) aa)<|pg aa aa aa (a6 dN aa aa ab<|aE.ok (aE.wk Z.2 ai)<|cY ab)<|pg aa aa aa (ld cO aa<|da.get (i:=2) (aE.wk Z.2 ai) ab)<|pg aa aa aa (iM aa aa)<|p (bC aa)<|eP aa (cI fM (fQ H.rb ln _ 114 a0 (Wk.aI ai ak.dR) aw) aa fun v37 fH ce=> ?_) fun c w' A aS J=>by first | exact absurd A.2.1 aw | exact ⟨ln,114,Bc ac bR (of_decide_eq_false A.2.1),A.1,by rw [A.2.2]; exact Wk.mw ai⟩
 obtain ⟨rfl,dx,rfl⟩:=ce
 exact nl<|tn<|⟨(.inr<|of_decide_eq_true dx),aa,aa,aa,aa⟩
 rintro b5 dE ⟨aW,fy,fl,fm,fo⟩
 refine fx 0 fl<|fx 1 fm<|fx 4 fo ?_
 subst fy
 refine sq fun dG b9=>rg aa<|p (aH (.slice ar r.length cr) aa)<|p (a6 dN aa aa ab<|aE.ok (aE.wk Z.2 ai)<|cY ab)<|p (ld cO aa<|da.get (i:=2) (aE.wk Z.2 ai) ab)<|p (iM aa aa)<|p (fa Cm aa)<|e<|dF Bt aa aa (v:= .bool<|decide (r.getD 2 []= [89])) aa e8 (by show _ < 5; decide) fun fI eh dU=> ?_
 have bb:=ai.trans' eh fun k hk h=>by omega
 refine nl<|tn<|b9 _ _<|sq fun fP d4=>rg aa<|p (aH (.pointer<|some ⟨H.rb,0,none⟩) aa)<|p (aH (.slice ar r.length cr) aa)<|p (a6 dN aa aa ab<|aE.ok (aE.wk Z.2 bb)<|cY ab)<|p (ld cO aa<|da.get (i:=3) (aE.wk Z.2 bb) ab)<|eP aa (cI tA (uo H.rb ln (r.getD 3 []) 1024 fI (Wk.aI bb ak.dR) ab ab) aa fun gy gD eG=> ?_) fun c w' A aS J=>by obtain ⟨e,he,h,h2⟩:=A; exact ⟨ln,e,Jw ac aW he,h,Wk.mw<|bb.trans h2⟩
 obtain ⟨n,aV,rfl,cJ⟩:=eG
 have gf:=yq aV
 refine p (fa tS aa)<|e<|dF lj aa aa (v:= .int .i64 (n:Nat)) aa (Wk.aB cJ dU) (by show _ < 5; decide) fun dB ek dV=> ?_
 have aJ:=(bb.trans cJ).trans' ek fun k hk h=>by omega
 have br:dB.heap[I]? =some (.cells [aR x,.int .i64 ((if r.getD 0 []=db then 2 else 1:Nat):Nat),.bool (decide (r.getD 2 []= [89])),.int .i64 (F.rules.length:Nat),.int .i64 (n:Nat)].toArray 131 (0,0)):=dV
 refine nl<|tn<|d4 _ _<|sq fun fR d5=>rg aa<|p (aH (.pointer<|some ⟨H.rb,0,none⟩) aa)<|p (fa Cn aa)<|p (ld bK aa<|(aY br).trans aa)<|p (fa tS aa)<|p (ld bK aa<|(aY br).trans aa)<|p (bI ((F.rules.length+n:Nat):Int) aa aa<|bf ab ab)<|p (le aa aa)<|eP aa (cI fM (fQ H.rb ln _ 117 dB (Wk.aI aJ ak.dR) aw) aa fun gC cB eH=> ?_) fun c w' A aS J=>⟨ln,117,Jx ac aW aV (by have :=of_decide_eq_false A.2.1; omega),A.1,by rw [A.2.2]; exact Wk.mw aJ⟩
 obtain ⟨rfl,fB,rfl⟩:=eH
 have bA:¬1024 < F.rules.length+n:=by have :=of_decide_eq_true fB; omega
 have bG:=ak.wk aJ
 have dY:=J.wk aJ
 have bS:=fv.wk aJ
 refine nl<|tn<|d5 _ _<|sq fun fS d6=> ?_
 have aq:(fun w'=>Wk cB w') cB.drew:=(Md.refl _ _).drew
 refine eB (fun w'=>Wk cB w') 8 aa wide aq<|lq 0 aa ag (fun _ _=>aH (.pointer<|some ⟨H.rb,0,none⟩) aa) aq<|lq 1 aa ag (fun _ _=>nc aa) aq<|lq 2 aa ag (fun _ _=>fa xI aa) aq<|lq 3 aa ag (fun w' a=>ld qY aa<|Wk.aI a<|(aY bG.cells).trans aa) aq<|lq 4 aa ag (fun _ _=>fa xE aa) aq<|lq 5 aa ag (fun w' a=>ld bP aa<|Wk.aI a<|(aY br).trans aa) aq<|lq 6 aa ag (fun w' a=>mF o4 mS oP (bU.md (bS) a id) aa aa (⟨_,aa⟩) (show _=gG .i64 0 from (ds x bz).trans<|by rw [aQ]; rfl)) aq<|lq 7 aa ag (fun _ _=>bI ((1:Nat):Int) aa aa<|bf ab ab) aq<|c5 8 aa ag ag<|qs o4 oP (bS.wk aq) aa aa aa (⟨_,aa⟩) fun a1 ei ev=> ?_
 have bg:=ig ei
 have bk:bW a1 B H {F with bu:=F.bu++ [(⟨x,(if r.getD 0 []=db then 2 else 1:Nat),(decide (r.getD 2 []= [89])),F.rules.length,n⟩:dz)]} R rows ln seen:=bG.rY bg ev rfl (EJ aQ ds fun y _=>KR y)
 have bc:=dY.rY bG bg
 have dj:=bg.aB br fun h=>bS.nm<|h ▸ br
 have eQ:=(c7.wk aJ).md bg fun k hk cur z cs=>by subst hk; exact bS.nm cs
 have ep:=(Wk.mw aJ).trans<|ed.mt bG bg
 obtain ⟨cf,cp,e0⟩:=bc.cm
 have eY:Hb.aI a1.heap H.fb 11=some (.slice cE F.bu.length cF):=by rw [← dv]; exact (aY bc.cells).trans rfl
 refine eA ag<|tn<|d6 _ _<|sq fun fT d7=> ?_
 have E:(fun w'=>Wk a1 w') a1.drew:=(Md.refl _ _).drew
 refine eB (fun w'=>Wk a1 w') 18 aa wide E<|lq 0 aa ag (fun _ _=>aH (.pointer<|some ⟨H.rb,0,none⟩) aa) E<|lq 1 aa ag (fun _ _=>nc aa) E<|lq 2 aa ag (fun _ _=>fa fJ aa) E<|lq 3 aa ag (fun w' a=>ld eF aa<|Wk.aI a<|(aY bk.cells).trans aa) E<|lq 4 aa ag (fun _ _=>nc aa) E<|lq 5 aa ag (fun _ _=>fa Cl aa) E<|lq 6 aa ag (fun w' a=>ld qY aa<|Wk.aI a<|(aY bc.cells).trans aa) E<|lq 7 aa ag (fun _ _=>fa xE aa) E<|lq 8 aa ag (fun w' a=>ld bP aa<|Wk.aI a<|(aY dj).trans aa) E<|lq 9 aa ag (fun _ _=>aH (.pointer<|some ⟨H.rb,0,none⟩) aa) E<|lq 10 aa ag (fun _ _=>nc aa) E<|lq 11 aa ag (fun _ _=>fa fJ aa) E<|lq 12 aa ag (fun w' a=>ld eF aa<|Wk.aI a<|(aY bk.cells).trans aa) E<|lq 13 aa ag (fun _ _=>nc aa) E<|lq 14 aa ag (fun _ _=>fa fj aa) E ?_
 refine lq 15 aa ag (fun _ _=>fa p6 aa) E<|lq 16 aa ag (fun w' a=>ld tj aa<|Wk.aI a<|eY) E<|lq 17 aa ag (fun _ _=>bO EV aa aa) E<|c5 18 aa ag ag<|qs o4 oP (cp.wk E) aa aa aa (⟨_,aa⟩) fun a2 el ew=> ?_
 have ex:bU a2.heap H.mc (ni .u16) (bD cf (aR x)<|.int .i64 (F.bu.length:Nat)):=ew
 have bh:=ig el
 have ci:TF a1 [1] (fun k=>k=H.mc):=TF.eq (dw cp) aw
 have bq:=(LX bc).md (L:= [1]) bh ci aw
 have bH:=bk.md (L:= [1]) bh ci aw bk.ne.2.1 bk.ne.2.2
 have df:=bh.im ci dj aw
 have eR:=eQ.md bh fun k hk cur z cs=>by subst hk; exact cp.nm cs
 have es:=ep.trans<|bh.mono fun k _ hk=>⟨hk ▸ bc.lo.2,.inr<|.inr<|.inl hk⟩
 have dk:=e3 I e9
 have bx:¬(V.v11.ownBlock=some H.rb):=c8 bq.fz bH.cells aw
 have ct:¬(V.v11.ownBlock=some H.fb):=c8 bq.fz bq.cells aw
 refine eA ag<|tn<|d7 _ _<|sq fun fU d8=> ?_
 have O:(fun w'=>Md (fun k=>V.v11.ownBlock=some k) a2 w') a2.drew:=(Md.refl _ _).drew
 refine eB (fun w'=>Md (fun k=>V.v11.ownBlock=some k) a2 w') 18 aa wide O<|bX 0 aa ag (fun _=>aH (.pointer<|some ⟨H.rb,0,none⟩) aa) (fun _=>O)<|bX 1 aa ag (fun _=>nc aa) (fun _=>O)<|bX 2 aa ag (fun _=>fa fJ aa) (fun _=>O)<|iZ 3 aa ag (fun w' a=>ld eF aa<|Md.aI a ((aY bH.cells).trans aa) bx) O<|bX 4 aa ag (fun _=>aH (.pointer<|some ⟨H.rb,0,none⟩) aa) (fun _=>O)<|bX 5 aa ag (fun _=>nc aa) (fun _=>O)<|bX 6 aa ag (fun _=>fa fJ aa) (fun _=>O)<|iZ 7 aa ag (fun w' a=>ld eF aa<|Md.aI a ((aY bH.cells).trans aa) bx) O<|bX 8 aa ag (fun _=>nc aa) (fun _=>O)<|bX 9 aa ag (fun _=>fa fj aa) (fun _=>O)<|bX 10 aa ag (fun _=>fa p6 aa) (fun _=>O)<|iZ 11 aa ag (fun w' a=>ld tj aa<|Md.aI a ((aY bq.cells).trans aa) ct) O<|iZ 12 aa ag (fun w' a=>cz qZ aa (aa) fun j e1=>bw.bm ⟨_,Md.aB a df dk⟩ j) O<|iY 13 aa ag<|mu uG aa aa aa fun f2 fK f8 cV dW=> ?_
 have aT:=ig cV.md
 have au:=bq.wk aT
 have cX:=bH.wk aT
 have gq:=(cy.1 cX.cells).1
 have c4:(fun w'=>Md (fun k=>V.v11.ownBlock=some k) a2 w') fK:=O.trans' cV.md fun _ _ h=>h.elim
 refine ⟨c4,?_⟩
 refine iY 14 aa ag<|ap uG (au.fz) aa ab aa (aE.fA dW) (aa) (aa) ab ab fun cw dD dn aN gu gd=> ?_
 have et:=(es.trans<|Wk.mw aT).trans<|Mw.of aN (TF.own au.fz aw) fun k hk=>(dd au.fz hk).1
 have bi:=bW.own cX au.fz aN aw
 have bs:=aN.aB au.cells<|c8 au.fz au.cells aw
 have cj:=aN.aB (Wk.aB aT df) dk
 have eJ:=(eR.wk aT).md aN<|iQ au.fz aw
 have e7:bp dD B 131 5 cw (F.bu++ [(⟨x,(if r.getD 0 []=db then 2 else 1:Nat),(decide (r.getD 2 []= [89])),F.rules.length,n⟩:dz)]).length (lg<|F.bu++ [(⟨x,(if r.getD 0 []=db then 2 else 1:Nat),(decide (r.getD 2 []= [89])),F.rules.length,n⟩:dz)]):=by rw [show lg (F.bu++ [(⟨x,(if r.getD 0 []=db then 2 else 1:Nat),(decide (r.getD 2 []= [89])),F.rules.length,n⟩:dz)])=lg F.bu++lR (⟨x,(if r.getD 0 []=db then 2 else 1:Nat),(decide (r.getD 2 []= [89])),F.rules.length,n⟩:dz) from by simp [lg],bJ]; exact dn
 have bQ:(fun w'=>Md (fun k=>V.v11.ownBlock=some k) a2 w') dD:=c4.trans' aN fun _ _ h=>h
 refine ⟨bQ,?_⟩
 refine bX 15 aa ag (fun _=>nc aa) (fun _=>bQ)<|bX 16 aa ag (fun _=>fa fj aa) (fun _=>bQ)<|bX 17 aa ag (fun _=>fa p6 aa) (fun _=>bQ)<|c5 18 aa ag ag<|dF Bw aa aa (v:=cw) (ej dn) bs (by show _ < 14; omega) fun aZ aj b8=> ?_
 have dX:=mm.Hr (x:=(⟨x,(if r.getD 0 []=db then 2 else 1:Nat),(decide (r.getD 2 []= [89])),F.rules.length,n⟩:dz)) au (ex.wk aT) (J0 (c:=(⟨x,(if r.getD 0 []=db then 2 else 1:Nat),(decide (r.getD 2 []= [89])),F.rules.length,n⟩:dz)) aQ e0) aN e7 aj b8
 have ey:=bW.tQ bi bs aj
 have dg:=aj.aB cj fun h=>by rw [h,bs] at cj; cases cj
 have eK:=eJ.md aj<|gz bs aw
 have em:=et.trans<|Mw.of aj (TF.eq (dt bs) aw) fun k hk=>hk ▸ au.lo.1
 refine eA ag<|tn<|d8 _ _<|sq fun fW d9=>rg aa<|p (fa tS aa)<|p (ld bK aa<|(aY dg).trans aa)<|p mv<|nl<|tn<|d9 _ _<|aB<|lp (fun cH a3 ae=> ∃ (i:Nat) (xs:List cG) (rows':List Rw) (bY:Nat) (G:dQ) (R':fG),(i≤n)∧(gj [r.getD 0 [],r.getD 1 []] (iz F.kind F.aliases (⟨x,(if r.getD 0 []=db then 2 else 1:Nat),(decide (r.getD 2 []= [89])),F.rules.length,n⟩:dz)) H.eof (group [r.getD 0 [],r.getD 1 []] (iz F.kind F.aliases (⟨x,(if r.getD 0 []=db then 2 else 1:Nat),(decide (r.getD 2 []= [89])),F.rules.length,n⟩:dz)) H.eof n rows) xs (n - i) rows')∧(xs.length=i)∧(cK ae B H.fb H.mc {F with bu:=F.bu++ [(⟨x,(if r.getD 0 []=db then 2 else 1:Nat),(decide (r.getD 2 []= [89])),F.rules.length,n⟩:dz)],rules:=F.rules++xs} G)∧(bW ae B H {F with bu:=F.bu++ [(⟨x,(if r.getD 0 []=db then 2 else 1:Nat),(decide (r.getD 2 []= [89])),F.rules.length,n⟩:dz)],rules:=F.rules++xs} R' rows' bY seen)∧(jg {F with bu:=F.bu++ [(⟨x,(if r.getD 0 []=db then 2 else 1:Nat),(decide (r.getD 2 []= [89])),F.rules.length,n⟩:dz)],rules:=F.rules++xs} rows' seen)∧(ed B H w ae)∧(ae.heap[I]? =some (.cells [aR x,.int .i64 ((if r.getD 0 []=db then 2 else 1:Nat):Nat),.bool (decide (r.getD 2 []= [89])),.int .i64 (F.rules.length:Nat),.int .i64 (n:Nat)].toArray 131 (0,0)))∧(Tg ae cD 9 r.length (.slice ar r.length cr)<|r.map str)∧(a3 0= .pointer (some ⟨H.rb,0,none⟩))∧(a3 1= .slice ar r.length cr)∧(a3 4= .pointer (some ⟨I,0,none⟩))∧(a3 102= .int .i64 (n:Nat))∧(a3 103= .int .i64 (i:Nat))∧(n - i=cH)) _ ⟨0,[],rows,ln,{V with v11:=cw},R,ab,gj.start,aa,(by rw [eb]; exact dX),(by rw [eb]; exact ey),(⟨by simp only [bJ,iH,fV]; omega,aD.sl,aD.row,aD.kd,aD.al⟩),em,dg,eK,aa,aa,aa,aa,aa,aa⟩ ?_
 rintro cH a3 ae ⟨i,xs,rows',bY,G,R',hi,aU,fC,cL,av,a9,cP,dr,bo,fq,fr,fu,fs,ft,rfl⟩
 refine fx 0 fq<|fx 1 fr<|fx 4 fu<|fx 102 fs<|fx 103 ft<|sq fun fX ec=>rg aa<|p (lt aa aa)<|nl<|tn<|ec _ _<|sq fun fY ef=>cd aa (fun eW=> ?_) fun eW=> ?_
 refine aO<|tn<|ef _ _<|sq fun fL d1=>aB<|sq fun fN d2=> ?_
 have ax:(fun w'=>Md (fun k=>k=H.rb) ae w') ae.drew:=(Md.refl _ _).drew
 refine bM (fun w'=>Md (fun k=>k=H.rb) ae w') aa wide ax<|hp 0 aa ag (fun _ _=>aH (.pointer<|some ⟨H.rb,0,none⟩) aa) ax<|hp 1 aa ag (fun _ _=>aH (.slice ar r.length cr) aa) ax<|hp 2 aa ag (fun _ _=>a6 dN aa aa ab<|aE.ok (bo.dq.2)<|cY ab) ax<|hp 3 aa ag (fun w' a=>ld cO aa<|da.get (i:=0) (bo.md a<|gz av.cells aw).dq.2 ab) ax<|hp 4 aa ag (fun _ _=>aH (.slice ar r.length cr) aa) ax<|hp 5 aa ag (fun _ _=>a6 dN aa aa ab<|aE.ok (bo.dq.2)<|cY ab) ax<|hp 6 aa ag (fun w' a=>ld cO aa<|da.get (i:=1) (bo.md a<|gz av.cells aw).dq.2 ab) ax<|he 7 aa ag<|oE (L:= [str (r.getD 0 []),str (r.getD 1 [])]) ka aa aa aa aa fun dI cx f6 cS dO=> ?_
 have ah:Wk ae cx:=ig cS.md
 have cQ:=cP.trans<|Wk.mw ah
 have cZ:(fun w'=>Md (fun k=>k=H.rb) ae w') cx:=ax.trans' cS.md fun _ _ h=>h.elim
 refine ⟨cZ,?_⟩
 refine p9 8 aa ag aa (cI wh (x3 B H {F with bu:=F.bu++ [(⟨x,(if r.getD 0 []=db then 2 else 1:Nat),(decide (r.getD 2 []= [89])),F.rules.length,n⟩:dz)],rules:=F.rules++xs} R' rows' bY seen [r.getD 0 [],r.getD 1 []] dI 2 _ _ cx (av.wk ah) (Tg.yv dO aa) aa aw fun q cu=>(a9.row q cu).2.1) aa fun gw az eE=> ?_) (fun c w' A aS J=>by
  obtain ⟨h1,h2⟩:=A
  have hm:=cQ.trans<|ed.rb (av.wk ah) h2
  rcases h1 with ⟨rfl,h3⟩ | ⟨bZ,aX,rest,rfl,h4,h3⟩
  exact ⟨_,_,wU ac aW aV bA (aU.ends ab),h3,hm⟩
  exact ⟨_,_,wU ac aW aV bA (aU.other ab h4),h3,hm⟩)
 obtain ⟨bZ,aX,rest,rfl,du,⟨aC,bj⟩,hT15,hM15⟩:=eE
 obtain ⟨dH,dJ,rfl⟩:=hT15.slice
 have aK:=(cL.wk ah).rb (av.wk ah) hM15
 have cR:=cQ.trans<|ed.rb (av.wk ah) hM15
 have fd:aX≠[]∧aX.length≤70000∧∀ x∈aX,x.length≤70000:=a9.row (bZ,aX)<|by simp
 have a8:=jg.pT a9
 have eV:=a9.len
 simp only [bV,bJ] at eV
 have eL:=(bo.wk ah).md hM15<|gz (av.wk ah).cells aw
 have ck:=hM15.aB (Wk.aB ah dr) fun h=>by have h1:=(av.wk ah).cells; rw [← h,Wk.aB ah dr] at h1; cases h1
 have c0:(fun w'=>Md (fun k=>k=H.rb) ae w') az:=cZ.trans' hM15 fun _ _ h=>h
 refine ⟨c0,?_⟩
 refine hp 9 aa ag (fun _ _=>aA) c0<|hn ag<|tn<|d2 _ _<|sq fun fO d3=> ?_
 have bx:¬(G.v12.ownBlock=some H.rb):=c8 aK.ea bj.cells aw
 have ct:¬(G.v12.ownBlock=some H.fb):=c8 aK.ea aK.cells aw
 have e2:¬(G.v12.ownBlock=some I):=c8 aK.ea ck aw
 have M:(fun w'=>Md (fun k=>G.v12.ownBlock=some k) az w') az.drew:=(Md.refl _ _).drew
 refine eB (fun w'=>Md (fun k=>G.v12.ownBlock=some k) az w') 21 aa wide M<|bX 0 aa ag (fun _=>aH (.pointer<|some ⟨H.rb,0,none⟩) aa) (fun _=>M)<|bX 1 aa ag (fun _=>nc aa) (fun _=>M)<|bX 2 aa ag (fun _=>fa fJ aa) (fun _=>M)<|iZ 3 aa ag (fun w' a=>ld eF aa<|Md.aI a ((aY bj.cells).trans aa) bx) M<|bX 4 aa ag (fun _=>aH (.pointer<|some ⟨H.rb,0,none⟩) aa) (fun _=>M)<|bX 5 aa ag (fun _=>nc aa) (fun _=>M)<|bX 6 aa ag (fun _=>fa fJ aa) (fun _=>M)<|iZ 7 aa ag (fun w' a=>ld eF aa<|Md.aI a ((aY bj.cells).trans aa) bx) M<|bX 8 aa ag (fun _=>nc aa) (fun _=>M)<|bX 9 aa ag (fun _=>fa fj aa) (fun _=>M)<|bX 10 aa ag (fun _=>fa lV aa) (fun _=>M)<|iZ 11 aa ag (fun w' a=>ld kh aa<|Md.aI a ((aY aK.cells).trans aa) ct) M<|bX 12 aa ag (fun _=>aH (.pointer<|some ⟨H.rb,0,none⟩) aa) (fun _=>M)<|iZ 13 aa ag (fun w' a=>cz qZ aa (aa) fun j e1=>bw.bm ⟨_,Md.aB a ck e2⟩ j) M<|bX 14 aa ag (fun _=>mv) (fun _=>M) ?_
 refine Db 15 aa ag aa (cI If (se B H {F with bu:=F.bu++ [(⟨x,(if r.getD 0 []=db then 2 else 1:Nat),(decide (r.getD 2 []= [89])),F.rules.length,n⟩:dz)],rules:=F.rules++xs} G aC rest bZ seen (⟨x,(if r.getD 0 []=db then 2 else 1:Nat),(decide (r.getD 2 []= [89])),F.rules.length,n⟩:dz) aX B dH dJ az.drew (aK.wk (Md.refl _ _).drew) (bj.wk (Md.refl _ _).drew) a8 (by show (if r.getD 0 []=db then 2 else 1)=1∨(if r.getD 0 []=db then 2 else 1)=2; split <;> simp) (hT15.wk (Md.refl _ _).drew) fd.2) aa fun gv fE ez=> ?_) fun c w' A aS J=>by obtain ⟨e,he,h,h2⟩:=A; exact ⟨_,_,wU ac aW aV bA (aU.bad ab du he),h,cR.trans<|Wk.mw<|ig h2⟩
 obtain ⟨q,cu,fc,⟨vn,rfl,de⟩,bF⟩:=ez
 obtain ⟨a4,a5,rfl⟩:=de.slice
 have bF:=ig bF
 have c1:(fun w'=>Md (fun k=>G.v12.ownBlock=some k) az w') fE:=Md.mono bF fun _ _ h=>h.elim
 refine ⟨c1,?_⟩
 refine iY 16 aa ag<|mu qi aa aa aa fun fZ fF f5 cb dM=> ?_
 have ba:=bF.trans cb.md
 have U:=aK.wk ba
 have cW:=bj.wk ba
 have eM:=eL.wk ba
 have dh:=Wk.aB ba ck
 have eT:=de.wk cb.md
 have gn:=(cy.1 cW.cells).1
 have c2:(fun w'=>Md (fun k=>G.v12.ownBlock=some k) az w') fF:=c1.trans' cb.md fun _ _ h=>h.elim
 refine ⟨c2,?_⟩
 refine iY 17 aa ag<|ap qi (U.ea) aa ab aa (aE.fA dM) (aa) (aa) (by simp only [bJ]; omega) (by simp only [bJ]; omega) fun v131 dy dl aL gr gb=> ?_
 have en:=(cR.trans<|Wk.mw ba).trans<|Mw.of aL (TF.own U.ea aw) fun k hk=>(dd U.ea hk).1
 have eI:=bW.own cW U.ea aL aw
 have bt:=aL.aB U.cells<|c8 U.ea U.cells aw
 have cl:=aL.aB dh<|c8 U.ea dh aw
 have eN:=eM.md aL<|iQ U.ea aw
 have e4:bp dy B 77 7 v131 ((F.rules++xs)++ [q]).length (eC<|((F.rules++xs)++ [q]).zip<|G.rn++ [.slice a4 q.next.length a5]):=by
  have fD:(F.rules++xs).length=G.rn.length:=by have :=U.nx.1; rw [eX] at this; exact this.symm
  rw [List.zip_append fD,show eC ((F.rules++xs).zip G.rn++ [q].zip [.slice a4 q.next.length a5])=eC ((F.rules++xs).zip G.rn)++dC (q,.slice a4 q.next.length a5) from by simp [eC],bJ]
  exact dl
 have bN:(fun w'=>Md (fun k=>G.v12.ownBlock=some k) az w') dy:=c2.trans' aL fun _ _ h=>h
 refine ⟨bN,?_⟩
 refine bX 18 aa ag (fun _=>nc aa) (fun _=>bN)<|bX 19 aa ag (fun _=>fa fj aa) (fun _=>bN)<|bX 20 aa ag (fun _=>fa lV aa) (fun _=>bN)<|c5 21 aa ag ag<|dF Bx aa aa (v:=v131) (ej dl) bt (by show _ < 14; omega) fun aZ aj b8=> ?_
 have dZ:=cK.Hs (x:=q) (vx:= .slice a4 q.next.length a5) U eT aL e4 aj b8
 have aP:=bW.tQ eI bt aj
 have di:=aj.aB cl fun h=>by rw [h,bt] at cl; cases cl
 have eO:=eN.md aj<|gz bt aw
 have eo:=en.trans<|Mw.of aj (TF.eq (dt bt) aw) fun k hk=>hk ▸ U.lo.1
 refine eA ag<|tn<|d3 _ _ ?_
 have an:(fun w'=>Md (fun k=>aC.vn.ownBlock=some k) aZ w') aZ.drew:=(Md.refl _ _).drew
 refine eB (fun w'=>Md (fun k=>aC.vn.ownBlock=some k) aZ w') 13 aa wide an<|bX 0 aa ag (fun _=>aH (.pointer<|some ⟨H.rb,0,none⟩) aa) (fun _=>an)<|bX 1 aa ag (fun _=>aH (.pointer<|some ⟨H.rb,0,none⟩) aa) (fun _=>an)<|bX 2 aa ag (fun _=>nc aa) (fun _=>an)<|bX 3 aa ag (fun _=>fa xJ aa) (fun _=>an)<|iZ 4 aa ag (fun w' a=>ld tk aa<|Md.aI a ((aY aP.cells).trans aa)<|c8 aP.on aP.cells aw) an<|bX 5 aa ag (fun _=>aH (.pointer<|some ⟨H.rb,0,none⟩) aa) (fun _=>an)<|bX 6 aa ag (fun _=>nc aa) (fun _=>an)<|bX 7 aa ag (fun _=>fa rL aa) (fun _=>an)<|iZ 8 aa ag (fun w' a=>ld bK aa<|Md.aI a ((aY aP.cells).trans aa)<|c8 aP.on aP.cells aw) an<|iY 9 aa ag<|lf o0 aa aa fun f1 dA f7 eu dP=> ?_
 have aF:=ig eu.md
 have Y:=aP.wk aF
 have cM:=dZ.wk aF
 have gp:=(cy.1 Y.cells).1
 have c3:(fun w'=>Md (fun k=>aC.vn.ownBlock=some k) aZ w') dA:=Md.mono aF fun _ _ h=>h.elim
 refine ⟨c3,?_⟩
 refine iY 10 aa ag<|ap o0 (Y.on) aa ab aa (aE.fA dP) (aa) (aa) (by simp only [bJ]; omega) (by simp only [bJ]; omega) fun v145 b1 dm aM gt gc=> ?_
 have er:=(eo.trans<|Wk.mw aF).trans<|Mw.of aM (TF.own Y.on aw) fun k hk=>(dd Y.on hk).1
 have dc:TF dA [5] (fun k=>aC.vn.ownBlock=some k):=TF.own Y.on aw
 have cN:=cM.md aM dc aw fun h=>by obtain ⟨f,cq,_⟩:=cM.cm; exact dc.no (dw cq) aw h
 have bv:=aM.aB Y.cells<|c8 Y.on Y.cells aw
 have cn:=aM.aB (Wk.aB aF di)<|c8 Y.on (Wk.aB aF di) aw
 have eS:=(eO.wk aF).md aM<|iQ Y.on aw
 have e5:bp b1 B 3 1 v145 ((F.rules++xs)++ [q]).length (((F.rules++xs)++ [q]).map fun r=>gG .i64 (r.line:Nat)):=by
  rw [iJ,bJ]
  show bp b1 B 3 1 v145 _ (_++ [gG .i64 (q.line:Nat)])
  rw [fc]
  exact dm
 have ch:(fun w'=>Md (fun k=>aC.vn.ownBlock=some k) aZ w') b1:=c3.trans' aM fun _ _ h=>h
 refine ⟨ch,?_⟩
 refine bX 11 aa ag (fun _=>nc aa) (fun _=>ch)<|bX 12 aa ag (fun _=>fa xJ aa) (fun _=>ch)<|c5 13 aa ag ag<|dF Bz aa aa (v:=v145) (ej dm) bv (by show _ < 7; omega) fun b0 bd dL=> ?_
 have c9:TF b1 [197] (fun k=>k=H.rb):=TF.eq (dt bv) aw
 have d0:=cN.md bd c9 aw fun h=>by obtain ⟨f,cq,_⟩:=cN.cm; exact c9.no (dw cq) aw h
 exact eA ag<|bn<|tn<|d1 _ _<|rg aa<|p (ad aa aa<|cg ab)<|p mv<|nl<|tn<|⟨_,ab,i+1,xs++ [q],rest,bZ,{G with v12:=v131,rn:=G.rn++ [.slice a4 q.next.length a5]},{aC with vn:=v145},ab,(by rw [show n - (i+1)=n - i - 1 by omega]; exact aU.step ab du cu),(by rw [bJ,fC]; rfl),(by rw [← dK]; exact d0),(by rw [← dK]; exact bW.OW (q:=q) Y aM e5 bd dL aa fun _=>rfl),(⟨by simp only [bJ,iH]; omega,a8.sl,a8.row,a8.kd,a8.al⟩),(er.trans<|Mw.of bd (TF.eq (dt bv) aw) fun k hk=>hk ▸ Y.lo.1),(bd.aB cn fun h=>by rw [h,bv] at cn; cases cn),(eS.md bd<|gz bv aw),aa,aa,aa,aa,aa,aa⟩
 refine ext<|te _<|te _<|be<|hU<|f0 aa ?_
 rw [show n - i=0 by omega] at aU
 exact ⟨aa,_,rows',bY,Jy ac aW aV bA aU.done,⟨G,R',cL,av,a9⟩,cP⟩
end Go.Hb.ou
end
section
namespace Go.Hb
open Go.Hb.fL Go.Hb.ml Go.Hb.ou Go.Hb.ov
def pP:dz:=⟨0,0,false,0,0⟩
theorem L5 {x:Nat} :∀ {cs:List dz} {i:Nat},cs.findIdx? (fun c=>decide (c.flag=x))=some i→∃ c,cs[i]? =some c∧dx cs x=some c:=by
 intro cs
 induction cs with
 | nil=>intro i h; simp at h
 | cons a l C=>
   intro i h
   rw [List.findIdx?_cons] at h
   unfold dx
   rw [Gi]
   by_cases q:a.flag=x
   · simp only [q,decide_true,if_true] at h ⊢
     cases h
     exact ⟨a,aa,aa⟩
   · simp only [q,decide_false] at h ⊢
     simp only [Bool.false_eq_true,if_false,Option.map_eq_some_iff] at h
     obtain ⟨j,A,rfl⟩:=h
     obtain ⟨c,h1,h2⟩:=C A
     exact ⟨c,by simpa using h1,h2⟩
theorem O7 {F:aG} {x:Nat} (h:x=F.sp.getD 0 0):ll F x=true :=by unfold ll; rw [decide_eq_true h]; rfl
theorem O8 {F:aG} {x:Nat} (h:(dx F.bu x).isSome=true) (hk:((dx F.bu x).getD pP).kind=2):ll F x=true :=by
 unfold ll
 obtain ⟨c,a⟩:=nI.1 h
 rw [a] at hk ⊢
 simp only [GN] at hk
 simp [hk]
theorem yx {F:aG} {x:Nat} (a:x≠F.sp.getD 0 0) (h:(dx F.bu x).isSome=true) (hk:((dx F.bu x).getD pP).kind≠2):ll F x=false :=by
 unfold ll
 obtain ⟨c,i⟩:=nI.1 h
 rw [i] at hk ⊢
 simp only [GN] at hk
 rw [decide_eq_false a]
 simp [hk]
theorem yy {F:aG} {x:Nat} (a:x≠F.sp.getD 0 0) (h:(dx F.bu x).isSome=false):ll F x=false :=by
 unfold ll
 rw [decide_eq_false a]
 cases hc:dx F.bu x with
 | none=>rfl
 | some c=>rw [hc] at h; cases h
theorem pK {F:aG} {q:cG} {j:Nat} (a:j < q.next.length) (h:ll F (q.next.getD j 0)=false):mq F q=true :=by
 unfold mq
 rw [List.any_eq_true]
 exact ⟨_,e6 a,by rw [h]; rfl⟩
theorem HD {F:aG} {q:cG} (h:∀ j,j < q.next.length→ll F (q.next.getD j 0)=true):mq F q=false :=by
 unfold mq
 rw [Gd]
 intro x c
 obtain ⟨j,a,rfl⟩:=oR 0 c
 rw [h j a]; simp
theorem pY {p:cG→Bool} {q:cG} :∀ {l:List cG} {i:Nat},(∀ j c,j < i→l[j]? =some c→p c=false)→l[i]? =some q→p q=true→l.find? p=some q:=by
 intro l
 induction l with
 | nil=>intro i _ h; simp at h
 | cons a l E=>
   intro i A hi hp
   rw [Gi]
   cases i with
   | zero=>simp only [List.getElem?_cons_zero,Option.some.injEq] at hi; subst hi; rw [hp]
   | succ i=>
     rw [A 0 a ab rfl]
     exact E (i:=i) (fun j c G C=>A (j+1) c ab<|by simpa using C) (by simpa using hi) hp
theorem L9 {p:cG→Bool} {l:List cG} (h:∀ j c,j < l.length→l[j]? =some c→p c=false):l.find? p=none:=by
 rw [zK]
 intro q i
 obtain ⟨j,a⟩:=List.getElem?_of_mem i
 rw [h j q (eH.1 a).1 a]; simp
theorem L7 {x:Nat} {cs:List dz} (h:cs.findIdx? (fun c=>decide (c.flag=x))=none):dx cs x=none:=by
 rw [Gj] at h
 unfold dx
 rw [zK]
 intro c a
 simpa using h c a
theorem xp (B fb mc:Nat) (F:aG) (V:dQ) (x:Nat) (w:World) (q:cK w B fb mc F V) (aM:F.bu.length≤70000):
 bd ao 137 (a7 [aW fb,aR x]) w (fun v w'=>v= .tuple #[.agg (lR<|(dx F.bu x).getD pP).toArray,.bool (dx F.bu x).isSome]∧Wk w w'):=by
 obtain ⟨ag,ah,O⟩:=cU q.fz
 have J:=q.fz
 rw [O] at J
 have aq:Hb.aI w.heap fb 11=some (.slice ag F.bu.length ah):=by rw [← O]; exact (aY q.cells).trans rfl
 obtain ⟨f,aw,ax⟩:=q.cm
 obtain ⟨iv,ob,aB,aD,G⟩:∃ (iv:Nat) (ob:Bool),(f<|aR x).getD (.int .i64 0)=aj iv∧(f<|aR x).isSome=ob∧((ob=false∧dx F.bu x=none)∨(ob=true∧∃ c,F.bu[iv]? =some c∧dx F.bu x=some c)):=by
  rw [ax x]
  cases hfi:F.bu.findIdx? (fun c=>decide (c.flag=x)) with
  | none=>exact ⟨0,false,rfl,rfl,.inl ⟨rfl,L7 hfi⟩⟩
  | some i=>exact ⟨i,true,rfl,rfl,.inr ⟨rfl,L5 hfi⟩⟩
 refine enter func137 aa ntmps137 aa<|ak fun U=>e<|al qz fun aJ aN aK a E=>ay<|U<|az fun Y=>az fun Z=>rg aa<|au (aW fb)<|p (lU sw aa aa)<|nl<|Z<|cf (aa)<|aO<|Y<|ak fun ac=>au (aW fb)<|p (nc aa)<|p (fa Cl aa)<|p (ld qY aa<|Wk.aI a.md<|(aY q.cells).trans aa)<|au (aR x)<|p (Di o4 mS oP (aw.wk a.md) aa aa (⟨_,aa⟩) (aB)<|aD)<|p mv<|p (xt aa aa)<|p (xt aa aa)<|p aA<|ay<|ac<|az fun ad=>ak fun ae=>p mv<|p (no aa)<|nl<|ae<|cb aa (fun C=> ?_) fun C=> ?_
 have aF:ob=false :=by simpa using C
 have av:dx F.bu x=none:=by rcases G with ⟨_,h⟩ | ⟨h,_⟩; exact h; rw [aF] at h; cases h
 exact ak fun A=>p (cT (ps:= []) (L:= [.int .u16 0,.int .i64 0,.bool false,.int .i64 0,.int .i64 0]) yR aa<|aa)<|e<|ca oG aa aa aa aa (E) (by simp) fun aP an ai=>ay<|A<|rt<|tr<|ew aa (dB (cs:=lR pP) aa qZ aa fun j aC=>ai.bm j) dX<|⟨by rw [av]; rfl,a.md.trans' an fun k hk h=>by omega⟩
 have aH:ob=true :=by simpa using C
 obtain ⟨c,I,ar⟩:∃ c,F.bu[iv]? =some c∧dx F.bu x=some c:=by rcases G with ⟨h,_⟩ | ⟨_,h⟩; rw [aH] at h; cases h; exact h
 have aL:=(eH.1 I).1
 have M:=aX J a.md
 exact aO<|ad<|ak fun A=>au (aW fb)<|p (nc aa)<|p (fa fj aa)<|p (fa p6 aa)<|p (ld tj aa<|Wk.aI a.md aq)<|p mv<|p (a6 LV aa aa ab<|aE.ok ((aV M).2) fun h=>by have :=congrArg k3 h; rw [show (lg F.bu).length=F.bu.length*5 from nR (f:=lR) (m:=5) (fun _=>rfl) _] at this; simp at this; omega)<|p (cz qZ aa (aa)<|gn (f:=lR) (m:=5) (fun _=>rfl) (aV M).2 I)<|e<|ca oG aa aa aa aa (E) (by simp) fun aQ ap am=>ay<|A<|rt<|ew aa (dB (cs:=lR c) aa qZ aa fun j aC=>am.bm j) dX<|⟨by rw [ar]; rfl,a.md.trans' ap fun k hk h=>by omega⟩
theorem Jn (B:Nat) (H:bT) (F:aG) (rows:List Rw) (ln:Nat) (seen:List Tx) (w:World) (bx:St w B H F rows ln seen) (bI:∀ q∈F.rules,q.next.length≤64):
 ee ao 86 (a7 [.pointer (some ⟨H.rb,0,none⟩)]) w (fun v w'=>v= .tuple #[]∧F.rules.find? (mq F)=none∧(∃ V R' au,cK w' B H.fb H.mc F V∧bW w' B H F R' rows au seen)∧ed B H w w') (fun c w'=> ∃ q,F.rules.find? (mq F)=some q∧c=gB 47 q.line 118∧ed B H w w'):=by
 obtain ⟨V,R,M,ap,a4⟩:=bx
 obtain ⟨a12,ki,aP⟩:=cU M.ea
 have bJ:=M.ea
 rw [aP] at bJ
 have bB:Hb.aI w.heap H.fb 12=some (.slice a12 F.rules.length ki):=by rw [← aP]; exact (aY M.cells).trans rfl
 obtain ⟨vr,vs,vn⟩:=R
 obtain ⟨ak,cv,b6⟩:=cU ap.on
 obtain rfl :vn= .slice ak F.rules.length cv:=b6
 have cw:=a4.len
 have cx:=ap.lo
 refine iL func86 aa ntmps86 aa<|sq fun cb bf=>rg aa<|p (aH (.pointer<|some ⟨H.rb,0,none⟩) aa)<|p (nc aa)<|p (fa fJ aa)<|p (ld eF aa<|(aY ap.cells).trans aa)<|p (nc aa)<|p (fa fj aa)<|p (fa lV aa)<|p (ld kh aa<|bB)<|p (bO qp aa aa)<|p mv<|nl<|tn<|bf _ _<|aB<|lp (fun Z aj ai=> ∃ (i au:Nat),(i≤F.rules.length)∧(∀ j q,j < i→F.rules[j]? =some q→mq F q=false)∧(cK ai B H.fb H.mc F V)∧(bW ai B H F ⟨vr,vs,.slice ak F.rules.length cv⟩ rows au seen)∧(ed B H w ai)∧(aj 0= .pointer (some ⟨H.rb,0,none⟩))∧(aj 15= .slice a12 F.rules.length ki)∧(aj 16= .int .i64 (F.rules.length:Nat))∧(aj 17= .int .i64 (i:Nat))∧(F.rules.length - i=Z)) _ ⟨0,ln,ab,(fun j q aX=>by omega),M,ap,(Md.refl _ _),aa,aa,aa,aa,aa⟩ ?_
 rintro Z aj ai ⟨i,au,hi,I,an,aF,aS,bQ,bS,bU,bV,rfl⟩
 refine fx 0 bQ<|fx 15 bS<|fx 16 bU<|fx 17 bV<|sq fun ch bi=>rg aa<|p (lt aa aa)<|nl<|tn<|bi _ _<|sq fun ci bj=>cd aa (fun bD=> ?_) fun bD=> ?_
 refine aO<|tn<|bj _ _<|sq fun ck bk=>aB<|sq fun cm bl=> ?_
 have aL:=an.ea
 rw [aP] at aL
 have aW:i < F.rules.length:=ab
 obtain ⟨vn,b5,aK⟩:=dm.get an.nx (i:=i)<|by rw [eX]; exact aW
 obtain ⟨q,A⟩:∃ q,F.rules[i]? =some q:=⟨_,cj aW⟩
 have bN:(F.rules.map (·.next)).getD i []=q.next:=by rw [cX,gu,A]; rfl
 rw [bN] at aK
 have cC:=bI q<|gV A
 obtain ⟨ax,ay,rfl⟩:=aK.slice
 have aZ:(F.rules.zip V.rn)[i]? =some (q,.slice ax q.next.length ay):=by rw [List.getElem?_zip_eq_some]; exact ⟨A,b5⟩
 have a0:(eC<|F.rules.zip V.rn).length=(F.rules.zip V.rn).length*7:=nR (f:=dC) (m:=7) (fun _=>rfl) _
 have bH:(F.rules.map fun r=>gG .i64 (r.line:Nat))[i]? =some (.int .i64 (q.line:Nat)):=by rw [gu,A]; rfl
 refine rg aa<|p (aH (.int .i64 (i:Nat)) aa)<|p (a6 km aa aa ab<|aE.ok ((aV aL).2) (fun h=>by rw [h] at a0; have h2:0=(F.rules.zip V.rn).length*7:=a0; have h3:=(eH.1 aZ).1; omega)) ?_
 refine p (cz jF aa (aa)<|gn (f:=dC) (m:=7) (fun _=>rfl) (aV aL).2 aZ)<|e<|al nv fun cr cG ct aU a8=> ?_
 skip
 refine p (bZ (.int .i64 (i:Nat)) aa)<|e<|ca lT aa aa aa aa (a8) (by simp) fun b9 br a5=> ?_
 have am:Wk ai b9:=aU.md.trans' br fun k hk h=>by omega
 have bc:=an.wk am
 have C:=aF.wk am
 have cD:=aU.size
 have cA:=(cy.1 aF.cells).1
 refine nl<|tn<|bl _ _<|sq fun cn bm=>rg aa<|p (aH (.pointer<|some ⟨H.rb,0,none⟩) aa)<|p (aH (.pointer<|some ⟨H.rb,0,none⟩) aa)<|p (nc aa)<|p (fa xJ aa)<|p (ld tk aa<|(aY C.cells).trans aa)<|p (aH (.int .i64 (i:Nat)) aa)<|p (a6 pX aa aa ab<|aE.ok ((aV C.on).2)<|by simp; intro h; rw [h] at A; simp at A)<|p (ld bK aa<|aE.jj (aV C.on).2 bH)<|p (nc aa)<|p (fa rL aa)<|e<|dF lj aa aa (v:= .int .i64 (q.line:Nat)) aa C.cells (by show _ < 7; decide) fun cL ae bb=> ?_
 have bw:=C.cB (R':=⟨vr,vs,.slice ak F.rules.length cv⟩) (ln':=q.line) ae bb rfl C.rws C.rt
 have bd:=bc.rb C ae
 have bA:=ae.B a5 fun h=>by omega
 have bz:=(aK.wk am).md ae<|gz C.cells aw
 have bt:=(aS.trans<|Wk.mw am).trans<|ed.rb C ae
 refine nl<|tn<|bm _ _<|sq fun co bo=>rg aa<|p (fa nS aa)<|p (ld k8 aa<|(bA.aI 6).trans aa)<|p (bO mN aa aa)<|p mv<|nl<|tn<|bo _ _<|aB<|lp (fun Z J Y=> ∃ (j:Nat),(j≤q.next.length)∧(∀ ah,ah < j→ll F (q.next.getD ah 0)=true)∧(cK Y B H.fb H.mc F V)∧(bW Y B H F ⟨vr,vs,.slice ak F.rules.length cv⟩ rows q.line seen)∧(ed B H w Y)∧(Tg Y B 51 q.next.length (.slice ax q.next.length ay)<|q.next.map aR)∧(J 0= .pointer (some ⟨H.rb,0,none⟩))∧(J 15= .slice a12 F.rules.length ki)∧(J 16= .int .i64 (F.rules.length:Nat))∧(J 17= .int .i64 (i:Nat))∧(J 33= .slice ax q.next.length ay)∧(J 34= .int .i64 (q.next.length:Nat))∧(J 35= .int .i64 (j:Nat))∧(q.next.length - j=Z)) _ ⟨0,ab,(fun ah bG=>by omega),bd,bw,bt,bz,aa,aa,aa,aa,aa,aa,aa,aa⟩ ?_
 rintro Z J Y ⟨j,aX,aM,aC,aJ,aT,aq,bX,bY,b0,b1,b2,b3,b4,rfl⟩
 refine fx 0 bX<|fx 15 bY<|fx 16 b0<|fx 17 b1<|fx 33 b2<|fx 34 b3<|fx 35 b4<|sq fun cp bp=>rg aa<|p (lt aa aa)<|nl<|tn<|bp _ _<|sq fun cq bq=>cd aa (fun bF=> ?_) fun bF=> ?_
 refine aO<|tn<|bq _ _<|sq fun cc aD=>aB<|sq fun ce bg=> ?_
 have b7:(q.next.map aR)[j]? =some (aR<|q.next.getD j 0):=by rw [gu,cX,cj (by omega :j < q.next.length)]; rfl
 refine rg aa<|p (a6 bE aa aa ab<|aE.ok (aq.dq.2)<|cY ab)<|p (ld bP aa<|aE.jj aq.dq.2 b7)<|p aA<|nl<|tn<|bg _ _<|sq fun cf bh=>rg aa<|p (aH (.pointer<|some ⟨H.rb,0,none⟩) aa)<|p (nc aa)<|p (fa fJ aa)<|p (ld eF aa<|(aY aJ.cells).trans aa)<|p mv<|e<|cl vX (xp B H.fb H.mc F V (q.next.getD j 0) _ aC ab) aa fun cF cH bv=> ?_
 obtain ⟨rfl,aQ⟩:=bv
 have cE:=aQ.size
 refine p mv<|p (xt aa aa)<|p (xt aa aa)<|e<|al qz fun cs cJ cu bu a9=>e<|ca oG aa aa aa aa (a9) (by simp) fun av bs ba=> ?_
 have ac:Wk Y av:=(aQ.trans bu.md).trans' bs fun k hk h=>by omega
 have az:=aC.wk ac
 have U:=aJ.wk ac
 have E:=aT.trans<|Wk.mw ac
 refine p aA<|nl<|tn<|bh _ _<|rg aa<|p (aH (.pointer<|some ⟨H.rb,0,none⟩) aa)<|p mv<|p (aH (.pointer<|some ⟨H.rb,0,none⟩) aa)<|p (nc aa)<|p (fa fJ aa)<|p (ld eF aa<|(aY U.cells).trans aa)<|p (nc aa)<|p (fa fj aa)<|p (fa tX aa)<|p (kM q7 aa aa ab)<|p (ld bP aa<|(aY az.cells).trans aa)<|p (bR aa aa)<|p mv<|gs (t:=60) aa (fun O=> ?_) fun O=> ?_
 refine sk aa aa aa aa<|sk aa aa aa aa<|uA aa aa aa<|uA aa aa aa<|uA aa aa aa<|sk aa aa aa aa<|p (bL aa) ?_
 refine eP aa (cI fM (fQ H.rb q.line _ 118 av U.dR aw) aa fun a1 a2 ag=> ?_) (fun c w' a a3 M=>by
  first
   | exact absurd a.2.1 aw
   | exact ⟨q,pY I A (pK (j:=j) ab<|yx (fun h=>O<|by rw [h]) G<|by have :=of_decide_eq_false a.2.1; omega),a.1,by rw [a.2.2]; exact E⟩
   | exact ⟨q,pY I A (pK (j:=j) ab<|yy (fun h=>O<|by rw [h])<|by simpa using G),a.1,by rw [a.2.2]; exact E⟩)
 obtain ⟨rfl,ar,rfl⟩:=ag
 exact nl<|bn<|tn<|aD _ _<|rg aa<|p (ad aa aa<|cg ab)<|p mv<|nl<|tn<|⟨_,ab,j+1,ab,(fun k hk=>by rcases gI k j with h | h <;> first | exact aM k h | (rw [show k=j by omega]; exact O7 ab)),az,U,E,(aq.wk ac),aa,aa,aa,aa,aa,aa,aa,aa⟩
 refine pg aa aa aa mv<|pg aa aa aa mv<|gb (t:=62) aa (fun G=> ?_) fun G=> ?_
 refine pg aa aa aa (fa rI aa)<|pg aa aa aa (ld bK aa<|(ba.aI 1).trans aa)<|pg aa aa aa (bR aa aa)<|pg aa aa aa (bL aa)<|p (bC aa) ?_
 refine eP aa (cI fM (fQ H.rb q.line _ 118 av U.dR aw) aa fun a1 a2 ag=> ?_) (fun c w' a a3 M=>by
  first
   | exact absurd a.2.1 aw
   | exact ⟨q,pY I A (pK (j:=j) ab<|yx (fun h=>O<|by rw [h]) G<|by have :=of_decide_eq_false a.2.1; omega),a.1,by rw [a.2.2]; exact E⟩
   | exact ⟨q,pY I A (pK (j:=j) ab<|yy (fun h=>O<|by rw [h])<|by simpa using G),a.1,by rw [a.2.2]; exact E⟩)
 obtain ⟨rfl,ar,rfl⟩:=ag
 exact nl<|bn<|tn<|aD _ _<|rg aa<|p (ad aa aa<|cg ab)<|p mv<|nl<|tn<|⟨_,ab,j+1,ab,(fun k hk=>by rcases gI k j with h | h <;> first | exact aM k h | (rw [show k=j by omega]; exact O8 G<|by have :=of_decide_eq_true ar; omega)),az,U,E,(aq.wk ac),aa,aa,aa,aa,aa,aa,aa,aa⟩
 refine sk aa aa aa aa<|sk aa aa aa aa<|sk aa aa aa aa<|pg aa aa aa (bC aa)<|p (bC aa) ?_
 refine eP aa (cI fM (fQ H.rb q.line _ 118 av U.dR aw) aa fun a1 a2 ag=> ?_) (fun c w' a a3 M=>by
  first
   | exact absurd a.2.1 aw
   | exact ⟨q,pY I A (pK (j:=j) ab<|yx (fun h=>O<|by rw [h]) G<|by have :=of_decide_eq_false a.2.1; omega),a.1,by rw [a.2.2]; exact E⟩
   | exact ⟨q,pY I A (pK (j:=j) ab<|yy (fun h=>O<|by rw [h])<|by simpa using G),a.1,by rw [a.2.2]; exact E⟩)
 obtain ⟨rfl,ar,rfl⟩:=ag
 exact nl<|bn<|tn<|aD _ _<|rg aa<|p (ad aa aa<|cg ab)<|p mv<|nl<|tn<|absurd ar aw
 exact ext<|te _<|te _<|be<|bn<|tn<|bk _ _<|rg aa<|p (ad aa aa<|cg ab)<|p mv<|nl<|tn<|⟨_,ab,i+1,q.line,ab,(fun k b8 hk aN=>by rcases gI k i with h | h <;> first | exact I k b8 h aN | (rw [show k=i by omega,A] at aN; cases aN; exact HD fun ah bG=>aM ah ab)),aC,aJ,aT,aa,aa,aa,aa,aa⟩
 refine ext<|te _<|te _<|be<|hU<|f0 aa ?_
 exact ⟨aa,L9 (fun j q aX bM=>I j q ab bM),⟨V,_,_,an,aF⟩,aS⟩
end Go.Hb
end
section
namespace Go.Hb
open Go.Hb.fL Go.Hb.ml
def Nx (F:aG):Prop :=(∀ l∈F.aliases,l.length≤64)∧∀ q∈F.rules,q.next.length≤64
theorem xT {α:Type} {hd:List Tx} {rd:Nat→List Tx→Except Nat α} {eof:Nat} :∀ (n:Nat) (rows:List Rw) (r:List α×List Rw),group hd rd eof n rows= .ok r→∀ x∈r.1,∃ ln row,rd ln row= .ok x:=by
 intro n
 induction n with
 | zero=>intro rows r h; simp only [group,o6] at h; subst h; intro x a; cases a
 | succ n c=>
   intro rows r h
   cases rows with
   | nil=>simp [group] at h
   | cons q rows=>
     obtain ⟨ln,row⟩:=q
     simp only [group] at h
     split at h
     · cases h
     · cases hr:rd ln row with
       | error e=>rw [hr] at h; cases h
       | ok y=>
         rw [hr] at h
         simp only at h
         cases hg:group hd rd eof n rows with
         | error e=>rw [hg] at h; cases h
         | ok i=>
           rw [hg] at h
           simp only [o6] at h
           subst h
           intro x a
           rcases eY.1 a with a | a
           · exact ⟨ln,row,by rw [a]; exact hr⟩
           · exact c rows i hg x a
theorem Cx {kind:Nat} {s:Tx} {l:List Nat} (h:jZ kind s= .ok l):l.length≤64:=by
 unfold jZ at h
 split at h
 · cases h
 · rename_i a
   cases h
   exact (Cu<|lE.1 a).1
theorem Hd {kind ln:Nat} {row:List Tx} {l:List Nat} (h:k9 kind ln row= .ok l):l.length≤64:=by
 unfold k9 at h
 split at h
 · cases h
 · exact Cx h
theorem xy {kind:Nat} {al:List (List Nat)} {s:Tx} {l:List Nat} (a:∀ l∈al,l.length≤64) (h:fy kind al s= .ok l):l.length≤64:=by
 unfold fy at h
 split at h
 · exact Cx h
 · split at h
   · cases h
   · split at h
     · cases h
     · cases h
       rename_i n _ _
       rw [cX]
       cases hg:al[n - 1]? with
       | none=>simp
       | some x=>exact a x<|gV hg
theorem Qi {kind ln:Nat} {al:List (List Nat)} {c:dz} {row:List Tx} {q:cG} (i:∀ l∈al,l.length≤64) (h:iz kind al c ln row= .ok q):q.next.length≤64:=by
 unfold iz at h
 split at h
 · cases h
 · split at h
   · cases h
   · split at h
     · cases h
     · split at h
       · cases h
       · rename_i nx a
         split at h
         · cases h
         · cases h
           unfold lY at a
           split at a
           · split at a
             · cases a
             · exact xy i a
           · cases a; simp
theorem xX {eof ln:Nat} {F F':aG} {hs:List Tx} {rows rows':List Rw} {row:List Tx} (h:Nx F) (a:bS eof F hs rows ln row= .ok (F',rows')):Nx F':=by
 unfold bS at a
 split at a
 · unfold js at a
   split at a
   · cases a
   · cases a; exact h
 · split at a
   · unfold j5 at a
     split at a
     · cases a
     · split at a
       · cases a
       · cases a; exact h
   · split at a
     · unfold l0 at a
       split at a
       · cases a
       · cases a; exact h
     · split at a
       · unfold l1 at a
         split at a
         · cases a
         · cases a; exact h
       · split at a
         · unfold j6 at a
           split at a
           · cases a
           · split at a
             · cases a
             · cases a; exact h
         · split at a
           · unfold j9 at a
             split at a
             · cases a
             · split at a
               · cases a
               · cases a; exact h
           · split at a
             · unfold jG at a
               split at a
               · cases a
               · split at a
                 · cases a
                 · split at a
                   · cases a
                   · rename_i r A
                     cases a
                     refine ⟨fun l c=> ?_,h.2⟩
                     rcases mX.1 c with c | c
                     · exact h.1 l c
                     · obtain ⟨_,_,h2⟩:=xT _ _ _ A l c
                       exact Hd h2
             · unfold gA at a
               split at a
               · cases a
               · split at a
                 · cases a
                 · split at a
                   · cases a
                   · split at a
                     · cases a
                     · split at a
                       · cases a
                       · rename_i r A
                         cases a
                         refine ⟨h.1,fun q i=> ?_⟩
                         rcases mX.1 i with i | i
                         · exact h.2 q i
                         · obtain ⟨_,_,h2⟩:=xT _ _ _ A q i
                           exact Qi h.1 h2
theorem Ng {eof ln:Nat} {F F':aG} {hs:List Tx} {rows rows':List Rw} {row:List Tx} (c:row.getD 0 []∉fC) (a:bS eof F hs rows ln row= .ok (F',rows')):F'.sp=F.sp:=by
 unfold bS at a
 rw [if_neg c] at a
 unfold j5 l0 l1 j6 j9 jG gA at a
 repeat' split at a
 all_goals first
  | (cases a; done)
  | (cases a; rfl)
theorem CP {eof ln:Nat} {F F':aG} {seen:List Tx} {rows rows':List Rw} {row:List Tx} (h:iU F seen) (c:bS eof F seen rows ln row= .ok (F',rows')):iU F' (seen++ [row.getD 0 []]):=by
 intro k hk q
 rw [mX,lI] at q
 have C:k∉seen:=fun h=>q<|.inl h
 have E:k≠row.getD 0 []:=fun h=>q<|.inr h
 by_cases i:row.getD 0 []∈fC
 · unfold bS at c
   rw [if_pos i] at c
   unfold js at c
   split at c
   · cases c
   · cases c
     show (F.sp.set (fC.idxOf<|row.getD 0 []) _).getD (fC.idxOf k) 0=0
     rw [cX,List.getElem?_set,if_neg,← cX]
     · exact h k hk C
     · intro he
       have A:∀ a∈fC,fC.getD (fC.idxOf a) []=a:=aw
       have h1:=A _ i
       have h2:=A _ hk
       rw [he] at h1
       exact E<|h2.symm.trans h1
 · rw [Ng i c]; exact h k hk C
end Go.Hb
end
