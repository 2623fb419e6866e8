/-
  Walks and plain laws that the law rests on, laid together. No conditions but those that each theorem names.
-/
import Derived.Test.YtffmhpaepdkabaaGreatDoorMnDeriveWhole3
set_option linter.unusedVariables false
set_option maxRecDepth 20000
set_option maxHeartbeats 1000000
open Array renaming getElem?_eq_some_iff→cg
open Bool renaming noConfusion→c8,or_eq_false_iff→nW
open Classical renaming not_not→lf
open Except.ok renaming injEq→oR
open Go.Proofs.Tryz renaming prog→au
open Go.Value renaming bool→bL,int→gA,slice→bz,tuple→iT
open Go.World renaming ownsRow→bm,ownsRow_nil→dI
open List renaming any_eq_false→FP,append_assoc→dx,append_nil→dS,count_eq_zero→n6,count_le_length→qu,count_pos_iff→u6,drop_succ_cons→su,drop_take→u7,drop_zero→sv,eq_nil_of_length_eq_zero→gi,find?_cons→FV,find?_eq_none→zr,findIdx?_eq_none_iff→FW,flatMap_append→nj,flatMap_singleton→oX,getD_cons_zero→lR,getD_eq_getElem?_getD→cO,getElem?_eq_getElem→cx,getElem?_eq_some_iff→eI,getElem?_map→fU,idxOf_lt_length_iff→vf,length→kM,length_append→bF,length_cons→bT,length_drop→fI,length_map→eJ,length_nil→gj,length_singleton→iq,length_take→dT,map_append→iK,map_take→F5,mem_append→mC,mem_cons→eK,mem_of_getElem?→iL,mem_singleton→lj,take→oZ,take_of_length_le→eL,take_succ_cons→qy,take_zero→nn,toArray→aY
open Nat renaming add_le_add_left→Gj,le_refl→bX,le_trans→eV,lt_or_ge→gC,zero_add→fj
open Option renaming getD_some→Gq,isSome_iff_exists→nr
open UInt8 renaming toNat_inj→o4,toNat_lt→iM
open Go.Proofs.Tryz
open Go.Hb.dB Go.Proofs Go.Hb.eN Go.Hb.fV

namespace Go.Hb
theorem MU {l:List Tx} {x:Tx} :∀ {i:Nat},i < l.length→(∀ j,j < i→l.getD j []≠x)→l.getD i []=x→l.idxOf x=i:=by
 induction l with
 | nil=>intro i h; simp at h
 | cons a l C=>
   intro i hi A c
   cases i with
   | zero=>simp only [lR] at c; rw [c,List.idxOf_cons_self]
   | succ i=>
     have q:=A 0 ab
     simp only [lR] at q
     rw [List.idxOf_cons,show (a==x)=false from by simpa using q,cond_false,C (i:=i) (by simpa using hi) (fun j E=>by have :=A (j+1) ab; simpa using this) (by simpa using c)]
theorem Lp {a b:List Tx} (h:a.length≠b.length):a≠b:=fun h2=>h<|by rw [h2]
theorem Mq {a b:List Tx} {i:Nat} (h:a.getD i []≠b.getD i []):a≠b:=fun h2=>h<|by rw [h2]
theorem Mo {a b:List Tx} (c:a.length=b.length) (h:∀ i,i < a.length→a.getD i []=b.getD i []):a=b:=by
 apply List.ext_getElem c
 intro i h1 h2
 have :=h i h1
 rw [cO,cO,cx h1,cx h2] at this
 exact this
theorem QQ {s:Tx} {i:Nat} (h:i < s.length):(s.drop i).take 1= [s.getD i 0]:=by
 rw [drop_cons 0 h]; rfl
theorem EI (b:UInt8):m4 [b]=gJ b:=by
 unfold m4 fX
 cases h:gJ b <;> simp [h]
theorem D6 {s:Tx} {i:Nat} (h:i < s.length):(s.take<|i+1).drop i= [s.getD i 0]:=by
 rw [u7,show i+1 - i=1 from by omega,QQ h]
theorem BL {s:Tx} (h:s= []∨fX s=false):fY s=21:=if_pos h
theorem LH {s:Tx} (h:s≠[]) (h1:fX s=true) (h2:32 < s.length):fY s=22:=by unfold fY; rw [if_neg (by rw [h1]; simp [h]),if_pos h2]
theorem LI {s:Tx} (h:s≠[]) (h1:fX s=true) (h2:¬32 < s.length):fY s=0:=by unfold fY; rw [if_neg (by rw [h1]; simp [h]),if_neg h2]
theorem O7 {s:Tx} (h:s= [48]):e0 true s= .ok []:=by unfold e0; rw [if_pos ⟨rfl,h⟩]
theorem Dz {s:Tx} (h:s≠[48]):e0 true s=e0 false s:=by unfold e0; simp [h]
theorem O2 {s:Tx} (h:(bq s).2.2.2≠0):e0 false s= .error (bq s).2.2.2:=by unfold e0; rw [if_neg (fun h2=>by cases h2.1),if_pos h]
theorem O3 {s:Tx} (h:(bq s).2.2.2=0) (h1:(bq s).2.2.1=true):e0 false s= .error 114:=by unfold e0; rw [if_neg (fun h2=>by cases h2.1),if_neg (fun h2=>h2 h),if_pos h1]
theorem O4 {s:Tx} (h:(bq s).2.2.2=0) (h1:(bq s).2.2.1=false) (h2:fY (bq s).1≠0):e0 false s= .error (fY (bq s).1):=by unfold e0; rw [if_neg (fun h2=>by cases h2.1),if_neg (fun h2=>h2 h),if_neg (by rw [h1]; simp),if_pos h2]
theorem O5 {s:Tx} (h:(bq s).2.2.2=0) (h1:(bq s).2.2.1=false) (h2:fY (bq s).1=0):e0 false s= .ok (bq s).1:=by unfold e0; rw [if_neg (fun h2=>by cases h2.1),if_neg (fun h2=>h2 h),if_neg (by rw [h1]; simp),if_neg (fun h3=>h3 h2)]
theorem tS {s:Tx} {most:Int} (h:(eC s most).2=0):dQ s most= .ok (eC s most).1:=by unfold dQ; rw [if_neg (fun h2=>h2 h)]
theorem tR {s:Tx} {most:Int} (h:(eC s most).2≠0):dQ s most= .error 13∧(eC s most).2=13:=by
 refine ⟨by unfold dQ; rw [if_pos h],?_⟩
 rcases Dj s most with h1 | ⟨h1,_⟩
 · rw [h1]
 · rw [h1] at h; exact absurd rfl h
theorem CE (l:List Tx) (a:Option Addr) (c:Nat) (x:Tx) (w:World) (I:cX w.heap a l) (ar:l.length≤1048576):
 ba au 192 (aY [.slice a l.length c,str x]) w (fun v w'=>v= .int .i64 (if x∈l then (l.idxOf x:Nat) else -1:Int)∧w'=w):=by
 refine enter func192 aa ntmps192 aa<|ak fun O=>ay<|O<|az fun U=>ak fun V=>ao (.slice a l.length c)<|p (bO gP aa aa)<|p mv<|nl<|V<|aB<|lp (fun G q M=> ∃ (i:Nat),(i≤l.length)∧(∀ j,j < i→l.getD j []≠x)∧(M=w)∧(q 0= .slice a l.length c)∧(q 1=str x)∧(q 7=aj (l.length))∧(q 8=aj i)∧(l.length - i=G)) _ ⟨0,ab,(fun j J=>by omega),aa,aa,aa,aa,aa,aa⟩ ?_
 rintro G q M ⟨i,hi,E,ah,al,am,an,ap,rfl⟩
 refine fx 0 al<|fx 1 am<|fx 7 an<|fx 8 ap ?_
 subst ah
 refine ak fun Y=>p (lt aa aa)<|nl<|Y<|az fun Z=>cd aa (fun ai=> ?_) fun ai=> ?_
 refine aM<|Z<|az fun C=>aB<|ak fun ac=>ao (aj i)<|p (bY (aj i) aa)<|nl<|ac<|ak fun ae=>ao (str x)<|ao (.slice a l.length c)<|ao (aj i)<|p (aW dD aa aa ab<|aC.ok (I)<|cK ab)<|p (ld cG aa<|cX.get (i:=i) I ab)<|p (iy aa aa)<|nl<|ae<|cd aa (fun A=> ?_) fun A=> ?_
 exact ak fun ag=>ao (aj i)<|p (bY (aj i) aa)<|nl<|ag<|rt<|br<|tr<|tr<|br<|tr<|a6 aa<|⟨by rw [if_pos (by rw [A]; exact eR ab),MU ab E A.symm]; rfl,aa⟩
 exact aM<|bn<|C<|rg aa<|p (ad aa aa<|bR ab)<|p mv<|nl<|tn<|⟨_,ab,i+1,ab,(fun j J=>by rcases gC j i with h | h <;> first | exact E j h | (rw [show j=i by omega]; exact fun h2=>A h2.symm)),aa,aa,aa,aa,aa,aa⟩
 exact ext<|bc<|bc<|be<|U<|ak fun C=>p aA<|nl<|C<|rt<|a6 aa<|⟨by rw [if_neg (fun h=>by obtain ⟨j,J,aq⟩:=oG [] h; exact E j ab aq)]; rfl,aa⟩
theorem Lq (l m:List Tx) (A E:Nat) (a b:Option Addr) (c d:Nat) (w:World) (Y:cX w.heap a l) (Z:cX w.heap b m) (aL:l.length=A) (aN:m.length=E) (aK:A≤1048576):
 ba au 240 (aY [.slice a A c,.slice b E d]) w (fun v w'=>v= .bool (decide (l=m))∧Wk w w'):=by
 refine enter func240 aa ntmps240 aa<|ak fun ah=>ay<|ah<|az fun am=>ak fun an=>ao (.slice a A c)<|p (bO gP aa aa)<|ao (.slice b E d)<|p (bO gP aa aa)<|p (gO aa aa)<|nl<|an<|cd aa (fun aw=> ?_) fun aw=> ?_
 exact ak fun J=>ay<|J<|rt<|tr<|a6 aa<|⟨by show bL false =_; rw [decide_eq_false (Lp ab)],Md.refl _ _⟩
 have aD:l.length=m.length:=ab
 refine aM<|am<|az fun J=>ak fun ap=>ao (.slice a A c)<|p (bO gP aa aa)<|p mv<|nl<|ap<|aB<|lp (fun V I G=> ∃ (i:Nat),(i≤A)∧(∀ j,j < i→l.getD j []=m.getD j [])∧(Wk w G)∧(I 0= .slice a A c)∧(I 1= .slice b E d)∧(I 12=aj A)∧(I 13=aj i)∧(A - i=V)) _ ⟨0,ab,(fun j ac=>by omega),(Md.refl _ _),aa,aa,aa,aa,aa⟩ ?_
 rintro V I G ⟨i,hi,ae,C,aE,aF,aG,aJ,rfl⟩
 refine fx 0 aE<|fx 1 aF<|fx 12 aG<|fx 13 aJ<|ak fun aq=>p (lt aa aa)<|nl<|aq<|az fun ar=>cd aa (fun ax=> ?_) fun ax=> ?_
 refine aM<|ar<|az fun M=>aB<|ak fun av=>ao (aj i)<|p (bY (aj i) aa)<|nl<|av<|az fun ai=> ?_
 have q:(fun w'=>Wk G w') G.drew:=(Md.refl _ _).drew
 refine bK (fun w'=>Wk G w') aa wide q<|bH 0 aa (.slice a A c) q<|bH 1 aa (aj i) q<|aI 2 aa (fun _ _=>aW dD aa aa ab<|aC.ok (Y.wk C)<|cK ab) q<|aI 3 aa (fun w' O=>ld cG aa<|Wk.aH O<|cX.get (i:=i) (Y.wk C) ab) q<|bH 4 aa (.slice b E d) q<|bH 5 aa (aj i) q<|aI 6 aa (fun _ _=>aW dD aa aa ab<|aC.ok (Z.wk C)<|cK ab) q<|aI 7 aa (fun w' O=>ld cG aa<|Wk.aH O<|cX.get (i:=i) (Z.wk C) ab) q<|aI 8 aa (fun _ _=>rJ aa aa) q<|hn ag<|ai<|cd aa (fun U=> ?_) fun U=> ?_
 exact ak fun al=>ay<|al<|rt<|br<|tr<|tr<|br<|tr<|a6 aa<|⟨by show bL false =_; rw [decide_eq_false (Mq U)],C.drew⟩
 exact aM<|bn<|M<|rg aa<|p (ad aa aa<|bR ab)<|p mv<|nl<|tn<|⟨_,ab,i+1,ab,(fun j ac=>by rcases gC j i with h | h <;> first | exact ae j h | (rw [show j=i by omega]; exact lf.1 U)),C.drew,aa,aa,aa,aa,aa⟩
 exact ext<|bc<|bc<|be<|J<|ak fun M=>p aA<|nl<|M<|rt<|a6 aa<|⟨by show bL true =_; rw [decide_eq_true (Mo aD fun j ac=>ae j ab)],C⟩
theorem mg (rb ln:Nat) (e:Int) (w:World) (q:Hb.aH w.heap rb 2=some (.int .i64 (ln:Nat))):
 dV au 136 (aY [.pointer (some ⟨rb,0,none⟩),.int .i64 e]) w (fun v w'=>v=iT #[]∧e=0∧w'=w) (fun c w'=>c=gr 47 ln e∧e≠0∧w'=w):=by
 refine iw func136 aa ntmps136 aa<|sq fun A a=>rg aa<|p (aG (.int .i64 e) aa)<|p (gO aa aa)<|nl<|tn<|a _ _<|cd aa (fun i=> ?_) fun i=> ?_
 exact rg aa<|p (aG (.pointer<|some ⟨rb,0,none⟩) aa)<|p (nc aa)<|p (fa rk aa)<|p (ld bW aa<|q)<|p (aG (.int .i64 e) aa)<|p (cE (ps:= [(0,.int .i64 1),(1,.int .i64 (ln:Nat)),(2,.int .i64 e)]) (L:= [.int .i64 1,.int .i64 (ln:Nat),.int .i64 e]) p5 aa<|aa)<|p (Og xY aa)<|Pc aa fun E C=>⟨aa,ab,aa⟩
 refine aM<|gU<|f0 aa ?_
 exact ⟨aa,ab,aa⟩
theorem fG (rb ln:Nat) (b:Bool) (e:Int) (w:World) (C:Hb.aH w.heap rb 2=some (.int .i64 (ln:Nat))) (he:e≠0):
 dV au 85 (aY [.pointer (some ⟨rb,0,none⟩),.bool b,.int .i64 e]) w (fun v w'=>v=iT #[]∧b=true∧w'=w) (fun c w'=>c=gr 47 ln e∧b=false∧w'=w):=by
 refine iw func85 aa ntmps85 aa<|sq fun E q=>rg aa<|p (aG (.bool b) aa)<|p (no aa)<|nl<|tn<|q _ _<|cb aa (fun a=> ?_) fun a=> ?_
 refine rg aa<|p (aG (.pointer<|some ⟨rb,0,none⟩) aa)<|p (aG (.int .i64 e) aa)<|eP aa (cC l1 (mg rb ln e w C) aa fun v10 I A=> ?_) fun c w' i J G=>⟨i.1,by simpa using a,i.2.2⟩
 exact absurd A.2.1 he
 refine aM<|gU<|f0 aa ?_
 exact ⟨aa,by simpa using a,aa⟩
theorem En (B:Nat) (H:bP) (F:aE) (R:fk) (n:Nat) (r:List Tx) (rest:List Rw) (ln:Nat) (seen:List Tx) (w:World) (c:bU w B H F R ((n,r)::rest) ln seen):
 ba au 84 (aY [aU H.rb]) w (fun v w'=>(∃ R',bU w' B H F R' rest n seen)∧Tg w' B 9 r.length v (r.map str)∧Md (fun k=>k=H.rb) w w'):=by
 obtain ⟨vr,vs,vn⟩:=R
 obtain ⟨a,cp,aD⟩:=c.rws.slice
 obtain rfl :vr= .slice a (rest.length+1) cp:=aD
 obtain ⟨q,vs,rfl⟩:∃ q G,vs=q::G:=by
  cases vs with
  | nil=>exact absurd c.rt.1<|by simp
  | cons q G=>exact ⟨q,G,rfl⟩
 obtain ⟨C,aF⟩:=q
 obtain ⟨az,Y⟩:=c.rt.2 0 (C,aF) (n,r) rfl rfl
 obtain rfl :C=n:=az
 obtain ⟨ai,am,rfl⟩:=Y.slice
 have Z:rest.length+1≤cp∧aC w.heap a (kF ((C,.slice ai r.length am)::vs)):=c.rws.cells
 have A:=c.cells
 have aK:H.rb < w.heap.size:=(cg.1 A).1
 refine enter func84 aa ntmps84 aa<|ak fun ac=>ay<|ac<|ak fun ad=>ao (aU H.rb)<|p (nc aa)<|p (fa rj aa)<|p (ld pd aa<|(aX A).trans aa)<|p (aW pJ aa aa ab<|aC.ok (Z.2)<|ua<|by simp)<|p (cI sQ aa (aa)<|ub (i:=0) Z.2 aa)<|e<|al E5 fun aI aL aJ O ap=> ?_
 have ax:=O.md.aB A
 refine e<|cw A5 aa aa aa aa (ap) (by simp) fun aN I an=> ?_
 have V:=I.aB ax fun h=>by omega
 refine nl<|ad<|ak fun ae=>ao (aU H.rb)<|ao (aU H.rb)<|p (nc aa)<|p (fa rj aa)<|p (ld pd aa<|(aX V).trans aa)<|p (rS pJ aa aa ab)<|p (nc aa)<|p (fa rj aa)<|e<|dA A4 aa aa (v:= .slice (ez a cp 1 2) rest.length<|cp - 1) aa V (by show _ < 7; decide) fun aM J aq=> ?_
 have U:=J.B an fun h=>by omega
 refine nl<|ae<|ak fun ag=>ao (aU H.rb)<|p (fa tG aa)<|p (ld bW aa<|(U.aH 0).trans aa)<|p (nc aa)<|p (fa rk aa)<|e<|dA kW aa aa (v:=aj C) aa aq (by show _ < 7; decide) fun aG M ar=> ?_
 have av:=M.B U fun h=>by omega
 refine nl<|ag<|ak fun ah=>p (fa rl aa)<|p (ld oo aa<|(av.aH 1).trans aa)<|p aA<|nl<|ah<|rt<|a6 aa ?_
 have E:Md (fun k=>k=H.rb) w aG:=(((O.md.mono fun _ _ h=>h.elim).trans' I fun k hk h=>by omega).trans' J fun _ _ h=>h).trans' M fun _ _ h=>h
 exact ⟨⟨⟨.slice (ez a cp 1 2) rest.length (cp - 1),vs,vn⟩,c.cz (R':=⟨.slice (ez a cp 1 2) rest.length (cp - 1),vs,vn⟩) E ar aa (c.rws.pG (m:=2)<|(DU _).trans<|by have :=c.rt.1; simp at this; simp [this])<|gk.tl c.rt⟩,Y.md E (gn A aw),E⟩
theorem xN (B:Nat) (H:bP) (F:aE) (R:fk) (rows:List Rw) (ln:Nat) (seen:List Tx) (hd:List Tx) (aj A:Nat) (E:Option Addr) (G:Nat) (w:World) (M:bU w B H F R rows ln seen) (ao:Tg w aj 9 A (.slice E A G) (hd.map str)) (O:hd.length=A) (aW:A≤1000) (aK:∀ q∈rows,q.2.length≤70000):
 dV au 197 (aY [.pointer (some ⟨H.rb,0,none⟩),.slice E A G]) w (fun v w'=> ∃ n r rest,rows=(n,r)::rest∧r.take hd.length=hd∧(∃ R',bU w' B H F R' rest n seen)∧Tg w' B 9 r.length v (r.map str)∧Md (fun k=>k=H.rb) w w') (fun c w'=>((rows= []∧c=gr 47 H.eof 116)∨(∃ n r rest,rows=(n,r)::rest∧r.take hd.length≠hd∧c=gr 47 n 116))∧Md (fun k=>k=H.rb) w w'):=by
 obtain ⟨a,cp,aL⟩:=M.rws.slice
 have Z:=M.cells
 have ac:=M.cells
 unfold rO at Z
 rw [aL] at Z
 refine iw func197 aa ntmps197 aa<|sq fun aR av=>rg aa<|p aA<|nl<|tn<|av _ _<|sq fun aS ax=>sq fun aT ay=>rg aa<|p (aG (.pointer<|some ⟨H.rb,0,none⟩) aa)<|p (nc aa)<|p (fa rj aa)<|p (ld pd aa<|(aX Z).trans aa)<|p (bO uw aa aa)<|p (bS aa aa)<|nl<|tn<|ay _ _<|cd aa (fun ah=> ?_) fun ah=> ?_
 obtain rfl :rows= []:=gi ab
 refine sq fun ak U=>rg aa<|p (aG (.pointer<|some ⟨H.rb,0,none⟩) aa)<|p (aG (.pointer<|some ⟨H.rb,0,none⟩) aa)<|p (nc aa)<|p (fa Ma aa)<|p (ld bW aa<|(aX ac).trans aa)<|p (nc aa)<|p (fa rk aa)<|e<|dA kW aa aa (v:= .int .i64 (H.eof:Nat)) aa ac (by show _ < 7; decide) fun aQ az an=>nl<|tn<|U _ _<|rg aa<|p (aG (.pointer<|some ⟨H.rb,0,none⟩) aa)<|eP aa (cC l1 (mg H.rb H.eof 116 aQ<|(aX an).trans aa) aa fun v20 a2 aB=> ?_) fun c w' i ai ae=>⟨.inl ⟨aa,i.1⟩,i.2.2 ▸ az⟩
 exact absurd aB.2.1 aw
 obtain ⟨q,rest,rfl⟩:∃ q rest,rows=q::rest:=by
  cases rows with
  | nil=>exact absurd rfl ah
  | cons q rest=>exact ⟨q,rest,rfl⟩
 obtain ⟨n,r⟩:=q
 refine aM<|tn<|ax _ _<|sq fun ak U=>rg aa<|p (aG (.pointer<|some ⟨H.rb,0,none⟩) aa)<|e<|cl AN (En B H F R n r rest ln seen _ M) aa fun a0 aN aD=> ?_
 obtain ⟨⟨am,J⟩,hT,I⟩:=aD
 obtain ⟨ar,cr,rfl⟩:=hT.slice
 have aI:=hT.c6
 have aZ:r.length≤70000:=aK (n,r)<|by simp
 have ap:=ao.md I<|gn ac aw
 have aq:=ap.c6
 have aV:=J.dH
 refine p aA<|nl<|tn<|U _ _<|sq fun aU ag=>rg aa<|p (aG (.pointer<|some ⟨H.rb,0,none⟩) aa)<|p mv<|p (bO gP aa aa)<|p (aG (.slice E A G) aa)<|p (bO gP aa aa)<|p (ge aa aa)<|p mv<|gs (t:=29) aa (fun aJ=> ?_) fun aJ=> ?_
 refine pg aa aa aa mv<|pg aa aa aa (aG (.slice E A G) aa)<|pg aa aa aa (bO gP aa aa)<|pg aa aa aa (uf dD aa aa ab)<|pg aa aa aa (aG (.slice E A G) aa)<|eg aa aa aa<|cl H4 (Lq (r.take A) hd _ _ ar E cr G _ (by have :=aC.take aI.2 A; unfold cX; rw [F5]; exact this) aq.2 (by rw [dT]; omega) O ab) aa fun a1 aO aF=> ?_
 obtain ⟨rfl,C⟩:=aF
 refine p (bI aa)<|eP aa (cC fD (fG H.rb n _ 116 aO (by first | exact J.dH | exact Wk.aH C J.dH) aw) aa fun v37 aP Y=> ?_) fun c w' i ai ae=>⟨.inr ⟨n,r,rest,aa,(by rw [O]; first | exact of_decide_eq_false i.2.1 | exact fun h=>by have :=congrArg kM h; rw [dT] at this; omega),i.1⟩,by rw [i.2.2]; first | exact I.trans' C (fun _ _ h=>h.elim) | exact I⟩
 obtain ⟨rfl,ad,rfl⟩:=Y
 exact nl<|tn<|ag _ _<|sq fun al V=>rg aa<|p mv<|p aA<|nl<|tn<|V _ _<|rt<|gU<|f1 aa aa<|⟨n,r,rest,aa,(by rw [O]; exact of_decide_eq_true ad),⟨am,J.wk C⟩,hT.wk C,I.trans' C fun _ _ h=>h.elim⟩
 refine sk aa aa aa aa<|sk aa aa aa aa<|sk aa aa aa aa<|sk aa aa aa aa<|sk aa aa aa aa<|sk aa aa aa aa<|p (bD aa)<|eP aa (cC fD (fG H.rb n _ 116 aN (by first | exact J.dH | exact Wk.aH C J.dH) aw) aa fun v37 aP Y=> ?_) fun c w' i ai ae=>⟨.inr ⟨n,r,rest,aa,(by rw [O]; first | exact of_decide_eq_false i.2.1 | exact fun h=>by have :=congrArg kM h; rw [dT] at this; omega),i.1⟩,by rw [i.2.2]; first | exact I.trans' C (fun _ _ h=>h.elim) | exact I⟩
 obtain ⟨rfl,ad,rfl⟩:=Y
 exact nl<|tn<|ag _ _<|sq fun al V=>rg aa<|p mv<|p aA<|nl<|tn<|V _ _<|rt<|gU<|f1 aa aa<|absurd ad aw
theorem tV (rb ln:Nat) (s:Tx) (most:Int) (w:World) (M:Hb.aH w.heap rb 2=some (.int .i64 (ln:Nat))) (hs:s.length≤1048576) (hm: -9223372036854775808≤most∧most≤9223372036854775807):
 dV au 196 (aY [.pointer (some ⟨rb,0,none⟩),str s,.int .i64 most]) w (fun v w'=> ∃ a,dQ s most= .ok a∧v= .int .i64 (a:Nat)∧Wk w w') (fun c w'=> ∃ e,dQ s most= .error e∧c=gr 47 ln e∧Wk w w'):=by
 refine iw func196 aa ntmps196 aa<|sq fun V A=>rg aa<|p aA<|nl<|tn<|A _ _<|sq fun Y C=>rg aa<|p (aG (str s) aa)<|p (aG (.int .i64 most) aa)<|e<|cl s7 (tT s most _ hs hm) aa fun v12 U I=> ?_
 obtain ⟨rfl,q⟩:=I
 refine p mv<|p (xt aa aa)<|p (xt aa aa)<|p aA<|p aA<|nl<|tn<|C _ _<|sq fun Z E=>rg aa<|p (aG (.pointer<|some ⟨rb,0,none⟩) aa)<|p mv<|eP aa (cC l1 (mg rb ln (eC s most).2 U<|Wk.aH q M) aa fun ad ae J=> ?_) fun c w' i ag ac=>⟨13,(tR i.2.1).1,(by rw [i.1,(tR i.2.1).2]; rfl),by rw [i.2.2]; exact q⟩
 obtain ⟨rfl,O,rfl⟩:=J
 exact nl<|tn<|E _ _<|sq fun ab G=>rg aa<|p mv<|p aA<|nl<|tn<|G _ _<|rt<|gU<|f1 aa aa<|⟨_,tS O,aa,q⟩
theorem ys (rb ln:Nat) (s:Tx) (w:World) (ah:Hb.aH w.heap rb 2=some (.int .i64 (ln:Nat))) (hs:s.length≤1048576):
 dV au 193 (aY [.pointer (some ⟨rb,0,none⟩),str s]) w (fun v w'=>v= .tuple #[]∧fX s=true∧Wk w w') (fun c w'=>c=gr 47 ln 21∧fX s=false∧Wk w w'):=by
 refine iw func193 aa ntmps193 aa<|sq fun an O=>rg aa<|p (aG (str s) aa)<|p (db u9 aa aa)<|p mv<|nl<|tn<|O _ _<|aB<|lp (fun E a M=> ∃ (i:Nat),(i≤s.length)∧(∀ j,j < i→gJ (s.getD j 0)=true)∧(Wk w M)∧(a 0= .pointer (some ⟨rb,0,none⟩))∧(a 1=str s)∧(a 6= .int .i64 (s.length:Nat))∧(a 7= .int .i64 (i:Nat))∧(s.length - i=E)) _ ⟨0,ab,(fun j G=>by omega),(Md.refl _ _),aa,aa,aa,aa,aa⟩ ?_
 rintro E a M ⟨i,hi,I,q,ai,aj,ak,al,rfl⟩
 refine fx 0 ai<|fx 1 aj<|fx 6 ak<|fx 7 al<|sq fun ao U=>rg aa<|p (lt aa aa)<|nl<|tn<|U _ _<|sq fun ap V=>cd aa (fun ag=> ?_) fun ag=> ?_
 refine aM<|tn<|V _ _<|sq fun aq Y=>aB<|sq fun ar Z=>rg aa<|p (aG (.int .i64 (i:Nat)) aa)<|p (bY (.int .i64 (i:Nat)) aa)<|nl<|tn<|Z _ _<|rg aa<|p (aG (.pointer<|some ⟨rb,0,none⟩) aa)<|p (aG (str s) aa)<|p (aG (.int .i64 (i:Nat)) aa)<|p (aG (.int .i64 (i:Nat)) aa)<|p (bG ((i+1:Nat):Int) aa aa<|bd ab ab)<|p (rT u9 aa aa aa ab)<|e<|cl Aj (EK ((s.take<|i+1).drop i) _<|by rw [fI,dT]; omega) aa fun ax am ac=> ?_
 obtain ⟨rfl,A⟩:=ac
 refine eP aa (cC fD (fG rb ln _ 21 am (Wk.aH (q.trans A) ah) aw) aa fun ay az ae=> ?_) fun c w' C aA av=>⟨C.1,s5 (i:=i) ab (by have h:=C.2.1; rw [D6 (by omega :i < s.length),EI] at h; exact h),by rw [C.2.2]; exact q.trans A⟩
 obtain ⟨rfl,J,rfl⟩:=ae
 rw [D6 (by omega :i < s.length),EI] at J
 exact nl<|bn<|tn<|Y _ _<|rg aa<|p (ad aa aa<|bR ab)<|p mv<|nl<|tn<|⟨_,ab,i+1,ab,(fun j G=>by rcases gC j i with h | h <;> first | exact I j h | (rw [show j=i by omega]; exact J)),(q.trans A),aa,aa,aa,aa,aa⟩
 refine ext<|te _<|te _<|be<|gU<|f0 aa ?_
 exact ⟨aa,s6 (fun j G=>I j ab),q⟩
theorem DI (rb ln:Nat) (s:Tx) (w:World) (A:Hb.aH w.heap rb 2=some (.int .i64 (ln:Nat))) (hs:s.length≤1048576):
 dV au 241 (aY [.pointer (some ⟨rb,0,none⟩),str s]) w (fun v w'=>v=str s∧fY s=0∧Wk w w') (fun c w'=>c=gr 47 ln (fY s:Nat)∧fY s≠0∧Wk w w'):=by
 refine iw func241 aa ntmps241 aa<|sq fun ag J=>rg aa<|p aA<|nl<|tn<|J _ _<|sq fun ah M=>rg aa<|p (aG (.pointer<|some ⟨rb,0,none⟩) aa)<|p (aG (str s) aa)<|eP aa (cC vL (ys rb ln s w A hs) aa fun an ae ac=> ?_) (fun c w' a I C=>by have h:fY s=21:=BL (.inr a.2.1); exact ⟨by rw [h]; exact a.1,by rw [h]; decide,a.2.2⟩)
 obtain ⟨rfl,G,i⟩:=ac
 refine nl<|tn<|M _ _<|sq fun ai O=>rg aa<|p (aG (.pointer<|some ⟨rb,0,none⟩) aa)<|p (aG (str s) aa)<|p (rJ aa aa)<|eP aa (cC fD (fG rb ln _ 21 ae (Wk.aH i A) aw) aa fun v11 ad Y=> ?_) (fun c w' a I C=>by have h:fY s=21:=BL (.inl<|lf.1<|of_decide_eq_false a.2.1); exact ⟨by rw [h]; exact a.1,by rw [h]; decide,by rw [a.2.2]; exact i⟩)
 obtain ⟨rfl,q,rfl⟩:=Y
 have q:s≠[]:=of_decide_eq_true q
 refine nl<|tn<|O _ _<|sq fun aj U=>rg aa<|p (aG (.pointer<|some ⟨rb,0,none⟩) aa)<|p (aG (str s) aa)<|p (db u9 aa aa)<|p (le aa aa)<|eP aa (cC fD (fG rb ln _ 22 ad (Wk.aH i A) aw) aa fun am ao Z=> ?_) (fun c w' a I C=>by have al:=of_decide_eq_false a.2.1; have h:fY s=22:=LH q G ab; exact ⟨by rw [h]; exact a.1,by rw [h]; decide,by rw [a.2.2]; exact i⟩)
 obtain ⟨rfl,E,rfl⟩:=Z
 have E:=of_decide_eq_true E
 exact nl<|tn<|U _ _<|sq fun ak V=>rg aa<|p (aG (str s) aa)<|p (bY (str s) aa)<|nl<|tn<|V _ _<|rt<|gU<|f1 aa aa<|⟨aa,LI q G ab,i⟩
theorem DA (rb ln:Nat) (s:Tx) (w:World) (E:Hb.aH w.heap rb 2=some (.int .i64 (ln:Nat))) (hs:s.length≤1048576):
 dV au 198 (aY [.pointer (some ⟨rb,0,none⟩),str s]) w (fun v w'=> ∃ a,e0 false s= .ok a∧v=str a∧Wk w w') (fun c w'=> ∃ e,e0 false s= .error e∧c=gr 47 ln e∧Wk w w'):=by
 refine iw func198 aa ntmps198 aa<|sq fun ak M=>rg aa<|p aA<|nl<|tn<|M _ _<|sq fun al O=>rg aa<|p (aG (str s) aa)<|e<|cl vI (yU s _ hs) aa fun v11 ah Z=> ?_
 obtain ⟨rfl,q⟩:=Z
 have ap:=uG s
 refine p mv<|p (xt aa aa)<|p (xt aa aa)<|p (xt aa aa)<|p (xt aa aa)<|p aA<|p aA<|p aA<|p aA<|nl<|tn<|O _ _<|sq fun am U=>rg aa<|p (aG (.pointer<|some ⟨rb,0,none⟩) aa)<|p mv<|eP aa (cC l1 (mg rb ln ((bq s).2.2.2:Nat) ah<|Wk.aH q E) aa fun aq ai ac=> ?_) fun c w' i I G=>⟨_,O2 (by have :=i.2.1; omega),i.1,by rw [i.2.2]; exact q⟩
 obtain ⟨rfl,A,rfl⟩:=ac
 have A:(bq s).2.2.2=0:=ab
 refine nl<|tn<|U _ _<|sq fun an V=>rg aa<|p (aG (.pointer<|some ⟨rb,0,none⟩) aa)<|p mv<|p (no aa)<|eP aa (cC fD (fG rb ln _ 114 ai (Wk.aH q E) aw) aa fun ar aj ad=> ?_) fun c w' i I G=>⟨_,O3 A (by simpa using i.2.1),i.1,by rw [i.2.2]; exact q⟩
 obtain ⟨rfl,C,rfl⟩:=ad
 have C:(bq s).2.2.1=false :=by simpa using C
 refine nl<|tn<|V _ _<|sq fun ao Y=>rg aa<|p (aG (.pointer<|some ⟨rb,0,none⟩) aa)<|p mv<|eP aa (cC Ay (DI rb ln (bq s).1 aj (Wk.aH q E) ab) aa fun av ax ae=> ?_) fun c w' i I G=>⟨_,O4 A C i.2.1,i.1,q.trans i.2.2⟩
 obtain ⟨rfl,ag,J⟩:=ae
 exact p aA<|nl<|tn<|Y _ _<|rt<|gU<|f1 aa aa<|⟨_,O5 A C ag,aa,q.trans J⟩
theorem Dy (rb ln:Nat) (s:Tx) (w:World) (U:Hb.aH w.heap rb 2=some (.int .i64 (ln:Nat))) (hs:s.length≤1048576):
 dV au 199 (aY [.pointer (some ⟨rb,0,none⟩),str s]) w (fun v w'=> ∃ a,e0 true s= .ok a∧v=str a∧Wk w w') (fun c w'=> ∃ e,e0 true s= .error e∧c=gr 47 ln e∧Wk w w'):=by
 refine iw func199 aa ntmps199 aa<|sq fun V E=>rg aa<|p aA<|nl<|tn<|E _ _<|sq fun Y G=>sq fun Z I=>rg aa<|p (aG (str s) aa)<|p (iy aa aa)<|nl<|tn<|I _ _<|cd aa (fun i=> ?_) fun i=> ?_
 exact sq fun A q=>rg aa<|p aA<|nl<|tn<|q _ _<|rt<|tr<|gU<|f1 aa aa<|⟨[],O7 i,aa,Md.refl _ _⟩
 refine aM<|tn<|G _ _<|sq fun A q=>rg aa<|p (aG (.pointer<|some ⟨rb,0,none⟩) aa)<|p (aG (str s) aa)<|eP aa (cC Aq (DA rb ln s w U hs) aa fun v9 ac M=> ?_) fun c w' J ad ab=>by obtain ⟨e,he,h⟩:=J; exact ⟨e,by rw [Dz i]; exact he,h⟩
 obtain ⟨a,O,rfl,C⟩:=M
 exact p aA<|nl<|tn<|q _ _<|rt<|gU<|f1 aa aa<|⟨a,by rw [Dz i]; exact O,aa,C⟩
theorem Mg {kind:Nat} {s:Tx} (h:(gL kind s).2=0):(gL kind s).1≠0:=by
 unfold gL at h ⊢
 split
 · rename_i a; rw [if_pos a] at h; cases h
 · rename_i a; exact a
theorem Mi {F:aE} {s:Tx} (h:(gL F.kind s).2≠0):gN F s= .error (gL F.kind s).2:=if_pos h
theorem Mj {F:aE} {s:Tx} (h:(gL F.kind s).2=0) (h1:dJ F (gL F.kind s).1=true):gN F s= .error 115:=by unfold gN; rw [if_neg (fun h2=>h2 h),if_pos h1]
theorem Mk {F:aE} {s:Tx} (h:(gL F.kind s).2=0) (h1:dJ F (gL F.kind s).1=false):gN F s= .ok (gL F.kind s).1:=by unfold gN; rw [if_neg (fun h2=>h2 h),if_neg (by rw [h1]; exact c8)]
theorem Ql {F:aE} {rows:List Rw} {ln e:Nat} {r:List Tx} (h:gN F (r.getD 1 [])= .error e):je F rows ln r= .error (ln,e):=by unfold je; rw [h]
theorem Qm {F:aE} {rows:List Rw} {ln x:Nat} {r:List Tx} (h:gN F (r.getD 1 [])= .ok x):je F rows ln r= .ok ({F with sp:=F.sp.set (fg.idxOf<|r.getD 0 []) x},rows):=by unfold je; rw [h]
def mh:List Tx:= [iP,jb,jt,jK,j4,gV,gX,cY]
theorem Du (hs:List Tx):ordered hs=true↔∀ k∈mh,k∉hs:=by
 unfold ordered
 rw [Bool.not_eq_true',FP]
 have hm:∀ k,k∈mh↔(k∈fg∨k=gV∨k=gX∨k=cY):=by
  intro k
  simp only [mh,fg,eK,List.not_mem_nil,or_false,or_assoc]
 constructor
 · intro h k hk a
   have :=h k a
   rw [decide_eq_true_iff] at this
   exact this<|(hm k).1 hk
 · intro h x c hd
   rw [decide_eq_true_iff] at hd
   exact h x ((hm x).2 hd) c
theorem PZ {F:aE} {rows:List Rw} {ln:Nat} {r:List Tx} (h:fX (r.getD 1 [])=false):lI F rows ln r= .error (ln,21):=if_pos h
theorem P0 {F:aE} {rows:List Rw} {ln:Nat} {r:List Tx} (h:fX (r.getD 1 [])=true):lI F rows ln r= .ok ({F with qS:=r.getD 1 []},rows):=if_neg<|by rw [h]; exact c8
theorem Q4 {F:aE} {rows:List Rw} {ln:Nat} {r:List Tx} (h:(letE<|r.getD 1 []).2≠0):lK F rows ln r= .error (ln,(letE<|r.getD 1 []).2):=if_pos h
theorem Q5 {F:aE} {rows:List Rw} {ln:Nat} {r:List Tx} (h:(letE<|r.getD 1 []).2=0):lK F rows ln r= .ok ({F with tr:=(letE<|r.getD 1 []).1},rows):=if_neg fun h2=>h2 h
theorem N9 {F:aE} {rows:List Rw} {ln e:Nat} {r:List Tx} (h:dQ (r.getD 1 []) 64= .error e):jN F rows ln r= .error (ln,e):=by unfold jN; rw [h]
theorem Oa {F:aE} {rows:List Rw} {ln n:Nat} {r:List Tx} (h:dQ (r.getD 1 []) 64= .ok n) (a:n=0):jN F rows ln r= .error (ln,13):=by unfold jN; rw [h]; exact if_pos a
theorem Ob {F:aE} {rows:List Rw} {ln n:Nat} {r:List Tx} (h:dQ (r.getD 1 []) 64= .ok n) (a:n≠0):jN F rows ln r= .ok ({F with least:=n},rows):=by unfold jN; rw [h]; exact if_neg a
theorem Nz {F:aE} {seen:List Tx} {rows:List Rw} {ln:Nat} {r:List Tx} {k:Tx} (hk:k∈mh) (h:k∈seen):jM F seen rows ln r= .error (ln,113):=by
 unfold jM
 rw [if_pos]
 cases ho:ordered seen with
 | false =>rfl
 | true =>exact absurd h<|(Du seen).1 ho k hk
theorem NA {F:aE} {seen:List Tx} {rows:List Rw} {ln:Nat} {r:List Tx} (h:ordered seen=true) (a:jL (r.getD 1 [])=0):jM F seen rows ln r= .error (ln,114):=by unfold jM; rw [if_neg (by rw [h]; exact c8),if_pos a]
theorem NB {F:aE} {seen:List Tx} {rows:List Rw} {ln:Nat} {r:List Tx} (h:ordered seen=true) (a:jL (r.getD 1 [])≠0):jM F seen rows ln r= .ok ({F with kind:=jL<|r.getD 1 []},rows):=by unfold jM; rw [if_neg (by rw [h]; exact c8),if_neg a]
def kinds:List Tx:= [xR,xP,xQ]
theorem Nu (s:Tx):((if s∈kinds then (kinds.idxOf s:Nat) else -1:Int))=(jL s:Nat) - 1:=by
 unfold jL kinds
 by_cases h1:s=xR
 · subst h1; decide
 · by_cases h2:s=xP
   · subst h2; decide
   · by_cases h3:s=xQ
     · subst h3; decide
     · rw [if_neg (by simp [h1,h2,h3]),if_neg h1,if_neg h2,if_neg h3]; rfl
theorem Nv (s:Tx):jL s≤3:=by
 unfold jL
 split
 · omega
 · split
   · omega
   · split <;> omega
theorem xC (B:Nat) (H:bP) (F:aE) (V:dG) (R:fk) (rows:List Rw) (ln:Nat) (seen:List Tx) (s:Tx) (w:World) (E:cD w B H.fb H.mc F V) (q:bU w B H F R rows ln seen) (hk:F.kind=1∨F.kind=2∨F.kind=3) (hs:s.length≤1048576):
 dV au 195 (aY [.pointer (some ⟨H.rb,0,none⟩),str s]) w (fun v w'=> ∃ x,gN F s= .ok x∧x≠0∧v=aO x∧dJ F x=false∧Wk w w') (fun c w'=> ∃ e,gN F s= .error e∧c=gr 47 ln (e:Nat)∧Wk w w'):=by
 obtain ⟨tf,ad,ae⟩:=q.tm
 refine iw func195 aa ntmps195 aa<|sq fun aj I=>rg aa<|p aA<|nl<|tn<|I _ _<|sq fun ak J=>rg aa<|p (aG (.pointer<|some ⟨H.rb,0,none⟩) aa)<|p (nc aa)<|p (fa fw aa)<|p (ld ed aa<|(aX q.cells).trans aa)<|p (nc aa)<|p (fa eZ aa)<|p (fa pO aa)<|p (ld bW aa<|(aX E.cells).trans aa)<|p (aG (str s) aa)<|e<|cl H3 (OJ F.kind s _ hk hs) aa fun ao ag Y=> ?_
 obtain ⟨rfl,a⟩:=Y
 refine p mv<|p (xt aa aa)<|p (xt aa aa)<|p aA<|p aA<|nl<|tn<|J _ _<|sq fun al M=>rg aa<|p (aG (.pointer<|some ⟨H.rb,0,none⟩) aa)<|p mv<|eP aa (cC l1 (mg H.rb ln ((gL F.kind s).2:Nat) ag<|Wk.aH a q.dH) aa fun ap ah Z=> ?_) fun c w' i ai E=>⟨_,Mi (by have :=i.2.1; omega),i.1,by rw [i.2.2]; exact a⟩
 obtain ⟨rfl,C,rfl⟩:=Z
 have C:(gL F.kind s).2=0:=ab
 have G:=Mg C
 refine nl<|tn<|M _ _<|sq fun am O=>rg aa<|p (aG (.pointer<|some ⟨H.rb,0,none⟩) aa)<|p (aG (.pointer<|some ⟨H.rb,0,none⟩) aa)<|p (nc aa)<|p (fa xv aa)<|p (ld qH aa<|Wk.aH a<|(aX q.cells).trans aa)<|p mv<|p (me oO mx oE (ad.wk a) aa aa (⟨_,aa⟩)<|ae _ G)<|p (bS aa aa)<|eP aa (cC fD (fG H.rb ln _ 115 ah (Wk.aH a q.dH) aw) aa fun v31 aq ac=> ?_) fun c w' i ai E=>⟨115,Mj C (by have h:=i.2.1; rw [Bi] at h; simpa using h),i.1,by rw [i.2.2]; exact a⟩
 obtain ⟨rfl,A,rfl⟩:=ac
 rw [Bi] at A
 have A:dJ F (gL F.kind s).1=false :=by simpa using A
 exact nl<|tn<|O _ _<|sq fun an U=>rg aa<|p mv<|p aA<|nl<|tn<|U _ _<|rt<|gU<|f1 aa aa<|⟨_,Mk C A,G,aa,A,a⟩
theorem rV (B:Nat) (H:bP) (F:aE) (rows:List Rw) (ln:Nat) (seen:List Tx) (r:List Tx) (aF:Nat) (ar:Option Addr) (cr:Nat) (w:World) (M:St w B H F rows ln seen) (ad:Tg w aF 9 r.length (.slice ar r.length cr) (r.map str)) (a7:r.length=2) (aV:∀ x∈r,x.length≤70000) (av:r.getD 0 []∈fg) (aZ:F.sp.getD (fg.idxOf<|r.getD 0 []) 0=0):
 dV au 131 (aY [.pointer (some ⟨H.rb,0,none⟩),.slice ar r.length cr]) w (gF B H seen (je F rows ln r) w) (gE B H (je F rows ln r) w):=by
 obtain ⟨V,R,A,E,C⟩:=M
 have an:=ad.c6
 have ap:¬(H.rb=H.fb):=fun h=>by have h1:=E.cells; rw [h,A.cells] at h1; cases h1
 have a8:(r.getD 1 []).length≤70000:=aV _<|eR ab
 have aq:¬(bk ar=H.fb):=Tg.rI ad (cK ab) A.cells aw
 obtain ⟨tf,ae,ax⟩:=E.tm
 obtain ⟨bb,a9,ba⟩:=E.sm
 have ao:fg.idxOf (r.getD 0 []) < 5:=vf.2 av
 refine iw func131 aa ntmps131 aa<|sq fun a4 aL=>rg aa<|p (aG (.pointer<|some ⟨H.rb,0,none⟩) aa)<|p (aG (.slice ar r.length cr) aa)<|p (aW dD aa aa ab<|aC.ok (an.2)<|cK ab)<|p (ld cG aa<|cX.get (i:=1) an.2 ab)<|eP aa (cC vM (xC B H F V R rows ln seen (r.getD 1 []) w A E C.kd ab) aa fun v9 bf J=> ?_) fun c w' aN bg A=>by obtain ⟨e,he,h,h2⟩:=aN; exact ⟨ln,e,Ql he,h,Wk.mw h2⟩
 obtain ⟨x,a0,a1,rfl,az,q⟩:=J
 have aK:=A.wk q
 have J:=E.wk q
 refine p aA<|nl<|tn<|aL _ _<|sq fun a5 aM=>rg aa<|p (aG (.pointer<|some ⟨H.rb,0,none⟩) aa)<|p (nc aa)<|p (fa xv aa)<|p (ld qH aa<|Wk.aH q<|(aX E.cells).trans aa)<|p mv<|p (me oO mx oE (ae.wk q) aa aa (⟨_,aa⟩) (show _=gA .i64 0 from (ax x a1).trans<|by rw [az]; rfl))<|p (bG ((1:Nat):Int) aa aa<|bd ab ab)<|e<|qd oO oE (ae.wk q) aa aa aa (⟨_,aa⟩) fun G U aP=> ?_
 have aj:=J.rG (F':= {F with sp:=F.sp.set (fg.idxOf<|r.getD 0 []) x}) U aP rfl (Eo az ax<|Kv (by rw [A.iS]; exact ao) aZ)
 have O:=aK.rG J U
 have aT:=(ad.wk q).md U fun k hk cur z aU=>by subst hk; exact (ae.wk q).mX aU
 have am:=aT.c6
 refine nl<|tn<|aM _ _ ?_
 have a:(fun w'=>Md (fun k=>k=H.fb) G w') G.drew:=(Md.refl _ _).drew
 refine bK (fun w'=>Md (fun k=>k=H.fb) G w') aa wide a<|hp 0 aa ag (fun _ _=>aG (.pointer<|some ⟨H.rb,0,none⟩) aa) a<|hp 1 aa ag (fun _ _=>nc aa) a<|hp 2 aa ag (fun _ _=>fa fw aa) a<|hp 3 aa ag (fun w' M=>ld ed aa<|Md.aH M ((aX aj.cells).trans aa)<|by first | exact ap | exact aq) a<|hp 5 aa ag (fun _ _=>aG (.slice ar r.length cr) aa) a<|hp 6 aa ag (fun _ _=>aW dD aa aa ab<|aC.ok (am.2)<|cK ab) a<|hp 7 aa ag (fun w' M=>ld cG aa<|Md.aH M (cX.get (i:=0) am.2 ab)<|by first | exact ap | exact aq) a<|hp 9 aa ag (fun _ _=>mv) a<|hp 10 aa ag (fun _ _=>nc aa) a<|hp 11 aa ag (fun _ _=>fa eZ aa) a<|hp 12 aa ag (fun _ _=>fa tI aa) a<|he 4 aa ag<|pw (L:=fg.map str) jS aa aa aa aa fun ah aD a6 Z aI=> ?_
 have aR:cX aD.heap (some ⟨ah,0,none⟩) fg:=aC.fO ⟨_,aI⟩
 have I:=gY Z.md
 have ak:(fun w'=>Md (fun k=>k=H.fb) G w') aD:=a.trans' Z.md fun _ _ h=>h.elim
 refine ⟨ak,?_⟩
 refine he 8 aa ag<|cl Ap (CE fg (some ⟨ah,0,none⟩) 5 (r.getD 0 []) _ aR aw) aa fun bc a2 aQ=> ?_
 obtain ⟨ay,rfl⟩:=aQ
 rw [if_pos av] at ay
 subst ay
 have ac:(fun w'=>Md (fun k=>k=H.fb) G w') a2:=ak
 refine ⟨ac,?_⟩
 refine hp 13 aa ag (fun _ _=>kv qL aa aa ab) ac<|he 14 aa ag<|dA eu aa aa (v:=aO x) aa (Z.md.aB O.cells) (by show _ < 14; omega) fun a3 Y ai=> ?_
 rw [LO (i:=fg.idxOf<|r.getD 0 []) A.iS ao ab] at ai
 have aS:(fun w'=>Md (fun k=>k=H.fb) G w') a3:=ac.trans' Y fun _ _ h=>h
 refine ⟨aS,?_⟩
 refine hn ag<|gU<|f0 aa ?_
 have aJ:=(O.wk I).put (F':= {F with sp:=F.sp.set (fg.idxOf<|r.getD 0 []) x}) Y ai rfl rfl rfl rfl (by rw [List.length_set]; exact A.iS)
 exact ⟨aa,_,rows,ln,Qm a0,⟨V,R,aJ,(aj.wk I).fb (O.wk I) Y,⟨C.len,C.sl,C.row,C.kd,C.al⟩⟩,((Wk.mw q).trans<|dU.mt J U).trans<|(Wk.mw I).trans<|dU.fb (O.wk I) Y⟩
theorem IX (B:Nat) (H:bP) (F:aE) (rows:List Rw) (ln:Nat) (seen:List Tx) (r:List Tx) (ah:Nat) (ar:Option Addr) (cr:Nat) (w:World) (G:St w B H F rows ln seen) (Y:Tg w ah 9 r.length (.slice ar r.length cr) (r.map str)) (av:r.length=2) (an:∀ x∈r,x.length≤70000):
 dV au 129 (aY [.pointer (some ⟨H.rb,0,none⟩),.slice ar r.length cr]) w (gF B H seen (lI F rows ln r) w) (gE B H (lI F rows ln r) w):=by
 obtain ⟨V,R,C,E,A⟩:=G
 have ac:=Y.c6
 have ad:¬(H.rb=H.fb):=fun h=>by have h1:=E.cells; rw [h,C.cells] at h1; cases h1
 have ax:(r.getD 1 []).length≤70000:=an _<|eR ab
 have ae:¬(bk ar=H.fb):=Tg.rI Y (cK ab) C.cells aw
 obtain ⟨tf,aA,aB⟩:=E.tm
 obtain ⟨aD,ay,az⟩:=E.sm
 refine iw func129 aa ntmps129 aa<|sq fun aq ak=>rg aa<|p (aG (.pointer<|some ⟨H.rb,0,none⟩) aa)<|p (aG (.slice ar r.length cr) aa)<|p (aW dD aa aa ab<|aC.ok (ac.2)<|cK ab)<|p (ld cG aa<|cX.get (i:=1) ac.2 ab)<|eP aa (cC vL (ys H.rb ln (r.getD 1 []) w E.dH ab) aa fun aF O M=> ?_) fun c w' U aI C=>⟨ln,21,PZ U.2.1,U.1,Wk.mw U.2.2⟩
 obtain ⟨rfl,ao,I⟩:=M
 have J:=C.wk I
 have M:=E.wk I
 have Z:=(Y.wk I).c6
 refine nl<|tn<|ak _ _ ?_
 have a:(fun w'=>Md (fun k=>k=H.fb) O w') O.drew:=(Md.refl _ _).drew
 refine bK (fun w'=>Md (fun k=>k=H.fb) O w') aa wide a<|hp 0 aa ag (fun _ _=>aG (.pointer<|some ⟨H.rb,0,none⟩) aa) a<|hp 1 aa ag (fun _ _=>nc aa) a<|hp 2 aa ag (fun _ _=>fa fw aa) a<|hp 3 aa ag (fun w' G=>ld ed aa<|Md.aH G ((aX M.cells).trans aa)<|by first | exact ad | exact ae) a<|hp 4 aa ag (fun _ _=>aG (.slice ar r.length cr) aa) a<|hp 5 aa ag (fun _ _=>aW dD aa aa ab<|aC.ok (Z.2)<|cK ab) a<|hp 6 aa ag (fun w' G=>ld cG aa<|Md.aH G (cX.get (i:=1) Z.2 ab)<|by first | exact ad | exact ae) a<|hp 7 aa ag (fun _ _=>nc aa) a<|hp 8 aa ag (fun _ _=>fa eZ aa) a<|hp 9 aa ag (fun _ _=>fa Mb aa) a<|he 10 aa ag<|dA mP aa aa (v:=str<|r.getD 1 []) aa J.cells (by show _ < 14; omega) fun ap q ai=> ?_
 have q:=gY q
 have am:(fun w'=>Md (fun k=>k=H.fb) O w') ap:=q
 refine ⟨am,?_⟩
 refine hn ag<|gU<|f0 aa ?_
 have aj:=J.put (F':= {F with qS:=r.getD 1 []}) q ai rfl rfl rfl rfl C.iS
 exact ⟨aa,_,rows,ln,P0 ao,⟨V,R,aj,(M.fb J q).congr aa (fun _=>rfl),⟨A.len,A.sl,A.row,A.kd,A.al⟩⟩,(Wk.mw I).trans<|dU.fb J q⟩
theorem Q6 (B:Nat) (H:bP) (F:aE) (rows:List Rw) (ln:Nat) (seen:List Tx) (r:List Tx) (Y:Nat) (ar:Option Addr) (cr:Nat) (w:World) (ai:St w B H F rows ln seen) (M:Tg w Y 9 r.length (.slice ar r.length cr) (r.map str)) (aq:r.length=2) (aj:∀ x∈r,x.length≤70000):
 dV au 130 (aY [.pointer (some ⟨H.rb,0,none⟩),.slice ar r.length cr]) w (gF B H seen (lK F rows ln r) w) (gE B H (lK F rows ln r) w):=by
 obtain ⟨V,R,q,E,a⟩:=ai
 have O:=M.c6
 have ao:¬(H.rb=H.fb):=fun h=>by have h1:=E.cells; rw [h,q.cells] at h1; cases h1
 have av:(r.getD 1 []).length≤70000:=aj _<|eR ab
 have ap:¬(bk ar=H.fb):=Tg.rI M (cK ab) q.cells aw
 obtain ⟨tf,az,aB⟩:=E.tm
 obtain ⟨aD,ax,ay⟩:=E.sm
 refine iw func130 aa ntmps130 aa<|sq fun am ad=>rg aa<|p (aG (.slice ar r.length cr) aa)<|p (aW dD aa aa ab<|aC.ok (O.2)<|cK ab)<|p (ld cG aa<|cX.get (i:=1) O.2 ab)<|e<|cl HR (NK (r.getD 1 []) _ ab) aa fun v10 ak ag=> ?_
 obtain ⟨rfl,A⟩:=ag
 have C:=q.wk A
 have J:=E.wk A
 refine p mv<|p (xt aa aa)<|p (xt aa aa)<|p aA<|p aA<|nl<|tn<|ad _ _<|sq fun an ae=>rg aa<|p (aG (.pointer<|some ⟨H.rb,0,none⟩) aa)<|p mv<|eP aa (cC l1 (mg H.rb ln ((letE<|r.getD 1 []).2:Nat) ak J.dH) aa fun aF aH ah=> ?_) fun c w' I aJ q=>⟨ln,_,Q4 (by have :=I.2.1; omega),I.1,by rw [I.2.2]; exact Wk.mw A⟩
 obtain ⟨rfl,U,rfl⟩:=ah
 have U:(letE<|r.getD 1 []).2=0:=ab
 refine nl<|tn<|ae _ _<|rg aa<|p (aG (.pointer<|some ⟨H.rb,0,none⟩) aa)<|p (nc aa)<|p (fa fw aa)<|p (ld ed aa<|(aX J.cells).trans aa)<|p mv<|p (nc aa)<|p (fa eZ aa)<|p (fa Mc aa)<|e<|dA mP aa aa (v:=str (letE<|r.getD 1 []).1) aa C.cells (by show _ < 14; omega) fun aI G Z=>nl<|gU<|f0 aa ?_
 have ac:=C.put (F':= {F with tr:=(letE<|r.getD 1 []).1}) G Z rfl rfl rfl rfl q.iS
 exact ⟨aa,_,rows,ln,Q5 U,⟨V,R,ac,(J.fb C G).congr aa (fun _=>rfl),⟨a.len,a.sl,a.row,a.kd,a.al⟩⟩,(Wk.mw A).trans<|dU.fb C G⟩
theorem NG (B:Nat) (H:bP) (F:aE) (rows:List Rw) (ln:Nat) (seen:List Tx) (r:List Tx) (ak:Nat) (ar:Option Addr) (cr:Nat) (w:World) (M:St w B H F rows ln seen) (Z:Tg w ak 9 r.length (.slice ar r.length cr) (r.map str)) (aD:r.length=2) (ax:∀ x∈r,x.length≤70000):
 dV au 132 (aY [.pointer (some ⟨H.rb,0,none⟩),.slice ar r.length cr]) w (gF B H seen (jN F rows ln r) w) (gE B H (jN F rows ln r) w):=by
 obtain ⟨V,R,A,C,E⟩:=M
 have ac:=Z.c6
 have ad:¬(H.rb=H.fb):=fun h=>by have h1:=C.cells; rw [h,A.cells] at h1; cases h1
 have aF:(r.getD 1 []).length≤70000:=ax _<|eR ab
 have ae:¬(bk ar=H.fb):=Tg.rI Z (cK ab) A.cells aw
 obtain ⟨tf,aK,aL⟩:=C.tm
 obtain ⟨aM,aI,aJ⟩:=C.sm
 refine iw func132 aa ntmps132 aa<|sq fun aA an=> ?_
 have a:(fun w'=>Md (fun k=>k=H.fb) w w') w.drew:=(Md.refl _ _).drew
 refine bK (fun w'=>Md (fun k=>k=H.fb) w w') aa wide a<|hp 0 aa ag (fun _ _=>aG (.pointer<|some ⟨H.rb,0,none⟩) aa) a<|hp 1 aa ag (fun _ _=>nc aa) a<|hp 2 aa ag (fun _ _=>fa fw aa) a<|hp 3 aa ag (fun w' M=>ld ed aa<|Md.aH M ((aX C.cells).trans aa)<|by first | exact ad | exact ae) a<|hp 4 aa ag (fun _ _=>aG (.pointer<|some ⟨H.rb,0,none⟩) aa) a<|hp 5 aa ag (fun _ _=>aG (.slice ar r.length cr) aa) a<|hp 6 aa ag (fun _ _=>aW dD aa aa ab<|aC.ok (ac.2)<|cK ab) a<|hp 7 aa ag (fun w' M=>ld cG aa<|Md.aH M (cX.get (i:=1) ac.2 ab)<|by first | exact ad | exact ae) a<|pS 8 aa ag aa (cC s8 (tV H.rb ln (r.getD 1 []) 64 w.drew C.dH ab ab) aa fun v12 ay ao=> ?_) fun c w' J az A=>by obtain ⟨e,he,h,h2⟩:=J; exact ⟨ln,e,N9 he,h,Wk.mw<|gY h2⟩
 obtain ⟨n,ah,rfl,q⟩:=ao
 have q:=gY q
 have G:=A.wk q
 have aq:=C.wk q
 have O:(fun w'=>Md (fun k=>k=H.fb) w w') ay:=Md.mono q fun _ _ h=>h.elim
 refine ⟨O,?_⟩
 refine hp 9 aa ag (fun _ _=>nc aa) O<|hp 10 aa ag (fun _ _=>fa eZ aa) O<|hp 11 aa ag (fun _ _=>fa xy aa) O<|he 12 aa ag<|dA kW aa aa (v:= .int .i64 (n:Nat)) aa G.cells (by show _ < 14; omega) fun aj I Y=> ?_
 have U:=aq.fb G I
 have av:(fun w'=>Md (fun k=>k=H.fb) w w') aj:=O.trans' I fun _ _ h=>h
 refine ⟨av,?_⟩
 refine hn ag<|tn<|an _ _<|rg aa<|p (aG (.pointer<|some ⟨H.rb,0,none⟩) aa)<|p (aG (.pointer<|some ⟨H.rb,0,none⟩) aa)<|p (nc aa)<|p (fa fw aa)<|p (ld ed aa<|(aX U.cells).trans aa)<|p (nc aa)<|p (fa eZ aa)<|p (fa xy aa)<|p (ld bW aa<|(aX Y).trans aa)<|p (gt aa aa)<|eP aa (cC fD (fG H.rb ln _ 13 aj U.dH aw) aa fun aN aO ap=> ?_) fun c w' J az A=>by have aB:=of_decide_eq_false J.2.1; exact ⟨ln,13,Oa ah ab,J.1,by rw [J.2.2]; exact (Wk.mw q).trans<|dU.fb G I⟩
 obtain ⟨rfl,ai,rfl⟩:=ap
 have ai:=of_decide_eq_true ai
 refine nl<|gU<|f0 aa ?_
 have am:=G.put (F':= {F with least:=n}) I Y rfl rfl rfl rfl A.iS
 exact ⟨aa,_,rows,ln,Ob ah ab,⟨V,R,am,U.congr aa (fun _=>rfl),⟨E.len,E.sl,E.row,E.kd,E.al⟩⟩,(Wk.mw q).trans<|dU.fb G I⟩
theorem NC (B:Nat) (H:bP) (F:aE) (rows:List Rw) (ln:Nat) (seen:List Tx) (r:List Tx) (aR:Nat) (ar:Option Addr) (cr:Nat) (w:World) (J:St w B H F rows ln seen) (ai:Tg w aR 9 r.length (.slice ar r.length cr) (r.map str)) (bD:r.length=2) (bc:∀ x∈r,x.length≤70000):
 dV au 128 (aY [.pointer (some ⟨H.rb,0,none⟩),.slice ar r.length cr]) w (gF B H seen (jM F seen rows ln r) w) (gE B H (jM F seen rows ln r) w):=by
 obtain ⟨V,R,E,Y,M⟩:=J
 have bx:=ai.c6
 have aI:¬(H.rb=H.fb):=fun h=>by have h1:=Y.cells; rw [h,E.cells] at h1; cases h1
 have bE:(r.getD 1 []).length≤70000:=bc _<|eR ab
 have aJ:¬(bk ar=H.fb):=Tg.rI ai (cK ab) E.cells aw
 obtain ⟨tf,bF,bH⟩:=Y.tm
 obtain ⟨bI,bl,bm⟩:=Y.sm
 refine iw func128 aa ntmps128 aa<|sq fun br a0=>sq fun bs a1=>rg aa<|e<|pw (L:=mh.map str) jS aa aa aa aa fun an ak bA a5 aU=> ?_
 have az:cX ak.heap (some ⟨an,0,none⟩) mh:=aC.fO ⟨_,aU⟩
 have C:Wk w ak:=a5.md
 have aq:=E.wk C
 have Z:=Y.wk C
 have aD:=(ai.wk C).c6
 have bo:=bl.wk C
 have bC:mh.length=8:=rfl
 refine p (bO gP aa aa)<|p mv<|nl<|tn<|a1 _ _<|aB<|lp (fun ao I q=> ∃ (i:Nat),(i≤8)∧(∀ j,j < i→mh.getD j []∉seen)∧(q=ak)∧(I 0= .pointer (some ⟨H.rb,0,none⟩))∧(I 1= .slice ar r.length cr)∧(I 6= .slice (some ⟨an,0,none⟩) 8 8)∧(I 7= .int .i64 (8:Nat))∧(I 8= .int .i64 (i:Nat))∧(8 - i=ao)) _ ⟨0,ab,(fun j aF=>by omega),aa,aa,aa,aa,aa,aa,aa⟩ ?_
 rintro ao I q ⟨i,hi,aK,aV,bf,bg,bh,bi,bj,rfl⟩
 refine fx 0 bf<|fx 1 bg<|fx 6 bh<|fx 7 bi<|fx 8 bj ?_
 subst aV
 refine sq fun bt a2=>rg aa<|p (lt aa aa)<|nl<|tn<|a2 _ _<|sq fun bu a3=>cd aa (fun bb=> ?_) fun bb=> ?_
 refine aM<|tn<|a3 _ _<|sq fun aS ae=>aB<|sq fun bv a4=>rg aa<|p (aW dD aa aa ab<|aC.ok (az)<|cK ab)<|p (ld cG aa<|cX.get (i:=i) az ab)<|p aA<|nl<|tn<|a4 _ _<|rg aa<|p (aG (.pointer<|some ⟨H.rb,0,none⟩) aa)<|p (aG (.pointer<|some ⟨H.rb,0,none⟩) aa)<|p (nc aa)<|p (fa pN aa)<|p (ld ph aa<|(aX Z.cells).trans aa)<|p mv<|p (me nU mx fZ (bo) aa aa (⟨_,aa⟩)<|bm _)<|p (bS aa aa)<|eP aa (cC fD (fG H.rb ln _ 113 q Z.dH aw) aa fun v20 bL a6=> ?_) fun c w' A bq E=>⟨ln,113,Nz (k:=mh.getD i []) (eR ab) (by have h:=of_decide_eq_false A.2.1; exact lf.1 fun h2=>h<|by have :=n6.2 h2; omega),A.1,by rw [A.2.2]; exact Wk.mw C⟩
 obtain ⟨rfl,aj,rfl⟩:=a6
 have aj:mh.getD i []∉seen:=n6.1<|by have :=of_decide_eq_true aj; omega
 exact nl<|bn<|tn<|ae _ _<|rg aa<|p (ad aa aa<|bR ab)<|p mv<|nl<|tn<|⟨_,ab,i+1,ab,(fun j aF=>by rcases gC j i with h | h <;> first | exact aK j h | (rw [show j=i by omega]; exact aj)),aa,aa,aa,aa,aa,aa,aa⟩
 refine ext<|te _<|te _<|be<|tn<|a0 _ _<|sq fun aS ae=> ?_
 have aL:ordered seen=true :=(Du seen).2 fun k hk=>by obtain ⟨j,aF,rfl⟩:=oG [] hk; exact aK j ab
 have a:(fun w'=>Md (fun k=>k=H.fb) q w') q.drew:=(Md.refl _ _).drew
 refine bK (fun w'=>Md (fun k=>k=H.fb) q w') aa wide a<|hp 0 aa ag (fun _ _=>aG (.pointer<|some ⟨H.rb,0,none⟩) aa) a<|hp 1 aa ag (fun _ _=>nc aa) a<|hp 2 aa ag (fun _ _=>fa fw aa) a<|hp 3 aa ag (fun w' J=>ld ed aa<|Md.aH J ((aX Z.cells).trans aa)<|by first | exact aI | exact aJ) a<|hp 5 aa ag (fun _ _=>aG (.slice ar r.length cr) aa) a<|hp 6 aa ag (fun _ _=>aW dD aa aa ab<|aC.ok (aD.2)<|cK ab) a<|hp 7 aa ag (fun w' J=>ld cG aa<|Md.aH J (cX.get (i:=1) aD.2 ab)<|by first | exact aI | exact aJ) a<|he 4 aa ag<|pw (L:=kinds.map str) jS aa aa aa aa fun am aP bz ax aT=> ?_
 have a9:cX aP.heap (some ⟨am,0,none⟩) kinds:=aC.fO ⟨_,aT⟩
 have O:=gY ax.md
 have ay:(fun w'=>Md (fun k=>k=H.fb) q w') aP:=a.trans' ax.md fun _ _ h=>h.elim
 refine ⟨ay,?_⟩
 refine he 8 aa ag<|cl Ap (CE kinds (some ⟨am,0,none⟩) 3 (r.getD 1 []) _ a9 aw) aa fun v30 bp a7=> ?_
 obtain ⟨aN,rfl⟩:=a7
 rw [Nu] at aN
 subst aN
 have bB:=Nv<|r.getD 1 []
 have G:(fun w'=>Md (fun k=>k=H.fb) q w') bp:=ay
 refine ⟨G,?_⟩
 refine hp 9 aa ag (fun _ _=>bG ((jL (r.getD 1 []):Nat):Int) aa aa<|bd ab ab) G<|hp 10 aa ag (fun _ _=>nc aa) G<|hp 11 aa ag (fun _ _=>fa eZ aa) G<|hp 12 aa ag (fun _ _=>fa pO aa) G<|he 13 aa ag<|dA kW aa aa (v:= .int .i64 (jL (r.getD 1 []):Nat)) aa ((aq.wk O).cells) (by show _ < 14; omega) fun aQ U ap=> ?_
 have ac:=aq.wk O
 have ah:=(Z.wk O).fb ac U
 have av:=((Wk.mw C).trans<|Wk.mw O).trans<|dU.fb ac U
 have ba:(fun w'=>Md (fun k=>k=H.fb) q w') aQ:=G.trans' U fun _ _ h=>h
 refine ⟨ba,?_⟩
 refine hn ag<|tn<|ae _ _<|rg aa<|p (aG (.pointer<|some ⟨H.rb,0,none⟩) aa)<|p (aG (.pointer<|some ⟨H.rb,0,none⟩) aa)<|p (nc aa)<|p (fa fw aa)<|p (ld ed aa<|(aX ah.cells).trans aa)<|p (nc aa)<|p (fa eZ aa)<|p (fa pO aa)<|p (ld bW aa<|(aX ap).trans aa)<|p (gt aa aa)<|eP aa (cC fD (fG H.rb ln _ 114 aQ ah.dH aw) aa fun bJ bM a8=> ?_) fun c w' A bq E=>by have bw:=of_decide_eq_false A.2.1; exact ⟨ln,114,NA aL ab,A.1,by rw [A.2.2]; exact av⟩
 obtain ⟨rfl,aO,rfl⟩:=a8
 have aO:=of_decide_eq_true aO
 refine nl<|gU<|f0 aa ?_
 have aZ:=ac.put (F':= {F with kind:=jL<|r.getD 1 []}) U ap rfl rfl rfl rfl E.iS
 exact ⟨aa,_,rows,ln,NB aL ab,⟨V,R,aZ,ah.congr aa (fun _=>rfl),⟨M.len,M.sl,M.row,(by show jL (r.getD 1 [])=1∨jL (r.getD 1 [])=2∨jL (r.getD 1 [])=3; omega),M.al⟩⟩,av⟩
end Go.Hb
namespace Go.Hb.oa
theorem A0 {h:Array Obj} {b:Nat} {f:UInt8→Bool} (a:bA h b (du f)) (c:UInt8):Hb.aH h b (0 +((c.toNat / 64:Nat):Int).toNat*1)=some (.int .u64<|dF f<|c.toNat / 64):=by
 have i:=iM c
 rw [a.aH,show 0 +((c.toNat / 64:Nat):Int).toNat*1=c.toNat / 64 from by omega]; exact wi f ab
theorem Jx {h:Array Obj} {b:Nat} {f:UInt8→Bool} {c:UInt8} (a:bA h b ((du f).set (0 +((c.toNat / 64:Nat):Int).toNat*1)<|.int .u64 ((dF f (c.toNat / 64) ||| 2 ^ (c.toNat % 64):Nat):Int))):bA h b (du (fun x=>f x || decide (x=c))):=by
 rw [show 0 +((c.toNat / 64:Nat):Int).toNat*1=c.toNat / 64 from by omega,Js] at a; exact a
theorem Ju {f g:UInt8→Bool} (h:∀ b,f b=g b):du f=du g:=by rw [show f=g from funext h]
theorem MW {l:List UInt8} {i:Nat} (h:i < l.length) (x:UInt8):(decide (x∈l.take i) || decide (x=l.getD i 0))=decide (x∈l.take (i+1)):=by
 rw [ka l i 0 h,← Bool.decide_or]
 exact decide_eq_decide.2<|by rw [mC,lj]
theorem yq {w:World} {B e n cp i:Nat} {a:Option Addr} {l:List UInt8} (h:w.ownsRow B e 1 (.slice a n cp) n (U8 l)) (hi:i≤n) (hn:0 < n):w.ownsRow B e 1 (.slice a i cp) i (U8<|l.take i):=by
 have c:a≠none:=by
  rintro rfl
  rcases h.2 with ⟨_,h5⟩ | ⟨g,cap,cur,h4,_⟩
  · omega
  · simp at h4
 have :=Dw h hi c
 rw [Nat.mul_one] at this
 unfold U8 at*
 rwa [F5]
theorem OR {w:World} {B e n cp:Nat} {a:Option Addr} {xs:List Value} (h:w.ownsRow B e 1 (.slice a n cp) n xs) (hn:0 < n):∃ c,a=some ⟨c,0,none⟩:=by
 rcases h.2 with ⟨_,h5⟩ | ⟨g,cap,cur,h4,_⟩
 · omega
 · simp only [Value.slice.injEq] at h4; exact ⟨g,h4.1⟩
theorem Ra {w:World} {B e n cp j:Nat} {a:Option Addr} {l:List UInt8} (h:w.ownsRow B e 1 (.slice a n cp) n (U8 l)):aC w.heap (ez a cp j 1) (U8<|l.drop j):=by
 have h2:=(aT h).2.drop (cap:=cp) (k:=j) (size:=1)<|by have h1:=h.1; have h3:=(aT h).1; omega
 rw [Nat.mul_one] at h2
 unfold U8 at*
 rwa [List.map_drop]
theorem yN {w:World} {B e n:Nat} {v:Value} {l:List UInt8} (h:w.ownsRow B e 1 v n (U8 l)):l.length=n:=by have :=h.1; rw [sO] at this; omega
theorem DG (b:Nat) (c:UInt8) (f:UInt8→Bool) (w:World) (i:bA w.heap b (du f)):
 ba au 209 (aY [aU b,.int .u8 c.toNat]) w (fun v w'=>v= .tuple #[]∧bA w'.heap b (du (fun x=>f x || decide (x=c)))∧Md (fun q=>q=b) w w'):=by
 have I:=iM c
 refine enter func209 aa ntmps209 aa ?_
 have a:(fun w'=>Wk w w') w.drew:=(Md.refl _ _).drew
 refine ei (fun w'=>Wk w w') 12 aa wide a<|bg 0 aa (aU b) a<|bg 1 aa (.int .u8 c.toNat) a<|bp 2 aa (fun _=>shr aa aa aw<|D3 c) (fun _=>a)<|bp 3 aa (fun _=>nc aa) (fun _=>a)<|bp 4 aa (fun _=>kv oq aa aa ab) (fun _=>a)<|dM 5 aa (fun w' G=>ld pc aa<|Wk.aH G<|A0 i c) a<|bg 6 aa (.int .u8 c.toNat) a<|bp 7 aa (fun _=>dW aa aa<|zX c) (fun _=>a)<|bp 8 aa (fun _=>shl aa aa ab<|P3 ab) (fun _=>a)<|bp 9 aa (fun _=>z8 aa aa<|OM (qg _ _)<|Nat.pow_lt_pow_right aw ab) (fun _=>a)<|bp 10 aa (fun _=>nc aa) (fun _=>a)<|bp 11 aa (fun _=>kv oq aa aa ab) (fun _=>a)<|cQ 12 aa ag ag<|st Kk aa aa (aa) (a.B i) (by rw [ta]; omega) fun J E C=> ?_
 have A:=Jx C
 refine eh ag<|f0 aa ?_
 exact ⟨aa,A,Md.trans (Md.refl _ _).drew E⟩
theorem Ct (f:UInt8→Bool) (c:UInt8) (w:World):
 ba au 251 (aY [.agg (du<|f).toArray,.int .u8 c.toNat]) w (fun v w'=>v= .bool (f c)∧Wk w w'):=by
 have G:=iM c
 exact enter func251 aa ntmps251 aa<|ak fun a=>e<|jq aa fun C I E A q=>ay<|a<|ak fun i=>ao (.int .u8 c.toNat)<|p (shr aa aa aw<|D3 c)<|p (kv oq aa aa ab)<|p (ld pc aa<|A0 q c)<|ao (.int .u8 c.toNat)<|p (dW aa aa<|zX c)<|p (shr aa aa ab<|P8 _ ab)<|p (dW aa aa<|G0<|Nat.lt_of_le_of_lt (Nat.div_le_self _ _)<|qg _ _)<|p (bS aa aa)<|ay<|i<|rt<|a6 aa<|⟨congrArg bL (RF f c),A.md⟩
theorem yo (f:UInt8→Bool) (w:World):
 ba au 208 (aY [.agg (du<|f).toArray]) w (fun v w'=>v= .agg (du fun x=> !f x).toArray∧Wk w w'):=by
 exact enter func208 aa ntmps208 aa<|ak fun q=>e<|jq aa fun I V M i c=>e<|al oP fun J Y O a C=>nl<|q<|ak fun A=>p (kv oq aa aa ab)<|p (ld pc aa<|(a.md.B c).aH 0)<|p (tc aa)<|p (kv oq aa aa ab)<|p (ld pc aa<|(a.md.B c).aH 1)<|p (tc aa)<|p (kv oq aa aa ab)<|p (ld pc aa<|(a.md.B c).aH 2)<|p (tc aa)<|p (kv oq aa aa ab)<|p (ld pc aa<|(a.md.B c).aH 3)<|p (tc aa)<|p (z7 (ps:= [(0,.int .u64 (dF (fun x=> !f x) 0:Nat)),(1,.int .u64 (dF (fun x=> !f x) 1:Nat)),(2,.int .u64 (dF (fun x=> !f x) 2:Nat)),(3,.int .u64 (dF (fun x=> !f x) 3:Nat))]) (L:= [.int .u64 (dF (fun x=> !f x) 0:Nat),.int .u64 (dF (fun x=> !f x) 1:Nat),.int .u64 (dF (fun x=> !f x) 2:Nat),.int .u64 (dF (fun x=> !f x) 3:Nat)]) z1 aa<|aa)<|e<|cw mN aa (vs:=du fun x=> !f x) aa aa aa C aw fun Z G E=>nl<|A<|rt<|q8 aa (dy aa iX aa fun j U=>by rw [fj]; exact E.aH j)<|⟨aa,Md.trans' (Md.trans i.md a.md) G fun k hk h=>by have :=i.md.size; omega⟩
theorem Cu (f:UInt8→Bool) (c:UInt8) (ci:Int) (w:World) (a:(c.toNat:Int)=ci):ba au 251 (aY [.agg (du<|f).toArray,.int .u8 ci]) w (fun v w'=>v= .bool (f c)∧Wk w w'):=by
 subst a; exact Ct f c w
theorem Ae (f:UInt8→Bool) (w:World):
 ba au 280 (aY [.agg (du<|f).toArray]) w (fun v w'=>bm w' w.heap.size 5 1 (v) (bytesOf f).length (U8<|bytesOf f)∧Wk w w'):=by
 refine enter func280 aa ntmps280 aa<|ak fun Y=>e<|jq aa fun am O aO J an=>ay<|Y<|ak fun Z=>ay<|Z<|az fun ac=>ak fun ae=>p mv<|nl<|ae<|aB<|lp (fun U I G=> ∃ (i:Nat) (a:Value),(i≤256)∧(bm G O.heap.size 5 1 (a) (mL f i).length<|U8<|mL f i)∧(Wk O G)∧(I 1=aU am)∧(I 3=a)∧(I 5=aj i)∧(256 - i=U)) _ ⟨0,.slice none 0 0,ab,(dI _ _ _ _),(Md.refl _ _),aa,aa,aa,aa⟩ ?_
 rintro U I G ⟨i,a,hi,E,q,aF,aG,aI,rfl⟩
 refine fx 1 aF<|fx 3 aG<|fx 5 aI ?_
 have aN:Wk w G:=Md.trans J.md q
 have aQ:=qP f i
 have aT:=q.size
 refine ak fun ag=>p (lt aa aa)<|nl<|ag<|az fun ah=>cd aa (fun ax=> ?_) fun ax=> ?_
 refine aM<|ah<|az fun A=>aB<|ak fun ai=>ao (aj i)<|p (bY (aj i) aa)<|nl<|ai<|ak fun al=>p (cI iX aa (aa) fun j aS=>by rw [fj]; exact (q.B an).aH j)<|ao (aj i)<|p (l5 u5 qe aa<|yV ab)<|e<|cl vR (Cu f (UInt8.ofNat i) _ _<|ED i ab) aa fun v11 aX aw=> ?_
 obtain ⟨rfl,c⟩:=aw
 refine nl<|al<|cb aa (fun M=> ?_) fun M=> ?_
 refine rg aa<|ao (a)<|ao (aj i)<|p (l5 u5 qe aa<|yV ab)<|e<|kT oM aa aa fun aL aZ aP C aq=>e<|ap oM (aV (aV E c) C.md) aa (by have :=c.size; have :=C.md.size; omega) aa (aC.fO aq) (aa) (aa) ab ab fun aJ aK V av aW aR=> ?_
 rw [← ED i ab] at V
 have aE:=OQ V
 have ar:Wk O aK:=Wk.own (Md.trans (Md.trans q c) C.md) (aV (aV E c) C.md) av<|bX _
 exact p aA<|nl<|bn<|A<|rg aa<|p (ad aa aa<|bR ab)<|p mv<|nl<|tn<|⟨_,ab,i+1,aJ,ab,(by rw [Ad,if_pos M]; exact aE),ar,aa,aa,aa,aa⟩
 exact aM<|bn<|A<|rg aa<|p (ad aa aa<|bR ab)<|p mv<|nl<|tn<|⟨_,ab,i+1,a,ab,(by rw [Ad,if_neg (by rw [M]; exact c8),dS]; exact aV E c),(Md.trans q c),aa,aa,aa,aa⟩
 refine ext<|bc<|bc<|be<|ac<|ak fun A=>ao (a)<|p (bY (a) aa)<|nl<|A<|rt<|a6 aa ?_
 have aD:i=256:=ab
 subst aD
 exact ⟨eD E J.md.size,Md.trans J.md q⟩
theorem JD (s:List UInt8) (w:World) (hs:s.length≤1048576):
 ba au 250 (aY [str s]) w (fun v w'=>v= .agg (du fun x=>decide (x∈s)).toArray∧Wk w w'):=by
 refine enter func250 aa ntmps250 aa<|ak fun Y=>e<|al oP fun C aQ aL U G=>nl<|Y<|ak fun Z=>e<|al oP fun c aK aO V an=> ?_
 have ap:bA aK.heap c (du fun x=>decide (x∈s.take 0)):=by rw [show (fun x=>decide (x∈s.take 0))=(fun _:UInt8=>false) from funext fun x=>by simp,wj]; exact an
 refine nl<|Z<|az fun ac=>ak fun ae=>ao (str s)<|p (db u9 aa aa)<|p mv<|nl<|ae<|aB ?_
 have aN:=G.lt
 refine lp (fun E a q=> ∃ (i:Nat),(i≤s.length)∧(bA q.heap c<|du fun x=>decide (x∈s.take i))∧(bA q.heap C [.int .u64 0,.int .u64 0,.int .u64 0,.int .u64 0])∧(Wk w q)∧(a 0=str s)∧(a 2=aU C)∧(a 3=aU c)∧(a 6=aj (s.length))∧(a 7=aj i)∧(s.length - i=E)) _ ⟨0,ab,ap,(V.md.B G),(Md.trans U.md V.md),aa,aa,aa,aa,aa,aa⟩ ?_
 rintro E a q ⟨i,hi,I,J,M,aC,aD,aE,aF,aG,rfl⟩
 refine fx 0 aC<|fx 2 aD<|fx 3 aE<|fx 6 aF<|fx 7 aG<|ak fun ag=>p (lt aa aa)<|nl<|ag<|az fun ah=>cd aa (fun ay=> ?_) fun ay=> ?_
 refine aM<|ah<|az fun A=>aB<|ak fun ai=>ao (aj i)<|p (bY (aj i) aa)<|nl<|ai<|rg aa<|ao (str s)<|ao (aj i)<|p (ja u9 aa aa ab)<|e<|cl Ax (DG c (s.getD i 0) _ _ I) aa fun aP aJ ax=> ?_
 obtain ⟨rfl,am,O⟩:=ax
 have ar:Wk w aJ:=Md.trans' M O fun k hk h=>by have :=U.md.size; omega
 exact nl<|bn<|A<|rg aa<|p (ad aa aa<|bR ab)<|p mv<|nl<|tn<|⟨_,ab,i+1,ab,(by rw [Ju (fun x=>(MW (show i < s.length by omega) x).symm)]; exact am),(O.B J fun h=>by omega),ar,aa,aa,aa,aa,aa,aa⟩
 refine ext<|bc<|bc<|be<|ac<|ak fun A=>p (cI iX aa (aa) fun j aA=>by rw [fj]; exact (I).aH j)<|e<|cw mN aa (vs:=du fun x=>decide (x∈s.take i)) aa aa aa J aw fun aR av aq=>nl<|A<|rt<|q8 aa (dy aa iX aa fun j aA=>by rw [fj]; exact aq.aH j) ?_
 have aI:s.take i=s:=eL ab
 rw [aI]
 exact ⟨aa,Md.trans' M av fun k hk h=>by omega⟩
theorem MY (s:List UInt8) (c:UInt8) (w:World):
 ba au 248 (aY [str s,.int .u8 c.toNat]) w (fun v w'=>v= .int .i64 (dK c s)∧Wk w w'):=by
 exact enter func248 aa ntmps248 aa<|ak fun a=>ay<|a<|ak fun i=>ao (str s)<|ao (.int .u8 c.toNat)<|e<|cl AE (CD s c _) aa fun A C q=>ay<|i<|rt<|a6 aa<|q
theorem Kb (s pr:List UInt8) (w:World) (hs:s.length≤1099511627776) (I:pr.length≤1099511627776):
 ba au 270 (aY [str s,str pr]) w (fun v w'=>v= .tuple #[str (eF s pr),.bool (decide (s.take pr.length=pr))]∧Wk w w'):=by
 refine enter func270 aa ntmps270 aa<|ak fun A=>p aA<|ay<|A<|az fun C=>az fun E=>rg aa<|ao (str s)<|ao (str pr)<|e<|cl vQ (xH s pr _ hs I) aa fun M O G=> ?_
 obtain ⟨rfl,q⟩:=G
 refine p (no aa)<|nl<|E<|cb aa (fun i=> ?_) fun i=> ?_
 have a:¬s.take pr.length=pr:=by simpa using i
 exact ak fun c=>ao (str s)<|p (bY (str s) aa)<|ay<|c<|rt<|tr<|f2 aa aa aa<|⟨by unfold eF; rw [if_neg a,decide_eq_false a]; rfl,q⟩
 have a:s.take pr.length=pr:=by simpa using i
 have J:=yu a
 exact aM<|C<|ak fun c=>ao (str s)<|ao (str pr)<|p (db u9 aa aa)<|p (mZ u9 aa aa ab)<|p aA<|ay<|c<|rt<|f2 aa aa aa<|⟨by unfold eF; rw [if_pos a,decide_eq_true a]; rfl,q⟩
theorem Kc (s pr:List UInt8) (w:World) (hs:s.length≤1099511627776) (A:pr.length≤1099511627776):
 ba au 249 (aY [str s,str pr]) w (fun v w'=>v= .tuple #[str (eF s pr),.bool (decide (s.take pr.length=pr))]∧Wk w w'):=by
 refine enter func249 aa ntmps249 aa<|ak fun a=>p aA<|ay<|a<|ak fun c=>ao (str s)<|ao (str pr)<|e<|cl If (Kb s pr _ hs A) aa fun C E q=> ?_
 obtain ⟨rfl,i⟩:=q
 exact p (xt aa aa)<|p (xt aa aa)<|p aA<|ay<|c<|rt<|f2 aa aa aa<|⟨aa,i⟩
theorem QY (s pr:List UInt8):(eF s pr).length≤s.length:=by unfold eF; split <;> simp
def gl (s:List UInt8) (k:Nat):List UInt8:=(s.drop k).take<|(s.drop k).idxOf 93
theorem Hn (s:List UInt8) (k:Nat):(gl s k).length≤s.length:=by unfold gl; rw [dT,fI]; omega
theorem Hm (s:List UInt8) (k:Nat):(s.take<|k+(s.drop k).idxOf 93).drop k=gl s k:=by
 rw [u7,Nat.add_sub_cancel_left]; rfl
def nA (s:List UInt8) (k:Nat):UInt8→Bool:=fun x=>if (gl s k).take 1= [94] then !decide (x∈eF (gl s k) [94]) else decide (x∈eF (gl s k) [94])
theorem Hq {s:List UInt8} {k:Nat} (h:(gl s k).take [(94:UInt8)].length= [94]):nA s k=fun x=> !decide (x∈eF (gl s k) [94]):=by
 funext x; exact if_pos h
theorem Hr {s:List UInt8} {k:Nat} (h:¬(gl s k).take [(94:UInt8)].length= [94]):nA s k=fun x=>decide (x∈eF (gl s k) [94]):=by
 funext x; exact if_neg h
theorem Ho (s:List UInt8) (k:Nat) (w:World) (hs:s.length≤1048576) (hk:k≤s.length):
 ba au 207 (aY [str s,aj k]) w (fun v w'=>(∃ f,v= .tuple #[.agg (du f).toArray,.int .i64 (if dK 93 (s.drop k) < 0 then 0 else ((k+(s.drop k).idxOf 93 +1:Nat):Int)),.bool (!decide (dK 93 (s.drop k) < 0) && decide (eF (gl s k) [94]≠[]))]∧(¬dK 93 (s.drop k) < 0→f=nA s k))∧Wk w w'):=by
 refine enter func207 aa ntmps207 aa<|ak fun aq=>e<|al oP fun ac bp a7 G E=>p aA<|ay<|aq<|az fun ar=>rg aa<|ao (str s)<|ao (aj k)<|p (mZ u9 aa aa ab)<|e<|cl H9 (MY (s.drop k) 93 _) aa fun bg bk aR=> ?_
 obtain ⟨rfl,a⟩:=aR
 have bb:(s.drop k).length=s.length - k:=fI
 refine ay<|ar<|az fun av=>ak fun ax=>p mv<|p (lt aa aa)<|nl<|ax<|cd aa (fun i=> ?_) fun i=> ?_
 refine ak fun J=>p (z7 (ps:= []) (L:= [.int .u64 0,.int .u64 0,.int .u64 0,.int .u64 0]) z1 aa<|aa)<|e<|cw mN aa (vs:=du fun _=>false) (by rw [wj]; rfl) aa aa (a.B E) aw fun bn aP aD=>p aA<|ay<|J<|rt<|tr<|BB aa (dy aa iX aa fun j Y=>by rw [fj]; exact aD.aH j) dR dR ?_
 refine ⟨⟨fun _=>false,by rw [if_pos i,decide_eq_true i]; rfl,fun h=>absurd i h⟩,Md.trans' (Md.trans G.md a) aP fun k hk h=>by omega⟩
 have bc:=pT (c:=93) (l:=s.drop k) i
 have a9:(gl s k).length≤s.length:=Hn s k
 refine aM<|av<|az fun J=> ?_
 have ap:=Hm s k
 refine rg aa<|ao (str s)<|ao (aj k)<|ao (aj k)<|p mv<|p (bG ((k+(s.drop k).idxOf 93:Nat):Int) aa aa<|bd ab ab)<|p (rT u9 aa aa aa ab)<|e<|cl Ia (Kc ((s.take<|k+(s.drop k).idxOf 93).drop k) [94] _ (by rw [ap]; omega) aw) aa fun bh bl an=> ?_
 rw [ap] at an
 obtain ⟨rfl,A⟩:=an
 have bf:=QY (gl s k) [94]
 refine p mv<|p (xt aa aa)<|p (xt aa aa)<|p aA<|ay<|J<|az fun aB=>rg aa<|p mv<|e<|cl Ib (JD (eF (gl s k) [94]) _ ab) aa fun bi bm aS=> ?_
 obtain ⟨rfl,C⟩:=aS
 refine e<|al oP fun Z a2 a6 am aC=> ?_
 have aK:Wk w a2:=Md.trans G.md<|Md.trans a<|Md.trans A<|Md.trans C am.md
 have ad:=am.md.B<|C.B<|A.B<|a.B E
 have a8:=ad.lt
 refine e<|cw mN aa (vs:=du fun x=>decide (x∈eF (gl s k) [94])) aa aa aa aC aw fun a3 ah O=> ?_
 have ag:Wk w a3:=Md.trans' aK ah fun k hk h=>by have :=G.md.size; have :=a.size; have :=A.size; have :=C.size; omega
 have ae:=ah.B ad fun h=>by have :=E.lt; have :=a.size; have :=A.size; have :=C.size; omega
 refine nl<|aB ?_
 refine ep (fun q I=>(bA I.heap Z<|du<|nA s k)∧(bA I.heap ac [.int .u64 0,.int .u64 0,.int .u64 0,.int .u64 0])∧(Wk w I)∧(q 0=str s)∧(q 1=aj k)∧(q 4=aU ac)∧(q 7= .int .i64 (dK 93<|s.drop k))∧(q 8=str (eF (gl s k) [94]))∧(q 10=aU Z)) ?_ ?_
 refine ak fun M=>p mv<|nl<|M<|cb aa (fun V=> ?_) fun V=> ?_
 refine rg aa<|p (cI iX aa (aa) fun j Y=>by rw [fj]; exact (O).aH j)<|e<|cl vO (yo (fun x=>decide (x∈eF (gl s k) [94])) _) aa fun bj bo aT=> ?_
 obtain ⟨rfl,U⟩:=aT
 refine e<|cw mN aa (vs:=du fun x=> !decide (x∈eF (gl s k) [94])) aa aa aa (U.B O) (bX 4) fun a4 ai aF=> ?_
 have aL:Wk w a4:=Md.trans' (Md.trans ag U) ai fun k hk h=>by have :=G.md.size; have :=a.size; have :=A.size; have :=C.size; omega
 have aE:=ai.B (U.B ae) fun h=>by have :=E.lt; have :=a.size; have :=A.size; have :=C.size; omega
 exact nl<|tn<|⟨(by rw [Hq (by simpa using V)]; exact aF),aE,aL,aa,aa,aa,aa,aa,aa⟩
 exact aM<|tn<|⟨(by rw [Hr (by simpa using V)]; exact O),ae,ag,aa,aa,aa,aa,aa,aa⟩
 rintro q I ⟨aI,aJ,aO,aV,aW,aZ,a0,a1,aX⟩
 refine fx 0 aV<|fx 1 aW<|fx 4 aZ<|fx 7 a0<|fx 8 a1<|fx 10 aX<|ak fun M=>p (cI iX aa (aa) fun j Y=>by rw [fj]; exact (aI).aH j)<|ao (aj k)<|ao (.int .i64<|dK 93<|s.drop k)<|p (bG ((k+(s.drop k).idxOf 93:Nat):Int) aa aa<|bd ab ab)<|p (bG ((k+(s.drop k).idxOf 93 +1:Nat):Int) aa aa<|bd ab ab)<|ao (str<|eF (gl s k) [94])<|p (rJ aa aa)<|e<|cw mN aa (vs:=du<|nA s k) aa aa aa aJ aw fun a5 aQ aG=> ?_
 have aN:Wk w a5:=Md.trans' aO aQ fun k hk h=>by omega
 refine p aA<|ay<|M<|rt<|BB aa (dy aa iX aa fun j Y=>by rw [fj]; exact aG.aH j) dR dR ?_
 refine ⟨⟨nA s k,by rw [if_neg i,decide_eq_false i]; rfl,fun _=>rfl⟩,aN⟩
theorem MX (l:List UInt8) (a:Option Addr) (n c:Nat) (x:UInt8) (w:World) (G:aC w.heap a (U8 l)) (hn:l.length=n) (ar:n≤1048576):
 ba au 281 (aY [.slice a n c,.int .u8 x.toNat]) w (fun v w'=>v= .int .i64 (dK x l)∧Wk w w'):=by
 refine enter func281 aa ntmps281 aa<|ak fun O=>ay<|O<|az fun U=>ak fun V=>ao (.slice a n c)<|p (bO nT aa aa)<|p mv<|nl<|V<|aB<|lp (fun E q M=> ∃ (i:Nat),(i≤n)∧(∀ j,j < i→l.getD j 0≠x)∧(M=w)∧(q 0= .slice a n c)∧(q 1= .int .u8 x.toNat)∧(q 7=aj n)∧(q 8=aj i)∧(n - i=E)) _ ⟨0,ab,(fun j J=>by omega),aa,aa,aa,aa,aa,aa⟩ ?_
 rintro E q M ⟨i,hi,C,ah,al,am,an,ap,rfl⟩
 refine fx 0 al<|fx 1 am<|fx 7 an<|fx 8 ap ?_
 subst ah
 refine ak fun Y=>p (lt aa aa)<|nl<|Y<|az fun Z=>cd aa (fun ai=> ?_) fun ai=> ?_
 refine aM<|Z<|az fun A=>aB<|ak fun ac=>ao (aj i)<|p (bY (aj i) aa)<|nl<|ac<|ak fun ae=>ao (.int .u8 x.toNat)<|ao (.slice a n c)<|ao (aj i)<|p (aW oy aa aa ab<|aC.ok (G)<|yO ab)<|p (ld vv aa<|yM (i:=i) G ab)<|p (bS aa aa)<|nl<|ae<|cd aa (fun I=> ?_) fun I=> ?_
 have aq:l.getD i 0=x:=o4.1 ab
 exact ak fun ag=>ao (aj i)<|p (bY (aj i) aa)<|nl<|ag<|rt<|br<|tr<|tr<|br<|tr<|a6 aa<|⟨by rw [Ng (show i < l.length by omega) C aq]; rfl,Md.refl _ _⟩
 exact aM<|bn<|A<|rg aa<|p (ad aa aa<|bR ab)<|p mv<|nl<|tn<|⟨_,ab,i+1,ab,(fun j J=>by rcases gC j i with h | h <;> first | exact C j h | (rw [show j=i by omega]; exact fun h2=>I<|by rw [h2])),aa,aa,aa,aa,aa,aa⟩
 exact ext<|bc<|bc<|be<|U<|ak fun A=>p aA<|nl<|A<|rt<|a6 aa<|⟨by rw [Nh (fun j J=>C j ab)]; rfl,Md.refl _ _⟩
theorem Kw (l:List UInt8) (i j:Nat) (B n cp a:Nat) (w:World) (A:bm w B 5 1 (.slice (some ⟨a,0,none⟩) n cp) n (U8 l)) (ah:i < j∧j≤n) (al:n≤1048576):
 ba au 282 (aY [.slice (some ⟨a,0,none⟩) n cp,aj i,aj j]) w (fun v w'=>v= .slice (some ⟨a,0,none⟩) (i+(n - j)) cp∧bm w' B 5 1 (.slice (some ⟨a,0,none⟩) (i+(n - j)) cp) (i+(n - j)) (U8<|l.take i++l.drop j)∧Md (fun q=>q=a) w w'):=by
 have ai:=yN A
 have ae:=(aT A).1
 refine enter func282 aa ntmps282 aa<|ak fun C=>ay<|C<|ak fun E=>ao (.slice (some ⟨a,0,none⟩) n cp)<|ao (aj i)<|ao (aj j)<|ao (.slice (some ⟨a,0,none⟩) n cp)<|p (bO nT aa aa)<|p (Qc oy aa aa aa aa ab)<|nl<|E<|az fun G=>ak fun I=>ao (aj i)<|ao (aj j)<|p (bS aa aa)<|nl<|I<|cd aa (fun h=>absurd h ab) fun ad=>aM<|G<|ak fun J=>ao (.slice (some ⟨a,0,none⟩) n cp)<|p (bO nT aa aa)<|p aA<|nl<|J<|az fun M=> ?_
 have c:(fun w'=>Wk w w') w.drew:=(Md.refl _ _).drew
 refine ei (fun w'=>Wk w w') 6 aa wide c<|bg 0 aa (.slice (some ⟨a,0,none⟩) n cp) c<|bg 1 aa (aj i) c<|bp 2 aa (fun _=>uf oy aa aa ab) (fun _=>c)<|bg 3 aa (.slice (some ⟨a,0,none⟩) n cp) c<|bg 4 aa (aj j) c<|bp 5 aa (fun _=>rS oy aa aa ab) (fun _=>c)<|cQ 6 aa ag ag<|G3 (B:=B) (xs:=U8<|l.take i) (news:=U8<|l.drop j) (n:=i) (m:=n - j) oM (yq (aV A c) ab ab) aa aa (show aC _ (ez (some ⟨a,0,none⟩) cp j 1) (U8<|l.drop j) from Ra<|aV A c) (by unfold ez; split <;> simp) (by rw [sO,fI]; omega) (GD _) ab fun am V Z=>bp 7 aa (fun _=>aA) (fun h=>c8<|(show true =_ from by kernel_rfl).trans h)<|eh ag<|M<|ak fun O=>ao (.slice (some ⟨a,0,none⟩) (i+(n - j)) cp)<|ao (.slice (some ⟨a,0,none⟩) (i+(n - j)) cp)<|p (bO nT aa aa)<|p mv<|p (Qd oy aa aa aa ab) ?_
 exact e<|Jp nT Sa aa Z (by simp) aa ab fun an Y ac=>nl<|O<|ak fun U=>ao (.slice (some ⟨a,0,none⟩) (i+(n - j)) cp)<|p (bY (.slice (some ⟨a,0,none⟩) (i+(n - j)) cp) aa)<|nl<|U<|rt<|a6 aa<|⟨aa,by rw [sN]; exact ac,Md.trans (c.mono fun _ _ h=>h.elim)<|Md.trans V<|Y.mono fun q _ h=>by simpa [Value.ownBlock] using h.symm⟩
end Go.Hb.oa
section
namespace Go.Hb
open Go.Hb.oa
theorem Aa {s:List UInt8} {k:Nat} (h:(s.drop k).idxOf 93 < (s.drop k).length):eF (gl s k) [94]≠[]↔(s.drop k).idxOf 93≠0∧¬((s.drop k).idxOf 93=1∧(s.drop k).getD 0 0=94):=by
 unfold gl eF
 generalize c:s.drop k=l at*
 cases l with
 | nil=>simp at h
 | cons b r=>
   generalize hm:(b::r).idxOf 93=m at*
   cases m with
   | zero=>simp
   | succ m=>
     simp only [bT] at h
     simp only [qy,iq,nn,lR,su,sv]
     by_cases a:b=94
     · subst a
       rw [if_pos rfl]
       cases m with
       | zero=>simp
       | succ m=>
         cases r with
         | nil=>simp at h
         | cons x r=>simp
     · rw [if_neg (by simpa using a)]
       simp [a]
theorem Hs {s:List UInt8} {k:Nat} (h:(s.drop k).idxOf 93 < (s.drop k).length) (q:(s.drop k).idxOf 93≠0):nA s k=et (91::(s.drop k).take ((s.drop k).idxOf 93 +1)):=by
 funext x
 unfold nA gl eF et
 generalize C:s.drop k=l at*
 cases l with
 | nil=>simp at h
 | cons b r=>
   generalize hm:(b::r).idxOf 93=m at*
   cases m with
   | zero=>exact absurd rfl q
   | succ m=>
     simp only [bT] at h
     have A:(91::oZ (m+1 +1) (b::r)).length=m+3:=by simp only [bT,dT]; omega
     rw [A,if_neg (show ¬m+3=1 by omega)]
     have c:(91::oZ (m+1 +1) (b::r)).getD 1 0=b:=rfl
     have i:oZ (m+3 - 1) (91::oZ (m+1 +1) (b::r))=91::oZ (m+1) (b::r):=by
      show oZ (m+2) (91::oZ (m+2) (b::r))=_
      rw [qy,List.take_take,Nat.min_eq_left ab]
     rw [c,i]
     simp only [qy,nn,su,sv,iq]
     by_cases a:b=94
     · subst a; simp
     · simp [a]
theorem KN:(fun x:UInt8=> !(fun _:UInt8=>false) x)=et [46]:=by funext x; simp [et]
theorem OI {c:UInt8} (h:c≠46):(fun x:UInt8=>(fun _:UInt8=>false) x || decide (x=c))=et [c]:=by
 funext x
 simp only [et,iq,if_true,Bool.false_or,lR]
 exact decide_eq_decide.2 ⟨fun h1=> .inr h1.symm,fun h1=>(h1.resolve_left h).symm⟩
theorem AY {ps:List (List UInt8)} (h:0 < ps.length):jr ps≠[]:=xm (f:=fun t=>du<|et t) (m:=4) (fun _=>rfl) aw h
theorem AX {h:Array Obj} {a:Option Addr} {ps:List (List UInt8)} {i:Nat} (c:aC h a (jr ps)) (hi:i < ps.length):∀ j,j < 4→Hb.aH h (bk a) (fo a+i*4 +j)=(du<|et<|ps.getD i [])[j]? :=by
 have :=gK (f:=fun t=>du<|et t) (m:=4) (fun _=>rfl) c<|cx hi
 rw [cO,cx hi]; exact this
theorem CI {b:UInt8} (h:(b.toNat:Int)=91):b=91:=o4.1 (by have :(91:UInt8).toNat=91:=rfl; omega)
theorem yb {b:UInt8} (h:¬(b.toNat:Int)=91):b≠91:=by rintro rfl; exact h rfl
theorem CH {b:UInt8} (h:(b.toNat:Int)=46):b=46:=o4.1 (by have :(46:UInt8).toNat=46:=rfl; omega)
theorem Dq {b:UInt8} (h:¬(b.toNat:Int)=46):b≠46:=by rintro rfl; exact h rfl
theorem Dv {w:World} {B:Nat} {v:Value} {l:List (List UInt8)} {x:List UInt8} (h:w.ownsRow B 325 4 v (l.length+1) (jr l++du (et x))):w.ownsRow B 325 4 v (l++ [x]).length (jr<|l++ [x]):=by
 rw [bF,Jr]; simpa [jr] using h
theorem Kx (l:List UInt8) (i j:Nat) (c A:Int) (B n cp a:Nat) (w:World) (C:bm w B 5 1 (.slice (some ⟨a,0,none⟩) n cp) n (U8 l)) (E:i < j∧j≤n) (I:n≤1048576) (hi:c=(i:Nat)) (G:A=(j:Nat)):
 ba au 282 (aY [.slice (some ⟨a,0,none⟩) n cp,.int .i64 c,.int .i64 A]) w (fun v w'=>v= .slice (some ⟨a,0,none⟩) (i+(n - j)) cp∧bm w' B 5 1 (.slice (some ⟨a,0,none⟩) (i+(n - j)) cp) (i+(n - j)) (U8<|l.take i++l.drop j)∧Md (fun q=>q=a) w w'):=by
 subst hi G; exact Kw l i j B n cp a w C E I
theorem P7 (f:UInt8→Bool) (w:World):
 ba au 267 (aY [.agg (du<|f).toArray]) w (fun v w'=>v=str (j9 f)∧Wk w w'):=by
 have bQ:(bytesOf f).length≤256:=qP f 256
 have bU:(bytesOf fun x=> !f x).length≤256:=qP _ 256
 refine enter func267 aa ntmps267 aa<|ak fun a3=>e<|jq aa fun a9 aD al Y aF=>ay<|a3<|ak fun a4=>p (cI iX aa (aa) fun j aP=>by rw [fj]; exact (aF).aH j)<|e<|cl AF (Ae f _) aa fun v6 aZ bs=> ?_
 obtain ⟨ae,aj⟩:=bs
 obtain ⟨q,a,rfl⟩:=cR ae
 have E:=(aT ae).2
 have V:Wk w aZ:=Md.trans Y.md aj
 have aI:=aj.B aF
 refine ay<|a4<|az fun a5=>aB<|ak fun a7=>ao (.slice q (bytesOf f).length a)<|p (bO nT aa aa)<|p (bS aa aa)<|ay<|a7<|cd aa (fun bu=> ?_) fun bu=> ?_
 exact ak fun G=>ay<|G<|rt<|br<|tr<|a6 aa<|⟨by unfold j9; rw [if_pos (show (bytesOf f).length=256 by omega)]; rfl,V⟩
 refine ep (fun ah a0=> ∃ (ai:Bool),(ai=decide ((bytesOf f).length=1∧(bytesOf f).getD 0 0≠46∧(bytesOf f).getD 0 0≠91))∧(a0=aZ)∧(ah 1=aU a9)∧(ah 3= .slice q (bytesOf f).length a)∧(ah 11= .bool ai)) ?_ ?_
 refine rg aa<|ao (.slice q (bytesOf f).length a)<|p (bO nT aa aa)<|p (bS aa aa)<|p mv<|gs (t:=15) aa (fun bv=> ?_) fun bv=> ?_
 refine aR aa (aG (.slice q (bytesOf f).length a) aa)<|aR aa (aW oy aa aa ab<|aC.ok (E)<|yO ab)<|aR aa (ld vv aa<|yM (i:=0) E ab)<|aR aa (gO aa aa)<|p (bI aa)<|p mv<|gs (t:=21) aa (fun aO=> ?_) fun aO=> ?_
 exact aR aa (aG (.slice q (bytesOf f).length a) aa)<|aR aa (aW oy aa aa ab<|aC.ok (E)<|yO ab)<|aR aa (ld vv aa<|yM (i:=0) E ab)<|aR aa (gO aa aa)<|p (bI aa)<|p aA<|nl<|tn<|⟨_,(by first | exact decide_eq_decide.2 ⟨fun h=>⟨ab,by first | exact Dq ab | exact fun h=>by omega,by first | exact yb ab | exact fun h=>by omega⟩,fun h=>by have h1:=h.2.2; exact fun h2=>h1<|CI h2⟩ | rfl),aa,aa,aa,aa⟩
 exact aJ aa<|aJ aa<|aJ aa<|aJ aa<|p (bD aa)<|p aA<|nl<|tn<|⟨false,((decide_eq_false fun h=>h.2.1<|CH<|Decidable.of_not_not aO).symm),aa,aa,aa,aa⟩
 exact aJ aa<|aJ aa<|aJ aa<|aJ aa<|p (bD aa)<|p mv<|aJ aa<|aJ aa<|aJ aa<|aJ aa<|p (bD aa)<|p aA<|nl<|tn<|⟨false,((decide_eq_false fun h=>by omega).symm),aa,aa,aa,aa⟩
 rintro ah a0 ⟨ai,al,bi,bB,bE,bC⟩
 refine fx 1 bB<|fx 3 bE<|fx 11 bC ?_
 subst bi
 refine cb aa (fun am=> ?_) fun am=> ?_
 have ag:(bytesOf f).length=1∧(bytesOf f).getD 0 0≠46∧(bytesOf f).getD 0 0≠91:=of_decide_eq_true<|al ▸ am
 exact ak fun G=>ao (.slice q (bytesOf f).length a)<|p (wm vE aa (E)<|by simp)<|ay<|G<|rt<|br<|tr<|a6 aa<|⟨by unfold j9; rw [if_neg (show ¬(bytesOf f).length=256 by omega),if_pos ag]; rfl,V⟩
 have ag:¬((bytesOf f).length=1∧(bytesOf f).getD 0 0≠46∧(bytesOf f).getD 0 0≠91):=of_decide_eq_false<|al ▸ am
 refine ak fun G=>p (cI iX aa (aa) fun j aP=>by rw [fj]; exact (aI).aH j)<|e<|cl vR (Cu f 93 _ _ rfl) aa fun v31 b1 bk=> ?_
 obtain ⟨rfl,A⟩:=bk
 refine ay<|G<|cb aa (fun an=> ?_) fun an=> ?_
 refine ak fun I=>p (cI iX aa (aa) fun j aP=>by rw [fj]; exact (A.B aI).aH j)<|e<|cl vO (yo f _) aa fun bX b2 bl=> ?_
 obtain ⟨rfl,bc⟩:=bl
 refine e<|cl AF (Ae (fun x=> !f x) _) aa fun bY b3 bo=> ?_
 obtain ⟨aS,bd⟩:=bo
 obtain ⟨bL,bN,rfl⟩:=cR aS
 exact p (wm vE aa ((aT aS).2)<|aa)<|p (cc aa aa<|by simp only [bT,gj]; omega)<|p (cc aa aa<|by simp only [bT,gj,bF]; omega)<|ay<|I<|rt<|br<|tr<|a6 aa<|⟨by unfold j9; rw [if_neg (show ¬(bytesOf f).length=256 by omega),if_neg ag,if_pos an]; rfl,Md.trans V<|Md.trans A<|Md.trans bc bd⟩
 refine aM<|bn<|a5 ?_
 refine ep (fun a1 aE=> ∃ (J:Option Addr) (C M:Nat),(((bytesOf f).filter (fun b=>decide (b≠94))++(if 94∈(bytesOf f) then [94] else [])).length=C)∧(bm aE aD.heap.size 5 1 (.slice J C M) C<|U8<|(bytesOf f).filter (fun b=>decide (b≠94))++(if 94∈(bytesOf f) then [94] else []))∧(Wk w aE)∧(C≤300)∧(a1 3= .slice J C M)) ?_ ?_
 refine ak fun I=>ao (.slice q (bytesOf f).length a)<|e<|cl Ih (MX (bytesOf f) q _ a 94 _ (E.wk A) aa ab) aa fun bZ bH bp=> ?_
 obtain ⟨rfl,U⟩:=bp
 have aK:Wk w bH:=Md.trans V<|Md.trans A U
 refine ay<|I<|ak fun a8=>p mv<|p (ge aa aa)<|nl<|a8<|cd aa (fun bt=> ?_) fun bt=> ?_
 have aq:=pT (c:=94) (l:=bytesOf f) ab
 have ar:=aV (aV ae A) U
 obtain ⟨O,rfl⟩:=OR ar ab
 refine rg aa<|ao (.slice (some ⟨O,0,none⟩) (bytesOf f).length a)<|p mv<|p mv<|p (ad aa aa<|bR ab)<|e<|cl Ii (Kx (bytesOf f) ((bytesOf f).idxOf 94) ((bytesOf f).idxOf 94 +1) _ _ aD.heap.size _ a O _ ar ab ab ab ab) aa fun v46 bJ bq=> ?_
 obtain ⟨rfl,av,aN⟩:=bq
 have bf:Wk w bJ:=Md.trans' aK aN fun k hk h=>by have :=dd ar (show (bz (some ⟨O,0,none⟩) _ a).ownBlock=some O from rfl); have :=Y.md.size; omega
 have bw:=yN av
 refine e<|kT oM aa aa fun bM b4 bP Z bb=>e<|ap oM (aV av Z.md) aa (by have :=Y.md.size; have :=aj.size; have :=A.size; have :=U.size; have :=aN.size; have :=Z.md.size; omega) aa (aC.fO bb) (aa) (aa) ab ab fun b0 bK ax bj bW bV=> ?_
 have bg:=Wk.own (Md.trans bf Z.md) (aV av Z.md) bj Y.md.size
 rw [MV (Hx f) aq.2] at bw ax
 obtain ⟨a2,c2,rfl⟩:=cR ax
 have aX:bm bK aD.heap.size 5 1 (.slice a2 (((bytesOf f).idxOf 94 +((bytesOf f).length - ((bytesOf f).idxOf 94 +1)))+1) c2) (((bytesOf f).idxOf 94 +((bytesOf f).length - ((bytesOf f).idxOf 94 +1)))+1) (U8<|(bytesOf f).filter (fun b=>decide (b≠94))++ [94]):=by rw [sN]; exact ax
 exact p aA<|nl<|tn<|⟨a2,_,c2,(by have :=yN aX; rw [if_pos (vf.1 aq.2)]; exact this),(by rw [if_pos (vf.1 aq.2)]; exact aX),bg,(ab),aa⟩
 have ac:¬(94:UInt8)∈bytesOf f:=fun h=>by have h1:dK 94 (bytesOf f)=(bytesOf f).idxOf 94:=if_pos (vf.2 h); omega
 exact aM<|tn<|⟨q,(bytesOf f).length,a,(by rw [if_neg ac,Dh ac,dS]),(by rw [if_neg ac,Dh ac,dS]; exact aV (aV ae A) U),aK,(ab),aa⟩
 rintro a1 aE ⟨J,C,M,aQ,bA,bh,bx,bG⟩
 refine fx 3 bG ?_
 have aL:((bytesOf f).filter (fun b=>decide (b≠94))++(if 94∈(bytesOf f) then [94] else [])).length≤300:=by rw [aQ]; exact bx
 exact ak fun I=>ao (.slice J C M)<|p (wm vE aa ((aT bA).2)<|aQ)<|p (cc aa aa<|eV (Gj aL _) aw)<|p (cc aa aa<|by rw [bF]; exact eV (Nat.add_le_add_right (Gj aL _) _) aw)<|p aA<|nl<|I<|rt<|a6 aa<|⟨by unfold j9; rw [if_neg (show ¬(bytesOf f).length=256 by omega),if_neg ag,if_neg (show ¬f 93=true from by rw [an]; exact c8)]; rfl,bh⟩
theorem A3 (s:List UInt8) (w:World) (hs:s.length≤1048576):
 ba au 144 (aY [str s]) w (fun v w'=>(∃ a,v= .tuple #[.agg [a].toArray,aj ((dz s).2)]∧bm w' w.heap.size 325 4 (a) ((dz s).1).length (jr<|(dz s).1))∧Wk w w'):=by
 refine enter func144 aa ntmps144 aa<|ak fun b3=>e<|gR uI fun aE dT dx ac an=>ay<|b3<|az fun b8=>az fun bs=>rg aa<|ao (str s)<|p (iy aa aa)<|p mv<|gs (t:=10) aa (fun O=> ?_) fun O=> ?_
 refine aJ aa<|aJ aa<|aJ aa<|p (bI aa)<|nl<|bs<|ct aa<|az fun ah=>rg aa<|p (cE (ps:= []) (L:= [.slice none 0 0]) rW aa<|aa)<|e<|ga nC aa (vs:= [.slice none 0 0]) aa aa aa an aw fun E q A=> ?_
 have C:Wk w E:=Md.trans' ac.md q fun k hk h=>by omega
 exact ay<|ah<|rt<|tr<|eo aa (dy (cs:= [.slice none 0 0]) aa kQ aa fun j G=>by cases j with | zero=>exact (aX A).trans aa | succ j=>omega) dR<|⟨⟨.slice none 0 0,by unfold dz; rw [if_pos (.inl O)]; rfl,by unfold dz; rw [if_pos (.inl O)]; exact dI _ _ _ _⟩,C⟩
 refine aR aa (aG (str s) aa)<|aR aa (db u9 aa aa)<|aR aa (gt aa aa)<|p (bD aa)<|nl<|bs<|cd aa (fun cV=> ?_) fun cV=> ?_
 refine ak fun ah=>p (cE (ps:= []) (L:= [.slice none 0 0]) rW aa<|aa)<|e<|ga nC aa (vs:= [.slice none 0 0]) aa aa aa an aw fun E q A=> ?_
 have C:Wk w E:=Md.trans' ac.md q fun k hk h=>by omega
 exact ay<|ah<|rt<|tr<|eo aa (dy (cs:= [.slice none 0 0]) aa kQ aa fun j G=>by cases j with | zero=>exact (aX A).trans aa | succ j=>omega) dR<|⟨⟨.slice none 0 0,by unfold dz; rw [if_pos (.inr ab)]; rfl,by unfold dz; rw [if_pos (.inr ab)]; exact dI _ _ _ _⟩,C⟩
 refine aM<|b8<|az fun ah=>ak fun b9=>ao (str s)<|p (iy aa aa)<|nl<|b9<|cd aa (fun ad=> ?_) fun ad=> ?_
 refine ak fun a6=>p (cE (ps:= []) (L:= [.slice none 0 0]) rW aa<|aa)<|e<|ga nC aa (vs:= [.slice none 0 0]) aa aa aa an aw fun E q A=> ?_
 have C:Wk w E:=Md.trans' ac.md q fun k hk h=>by omega
 refine ay<|a6<|rt<|tr<|eo aa (dy (cs:= [.slice none 0 0]) aa kQ aa fun j G=>by cases j with | zero=>exact (aX A).trans aa | succ j=>omega) dR ?_
 have bT:¬(s= []∨512 < s.length):=fun h=>h.elim O fun h=>by omega
 exact ⟨⟨.slice none 0 0,by unfold dz; rw [if_neg bT,if_pos ad]; rfl,by unfold dz; rw [if_neg bT,if_pos ad]; exact dI _ _ _ _⟩,C⟩
 refine aM<|ah<|ak fun a6=>e<|gR uI fun ai dt dC bP cp=> ?_
 have cN:Wk w dt:=Md.trans ac.md bP.md
 have dB:=(cg.1 an).1
 have co:=bP.md.aB an
 have hs:=hs
 refine nl<|a6<|az fun ca=>ak fun cc=>ay<|cc<|aB<|lp (fun bt aD V=> ∃ (i:Nat) (c:List (List UInt8)) (ax:Value),(i≤s.length∧c.length≤i)∧(jz s i c)∧(V.heap[ai]? =some (.cells [ax].toArray 270 (0,0)))∧(V.heap[aE]? =some (.cells [.slice none 0 0].toArray 270 (0,0)))∧(bm V w.heap.size 325 4 (ax) (c).length<|jr<|c)∧(Wk w V)∧(aD 0=str s)∧(aD 2=aU aE)∧(aD 4=aU ai)∧(aD 5=aj i)∧(s.length - i=bt)) _ ⟨0,[],.slice none 0 0,(by simp),(jz.start s),cp,co,(dI _ _ _ _),cN,aa,aa,aa,(by first | rfl | exact iv<|if_neg av),aa⟩ ?_
 rintro bt aD V ⟨i,c,ax,hi,aW,aI,aq,U,Y,c5,c6,c7,c8,rfl⟩
 refine fx 0 c5<|fx 2 c6<|fx 4 c7<|fx 5 c8<|az fun ce=>ak fun b4=>ao (aj i)<|ao (str s)<|p (db u9 aa aa)<|p (lt aa aa)<|nl<|b4<|cd aa (fun cW=> ?_) fun cW=> ?_
 refine aM<|ce<|aB<|ak fun a2=>e<|al oP fun am b2 bQ aQ cx=> ?_
 have aF:bA b2.heap am (du fun _=>false):=by rw [wj]; exact cx
 have bf:Wk w b2:=Md.trans Y aQ.md
 have a9:=aQ.md.aB aI
 have bb:=aQ.md.aB aq
 have bp:=aV U aQ.md
 have bQ:am=V.heap.size:=bQ
 have dw:=(cg.1 aI).1
 have dv:=(cg.1 aq).1
 have bl:=drop_cons (l:=s) (i:=i) 0 ab
 refine nl<|a2<|ak fun a3=>ay<|a3 ?_
 refine ep (fun ag ae=>(s.getD i 0≠91)∧(bA ae.heap am<|du<|et [s.getD i 0])∧(ae.heap[ai]? =some (.cells [ax].toArray 270 (0,0)))∧(ae.heap[aE]? =some (.cells [.slice none 0 0].toArray 270 (0,0)))∧(bm ae w.heap.size 325 4 (ax) (c).length<|jr<|c)∧(Wk w ae)∧(ag 0=str s)∧(ag 2=aU aE)∧(ag 4=aU ai)∧(ag 5=aj i)∧(ag 6=aU am)) ?_ ?_
 refine ak fun J=>ao (str s)<|ao (aj i)<|p (ja u9 aa aa ab)<|nl<|J<|aB<|ak fun b5=>p (bS aa aa)<|ay<|b5<|cd aa (fun aS=> ?_) fun aS=> ?_
 refine az fun a4=>ak fun b6=>ao (str s)<|ao (aj i)<|p (bG ((i+1:Nat):Int) aa aa<|bd ab ab)<|e<|cl HV (Ho s (i+1) _ hs ab) aa fun dQ ds cT=> ?_
 obtain ⟨⟨ci,rfl,cY⟩,hE36⟩:=cT
 have cM:Wk w ds:=Md.trans bf hE36
 have bR:=CI aS
 refine p mv<|p (xt aa aa)<|p (xt aa aa)<|p (xt aa aa)<|e<|cw mN aa (vs:=du ci) aa aa aa (hE36.B aF) aw fun dl aK bu=> ?_
 have bL:Wk w dl:=Md.trans' cM aK fun k hk h=>by have :=Y.size; omega
 have dL:=hE36.size
 have bv:=aK.aB (hE36.aB a9) fun h=>by omega
 have bH:=aK.aB (hE36.aB bb) fun h=>by omega
 have c0:=bZ (aV bp hE36) aK fun k hk h=>by have :=dd U hk; omega
 have dF:(s.drop<|i+1).length=s.length - (i+1):=fI
 refine p aA<|ay<|b6<|ak fun b7=>p mv<|p (no aa)<|nl<|b7<|cb aa (fun M=> ?_) fun M=> ?_
 have ar:iZ (s.drop i)=none:=by
  rw [bl,bR]
  refine I6 aa fun h=> ?_
  have dg:¬dK 93 (s.drop<|i+1) < 0:=by rw [show dK 93 (s.drop<|i+1)=(s.drop<|i+1).idxOf 93 from if_pos h.1]; omega
  have dh:=(Aa (s:=s) (k:=i+1) h.1).2 h.2
  rw [decide_eq_false dg,decide_eq_true dh] at M; cases M
 have aT:=aW.bad ab ar
 refine ak fun a5=>p (cE (ps:= []) (L:= [.slice none 0 0]) rW aa<|aa)<|e<|ga nC aa (vs:= [.slice none 0 0]) aa aa aa bH aw fun E q A=> ?_
 have C:Wk w E:=Md.trans' bL q fun k hk h=>by omega
 refine ay<|a5<|rt<|tr<|br<|tr<|br<|tr<|br<|tr<|eo aa (dy (cs:= [.slice none 0 0]) aa kQ aa fun j G=>by cases j with | zero=>exact (aX A).trans aa | succ j=>omega) dR ?_
 have I:dz s=([],41):=by unfold dz; rw [if_neg (fun h=>h.elim O fun h=>by omega),if_neg ad,aT]
 exact ⟨⟨.slice none 0 0,by rw [I]; rfl,by rw [I]; exact dI _ _ _ _⟩,C⟩
 have av:¬dK 93 (s.drop<|i+1) < 0:=fun h=>by rw [decide_eq_true h] at M; cases M
 have di:eF (gl s<|i+1) [94]≠[]:=fun h=>by rw [h] at M; simp at M
 have aZ:=pT av
 have bq:=(Aa (s:=s) (k:=i+1) aZ.2).1 di
 obtain rfl :=cY av
 rw [Hs aZ.2 bq.1] at bu
 have ar:iZ (s.drop i)=some (91::(s.drop<|i+1).take ((s.drop<|i+1).idxOf 93 +1),(s.drop<|i+1).drop ((s.drop<|i+1).idxOf 93 +1)):=by rw [bl,bR]; exact I8 rfl aZ.2 bq.1 bq.2
 have bo:=aW.step (j:=i+1 +(s.drop<|i+1).idxOf 93 +1) ar<|by rw [List.drop_drop]; rfl
 have dJ:(s.drop<|i+1).idxOf 93 < s.length - (i+1):=by have :=aZ.2; omega
 refine aM<|a4<|ak fun a5=>p (fa kt aa)<|p (ld lx aa<|(aX bv).trans aa)<|p (cI iX aa (aa) fun j G=>by rw [fj]; exact (bu).aH j)<|e<|nB ug aa aa aa fun cf b0 dD aO cq=> ?_
 have cr:bA b0.heap cf (du<|et (91::(s.drop<|i+1).take ((s.drop<|i+1).idxOf 93 +1))):=cq
 have bM:Wk w b0:=Md.trans bL aO.md
 have a0:=aV c0 aO.md
 have bw:=aO.md.aB bv
 have bJ:=aO.md.aB bH
 refine e<|ap ug (a0) aa (by have :=bM.size; omega) aa (aC.fO cr) (aa) (AZ _) ab ab fun dj dU bU bi dN dG=> ?_
 have bV:=Dv bU
 have bx:=bi.aB bw fun h=>dp a0 bw aw h
 have cD:=bi.aB bJ fun h=>dp a0 bJ aw h
 have cO:=Wk.own bM a0 bi<|bX _
 refine p (fa kt aa)<|e<|dA A6 aa aa (eb bU) bx (by simp) fun dm bg cj=> ?_
 have cH:Wk w dm:=Md.trans' cO bg fun k hk h=>by have :=ac.md.size; omega
 exact nl<|a5<|ext<|lz aw<|bc<|be<|tn<|⟨_,ab,i+1 +(s.drop<|i+1).idxOf 93 +1,c++ [91::(s.drop<|i+1).take ((s.drop<|i+1).idxOf 93 +1)],dj,(by rw [bF,iq]; omega),bo,cj,(bg.aB cD fun h=>by omega),(bZ bV bg fun k hk h=>dp bV bx aw<|h ▸ hk),cH,aa,aa,aa,(by first | rfl | exact iv<|if_neg av),aa⟩
 refine ak fun a4=>p (bS aa aa)<|ay<|a4<|cd aa (fun bk=> ?_) fun bk=> ?_
 refine rg aa<|p (cI iX aa (aa) fun j G=>by rw [fj]; exact (aF).aH j)<|e<|cl vO (yo (fun _=>false) _) aa fun dS dV cU=> ?_
 obtain ⟨rfl,Z⟩:=cU
 refine e<|cw mN aa (vs:=du fun x=> !(fun _:UInt8=>false) x) aa aa aa (Z.B aF) aw fun dn aL ck=> ?_
 have dM:=Z.size
 have cJ:Wk w dn:=Md.trans' (Md.trans bf Z) aL fun k hk h=>by have :=Y.size; omega
 have cz:=aL.aB (Z.aB a9) fun h=>by omega
 have cB:=aL.aB (Z.aB bb) fun h=>by omega
 have c1:=bZ (aV bp Z) aL fun k hk h=>by have :=dd U hk; omega
 exact nl<|bn<|tn<|⟨(yb aS),(by rw [CH bk,← KN]; exact ck),cz,cB,c1,cJ,aa,aa,aa,aa,aa⟩
 refine rg aa<|ao (str s)<|ao (aj i)<|p (ja u9 aa aa ab)<|e<|cl Ax (DG am (s.getD i 0) _ _ aF) aa fun dP dr cS=> ?_
 obtain ⟨rfl,cn,aN⟩:=cS
 have cL:Wk w dr:=Md.trans' bf aN fun k hk h=>by have :=Y.size; omega
 have cA:=aN.aB a9 fun h=>by omega
 have cC:=aN.aB bb fun h=>by omega
 have c2:=bZ bp aN fun k hk h=>by have :=dd U hk; omega
 exact nl<|bn<|tn<|⟨(yb aS),(by rw [← OI (Dq bk)]; exact cn),cA,cC,c2,cL,aa,aa,aa,aa,aa⟩
 rintro ag ae ⟨cZ,cy,bE,cG,c4,cQ,c9,da,dc,de,df⟩
 refine fx 0 c9<|fx 2 da<|fx 4 dc<|fx 5 de<|fx 6 df<|ak fun J=>p (fa kt aa)<|p (ld lx aa<|(aX bE).trans aa)<|p (cI iX aa (aa) fun j G=>by rw [fj]; exact (cy).aH j)<|e<|nB ug aa aa aa fun ch b1 dE aP cu=> ?_
 have cv:bA b1.heap ch (du<|et [s.getD i 0]):=cu
 have bN:Wk w b1:=Md.trans cQ aP.md
 have a1:=aV c4 aP.md
 have bB:=aP.md.aB bE
 have bK:=aP.md.aB cG
 refine e<|ap ug (a1) aa (by have :=bN.size; omega) aa (aC.fO cv) (aa) (AZ _) ab ab fun dk dW bW bj dO dH=> ?_
 have bY:=Dv bW
 have bC:=bj.aB bB fun h=>dp a1 bB aw h
 have cF:=bj.aB bK fun h=>dp a1 bK aw h
 have cP:=Wk.own bN a1 bj<|bX _
 have ar:iZ (s.drop i)=some ([s.getD i 0],s.drop (i+1)):=by rw [bl]; exact I7 cZ
 have bo:=aW.step (j:=i+1) ar rfl
 refine p (fa kt aa)<|e<|dA A6 aa aa (eb bW) bC (by simp) fun dq bh cm=> ?_
 have cK:Wk w dq:=Md.trans' cP bh fun k hk h=>by have :=ac.md.size; omega
 exact nl<|J<|rg aa<|ao (aj i)<|p (bG ((i+1:Nat):Int) aa aa<|bd ab ab)<|p aA<|nl<|bn<|tn<|⟨_,ab,i+1,c++ [[s.getD i 0]],dk,(by rw [bF,iq]; omega),bo,cm,(bh.aB cF fun h=>by omega),(bZ bY bh fun k hk h=>dp bY bC aw<|h ▸ hk),cK,aa,aa,aa,(by first | rfl | exact iv<|if_neg av),aa⟩
 refine ext<|bc<|bc<|be<|ca<|az fun a2=>az fun a3=> ?_
 obtain ⟨a7,a8,rfl⟩:=cR U
 have aT:=aW.done ab
 refine rg aa<|p (fa kt aa)<|p (ld lx aa<|(aX aI).trans aa)<|p (bO nV aa aa)<|p (gt aa aa)<|nl<|a3<|cd aa (fun cX=> ?_) fun cX=> ?_
 refine ak fun J=>p (cE (ps:= []) (L:= [.slice none 0 0]) rW aa<|aa)<|e<|ga nC aa (vs:= [.slice none 0 0]) aa aa aa aq aw fun E q A=> ?_
 have C:Wk w E:=Md.trans' Y q fun k hk h=>by omega
 refine ay<|J<|rt<|tr<|eo aa (dy (cs:= [.slice none 0 0]) aa kQ aa fun j G=>by cases j with | zero=>exact (aX A).trans aa | succ j=>omega) dR ?_
 have I:dz s=([],42):=by unfold dz; rw [if_neg (fun h=>h.elim O fun h=>by omega),if_neg ad,aT]; exact if_pos ab
 exact ⟨⟨.slice none 0 0,by rw [I]; rfl,by rw [I]; exact dI _ _ _ _⟩,C⟩
 refine aM<|a2<|ak fun J=>p (cI kQ aa (aa) (show ∀ j,j < 1→Hb.aH V.heap ai (0 +j)= [bz a7 c.length a8][j]? from fun j G=>by cases j with | zero=>exact (aX aI).trans aa | succ j=>omega))<|e<|ga nC aa (vs:= [.slice a7 c.length a8]) aa aa aa aq aw fun E q A=> ?_
 have C:Wk w E:=Md.trans' Y q fun k hk h=>by omega
 have c3:=bZ U q fun k hk h=>dp U aq aw<|h ▸ hk
 refine ay<|J<|rt<|eo aa (dy (cs:= [.slice a7 c.length a8]) aa kQ aa fun j G=>by cases j with | zero=>exact (aX A).trans aa | succ j=>omega) dR ?_
 have I:dz s=(c,0):=by unfold dz; rw [if_neg (fun h=>h.elim O fun h=>by omega),if_neg ad,aT]; exact if_neg ab
 exact ⟨⟨_,by rw [I]; rfl,by rw [I]; exact c3⟩,C⟩
theorem Pe (ps:List (List UInt8)) (a:Option Addr) (c:Nat) (w:World) (U:aC w.heap a (jr ps)) (hn:ps.length≤4096):
 ba au 245 (aY [.agg [.slice a ps.length c].toArray]) w (fun v w'=>v=str (nO ps)∧Wk w w'):=by
 refine enter func245 aa ntmps245 aa<|ak fun Y=>e<|jq aa fun aL V aO C O=>ay<|Y<|az fun ac=>az fun ae=>rg aa<|p (fa kt aa)<|p (ld lx aa<|O.aH 0)<|p (bO nV aa aa)<|p (bS aa aa)<|nl<|ae<|cd aa (fun I=> ?_) fun I=> ?_
 exact ak fun E=>ay<|E<|rt<|tr<|a6 aa<|⟨by unfold nO; rw [if_pos (gi ab)]; rfl,C.md⟩
 refine aM<|ac<|ak fun E=>ay<|E<|az fun ag=>ak fun ah=>p (fa kt aa)<|p (ld lx aa<|O.aH 0)<|p (bO nV aa aa)<|p mv<|nl<|ah<|aB<|lp (fun M A J=> ∃ (i:Nat),(i≤ps.length)∧(Wk V J)∧(((ps.take i).flatMap fun t=>j9<|et t).length≤i*300)∧(A 3=str ((ps.take i).flatMap fun t=>j9<|et t))∧(A 11= .slice a ps.length c)∧(A 12=aj (ps.length))∧(A 13=aj i)∧(ps.length - i=M)) _ ⟨0,ab,(Md.refl _ _),(by simp),(by first | rfl | (rw [ka ps i [] ab,nj,oX]; rfl)),aa,aa,aa,aa⟩ ?_
 rintro M A J ⟨i,hi,q,hlen,aJ,aF,aG,aI,rfl⟩
 refine fx 3 aJ<|fx 11 aF<|fx 12 aG<|fx 13 aI<|ak fun ai=>p (lt aa aa)<|nl<|ai<|az fun am=>cd aa (fun aE=> ?_) fun aE=> ?_
 refine aM<|am<|az fun G=>aB<|ak fun Z=>p (aW Bx aa aa ab<|aC.ok (U.wk<|Md.trans C.md q)<|AY ab)<|p (cI iX aa (aa) (show ∀ j,j < 4→Hb.aH J.heap (bk a) (fo a+i*4 +j)=(du<|et<|ps.getD i [])[j]? from AX (U.wk<|Md.trans C.md q) ab))<|e<|al oP fun aN aU aP ax an=>e<|cw mN aa (vs:=du<|et<|ps.getD i []) aa aa aa an aw fun aK av ap=> ?_
 have ar:Wk V aK:=Md.trans' (Md.trans q ax.md) av fun k hk h=>by have :=q.size; omega
 refine nl<|Z<|rg aa<|ao (str<|(ps.take i).flatMap fun t=>j9<|et t)<|p (cI iX aa (aa) fun j aQ=>by rw [fj]; exact (ap).aH j)<|e<|cl Ie (P7 (et<|ps.getD i []) _) aa fun aS aT aD=> ?_
 obtain ⟨rfl,aq⟩:=aD
 have aR:=D2<|et<|ps.getD i []
 exact p (cc aa aa ab)<|p aA<|nl<|bn<|G<|rg aa<|p (ad aa aa<|bR ab)<|p mv<|nl<|tn<|⟨_,ab,i+1,ab,(Md.trans ar aq),(by rw [ka ps i [] ab,nj,oX,bF]; omega),(by first | rfl | (rw [ka ps i [] ab,nj,oX]; rfl)),aa,aa,aa,aa⟩
 exact ext<|bc<|bc<|be<|ag<|ak fun G=>ao (str<|(ps.take i).flatMap fun t=>j9<|et t)<|p (bY (str<|(ps.take i).flatMap fun t=>j9<|et t) aa)<|nl<|G<|rt<|a6 aa<|⟨by unfold nO; rw [if_neg (fun h=>by rw [h] at I; exact I aa),show ps.take i=ps from eL ab]; rfl,Md.trans C.md q⟩
end Go.Hb
end
section
namespace Go.Hb.fJ
open Go.Hb.oa
theorem BT {kind:Nat} {al:List (List Nat)} {s:Tx} (h:al= []):e9 kind al s=jJ kind s:=if_pos h
theorem LV {kind:Nat} {al:List (List Nat)} {s:Tx} {e:Nat} (h:al≠[]) (h1:dQ s al.length= .error e):e9 kind al s= .error 13:=by unfold e9; rw [if_neg h,h1]
theorem LY {kind:Nat} {al:List (List Nat)} {s:Tx} (h:al≠[]) (h1:dQ s al.length= .ok 0):e9 kind al s= .error 13:=by unfold e9; rw [if_neg h,h1]; rfl
theorem LW {kind n:Nat} {al:List (List Nat)} {s:Tx} (h:al≠[]) (h1:dQ s al.length= .ok n) (a:n≠0):e9 kind al s= .ok (al.getD (n - 1) []):=by unfold e9; rw [if_neg h,h1]; exact if_neg a
theorem Ch {kind:Nat} {s:Tx} (h:(ee kind s).2=0):jJ kind s= .ok (ee kind s).1:=if_neg fun h2=>h2 h
theorem Ce {kind:Nat} {s:Tx} (h:(ee kind s).2≠0):jJ kind s= .error (ee kind s).2:=if_pos h
theorem DT {kind ln:Nat} {al:List (List Nat)} {c:dt} {r:List Tx} (h:r.length≠4) (h1:r.length≠5):ij kind al c ln r= .error 111:=by unfold ij; rw [if_pos ⟨h,h1⟩]
theorem nN {kind ln:Nat} {al:List (List Nat)} {c:dt} {r:List Tx} (h:r.length=4∨r.length=5):ij kind al c ln r=(match e0 true (r.getD 2 []) with
 | .error e=> .error e
 | .ok st=>match jW (bq<|r.getD 3 []) with
   | .error e=> .error e
   | .ok ad=>match lG kind al c.kind (bq<|r.getD 3 []) with
     | .error e=> .error e
     | .ok nx=>match kV r with
       | .error e=> .error e
       | .ok cd=> .ok ⟨c.kind,c.flag,c.fu,st,ad,cd,nx,ln⟩):=by unfold ij; rw [if_neg ab]; rfl
theorem GF {r:kj} (h:r.2.2.2≠0):jW r= .error r.2.2.2:=if_pos h
theorem GJ {r:kj} (h:r.2.2.2=0) (h1:r.1= [48]):jW r= .ok []:=by unfold jW; rw [if_neg (fun h2=>h2 h),if_pos h1]
theorem GG {r:kj} (h:r.2.2.2=0) (h1:r.1≠[48]) (h2:fY r.1≠0):jW r= .error (fY r.1):=by unfold jW; rw [if_neg (fun h2=>h2 h),if_neg h1,if_pos h2]
theorem GH {r:kj} (h:r.2.2.2=0) (h1:r.1≠[48]) (h2:fY r.1=0):jW r= .ok r.1:=by unfold jW; rw [if_neg (fun h2=>h2 h),if_neg h1,if_neg (fun h3=>h3 h2)]
theorem Oq {kind a:Nat} {al:List (List Nat)} {r:kj} (h:r.2.2.1=false):lG kind al a r= .ok []:=by unfold lG; rw [if_neg (by rw [h]; exact c8)]
theorem Oo {kind a:Nat} {al:List (List Nat)} {r:kj} (h:r.2.2.1=true) (h1:a=1):lG kind al a r= .error 118:=by unfold lG; rw [if_pos h,if_pos h1]
theorem Df {kind a:Nat} {al:List (List Nat)} {r:kj} (h:r.2.2.1=true) (h1:a≠1):lG kind al a r=e9 kind al r.2.1:=by unfold lG; rw [if_pos h,if_neg h1]
theorem JJ {r:List Tx} (h:r.length≠5):kV r= .ok [46]:=if_neg h
theorem JF {r:List Tx} (h:r.length=5) (h1:fX (r.getD 4 [])=false):kV r= .error 21:=by unfold kV; rw [if_pos h,if_pos h1]
theorem JG {r:List Tx} (h:r.length=5) (h1:fX (r.getD 4 [])=true) (h2:(dz<|r.getD 4 []).2≠0):kV r= .error (dz<|r.getD 4 []).2:=by unfold kV; rw [if_pos h,if_neg (by rw [h1]; exact c8),if_pos h2]
theorem JH {r:List Tx} (h:r.length=5) (h1:fX (r.getD 4 [])=true) (h2:(dz<|r.getD 4 []).2=0):kV r= .ok (nO (dz<|r.getD 4 []).1):=by unfold kV; rw [if_pos h,if_neg (by rw [h1]; exact c8),if_neg (fun h3=>h3 h2)]
theorem JQ (s:Tx):(dz s).1.length≤16:=by
 unfold dz
 split
 · simp
 · split
   · simp
   · split
     · simp
     · split
       · simp
       · rename_i h; exact Nat.le_of_not_lt h
theorem BD (B fb mc:Nat) (F:aE) (V:dG) (s:Tx) (w:World) (A:cD w B fb mc F V) (hk:F.kind=1∨F.kind=2∨F.kind=3) (aD:∀ l∈F.aliases,l.length≤64∧l.Pairwise (· < ·)) (aL:F.aliases.length≤70000) (hs:s.length≤1048576):
 ba au 141 (aY [aU fb,str s]) w (fun v w'=>((∃ a l,v= .tuple #[a,.int .i64 0]∧e9 F.kind F.aliases s= .ok l∧bm w' w.heap.size 51 1 a l.length (l.map aO))∨(∃ a e,v= .tuple #[a,aj e]∧e≠0∧e9 F.kind F.aliases s= .error e))∧Wk w w'):=by
 obtain ⟨ap,aq,ad⟩:=cR A.fN
 have M:=A.fN
 rw [ad] at M
 have I:Hb.aH w.heap fb 10=some (.slice ap F.aliases.length aq):=by rw [← ad]; exact (aX A.cells).trans rfl
 refine enter func141 aa ntmps141 aa<|ak fun ae=>p aA<|ay<|ae<|az fun ag=>az fun ah=>rg aa<|ao (aU fb)<|p (kY r4 aa aa)<|nl<|ah<|cf (aa)<|aM<|ag<|az fun ai=>ak fun am=>ao (aU fb)<|p (nc aa)<|p (fa eZ aa)<|p (fa mS aa)<|p (ld om aa<|I)<|p (bO uz aa aa)<|p (bS aa aa)<|nl<|am<|cd aa (fun J=> ?_) fun J=> ?_
 have i:F.aliases= []:=gi ab
 refine ak fun E=>ao (aU fb)<|p (nc aa)<|p (fa eZ aa)<|p (fa pO aa)<|p (ld bW aa<|(aX A.cells).trans aa)<|ao (str s)<|e<|cl As (Cj F.kind s _ hk hs) aa fun aP aZ av=> ?_
 obtain ⟨⟨Y,rfl,aK⟩,hE23⟩:=av
 refine p (xt aa aa)<|p (xt aa aa)<|p aA<|ay<|E<|rt<|tr<|f2 aa aa aa ?_
 refine ⟨?_,hE23⟩
 by_cases h:(ee F.kind s).2=0
 exact .inl ⟨Y,_,by rw [h]; rfl,by rw [BT i]; exact Ch h,aK⟩
 exact .inr ⟨Y,_,aa,h,by rw [BT i]; exact Ce h⟩
 have i:F.aliases≠[]:=fun h=>by rw [h] at J; exact J rfl
 refine aM<|ai<|ak fun E=>ao (str s)<|ao (aU fb)<|p (nc aa)<|p (fa eZ aa)<|p (fa mS aa)<|p (ld om aa<|I)<|p (bO uz aa aa)<|e<|cl s7 (tT s (F.aliases.length:Nat) _ hs ab) aa fun aQ a0 ax=> ?_
 obtain ⟨rfl,c⟩:=ax
 refine p mv<|p (xt aa aa)<|p (xt aa aa)<|p aA<|ay<|E<|az fun an=>ak fun U=>p mv<|p (gO aa aa)<|p mv<|gs (t:=39) aa (fun aI=> ?_) fun aI=> ?_
 exact aJ aa<|aJ aa<|p (bI aa)<|nl<|U<|ct aa<|ak fun q=>p aA<|ay<|q<|rt<|tr<|f2 aa aa aa<|⟨.inr ⟨.slice none 0 0,13,aa,aw,LV i (tR ab).1⟩,c⟩
 refine aR aa mv<|aR aa (bS aa aa)<|p (bD aa)<|nl<|U<|cd aa (fun aG=> ?_) fun aG=> ?_
 refine ak fun q=>p aA<|ay<|q<|rt<|tr<|f2 aa aa aa ?_
 have C:=tS (by omega :(eC s (F.aliases.length:Nat)).2=0)
 rw [show (eC s (F.aliases.length:Nat)).1=0 from by omega] at C
 exact ⟨.inr ⟨.slice none 0 0,13,aa,aw,LY i C⟩,c⟩
 refine aM<|an<|az fun q=> ?_
 have C:=tS (by omega :(eC s (F.aliases.length:Nat)).2=0)
 have aN:=tQ s (F.aliases.length:Nat) ab
 have Z:(eC s (F.aliases.length:Nat)).1 - 1 < F.aliases.length:=ab
 obtain ⟨v51,O,G⟩:=c4.get (A.al.wk c) Z
 obtain ⟨a51,ou,rfl⟩:=G.slice
 have aF:=aD _<|eR (d:= []) Z
 refine rg aa<|ao (aU fb)<|p (nc aa)<|p (fa eZ aa)<|p (fa mS aa)<|p (ld om aa<|Wk.aH c I)<|p mv<|p (cU (((eC s (F.aliases.length:Nat)).1 - 1:Nat):Int) aa aa<|bd ab ab)<|p (aW wU aa aa ab<|aC.ok ((aT<|aV M c).2) fun h=>by rw [h] at O; cases O)<|p (ld kR aa<|aC.jo (aT<|aV M c).2 O)<|e<|cl Aw (tU (F.aliases.getD ((eC s (F.aliases.length:Nat)).1 - 1) []) _ _ _ G.c6.2 (fun h=>Tg.pW G (by simp) h) ab) aa fun aS a1 aB=> ?_
 obtain ⟨ac,ar⟩:=aB
 rw [OF aF.2] at ac
 exact p aA<|ay<|q<|rt<|f2 aa aa aa<|⟨.inl ⟨_,_,aa,LW i C ab,eD ac c.size⟩,c.trans ar⟩
theorem tZ (B:Nat) (H:bP) (F:aE) (V:dG) (R:fk) (rows:List Rw) (ln:Nat) (seen:List Tx) (c:dt) (r:List Tx) (b5:Nat) (ar:Option Addr) (cr:Nat) (w:World) (E:cD w B H.fb H.mc F V) (C:bU w B H F R rows ln seen) (a1:iV F rows seen) (d5:c.kind=1∨c.kind=2) (ap:Tg w b5 9 r.length (.slice ar r.length cr) (r.map str)) (bh:r.length≤70000∧∀ x∈r,x.length≤70000):
 dV au 201 (aY [.pointer (some ⟨H.rb,0,none⟩),.agg (lB c).toArray,.slice ar r.length cr]) w (fun v w'=> ∃ q,ij F.kind F.aliases c ln r= .ok q∧q.line=ln∧(∃ vn,v= .agg (dP (q,vn)).toArray∧Tg w' B 51 q.next.length vn (q.next.map aO))∧Wk w w') (fun ai w'=> ∃ e,ij F.kind F.aliases c ln r= .error e∧ai=gr 47 ln (e:Nat)∧Wk w w'):=by
 have d0:=ap.c6
 have ea:=(cg.1 C.cells).1
 have d6:=C.lo.1
 refine iw func201 aa ntmps201 aa<|sq fun dO cB=>rg aa<|e<|jq aa fun a0 eD d2 bv cm=>e<|al oQ fun Z aV d3 aN cn=> ?_
 have aF:Wk w aV:=bv.md.trans aN.md
 have bQ:=Wk.aH aF C.dH
 have eh:=bv.size
 have ej:=aN.size
 refine nl<|tn<|cB _ _ ?_
 refine ep (fun az b2=>(r.length=4∨r.length=5)∧(b2=aV)∧(az 0= .pointer (some ⟨H.rb,0,none⟩))∧(az 2= .slice ar r.length cr)∧(az 4= .pointer (some ⟨a0,0,none⟩))∧(az 6= .pointer (some ⟨Z,0,none⟩))) ?_ ?_
 refine rg aa<|p (aG (.pointer<|some ⟨H.rb,0,none⟩) aa)<|p (aG (.slice ar r.length cr) aa)<|p (bO gP aa aa)<|p (bS aa aa)<|p mv<|gs (t:=20) aa (fun c9=> ?_) fun c9=> ?_
 refine sk aa aa aa aa<|sk aa aa aa aa<|sk aa aa aa aa<|p (bI aa)<|eP aa (cC fD (fG H.rb ln _ 111 aV bQ aw) aa fun dB dF bc=> ?_) fun c w' A O E=>by first | exact absurd A.2.1 aw | exact ⟨111,DT ab (by have :=of_decide_eq_false A.2.1; omega),A.1,by rw [A.2.2]; exact aF⟩
 obtain ⟨rfl,bR,rfl⟩:=bc
 exact nl<|tn<|⟨(.inl ab),aa,aa,aa,aa,aa⟩
 refine pg aa aa aa (aG (.slice ar r.length cr) aa)<|pg aa aa aa (bO gP aa aa)<|pg aa aa aa (bS aa aa)<|p (bD aa)<|eP aa (cC fD (fG H.rb ln _ 111 aV bQ aw) aa fun dB dF bc=> ?_) fun c w' A O E=>by first | exact absurd A.2.1 aw | exact ⟨111,DT ab (by have :=of_decide_eq_false A.2.1; omega),A.1,by rw [A.2.2]; exact aF⟩
 obtain ⟨rfl,bR,rfl⟩:=bc
 exact nl<|tn<|⟨(.inr<|by have :=of_decide_eq_true bR; omega),aa,aa,aa,aa,aa⟩
 rintro az b2 ⟨hlen,cx,db,dc,de,df⟩
 refine fx 0 db<|fx 2 dc<|fx 4 de<|fx 6 df ?_
 subst cx
 have aS:=aN.md.B cm
 refine sq fun dQ cF=>rg aa<|p (fa rh aa)<|p (ld bW aa<|(aS.aH 1).trans aa)<|p (fa xp aa)<|p (ld bM aa<|(aS.aH 0).trans aa)<|p (fa B4 aa)<|p (ld oh aa<|(aS.aH 2).trans aa)<|p (cE (ps:= [(0,.int .i64 (c.kind:Nat)),(1,aO c.flag),(2,.bool c.fu),(5,str [46])]) (L:= [.int .i64 (c.kind:Nat),aO c.flag,.bool c.fu,.string ⟨⟨[]⟩⟩,.string ⟨⟨[]⟩⟩,str [46],.slice none 0 0]) yH aa<|aa)<|e<|al oQ fun G eF d4 aP co=> ?_
 have el:=aP.size
 refine e<|cw mO aa aa aa aa (co) (by simp) fun b3 aJ cj=> ?_
 have aI:Wk w b3:=(aF.trans aP.md).trans' aJ fun k hk h=>by omega
 have c0:=aJ.B (aP.md.B aS) fun h=>by omega
 have c2:=aJ.B (aP.md.B cn) fun h=>by omega
 have em:=aJ.size
 have bx:=(ap.wk aI).c6
 have d7:(r.getD 2 []).length≤70000:=bh.2 _<|eR ab
 have d8:(r.getD 3 []).length≤70000:=bh.2 _<|eR ab
 refine nl<|tn<|cF _ _<|sq fun dR cH=>rg aa<|p (aG (.pointer<|some ⟨H.rb,0,none⟩) aa)<|p (aG (.slice ar r.length cr) aa)<|p (aW dD aa aa ab<|aC.ok (bx.2)<|cK ab)<|p (ld cG aa<|cX.get (i:=2) bx.2 ab)<|eP aa (cC Ar (Dy H.rb ln (r.getD 2 []) b3 (Wk.aH aI C.dH) ab) aa fun v37 eC cN=> ?_) fun c w' A O E=>by obtain ⟨e,he,h,h2⟩:=A; exact ⟨e,by rw [nN hlen,he],h,aI.trans h2⟩
 obtain ⟨stx,bK,rfl,ak⟩:=cN
 refine p (fa pQ aa)<|e<|st mP aa aa (aa) (ak.B cj) (by simp) fun b4 aK ck=> ?_
 have bo:bA b4.heap G [.int .i64 (c.kind:Nat),aO c.flag,.bool c.fu,str stx,str [],str [46],.slice none 0 0]:=ck
 have bp:Wk w b4:=(aI.trans ak).trans' aK fun k hk h=>by omega
 have eg:=ak.size
 have bF:=aK.B (ak.B c0) fun h=>by omega
 have bG:=aK.B (ak.B c2) fun h=>by omega
 have bw:=(ap.wk bp).c6
 have ef:=aK.size
 refine nl<|tn<|cH _ _<|sq fun dT cJ=>rg aa<|p (aG (.slice ar r.length cr) aa)<|p (aW dD aa aa ab<|aC.ok (bw.2)<|cK ab)<|p (ld cG aa<|cX.get (i:=3) bw.2 ab)<|e<|cl vI (yU (r.getD 3 []) _ ab) aa fun et dI cO=> ?_
 obtain ⟨rfl,I⟩:=cO
 have ad:=bp.trans I
 have ec:=uG<|r.getD 3 []
 refine p mv<|p (xt aa aa)<|p (xt aa aa)<|p (xt aa aa)<|p (xt aa aa)<|p aA<|p aA<|p aA<|p aA<|nl<|tn<|cJ _ _<|sq fun dU cL=>rg aa<|p (aG (.pointer<|some ⟨H.rb,0,none⟩) aa)<|p mv<|eP aa (cC l1 (mg H.rb ln ((bq<|r.getD 3 []).2.2.2:Nat) dI<|Wk.aH ad C.dH) aa fun eu dJ cP=> ?_) fun c w' A O E=>⟨_,by rw [nN hlen,bK,GF (show (bq<|r.getD 3 []).2.2.2≠0 by have :=A.2.1; omega)],A.1,by rw [A.2.2]; exact ad⟩
 obtain ⟨rfl,aU,rfl⟩:=cP
 have aU:(bq<|r.getD 3 []).2.2.2=0:=ab
 refine nl<|tn<|cL _ _ ?_
 refine ep (fun U ah=> ∃ (Y:Tx),(jW (bq<|r.getD 3 [])= .ok Y)∧(bA ah.heap G [.int .i64 (c.kind:Nat),aO c.flag,.bool c.fu,str stx,str Y,str [46],.slice none 0 0])∧(bA ah.heap a0<|lB c)∧(∃ L,L.length=7∧bA ah.heap Z L)∧(Wk w ah)∧(U 0= .pointer (some ⟨H.rb,0,none⟩))∧(U 2= .slice ar r.length cr)∧(U 4= .pointer (some ⟨a0,0,none⟩))∧(U 6= .pointer (some ⟨Z,0,none⟩))∧(U 7= .pointer (some ⟨G,0,none⟩))∧(U 9=str (bq<|r.getD 3 []).2.1)∧(U 10= .bool (bq<|r.getD 3 []).2.2.1)) ?_ ?_
 refine sq fun aZ ac=>rg aa<|p mv<|p (rJ aa aa)<|nl<|tn<|ac _ _<|cd aa (fun aR=> ?_) fun aR=> ?_
 refine rg aa<|p (aG (.pointer<|some ⟨H.rb,0,none⟩) aa)<|p mv<|eP aa (cC Ay (DI H.rb ln (bq<|r.getD 3 []).1 dJ (Wk.aH ad C.dH) ab) aa fun ev eE cQ=> ?_) fun c w' A O E=>⟨_,by rw [nN hlen,bK,GG aU aR A.2.1],A.1,ad.trans A.2.2⟩
 obtain ⟨rfl,dw,am⟩:=cQ
 refine p (fa xA aa)<|e<|st mP aa aa (aa) (Wk.B (I.trans am) bo) (by simp) fun dN bb cp=> ?_
 have cy:Wk w dN:=(ad.trans am).trans' bb fun k hk h=>by omega
 have ei:=(I.trans am).size
 exact nl<|tn<|⟨(bq<|r.getD 3 []).1,(GH aU aR dw),cp,(bb.B (Wk.B (I.trans am) bF) fun h=>by omega),(⟨_,aa,bb.B (Wk.B (I.trans am) bG) fun h=>by omega⟩),cy,aa,aa,aa,aa,aa,aa,aa⟩
 exact aM<|tn<|⟨[],(GJ aU<|lf.1 aR),(I.B bo),(I.B bF),(⟨_,aa,I.B bG⟩),ad,aa,aa,aa,aa,aa,aa,aa⟩
 rintro U ah ⟨Y,aq,aD,c1,bH,J,dg,di,dj,dk,dl,dm,dh⟩
 refine fx 0 dg<|fx 2 di<|fx 4 dj<|fx 6 dk<|fx 7 dl<|fx 9 dm<|fx 10 dh ?_
 skip
 refine ep (fun aB M=> ∃ (nx:List Nat) (vn:Value),(lG F.kind F.aliases c.kind (bq<|r.getD 3 [])= .ok nx)∧(bA M.heap G [.int .i64 (c.kind:Nat),aO c.flag,.bool c.fu,str stx,str Y,str [46],vn])∧(Tg M (G+1) 51 nx.length vn<|nx.map aO)∧(∃ L,L.length=7∧bA M.heap Z L)∧(Wk w M)∧(aB 0= .pointer (some ⟨H.rb,0,none⟩))∧(aB 2= .slice ar r.length cr)∧(aB 6= .pointer (some ⟨Z,0,none⟩))∧(aB 7= .pointer (some ⟨G,0,none⟩))) ?_ ?_
 refine sq fun aZ ac=>rg aa<|p (aG (.bool (bq<|r.getD 3 []).2.2.1) aa)<|nl<|tn<|ac _ _<|cb aa (fun av=> ?_) fun av=> ?_
 skip
 refine sq fun b6 a5=>rg aa<|p (aG (.pointer<|some ⟨H.rb,0,none⟩) aa)<|p (fa rh aa)<|p (ld bW aa<|(c1.aH 1).trans aa)<|p (bS aa aa)<|eP aa (cC fD (fG H.rb ln _ 118 ah (Wk.aH J C.dH) aw) aa fun ew b0 cS=> ?_) fun ai w' A O E=>by have dZ:=of_decide_eq_false A.2.1; exact ⟨118,by rw [nN hlen,bK]; simp only; rw [aq]; simp only; rw [Oo av ab],A.1,by rw [A.2.2]; exact J⟩
 obtain ⟨rfl,bT,rfl⟩:=cS
 have bT:=of_decide_eq_true bT
 refine nl<|tn<|a5 _ _<|sq fun b7 a6=>rg aa<|p (aG (.pointer<|some ⟨H.rb,0,none⟩) aa)<|p (nc aa)<|p (fa fw aa)<|p (ld ed aa<|Wk.aH J<|(aX C.cells).trans aa)<|p (aG (str (bq<|r.getD 3 []).2.1) aa)<|e<|cl Ak (BD B H.fb H.mc F V (bq<|r.getD 3 []).2.1 _ (E.wk J) a1.kd a1.al (by have :=a1.len; omega)<|by have :=uG (r.getD 3 []); omega) aa fun dC b1 cT=> ?_
 obtain ⟨c7,ae⟩:=cT
 obtain ⟨bl,bn,rfl,bL⟩:∃ a,∃ e:Nat,dC= .tuple #[a,.int .i64 (e:Nat)]∧((e=0∧∃ l,e9 F.kind F.aliases (bq<|r.getD 3 []).2.1= .ok l∧bm b1 b0.heap.size 51 1 a l.length (l.map aO))∨(e≠0∧e9 F.kind F.aliases (bq<|r.getD 3 []).2.1= .error e)):=by
  rcases c7 with ⟨a,l,h1,h2,h3⟩ | ⟨a,e,h1,h2,h3⟩
  exact ⟨a,0,h1,.inl ⟨aa,l,h2,h3⟩⟩
  exact ⟨a,e,h1,.inr ⟨h2,h3⟩⟩
 refine p mv<|p (xt aa aa)<|p (xt aa aa)<|p aA<|p aA<|nl<|tn<|a6 _ _<|sq fun b8 a7=>rg aa<|p (aG (.pointer<|some ⟨H.rb,0,none⟩) aa)<|p mv ?_
 refine eP aa (cC l1 (mg H.rb ln (bn:Nat) b1<|Wk.aH (J.trans ae) C.dH) aa fun ex dK cU=> ?_) (fun ai w' A O E=>by
  rcases bL with ⟨h,_⟩ | ⟨h,h1⟩
  exact absurd ab A.2.1
  exact ⟨bn,by rw [nN hlen,bK]; simp only; rw [aq]; simp only; rw [Df av ab,h1],A.1,by rw [A.2.2]; exact J.trans ae⟩)
 obtain ⟨rfl,ee,rfl⟩:=cU
 obtain ⟨nx,ax,bd⟩:∃ l,e9 F.kind F.aliases (bq<|r.getD 3 []).2.1= .ok l∧bm dK b0.heap.size 51 1 bl l.length (l.map aO):=by
  rcases bL with ⟨_,h⟩ | ⟨h,_⟩
  exact h
  exact absurd ab h
 refine nl<|tn<|a7 _ _<|rg aa<|p mv<|p (fa nE aa)<|e<|st pD aa aa (eb bd) (ae.B aD) (by simp) fun dL a9 cc=> ?_
 have ct:Wk w dL:=(J.trans ae).trans' a9 fun k hk h=>by omega
 have ek:=ae.size
 exact nl<|tn<|⟨nx,bl,(by rw [Df av ab]; exact ax),cc,((Tg.jP<|bZ bd a9 fun k hk h=>by have :=dd bd hk; have :=aD.lt; omega).mono aD.lt),(by obtain ⟨L,a8,aQ⟩:=bH; exact ⟨L,a8,a9.B (ae.B aQ) fun h=>by omega⟩),ct,aa,aa,aa,aa⟩
 exact aM<|tn<|⟨[],.slice none 0 0,(Oq<|by simpa using av),aD,(⟨none,0,aa,bX _,.inl aa⟩),bH,J,aa,aa,aa,aa⟩
 rintro aB M ⟨nx,vn,ax,a2,bE,bJ,ao,dn,dp,dq,dr⟩
 refine fx 0 dn<|fx 2 dp<|fx 6 dq<|fx 7 dr ?_
 refine ep (fun bk ay=> ∃ (aj:Tx),(kV r= .ok aj)∧(bA ay.heap G [.int .i64 (c.kind:Nat),aO c.flag,.bool c.fu,str stx,str Y,str aj,vn])∧(Tg ay (G+1) 51 nx.length vn<|nx.map aO)∧(∃ L,L.length=7∧bA ay.heap Z L)∧(Wk w ay)∧(bk 6= .pointer (some ⟨Z,0,none⟩))∧(bk 7= .pointer (some ⟨G,0,none⟩))) ?_ ?_
 refine sq fun aZ ac=>rg aa<|p (aG (.slice ar r.length cr) aa)<|p (bO gP aa aa)<|p (bS aa aa)<|nl<|tn<|ac _ _<|cd aa (fun c5=> ?_) fun c5=> ?_
 have bg:r.length=5:=ab
 have d9:(r.getD 4 []).length≤70000:=bh.2 _<|eR ab
 have bz:=(ap.wk ao).c6
 refine sq fun b6 a5=>rg aa<|p (aG (.pointer<|some ⟨H.rb,0,none⟩) aa)<|p (aG (.slice ar r.length cr) aa)<|p (aW dD aa aa ab<|aC.ok (bz.2)<|cK ab)<|p (ld cG aa<|cX.get (i:=4) bz.2 ab)<|eP aa (cC vL (ys H.rb ln (r.getD 4 []) M (Wk.aH ao C.dH) ab) aa fun ey eG cV=> ?_) fun ai w' A O E=>⟨21,by rw [nN hlen,bK]; simp only; rw [aq]; simp only; rw [ax]; simp only; rw [JF bg A.2.1],A.1,ao.trans A.2.2⟩
 obtain ⟨rfl,bV,a4⟩:=cV
 have br:=ao.trans a4
 have bB:=(ap.wk br).c6
 refine nl<|tn<|a5 _ _<|sq fun b7 a6=>rg aa<|p (aG (.slice ar r.length cr) aa)<|p (aW dD aa aa ab<|aC.ok (bB.2)<|cK ab)<|p (ld cG aa<|cX.get (i:=4) bB.2 ab)<|e<|cl Al (A3 (r.getD 4 []) _ ab) aa fun ez eH cW=> ?_
 obtain ⟨⟨dX,rfl,bf⟩,hE89⟩:=cW
 obtain ⟨dx,dA,rfl⟩:=cR bf
 have bs:=br.trans hE89
 refine p mv<|p (xt aa aa)<|p (xt aa aa)<|e<|al uI fun dY dE d1 aL ce=> ?_
 have cu:=bs.trans aL.md
 refine e<|cw nC aa aa aa aa (ce) (by simp) fun bj ag cf=> ?_
 have a3:Wk w bj:=cu.trans' ag fun k hk h=>by have :=bs.size; omega
 have bi:Wk M dE:=(a4.trans hE89).trans aL.md
 have eo:=a4.size
 have eq:=hE89.size
 have er:=aL.size
 have es:=ag.size
 have dv:Wk M bj:=bi.trans' ag fun k hk h=>by omega
 refine p aA<|nl<|tn<|a6 _ _<|sq fun b8 a7=>rg aa<|p (aG (.pointer<|some ⟨H.rb,0,none⟩) aa)<|p mv<|eP aa (cC l1 (mg H.rb ln ((dz<|r.getD 4 []).2:Nat) bj<|Wk.aH a3 C.dH) aa fun eA eI cY=> ?_) fun ai w' A O E=>⟨_,by rw [nN hlen,bK]; simp only; rw [aq]; simp only; rw [ax]; simp only; rw [JG bg bV (by have :=A.2.1; omega)],A.1,by rw [A.2.2]; exact a3⟩
 obtain ⟨rfl,bY,rfl⟩:=cY
 have bY:(dz<|r.getD 4 []).2=0:=ab
 refine nl<|tn<|a7 _ _<|rg aa<|p (cI kQ aa (aa) fun j bN=>cf.bu j)<|e<|cl H6 (Pe (dz<|r.getD 4 []).1 dx dA _ (aC.md (aC.wk (aT bf).2 aL.md) ag fun da h=>by have :=OO bf da; omega)<|by have :=JQ (r.getD 4 []); omega) aa fun eB eJ cZ=> ?_
 obtain ⟨rfl,an⟩:=cZ
 have cz:=a3.trans an
 have en:=an.size
 refine p (fa Cc aa)<|e<|st mP aa aa (aa) (an.B<|ag.B (bi.B a2) fun h=>by have :=a2.lt; omega) (by simp) fun dM ba ch=> ?_
 have cv:Wk w dM:=cz.trans' ba fun k hk h=>by omega
 exact nl<|tn<|⟨nO (dz<|r.getD 4 []).1,(JH bg bV bY),ch,(Tg.C7 (Tg.wk bE<|dv.trans an) ba fun k hk=>by omega),(by obtain ⟨L,a8,aQ⟩:=bJ; exact ⟨L,a8,ba.B (an.B<|ag.B (bi.B aQ) fun h=>by have :=aQ.lt; omega) fun h=>by omega⟩),cv,aa,aa⟩
 exact aM<|tn<|⟨[46],(JJ ab),a2,bE,bJ,ao,aa,aa⟩
 rintro bk ay ⟨aj,c8,cq,bC,c3,cA,ds,du⟩
 refine fx 6 ds<|fx 7 du ?_
 obtain ⟨dW,cM,c4⟩:=c3
 obtain ⟨b9,ca,rfl⟩:=bC.slice
 exact sq fun aZ ac=>rg aa<|p (cI ko aa (aa) fun j bN=>cq.bu j)<|e<|cw mO aa aa aa aa (c4) (by rw [cM]; decide) fun eK bt ci=>nl<|tn<|ac _ _<|rt<|gU<|q8 aa (dy (cs:=dP (⟨c.kind,c.flag,c.fu,stx,Y,aj,nx,ln⟩,.slice b9 nx.length ca)) aa ko aa fun j bN=>by rw [ci.bu j,List.drop_eq_nil_of_le ab,dS]; rfl)<|⟨⟨c.kind,c.flag,c.fu,stx,Y,aj,nx,ln⟩,by rw [nN hlen,bK]; simp only; rw [aq]; simp only; rw [ax]; simp only; rw [c8],aa,⟨_,aa,(Tg.C7 bC bt fun k hk=>by have :=aN.size; omega).mono ab⟩,cA.trans' bt fun k hk h=>by omega⟩
end Go.Hb.fJ
end
section
namespace Go.Hb.lW
open Go.Hb.fJ Go.Hb.oa
theorem cD.G7 {w q E:World} {B fb mc:Nat} {F:aE} {V:dG} {v:Value} {x:Tx×Tx} (h:cD w B fb mc F V) (hm:Md (fun k=>V.v9.ownBlock=some k) w q) (J:bm q B 128 2 v (F.cT++ [x]).length (lH<|F.cT++ [x])) (a:Md (fun k=>k=fb) q E) (M:E.heap[fb]? =some (.cells (l8 {F with cT:=F.cT++ [x]} {V with v9:=v} mc).toArray 125 (0,0))):cD E B fb mc {F with cT:=F.cT++ [x]} {V with v9:=v} :=by
 have c:TF w [130] (fun k=>V.v9.ownBlock=some k):=TF.own h.o9 aw
 have C:=hm.iY c h.cells aw
 have A:TF q [127] (fun k=>k=fb):=TF.eq (di C) aw
 have G:∀ k,V.v9.ownBlock=some k→∀ cur z,w.heap[k]?≠some (.cells cur 51 z):=iG h.o9 aw
 have I:∀ k,k=fb→∀ cur z,q.heap[k]?≠some (.cells cur 51 z):=gn C aw
 obtain ⟨f,i,O⟩:=h.cm
 have U:=dj<|i.md hm<|c.no (dj i) aw
 exact ⟨M,bZ J a (fun k hk i=>dp J C aw<|i ▸ hk),cM (cM h.fN hm c aw) a A aw,(h.al.md hm G).md a I,cM (cM h.ff hm c aw) a A aw,cM (cM h.dN hm c aw) a A aw,(h.nx.md hm G).md a I,⟨f,(i.md hm<|c.no (dj i) aw).md a (A.no U aw),O⟩,h.lo,h.iS⟩
theorem cD.G4 {w q I:World} {B fb mc:Nat} {F:aE} {V:dG} {v:Value} {x:List Nat} {vx:Value} (h:cD w B fb mc F V) (Y:Tg w B 51 x.length vx (x.map aO)) (hm:Md (fun k=>V.v10.ownBlock=some k) w q) (J:bm q B 70 1 v (F.aliases++ [x]).length (V.sa++ [vx])) (a:Md (fun k=>k=fb) q I) (M:I.heap[fb]? =some (.cells (l8 {F with aliases:=F.aliases++ [x]} {V with v10:=v,sa:=V.sa++ [vx]} mc).toArray 125 (0,0))):cD I B fb mc {F with aliases:=F.aliases++ [x]} {V with v10:=v,sa:=V.sa++ [vx]} :=by
 have c:TF w [72] (fun k=>V.v10.ownBlock=some k):=TF.own h.fN aw
 have C:=hm.iY c h.cells aw
 have A:TF q [127] (fun k=>k=fb):=TF.eq (di C) aw
 have E:∀ k,V.v10.ownBlock=some k→∀ cur z,w.heap[k]?≠some (.cells cur 51 z):=iG h.fN aw
 have G:∀ k,k=fb→∀ cur z,q.heap[k]?≠some (.cells cur 51 z):=gn C aw
 obtain ⟨f,i,O⟩:=h.cm
 have U:=dj<|i.md hm<|c.no (dj i) aw
 exact ⟨M,cM (cM h.o9 hm c aw) a A aw,bZ J a (fun k hk i=>dp J C aw<|i ▸ hk),((h.al.md hm E).md a G).snoc ((Y.md hm E).md a G),cM (cM h.ff hm c aw) a A aw,cM (cM h.dN hm c aw) a A aw,(h.nx.md hm E).md a G,⟨f,(i.md hm<|c.no (dj i) aw).md a (A.no U aw),O⟩,h.lo,h.iS⟩
theorem cD.G6 {w q I:World} {B fb mc:Nat} {F:aE} {V:dG} {v:Value} {x:cW} {vx:Value} (h:cD w B fb mc F V) (Y:Tg w B 51 x.next.length vx (x.next.map aO)) (hm:Md (fun k=>V.v12.ownBlock=some k) w q) (J:bm q B 77 7 v (F.rules++ [x]).length (fy<|(F.rules++ [x]).zip<|V.rn++ [vx])) (a:Md (fun k=>k=fb) q I) (M:I.heap[fb]? =some (.cells (l8 {F with rules:=F.rules++ [x]} {V with v12:=v,rn:=V.rn++ [vx]} mc).toArray 125 (0,0))):cD I B fb mc {F with rules:=F.rules++ [x]} {V with v12:=v,rn:=V.rn++ [vx]} :=by
 have c:TF w [79] (fun k=>V.v12.ownBlock=some k):=TF.own h.dN aw
 have C:=hm.iY c h.cells aw
 have A:TF q [127] (fun k=>k=fb):=TF.eq (di C) aw
 have E:∀ k,V.v12.ownBlock=some k→∀ cur z,w.heap[k]?≠some (.cells cur 51 z):=iG h.dN aw
 have G:∀ k,k=fb→∀ cur z,q.heap[k]?≠some (.cells cur 51 z):=gn C aw
 obtain ⟨f,i,O⟩:=h.cm
 have U:=dj<|i.md hm<|c.no (dj i) aw
 exact ⟨M,cM (cM h.o9 hm c aw) a A aw,cM (cM h.fN hm c aw) a A aw,(h.al.md hm E).md a G,cM (cM h.ff hm c aw) a A aw,bZ J a (fun k hk i=>dp J C aw<|i ▸ hk),(by rw [iK]; exact ((h.nx.md hm E).md a G).snoc<|(Y.md hm E).md a G),⟨f,(i.md hm<|c.no (dj i) aw).md a (A.no U aw),O⟩,h.lo,h.iS⟩
theorem bU.own {w w':World} {B:Nat} {H:bP} {F:aE} {R:fk} {rows:List Rw} {ln:Nat} {seen:List Tx} {B' e s n:Nat} {v:Value} {xs:List Value} (h:bU w B H F R rows ln seen) (A:bm w B' e s v n xs) (hm:Md (fun k=>v.ownBlock=some k) w w') (c:([e+2].contains 197 || [e+2].contains 211 || [e+2].contains 11 || [e+2].contains 5)=false):bU w' B H F R rows ln seen:=by
 have a:TF w [e+2] (fun k=>v.ownBlock=some k):=TF.own A<|by simp
 obtain ⟨f,i,_⟩:=h.sm
 obtain ⟨g,q,_⟩:=h.tm
 exact h.md hm a c (a.no (dj i)<|by simp)<|a.no (dj q)<|by simp
theorem bU.tA {w w':World} {B:Nat} {H:bP} {F:aE} {R:fk} {rows:List Rw} {ln:Nat} {seen:List Tx} {cs:Array Value} {z:Nat×Nat} (h:bU w B H F R rows ln seen) (c:w.heap[H.fb]? =some (.cells cs 125 z)) (hm:Md (fun k=>k=H.fb) w w'):bU w' B H F R rows ln seen:=by
 have a:TF w [127] (fun k=>k=H.fb):=TF.eq (di c) aw
 obtain ⟨f,i,A⟩:=h.sm
 obtain ⟨g,q,C⟩:=h.tm
 exact h.md hm a aw (a.no (dj i) aw)<|a.no (dj q) aw
theorem Tg.yf {w:World} {b e n:Nat} {L:List Value} {z:Nat×Nat} (h:w.heap[b]? =some (.cells L.toArray e z)) (hn:n=L.length):Tg w b e n (.slice (some ⟨b,0,none⟩) n n) L:=⟨_,_,rfl,bX _,.inr ⟨b,_,_,rfl,bX _,h,fun j u hu=>by simpa using hu⟩⟩
theorem iV.pG {F:aE} {q:Rw} {rest:List Rw} {seen:List Tx} (h:iV F (q::rest) seen):iV F rest seen:=⟨by have :=h.len; simp only [bT] at this; omega,by have :=h.sl; simp only [bT] at this; omega,fun a h2=>h.row a (List.mem_cons_of_mem _ h2),h.kd,h.al⟩
theorem Pz {eof ln e:Nat} {F:aE} {rows:List Rw} {r:List Tx} (h:dQ (r.getD 1 []) 256= .error e):jQ eof F rows ln r= .error (ln,e):=by unfold jQ; rw [h]
theorem rP {eof ln n:Nat} {F:aE} {rows:List Rw} {r:List Tx} {e:Nat×Nat} (h:dQ (r.getD 1 []) 256= .ok n) (h1:group [iD] k4 eof n rows= .error e):jQ eof F rows ln r= .error e:=by unfold jQ; rw [h]; simp only; rw [h1]
theorem PA {eof ln n:Nat} {F:aE} {rows:List Rw} {r:List Tx} {q:List (Tx×Tx)×List Rw} (h:dQ (r.getD 1 []) 256= .ok n) (h1:group [iD] k4 eof n rows= .ok q):jQ eof F rows ln r= .ok ({F with cT:=F.cT++q.1},q.2):=by unfold jQ; rw [h]; simp only; rw [h1]
theorem x9 {s:Tx} {most:Int} {n:Nat} (h:dQ s most= .ok n):(n:Int)≤most:=by
 unfold dQ at h
 split at h
 · cases h
 · rename_i a; cases h; exact tQ s most<|lf.1 a
theorem GV {eof ln:Nat} {F:aE} {hs:List Tx} {rows:List Rw} {r:List Tx} (h:gX∈hs∨cY∈hs):jn eof F hs rows ln r= .error (ln,113):=if_pos h
theorem GW {eof ln e:Nat} {F:aE} {hs:List Tx} {rows:List Rw} {r:List Tx} (a:¬(gX∈hs∨cY∈hs)) (h:dQ (r.getD 1 []) 1024= .error e):jn eof F hs rows ln r= .error (ln,e):=by unfold jn; rw [if_neg a,h]
theorem sU {eof ln n:Nat} {F:aE} {hs:List Tx} {rows:List Rw} {r:List Tx} {e:Nat×Nat} (a:¬(gX∈hs∨cY∈hs)) (h:dQ (r.getD 1 []) 1024= .ok n) (h1:group [gV] (kS F.kind) eof n rows= .error e):jn eof F hs rows ln r= .error e:=by unfold jn; rw [if_neg a,h]; simp only; rw [h1]
theorem GX {eof ln n:Nat} {F:aE} {hs:List Tx} {rows:List Rw} {r:List Tx} {q:List (List Nat)×List Rw} (a:¬(gX∈hs∨cY∈hs)) (h:dQ (r.getD 1 []) 1024= .ok n) (h1:group [gV] (kS F.kind) eof n rows= .ok q):jn eof F hs rows ln r= .ok ({F with aliases:=F.aliases++q.1},q.2):=by unfold jn; rw [if_neg a,h]; simp only; rw [h1]
theorem GQ {kind ln:Nat} {r:List Tx} (h:r.length≠2):kS kind ln r= .error 111:=if_pos h
theorem zS {kind ln:Nat} {r:List Tx} (h:r.length=2):kS kind ln r=jJ kind (r.getD 1 []):=if_neg ab
theorem Cd {kind:Nat} {s:Tx} (h:(ee kind s).2=0):(ee kind s).1.length≤64∧(ee kind s).1.Pairwise (· < ·):=by
 unfold ee at h ⊢
 split
 · simp
 · split
   · simp
   · split
     · simp
     · rename_i h3
       exact ⟨by have :=OE ((dO kind s).map<|dX kind); rw [eJ] at this; exact eV this ab,yd _⟩
theorem Pu {ln:Nat} {r:List Tx} (h:r.length≠3):k4 ln r= .error 111:=if_pos h
theorem Pv {ln e:Nat} {r:List Tx} (h:r.length=3) (h1:e0 false (r.getD 1 [])= .error e):k4 ln r= .error e:=by unfold k4; rw [if_neg ab,h1]
theorem Pw {ln e:Nat} {r:List Tx} {a:Tx} (h:r.length=3) (h1:e0 false (r.getD 1 [])= .ok a) (h2:e0 true (r.getD 2 [])= .error e):k4 ln r= .error e:=by unfold k4; rw [if_neg ab,h1]; simp only; rw [h2]
theorem Px {ln:Nat} {r:List Tx} {a b:Tx} (h:r.length=3) (h1:e0 false (r.getD 1 [])= .ok a) (h2:e0 true (r.getD 2 [])= .ok b):k4 ln r= .ok (a,b):=by unfold k4; rw [if_neg ab,h1]; simp only; rw [h2]
theorem PB (B:Nat) (H:bP) (F:aE) (rows:List Rw) (ln:Nat) (seen:List Tx) (r:List Tx) (bd:Nat) (ar:Option Addr) (cr:Nat) (w:World) (G:St w B H F rows ln seen) (bD:Tg w bd 9 r.length (.slice ar r.length cr) (r.map str)) (cm:r.length=2) (bL:∀ x∈r,x.length≤70000):
 dV au 133 (aY [.pointer (some ⟨H.rb,0,none⟩),.slice ar r.length cr]) w (gF B H seen (jQ H.eof F rows ln r) w) (gE B H (jQ H.eof F rows ln r) w):=by
 obtain ⟨V,R,ac,aN,aU⟩:=G
 have a7:=bD.c6
 have cn:(r.getD 1 []).length≤70000:=bL _<|eR ab
 have ck:=aN.lo
 have cf:=aU.len
 refine iw func133 aa ntmps133 aa<|sq fun b2 bl=>rg aa<|p (aG (.pointer<|some ⟨H.rb,0,none⟩) aa)<|p (aG (.slice ar r.length cr) aa)<|p (aW dD aa aa ab<|aC.ok (a7.2)<|cK ab)<|p (ld cG aa<|cX.get (i:=1) a7.2 ab)<|eP aa (cC s8 (tV H.rb ln (r.getD 1 []) 256 w aN.dH ab ab) aa fun v10 ct bw=> ?_) fun c w' C aD ac=>by obtain ⟨e,he,h,h2⟩:=C; exact ⟨ln,e,Pz he,h,Wk.mw h2⟩
 obtain ⟨n,U,rfl,aI⟩:=bw
 have cl:=x9 U
 refine p mv<|nl<|tn<|bl _ _<|aB<|lp (fun aT aF an=> ∃ (i:Nat) (xs:List (Tx×Tx)) (rows':List Rw) (az:Nat) (A:dG) (R':fk),(i≤n)∧(fW [iD] k4 H.eof (group [iD] k4 H.eof n rows) xs (n - i) rows')∧(xs.length=i)∧(cD an B H.fb H.mc {F with cT:=F.cT++xs} A)∧(bU an B H F R' rows' az seen)∧(iV {F with cT:=F.cT++xs} rows' seen)∧(dU B H w an)∧(aF 0= .pointer (some ⟨H.rb,0,none⟩))∧(aF 10= .int .i64 (n:Nat))∧(aF 11= .int .i64 (i:Nat))∧(n - i=aT)) _ ⟨0,[],rows,ln,V,R,ab,fW.start,aa,(by rw [dS]; exact ac.wk aI),(aN.wk aI),(by rw [dS]; exact aU),(Wk.mw aI),aa,aa,aa,aa⟩ ?_
 rintro aT aF an ⟨i,xs,rows',az,A,R',hi,I,bX,aV,ak,ai,aZ,bM,bN,bQ,rfl⟩
 refine fx 0 bM<|fx 10 bN<|fx 11 bQ<|sq fun b3 bo=>rg aa<|p (lt aa aa)<|nl<|tn<|bo _ _<|sq fun b4 bp=>cd aa (fun bG=> ?_) fun bG=> ?_
 refine aM<|tn<|bp _ _<|sq fun b5 bq=>aB<|sq fun b6 br=>rg aa<|p (aG (.pointer<|some ⟨H.rb,0,none⟩) aa)<|e<|pw (L:= [str iD]) jS aa aa aa aa fun bg bb cc bv bh=> ?_
 have Z:Wk an bb:=bv.md
 have a0:=aZ.trans<|Wk.mw Z
 refine eP aa (cC vN (xN B H F R' rows' az seen [iD] bg 1 _ _ bb (ak.wk Z) (Tg.yf bh aa) aa aw fun q bK=>(ai.row q bK).2.1) aa fun cp bY bx=> ?_) (fun c w' C aD ac=>by
  obtain ⟨h1,h2⟩:=C
  have hm:=a0.trans<|dU.rb (ak.wk Z) h2
  rcases h1 with ⟨rfl,h3⟩ | ⟨ah,O,rest,rfl,h4,h3⟩
  exact ⟨_,_,rP U (I.ends ab),h3,hm⟩
  exact ⟨_,_,rP U (I.other ab h4),h3,hm⟩)
 obtain ⟨ah,O,rest,rfl,ay,⟨bf,aO⟩,hT15,hM15⟩:=bx
 obtain ⟨b9,cb,rfl⟩:=hT15.slice
 have bk:=(aV.wk Z).rb (ak.wk Z) hM15
 have aL:=a0.trans<|dU.rb (ak.wk Z) hM15
 have ba:O≠[]∧O.length≤70000∧∀ x∈O,x.length≤70000:=ai.row (ah,O)<|by simp
 have ao:=iV.pG ai
 have a5:=hT15.c6
 have bE:=ai.len
 simp only [bT,bF] at bE
 refine p aA<|nl<|tn<|br _ _<|sq fun b7 bs=>rg aa<|p (aG (.pointer<|some ⟨H.rb,0,none⟩) aa)<|p mv<|p (bO gP aa aa)<|p (bS aa aa)<|eP aa (cC fD (fG H.rb ah _ 111 bY aO.dH aw) aa fun v20 bZ bz=> ?_) fun c w' C aD ac=>⟨_,_,rP U (I.bad ab ay<|Pu<|by have :=of_decide_eq_false C.2.1; omega),C.1,by rw [C.2.2]; exact aL⟩
 obtain ⟨rfl,bW,rfl⟩:=bz
 have aS:O.length=3:=by have :=of_decide_eq_true bW; omega
 have ci:=ba.2.2 _<|eR (d:= []) (i:=1) ab
 have cj:=ba.2.2 _<|eR (d:= []) (i:=2) ab
 refine nl<|tn<|bs _ _<|sq fun b8 bt=>rg aa<|p (aG (.pointer<|some ⟨H.rb,0,none⟩) aa)<|p mv<|p (aW dD aa aa ab<|aC.ok (a5.2)<|cK ab)<|p (ld cG aa<|cX.get (i:=1) a5.2 ab)<|eP aa (cC Aq (DA H.rb ah (O.getD 1 []) bZ aO.dH ab) aa fun cq Y bA=> ?_) fun c w' C aD ac=>by obtain ⟨e,he,h,h2⟩:=C; exact ⟨_,_,rP U (I.bad ab ay<|Pv aS he),h,aL.trans<|Wk.mw h2⟩
 obtain ⟨J,a9,rfl,aq⟩:=bA
 have ae:=bk.wk aq
 have am:=aO.wk aq
 have a6:=hT15.wk aq
 have a1:=aL.trans<|Wk.mw aq
 have aR:¬(A.v9.ownBlock=some H.rb):=dp ae.o9 am.cells aw
 have bH:¬(A.v9.ownBlock=some H.fb):=dp ae.o9 ae.cells aw
 refine p aA<|nl<|tn<|bt _ _ ?_
 have a:(fun w'=>Md (fun k=>A.v9.ownBlock=some k) Y w') Y.drew:=(Md.refl _ _).drew
 refine ei (fun w'=>Md (fun k=>A.v9.ownBlock=some k) Y w') 24 aa wide a<|bV 0 aa ag (fun _=>aG (.pointer<|some ⟨H.rb,0,none⟩) aa) (fun _=>a)<|bV 1 aa ag (fun _=>nc aa) (fun _=>a)<|bV 2 aa ag (fun _=>fa fw aa) (fun _=>a)<|iR 3 aa ag (fun w' G=>ld ed aa<|Md.aH G ((aX am.cells).trans aa) aR) a<|bV 4 aa ag (fun _=>aG (.pointer<|some ⟨H.rb,0,none⟩) aa) (fun _=>a)<|bV 5 aa ag (fun _=>nc aa) (fun _=>a)<|bV 6 aa ag (fun _=>fa fw aa) (fun _=>a)<|iR 7 aa ag (fun w' G=>ld ed aa<|Md.aH G ((aX am.cells).trans aa) aR) a<|bV 8 aa ag (fun _=>nc aa) (fun _=>a)<|bV 9 aa ag (fun _=>fa eZ aa) (fun _=>a)<|bV 10 aa ag (fun _=>fa tJ aa) (fun _=>a)<|iR 11 aa ag (fun w' G=>ld zR aa<|Md.aH G ((aX ae.cells).trans aa) bH) a<|bV 12 aa ag (fun _=>mv) (fun _=>a)<|bV 13 aa ag (fun _=>aG (.pointer<|some ⟨H.rb,0,none⟩) aa) (fun _=>a)<|bV 14 aa ag (fun _=>mv) (fun _=>a) ?_
 refine bV 15 aa ag (fun _=>aW dD aa aa ab<|aC.ok (a6.c6.2)<|cK ab) (fun _=>a)<|iR 16 aa ag (fun w' G=>ld cG aa<|cX.get (i:=2) (a6.md G<|iG ae.o9 aw).c6.2 ab) a<|CT 17 aa ag aa (cC Ar (Dy H.rb ah (O.getD 2 []) Y.drew (Md.aH a am.dH aR) ab) aa fun cs b0 bB=> ?_) fun c w' C aD ac=>by obtain ⟨e,he,h,h2⟩:=C; exact ⟨_,_,rP U (I.bad ab ay<|Pw aS a9 he),h,a1.trans<|Wk.mw<|gY h2⟩
 obtain ⟨M,bJ,rfl,av⟩:=bB
 have av:=gY av
 have aP:(fun w'=>Md (fun k=>A.v9.ownBlock=some k) Y w') b0:=Md.mono av fun _ _ h=>h.elim
 refine ⟨aP,?_⟩
 refine bV 18 aa ag (fun _=>cE (ps:= [(0,str J),(1,str M)]) (L:= [str J,str M]) Qs aa<|aa) (fun _=>aP)<|iQ 19 aa ag<|nB uh aa aa aa fun ca b1 ce a2 bi=> ?_
 have aJ:=av.trans a2.md
 have E:=ae.wk aJ
 have a3:=am.wk aJ
 have a4:(fun w'=>Md (fun k=>A.v9.ownBlock=some k) Y w') b1:=aP.trans' a2.md fun _ _ h=>h.elim
 refine ⟨a4,?_⟩
 refine iQ 20 aa ag<|ap uh (E.o9) aa (by have :=(cg.1 a3.cells).1; omega) aa (aC.fO bi) (aa) (aa) (by simp only [bF]; omega) (by simp only [bF]; omega) fun v46 bc a8 aj co ch=> ?_
 have bu:=(a1.trans<|Wk.mw aJ).trans<|Mw.of aj (TF.own E.o9 aw) fun k hk=>(dd E.o9 hk).1
 have bC:=bU.own a3 E.o9 aj aw
 have aQ:=aj.aB E.cells<|dp E.o9 E.cells aw
 have bI:bm bc B 128 2 v46 ((F.cT++xs)++ [(J,M)]).length (lH<|(F.cT++xs)++ [(J,M)]):=by rw [show lH ((F.cT++xs)++ [(J,M)])=lH (F.cT++xs)++ [str J,str M] from by simp [lH],bF]; exact a8
 have ax:(fun w'=>Md (fun k=>A.v9.ownBlock=some k) Y w') bc:=a4.trans' aj fun _ _ h=>h
 refine ⟨ax,?_⟩
 exact bV 21 aa ag (fun _=>nc aa) (fun _=>ax)<|bV 22 aa ag (fun _=>fa eZ aa) (fun _=>ax)<|bV 23 aa ag (fun _=>fa tJ aa) (fun _=>ax)<|cQ 24 aa ag ag<|dA A9 aa aa (v:=v46) (eb a8) aQ (by show _ < 14; omega) fun cu aK bj=>eh ag<|bn<|tn<|bq _ _<|rg aa<|p (ad aa aa<|bR ab)<|p mv<|nl<|tn<|⟨_,ab,i+1,xs++ [(J,M)],rest,ah,{A with v9:=v46},bf,ab,(by rw [show n - (i+1)=n - i - 1 by omega]; exact I.step ab ay<|Px aS a9 bJ),(by rw [bF,bX]; rfl),(by rw [← dx]; exact cD.G7 (x:=(J,M)) E aj bI aK bj),(bU.tA bC aQ aK),(⟨by simp only [bF,iq]; omega,ao.sl,ao.row,ao.kd,ao.al⟩),(bu.trans<|Mw.of aK (TF.eq (di aQ) aw) fun k hk=>hk ▸ E.lo.1),aa,aa,aa,aa⟩
 refine ext<|te _<|te _<|be<|gU<|f0 aa ?_
 rw [show n - i=0 by omega] at I
 exact ⟨aa,_,rows',az,PA U I.done,⟨A,R',aV,ak.congr aa (fun _=>rfl),ai⟩,aZ⟩
theorem GU (B:Nat) (H:bP) (F:aE) (rows:List Rw) (ln:Nat) (seen:List Tx) (r:List Tx) (bt:Nat) (ar:Option Addr) (cr:Nat) (w:World) (A:St w B H F rows ln seen) (bf:Tg w bt 9 r.length (.slice ar r.length cr) (r.map str)) (cV:r.length=2) (ch:∀ x∈r,x.length≤70000):
 dV au 134 (aY [.pointer (some ⟨H.rb,0,none⟩),.slice ar r.length cr]) w (gF B H seen (jn H.eof F seen rows ln r) w) (gE B H (jn H.eof F seen rows ln r) w):=by
 obtain ⟨V,R,ah,U,aK⟩:=A
 have cJ:=bf.c6
 have cW:(r.getD 1 []).length≤70000:=ch _<|eR ab
 have cT:=U.lo
 have cN:=aK.len
 obtain ⟨c1,bl,bo⟩:=U.sm
 have cO:=qu (a:=gX) (l:=seen)
 have cP:=qu (a:=cY) (l:=seen)
 have cZ:=aK.sl
 refine iw func134 aa ntmps134 aa<|sq fun ct bB=> ?_
 have C:(fun w'=>Wk w w') w.drew:=(Md.refl _ _).drew
 refine bK (fun w'=>Wk w w') aa wide C<|hp 0 aa ag (fun _ _=>aG (.pointer<|some ⟨H.rb,0,none⟩) aa) C<|hp 1 aa ag (fun _ _=>aG (.pointer<|some ⟨H.rb,0,none⟩) aa) C<|hp 2 aa ag (fun _ _=>nc aa) C<|hp 3 aa ag (fun _ _=>fa pN aa) C<|hp 4 aa ag (fun w' A=>ld ph aa<|Wk.aH A<|(aX U.cells).trans aa) C<|hp 5 aa ag (fun w' A=>me nU mx fZ (bQ.md (bl) A id) aa aa (⟨_,aa⟩)<|bo gX) C<|hp 6 aa ag (fun _ _=>aG (.pointer<|some ⟨H.rb,0,none⟩) aa) C<|hp 7 aa ag (fun _ _=>nc aa) C<|hp 8 aa ag (fun _ _=>fa pN aa) C<|hp 9 aa ag (fun w' A=>ld ph aa<|Wk.aH A<|(aX U.cells).trans aa) C<|hp 10 aa ag (fun w' A=>me nU mx fZ (bQ.md (bl) A id) aa aa (⟨_,aa⟩)<|bo cY) C<|hp 11 aa ag (fun _ _=>bG ((seen.count gX+seen.count cY:Nat):Int) aa aa<|bd ab ab) C<|hp 12 aa ag (fun _ _=>bS aa aa) C ?_
 refine pS 13 aa ag aa (cC fD (fG H.rb ln _ 113 w.drew (Wk.aH C U.dH) aw) aa fun v20 a3 b1=> ?_) (fun c w' E aQ ah=>⟨ln,113,GV (Classical.byContradiction fun h2=>by
  have h1:=n6.2 fun h=>h2<|Or.inl h
  have h3:=n6.2 fun h=>h2<|Or.inr h
  exact of_decide_eq_false E.2.1 ab),E.1,by rw [E.2.2]; exact Wk.mw C⟩)
 obtain ⟨rfl,cn,bp⟩:=b1
 have aL:Wk w a3:=by rw [bp]; exact (Md.refl _ _).drew
 have ak:¬(gX∈seen∨cY∈seen):=by
  have cI:=of_decide_eq_true cn
  rintro (h | h)
  have :=u6.2 h; omega
  have :=u6.2 h; omega
 have bZ:=U.wk aL
 have bg:=(bf.wk aL).c6
 have b7:(fun w'=>Wk w w') a3:=by rw [bp]; exact C
 refine ⟨b7,?_⟩
 refine hn ag<|tn<|bB _ _<|sq fun cu bC=>rg aa<|p (aG (.pointer<|some ⟨H.rb,0,none⟩) aa)<|p (aG (.slice ar r.length cr) aa)<|p (aW dD aa aa ab<|aC.ok (bg.2)<|cK ab)<|p (ld cG aa<|cX.get (i:=1) bg.2 ab)<|eP aa (cC s8 (tV H.rb ln (r.getD 1 []) 1024 a3 bZ.dH ab ab) aa fun c3 c7 b2=> ?_) fun c w' E aQ ah=>by obtain ⟨e,he,h,h2⟩:=E; exact ⟨ln,e,GW ak he,h,Wk.mw<|aL.trans h2⟩
 obtain ⟨n,am,rfl,an⟩:=b2
 have cU:=x9 am
 have an:=aL.trans an
 refine p mv<|nl<|tn<|bC _ _<|aB<|lp (fun a4 aR aI=> ∃ (i:Nat) (xs:List (List Nat)) (rows':List Rw) (aP:Nat) (I:dG) (R':fk),(i≤n)∧(fW [gV] (kS F.kind) H.eof (group [gV] (kS F.kind) H.eof n rows) xs (n - i) rows')∧(xs.length=i)∧(cD aI B H.fb H.mc {F with aliases:=F.aliases++xs} I)∧(bU aI B H F R' rows' aP seen)∧(iV {F with aliases:=F.aliases++xs} rows' seen)∧(dU B H w aI)∧(aR 0= .pointer (some ⟨H.rb,0,none⟩))∧(aR 25= .int .i64 (n:Nat))∧(aR 26= .int .i64 (i:Nat))∧(n - i=a4)) _ ⟨0,[],rows,ln,V,R,ab,fW.start,aa,(by rw [dS]; exact ah.wk an),(U.wk an),(by rw [dS]; exact aK),(Wk.mw an),aa,aa,aa,aa⟩ ?_
 rintro a4 aR aI ⟨i,xs,rows',aP,I,R',hi,Y,cp,a5,ax,Z,a7,cj,ck,cm,rfl⟩
 refine fx 0 cj<|fx 25 ck<|fx 26 cm<|sq fun cv bD=>rg aa<|p (lt aa aa)<|nl<|tn<|bD _ _<|sq fun cw bE=>cd aa (fun ca=> ?_) fun ca=> ?_
 refine aM<|tn<|bE _ _<|sq fun cx bH=>aB<|sq fun cy bI=>rg aa<|p (aG (.pointer<|some ⟨H.rb,0,none⟩) aa)<|e<|pw (L:= [str gV]) jS aa aa aa aa fun bv bq cL bX bw=> ?_
 have ac:Wk aI bq:=bX.md
 have a8:=a7.trans<|Wk.mw ac
 refine eP aa (cC vN (xN B H F R' rows' aP seen [gV] bv 1 _ _ bq (ax.wk ac) (Tg.yf bw aa) aa aw fun q cf=>(Z.row q cf).2.1) aa fun c2 cq b0=> ?_) (fun c w' E aQ ah=>by
  obtain ⟨h1,h2⟩:=E
  have hm:=a8.trans<|dU.rb (ax.wk ac) h2
  rcases h1 with ⟨rfl,h3⟩ | ⟨az,M,rest,rfl,h4,h3⟩
  exact ⟨_,_,sU ak am (Y.ends ab),h3,hm⟩
  exact ⟨_,_,sU ak am (Y.other ab h4),h3,hm⟩)
 obtain ⟨az,M,rest,rfl,a0,⟨bu,aN⟩,hT15,hM15⟩:=b0
 obtain ⟨cE,cH,rfl⟩:=hT15.slice
 have a6:=(a5.wk ac).rb (ax.wk ac) hM15
 have a9:=a8.trans<|dU.rb (ax.wk ac) hM15
 have ci:M≠[]∧M.length≤70000∧∀ x∈M,x.length≤70000:=Z.row (az,M)<|by simp
 have aS:=iV.pG Z
 have bh:=hT15.c6
 have b9:=Z.len
 simp only [bT,bF] at b9
 refine p aA<|nl<|tn<|bI _ _<|sq fun cz bJ=>rg aa<|p (aG (.pointer<|some ⟨H.rb,0,none⟩) aa)<|p mv<|p (bO gP aa aa)<|p (bS aa aa)<|eP aa (cC fD (fG H.rb az _ 111 cq aN.dH aw) aa fun c4 aD b3=> ?_) fun c w' E aQ ah=>⟨_,_,sU ak am (Y.bad ab a0<|GQ<|by have :=of_decide_eq_false E.2.1; omega),E.1,by rw [E.2.2]; exact a9⟩
 obtain ⟨rfl,co,rfl⟩:=b3
 have bk:M.length=2:=by have :=of_decide_eq_true co; omega
 have cS:=ci.2.2 _<|eR (d:= []) (i:=1) ab
 refine nl<|tn<|bJ _ _<|sq fun cA bL=> ?_
 have J:(fun w'=>Wk aD w') aD.drew:=(Md.refl _ _).drew
 refine bK (fun w'=>Wk aD w') aa wide J<|hp 0 aa ag (fun _ _=>aG (.pointer<|some ⟨H.rb,0,none⟩) aa) J<|hp 1 aa ag (fun _ _=>nc aa) J<|hp 2 aa ag (fun _ _=>fa fw aa) J<|hp 3 aa ag (fun w' A=>ld ed aa<|Wk.aH A<|(aX aN.cells).trans aa) J<|hp 4 aa ag (fun _ _=>nc aa) J<|hp 5 aa ag (fun _ _=>fa eZ aa) J<|hp 6 aa ag (fun _ _=>fa pO aa) J<|hp 7 aa ag (fun w' A=>ld bW aa<|Wk.aH A<|(aX a6.cells).trans aa) J<|hp 8 aa ag (fun _ _=>mv) J<|hp 9 aa ag (fun _ _=>aW dD aa aa ab<|aC.ok (bh.2)<|cK ab) J<|hp 10 aa ag (fun w' A=>ld cG aa<|Wk.aH A<|cX.get (i:=1) bh.2 ab) J<|he 11 aa ag<|cl As (Cj F.kind (M.getD 1 []) _ aK.kd ab) aa fun c5 br b4=> ?_
 obtain ⟨⟨aJ,rfl,aZ⟩,ae⟩:=b4
 have ae:=gY ae
 have aq:=a6.wk ae
 have ay:=aN.wk ae
 have ba:=a9.trans<|Wk.mw ae
 have bi:¬(I.v10.ownBlock=some H.rb):=dp aq.fN ay.cells aw
 have cc:¬(I.v10.ownBlock=some H.fb):=dp aq.fN aq.cells aw
 have bA:B≤aD.heap.size:=by have :=(cg.1 aN.cells).1; omega
 have ai:(fun w'=>Wk aD w') br:=ae
 refine ⟨ai,?_⟩
 refine hp 12 aa ag (fun _ _=>mv) ai<|hp 13 aa ag (fun _ _=>xt aa aa) ai<|hp 14 aa ag (fun _ _=>xt aa aa) ai<|hp 15 aa ag (fun _ _=>aA) ai<|hp 16 aa ag (fun _ _=>aA) ai<|hn ag<|tn<|bL _ _<|sq fun cB bM=>rg aa<|p (aG (.pointer<|some ⟨H.rb,0,none⟩) aa)<|p mv<|eP aa (cC l1 (mg H.rb az ((ee F.kind<|M.getD 1 []).2:Nat) br ay.dH) aa fun v53 aF b6=> ?_) fun c w' E aQ ah=>⟨_,_,sU ak am (Y.bad ab a0<|by rw [zS bk]; exact Ce<|by have :=E.2.1; omega),E.1,by rw [E.2.2]; exact ba⟩
 obtain ⟨rfl,a1,rfl⟩:=b6
 have a1:(ee F.kind<|M.getD 1 []).2=0:=ab
 have cb:=Cd a1
 refine nl<|tn<|bM _ _ ?_
 have G:(fun w'=>Md (fun k=>I.v10.ownBlock=some k) aF w') aF.drew:=(Md.refl _ _).drew
 refine ei (fun w'=>Md (fun k=>I.v10.ownBlock=some k) aF w') 18 aa wide G<|bV 0 aa ag (fun _=>aG (.pointer<|some ⟨H.rb,0,none⟩) aa) (fun _=>G)<|bV 1 aa ag (fun _=>nc aa) (fun _=>G)<|bV 2 aa ag (fun _=>fa fw aa) (fun _=>G)<|iR 3 aa ag (fun w' A=>ld ed aa<|Md.aH A ((aX ay.cells).trans aa) bi) G<|bV 4 aa ag (fun _=>aG (.pointer<|some ⟨H.rb,0,none⟩) aa) (fun _=>G)<|bV 5 aa ag (fun _=>nc aa) (fun _=>G)<|bV 6 aa ag (fun _=>fa fw aa) (fun _=>G)<|iR 7 aa ag (fun w' A=>ld ed aa<|Md.aH A ((aX ay.cells).trans aa) bi) G<|bV 8 aa ag (fun _=>nc aa) (fun _=>G)<|bV 9 aa ag (fun _=>fa eZ aa) (fun _=>G)<|bV 10 aa ag (fun _=>fa mS aa) (fun _=>G)<|iR 11 aa ag (fun w' A=>ld om aa<|Md.aH A ((aX aq.cells).trans aa) cc) G<|bV 12 aa ag (fun _=>mv) (fun _=>G)<|iQ 13 aa ag<|kT ui aa (eb aZ) fun cF cs cM bY bx=> ?_
 have ao:=gY bY.md
 have O:=aq.wk ao
 have bb:=ay.wk ao
 have b8:=(Tg.jP<|aV aZ ao).mono bA
 have bc:(fun w'=>Md (fun k=>I.v10.ownBlock=some k) aF w') cs:=Md.mono ao fun _ _ h=>h.elim
 refine ⟨bc,?_⟩
 refine iQ 14 aa ag<|ap ui (O.fN) aa (by have :=(cg.1 bb.cells).1; omega) aa (aC.fO bx) (aa) (by show List.all [aJ] Value.oneCell'=true; simp only [List.all_cons,List.all_nil,eb aZ,Bool.and_self]) (by simp only [bF]; omega) (by simp only [bF]; omega) fun a2 bs bj av c0 cR=> ?_
 have bN:=(ba.trans<|Wk.mw ao).trans<|Mw.of av (TF.own O.fN aw) fun k hk=>(dd O.fN hk).1
 have b5:=bU.own bb O.fN av aw
 have aU:=av.aB O.cells<|dp O.fN O.cells aw
 have ce:bm bs B 70 1 a2 ((F.aliases++xs)++ [(ee F.kind<|M.getD 1 []).1]).length (I.sa++ [aJ]):=by rw [bF]; exact bj
 have aO:(fun w'=>Md (fun k=>I.v10.ownBlock=some k) aF w') bs:=bc.trans' av fun _ _ h=>h
 refine ⟨aO,?_⟩
 exact bV 15 aa ag (fun _=>nc aa) (fun _=>aO)<|bV 16 aa ag (fun _=>fa eZ aa) (fun _=>aO)<|bV 17 aa ag (fun _=>fa mS aa) (fun _=>aO)<|cQ 18 aa ag ag<|dA Ba aa aa (v:=a2) (eb bj) aU (by show _ < 14; omega) fun c8 aT bz=>eh ag<|bn<|tn<|bH _ _<|rg aa<|p (ad aa aa<|bR ab)<|p mv<|nl<|tn<|⟨_,ab,i+1,xs++ [(ee F.kind<|M.getD 1 []).1],rest,az,{I with v10:=a2,sa:=I.sa++ [aJ]},bu,ab,(by rw [show n - (i+1)=n - i - 1 by omega]; exact Y.step ab a0<|by rw [zS bk]; exact Ch a1),(by rw [bF,cp]; rfl),(by rw [← dx]; exact cD.G4 (x:=(ee F.kind<|M.getD 1 []).1) (vx:=aJ) O b8 av ce aT bz),(bU.tA b5 aU aT),(⟨by simp only [bF,iq]; omega,aS.sl,aS.row,aS.kd,by intro l aj; rw [← dx] at aj; rcases mC.1 aj with aj | aj; exact Z.al l aj; rw [lj.1 aj]; exact cb⟩),(bN.trans<|Mw.of aT (TF.eq (di aU) aw) fun k hk=>hk ▸ O.lo.1),aa,aa,aa,aa⟩
 refine ext<|te _<|te _<|be<|gU<|f0 aa ?_
 rw [show n - i=0 by omega] at Y
 exact ⟨aa,_,rows',aP,GX ak am Y.done,⟨I,R',a5,ax.congr aa (fun _=>rfl),Z⟩,a7⟩
end Go.Hb.lW
end
section
namespace Go.Hb.n9
open Go.Hb.fJ Go.Hb.lW Go.Hb.oa
structure lX (w:World) (B fb:Nat) (mc:Nat) (F:aE) (V:dG):Prop where
 cells:w.heap[fb]? =some (.cells (l8 F V mc).toArray 125 (0,0))
 o9:bm w B 128 2 V.v9 F.cT.length (lH F.cT)
 fN:bm w B 70 1 V.v10 F.aliases.length V.sa
 al:c4 w B 51 V.sa F.aliases
 ff:bm w B 131 5 V.v11 F.bo.length (kU F.bo)
 dN:bm w B 77 7 V.v12 F.rules.length (fy<|F.rules.zip V.rn)
 nx:c4 w B 51 V.rn (F.rules.map (·.next))
 lo:B≤fb∧B≤mc
 iS:F.sp.length=5
theorem lX.md {G:Nat→Prop} {w w':World} {B fb mc:Nat} {F:aE} {V:dG} (h:lX w B fb mc F V) (hm:Md G w w') {L:List Nat} (a:TF w L G) (c:(L.contains 127 || L.contains 130 || L.contains 72 || L.contains 53 || L.contains 133 || L.contains 79)=false):lX w' B fb mc F V:=by
 simp only [nW] at c
 obtain ⟨⟨⟨⟨⟨h1,h2⟩,h3⟩,h4⟩,h5⟩,h6⟩:=c
 have i:∀ k,G k→∀ cur z,w.heap[k]?≠some (.cells cur 51 z):=fun k hk cur z q=>a.no (di q) h4 hk
 exact ⟨hm.iY a h.cells h1,cM h.o9 hm a h2,cM h.fN hm a h3,h.al.md hm i,cM h.ff hm a h5,cM h.dN hm a h6,h.nx.md hm i,h.lo,h.iS⟩
theorem lX.wk {w w':World} {B fb mc:Nat} {F:aE} {V:dG} (h:lX w B fb mc F V) (hm:Wk w w'):lX w' B fb mc F V:=h.md (L:= []) hm (fun _ hk=>hk.elim) rfl
theorem Lv {w:World} {B fb mc:Nat} {F:aE} {V:dG} (h:cD w B fb mc F V):lX w B fb mc F V:=⟨h.cells,h.o9,h.fN,h.al,h.ff,h.dN,h.nx,h.lo,h.iS⟩
theorem lX.G5 {w C I:World} {B fb mc:Nat} {F:aE} {V:dG} {v:Value} {x:dt} {f:Value→Option Value} (h:lX w B fb mc F V) (A:bQ w.heap mc (mT .u16) f) (Y:∀ y:Nat,f (aO y)=((F.bo++ [x]).findIdx? fun c=>decide (c.flag=y)).map fun i:Nat=>gA .i64 i) (hm:Md (fun k=>V.v11.ownBlock=some k) w C) (O:bm C B 131 5 v (F.bo++ [x]).length (kU<|F.bo++ [x])) (a:Md (fun k=>k=fb) C I) (U:I.heap[fb]? =some (.cells (l8 {F with bo:=F.bo++ [x]} {V with v11:=v} mc).toArray 125 (0,0))):cD I B fb mc {F with bo:=F.bo++ [x]} {V with v11:=v} :=by
 have q:TF w [133] (fun k=>V.v11.ownBlock=some k):=TF.own h.ff aw
 have G:=hm.iY q h.cells aw
 have E:TF C [127] (fun k=>k=fb):=TF.eq (di G) aw
 have J:∀ k,V.v11.ownBlock=some k→∀ cur z,w.heap[k]?≠some (.cells cur 51 z):=iG h.ff aw
 have M:∀ k,k=fb→∀ cur z,C.heap[k]?≠some (.cells cur 51 z):=gn G aw
 have Z:=dj<|A.md hm<|q.no (dj A) aw
 exact ⟨U,cM (cM h.o9 hm q aw) a E aw,cM (cM h.fN hm q aw) a E aw,(h.al.md hm J).md a M,bZ O a (fun k hk A=>dp O G aw<|A ▸ hk),cM (cM h.dN hm q aw) a E aw,(h.nx.md hm J).md a M,⟨f,(A.md hm<|q.no (dj A) aw).md a (E.no Z aw),Y⟩,h.lo,h.iS⟩
theorem bU.Ov {w A E:World} {B:Nat} {H:bP} {F F':aE} {R:fk} {rows:List Rw} {ln:Nat} {seen:List Tx} {v:Value} {q:cW} (h:bU w B H F R rows ln seen) (hm:Md (fun k=>R.vn.ownBlock=some k) w A) (O:bm A B 3 1 v (F.rules++ [q]).length ((F.rules++ [q]).map fun r=>gA .i64 (r.line:Nat))) (a:Md (fun k=>k=H.rb) A E) (U:E.heap[H.rb]? =some (.cells (rO H {R with vn:=v} ln).toArray 195 (0,0))) (Z:F'.rules=F.rules++ [q]) (hd:∀ x,dJ F' x=dJ F x):bU E B H F' {R with vn:=v} rows ln seen:=by
 have C:TF w [5] (fun k=>R.vn.ownBlock=some k):=TF.own h.on aw
 have c:=hm.iY C h.cells aw
 have G:TF A [197] (fun k=>k=H.rb):=TF.eq (di c) aw
 obtain ⟨f,i,V⟩:=h.sm
 obtain ⟨g,J,Y⟩:=h.tm
 have I:=i.md hm<|C.no (dj i) aw
 have M:=J.md hm<|C.no (dj J) aw
 exact ⟨U,(h.rws.md hm<|iG h.on aw).md a (gn c aw),(h.rt.md hm<|iG h.on aw).md a (gn c aw),⟨f,I.md a (G.no (dj I) aw),V⟩,⟨g,M.md a (G.no (dj M) aw),fun x aa=>by rw [hd]; exact Y x aa⟩,by rw [Z]; exact bZ O a (fun k hk i=>dp O c aw<|i ▸ hk),h.lo,h.ne⟩
theorem xg {cs:List dt} {x:Nat} (h:(dm cs x).isSome=false):cs.findIdx? (fun c=>decide (c.flag=x))=none:=by
 rw [FW]
 unfold dm at h
 rw [Option.isSome_eq_false_iff,Option.isNone_iff_eq_none,zr] at h
 intro c a
 simpa using h c a
theorem Ku {F:aE} {c:dt} (y:Nat):dJ {F with bo:=F.bo++ [c]} y=(decide (y=c.flag) || dJ F y):=by
 have h1:(dm (F.bo++ [c]) y).isSome=((dm F.bo y).isSome || decide (y=c.flag)):=by
  unfold dm
  rw [List.find?_append,Option.isSome_or]
  congr 1
  by_cases h:c.flag=y
  · simp [h]
  · simp [h,Ne.symm h]
 unfold dJ
 show (decide (y∈F.sp) || (dm (F.bo++ [c]) y).isSome)=_
 rw [h1]
 cases decide (y∈F.sp) <;> cases (dm F.bo y).isSome <;> cases decide (y=c.flag) <;> rfl
theorem JB {F:aE} {c:dt} {f:Value→Option Value} (hd:dJ F c.flag=false) (a:∀ x:Nat,f (aO x)=(F.bo.findIdx? fun c=>decide (c.flag=x)).map fun i:Nat=>gA .i64 i) (y:Nat):bw f (aO c.flag) (.int .i64 (F.bo.length:Nat)) (aO y)=((F.bo++ [c]).findIdx? fun c=>decide (c.flag=y)).map fun i:Nat=>gA .i64 i:=by
 unfold dJ at hd
 rw [nW] at hd
 rw [List.findIdx?_append]
 by_cases h:y=c.flag
 · subst h
   rw [rL,xg hd.2]
   simp
 · rw [pZ (fun h2=>h<|Ew h2),a y]
   cases F.bo.findIdx? fun c=>decide (c.flag=y) <;> simp [Ne.symm h]
theorem AU {eof ln e:Nat} {F:aE} {rows:List Rw} {r:List Tx} (h:gN F (r.getD 1 [])= .error e):gp eof F rows ln r= .error (ln,e):=by unfold gp; rw [h]
theorem AV {eof ln x:Nat} {F:aE} {rows:List Rw} {r:List Tx} (h:gN F (r.getD 1 [])= .ok x) (h1:r.getD 2 []≠[89]) (h2:r.getD 2 []≠[78]):gp eof F rows ln r= .error (ln,114):=by unfold gp; rw [h]; exact if_pos ⟨h1,h2⟩
theorem I9 {eof ln x e:Nat} {F:aE} {rows:List Rw} {r:List Tx} (h:gN F (r.getD 1 [])= .ok x) (h1:r.getD 2 []= [89]∨r.getD 2 []= [78]) (h2:dQ (r.getD 3 []) 1024= .error e):gp eof F rows ln r= .error (ln,e):=by
 unfold gp; rw [h]; simp only; rw [if_neg (fun h3=>h1.elim h3.1 h3.2),h2]
theorem Ja {eof ln x n:Nat} {F:aE} {rows:List Rw} {r:List Tx} (h:gN F (r.getD 1 [])= .ok x) (h1:r.getD 2 []= [89]∨r.getD 2 []= [78]) (h2:dQ (r.getD 3 []) 1024= .ok n) (h3:1024 < F.rules.length+n):gp eof F rows ln r= .error (ln,117):=by
 unfold gp; rw [h]; simp only; rw [if_neg (fun h3=>h1.elim h3.1 h3.2),h2]; simp only; rw [if_pos h3]
theorem wg {eof ln x n:Nat} {F:aE} {rows:List Rw} {r:List Tx} {e:Nat×Nat} (h:gN F (r.getD 1 [])= .ok x) (h1:r.getD 2 []= [89]∨r.getD 2 []= [78]) (h2:dQ (r.getD 3 []) 1024= .ok n) (h3:¬1024 < F.rules.length+n) (h4:group [r.getD 0 [],r.getD 1 []] (ij F.kind F.aliases (⟨x,(if r.getD 0 []=cY then 2 else 1:Nat),(decide (r.getD 2 []= [89])),F.rules.length,n⟩:dt)) eof n rows= .error e):gp eof F rows ln r= .error e:=by
 unfold gp; rw [h]; simp only; rw [if_neg (fun h3=>h1.elim h3.1 h3.2),h2]; simp only; rw [if_neg h3,h4]
theorem Jb {eof ln x n:Nat} {F:aE} {rows:List Rw} {r:List Tx} {q:List cW×List Rw} (h:gN F (r.getD 1 [])= .ok x) (h1:r.getD 2 []= [89]∨r.getD 2 []= [78]) (h2:dQ (r.getD 3 []) 1024= .ok n) (h3:¬1024 < F.rules.length+n) (h4:group [r.getD 0 [],r.getD 1 []] (ij F.kind F.aliases (⟨x,(if r.getD 0 []=cY then 2 else 1:Nat),(decide (r.getD 2 []= [89])),F.rules.length,n⟩:dt)) eof n rows= .ok q):gp eof F rows ln r= .ok ({F with bo:=F.bo++ [(⟨x,(if r.getD 0 []=cY then 2 else 1:Nat),(decide (r.getD 2 []= [89])),F.rules.length,n⟩:dt)],rules:=F.rules++q.1},q.2):=by
 unfold gp; rw [h]; simp only; rw [if_neg (fun h3=>h1.elim h3.1 h3.2),h2]; simp only; rw [if_neg h3,h4]
theorem AW (B:Nat) (H:bP) (F:aE) (rows:List Rw) (ln:Nat) (seen:List Tx) (r:List Tx) (cF:Nat) (ar:Option Addr) (cr:Nat) (w:World) (a:St w B H F rows ln seen) (da:Tg w cF 9 r.length (.slice ar r.length cr) (r.map str)) (gh:r.length=4) (cw:∀ x∈r,x.length≤70000) (f4:F.cT.length+F.aliases.length+F.bo.length+F.rules.length+rows.length < 70000):
 dV au 135 (aY [.pointer (some ⟨H.rb,0,none⟩),.slice ar r.length cr]) w (gF B H seen (gp H.eof F rows ln r) w) (gE B H (gp H.eof F rows ln r) w):=by
 obtain ⟨V,R,J,ak,aF⟩:=a
 have Z:=da.c6
 have gi:(r.getD 1 []).length≤70000:=cw _<|eR ab
 have gk:(r.getD 2 []).length≤70000:=cw _<|eR ab
 have gl:(r.getD 3 []).length≤70000:=cw _<|eR ab
 have gf:=ak.lo
 have f9:=aF.len
 have gm:=(cg.1 ak.cells).1
 obtain ⟨a12,jY,fA⟩:=cR J.dN
 obtain ⟨cH,cJ,dy⟩:=cR J.ff
 have e0:Hb.aH w.heap H.fb 12=some (.slice a12 F.rules.length jY):=by rw [← fA]; exact (aX J.cells).trans rfl
 have gb:Hb.aH w.heap H.fb 11=some (.slice cH F.bo.length cJ):=by rw [← dy]; exact (aX J.cells).trans rfl
 have e4:∀ b,w.heap.size≤b→¬(V.v11.ownBlock=some b):=fun b f3 h=>by have :=dd J.ff h; omega
 obtain ⟨tf,fz,dv⟩:=ak.tm
 refine iw func135 aa ntmps135 aa ?_
 refine ep (fun b4 cB=> ∃ (x I:Nat),(gN F (r.getD 1 [])= .ok x)∧(x≠0)∧(dJ F x=false)∧(w.heap.size≤I)∧(cB.heap[I]? =some (.cells [aO x,.int .i64 (1:Nat),.bool false,.int .i64 (F.rules.length:Nat),.int .i64 (0:Nat)].toArray 131 (0,0)))∧(Wk w cB)∧(b4 0= .pointer (some ⟨H.rb,0,none⟩))∧(b4 1= .slice ar r.length cr)∧(b4 4= .pointer (some ⟨I,0,none⟩))) ?_ ?_
 have C:(fun w'=>Wk w w') w.drew:=(Md.refl _ _).drew
 refine bK (fun w'=>Wk w w') aa wide C<|hp 0 aa ag (fun _ _=>aG (.pointer<|some ⟨H.rb,0,none⟩) aa) C<|hp 1 aa ag (fun _ _=>aG (.slice ar r.length cr) aa) C<|hp 2 aa ag (fun _ _=>aW dD aa aa ab<|aC.ok (Z.2)<|cK ab) C<|hp 3 aa ag (fun w' a=>ld cG aa<|Wk.aH a<|cX.get (i:=1) Z.2 ab) C<|hp 5 aa ag (fun _ _=>aG (.pointer<|some ⟨H.rb,0,none⟩) aa) C<|hp 6 aa ag (fun _ _=>nc aa) C<|hp 7 aa ag (fun _ _=>fa fw aa) C<|hp 8 aa ag (fun w' a=>ld ed aa<|Wk.aH a<|(aX ak.cells).trans aa) C<|hp 9 aa ag (fun _ _=>nc aa) C<|hp 10 aa ag (fun _ _=>fa eZ aa) C<|hp 11 aa ag (fun _ _=>fa lD aa) C<|hp 12 aa ag (fun w' a=>ld jX aa<|Wk.aH a<|e0) C<|hp 13 aa ag (fun _ _=>bO qa aa aa) C<|MM (Pn:=fun c w'=> ∃ e,gN F (r.getD 1 [])= .error e∧c=gr 47 ln (e:Nat)∧Wk w.drew w') 4 15 aa aa ag aa aa ?_ (fun c w' A aS J=>by obtain ⟨e,he,h,h2⟩:=A; exact ⟨ln,e,AU he,h,Wk.mw<|Md.trans C h2⟩) ?_
 refine cC vM (xC B H F V R rows ln seen (r.getD 1 []) w.drew (J.wk C) (ak.wk C) aF.kd ab) aa fun v10 b1 bi=> ?_
 obtain ⟨x,ac,bz,rfl,aR,bE⟩:=bi
 have am:(fun w'=>Wk w w') b1:=Md.trans C bE
 refine ⟨am,?_⟩
 refine hp 14 aa ag (fun _ _=>cE (ps:= [(0,aO x),(1,.int .i64 (1:Nat)),(3,.int .i64 (F.rules.length:Nat))]) (L:= [aO x,.int .i64 (1:Nat),.bool false,.int .i64 (F.rules.length:Nat),.int .i64 0]) yF aa<|aa) am<|he 15 aa ag<|gR qj fun I b3 eV ce b7=> ?_
 have ay:(fun w'=>Wk w w') b3:=Md.trans am ce.md
 refine ⟨ay,?_⟩
 refine he 16 aa ag<|ga ov aa aa aa aa b7 aw fun cz cb b8=> ?_
 have bl:(fun w'=>Wk w w') cz:=Md.trans' ay cb fun k hk h=>by have h1:=Md.size am; have h2:=Md.size C; omega
 refine ⟨bl,?_⟩
 exact hn ag<|tn<|⟨x,I,ac,bz,aR,(by have h1:=Md.size am; have h2:=Md.size C; omega),b8,bl,aa,aa,aa⟩
 refine gR qj fun I b3 eV ce b7=> ?_
 have ay:(fun w'=>Wk w w') b3:=Md.trans C ce.md
 refine ⟨ay,?_⟩
 refine pS 4 aa ag aa (cC vM (xC B H F V R rows ln seen (r.getD 1 []) b3 (J.wk ay) (ak.wk ay) aF.kd ab) aa fun v10 b1 bi=> ?_) fun c w' A aS J=>by obtain ⟨e,he,h,h2⟩:=A; exact ⟨ln,e,AU he,h,Wk.mw<|Md.trans ay h2⟩
 obtain ⟨x,ac,bz,rfl,aR,bE⟩:=bi
 have am:(fun w'=>Wk w w') b1:=Md.trans ay bE
 refine ⟨am,?_⟩
 refine hp 14 aa ag (fun _ _=>cE (ps:= [(0,aO x),(1,.int .i64 (1:Nat)),(3,.int .i64 (F.rules.length:Nat))]) (L:= [aO x,.int .i64 (1:Nat),.bool false,.int .i64 (F.rules.length:Nat),.int .i64 0]) yF aa<|aa) am<|he 16 aa ag<|ga ov aa aa aa aa (Wk.aB bE b7) aw fun cz cb b8=> ?_
 have bl:(fun w'=>Wk w w') cz:=Md.trans' am cb fun k hk h=>by have h1:=Md.size am; have h2:=Md.size C; omega
 refine ⟨bl,?_⟩
 exact hn ag<|tn<|⟨x,I,ac,bz,aR,(by have h1:=Md.size am; have h2:=Md.size C; omega),b8,bl,aa,aa,aa⟩
 rintro b4 cB ⟨x,I,ac,bz,aR,e9,ds,bC,fe,fg,fh⟩
 refine fx 0 fe<|fx 1 fg<|fx 4 fh ?_
 refine ep (fun b5 a2=>(a2.heap[I]? =some (.cells [aO x,.int .i64 ((if r.getD 0 []=cY then 2 else 1:Nat):Nat),.bool false,.int .i64 (F.rules.length:Nat),.int .i64 (0:Nat)].toArray 131 (0,0)))∧(Wk w a2)∧(b5 0= .pointer (some ⟨H.rb,0,none⟩))∧(b5 1= .slice ar r.length cr)∧(b5 4= .pointer (some ⟨I,0,none⟩))) ?_ ?_
 refine sq fun dK ca=>rg aa<|p (aG (.slice ar r.length cr) aa)<|p (aW dD aa aa ab<|aC.ok (aC.wk Z.2 bC)<|cK ab)<|p (ld cG aa<|cX.get (i:=0) (aC.wk Z.2 bC) ab)<|p (iy aa aa)<|nl<|tn<|ca _ _<|cd aa (fun cp=> ?_) fun cp=> ?_
 exact rg aa<|p (fa rh aa)<|e<|dA kW aa aa (v:= .int .i64 (2:Nat)) aa ds (by show _ < 5; decide) fun gG ek dX=>nl<|tn<|⟨(by rw [if_pos (show r.getD 0 []=cY from cp)]; exact dX),(bC.trans' ek fun k hk h=>by omega),aa,aa,aa⟩
 exact aM<|tn<|⟨(by rw [if_neg (show ¬r.getD 0 []=cY from cp)]; exact ds),bC,aa,aa,aa⟩
 rintro b5 a2 ⟨e8,ai,fi,fj,fl⟩
 refine fx 0 fi<|fx 1 fj<|fx 4 fl ?_
 refine ep (fun b6 dI=>(r.getD 2 []= [89]∨r.getD 2 []= [78])∧(dI=a2)∧(b6 0= .pointer (some ⟨H.rb,0,none⟩))∧(b6 1= .slice ar r.length cr)∧(b6 4= .pointer (some ⟨I,0,none⟩))) ?_ ?_
 refine rg aa<|p (aG (.pointer<|some ⟨H.rb,0,none⟩) aa)<|p (aG (.slice ar r.length cr) aa)<|p (aW dD aa aa ab<|aC.ok (aC.wk Z.2 ai)<|cK ab)<|p (ld cG aa<|cX.get (i:=2) (aC.wk Z.2 ai) ab)<|p (iy aa aa)<|p mv<|gs (t:=31) aa (fun bX=> ?_) fun bX=> ?_
 refine sk aa aa aa aa<|sk aa aa aa aa<|sk aa aa aa aa<|sk aa aa aa aa<|p (bI aa)<|eP aa (cC fD (fG H.rb ln _ 114 a2 (Wk.aH ai ak.dH) aw) aa fun v37 fJ ch=> ?_) fun c w' A aS J=>by first | exact absurd A.2.1 aw | exact ⟨ln,114,AV ac bX (of_decide_eq_false A.2.1),A.1,by rw [A.2.2]; exact Wk.mw ai⟩
 obtain ⟨rfl,dz,rfl⟩:=ch
 exact nl<|tn<|⟨(.inl bX),aa,aa,aa,aa⟩
 refine pg aa aa aa (aG (.slice ar r.length cr) aa)<|pg aa aa aa (aW dD aa aa ab<|aC.ok (aC.wk Z.2 ai)<|cK ab)<|pg aa aa aa (ld cG aa<|cX.get (i:=2) (aC.wk Z.2 ai) ab)<|pg aa aa aa (iy aa aa)<|p (bD aa)<|eP aa (cC fD (fG H.rb ln _ 114 a2 (Wk.aH ai ak.dH) aw) aa fun v37 fJ ch=> ?_) fun c w' A aS J=>by first | exact absurd A.2.1 aw | exact ⟨ln,114,AV ac bX (of_decide_eq_false A.2.1),A.1,by rw [A.2.2]; exact Wk.mw ai⟩
 obtain ⟨rfl,dz,rfl⟩:=ch
 exact nl<|tn<|⟨(.inr<|of_decide_eq_true dz),aa,aa,aa,aa⟩
 rintro b6 dI ⟨aZ,fB,fm,fo,fq⟩
 refine fx 0 fm<|fx 1 fo<|fx 4 fq ?_
 subst fB
 refine sq fun dK ca=>rg aa<|p (aG (.slice ar r.length cr) aa)<|p (aW dD aa aa ab<|aC.ok (aC.wk Z.2 ai)<|cK ab)<|p (ld cG aa<|cX.get (i:=2) (aC.wk Z.2 ai) ab)<|p (iy aa aa)<|p (fa B4 aa)<|e<|dA A7 aa aa (v:= .bool<|decide (r.getD 2 []= [89])) aa e8 (by show _ < 5; decide) fun fK el dY=> ?_
 have bb:=ai.trans' el fun k hk h=>by omega
 refine nl<|tn<|ca _ _<|sq fun fQ d8=>rg aa<|p (aG (.pointer<|some ⟨H.rb,0,none⟩) aa)<|p (aG (.slice ar r.length cr) aa)<|p (aW dD aa aa ab<|aC.ok (aC.wk Z.2 bb)<|cK ab)<|p (ld cG aa<|cX.get (i:=3) (aC.wk Z.2 bb) ab)<|eP aa (cC s8 (tV H.rb ln (r.getD 3 []) 1024 fK (Wk.aH bb ak.dH) ab ab) aa fun gB gD eF=> ?_) fun c w' A aS J=>by obtain ⟨e,he,h,h2⟩:=A; exact ⟨ln,e,I9 ac aZ he,h,Wk.mw<|bb.trans h2⟩
 obtain ⟨n,aV,rfl,cM⟩:=eF
 have gg:=x9 aV
 refine p (fa tD aa)<|e<|dA kW aa aa (v:= .int .i64 (n:Nat)) aa (Wk.aB cM dY) (by show _ < 5; decide) fun dE en dZ=> ?_
 have aJ:=(bb.trans cM).trans' en fun k hk h=>by omega
 have br:dE.heap[I]? =some (.cells [aO x,.int .i64 ((if r.getD 0 []=cY then 2 else 1:Nat):Nat),.bool (decide (r.getD 2 []= [89])),.int .i64 (F.rules.length:Nat),.int .i64 (n:Nat)].toArray 131 (0,0)):=dZ
 refine nl<|tn<|d8 _ _<|sq fun fR d9=>rg aa<|p (aG (.pointer<|some ⟨H.rb,0,none⟩) aa)<|p (fa B5 aa)<|p (ld bW aa<|(aX br).trans aa)<|p (fa tD aa)<|p (ld bW aa<|(aX br).trans aa)<|p (bG ((F.rules.length+n:Nat):Int) aa aa<|bd ab ab)<|p (le aa aa)<|eP aa (cC fD (fG H.rb ln _ 117 dE (Wk.aH aJ ak.dH) aw) aa fun gC cA eG=> ?_) fun c w' A aS J=>⟨ln,117,Ja ac aZ aV (by have :=of_decide_eq_false A.2.1; omega),A.1,by rw [A.2.2]; exact Wk.mw aJ⟩
 obtain ⟨rfl,fC,rfl⟩:=eG
 have bB:¬1024 < F.rules.length+n:=by have :=of_decide_eq_true fC; omega
 have bJ:=ak.wk aJ
 have d2:=J.wk aJ
 have bY:=fz.wk aJ
 refine nl<|tn<|d9 _ _<|sq fun fS ea=> ?_
 have ao:(fun w'=>Wk cA w') cA.drew:=(Md.refl _ _).drew
 refine ei (fun w'=>Wk cA w') 8 aa wide ao<|lq 0 aa ag (fun _ _=>aG (.pointer<|some ⟨H.rb,0,none⟩) aa) ao<|lq 1 aa ag (fun _ _=>nc aa) ao<|lq 2 aa ag (fun _ _=>fa xv aa) ao<|lq 3 aa ag (fun w' a=>ld qH aa<|Wk.aH a<|(aX bJ.cells).trans aa) ao<|lq 4 aa ag (fun _ _=>fa xp aa) ao<|lq 5 aa ag (fun w' a=>ld bM aa<|Wk.aH a<|(aX br).trans aa) ao<|lq 6 aa ag (fun w' a=>me oO mx oE (bQ.md (bY) a id) aa aa (⟨_,aa⟩) (show _=gA .i64 0 from (dv x bz).trans<|by rw [aR]; rfl)) ao<|lq 7 aa ag (fun _ _=>bG ((1:Nat):Int) aa aa<|bd ab ab) ao<|cQ 8 aa ag ag<|qd oO oE (bY.wk ao) aa aa aa (⟨_,aa⟩) fun a3 em ez=> ?_
 have bg:=gY em
 have bk:bU a3 B H {F with bo:=F.bo++ [(⟨x,(if r.getD 0 []=cY then 2 else 1:Nat),(decide (r.getD 2 []= [89])),F.rules.length,n⟩:dt)]} R rows ln seen:=bJ.rG bg ez rfl (Eo aR dv fun y _=>Ku y)
 have bc:=d2.rG bJ bg
 have dl:=bg.aB br fun h=>bY.mX<|h ▸ br
 have eQ:=(da.wk aJ).md bg fun k hk cur z ct=>by subst hk; exact bY.mX ct
 have eu:=(Wk.mw aJ).trans<|dU.mt bJ bg
 obtain ⟨cf,cq,e1⟩:=bc.cm
 have eY:Hb.aH a3.heap H.fb 11=some (.slice cH F.bo.length cJ):=by rw [← dy]; exact (aX bc.cells).trans rfl
 refine eh ag<|tn<|ea _ _<|sq fun fT ec=> ?_
 have E:(fun w'=>Wk a3 w') a3.drew:=(Md.refl _ _).drew
 refine ei (fun w'=>Wk a3 w') 18 aa wide E<|lq 0 aa ag (fun _ _=>aG (.pointer<|some ⟨H.rb,0,none⟩) aa) E<|lq 1 aa ag (fun _ _=>nc aa) E<|lq 2 aa ag (fun _ _=>fa fw aa) E<|lq 3 aa ag (fun w' a=>ld ed aa<|Wk.aH a<|(aX bk.cells).trans aa) E<|lq 4 aa ag (fun _ _=>nc aa) E<|lq 5 aa ag (fun _ _=>fa B3 aa) E<|lq 6 aa ag (fun w' a=>ld qH aa<|Wk.aH a<|(aX bc.cells).trans aa) E<|lq 7 aa ag (fun _ _=>fa xp aa) E<|lq 8 aa ag (fun w' a=>ld bM aa<|Wk.aH a<|(aX dl).trans aa) E<|lq 9 aa ag (fun _ _=>aG (.pointer<|some ⟨H.rb,0,none⟩) aa) E<|lq 10 aa ag (fun _ _=>nc aa) E<|lq 11 aa ag (fun _ _=>fa fw aa) E<|lq 12 aa ag (fun w' a=>ld ed aa<|Wk.aH a<|(aX bk.cells).trans aa) E<|lq 13 aa ag (fun _ _=>nc aa) E<|lq 14 aa ag (fun _ _=>fa eZ aa) E ?_
 refine lq 15 aa ag (fun _ _=>fa pP aa) E<|lq 16 aa ag (fun w' a=>ld sS aa<|Wk.aH a<|eY) E<|lq 17 aa ag (fun _ _=>bO EA aa aa) E<|cQ 18 aa ag ag<|qd oO oE (cq.wk E) aa aa aa (⟨_,aa⟩) fun a4 eo eA=> ?_
 have eB:bQ a4.heap H.mc (mT .u16) (bw cf (aO x)<|.int .i64 (F.bo.length:Nat)):=eA
 have bh:=gY eo
 have cj:TF a3 [1] (fun k=>k=H.mc):=TF.eq (dj cq) aw
 have bq:=(Lv bc).md (L:= [1]) bh cj aw
 have bL:=bk.md (L:= [1]) bh cj aw bk.ne.2.1 bk.ne.2.2
 have df:=bh.iY cj dl aw
 have eS:=eQ.md bh fun k hk cur z ct=>by subst hk; exact cq.mX ct
 have ew:=eu.trans<|bh.mono fun k _ hk=>⟨hk ▸ bc.lo.2,.inr<|.inr<|.inl hk⟩
 have dm:=e4 I e9
 have bx:¬(V.v11.ownBlock=some H.rb):=dp bq.ff bL.cells aw
 have cu:¬(V.v11.ownBlock=some H.fb):=dp bq.ff bq.cells aw
 refine eh ag<|tn<|ec _ _<|sq fun fU ee=> ?_
 have O:(fun w'=>Md (fun k=>V.v11.ownBlock=some k) a4 w') a4.drew:=(Md.refl _ _).drew
 refine ei (fun w'=>Md (fun k=>V.v11.ownBlock=some k) a4 w') 18 aa wide O<|bV 0 aa ag (fun _=>aG (.pointer<|some ⟨H.rb,0,none⟩) aa) (fun _=>O)<|bV 1 aa ag (fun _=>nc aa) (fun _=>O)<|bV 2 aa ag (fun _=>fa fw aa) (fun _=>O)<|iR 3 aa ag (fun w' a=>ld ed aa<|Md.aH a ((aX bL.cells).trans aa) bx) O<|bV 4 aa ag (fun _=>aG (.pointer<|some ⟨H.rb,0,none⟩) aa) (fun _=>O)<|bV 5 aa ag (fun _=>nc aa) (fun _=>O)<|bV 6 aa ag (fun _=>fa fw aa) (fun _=>O)<|iR 7 aa ag (fun w' a=>ld ed aa<|Md.aH a ((aX bL.cells).trans aa) bx) O<|bV 8 aa ag (fun _=>nc aa) (fun _=>O)<|bV 9 aa ag (fun _=>fa eZ aa) (fun _=>O)<|bV 10 aa ag (fun _=>fa pP aa) (fun _=>O)<|iR 11 aa ag (fun w' a=>ld sS aa<|Md.aH a ((aX bq.cells).trans aa) cu) O<|iR 12 aa ag (fun w' a=>cI qI aa (aa) fun j e2=>bA.bu ⟨_,Md.aB a df dm⟩ j) O<|iQ 13 aa ag<|nB uj aa aa aa fun f2 fL f8 c0 d0=> ?_
 have aT:=gY c0.md
 have aq:=bq.wk aT
 have c2:=bL.wk aT
 have gu:=(cg.1 c2.cells).1
 have c9:(fun w'=>Md (fun k=>V.v11.ownBlock=some k) a4 w') fL:=O.trans' c0.md fun _ _ h=>h.elim
 refine ⟨c9,?_⟩
 refine iQ 14 aa ag<|ap uj (aq.ff) aa ab aa (aC.fO d0) (aa) (aa) ab ab fun cx dF dr aP gx ge=> ?_
 have ex:=(ew.trans<|Wk.mw aT).trans<|Mw.of aP (TF.own aq.ff aw) fun k hk=>(dd aq.ff hk).1
 have bi:=bU.own c2 aq.ff aP aw
 have bs:=aP.aB aq.cells<|dp aq.ff aq.cells aw
 have ck:=aP.aB (Wk.aB aT df) dm
 have eI:=(eS.wk aT).md aP<|iG aq.ff aw
 have e7:bm dF B 131 5 cx (F.bo++ [(⟨x,(if r.getD 0 []=cY then 2 else 1:Nat),(decide (r.getD 2 []= [89])),F.rules.length,n⟩:dt)]).length (kU<|F.bo++ [(⟨x,(if r.getD 0 []=cY then 2 else 1:Nat),(decide (r.getD 2 []= [89])),F.rules.length,n⟩:dt)]):=by rw [show kU (F.bo++ [(⟨x,(if r.getD 0 []=cY then 2 else 1:Nat),(decide (r.getD 2 []= [89])),F.rules.length,n⟩:dt)])=kU F.bo++lB (⟨x,(if r.getD 0 []=cY then 2 else 1:Nat),(decide (r.getD 2 []= [89])),F.rules.length,n⟩:dt) from by simp [kU],bF]; exact dr
 have bS:(fun w'=>Md (fun k=>V.v11.ownBlock=some k) a4 w') dF:=c9.trans' aP fun _ _ h=>h
 refine ⟨bS,?_⟩
 refine bV 15 aa ag (fun _=>nc aa) (fun _=>bS)<|bV 16 aa ag (fun _=>fa eZ aa) (fun _=>bS)<|bV 17 aa ag (fun _=>fa pP aa) (fun _=>bS)<|cQ 18 aa ag ag<|dA Bb aa aa (v:=cx) (eb dr) bs (by show _ < 14; omega) fun a1 aj b9=> ?_
 have d1:=lX.G5 (x:=(⟨x,(if r.getD 0 []=cY then 2 else 1:Nat),(decide (r.getD 2 []= [89])),F.rules.length,n⟩:dt)) aq (eB.wk aT) (JB (c:=(⟨x,(if r.getD 0 []=cY then 2 else 1:Nat),(decide (r.getD 2 []= [89])),F.rules.length,n⟩:dt)) aR e1) aP e7 aj b9
 have eC:=bU.tA bi bs aj
 have dg:=aj.aB ck fun h=>by rw [h,bs] at ck; cases ck
 have eK:=eI.md aj<|gn bs aw
 have er:=ex.trans<|Mw.of aj (TF.eq (di bs) aw) fun k hk=>hk ▸ aq.lo.1
 refine eh ag<|tn<|ee _ _<|sq fun fV ef=>rg aa<|p (fa tD aa)<|p (ld bW aa<|(aX dg).trans aa)<|p mv<|nl<|tn<|ef _ _<|aB<|lp (fun cL a5 ae=> ∃ (i:Nat) (xs:List cW) (rows':List Rw) (bZ:Nat) (G:dG) (R':fk),(i≤n)∧(fW [r.getD 0 [],r.getD 1 []] (ij F.kind F.aliases (⟨x,(if r.getD 0 []=cY then 2 else 1:Nat),(decide (r.getD 2 []= [89])),F.rules.length,n⟩:dt)) H.eof (group [r.getD 0 [],r.getD 1 []] (ij F.kind F.aliases (⟨x,(if r.getD 0 []=cY then 2 else 1:Nat),(decide (r.getD 2 []= [89])),F.rules.length,n⟩:dt)) H.eof n rows) xs (n - i) rows')∧(xs.length=i)∧(cD ae B H.fb H.mc {F with bo:=F.bo++ [(⟨x,(if r.getD 0 []=cY then 2 else 1:Nat),(decide (r.getD 2 []= [89])),F.rules.length,n⟩:dt)],rules:=F.rules++xs} G)∧(bU ae B H {F with bo:=F.bo++ [(⟨x,(if r.getD 0 []=cY then 2 else 1:Nat),(decide (r.getD 2 []= [89])),F.rules.length,n⟩:dt)],rules:=F.rules++xs} R' rows' bZ seen)∧(iV {F with bo:=F.bo++ [(⟨x,(if r.getD 0 []=cY then 2 else 1:Nat),(decide (r.getD 2 []= [89])),F.rules.length,n⟩:dt)],rules:=F.rules++xs} rows' seen)∧(dU B H w ae)∧(ae.heap[I]? =some (.cells [aO x,.int .i64 ((if r.getD 0 []=cY then 2 else 1:Nat):Nat),.bool (decide (r.getD 2 []= [89])),.int .i64 (F.rules.length:Nat),.int .i64 (n:Nat)].toArray 131 (0,0)))∧(Tg ae cF 9 r.length (.slice ar r.length cr)<|r.map str)∧(a5 0= .pointer (some ⟨H.rb,0,none⟩))∧(a5 1= .slice ar r.length cr)∧(a5 4= .pointer (some ⟨I,0,none⟩))∧(a5 102= .int .i64 (n:Nat))∧(a5 103= .int .i64 (i:Nat))∧(n - i=cL)) _ ⟨0,[],rows,ln,{V with v11:=cx},R,ab,fW.start,aa,(by rw [dS]; exact d1),(by rw [dS]; exact eC),(⟨by simp only [bF,iq,gj]; omega,aF.sl,aF.row,aF.kd,aF.al⟩),er,dg,eK,aa,aa,aa,aa,aa,aa⟩ ?_
 rintro cL a5 ae ⟨i,xs,rows',bZ,G,R',hi,aU,fE,cN,av,a9,cS,du,bp,fr,fs,fv,ft,fu,rfl⟩
 refine fx 0 fr<|fx 1 fs<|fx 4 fv<|fx 102 ft<|fx 103 fu<|sq fun fX eg=>rg aa<|p (lt aa aa)<|nl<|tn<|eg _ _<|sq fun fY ej=>cd aa (fun eX=> ?_) fun eX=> ?_
 refine aM<|tn<|ej _ _<|sq fun fM d5=>aB<|sq fun fN d6=> ?_
 have ax:(fun w'=>Md (fun k=>k=H.rb) ae w') ae.drew:=(Md.refl _ _).drew
 refine bK (fun w'=>Md (fun k=>k=H.rb) ae w') aa wide ax<|hp 0 aa ag (fun _ _=>aG (.pointer<|some ⟨H.rb,0,none⟩) aa) ax<|hp 1 aa ag (fun _ _=>aG (.slice ar r.length cr) aa) ax<|hp 2 aa ag (fun _ _=>aW dD aa aa ab<|aC.ok (bp.c6.2)<|cK ab) ax<|hp 3 aa ag (fun w' a=>ld cG aa<|cX.get (i:=0) (bp.md a<|gn av.cells aw).c6.2 ab) ax<|hp 4 aa ag (fun _ _=>aG (.slice ar r.length cr) aa) ax<|hp 5 aa ag (fun _ _=>aW dD aa aa ab<|aC.ok (bp.c6.2)<|cK ab) ax<|hp 6 aa ag (fun w' a=>ld cG aa<|cX.get (i:=1) (bp.md a<|gn av.cells aw).c6.2 ab) ax<|he 7 aa ag<|pw (L:= [str (r.getD 0 []),str (r.getD 1 [])]) jS aa aa aa aa fun dM cy f6 cZ dT=> ?_
 have ah:Wk ae cy:=gY cZ.md
 have cU:=cS.trans<|Wk.mw ah
 have c3:(fun w'=>Md (fun k=>k=H.rb) ae w') cy:=ax.trans' cZ.md fun _ _ h=>h.elim
 refine ⟨c3,?_⟩
 refine pS 8 aa ag aa (cC vN (xN B H {F with bo:=F.bo++ [(⟨x,(if r.getD 0 []=cY then 2 else 1:Nat),(decide (r.getD 2 []= [89])),F.rules.length,n⟩:dt)],rules:=F.rules++xs} R' rows' bZ seen [r.getD 0 [],r.getD 1 []] dM 2 _ _ cy (av.wk ah) (Tg.yf dT aa) aa aw fun q cv=>(a9.row q cv).2.1) aa fun gz az eE=> ?_) (fun c w' A aS J=>by
  obtain ⟨h1,h2⟩:=A
  have hm:=cU.trans<|dU.rb (av.wk ah) h2
  rcases h1 with ⟨rfl,h3⟩ | ⟨b0,a0,rest,rfl,h4,h3⟩
  exact ⟨_,_,wg ac aZ aV bB (aU.ends ab),h3,hm⟩
  exact ⟨_,_,wg ac aZ aV bB (aU.other ab h4),h3,hm⟩)
 obtain ⟨b0,a0,rest,rfl,dw,⟨aD,bj⟩,hT15,hM15⟩:=eE
 obtain ⟨dL,dO,rfl⟩:=hT15.slice
 have aK:=(cN.wk ah).rb (av.wk ah) hM15
 have cV:=cU.trans<|dU.rb (av.wk ah) hM15
 have fd:a0≠[]∧a0.length≤70000∧∀ x∈a0,x.length≤70000:=a9.row (b0,a0)<|by simp
 have a8:=iV.pG a9
 have eW:=a9.len
 simp only [bT,bF] at eW
 have eL:=(bp.wk ah).md hM15<|gn (av.wk ah).cells aw
 have cl:=hM15.aB (Wk.aB ah du) fun h=>by have h1:=(av.wk ah).cells; rw [← h,Wk.aB ah du] at h1; cases h1
 have c4:(fun w'=>Md (fun k=>k=H.rb) ae w') az:=c3.trans' hM15 fun _ _ h=>h
 refine ⟨c4,?_⟩
 refine hp 9 aa ag (fun _ _=>aA) c4<|hn ag<|tn<|d6 _ _<|sq fun fP d7=> ?_
 have bx:¬(G.v12.ownBlock=some H.rb):=dp aK.dN bj.cells aw
 have cu:¬(G.v12.ownBlock=some H.fb):=dp aK.dN aK.cells aw
 have e3:¬(G.v12.ownBlock=some I):=dp aK.dN cl aw
 have M:(fun w'=>Md (fun k=>G.v12.ownBlock=some k) az w') az.drew:=(Md.refl _ _).drew
 refine ei (fun w'=>Md (fun k=>G.v12.ownBlock=some k) az w') 21 aa wide M<|bV 0 aa ag (fun _=>aG (.pointer<|some ⟨H.rb,0,none⟩) aa) (fun _=>M)<|bV 1 aa ag (fun _=>nc aa) (fun _=>M)<|bV 2 aa ag (fun _=>fa fw aa) (fun _=>M)<|iR 3 aa ag (fun w' a=>ld ed aa<|Md.aH a ((aX bj.cells).trans aa) bx) M<|bV 4 aa ag (fun _=>aG (.pointer<|some ⟨H.rb,0,none⟩) aa) (fun _=>M)<|bV 5 aa ag (fun _=>nc aa) (fun _=>M)<|bV 6 aa ag (fun _=>fa fw aa) (fun _=>M)<|iR 7 aa ag (fun w' a=>ld ed aa<|Md.aH a ((aX bj.cells).trans aa) bx) M<|bV 8 aa ag (fun _=>nc aa) (fun _=>M)<|bV 9 aa ag (fun _=>fa eZ aa) (fun _=>M)<|bV 10 aa ag (fun _=>fa lD aa) (fun _=>M)<|iR 11 aa ag (fun w' a=>ld jX aa<|Md.aH a ((aX aK.cells).trans aa) cu) M<|bV 12 aa ag (fun _=>aG (.pointer<|some ⟨H.rb,0,none⟩) aa) (fun _=>M)<|iR 13 aa ag (fun w' a=>cI qI aa (aa) fun j e2=>bA.bu ⟨_,Md.aB a cl e3⟩ j) M<|bV 14 aa ag (fun _=>mv) (fun _=>M) ?_
 refine CT 15 aa ag aa (cC HS (tZ B H {F with bo:=F.bo++ [(⟨x,(if r.getD 0 []=cY then 2 else 1:Nat),(decide (r.getD 2 []= [89])),F.rules.length,n⟩:dt)],rules:=F.rules++xs} G aD rest b0 seen (⟨x,(if r.getD 0 []=cY then 2 else 1:Nat),(decide (r.getD 2 []= [89])),F.rules.length,n⟩:dt) a0 B dL dO az.drew (aK.wk (Md.refl _ _).drew) (bj.wk (Md.refl _ _).drew) a8 (by show (if r.getD 0 []=cY then 2 else 1)=1∨(if r.getD 0 []=cY then 2 else 1)=2; split <;> simp) (hT15.wk (Md.refl _ _).drew) fd.2) aa fun gy fH eD=> ?_) fun c w' A aS J=>by obtain ⟨e,he,h,h2⟩:=A; exact ⟨_,_,wg ac aZ aV bB (aU.bad ab dw he),h,cV.trans<|Wk.mw<|gY h2⟩
 obtain ⟨q,cv,fc,⟨vn,rfl,de⟩,bH⟩:=eD
 obtain ⟨a6,a7,rfl⟩:=de.slice
 have bH:=gY bH
 have c5:(fun w'=>Md (fun k=>G.v12.ownBlock=some k) az w') fH:=Md.mono bH fun _ _ h=>h.elim
 refine ⟨c5,?_⟩
 refine iQ 16 aa ag<|nB uk aa aa aa fun fZ fI f5 cc dR=> ?_
 have ba:=bH.trans cc.md
 have U:=aK.wk ba
 have c1:=bj.wk ba
 have eM:=eL.wk ba
 have dh:=Wk.aB ba cl
 have eU:=de.wk cc.md
 have gq:=(cg.1 c1.cells).1
 have c7:(fun w'=>Md (fun k=>G.v12.ownBlock=some k) az w') fI:=c5.trans' cc.md fun _ _ h=>h.elim
 refine ⟨c7,?_⟩
 refine iQ 17 aa ag<|ap uk (U.dN) aa ab aa (aC.fO dR) (aa) (aa) (by simp only [bF]; omega) (by simp only [bF]; omega) fun v131 dB dn aL gv gc=> ?_
 have es:=(cV.trans<|Wk.mw ba).trans<|Mw.of aL (TF.own U.dN aw) fun k hk=>(dd U.dN hk).1
 have eH:=bU.own c1 U.dN aL aw
 have bt:=aL.aB U.cells<|dp U.dN U.cells aw
 have cn:=aL.aB dh<|dp U.dN dh aw
 have eN:=eM.md aL<|iG U.dN aw
 have e5:bm dB B 77 7 v131 ((F.rules++xs)++ [q]).length (fy<|((F.rules++xs)++ [q]).zip<|G.rn++ [.slice a6 q.next.length a7]):=by
  have fF:(F.rules++xs).length=G.rn.length:=by have :=U.nx.1; rw [eJ] at this; exact this.symm
  rw [List.zip_append fF,show fy ((F.rules++xs).zip G.rn++ [q].zip [.slice a6 q.next.length a7])=fy ((F.rules++xs).zip G.rn)++dP (q,.slice a6 q.next.length a7) from by simp [fy],bF]
  exact dn
 have bN:(fun w'=>Md (fun k=>G.v12.ownBlock=some k) az w') dB:=c7.trans' aL fun _ _ h=>h
 refine ⟨bN,?_⟩
 refine bV 18 aa ag (fun _=>nc aa) (fun _=>bN)<|bV 19 aa ag (fun _=>fa eZ aa) (fun _=>bN)<|bV 20 aa ag (fun _=>fa lD aa) (fun _=>bN)<|cQ 21 aa ag ag<|dA Bc aa aa (v:=v131) (eb dn) bt (by show _ < 14; omega) fun a1 aj b9=> ?_
 have d3:=cD.G6 (x:=q) (vx:= .slice a6 q.next.length a7) U eU aL e5 aj b9
 have aQ:=bU.tA eH bt aj
 have dk:=aj.aB cn fun h=>by rw [h,bt] at cn; cases cn
 have eO:=eN.md aj<|gn bt aw
 have et:=es.trans<|Mw.of aj (TF.eq (di bt) aw) fun k hk=>hk ▸ U.lo.1
 refine eh ag<|tn<|d7 _ _ ?_
 have an:(fun w'=>Md (fun k=>aD.vn.ownBlock=some k) a1 w') a1.drew:=(Md.refl _ _).drew
 refine ei (fun w'=>Md (fun k=>aD.vn.ownBlock=some k) a1 w') 13 aa wide an<|bV 0 aa ag (fun _=>aG (.pointer<|some ⟨H.rb,0,none⟩) aa) (fun _=>an)<|bV 1 aa ag (fun _=>aG (.pointer<|some ⟨H.rb,0,none⟩) aa) (fun _=>an)<|bV 2 aa ag (fun _=>nc aa) (fun _=>an)<|bV 3 aa ag (fun _=>fa xw aa) (fun _=>an)<|iR 4 aa ag (fun w' a=>ld sT aa<|Md.aH a ((aX aQ.cells).trans aa)<|dp aQ.on aQ.cells aw) an<|bV 5 aa ag (fun _=>aG (.pointer<|some ⟨H.rb,0,none⟩) aa) (fun _=>an)<|bV 6 aa ag (fun _=>nc aa) (fun _=>an)<|bV 7 aa ag (fun _=>fa rk aa) (fun _=>an)<|iR 8 aa ag (fun w' a=>ld bW aa<|Md.aH a ((aX aQ.cells).trans aa)<|dp aQ.on aQ.cells aw) an<|iQ 9 aa ag<|kT p4 aa aa fun f1 dC f7 ey dW=> ?_
 have aI:=gY ey.md
 have Y:=aQ.wk aI
 have cO:=d3.wk aI
 have gt:=(cg.1 Y.cells).1
 have c8:(fun w'=>Md (fun k=>aD.vn.ownBlock=some k) a1 w') dC:=Md.mono aI fun _ _ h=>h.elim
 refine ⟨c8,?_⟩
 refine iQ 10 aa ag<|ap p4 (Y.on) aa ab aa (aC.fO dW) (aa) (aa) (by simp only [bF]; omega) (by simp only [bF]; omega) fun v145 b2 dq aN gw gd=> ?_
 have ev:=(et.trans<|Wk.mw aI).trans<|Mw.of aN (TF.own Y.on aw) fun k hk=>(dd Y.on hk).1
 have dc:TF dC [5] (fun k=>aD.vn.ownBlock=some k):=TF.own Y.on aw
 have cP:=cO.md aN dc aw fun h=>by obtain ⟨f,cs,_⟩:=cO.cm; exact dc.no (dj cs) aw h
 have bv:=aN.aB Y.cells<|dp Y.on Y.cells aw
 have co:=aN.aB (Wk.aB aI dk)<|dp Y.on (Wk.aB aI dk) aw
 have eT:=(eO.wk aI).md aN<|iG Y.on aw
 have e6:bm b2 B 3 1 v145 ((F.rules++xs)++ [q]).length (((F.rules++xs)++ [q]).map fun r=>gA .i64 (r.line:Nat)):=by
  rw [iK,bF]
  show bm b2 B 3 1 v145 _ (_++ [gA .i64 (q.line:Nat)])
  rw [fc]
  exact dq
 have ci:(fun w'=>Md (fun k=>aD.vn.ownBlock=some k) a1 w') b2:=c8.trans' aN fun _ _ h=>h
 refine ⟨ci,?_⟩
 refine bV 11 aa ag (fun _=>nc aa) (fun _=>ci)<|bV 12 aa ag (fun _=>fa xw aa) (fun _=>ci)<|cQ 13 aa ag ag<|dA Bf aa aa (v:=v145) (eb dq) bv (by show _ < 7; omega) fun b1 bf dQ=> ?_
 have db:TF b2 [197] (fun k=>k=H.rb):=TF.eq (di bv) aw
 have d4:=cP.md bf db aw fun h=>by obtain ⟨f,cs,_⟩:=cP.cm; exact db.no (dj cs) aw h
 exact eh ag<|bn<|tn<|d5 _ _<|rg aa<|p (ad aa aa<|bR ab)<|p mv<|nl<|tn<|⟨_,ab,i+1,xs++ [q],rest,b0,{G with v12:=v131,rn:=G.rn++ [.slice a6 q.next.length a7]},{aD with vn:=v145},ab,(by rw [show n - (i+1)=n - i - 1 by omega]; exact aU.step ab dw cv),(by rw [bF,fE]; rfl),(by rw [← dx]; exact d4),(by rw [← dx]; exact bU.Ov (q:=q) Y aN e6 bf dQ aa fun _=>rfl),(⟨by simp only [bF,iq]; omega,a8.sl,a8.row,a8.kd,a8.al⟩),(ev.trans<|Mw.of bf (TF.eq (di bv) aw) fun k hk=>hk ▸ Y.lo.1),(bf.aB co fun h=>by rw [h,bv] at co; cases co),(eT.md bf<|gn bv aw),aa,aa,aa,aa,aa,aa⟩
 refine ext<|te _<|te _<|be<|gU<|f0 aa ?_
 rw [show n - i=0 by omega] at aU
 exact ⟨aa,_,rows',bZ,Jb ac aZ aV bB aU.done,⟨G,R',cN,av,a9⟩,cS⟩
end Go.Hb.n9
end
section
namespace Go.Hb
open Go.Hb.fJ Go.Hb.lW Go.Hb.n9 Go.Hb.oa
def pC:dt:=⟨0,0,false,0,0⟩
theorem LC {x:Nat} :∀ {cs:List dt} {i:Nat},cs.findIdx? (fun c=>decide (c.flag=x))=some i→∃ c,cs[i]? =some c∧dm cs x=some c:=by
 intro cs
 induction cs with
 | nil=>intro i h; simp at h
 | cons a l C=>
   intro i h
   rw [List.findIdx?_cons] at h
   unfold dm
   rw [FV]
   by_cases q:a.flag=x
   · simp only [q,decide_true,if_true] at h ⊢
     cases h
     exact ⟨a,aa,aa⟩
   · simp only [q,decide_false] at h ⊢
     simp only [Bool.false_eq_true,if_false,Option.map_eq_some_iff] at h
     obtain ⟨j,A,rfl⟩:=h
     obtain ⟨c,h1,h2⟩:=C A
     exact ⟨c,by simpa using h1,h2⟩
theorem OG {F:aE} {x:Nat} (h:x=F.sp.getD 0 0):k3 F x=true :=by unfold k3; rw [decide_eq_true h]; rfl
theorem OH {F:aE} {x:Nat} (h:(dm F.bo x).isSome=true) (hk:((dm F.bo x).getD pC).kind=2):k3 F x=true :=by
 unfold k3
 obtain ⟨c,a⟩:=nr.1 h
 rw [a] at hk ⊢
 simp only [Gq] at hk
 simp [hk]
theorem yh {F:aE} {x:Nat} (a:x≠F.sp.getD 0 0) (h:(dm F.bo x).isSome=true) (hk:((dm F.bo x).getD pC).kind≠2):k3 F x=false :=by
 unfold k3
 obtain ⟨c,i⟩:=nr.1 h
 rw [i] at hk ⊢
 simp only [Gq] at hk
 rw [decide_eq_false a]
 simp [hk]
theorem yi {F:aE} {x:Nat} (a:x≠F.sp.getD 0 0) (h:(dm F.bo x).isSome=false):k3 F x=false :=by
 unfold k3
 rw [decide_eq_false a]
 cases hc:dm F.bo x with
 | none=>rfl
 | some c=>rw [hc] at h; cases h
theorem pn {F:aE} {q:cW} {j:Nat} (a:j < q.next.length) (h:k3 F (q.next.getD j 0)=false):l0 F q=true :=by
 unfold l0
 rw [List.any_eq_true]
 exact ⟨_,eR a,by rw [h]; rfl⟩
theorem Hj {F:aE} {q:cW} (h:∀ j,j < q.next.length→k3 F (q.next.getD j 0)=true):l0 F q=false :=by
 unfold l0
 rw [FP]
 intro x c
 obtain ⟨j,a,rfl⟩:=oG 0 c
 rw [h j a]; simp
theorem pK {p:cW→Bool} {q:cW} :∀ {l:List cW} {i:Nat},(∀ j c,j < i→l[j]? =some c→p c=false)→l[i]? =some q→p q=true→l.find? p=some q:=by
 intro l
 induction l with
 | nil=>intro i _ h; simp at h
 | cons a l E=>
   intro i A hi hp
   rw [FV]
   cases i with
   | zero=>simp only [List.getElem?_cons_zero,Option.some.injEq] at hi; subst hi; rw [hp]
   | succ i=>
     rw [A 0 a ab rfl]
     exact E (i:=i) (fun j c G C=>A (j+1) c ab<|by simpa using C) (by simpa using hi) hp
theorem LG {p:cW→Bool} {l:List cW} (h:∀ j c,j < l.length→l[j]? =some c→p c=false):l.find? p=none:=by
 rw [zr]
 intro q i
 obtain ⟨j,a⟩:=List.getElem?_of_mem i
 rw [h j q (eI.1 a).1 a]; simp
theorem LD {x:Nat} {cs:List dt} (h:cs.findIdx? (fun c=>decide (c.flag=x))=none):dm cs x=none:=by
 rw [FW] at h
 unfold dm
 rw [zr]
 intro c a
 simpa using h c a
theorem wX (B fb mc:Nat) (F:aE) (V:dG) (x:Nat) (w:World) (q:cD w B fb mc F V) (aN:F.bo.length≤70000):
 ba au 137 (aY [aU fb,aO x]) w (fun v w'=>v= .tuple #[.agg (lB<|(dm F.bo x).getD pC).toArray,.bool (dm F.bo x).isSome]∧Wk w w'):=by
 obtain ⟨ag,ah,O⟩:=cR q.ff
 have J:=q.ff
 rw [O] at J
 have aq:Hb.aH w.heap fb 11=some (.slice ag F.bo.length ah):=by rw [← O]; exact (aX q.cells).trans rfl
 obtain ⟨f,aw,ax⟩:=q.cm
 obtain ⟨iv,ob,aB,aF,G⟩:∃ (iv:Nat) (ob:Bool),(f<|aO x).getD (.int .i64 0)=aj iv∧(f<|aO x).isSome=ob∧((ob=false∧dm F.bo x=none)∨(ob=true∧∃ c,F.bo[iv]? =some c∧dm F.bo x=some c)):=by
  rw [ax x]
  cases hfi:F.bo.findIdx? (fun c=>decide (c.flag=x)) with
  | none=>exact ⟨0,false,rfl,rfl,.inl ⟨rfl,LD hfi⟩⟩
  | some i=>exact ⟨i,true,rfl,rfl,.inr ⟨rfl,LC hfi⟩⟩
 refine enter func137 aa ntmps137 aa<|ak fun U=>e<|al qj fun aJ aP aK a E=>ay<|U<|az fun Y=>az fun Z=>rg aa<|ao (aU fb)<|p (kY r4 aa aa)<|nl<|Z<|cf (aa)<|aM<|Y<|ak fun ac=>ao (aU fb)<|p (nc aa)<|p (fa B3 aa)<|p (ld qH aa<|Wk.aH a.md<|(aX q.cells).trans aa)<|ao (aO x)<|p (C0 oO mx oE (aw.wk a.md) aa aa (⟨_,aa⟩) (aB)<|aF)<|p mv<|p (xt aa aa)<|p (xt aa aa)<|p aA<|ay<|ac<|az fun ad=>ak fun ae=>p mv<|p (no aa)<|nl<|ae<|cb aa (fun C=> ?_) fun C=> ?_
 have aG:ob=false :=by simpa using C
 have av:dm F.bo x=none:=by rcases G with ⟨_,h⟩ | ⟨h,_⟩; exact h; rw [aG] at h; cases h
 exact ak fun A=>p (cE (ps:= []) (L:= [.int .u16 0,.int .i64 0,.bool false,.int .i64 0,.int .i64 0]) yF aa<|aa)<|e<|cw ov aa aa aa aa (E) (by simp) fun aQ an ai=>ay<|A<|rt<|tr<|eo aa (dy (cs:=lB pC) aa qI aa fun j aD=>ai.bu j) dR<|⟨by rw [av]; rfl,a.md.trans' an fun k hk h=>by omega⟩
 have aI:ob=true :=by simpa using C
 obtain ⟨c,I,ar⟩:∃ c,F.bo[iv]? =some c∧dm F.bo x=some c:=by rcases G with ⟨h,_⟩ | ⟨_,h⟩; rw [aI] at h; cases h; exact h
 have aL:=(eI.1 I).1
 have M:=aV J a.md
 exact aM<|ad<|ak fun A=>ao (aU fb)<|p (nc aa)<|p (fa eZ aa)<|p (fa pP aa)<|p (ld sS aa<|Wk.aH a.md aq)<|p mv<|p (aW Ls aa aa ab<|aC.ok ((aT M).2) fun h=>by have :=congrArg kM h; rw [show (kU F.bo).length=F.bo.length*5 from nD (f:=lB) (m:=5) (fun _=>rfl) _] at this; simp at this; omega)<|p (cI qI aa (aa)<|gK (f:=lB) (m:=5) (fun _=>rfl) (aT M).2 I)<|e<|cw ov aa aa aa aa (E) (by simp) fun aR ap am=>ay<|A<|rt<|eo aa (dy (cs:=lB c) aa qI aa fun j aD=>am.bu j) dR<|⟨by rw [ar]; rfl,a.md.trans' ap fun k hk h=>by omega⟩
theorem I0 (B:Nat) (H:bP) (F:aE) (rows:List Rw) (ln:Nat) (seen:List Tx) (w:World) (bx:St w B H F rows ln seen) (bJ:∀ q∈F.rules,q.next.length≤64):
 dV au 86 (aY [.pointer (some ⟨H.rb,0,none⟩)]) w (fun v w'=>v= .tuple #[]∧F.rules.find? (l0 F)=none∧(∃ V R' ar,cD w' B H.fb H.mc F V∧bU w' B H F R' rows ar seen)∧dU B H w w') (fun c w'=> ∃ q,F.rules.find? (l0 F)=some q∧c=gr 47 q.line 118∧dU B H w w'):=by
 obtain ⟨V,R,M,ao,a6⟩:=bx
 obtain ⟨a12,jY,aQ⟩:=cR M.dN
 have bK:=M.dN
 rw [aQ] at bK
 have bC:Hb.aH w.heap H.fb 12=some (.slice a12 F.rules.length jY):=by rw [← aQ]; exact (aX M.cells).trans rfl
 obtain ⟨vr,vs,vn⟩:=R
 obtain ⟨ak,cv,b7⟩:=cR ao.on
 obtain rfl :vn= .slice ak F.rules.length cv:=b7
 have cu:=a6.len
 have cy:=ao.lo
 refine iw func86 aa ntmps86 aa<|sq fun cb bf=>rg aa<|p (aG (.pointer<|some ⟨H.rb,0,none⟩) aa)<|p (nc aa)<|p (fa fw aa)<|p (ld ed aa<|(aX ao.cells).trans aa)<|p (nc aa)<|p (fa eZ aa)<|p (fa lD aa)<|p (ld jX aa<|bC)<|p (bO qa aa aa)<|p mv<|nl<|tn<|bf _ _<|aB<|lp (fun Z aj ai=> ∃ (i ar:Nat),(i≤F.rules.length)∧(∀ j q,j < i→F.rules[j]? =some q→l0 F q=false)∧(cD ai B H.fb H.mc F V)∧(bU ai B H F ⟨vr,vs,.slice ak F.rules.length cv⟩ rows ar seen)∧(dU B H w ai)∧(aj 0= .pointer (some ⟨H.rb,0,none⟩))∧(aj 15= .slice a12 F.rules.length jY)∧(aj 16= .int .i64 (F.rules.length:Nat))∧(aj 17= .int .i64 (i:Nat))∧(F.rules.length - i=Z)) _ ⟨0,ln,ab,(fun j q a0=>by omega),M,ao,(Md.refl _ _),aa,aa,aa,aa,aa⟩ ?_
 rintro Z aj ai ⟨i,ar,hi,I,an,aI,aS,bQ,bT,bV,bX,rfl⟩
 refine fx 0 bQ<|fx 15 bT<|fx 16 bV<|fx 17 bX<|sq fun ch bi=>rg aa<|p (lt aa aa)<|nl<|tn<|bi _ _<|sq fun ci bj=>cd aa (fun bE=> ?_) fun bE=> ?_
 refine aM<|tn<|bj _ _<|sq fun cj bk=>aB<|sq fun ck bl=> ?_
 have aL:=an.dN
 rw [aQ] at aL
 have aZ:i < F.rules.length:=ab
 obtain ⟨vn,b6,aK⟩:=c4.get an.nx (i:=i)<|by rw [eJ]; exact aZ
 obtain ⟨q,A⟩:∃ q,F.rules[i]? =some q:=⟨_,cx aZ⟩
 have bN:(F.rules.map (·.next)).getD i []=q.next:=by rw [cO,fU,A]; rfl
 rw [bN] at aK
 have cB:=bJ q<|iL A
 obtain ⟨ax,ay,rfl⟩:=aK.slice
 have a1:(F.rules.zip V.rn)[i]? =some (q,.slice ax q.next.length ay):=by rw [List.getElem?_zip_eq_some]; exact ⟨A,b6⟩
 have a2:(fy<|F.rules.zip V.rn).length=(F.rules.zip V.rn).length*7:=nD (f:=dP) (m:=7) (fun _=>rfl) _
 have bH:(F.rules.map fun r=>gA .i64 (r.line:Nat))[i]? =some (.int .i64 (q.line:Nat)):=by rw [fU,A]; rfl
 refine rg aa<|p (aG (.int .i64 (i:Nat)) aa)<|p (aW ks aa aa ab<|aC.ok ((aT aL).2) (fun h=>by rw [h] at a2; have h2:0=(F.rules.zip V.rn).length*7:=a2; have h3:=(eI.1 a1).1; omega)) ?_
 refine p (cI ko aa (aa)<|gK (f:=dP) (m:=7) (fun _=>rfl) (aT aL).2 a1)<|e<|al oQ fun cq cH cs aV a8=> ?_
 skip
 refine p (bY (.int .i64 (i:Nat)) aa)<|e<|cw mO aa aa aa aa (a8) (by simp) fun ca br a7=> ?_
 have am:Wk ai ca:=aV.md.trans' br fun k hk h=>by omega
 have bc:=an.wk am
 have C:=aI.wk am
 have cE:=aV.size
 have cA:=(cg.1 aI.cells).1
 refine nl<|tn<|bl _ _<|sq fun cm bm=>rg aa<|p (aG (.pointer<|some ⟨H.rb,0,none⟩) aa)<|p (aG (.pointer<|some ⟨H.rb,0,none⟩) aa)<|p (nc aa)<|p (fa xw aa)<|p (ld sT aa<|(aX C.cells).trans aa)<|p (aG (.int .i64 (i:Nat)) aa)<|p (aW q7 aa aa ab<|aC.ok ((aT C.on).2)<|by simp; intro h; rw [h] at A; simp at A)<|p (ld bW aa<|aC.jo (aT C.on).2 bH)<|p (nc aa)<|p (fa rk aa)<|e<|dA kW aa aa (v:= .int .i64 (q.line:Nat)) aa C.cells (by show _ < 7; decide) fun cM ae bb=> ?_
 have bw:=C.cz (R':=⟨vr,vs,.slice ak F.rules.length cv⟩) (ln':=q.line) ae bb rfl C.rws C.rt
 have bd:=bc.rb C ae
 have bA:=ae.B a7 fun h=>by omega
 have bz:=(aK.wk am).md ae<|gn C.cells aw
 have bt:=(aS.trans<|Wk.mw am).trans<|dU.rb C ae
 refine nl<|tn<|bm _ _<|sq fun cn bo=>rg aa<|p (fa nE aa)<|p (ld kR aa<|(bA.aH 6).trans aa)<|p (bO mm aa aa)<|p mv<|nl<|tn<|bo _ _<|aB<|lp (fun Z J Y=> ∃ (j:Nat),(j≤q.next.length)∧(∀ ah,ah < j→k3 F (q.next.getD ah 0)=true)∧(cD Y B H.fb H.mc F V)∧(bU Y B H F ⟨vr,vs,.slice ak F.rules.length cv⟩ rows q.line seen)∧(dU B H w Y)∧(Tg Y B 51 q.next.length (.slice ax q.next.length ay)<|q.next.map aO)∧(J 0= .pointer (some ⟨H.rb,0,none⟩))∧(J 15= .slice a12 F.rules.length jY)∧(J 16= .int .i64 (F.rules.length:Nat))∧(J 17= .int .i64 (i:Nat))∧(J 33= .slice ax q.next.length ay)∧(J 34= .int .i64 (q.next.length:Nat))∧(J 35= .int .i64 (j:Nat))∧(q.next.length - j=Z)) _ ⟨0,ab,(fun ah bG=>by omega),bd,bw,bt,bz,aa,aa,aa,aa,aa,aa,aa,aa⟩ ?_
 rintro Z J Y ⟨j,a0,aN,aD,aJ,aU,ap,bZ,b0,b1,b2,b3,b4,b5,rfl⟩
 refine fx 0 bZ<|fx 15 b0<|fx 16 b1<|fx 17 b2<|fx 33 b3<|fx 34 b4<|fx 35 b5<|sq fun co bp=>rg aa<|p (lt aa aa)<|nl<|tn<|bp _ _<|sq fun cp bq=>cd aa (fun bF=> ?_) fun bF=> ?_
 refine aM<|tn<|bq _ _<|sq fun cc aF=>aB<|sq fun ce bg=> ?_
 have b8:(q.next.map aO)[j]? =some (aO<|q.next.getD j 0):=by rw [fU,cO,cx (by omega :j < q.next.length)]; rfl
 refine rg aa<|p (aW bB aa aa ab<|aC.ok (ap.c6.2)<|cK ab)<|p (ld bM aa<|aC.jo ap.c6.2 b8)<|p aA<|nl<|tn<|bg _ _<|sq fun cf bh=>rg aa<|p (aG (.pointer<|some ⟨H.rb,0,none⟩) aa)<|p (nc aa)<|p (fa fw aa)<|p (ld ed aa<|(aX aJ.cells).trans aa)<|p mv<|e<|cl vH (wX B H.fb H.mc F V (q.next.getD j 0) _ aD ab) aa fun cG cJ bv=> ?_
 obtain ⟨rfl,aR⟩:=bv
 have cF:=aR.size
 refine p mv<|p (xt aa aa)<|p (xt aa aa)<|e<|al qj fun cr cL ct bu a9=>e<|cw ov aa aa aa aa (a9) (by simp) fun av bs ba=> ?_
 have ac:Wk Y av:=(aR.trans bu.md).trans' bs fun k hk h=>by omega
 have az:=aD.wk ac
 have U:=aJ.wk ac
 have E:=aU.trans<|Wk.mw ac
 refine p aA<|nl<|tn<|bh _ _<|rg aa<|p (aG (.pointer<|some ⟨H.rb,0,none⟩) aa)<|p mv<|p (aG (.pointer<|some ⟨H.rb,0,none⟩) aa)<|p (nc aa)<|p (fa fw aa)<|p (ld ed aa<|(aX U.cells).trans aa)<|p (nc aa)<|p (fa eZ aa)<|p (fa tI aa)<|p (kv qL aa aa ab)<|p (ld bM aa<|(aX az.cells).trans aa)<|p (bS aa aa)<|p mv<|gs (t:=60) aa (fun O=> ?_) fun O=> ?_
 refine sk aa aa aa aa<|sk aa aa aa aa<|ue aa aa aa<|ue aa aa aa<|ue aa aa aa<|sk aa aa aa aa<|p (bI aa) ?_
 refine eP aa (cC fD (fG H.rb q.line _ 118 av U.dH aw) aa fun a3 a4 ag=> ?_) (fun c w' a a5 M=>by
  first
   | exact absurd a.2.1 aw
   | exact ⟨q,pK I A (pn (j:=j) ab<|yh (fun h=>O<|by rw [h]) G<|by have :=of_decide_eq_false a.2.1; omega),a.1,by rw [a.2.2]; exact E⟩
   | exact ⟨q,pK I A (pn (j:=j) ab<|yi (fun h=>O<|by rw [h])<|by simpa using G),a.1,by rw [a.2.2]; exact E⟩)
 obtain ⟨rfl,aq,rfl⟩:=ag
 exact nl<|bn<|tn<|aF _ _<|rg aa<|p (ad aa aa<|bR ab)<|p mv<|nl<|tn<|⟨_,ab,j+1,ab,(fun k hk=>by rcases gC k j with h | h <;> first | exact aN k h | (rw [show k=j by omega]; exact OG ab)),az,U,E,(ap.wk ac),aa,aa,aa,aa,aa,aa,aa,aa⟩
 refine pg aa aa aa mv<|pg aa aa aa mv<|gb (t:=62) aa (fun G=> ?_) fun G=> ?_
 refine pg aa aa aa (fa rh aa)<|pg aa aa aa (ld bW aa<|(ba.aH 1).trans aa)<|pg aa aa aa (bS aa aa)<|pg aa aa aa (bI aa)<|p (bD aa) ?_
 refine eP aa (cC fD (fG H.rb q.line _ 118 av U.dH aw) aa fun a3 a4 ag=> ?_) (fun c w' a a5 M=>by
  first
   | exact absurd a.2.1 aw
   | exact ⟨q,pK I A (pn (j:=j) ab<|yh (fun h=>O<|by rw [h]) G<|by have :=of_decide_eq_false a.2.1; omega),a.1,by rw [a.2.2]; exact E⟩
   | exact ⟨q,pK I A (pn (j:=j) ab<|yi (fun h=>O<|by rw [h])<|by simpa using G),a.1,by rw [a.2.2]; exact E⟩)
 obtain ⟨rfl,aq,rfl⟩:=ag
 exact nl<|bn<|tn<|aF _ _<|rg aa<|p (ad aa aa<|bR ab)<|p mv<|nl<|tn<|⟨_,ab,j+1,ab,(fun k hk=>by rcases gC k j with h | h <;> first | exact aN k h | (rw [show k=j by omega]; exact OH G<|by have :=of_decide_eq_true aq; omega)),az,U,E,(ap.wk ac),aa,aa,aa,aa,aa,aa,aa,aa⟩
 refine sk aa aa aa aa<|sk aa aa aa aa<|sk aa aa aa aa<|pg aa aa aa (bD aa)<|p (bD aa) ?_
 refine eP aa (cC fD (fG H.rb q.line _ 118 av U.dH aw) aa fun a3 a4 ag=> ?_) (fun c w' a a5 M=>by
  first
   | exact absurd a.2.1 aw
   | exact ⟨q,pK I A (pn (j:=j) ab<|yh (fun h=>O<|by rw [h]) G<|by have :=of_decide_eq_false a.2.1; omega),a.1,by rw [a.2.2]; exact E⟩
   | exact ⟨q,pK I A (pn (j:=j) ab<|yi (fun h=>O<|by rw [h])<|by simpa using G),a.1,by rw [a.2.2]; exact E⟩)
 obtain ⟨rfl,aq,rfl⟩:=ag
 exact nl<|bn<|tn<|aF _ _<|rg aa<|p (ad aa aa<|bR ab)<|p mv<|nl<|tn<|absurd aq aw
 exact ext<|te _<|te _<|be<|bn<|tn<|bk _ _<|rg aa<|p (ad aa aa<|bR ab)<|p mv<|nl<|tn<|⟨_,ab,i+1,q.line,ab,(fun k b9 hk aP=>by rcases gC k i with h | h <;> first | exact I k b9 h aP | (rw [show k=i by omega,A] at aP; cases aP; exact Hj fun ah bG=>aN ah ab)),aD,aJ,aU,aa,aa,aa,aa,aa⟩
 refine ext<|te _<|te _<|be<|gU<|f0 aa ?_
 exact ⟨aa,LG (fun j q a0 bL=>I j q ab bL),⟨V,_,_,an,aI⟩,aS⟩
end Go.Hb
end
section
namespace Go.Hb
open Go.Hb.fJ Go.Hb.lW
def Nx (F:aE):Prop :=(∀ l∈F.aliases,l.length≤64)∧∀ q∈F.rules,q.next.length≤64
theorem xG {α:Type} {hd:List Tx} {rd:Nat→List Tx→Except Nat α} {eof:Nat} :∀ (n:Nat) (rows:List Rw) (r:List α×List Rw),group hd rd eof n rows= .ok r→∀ x∈r.1,∃ ln row,rd ln row= .ok x:=by
 intro n
 induction n with
 | zero=>intro rows r h; simp only [group,oR] at h; subst h; intro x a; cases a
 | succ n c=>
   intro rows r h
   cases rows with
   | nil=>simp [group] at h
   | cons q rows=>
     obtain ⟨ln,row⟩:=q
     simp only [group] at h
     split at h
     · cases h
     · cases hr:rd ln row with
       | error e=>rw [hr] at h; cases h
       | ok y=>
         rw [hr] at h
         simp only at h
         cases hg:group hd rd eof n rows with
         | error e=>rw [hg] at h; cases h
         | ok i=>
           rw [hg] at h
           simp only [oR] at h
           subst h
           intro x a
           rcases eK.1 a with a | a
           · exact ⟨ln,row,by rw [a]; exact hr⟩
           · exact c rows i hg x a
theorem Cg {kind:Nat} {s:Tx} {l:List Nat} (h:jJ kind s= .ok l):l.length≤64:=by
 unfold jJ at h
 split at h
 · cases h
 · rename_i a
   cases h
   exact (Cd<|lf.1 a).1
theorem GR {kind ln:Nat} {row:List Tx} {l:List Nat} (h:kS kind ln row= .ok l):l.length≤64:=by
 unfold kS at h
 split at h
 · cases h
 · exact Cg h
theorem xj {kind:Nat} {al:List (List Nat)} {s:Tx} {l:List Nat} (a:∀ l∈al,l.length≤64) (h:e9 kind al s= .ok l):l.length≤64:=by
 unfold e9 at h
 split at h
 · exact Cg h
 · split at h
   · cases h
   · split at h
     · cases h
     · cases h
       rename_i n _ _
       rw [cO]
       cases hg:al[n - 1]? with
       | none=>simp
       | some x=>exact a x<|iL hg
theorem PS {kind ln:Nat} {al:List (List Nat)} {c:dt} {row:List Tx} {q:cW} (i:∀ l∈al,l.length≤64) (h:ij kind al c ln row= .ok q):q.next.length≤64:=by
 unfold ij at h
 split at h
 · cases h
 · split at h
   · cases h
   · split at h
     · cases h
     · split at h
       · cases h
       · rename_i nx a
         split at h
         · cases h
         · cases h
           unfold lG at a
           split at a
           · split at a
             · cases a
             · exact xj i a
           · cases a; simp
theorem xK {eof ln:Nat} {F F':aE} {hs:List Tx} {rows rows':List Rw} {row:List Tx} (h:Nx F) (a:bN eof F hs rows ln row= .ok (F',rows')):Nx F':=by
 unfold bN at a
 split at a
 · unfold je at a
   split at a
   · cases a
   · cases a; exact h
 · split at a
   · unfold jM at a
     split at a
     · cases a
     · split at a
       · cases a
       · cases a; exact h
   · split at a
     · unfold lI at a
       split at a
       · cases a
       · cases a; exact h
     · split at a
       · unfold lK at a
         split at a
         · cases a
         · cases a; exact h
       · split at a
         · unfold jN at a
           split at a
           · cases a
           · split at a
             · cases a
             · cases a; exact h
         · split at a
           · unfold jQ at a
             split at a
             · cases a
             · split at a
               · cases a
               · cases a; exact h
           · split at a
             · unfold jn at a
               split at a
               · cases a
               · split at a
                 · cases a
                 · split at a
                   · cases a
                   · rename_i r A
                     cases a
                     refine ⟨fun l c=> ?_,h.2⟩
                     rcases mC.1 c with c | c
                     · exact h.1 l c
                     · obtain ⟨_,_,h2⟩:=xG _ _ _ A l c
                       exact GR h2
             · unfold gp at a
               split at a
               · cases a
               · split at a
                 · cases a
                 · split at a
                   · cases a
                   · split at a
                     · cases a
                     · split at a
                       · cases a
                       · rename_i r A
                         cases a
                         refine ⟨h.1,fun q i=> ?_⟩
                         rcases mC.1 i with i | i
                         · exact h.2 q i
                         · obtain ⟨_,_,h2⟩:=xG _ _ _ A q i
                           exact PS h.1 h2
theorem MP {eof ln:Nat} {F F':aE} {hs:List Tx} {rows rows':List Rw} {row:List Tx} (c:row.getD 0 []∉fg) (a:bN eof F hs rows ln row= .ok (F',rows')):F'.sp=F.sp:=by
 unfold bN at a
 rw [if_neg c] at a
 unfold jM lI lK jN jQ jn gp at a
 repeat' split at a
 all_goals first
  | (cases a; done)
  | (cases a; rfl)
theorem Cy {eof ln:Nat} {F F':aE} {seen:List Tx} {rows rows':List Rw} {row:List Tx} (h:iN F seen) (c:bN eof F seen rows ln row= .ok (F',rows')):iN F' (seen++ [row.getD 0 []]):=by
 intro k hk q
 rw [mC,lj] at q
 have C:k∉seen:=fun h=>q<|.inl h
 have E:k≠row.getD 0 []:=fun h=>q<|.inr h
 by_cases i:row.getD 0 []∈fg
 · unfold bN at c
   rw [if_pos i] at c
   unfold je at c
   split at c
   · cases c
   · cases c
     show (F.sp.set (fg.idxOf<|row.getD 0 []) _).getD (fg.idxOf k) 0=0
     rw [cO,List.getElem?_set,if_neg,← cO]
     · exact h k hk C
     · intro he
       have A:∀ a∈fg,fg.getD (fg.idxOf a) []=a:=aw
       have h1:=A _ i
       have h2:=A _ hk
       rw [he] at h1
       exact E<|h2.symm.trans h1
 · rw [MP i c]; exact h k hk C
end Go.Hb
end
