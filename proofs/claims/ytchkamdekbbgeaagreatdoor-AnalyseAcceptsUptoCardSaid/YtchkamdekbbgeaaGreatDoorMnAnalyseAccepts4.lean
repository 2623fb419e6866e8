/-
  Walks and plain laws that the law rests on, laid together. No conditions but those that each theorem names.
-/
import Derived.Test.YtchkamdekbbgeaaGreatDoorMnAnalyseAccepts3
set_option linter.unusedVariables false
set_option maxRecDepth 20000
set_option maxHeartbeats 1000000
open Array renaming getElem?_eq_some_iff→dD
open Bool renaming noConfusion→dM,or_eq_false_iff→po
open Classical renaming not_not→jG
open Except.ok renaming injEq→tk
open Go renaming Addr→bF,Value→ag,World→ak
open Go.Proofs.Tryz renaming prog→az
open Go.Value renaming agg→bN,bool→bR,int→gq,slice→bQ,tuple→gR
open Go.World renaming ownsRow→bo,ownsRow_nil→dE
open List renaming any_eq_false→Mx,append_assoc→eX,append_nil→ez,count_eq_zero→sx,count_le_length→uY,count_pos_iff→zX,drop_eq_nil_of_le→iR,drop_succ_cons→zY,drop_take→zZ,drop_zero→z1,eq_nil_of_length_eq_zero→fY,find?_cons→MK,find?_eq_none→Ep,findIdx?_eq_none_iff→ML,flatMap_append→nM,flatMap_singleton→qf,getD_cons_zero→lW,getD_eq_getElem?_getD→cH,getElem?_eq_getElem→bY,getElem?_eq_some_iff→ff,getElem?_map→fJ,idxOf_lt_length_iff→Ac,length→jr,length_append→bG,length_cons→cC,length_drop→fP,length_map→fC,length_nil→gr,length_singleton→fg,length_take→dJ,map_append→gS,map_take→Af,mem_append→jT,mem_cons→fi,mem_of_getElem?→gB,mem_singleton→iS,take→tD,take_of_length_le→eY,take_succ_cons→qm,take_zero→pH,toArray→a7
open Nat renaming add_le_add_left→Al,le_refl→cE,le_trans→e7,lt_or_ge→fG,zero_add→im
open Option renaming getD_some→An,isSome_iff_exists→nP
open UInt8 renaming toNat_inj→lC,toNat_lt→js
open Go.Proofs.Tryz
open Go.Hb.dP Go.Proofs Go.Hb.eH Go.Hb.fZ Go.Hb.kA

namespace Go.Hb
theorem Tu {l:List Tx} {x:Tx} :∀ {i:Nat},i < l.length→(∀ j,j < i→l.getD j []≠x)→l.getD i []=x→l.idxOf x=i:=by
 induction l with
 | nil=>intro i h; simp at h
 | cons a l G=>
   intro i hi E A;cases i with
   | zero=>simp only [lW] at A; rw [A,List.idxOf_cons_self]
   | succ i=>
     have C:=E 0 ab;simp only [lW] at C;rw [List.idxOf_cons,show (a==x)=false from by simpa using C,cond_false,G (i:=i) (by simpa using hi) (fun j I=>by have :=E (j+1) ab; simpa using this) (by simpa using A)]
theorem Rx {a b:List Tx} (h:a.length≠b.length):a≠b:=fun h2=>h<|by rw [h2]
theorem Sq {a b:List Tx} {i:Nat} (h:a.getD i []≠b.getD i []):a≠b:=fun h2=>h<|by rw [h2]
theorem Sn {a b:List Tx} (A:a.length=b.length) (h:∀ i,i < a.length→a.getD i []=b.getD i []):a=b:=by
 apply List.ext_getElem A;intro i h1 h2;have :=h i h1;rw [cH,cH,bY h1,bY h2] at this;exact this
theorem Yn {s:Tx} {i:Nat} (h:i < s.length):(s.drop i).take 1= [s.getD i 0]:=by
 rw [drop_cons 0 h]; rfl
theorem Lo (b:UInt8):qV [b]=jh b:=by
 unfold qV gL;cases h:jh b <;> simp [h]
theorem Kw {s:Tx} {i:Nat} (h:i < s.length):(s.take<|i+1).drop i= [s.getD i 0]:=by
 rw [zZ,show i+1 - i=1 from by omega,Yn h]
theorem yf {s:Tx} (h:s= []∨gL s=false):hZ s=21:=if_pos h
theorem G9 {s:Tx} (h:s≠[]) (h1:gL s=true) (h2:32 < s.length):hZ s=22:=by unfold hZ; rw [if_neg (by rw [h1]; simp [h]),if_pos h2]
theorem Ha {s:Tx} (h:s≠[]) (h1:gL s=true) (h2:¬32 < s.length):hZ s=0:=by unfold hZ; rw [if_neg (by rw [h1]; simp [h]),if_neg h2]
theorem JE {s:Tx} (h:s= [48]):eG true s= .ok []:=by unfold eG; rw [if_pos ⟨rfl,h⟩]
theorem CQ {s:Tx} (h:s≠[48]):eG true s=eG false s:=by unfold eG; simp [h]
theorem CM {s:Tx} (h:(bD s).2.2.2≠0):eG false s= .error (bD s).2.2.2:=by unfold eG; rw [if_neg (fun h2=>by cases h2.1),if_pos h]
theorem CN {s:Tx} (h:(bD s).2.2.2=0) (h1:(bD s).2.2.1=true):eG false s= .error 114:=by unfold eG; rw [if_neg (fun h2=>by cases h2.1),if_neg (fun h2=>h2 h),if_pos h1]
theorem CO {s:Tx} (h:(bD s).2.2.2=0) (h1:(bD s).2.2.1=false) (h2:hZ (bD s).1≠0):eG false s= .error (hZ (bD s).1):=by unfold eG; rw [if_neg (fun h2=>by cases h2.1),if_neg (fun h2=>h2 h),if_neg (by rw [h1]; simp),if_pos h2]
theorem CP {s:Tx} (h:(bD s).2.2.2=0) (h1:(bD s).2.2.1=false) (h2:hZ (bD s).1=0):eG false s= .ok (bD s).1:=by unfold eG; rw [if_neg (fun h2=>by cases h2.1),if_neg (fun h2=>h2 h),if_neg (by rw [h1]; simp),if_neg (fun h3=>h3 h2)]
theorem o8 {s:Tx} {most:Int} (h:(ee s most).2=0):e8 s most= .ok (ee s most).1:=by unfold e8; rw [if_neg (fun h2=>h2 h)]
theorem qN {s:Tx} {most:Int} (h:(ee s most).2≠0):e8 s most= .error 13∧(ee s most).2=13:=by
 refine ⟨by unfold e8; rw [if_pos h],?_⟩;rcases Jn s most with h1 | ⟨h1,_⟩
 · rw [h1]
 · rw [h1] at h; exact absurd rfl h
theorem Il (l:List Tx) (a:Option bF) (c:Nat) (x:Tx) (w:ak) (G:bW w.heap a l) (ae:l.length≤1048576):
 ba az 192 (a7 [.slice a l.length c,str x]) w (fun v w'=>v= .int .i64 (if x∈l then (l.idxOf x:Nat) else -1:Int)∧w'=w):=by
 refine enter func192 aa ntmps192 aa<|bq 14 aa<|lp (fun E O J=> ∃ (i:Nat),(i≤l.length)∧(∀ j,j < i→l.getD j []≠x)∧(J=w)∧(Sl O [(0,.slice a l.length c),(1,str x),(7,ay (l.length)),(8,ay i)])∧(l.length - i=E)) _ ⟨0,ab,(fun j I=>by omega),aa,aa,aa⟩ ?_;rintro E O J ⟨i,hi,C,V,Z,rfl⟩;refine bA Z ?_;subst V;refine bq 6 aa<|cd aa (fun Y=> ?_) fun Y=> ?_;refine aH 15 aa<|p (a6 cM aa aa ab<|aB.ok (G)<|bS ab)<|p (ld1 aa<|bW.get (i:=i) G ab)<|aQ 3 aa<|cd aa (fun A=> ?_) fun A=> ?_;exact aJ 9 aa<|tr<|bc 2 aa<|aR aa<|⟨by rw [if_pos (by rw [A]; exact dR ab),Tu ab C A.symm]; rfl,aa⟩
 exact aJ 7 aa<|tn<|⟨_,ab,i+1,ab,(fun j I=>by rcases fG j i with h | h <;> first | exact C j h | (rw [show j=i by omega]; exact fun h2=>A h2.symm)),aa,aa,aa⟩
 exact aJ 2 aa<|bK<|bc 8 aa<|aR aa<|⟨by rw [if_neg (fun h=>by obtain ⟨j,I,ac⟩:=mM [] h; exact C j ab ac)]; rfl,aa⟩
theorem Ry (l m:List Tx) (E I:Nat) (a b:Option bF) (c d:Nat) (w:ak) (O:bW w.heap a l) (V:bW w.heap b m) (an:l.length=E) (ao:m.length=I) (am:E≤1048576):
 ba az 234 (a7 [.slice a E c,.slice b I d]) w (fun v w'=>v= .bool (decide (l=m))∧Wk w w'):=by
 refine enter func234 aa ntmps234 aa<|bq 15 aa<|cd aa (fun ag=> ?_) fun ag=> ?_;exact aJ 7 aa<|aR aa<|⟨by show bR false =_; rw [decide_eq_false (Rx ab)],Md.refl _ _⟩
 have ai:l.length=m.length:=ab;refine bz 11 aa<|lp (fun J ae ac=> ∃ (i:Nat),(i≤E)∧(∀ j,j < i→l.getD j []=m.getD j [])∧(Wk w ac)∧(Sl ae [(0,.slice a E c),(1,.slice b I d),(12,ay E),(13,ay i)])∧(E - i=J)) _ ⟨0,ab,(fun j Y=>by omega),(Md.refl _ _),aa,aa⟩ ?_;rintro J ae ac ⟨i,hi,Z,A,al,rfl⟩;refine bA al<|bq 6 aa<|cd aa (fun ah=> ?_) fun ah=> ?_;refine bz 11 aa<|dZ fun C=>aT [0,1] aa C<|bP 2 aa (a6 cM aa aa ab<|aB.ok (O.wk A)<|bS ab) C<|cw 3 aa C (bW.get (i:=i) (O.wk A) ab)<|aT [4,5] aa C<|bP 6 aa (a6 cM aa aa ab<|aB.ok (V.wk A)<|bS ab) C<|cw 7 aa C (bW.get (i:=i) (V.wk A) ab)<|aT [8] aa C<|hn aj<|dz 1 aa<|cd aa (fun G=> ?_) fun G=> ?_;exact aJ 8 aa<|tr<|bc 2 aa<|aR aa<|⟨by show bR false =_; rw [decide_eq_false (Sq G)],A.drew⟩
 exact aJ 7 aa<|tn<|⟨_,ab,i+1,ab,(fun j Y=>by rcases fG j i with h | h <;> first | exact Z j h | (rw [show j=i by omega]; exact jG.1 G)),A.drew,aa,aa⟩
 exact aJ 2 aa<|bK<|bc 8 aa<|aR aa<|⟨by show bR true =_; rw [decide_eq_true (Sn ai fun j Y=>Z j ab)],A⟩
theorem pW (rb ln:Nat) (e:Int) (w:ak) (C:Hb.aV w.heap rb 2=some (.int .i64 (ln:Nat))):
 fR az 135 (a7 [.pointer (some ⟨rb,0,none⟩),.int .i64 e]) w (fun v w'=>v=gR #[]∧e=0∧w'=w) (fun c w'=>c=jM 45 ln e∧e≠0∧w'=w):=by
 refine kE func135 aa ntmps135 aa<|bq 6 aa<|cd aa (fun A=> ?_) fun A=> ?_;exact aH 4 aa<|p (ld1 aa<|C)<|au 1 aa<|p (cV (ps:= [(0,.int .i64 1),(1,.int .i64 (ln:Nat)),(2,.int .i64 e)]) (L:= [.int .i64 1,.int .i64 (ln:Nat),.int .i64 e]) uA aa<|aa)<|p (U9 Cp aa)<|Wg aa fun σ' E=>⟨aa,ab,aa⟩
 refine aJ 1 aa<|kf<|f0 aa ?_;exact ⟨aa,ab,aa⟩
theorem jc (rb ln:Nat) (b:Bool) (e:Int) (w:ak) (G:Hb.aV w.heap rb 2=some (.int .i64 (ln:Nat))) (he:e≠0):
 fR az 75 (a7 [.pointer (some ⟨rb,0,none⟩),.bool b,.int .i64 e]) w (fun v w'=>v=gR #[]∧b=true∧w'=w) (fun c w'=>c=jM 45 ln e∧b=false∧w'=w):=by
 refine kE func75 aa ntmps75 aa<|bq 6 aa<|cb aa (fun A=> ?_) fun A=> ?_;refine aH 3 aa<|eP aa (dW pN (pW rb ln e w G) aa fun v10 J E=> ?_) fun c w' C σ' I=>⟨C.1,by simpa using A,C.2.2⟩
 exact absurd E.2.1 he;refine aJ 1 aa<|kf<|f0 aa ?_;exact ⟨aa,by simpa using A,aa⟩
theorem K0 (B:Nat) (H:dw) (F:aE) (R:iD) (n:Nat) (r:List Tx) (rest:List Rw) (ln:Nat) (seen:List Tx) (w:ak) (A:dy w B H F R ((n,r)::rest) ln seen):
 ba az 74 (a7 [bj H.rb]) w (fun v w'=>(∃ R',dy w' B H F R' rest n seen)∧Tg w' B 9 r.length v (r.map str)∧Md (fun k=>k=H.rb) w w'):=by
 obtain ⟨vr,vs,vn⟩:=R;obtain ⟨a,cp,ax⟩:=A.rws.slice;obtain rfl :vr= .slice a (rest.length+1) cp:=ax;obtain ⟨q,vs,rfl⟩:∃ q I,vs=q::I:=by
  cases vs with
  | nil=>exact absurd A.rt.1<|by simp
  | cons q I=>exact ⟨q,I,rfl⟩
 obtain ⟨E,aA⟩:=q;obtain ⟨av,ae⟩:=A.rt.2 0 (E,aA) (n,r) rfl rfl;obtain rfl :E=n:=av;obtain ⟨ah,ai,rfl⟩:=ae.slice;have ag:rest.length+1≤cp∧aB w.heap a (k3 ((E,.slice ah r.length ai)::vs)):=A.rws.cells;have C:=A.cells;have aH:H.rb < w.heap.size:=(dD.1 C).1;refine enter func74 aa ntmps74 aa<|bg 10 aa<|p (ld1 aa<|(a8 C).trans aa)<|p (a6 ub aa aa ab<|aB.ok (ag.2)<|mh<|by simp)<|p (cQ xJ aa (aa)<|mi (i:=0) ag.2 aa)<|e<|al LG fun aF aI aG Y am=> ?_;have aq:=Y.md.bl C;refine e<|c8 F8 aa aa aa aa (am) (by simp) fun aK J aj=> ?_;have ac:=J.bl aq fun h=>by omega
 refine au 8 aa<|p (ld1 aa<|(a8 ac).trans aa)<|p (wT ub aa aa ab)<|au 2 aa<|e<|dd F7 aa aa (v:= .slice (iy a cp 1 2) rest.length<|cp - 1) aa ac (by show _ < 7; decide) fun aJ O an=> ?_;have Z:=O.B aj fun h=>by omega
 refine au 6 aa<|p (ld1 aa<|(Z.aV 0).trans aa)<|au 2 aa<|e<|dd gM aa aa (v:=ay E) aa an (by show _ < 7; decide) fun aD V ao=> ?_;have ap:=V.B Z fun h=>by omega
 refine au 5 aa<|p (ld1 aa<|(ap.aV 1).trans aa)<|p bm<|aC 3 aa<|aR aa ?_;have G:Md (fun k=>k=H.rb) w aD:=(((Y.md.mono fun _ _ h=>h.elim).trans' J fun k hk h=>by omega).trans' O fun _ _ h=>h).trans' V fun _ _ h=>h;exact ⟨⟨⟨.slice (iy a cp 1 2) rest.length (cp - 1),vs,vn⟩,A.cU (R':=⟨.slice (iy a cp 1 2) rest.length (cp - 1),vs,vn⟩) G ao aa (A.rws.qE (m:=2)<|(Kd _).trans<|by have :=A.rt.1; simp at this; simp [this])<|iH.tl A.rt⟩,ae.md G (fL C aw),G⟩
theorem B3 (B:Nat) (H:dw) (F:aE) (R:iD) (rows:List Rw) (ln:Nat) (seen:List Tx) (hd:List Tx) (aj E:Nat) (V:Option bF) (Y:Nat) (w:ak) (J:dy w B H F R rows ln seen) (hH:Tg w aj 9 E (.slice V E Y) (hd.map str)) (O:hd.length=E) (aK:E≤1000) (ay:∀ q∈rows,q.2.length≤70000):
 fR az 197 (a7 [.pointer (some ⟨H.rb,0,none⟩),.slice V E Y]) w (fun v w'=> ∃ n r rest,rows=(n,r)::rest∧r.take hd.length=hd∧(∃ R',dy w' B H F R' rest n seen)∧Tg w' B 9 r.length v (r.map str)∧Md (fun k=>k=H.rb) w w') (fun c w'=>((rows= []∧c=jM 45 H.eof 116)∨(∃ n r rest,rows=(n,r)::rest∧r.take hd.length≠hd∧c=jM 45 n 116))∧Md (fun k=>k=H.rb) w w'):=by
 obtain ⟨a,cp,aA⟩:=J.rws.slice;have ac:=J.cells;have ae:=J.cells;unfold wx at ac;rw [aA] at ac;refine kE func197 aa ntmps197 aa<|bg 11 aa<|p (ld1 aa<|(a8 ac).trans aa)<|aQ 4 aa<|cd aa (fun ai=> ?_) fun ai=> ?_;obtain rfl :rows= []:=fY ab;refine aH 6 aa<|p (ld1 aa<|(a8 ae).trans aa)<|au 2 aa<|e<|dd gM aa aa (v:= .int .i64 (H.eof:Nat)) aa ae (by show _ < 7; decide) fun aI ap am=>au 4 aa<|eP aa (dW pN (pW H.rb H.eof 116 aI<|(a8 am).trans aa) aa fun v20 aN aq=> ?_) fun c w' A σ' ah=>⟨.inl ⟨aa,A.1⟩,A.2.2 ▸ ap⟩
 exact absurd aq.2.1 aw;obtain ⟨q,rest,rfl⟩:∃ q rest,rows=q::rest:=by
  cases rows with
  | nil=>exact absurd rfl ai
  | cons q rest=>exact ⟨q,rest,rfl⟩
 obtain ⟨n,r⟩:=q;refine aH 5 aa<|e<|aM (K0 B H F R n r rest ln seen _ J) aa ?_;rintro v22 aD ⟨⟨al,I⟩,hT,G⟩;obtain ⟨ar,cr,rfl⟩:=hT.slice;have av:=hT.cW;have aL:r.length≤70000:=ay (n,r)<|by simp
 have an:=hH.md G<|fL ae aw;have ao:=an.cW;have aJ:=I.du;refine p bm<|au 5 aa<|p mv<|au 5 aa<|gs (t:=29) aa (fun ax=> ?_) fun ax=> ?_;refine pg aa aa aa mv<|au 2 aa<|pg aa aa aa (uy cM aa aa ab)<|au 1 aa<|eg aa aa aa<|aM (Ry (r.take E) hd _ _ ar V cr Y _ (by have :=aB.take av.2 E; unfold bW; rw [Af]; exact this) ao.2 (by rw [dJ]; omega) O ab) aa ?_;rintro v35 aF ⟨rfl,C⟩;refine au 1 aa<|eP aa (dW iW (jc H.rb n _ 116 aF (by first | exact I.du | exact Wk.aV C I.du) aw) aa fun v37 aG Z=> ?_) fun c w' A σ' ah=>⟨.inr ⟨n,r,rest,aa,(by rw [O]; first | exact of_decide_eq_false A.2.1 | exact fun h=>by have :=congrArg jr h; rw [dJ] at this; omega),A.1⟩,by rw [A.2.2]; first | exact G.trans' C (fun _ _ h=>h.elim) | exact G⟩
 obtain ⟨rfl,ag,rfl⟩:=Z;exact au 4 aa<|p mv<|p bm<|aC 3 aa<|kf<|f1 aa aa<|⟨n,r,rest,aa,(by rw [O]; exact of_decide_eq_true ag),⟨al,I.wk C⟩,hT.wk C,G.trans' C fun _ _ h=>h.elim⟩
 refine au 7 aa<|eP aa (dW iW (jc H.rb n _ 116 aD (by first | exact I.du | exact Wk.aV C I.du) aw) aa fun v37 aG Z=> ?_) fun c w' A σ' ah=>⟨.inr ⟨n,r,rest,aa,(by rw [O]; first | exact of_decide_eq_false A.2.1 | exact fun h=>by have :=congrArg jr h; rw [dJ] at this; omega),A.1⟩,by rw [A.2.2]; first | exact G.trans' C (fun _ _ h=>h.elim) | exact G⟩
 obtain ⟨rfl,ag,rfl⟩:=Z;exact au 4 aa<|p mv<|p bm<|aC 3 aa<|kf<|f1 aa aa<|absurd ag aw
theorem y1 (rb ln:Nat) (s:Tx) (most:Int) (w:ak) (G:Hb.aV w.heap rb 2=some (.int .i64 (ln:Nat))) (hs:s.length≤1048576) (hm: -9223372036854775808≤most∧most≤9223372036854775807):
 fR az 196 (a7 [.pointer (some ⟨rb,0,none⟩),str s,.int .i64 most]) w (fun v w'=> ∃ a,e8 s most= .ok a∧v= .int .i64 (a:Nat)∧Wk w w') (fun c w'=> ∃ e,e8 s most= .error e∧c=jM 45 ln e∧Wk w w'):=by
 refine kE func196 aa ntmps196 aa<|bg 9 aa<|e<|aM (yQ s most _ hs hm) aa ?_;rintro v12 J ⟨rfl,C⟩;refine p mv<|au 10 aa<|eP aa (dW pN (pW rb ln (ee s most).2 J<|Wk.aV C G) aa fun v17 V E=> ?_) fun c w' A σ' O=>⟨13,(qN A.2.1).1,(by rw [A.1,(qN A.2.1).2]; rfl),by rw [A.2.2]; exact C⟩
 obtain ⟨rfl,I,rfl⟩:=E;exact aC 9 aa<|kf<|f1 aa aa<|⟨_,o8 I,aa,C⟩
theorem CR (rb ln:Nat) (s:Tx) (w:ak) (ae:Hb.aV w.heap rb 2=some (.int .i64 (ln:Nat))) (hs:s.length≤1048576):
 fR az 193 (a7 [.pointer (some ⟨rb,0,none⟩),str s]) w (fun v w'=>v= .tuple #[]∧gL s=true∧Wk w w') (fun c w'=>c=jM 45 ln 21∧gL s=false∧Wk w w'):=by
 refine kE func193 aa ntmps193 aa<|bq 8 aa<|lp (fun G Y V=> ∃ (i:Nat),(i≤s.length)∧(∀ j,j < i→jh (s.getD j 0)=true)∧(Wk w V)∧(Sl Y [(0,.pointer (some ⟨rb,0,none⟩)),(1,str s),(6,.int .i64 (s.length:Nat)),(7,.int .i64 (i:Nat))])∧(s.length - i=G)) _ ⟨0,ab,(fun j I=>by omega),(Md.refl _ _),aa,aa⟩ ?_;rintro G Y V ⟨i,hi,J,A,ag,rfl⟩;refine bA ag<|bq 6 aa<|cd aa (fun ac=> ?_) fun ac=> ?_;refine aH 15 aa<|p (bC<|i+1)<|p (mR u9 aa aa aa ab)<|e<|aM (Lq ((s.take<|i+1).drop i) _<|by rw [fP,dJ]; omega) aa ?_;rintro aj ah ⟨rfl,C⟩;refine eP aa (dW iW (jc rb ln _ 21 ah (Wk.aV (A.trans C) ae) aw) aa fun v17 al Z=> ?_) fun c w' E σ' ai=>⟨E.1,tU (i:=i) ab (by have h:=E.2.1; rw [Kw (by omega :i < s.length),Lo] at h; exact h),by rw [E.2.2]; exact A.trans C⟩
 obtain ⟨rfl,O,rfl⟩:=Z;rw [Kw (by omega :i < s.length),Lo] at O;exact aC 7 aa<|tn<|⟨_,ab,i+1,ab,(fun j I=>by rcases fG j i with h | h <;> first | exact J j h | (rw [show j=i by omega]; exact O)),(A.trans C),aa,aa⟩
 refine aJ 2 aa<|te _<|bc 1 aa<|kf<|f0 aa ?_;exact ⟨aa,vA (fun j I=>J j ab),A⟩
theorem JR (rb ln:Nat) (s:Tx) (w:ak) (G:Hb.aV w.heap rb 2=some (.int .i64 (ln:Nat))) (hs:s.length≤1048576):
 fR az 235 (a7 [.pointer (some ⟨rb,0,none⟩),str s]) w (fun v w'=>v=str s∧hZ s=0∧Wk w w') (fun c w'=>c=jM 45 ln (hZ s:Nat)∧hZ s≠0∧Wk w w'):=by
 refine kE func235 aa ntmps235 aa<|bg 9 aa<|eP aa (dW AK (CR rb ln s w G hs) aa fun ai ae Z=> ?_) (fun c w' A σ' I=>by have h:hZ s=21:=yf (.inr A.2.1); exact ⟨by rw [h]; exact A.1,by rw [h]; decide,A.2.2⟩);obtain ⟨rfl,O,C⟩:=Z;refine au 7 aa<|eP aa (dW iW (jc rb ln _ 21 ae (Wk.aV C G) aw) aa fun v11 ac V=> ?_) (fun c w' A σ' I=>by have h:hZ s=21:=yf (.inl<|jG.1<|of_decide_eq_false A.2.1); exact ⟨by rw [h]; exact A.1,by rw [h]; decide,by rw [A.2.2]; exact C⟩);obtain ⟨rfl,E,rfl⟩:=V;have E:s≠[]:=of_decide_eq_true E;refine au 8 aa<|eP aa (dW iW (jc rb ln _ 22 ac (Wk.aV C G) aw) aa fun ah aj Y=> ?_) (fun c w' A σ' I=>by have ag:=of_decide_eq_false A.2.1; have h:hZ s=22:=G9 E O ab; exact ⟨by rw [h]; exact A.1,by rw [h]; decide,by rw [A.2.2]; exact C⟩);obtain ⟨rfl,J,rfl⟩:=Y;have J:=of_decide_eq_true J;exact aC 9 aa<|kf<|f1 aa aa<|⟨aa,Ha E O ab,C⟩
theorem JF (rb ln:Nat) (s:Tx) (w:ak) (I:Hb.aV w.heap rb 2=some (.int .i64 (ln:Nat))) (hs:s.length≤1048576):
 fR az 198 (a7 [.pointer (some ⟨rb,0,none⟩),str s]) w (fun v w'=> ∃ a,eG false s= .ok a∧v=str a∧Wk w w') (fun c w'=> ∃ e,eG false s= .error e∧c=jM 45 ln e∧Wk w w'):=by
 refine kE func198 aa ntmps198 aa<|bg 8 aa<|e<|aM (DS s _ hs) aa ?_;rintro v11 ae ⟨rfl,C⟩;have ai:=td s;refine p mv<|au 14 aa<|eP aa (dW pN (pW rb ln ((bD s).2.2.2:Nat) ae<|Wk.aV C I) aa fun aj ag V=> ?_) fun c w' A σ' J=>⟨_,CM (by have :=A.2.1; omega),A.1,by rw [A.2.2]; exact C⟩
 obtain ⟨rfl,E,rfl⟩:=V;have E:(bD s).2.2.2=0:=ab;refine au 7 aa<|eP aa (dW iW (jc rb ln _ 114 ag (Wk.aV C I) aw) aa fun v22 ah Y=> ?_) fun c w' A σ' J=>⟨_,CN E (by simpa using A.2.1),A.1,by rw [A.2.2]; exact C⟩
 obtain ⟨rfl,G,rfl⟩:=Y;have G:(bD s).2.2.1=false :=by simpa using G
 refine au 6 aa<|eP aa (dW Fw (JR rb ln (bD s).1 ah (Wk.aV C I) ab) aa fun v25 al Z=> ?_) fun c w' A σ' J=>⟨_,CO E G A.2.1,A.1,C.trans A.2.2⟩
 obtain ⟨rfl,ac,O⟩:=Z;exact aC 4 aa<|kf<|f1 aa aa<|⟨_,CP E G ac,aa,C.trans O⟩
theorem JC (rb ln:Nat) (s:Tx) (w:ak) (J:Hb.aV w.heap rb 2=some (.int .i64 (ln:Nat))) (hs:s.length≤1048576):
 fR az 199 (a7 [.pointer (some ⟨rb,0,none⟩),str s]) w (fun v w'=> ∃ a,eG true s= .ok a∧v=str a∧Wk w w') (fun c w'=> ∃ e,eG true s= .error e∧c=jM 45 ln e∧Wk w w'):=by
 refine kE func199 aa ntmps199 aa<|bq 12 aa<|cd aa (fun A=> ?_) fun A=> ?_;exact aJ 7 aa<|kf<|f1 aa aa<|⟨[],JE A,aa,Md.refl _ _⟩
 refine aH 6 aa<|eP aa (dW Fu (JF rb ln s w J hs) aa fun v9 V G=> ?_) fun c w' E σ' O=>by obtain ⟨e,he,h⟩:=E; exact ⟨e,by rw [CQ A]; exact he,h⟩
 obtain ⟨a,I,rfl,C⟩:=G;exact aC 4 aa<|kf<|f1 aa aa<|⟨a,by rw [CQ A]; exact I,aa,C⟩
theorem Hy {kind:Nat} {s:Tx} (h:(ir kind s).2=0):(ir kind s).1≠0:=by
 unfold ir at h ⊢;split
 · rename_i A; rw [if_pos A] at h; cases h
 · rename_i A; exact A
theorem HG {F:aE} {s:Tx} (h:(ir F.kind s).2≠0):ic F s= .error (ir F.kind s).2:=if_pos h
theorem HH {F:aE} {s:Tx} (h:(ir F.kind s).2=0) (h1:eM F (ir F.kind s).1=true):ic F s= .error 115:=by unfold ic; rw [if_neg (fun h2=>h2 h),if_pos h1]
theorem HI {F:aE} {s:Tx} (h:(ir F.kind s).2=0) (h1:eM F (ir F.kind s).1=false):ic F s= .ok (ir F.kind s).1:=by unfold ic; rw [if_neg (fun h2=>h2 h),if_neg (by rw [h1]; exact dM)]
theorem KE {F:aE} {rows:List Rw} {ln e:Nat} {r:List Tx} (h:ic F (r.getD 1 [])= .error e):kp F rows ln r= .error (ln,e):=by unfold kp; rw [h]
theorem KF {F:aE} {rows:List Rw} {ln x:Nat} {r:List Tx} (h:ic F (r.getD 1 [])= .ok x):kp F rows ln r= .ok ({F with sp:=F.sp.set (eh.idxOf<|r.getD 0 []) x},rows):=by unfold kp; rw [h]
def lS:List Tx:= [kH,kW,lk,lP,l8,eN,fU,dt]
theorem CI (hs:List Tx):ordered hs=true↔∀ k∈lS,k∉hs:=by
 unfold ordered;rw [Bool.not_eq_true',Mx];have hm:∀ k,k∈lS↔(k∈eh∨k=eN∨k=fU∨k=dt):=by
  intro k;simp only [lS,eh,fi,List.not_mem_nil,or_false,or_assoc]
 constructor
 · intro h k hk A;have :=h k A;rw [decide_eq_true_iff] at this;exact this<|(hm k).1 hk
 · intro h x C hd;rw [decide_eq_true_iff] at hd;exact h x ((hm x).2 hd) C
theorem Km {F:aE} {rows:List Rw} {ln:Nat} {r:List Tx} (h:gL (r.getD 1 [])=false):mP F rows ln r= .error (ln,21):=if_pos h
theorem Ko {F:aE} {rows:List Rw} {ln:Nat} {r:List Tx} (h:gL (r.getD 1 [])=true):mP F rows ln r= .ok ({F with sL:=r.getD 1 []},rows):=if_neg<|by rw [h]; exact dM
theorem K8 {F:aE} {rows:List Rw} {ln:Nat} {r:List Tx} (h:(letE<|r.getD 1 []).2≠0):mT F rows ln r= .error (ln,(letE<|r.getD 1 []).2):=if_pos h
theorem K9 {F:aE} {rows:List Rw} {ln:Nat} {r:List Tx} (h:(letE<|r.getD 1 []).2=0):mT F rows ln r= .ok ({F with tr:=(letE<|r.getD 1 []).1},rows):=if_neg fun h2=>h2 h
theorem I6 {F:aE} {rows:List Rw} {ln e:Nat} {r:List Tx} (h:e8 (r.getD 1 []) 64= .error e):kX F rows ln r= .error (ln,e):=by unfold kX; rw [h]
theorem I7 {F:aE} {rows:List Rw} {ln n:Nat} {r:List Tx} (h:e8 (r.getD 1 []) 64= .ok n) (A:n=0):kX F rows ln r= .error (ln,13):=by unfold kX; rw [h]; exact if_pos A
theorem I8 {F:aE} {rows:List Rw} {ln n:Nat} {r:List Tx} (h:e8 (r.getD 1 []) 64= .ok n) (A:n≠0):kX F rows ln r= .ok ({F with least:=n},rows):=by unfold kX; rw [h]; exact if_neg A
theorem vR {F:aE} {seen:List Tx} {rows:List Rw} {ln:Nat} {r:List Tx} {k:Tx} (hk:k∈lS) (h:k∈seen):kI F seen rows ln r= .error (ln,113):=by
 unfold kI;rw [if_pos];cases ho:ordered seen with
 | false =>rfl
 | true =>exact absurd h<|(CI seen).1 ho k hk
theorem IB {F:aE} {seen:List Tx} {rows:List Rw} {ln:Nat} {r:List Tx} (h:ordered seen=true) (A:j4 (r.getD 1 [])=0):kI F seen rows ln r= .error (ln,114):=by unfold kI; rw [if_neg (by rw [h]; exact dM),if_pos A]
theorem yE {F:aE} {seen:List Tx} {rows:List Rw} {ln:Nat} {r:List Tx} (h:ordered seen=true) (A:j4 (r.getD 1 [])≠0):kI F seen rows ln r= .ok ({F with kind:=j4<|r.getD 1 []},rows):=by unfold kI; rw [if_neg (by rw [h]; exact dM),if_neg A]
def kinds:List Tx:= [sT,ui,vS]
theorem Ug (s:Tx):((if s∈kinds then (kinds.idxOf s:Nat) else -1:Int))=(j4 s:Nat) - 1:=by
 unfold j4 kinds;by_cases h1:s=sT
 · subst h1; decide
 · by_cases h2:s=ui
   · subst h2; decide
   · by_cases h3:s=vS
     · subst h3; decide
     · rw [if_neg (by simp [h1,h2,h3]),if_neg h1,if_neg h2,if_neg h3]; rfl
theorem Uh (s:Tx):j4 s≤3:=by
 unfold j4;split
 · omega
 · split
   · omega
   · split <;> omega
theorem BB (B:Nat) (H:dw) (F:aE) (V:fy) (R:iD) (rows:List Rw) (ln:Nat) (seen:List Tx) (s:Tx) (w:ak) (J:dX w B H.fb H.mc F V) (E:dy w B H F R rows ln seen) (hk:F.kind=1∨F.kind=2∨F.kind=3) (hs:s.length≤1048576):
 fR az 195 (a7 [.pointer (some ⟨H.rb,0,none⟩),str s]) w (fun v w'=> ∃ x,ic F s= .ok x∧x≠0∧v=bf x∧eM F x=false∧Wk w w') (fun c w'=> ∃ e,ic F s= .error e∧c=jM 45 ln (e:Nat)∧Wk w w'):=by
 obtain ⟨tf,ac,ae⟩:=E.tm;refine kE func195 aa ntmps195 aa<|bg 10 aa<|p (ld1 aa<|(a8 E.cells).trans aa)<|au 3 aa<|p (ld1 aa<|(a8 J.cells).trans aa)<|au 1 aa<|e<|aM (VH F.kind s _ hk hs) aa ?_;rintro v17 ag ⟨rfl,A⟩;refine p mv<|au 10 aa<|eP aa (dW pN (pW H.rb ln ((ir F.kind s).2:Nat) ag<|Wk.aV A E.du) aa fun v22 ah Y=> ?_) fun c w' C σ' J=>⟨_,HG (by have :=C.2.1; omega),C.1,by rw [C.2.2]; exact A⟩
 obtain ⟨rfl,I,rfl⟩:=Y;have I:(ir F.kind s).2=0:=ab;have O:=Hy I;refine au 8 aa<|p (ld1 aa<|Wk.aV A<|(a8 E.cells).trans aa)<|au 1 aa<|p (mL ta oD sS (ac.wk A) aa aa (⟨_,aa⟩)<|ae _ O)<|au 1 aa<|eP aa (dW iW (jc H.rb ln _ 115 ah (Wk.aV A E.du) aw) aa fun v31 ai Z=> ?_) fun c w' C σ' J=>⟨115,HH I (by have h:=C.2.1; rw [Gi] at h; simpa using h),C.1,by rw [C.2.2]; exact A⟩
 obtain ⟨rfl,G,rfl⟩:=Z;rw [Gi] at G;have G:eM F (ir F.kind s).1=false :=by simpa using G
 exact aC 9 aa<|kf<|f1 aa aa<|⟨_,HI I G,O,aa,G,A⟩
theorem wV (B:Nat) (H:dw) (F:aE) (rows:List Rw) (ln:Nat) (seen:List Tx) (r:List Tx) (aJ:Nat) (ar:Option bF) (cr:Nat) (w:ak) (Z:St w B H F rows ln seen) (hT:Tg w aJ 9 r.length (.slice ar r.length cr) (r.map str)) (a4:r.length=2) (aX:∀ x∈r,x.length≤70000) (aD:r.getD 0 []∈eh) (aY:F.sp.getD (eh.idxOf<|r.getD 0 []) 0=0):
 fR az 130 (a7 [.pointer (some ⟨H.rb,0,none⟩),.slice ar r.length cr]) w (jV B H seen (kp F rows ln r) w) (jU B H (kp F rows ln r) w):=by
 obtain ⟨V,R,C,I,G⟩:=Z;have ax:=hT.cW;have aA:¬(H.rb=H.fb):=fun h=>by have h1:=I.cells; rw [h,C.cells] at h1; cases h1
 have a5:(r.getD 1 []).length≤70000:=aX _<|dR ab;have aC:¬(bk ar=H.fb):=Tg.wa hT (bS ab) C.cells aw;obtain ⟨tf,am,aF⟩:=I.tm;obtain ⟨bb,a9,ba⟩:=I.sm;have ay:eh.idxOf (r.getD 0 []) < 5:=Ac.2 aD;refine kE func130 aa ntmps130 aa<|bg 4 aa<|p (a6 cM aa aa ab<|aB.ok (ax.2)<|bS ab)<|p (ld1 aa<|bW.get (i:=1) ax.2 ab)<|eP aa (dW AL (BB B H F V R rows ln seen (r.getD 1 []) w C I G.kd ab) aa fun v9 bc Y=> ?_) fun c w' aO σ' C=>by obtain ⟨e,he,h,h2⟩:=aO; exact ⟨ln,e,KE he,h,Wk.mw h2⟩
 obtain ⟨x,aZ,a0,rfl,aH,A⟩:=Y;have aN:=C.wk A;have Y:=I.wk A;refine au 8 aa<|p (ld1 aa<|Wk.aV A<|(a8 I.cells).trans aa)<|au 1 aa<|p (mL ta oD sS (am.wk A) aa aa (⟨_,aa⟩) (show _=gq .i64 0 from (aF x a0).trans<|by rw [aH]; rfl))<|p (bC<|1)<|e<|tc ta sS (am.wk A) aa aa aa (⟨_,aa⟩) fun J ae aP=> ?_;have ap:=Y.vZ (F':= {F with sp:=F.sp.set (eh.idxOf<|r.getD 0 []) x}) ae aP rfl (K2 aH aF<|QF (by rw [C.gl]; exact ay) aY);have ac:=aN.vZ Y ae;have aU:=(hT.wk A).md ae fun k hk cur z aW=>by subst hk; exact (am.wk A).o7 aW
 have av:=aU.cW;refine aQ 2 aa ?_;have E:(fun w'=>Md (fun k=>k=H.fb) J w') J.drew:=(Md.refl _ _).drew;refine dY (fun w'=>Md (fun k=>k=H.fb) J w') aa wide E<|aT [0,1,2] aa E<|hp 3 aa aj (fun w' Z=>ld1 aa<|Md.aV Z ((a8 ap.cells).trans aa)<|by first | exact aA | exact aC) E<|aT [5] aa E<|hp 6 aa aj (fun _ _=>a6 cM aa aa ab<|aB.ok (av.2)<|bS ab) E<|hp 7 aa aj (fun w' Z=>ld1 aa<|Md.aV Z (bW.get (i:=0) av.2 ab)<|by first | exact aA | exact aC) E<|aT [9,10,11,12] aa E<|he 4 aa aj<|sK (L:=eh.map str) gk aa aa aa aa fun an aI a3 ah aK=> ?_;have aR:bW aI.heap (some ⟨an,0,none⟩) eh:=aB.dT ⟨_,aK⟩;have O:=iQ ah.md;have aq:(fun w'=>Md (fun k=>k=H.fb) J w') aI:=E.trans' ah.md fun _ _ h=>h.elim;refine ⟨aq,?_⟩;refine he 8 aa aj<|aM (Il eh (some ⟨an,0,none⟩) 5 (r.getD 0 []) _ aR aw) aa ?_;rintro v25 a1 ⟨aG,rfl⟩;rw [if_pos aD] at aG;subst aG;have ai:(fun w'=>Md (fun k=>k=H.fb) J w') a1:=aq;refine ⟨ai,?_⟩;refine hp 13 aa aj (fun _ _=>kF vw aa aa ab) ai<|he 14 aa aj<|dd gF aa aa (v:=bf x) aa (ah.md.bl ac.cells) (by show _ < 14; omega) fun a2 ag ao=> ?_;rw [RT (i:=eh.idxOf<|r.getD 0 []) C.gl ay ab] at ao;have aS:(fun w'=>Md (fun k=>k=H.fb) J w') a2:=ai.trans' ag fun _ _ h=>h;refine ⟨aS,?_⟩;refine hn aj<|kf<|f0 aa ?_;have aL:=(ac.wk O).put (F':= {F with sp:=F.sp.set (eh.idxOf<|r.getD 0 []) x}) ag ao rfl rfl rfl rfl (by rw [List.length_set]; exact C.gl);exact ⟨aa,_,rows,ln,KF aZ,⟨V,R,aL,(ap.wk O).fb (ac.wk O) ag,⟨G.len,G.sl,G.row,G.kd,G.al⟩⟩,((Wk.mw A).trans<|fQ.mt Y ae).trans<|(Wk.mw O).trans<|fQ.fb (ac.wk O) ag⟩
theorem OS (B:Nat) (H:dw) (F:aE) (rows:List Rw) (ln:Nat) (seen:List Tx) (r:List Tx) (an:Nat) (ar:Option bF) (cr:Nat) (w:ak) (J:St w B H F rows ln seen) (hT:Tg w an 9 r.length (.slice ar r.length cr) (r.map str)) (ay:r.length=2) (au:∀ x∈r,x.length≤70000):
 fR az 128 (a7 [.pointer (some ⟨H.rb,0,none⟩),.slice ar r.length cr]) w (jV B H seen (mP F rows ln r) w) (jU B H (mP F rows ln r) w):=by
 obtain ⟨V,R,G,I,E⟩:=J;have ah:=hT.cW;have ai:¬(H.rb=H.fb):=fun h=>by have h1:=I.cells; rw [h,G.cells] at h1; cases h1
 have aA:(r.getD 1 []).length≤70000:=au _<|dR ab;have am:¬(bk ar=H.fb):=Tg.wa hT (bS ab) G.cells aw;obtain ⟨tf,aF,aG⟩:=I.tm;obtain ⟨aH,aC,aD⟩:=I.sm;refine kE func128 aa ntmps128 aa<|bg 4 aa<|p (a6 cM aa aa ab<|aB.ok (ah.2)<|bS ab)<|p (ld1 aa<|bW.get (i:=1) ah.2 ab)<|eP aa (dW AK (CR H.rb ln (r.getD 1 []) w I.du ab) aa fun aI ac Z=> ?_) fun c w' ae σ' G=>⟨ln,21,Km ae.2.1,ae.1,Wk.mw ae.2.2⟩
 obtain ⟨rfl,av,O⟩:=Z;have Y:=G.wk O;have Z:=I.wk O;have ag:=(hT.wk O).cW;refine aQ 2 aa ?_;have A:(fun w'=>Md (fun k=>k=H.fb) ac w') ac.drew:=(Md.refl _ _).drew;refine dY (fun w'=>Md (fun k=>k=H.fb) ac w') aa wide A<|aT [0,1,2] aa A<|hp 3 aa aj (fun w' J=>ld1 aa<|Md.aV J ((a8 Z.cells).trans aa)<|by first | exact ai | exact am) A<|aT [4] aa A<|hp 5 aa aj (fun _ _=>a6 cM aa aa ab<|aB.ok (ag.2)<|bS ab) A<|hp 6 aa aj (fun w' J=>ld1 aa<|Md.aV J (bW.get (i:=1) ag.2 ab)<|by first | exact ai | exact am) A<|aT [7,8,9] aa A<|he 10 aa aj<|dd l7 aa aa (v:=str<|r.getD 1 []) aa Y.cells (by show _ < 14; omega) fun ax C ao=> ?_;have C:=iQ C;have aq:(fun w'=>Md (fun k=>k=H.fb) ac w') ax:=C;refine ⟨aq,?_⟩;refine hn aj<|kf<|f0 aa ?_;have ap:=Y.put (F':= {F with sL:=r.getD 1 []}) C ao rfl rfl rfl rfl G.gl;exact ⟨aa,_,rows,ln,Ko av,⟨V,R,ap,(Z.fb Y C).congr aa (fun _=>rfl),⟨E.len,E.sl,E.row,E.kd,E.al⟩⟩,(Wk.mw O).trans<|fQ.fb Y C⟩
theorem YG (B:Nat) (H:dw) (F:aE) (rows:List Rw) (ln:Nat) (seen:List Tx) (r:List Tx) (ae:Nat) (ar:Option bF) (cr:Nat) (w:ak) (aj:St w B H F rows ln seen) (hT:Tg w ae 9 r.length (.slice ar r.length cr) (r.map str)) (aq:r.length=2) (am:∀ x∈r,x.length≤70000):
 fR az 129 (a7 [.pointer (some ⟨H.rb,0,none⟩),.slice ar r.length cr]) w (jV B H seen (mT F rows ln r) w) (jU B H (mT F rows ln r) w):=by
 obtain ⟨V,R,C,I,A⟩:=aj;have Z:=hT.cW;have ao:¬(H.rb=H.fb):=fun h=>by have h1:=I.cells; rw [h,C.cells] at h1; cases h1
 have av:(r.getD 1 []).length≤70000:=am _<|dR ab;have ap:¬(bk ar=H.fb):=Tg.wa hT (bS ab) C.cells aw;obtain ⟨tf,aA,aD⟩:=I.tm;obtain ⟨aF,ax,ay⟩:=I.sm;refine kE func129 aa ntmps129 aa<|bg 3 aa<|p (a6 cM aa aa ab<|aB.ok (Z.2)<|bS ab)<|p (ld1 aa<|bW.get (i:=1) Z.2 ab)<|e<|aM (Uu (r.getD 1 []) _ ab) aa ?_;rintro v10 an ⟨rfl,E⟩;have G:=C.wk E;have Y:=I.wk E;refine p mv<|au 10 aa<|eP aa (dW pN (pW H.rb ln ((letE<|r.getD 1 []).2:Nat) an Y.du) aa fun aG aH ai=> ?_) fun c w' O σ' C=>⟨ln,_,K8 (by have :=O.2.1; omega),O.1,by rw [O.2.2]; exact Wk.mw E⟩
 obtain ⟨rfl,ac,rfl⟩:=ai;have ac:(letE<|r.getD 1 []).2=0:=ab;refine au 6 aa<|p (ld1 aa<|(a8 Y.cells).trans aa)<|au 4 aa<|e<|dd l7 aa aa (v:=str (letE<|r.getD 1 []).1) aa G.cells (by show _ < 14; omega) fun aI J ag=>aC 1 aa<|kf<|f0 aa ?_;have ah:=G.put (F':= {F with tr:=(letE<|r.getD 1 []).1}) J ag rfl rfl rfl rfl C.gl;exact ⟨aa,_,rows,ln,K9 ac,⟨V,R,ah,(Y.fb G J).congr aa (fun _=>rfl),⟨A.len,A.sl,A.row,A.kd,A.al⟩⟩,(Wk.mw E).trans<|fQ.fb G J⟩
theorem Um (B:Nat) (H:dw) (F:aE) (rows:List Rw) (ln:Nat) (seen:List Tx) (r:List Tx) (aq:Nat) (ar:Option bF) (cr:Nat) (w:ak) (Z:St w B H F rows ln seen) (hT:Tg w aq 9 r.length (.slice ar r.length cr) (r.map str)) (aI:r.length=2) (aF:∀ x∈r,x.length≤70000):
 fR az 131 (a7 [.pointer (some ⟨H.rb,0,none⟩),.slice ar r.length cr]) w (jV B H seen (kX F rows ln r) w) (jU B H (kX F rows ln r) w):=by
 obtain ⟨V,R,C,E,I⟩:=Z;have ah:=hT.cW;have ai:¬(H.rb=H.fb):=fun h=>by have h1:=E.cells; rw [h,C.cells] at h1; cases h1
 have aJ:(r.getD 1 []).length≤70000:=aF _<|dR ab;have am:¬(bk ar=H.fb):=Tg.wa hT (bS ab) C.cells aw;obtain ⟨tf,aM,aN⟩:=E.tm;obtain ⟨aO,aK,aL⟩:=E.sm;refine kE func131 aa ntmps131 aa<|bq 1 aa ?_;have G:(fun w'=>Md (fun k=>k=H.fb) w w') w.drew:=(Md.refl _ _).drew;refine dY (fun w'=>Md (fun k=>k=H.fb) w w') aa wide G<|aT [0,1,2] aa G<|hp 3 aa aj (fun w' Z=>ld1 aa<|Md.aV Z ((a8 E.cells).trans aa)<|by first | exact ai | exact am) G<|aT [4,5] aa G<|hp 6 aa aj (fun _ _=>a6 cM aa aa ab<|aB.ok (ah.2)<|bS ab) G<|hp 7 aa aj (fun w' Z=>ld1 aa<|Md.aV Z (bW.get (i:=1) ah.2 ab)<|by first | exact ai | exact am) G<|ug 8 aa aj aa (dW xR (y1 H.rb ln (r.getD 1 []) 64 w.drew E.du ab ab) aa fun v12 aG ax=> ?_) fun c w' Y σ' C=>by obtain ⟨e,he,h,h2⟩:=Y; exact ⟨ln,e,I6 he,h,Wk.mw<|iQ h2⟩
 obtain ⟨n,an,rfl,A⟩:=ax;have A:=iQ A;have J:=C.wk A;have aA:=E.wk A;have ae:(fun w'=>Md (fun k=>k=H.fb) w w') aG:=Md.mono A fun _ _ h=>h.elim;refine ⟨ae,?_⟩;refine aT [9,10,11] aa ae<|he 12 aa aj<|dd gM aa aa (v:= .int .i64 (n:Nat)) aa J.cells (by show _ < 14; omega) fun ap O ag=> ?_;have ac:=aA.fb J O;have aD:(fun w'=>Md (fun k=>k=H.fb) w w') ap:=ae.trans' O fun _ _ h=>h;refine ⟨aD,?_⟩;refine hn aj<|dq 6 aa<|p (ld1 aa<|(a8 ac.cells).trans aa)<|au 3 aa<|p (ld1 aa<|(a8 ag).trans aa)<|au 1 aa<|eP aa (dW iW (jc H.rb ln _ 13 ap ac.du aw) aa fun v26 aP ay=> ?_) fun c w' Y σ' C=>by have aH:=of_decide_eq_false Y.2.1; exact ⟨ln,13,I7 an ab,Y.1,by rw [Y.2.2]; exact (Wk.mw A).trans<|fQ.fb J O⟩
 obtain ⟨rfl,ao,rfl⟩:=ay;have ao:=of_decide_eq_true ao;refine aC 1 aa<|kf<|f0 aa ?_;have av:=J.put (F':= {F with least:=n}) O ag rfl rfl rfl rfl C.gl;exact ⟨aa,_,rows,ln,I8 an ab,⟨V,R,av,ac.congr aa (fun _=>rfl),⟨I.len,I.sl,I.row,I.kd,I.al⟩⟩,(Wk.mw A).trans<|fQ.fb J O⟩
theorem Ui (B:Nat) (H:dw) (F:aE) (rows:List Rw) (ln:Nat) (seen:List Tx) (r:List Tx) (aX:Nat) (ar:Option bF) (cr:Nat) (w:ak) (J:St w B H F rows ln seen) (hT:Tg w aX 9 r.length (.slice ar r.length cr) (r.map str)) (br:r.length=2) (bb:∀ x∈r,x.length≤70000):
 fR az 127 (a7 [.pointer (some ⟨H.rb,0,none⟩),.slice ar r.length cr]) w (jV B H seen (kI F seen rows ln r) w) (jU B H (kI F seen rows ln r) w):=by
 obtain ⟨V,R,I,ac,O⟩:=J;have bl:=hT.cW;have aK:¬(H.rb=H.fb):=fun h=>by have h1:=ac.cells; rw [h,I.cells] at h1; cases h1
 have bs:(r.getD 1 []).length≤70000:=bb _<|dR ab;have aL:¬(bk ar=H.fb):=Tg.wa hT (bS ab) I.cells aw;obtain ⟨tf,bt,bu⟩:=ac.tm;obtain ⟨bv,bd,bf⟩:=ac.sm;refine kE func127 aa ntmps127 aa<|bg 3 aa<|e<|sK (L:=lS.map str) gk aa aa aa aa fun ap an bn a2 aZ=> ?_;have aF:bW an.heap (some ⟨ap,0,none⟩) lS:=aB.dT ⟨_,aZ⟩;have G:Wk w an:=a2.md;have ax:=I.wk G;have ae:=ac.wk G;have aG:=(hT.wk G).cW;have bh:=bd.wk G;have bp:lS.length=8:=rfl;refine aQ 5 aa<|lp (fun aq aW A=> ∃ (i:Nat),(i≤8)∧(∀ j,j < i→lS.getD j []∉seen)∧(A=an)∧(Sl aW [(0,.pointer (some ⟨H.rb,0,none⟩)),(1,.slice ar r.length cr),(6,.slice (some ⟨ap,0,none⟩) 8 8),(7,.int .i64 (8:Nat)),(8,.int .i64 (i:Nat))])∧(8 - i=aq)) _ ⟨0,ab,(fun j aI=>by omega),aa,aa,aa⟩ ?_;rintro aq aW A ⟨i,hi,aN,a0,bc,rfl⟩;refine bA bc ?_;subst a0;refine bq 6 aa<|cd aa (fun ba=> ?_) fun ba=> ?_;refine aH 6 aa<|p (a6 cM aa aa ab<|aB.ok (aF)<|bS ab)<|p (ld1 aa<|bW.get (i:=i) aF ab)<|au 8 aa<|p (ld1 aa<|(a8 ae.cells).trans aa)<|au 1 aa<|p (mL r8 oD jk (bh) aa aa (⟨_,aa⟩)<|bf _)<|au 1 aa<|eP aa (dW iW (jc H.rb ln _ 113 A ae.du aw) aa fun v20 bw a3=> ?_) fun c w' C σ' I=>⟨ln,113,vR (k:=lS.getD i []) (dR ab) (by have h:=of_decide_eq_false C.2.1; exact jG.1 fun h2=>h<|by have :=sx.2 h2; omega),C.1,by rw [C.2.2]; exact Wk.mw G⟩
 obtain ⟨rfl,am,rfl⟩:=a3;have am:lS.getD i []∉seen:=sx.1<|by have :=of_decide_eq_true am; omega
 exact aC 7 aa<|tn<|⟨_,ab,i+1,ab,(fun j aI=>by rcases fG j i with h | h <;> first | exact aN j h | (rw [show j=i by omega]; exact am)),aa,aa,aa⟩
 refine aJ 2 aa<|te _<|dz 3 aa ?_;have aO:ordered seen=true :=(CI seen).2 fun k hk=>by obtain ⟨j,aI,rfl⟩:=mM [] hk; exact aN j ab
 have E:(fun w'=>Md (fun k=>k=H.fb) A w') A.drew:=(Md.refl _ _).drew;refine dY (fun w'=>Md (fun k=>k=H.fb) A w') aa wide E<|aT [0,1,2] aa E<|hp 3 aa aj (fun w' J=>ld1 aa<|Md.aV J ((a8 ae.cells).trans aa)<|by first | exact aK | exact aL) E<|aT [5] aa E<|hp 6 aa aj (fun _ _=>a6 cM aa aa ab<|aB.ok (aG.2)<|bS ab) E<|hp 7 aa aj (fun w' J=>ld1 aa<|Md.aV J (bW.get (i:=1) aG.2 ab)<|by first | exact aK | exact aL) E<|he 4 aa aj<|sK (L:=kinds.map str) gk aa aa aa aa fun ao aS bm aA aY=> ?_;have a5:bW aS.heap (some ⟨ao,0,none⟩) kinds:=aB.dT ⟨_,aY⟩;have Y:=iQ aA.md;have aD:(fun w'=>Md (fun k=>k=H.fb) A w') aS:=E.trans' aA.md fun _ _ h=>h.elim;refine ⟨aD,?_⟩;refine he 8 aa aj<|aM (Il kinds (some ⟨ao,0,none⟩) 3 (r.getD 1 []) _ a5 aw) aa ?_;rintro v30 bi ⟨aP,rfl⟩;rw [Ug] at aP;subst aP;have bo:=Uh<|r.getD 1 [];have ag:(fun w'=>Md (fun k=>k=H.fb) A w') bi:=aD;refine ⟨ag,?_⟩;refine hp 9 aa aj (fun _ _=>bC<|j4<|r.getD 1 []) ag<|aT [10,11,12] aa ag<|he 13 aa aj<|dd gM aa aa (v:= .int .i64 (j4 (r.getD 1 []):Nat)) aa ((ax.wk Y).cells) (by show _ < 14; omega) fun aU Z av=> ?_;have ah:=ax.wk Y;have ai:=(ae.wk Y).fb ah Z;have ay:=((Wk.mw G).trans<|Wk.mw Y).trans<|fQ.fb ah Z;have a9:(fun w'=>Md (fun k=>k=H.fb) A w') aU:=ag.trans' Z fun _ _ h=>h;refine ⟨a9,?_⟩;refine hn aj<|dq 6 aa<|p (ld1 aa<|(a8 ai.cells).trans aa)<|au 3 aa<|p (ld1 aa<|(a8 av).trans aa)<|au 1 aa<|eP aa (dW iW (jc H.rb ln _ 114 aU ai.du aw) aa fun v45 bx a4=> ?_) fun c w' C σ' I=>by have bj:=of_decide_eq_false C.2.1; exact ⟨ln,114,IB aO ab,C.1,by rw [C.2.2]; exact ay⟩
 obtain ⟨rfl,aR,rfl⟩:=a4;have aR:=of_decide_eq_true aR;refine aC 1 aa<|kf<|f0 aa ?_;have a1:=ah.put (F':= {F with kind:=j4<|r.getD 1 []}) Z av rfl rfl rfl rfl I.gl;exact ⟨aa,_,rows,ln,yE aO ab,⟨V,R,a1,ai.congr aa (fun _=>rfl),⟨O.len,O.sl,O.row,(by show j4 (r.getD 1 [])=1∨j4 (r.getD 1 [])=2∨j4 (r.getD 1 [])=3; omega),O.al⟩⟩,ay⟩
end Go.Hb
namespace Go.Hb.oK
theorem FM {h:Array Obj} {b:Nat} {f:UInt8→Bool} (A:bO h b (eV f)) (c:UInt8):Hb.aV h b (0 +((c.toNat / 64:Nat):Int).toNat*1)=some (.int .u64<|fw f<|c.toNat / 64):=by
 have C:=js c;rw [A.aV,show 0 +((c.toNat / 64:Nat):Int).toNat*1=c.toNat / 64 from by omega]; exact AW f ab
theorem PB {h:Array Obj} {b:Nat} {f:UInt8→Bool} {c:UInt8} (A:bO h b ((eV f).set (0 +((c.toNat / 64:Nat):Int).toNat*1)<|.int .u64 ((fw f (c.toNat / 64) ||| 2 ^ (c.toNat % 64):Nat):Int))):bO h b (eV (fun x=>f x || decide (x=c))):=by
 rw [show 0 +((c.toNat / 64:Nat):Int).toNat*1=c.toNat / 64 from by omega,Pv] at A; exact A
theorem Px {f g:UInt8→Bool} (h:∀ b,f b=g b):eV f=eV g:=by rw [show f=g from funext h]
theorem TB {l:List UInt8} {i:Nat} (h:i < l.length) (x:UInt8):(decide (x∈l.take i) || decide (x=l.getD i 0))=decide (x∈l.take (i+1)):=by
 rw [fN l i 0 h,← Bool.decide_or];exact decide_eq_decide.2<|by rw [jT,iS]
theorem CK {w:ak} {B e n cp i:Nat} {a:Option bF} {l:List UInt8} (h:w.ownsRow B e 1 (.slice a n cp) n (U8 l)) (hi:i≤n) (hn:0 < n):w.ownsRow B e 1 (.slice a i cp) i (U8<|l.take i):=by
 have A:a≠none:=by
  rintro rfl;rcases h.2 with ⟨_,h5⟩ | ⟨g,cap,cur,h4,_⟩
  · omega
  · simp at h4
 have :=JA h hi A;rw [Nat.mul_one] at this;unfold U8 at*;rwa [Af]
theorem VW {w:ak} {B e n cp:Nat} {a:Option bF} {xs:List ag} (h:w.ownsRow B e 1 (.slice a n cp) n xs) (hn:0 < n):∃ A,a=some ⟨A,0,none⟩:=by
 rcases h.2 with ⟨_,h5⟩ | ⟨g,cap,cur,h4,_⟩
 · omega
 · simp only [Value.slice.injEq] at h4; exact ⟨g,h4.1⟩
theorem YN {w:ak} {B e n cp j:Nat} {a:Option bF} {l:List UInt8} (h:w.ownsRow B e 1 (.slice a n cp) n (U8 l)):aB w.heap (iy a cp j 1) (U8<|l.drop j):=by
 have h2:=(aX h).2.drop (cap:=cp) (k:=j) (size:=1)<|by have h1:=h.1; have h3:=(aX h).1; omega
 rw [Nat.mul_one] at h2;unfold U8 at*;rwa [List.map_drop]
theorem DF {w:ak} {B e n:Nat} {v:ag} {l:List UInt8} (h:w.ownsRow B e 1 v n (U8 l)):l.length=n:=by have :=h.1; rw [xG] at this; omega
theorem JM (b:Nat) (c:UInt8) (f:UInt8→Bool) (w:ak) (C:bO w.heap b (eV f)):
 ba az 220 (a7 [bj b,.int .u8 c.toNat]) w (fun v w'=>v= .tuple #[]∧bO w'.heap b (eV (fun x=>f x || decide (x=c)))∧Md (fun q=>q=b) w w'):=by
 have J:=js c;refine enter func220 aa ntmps220 aa<|l9 12 fun A=>bU [0,1] aa A<|cT 2 aa (shr aa aa aw<|Kq c) A<|bU [3] aa A<|cT 4 aa (kF sJ aa aa ab) A<|ma 5 aa A (FM C c)<|bU [6] aa A<|cT 7 aa (fT aa aa<|E6 c) A<|cT 8 aa (shl aa aa ab<|Xr ab) A<|cT 9 aa (Ff aa aa<|VK (uJ _ _)<|Nat.pow_lt_pow_right aw ab) A<|bU [10] aa A<|cT 11 aa (kF sJ aa aa ab) A<|dK 12 aa aj aj<|st Qq aa aa (aa) (A.B C) (by rw [xV]; omega) fun O I G=> ?_;have E:=PB G;refine eQ aj<|f0 aa ?_;exact ⟨aa,E,Md.trans (Md.refl _ _).drew I⟩
theorem H0 (f:UInt8→Bool) (c:UInt8) (w:ak):
 ba az 259 (a7 [.agg (eV<|f).toArray,.int .u8 c.toNat]) w (fun v w'=>v= .bool (f c)∧Wk w w'):=by
 have I:=js c;exact enter func259 aa ntmps259 aa<|bg 2 aa<|e<|iL aa fun E J G C A=>au 6 aa<|p (shr aa aa aw<|Kq c)<|p (kF sJ aa aa ab)<|p (ld1 aa<|FM A c)<|au 1 aa<|p (fT aa aa<|E6 c)<|p (shr aa aa ab<|Xz _ ab)<|p (fT aa aa<|NX<|Nat.lt_of_le_of_lt (Nat.div_le_self _ _)<|uJ _ _)<|aC 5 aa<|aR aa<|⟨congrArg bR (Zr f c),C.md⟩
theorem CJ (f:UInt8→Bool) (w:ak):
 ba az 219 (a7 [.agg (eV<|f).toArray]) w (fun v w'=>v= .agg (eV fun x=> !f x).toArray∧Wk w w'):=by
 exact enter func219 aa ntmps219 aa<|bg 2 aa<|e<|iL aa fun O ae Y E C=>e<|al th fun V ag Z A G=>au 4 aa<|p (kF sJ aa aa ab)<|p (ld1 aa<|(A.md.B C).aV 0)<|p (xX aa)<|p (kF sJ aa aa ab)<|p (ld1 aa<|(A.md.B C).aV 1)<|p (xX aa)<|p (kF sJ aa aa ab)<|p (ld1 aa<|(A.md.B C).aV 2)<|p (xX aa)<|p (kF sJ aa aa ab)<|p (ld1 aa<|(A.md.B C).aV 3)<|p (xX aa)<|p (Fe (ps:= [(0,.int .u64 (fw (fun x=> !f x) 0:Nat)),(1,.int .u64 (fw (fun x=> !f x) 1:Nat)),(2,.int .u64 (fw (fun x=> !f x) 2:Nat)),(3,.int .u64 (fw (fun x=> !f x) 3:Nat))]) (L:= [.int .u64 (fw (fun x=> !f x) 0:Nat),.int .u64 (fw (fun x=> !f x) 1:Nat),.int .u64 (fw (fun x=> !f x) 2:Nat),.int .u64 (fw (fun x=> !f x) 3:Nat)]) Fb aa<|aa)<|e<|c8 qC aa (vs:=eV fun x=> !f x) aa aa aa G aw fun ah J I=>aC 3 aa<|vJ aa (dU aa la aa fun j ac=>by rw [im]; exact I.aV j)<|⟨aa,Md.trans' (Md.trans E.md A.md) J fun k hk h=>by have :=E.md.size; omega⟩
theorem H5 (f:UInt8→Bool) (c:UInt8) (ci:Int) (w:ak) (A:(c.toNat:Int)=ci):ba az 259 (a7 [.agg (eV<|f).toArray,.int .u8 ci]) w (fun v w'=>v= .bool (f c)∧Wk w w'):=by
 subst A; exact H0 f c w
theorem Fq (f:UInt8→Bool) (w:ak):
 ba az 281 (a7 [.agg (eV<|f).toArray]) w (fun v w'=>bo w' w.heap.size 5 1 (v) (bytesOf f).length (U8<|bytesOf f)∧Wk w w'):=by
 refine enter func281 aa ntmps281 aa<|bg 2 aa<|e<|iL aa fun ai Y aE O aj=>aQ 15 aa<|lp (fun Z ah J=> ∃ (i:Nat) (A:ag),(i≤256)∧(bo J Y.heap.size 5 1 (A) (mG f i).length<|U8<|mG f i)∧(Wk Y J)∧(Sl ah [(1,bj ai),(3,A),(5,ay i)])∧(256 - i=Z)) _ ⟨0,.slice none 0 0,ab,(dE _ _ _ _),(Md.refl _ _),aa,aa⟩ ?_;rintro Z ah J ⟨i,A,hi,I,E,ae,rfl⟩;refine bA ae ?_;have aD:Wk w J:=Md.trans O.md E;have aG:=rA f i;have ae:=E.size;refine bq 6 aa<|cd aa (fun ao=> ?_) fun ao=> ?_;refine aH 12 aa<|p (cQ la aa (aa) fun j aK=>by rw [im]; exact (E.B aj).aV j)<|au 1 aa<|p (l6 u5 r9 aa<|uM ab)<|e<|aM (H5 f (UInt8.ofNat i) _ _<|zy i ab) aa ?_;rintro v11 aN ⟨rfl,C⟩;refine aQ 2 aa<|cb aa (fun V=> ?_) fun V=> ?_;refine aH 1 aa<|ep (A)<|au 1 aa<|p (l6 u5 r9 aa<|uM ab)<|e<|gv iP aa aa fun aA aO aF G al=>e<|ap iP (aU (aU I C) G.md) aa (by have :=C.size; have :=G.md.size; omega) aa (aB.dT al) (aa) (aa) ab ab fun aw ax ac an aL aI=> ?_;rw [← zy i ab] at ac;have av:=rW ac;have am:Wk Y ax:=Wk.own (Md.trans (Md.trans E C) G.md) (aU (aU I C) G.md) an<|cE _;exact p bm<|aC 7 aa<|tn<|⟨_,ab,i+1,aw,ab,(by rw [tT,if_pos V]; exact av),am,aa,aa⟩
 exact aJ 7 aa<|tn<|⟨_,ab,i+1,A,ab,(by rw [tT,if_neg (by rw [V]; exact dM),ez]; exact aU I C),(Md.trans E C),aa,aa⟩
 refine aJ 2 aa<|bK<|dq 4 aa<|ep (A)<|p (nT (A) aa)<|aC 3 aa<|aR aa ?_;have aq:i=256:=ab;subst aq;exact ⟨eR I O.md.size,Md.trans O.md E⟩
theorem PQ (s:List UInt8) (w:ak) (hs:s.length≤1048576):
 ba az 258 (a7 [str s]) w (fun v w'=>v= .agg (eV fun x=>decide (x∈s)).toArray∧Wk w w'):=by
 refine enter func258 aa ntmps258 aa<|bg 2 aa<|e<|al th fun E aG aB Z I=>au 4 aa<|e<|al th fun A aA aE ac ah=> ?_;have ai:bO aA.heap A (eV fun x=>decide (x∈s.take 0)):=by rw [show (fun x=>decide (x∈s.take 0))=(fun _:UInt8=>false) from funext fun x=>by simp,AX]; exact ah
 refine aQ 11 aa ?_;have aD:=I.lt;refine lp (fun G ae C=> ∃ (i:Nat),(i≤s.length)∧(bO C.heap A<|eV fun x=>decide (x∈s.take i))∧(bO C.heap E [.int .u64 0,.int .u64 0,.int .u64 0,.int .u64 0])∧(Wk w C)∧(Sl ae [(0,str s),(2,bj E),(3,bj A),(6,ay (s.length)),(7,ay i)])∧(s.length - i=G)) _ ⟨0,ab,ai,(ac.md.B I),(Md.trans Z.md ac.md),aa,aa⟩ ?_;rintro G ae C ⟨i,hi,J,O,V,aq,rfl⟩;refine bA aq<|bq 6 aa<|cd aa (fun ao=> ?_) fun ao=> ?_;refine aH 13 aa<|p (e5 u9 aa aa ab)<|e<|aM (JM A (s.getD i 0) _ _ J) aa ?_;rintro aF ax ⟨rfl,ag,Y⟩;have am:Wk w ax:=Md.trans' V Y fun k hk h=>by have :=Z.md.size; omega
 exact aC 7 aa<|tn<|⟨_,ab,i+1,ab,(by rw [Px (fun x=>(TB (show i < s.length by omega) x).symm)]; exact ag),(Y.B O fun h=>by omega),am,aa,aa⟩
 refine aJ 2 aa<|bK<|dq 4 aa<|p (cQ la aa (aa) fun j ap=>by rw [im]; exact (J).aV j)<|e<|c8 qC aa (vs:=eV fun x=>decide (x∈s.take i)) aa aa aa O aw fun aI an aj=>aC 3 aa<|vJ aa (dU aa la aa fun j ap=>by rw [im]; exact aj.aV j) ?_;have av:s.take i=s:=eY ab;rw [av];exact ⟨aa,Md.trans' V an fun k hk h=>by omega⟩
theorem TE (s:List UInt8) (c:UInt8) (w:ak):
 ba az 257 (a7 [str s,.int .u8 c.toNat]) w (fun v w'=>v= .int .i64 (fF c s)∧Wk w w'):=by
 exact enter func257 aa ntmps257 aa<|bg 9 aa<|e<|aM (Ik s c _) aa fun C E A=>p bm<|aC 3 aa<|aR aa<|A
theorem Qe (s pr:List UInt8) (w:ak) (hs:s.length≤1099511627776) (G:pr.length≤1099511627776):
 ba az 163 (a7 [str s,str pr]) w (fun v w'=>v= .tuple #[str (gn s pr),.bool (decide (s.take pr.length=pr))]∧Wk w w'):=by
 refine enter func163 aa ntmps163 aa<|bg 11 aa<|e<|aM (BT s pr _ hs G) aa ?_;rintro J O ⟨rfl,E⟩;refine aQ 3 aa<|cb aa (fun C=> ?_) fun C=> ?_;have A:¬s.take pr.length=pr:=by simpa using C
 exact aJ 9 aa<|f2 aa aa aa<|⟨by unfold gn; rw [if_neg A,decide_eq_false A]; rfl,E⟩
 have A:s.take pr.length=pr:=by simpa using C
 have I:=CS A;exact aH 7 aa<|p (mS u9 aa aa ab)<|aC 5 aa<|f2 aa aa aa<|⟨by unfold gn; rw [if_pos A,decide_eq_true A]; rfl,E⟩
theorem F3 (s pr:List UInt8) (w:ak) (hs:s.length≤1099511627776) (C:pr.length≤1099511627776):
 ba az 103 (a7 [str s,str pr]) w (fun v w'=>v= .tuple #[str (gn s pr),.bool (decide (s.take pr.length=pr))]∧Wk w w'):=by
 refine enter func103 aa ntmps103 aa<|bg 10 aa<|e<|aM (Qe s pr _ hs C) aa ?_;rintro E G ⟨rfl,A⟩;exact aC 7 aa<|f2 aa aa aa<|⟨aa,A⟩
theorem YA (s pr:List UInt8):(gn s pr).length≤s.length:=by unfold gn; split <;> simp
def jW (s:List UInt8) (k:Nat):List UInt8:=(s.drop k).take<|(s.drop k).idxOf 93
theorem Oe (s:List UInt8) (k:Nat):(jW s k).length≤s.length:=by unfold jW; rw [dJ,fP]; omega
theorem Od (s:List UInt8) (k:Nat):(s.take<|k+(s.drop k).idxOf 93).drop k=jW s k:=by
 rw [zZ,Nat.add_sub_cancel_left]; rfl
def ry (s:List UInt8) (k:Nat):UInt8→Bool:=fun x=>if (jW s k).take 1= [94] then !decide (x∈gn (jW s k) [94]) else decide (x∈gn (jW s k) [94])
theorem Oh {s:List UInt8} {k:Nat} (h:(jW s k).take [(94:UInt8)].length= [94]):ry s k=fun x=> !decide (x∈gn (jW s k) [94]):=by
 funext x; exact if_pos h
theorem Oi {s:List UInt8} {k:Nat} (h:¬(jW s k).take [(94:UInt8)].length= [94]):ry s k=fun x=>decide (x∈gn (jW s k) [94]):=by
 funext x; exact if_neg h
theorem Of (s:List UInt8) (k:Nat) (w:ak) (hs:s.length≤1048576) (hk:k≤s.length):
 ba az 218 (a7 [str s,ay k]) w (fun v w'=>(∃ f,v= .tuple #[.agg (eV f).toArray,.int .i64 (if fF 93 (s.drop k) < 0 then 0 else ((k+(s.drop k).idxOf 93 +1:Nat):Int)),.bool (!decide (fF 93 (s.drop k) < 0) && decide (gn (jW s k) [94]≠[]))]∧(¬fF 93 (s.drop k) < 0→f=ry s k))∧Wk w w'):=by
 refine enter func218 aa ntmps218 aa<|bg 2 aa<|e<|al th fun ag bd aY J I=>au 8 aa<|p (mS u9 aa aa ab)<|e<|aM (TE (s.drop k) 93 _) aa ?_;rintro a4 a6 ⟨rfl,A⟩;have a1:(s.drop k).length=s.length - k:=fP;refine aQ 10 aa<|cd aa (fun C=> ?_) fun C=> ?_;refine aH 2 aa<|p (Fe (ps:= []) (L:= [.int .u64 0,.int .u64 0,.int .u64 0,.int .u64 0]) Fb aa<|aa)<|e<|c8 qC aa (vs:=eV fun _=>false) (by rw [AX]; rfl) aa aa (A.B I) aw fun bb aO aA=>aC 6 aa<|GR aa (dU aa la aa fun j ac=>by rw [im]; exact aA.aV j) et et ?_;refine ⟨⟨fun _=>false,by rw [if_pos C,decide_eq_true C]; rfl,fun h=>absurd C h⟩,Md.trans' (Md.trans J.md A) aO fun k hk h=>by omega⟩;have a2:=sR (c:=93) (l:=s.drop k) C;have a0:(jW s k).length≤s.length:=Oe s k;refine bz 3 aa ?_;have aq:=Od s k;refine aH 5 aa<|p (bC<|k+(s.drop k).idxOf 93)<|p (mR u9 aa aa aa ab)<|e<|aM (F3 ((s.take<|k+(s.drop k).idxOf 93).drop k) [94] _ (by rw [aq]; omega) aw) aa fun v25 a8 ap=> ?_;rw [aq] at ap;obtain ⟨rfl,E⟩:=ap;have a3:=YA (jW s k) [94];refine p mv<|au 9 aa<|e<|aM (PQ (gn (jW s k) [94]) _ ab) aa ?_;rintro a5 a9 ⟨rfl,G⟩;refine e<|al th fun ae aS aX ao ax=> ?_;have aI:Wk w aS:=Md.trans J.md<|Md.trans A<|Md.trans E<|Md.trans G ao.md;have ah:=ao.md.B<|G.B<|E.B<|A.B I;have aZ:=ah.lt;refine e<|c8 qC aa (vs:=eV fun x=>decide (x∈gn (jW s k) [94])) aa aa aa ax aw fun aT am V=> ?_;have aj:Wk w aT:=Md.trans' aI am fun k hk h=>by have :=J.md.size; have :=A.size; have :=E.size; have :=G.size; omega
 have ai:=am.B ah fun h=>by have :=I.lt; have :=A.size; have :=E.size; have :=G.size; omega
 refine aQ 2 aa ?_;refine ei (fun av O=>(bO O.heap ae<|eV<|ry s k)∧(bO O.heap ag [.int .u64 0,.int .u64 0,.int .u64 0,.int .u64 0])∧(Wk w O)∧(Sl av [(0,str s),(1,ay k),(4,bj ag),(7,.int .i64 (fF 93<|s.drop k)),(8,str (gn (jW s k) [94])),(10,bj ae)])) ?_ ?_;refine bq 5 aa<|cb aa (fun Z=> ?_) fun Z=> ?_;refine aH 1 aa<|p (cQ la aa (aa) fun j ac=>by rw [im]; exact (V).aV j)<|e<|aM (CJ (fun x=>decide (x∈gn (jW s k) [94])) _) aa ?_;rintro v32 bc ⟨rfl,Y⟩;refine e<|c8 qC aa (vs:=eV fun x=> !decide (x∈gn (jW s k) [94])) aa aa aa (Y.B V) (cE 4) fun aU an aD=> ?_;have aK:Wk w aU:=Md.trans' (Md.trans aj Y) an fun k hk h=>by have :=J.md.size; have :=A.size; have :=E.size; have :=G.size; omega
 have aB:=an.B (Y.B ai) fun h=>by have :=I.lt; have :=A.size; have :=E.size; have :=G.size; omega
 exact aC 1 aa<|tn<|⟨(by rw [Oh (by simpa using Z)]; exact aD),aB,aK,aa⟩
 exact aJ 1 aa<|tn<|⟨(by rw [Oi (by simpa using Z)]; exact V),ai,aj,aa⟩
 rintro av O ⟨aF,aG,aN,aR⟩;refine bA aR<|aH 2 aa<|p (cQ la aa (aa) fun j ac=>by rw [im]; exact (aF).aV j)<|au 2 aa<|p (bC<|k+(s.drop k).idxOf 93)<|p (bC<|k+(s.drop k).idxOf 93 +1)<|au 2 aa<|e<|c8 qC aa (vs:=eV<|ry s k) aa aa aa aG aw fun aW aP aE=> ?_;have aL:Wk w aW:=Md.trans' aN aP fun k hk h=>by omega
 refine aC 5 aa<|GR aa (dU aa la aa fun j ac=>by rw [im]; exact aE.aV j) et et ?_;refine ⟨⟨ry s k,by rw [if_neg C,decide_eq_false C]; rfl,fun _=>rfl⟩,aL⟩
theorem TC (l:List UInt8) (a:Option bF) (n c:Nat) (x:UInt8) (w:ak) (E:aB w.heap a (U8 l)) (hn:l.length=n) (ae:n≤1048576):
 ba az 282 (a7 [.slice a n c,.int .u8 x.toNat]) w (fun v w'=>v= .int .i64 (fF x l)∧Wk w w'):=by
 refine enter func282 aa ntmps282 aa<|bq 14 aa<|lp (fun C O J=> ∃ (i:Nat),(i≤n)∧(∀ j,j < i→l.getD j 0≠x)∧(J=w)∧(Sl O [(0,.slice a n c),(1,.int .u8 x.toNat),(7,ay n),(8,ay i)])∧(n - i=C)) _ ⟨0,ab,(fun j I=>by omega),aa,aa,aa⟩ ?_;rintro C O J ⟨i,hi,A,V,Z,rfl⟩;refine bA Z ?_;subst V;refine bq 6 aa<|cd aa (fun Y=> ?_) fun Y=> ?_;refine aH 15 aa<|p (a6 mI aa aa ab<|aB.ok (E)<|qT ab)<|p (ld1 aa<|qS (i:=i) E ab)<|aQ 3 aa<|cd aa (fun G=> ?_) fun G=> ?_;have ac:l.getD i 0=x:=lC.1 ab;exact aJ 9 aa<|tr<|bc 2 aa<|aR aa<|⟨by rw [It (show i < l.length by omega) A ac]; rfl,Md.refl _ _⟩
 exact aJ 7 aa<|tn<|⟨_,ab,i+1,ab,(fun j I=>by rcases fG j i with h | h <;> first | exact A j h | (rw [show j=i by omega]; exact fun h2=>G<|by rw [h2])),aa,aa,aa⟩
 exact aJ 2 aa<|bK<|bc 8 aa<|aR aa<|⟨by rw [Iu (fun j I=>A j ab)]; rfl,Md.refl _ _⟩
theorem QG (l:List UInt8) (i j:Nat) (B n cp C:Nat) (w:ak) (hO:bo w B 5 1 (.slice (some ⟨C,0,none⟩) n cp) n (U8 l)) (Y:i < j∧j≤n) (ac:n≤1048576):
 ba az 283 (a7 [.slice (some ⟨C,0,none⟩) n cp,ay i,ay j]) w (fun v w'=>v= .slice (some ⟨C,0,none⟩) (i+(n - j)) cp∧bo w' B 5 1 (.slice (some ⟨C,0,none⟩) (i+(n - j)) cp) (i+(n - j)) (U8<|l.take i++l.drop j)∧Md (fun q=>q=C) w w'):=by
 have Z:=DF hO;have V:=(aX hO).1;refine enter func283 aa ntmps283 aa<|bg 12 aa<|p (XD mI aa aa aa aa ab)<|aQ 10 aa<|cd aa (fun h=>absurd h ab) fun O=>bz 10 aa ?_;have A:(fun w'=>Wk w w') w.drew:=(Md.refl _ _).drew;exact gO (fun w'=>Wk w w') 6 aa wide A<|bU [0,1] aa A<|cT 2 aa (uy mI aa aa ab) A<|bU [3,4] aa A<|cT 5 aa (wT mI aa aa ab) A<|dK 6 aa aj aj<|N0 (B:=B) (xs:=U8<|l.take i) (news:=U8<|l.drop j) (n:=i) (m:=n - j) iP (CK (aU hO A) ab ab) aa aa (show aB _ (iy (some ⟨C,0,none⟩) cp j 1) (U8<|l.drop j) from YN<|aU hO A) (by unfold iy; split <;> simp) (by rw [xG,fP]; omega) (Nz _) ab fun ae E I=>kK 7 aa (fun _=>bm) (fun h=>dM<|(show true =_ from by kernel_rfl).trans h)<|eQ aj<|dq 7 aa<|p (XE mI aa aa aa ab)<|e<|Po YJ ZO aa I (by simp) aa ab fun ag G J=>aC 9 aa<|aR aa<|⟨aa,by rw [xF]; exact J,Md.trans (A.mono fun _ _ h=>h.elim)<|Md.trans E<|G.mono fun q _ h=>by simpa [Value.ownBlock] using h.symm⟩
end Go.Hb.oK
section
namespace Go.Hb
open Go.Hb.oK
theorem Fg {s:List UInt8} {k:Nat} (h:(s.drop k).idxOf 93 < (s.drop k).length):gn (jW s k) [94]≠[]↔(s.drop k).idxOf 93≠0∧¬((s.drop k).idxOf 93=1∧(s.drop k).getD 0 0=94):=by
 unfold jW gn;generalize C:s.drop k=l at*;cases l with
 | nil=>simp at h
 | cons b r=>
   generalize hm:(b::r).idxOf 93=m at*;cases m with
   | zero=>simp
   | succ m=>
     simp only [cC] at h;simp only [qm,fg,pH,lW,zY,z1];by_cases A:b=94
     · subst A;rw [if_pos rfl];cases m with
       | zero=>simp
       | succ m=>
         cases r with
         | nil=>simp at h
         | cons x r=>simp
     · rw [if_neg (by simpa using A)];simp [A]
theorem Oj {s:List UInt8} {k:Nat} (h:(s.drop k).idxOf 93 < (s.drop k).length) (G:(s.drop k).idxOf 93≠0):ry s k=db (91::(s.drop k).take ((s.drop k).idxOf 93 +1)):=by
 funext x;unfold ry jW gn db;generalize J:s.drop k=l at*;cases l with
 | nil=>simp at h
 | cons b r=>
   generalize hm:(b::r).idxOf 93=m at*;cases m with
   | zero=>exact absurd rfl G
   | succ m=>
     simp only [cC] at h;have I:(91::tD (m+1 +1) (b::r)).length=m+3:=by simp only [cC,dJ]; omega
     rw [I,if_neg (show ¬m+3=1 by omega)];have C:(91::tD (m+1 +1) (b::r)).getD 1 0=b:=rfl;have E:tD (m+3 - 1) (91::tD (m+1 +1) (b::r))=91::tD (m+1) (b::r):=by
      show tD (m+2) (91::tD (m+2) (b::r))=_;rw [qm,List.take_take,Nat.min_eq_left ab]
     rw [C,E];simp only [qm,pH,zY,z1,fg];by_cases A:b=94
     · subst A; simp
     · simp [A]
theorem QY:(fun x:UInt8=> !(fun _:UInt8=>false) x)=db [46]:=by funext x; simp [db]
theorem VF {c:UInt8} (h:c≠46):(fun x:UInt8=>(fun _:UInt8=>false) x || decide (x=c))=db [c]:=by
 funext x;simp only [db,fg,if_true,Bool.false_or,lW];exact decide_eq_decide.2 ⟨fun h1=> .inr h1.symm,fun h1=>(h1.resolve_left h).symm⟩
theorem FK {ps:List (List UInt8)} (h:0 < ps.length):lK ps≠[]:=Bv (f:=fun t=>eV<|db t) (m:=4) (fun _=>rfl) aw h
theorem FJ {h:Array Obj} {a:Option bF} {ps:List (List UInt8)} {i:Nat} (A:aB h a (lK ps)) (hi:i < ps.length):∀ j,j < 4→Hb.aV h (bk a) (fo a+i*4 +j)=(eV<|db<|ps.getD i [])[j]? :=by
 have :=fI (f:=fun t=>eV<|db t) (m:=4) (fun _=>rfl) A<|bY hi;rw [cH,bY hi]; exact this
theorem yB {b:UInt8} (h:(b.toNat:Int)=91):b=91:=lC.1 (by have :(91:UInt8).toNat=91:=rfl; omega)
theorem wi {b:UInt8} (h:¬(b.toNat:Int)=91):b≠91:=by rintro rfl; exact h rfl
theorem B4 {b:UInt8} (h:(b.toNat:Int)=46):b=46:=lC.1 (by have :(46:UInt8).toNat=46:=rfl; omega)
theorem CA {b:UInt8} (h:¬(b.toNat:Int)=46):b≠46:=by rintro rfl; exact h rfl
theorem Jz {w:ak} {B:Nat} {v:ag} {l:List (List UInt8)} {x:List UInt8} (h:w.ownsRow B 321 4 v (l.length+1) (lK l++eV (db x))):w.ownsRow B 321 4 v (l++ [x]).length (lK<|l++ [x]):=by
 rw [bG,Pu]; simpa [lK] using h
theorem QH (l:List UInt8) (i j:Nat) (C E:Int) (B n cp A:Nat) (w:ak) (hO:bo w B 5 1 (.slice (some ⟨A,0,none⟩) n cp) n (U8 l)) (G:i < j∧j≤n) (J:n≤1048576) (hi:C=(i:Nat)) (I:E=(j:Nat)):
 ba az 283 (a7 [.slice (some ⟨A,0,none⟩) n cp,.int .i64 C,.int .i64 E]) w (fun v w'=>v= .slice (some ⟨A,0,none⟩) (i+(n - j)) cp∧bo w' B 5 1 (.slice (some ⟨A,0,none⟩) (i+(n - j)) cp) (i+(n - j)) (U8<|l.take i++l.drop j)∧Md (fun q=>q=A) w w'):=by
 subst hi I; exact QG l i j B n cp A w hO G J
theorem Xv (f:UInt8→Bool) (w:ak):
 ba az 266 (a7 [.agg (eV<|f).toArray]) w (fun v w'=>v=str (j6 f)∧Wk w w'):=by
 have bx:(bytesOf f).length≤256:=rA f 256;have bB:(bytesOf fun x=> !f x).length≤256:=rA _ 256;refine enter func266 aa ntmps266 aa<|bg 2 aa<|e<|iL aa fun a0 aA am O aE=>au 5 aa<|p (cQ la aa (aa) fun j aN=>by rw [im]; exact (aE).aV j)<|e<|aM (Fq f _) aa ?_;rintro v6 aT ⟨Z,al⟩;obtain ⟨ag,G,rfl⟩:=cz Z;have C:=(aX Z).2;have J:Wk w aT:=Md.trans O.md al;have aF:=al.B aE;refine p bm<|aQ 12 aa<|cd aa (fun bf=> ?_) fun bf=> ?_;exact aJ 8 aa<|aR aa<|⟨by unfold j6; rw [if_pos (show (bytesOf f).length=256 by omega)]; rfl,J⟩
 refine ei (fun aY aW=> ∃ (ah:Bool),(ah=decide ((bytesOf f).length=1∧(bytesOf f).getD 0 0≠46∧(bytesOf f).getD 0 0≠91))∧(aW=aT)∧(Sl aY [(1,bj a0),(3,.slice ag (bytesOf f).length G),(11,.bool ah)])) ?_ ?_;refine bg 5 aa<|gs (t:=15) aa (fun bh=> ?_) fun bh=> ?_;refine au 1 aa<|bI aa (a6 mI aa aa ab<|aB.ok (C)<|qT ab)<|bI aa (ld1 aa<|qS (i:=0) C ab)<|au 3 aa<|gs (t:=21) aa (fun aL=> ?_) fun aL=> ?_;exact au 1 aa<|bI aa (a6 mI aa aa ab<|aB.ok (C)<|qT ab)<|bI aa (ld1 aa<|qS (i:=0) C ab)<|aC 4 aa<|tn<|⟨_,(by first | exact decide_eq_decide.2 ⟨fun h=>⟨ab,by first | exact CA ab | exact fun h=>by omega,by first | exact wi ab | exact fun h=>by omega⟩,fun h=>by have h1:=h.2.2; exact fun h2=>h1<|yB h2⟩ | rfl),aa,aa⟩
 exact au 5 aa<|p bm<|aC 1 aa<|tn<|⟨false,((decide_eq_false fun h=>h.2.1<|B4<|Decidable.of_not_not aL).symm),aa,aa⟩
 exact au 5 aa<|p mv<|au 5 aa<|p bm<|aC 1 aa<|tn<|⟨false,((decide_eq_false fun h=>by omega).symm),aa,aa⟩
 rintro aY aW ⟨ah,am,bb,bn⟩;refine bA bn ?_;subst bb;refine cb aa (fun an=> ?_) fun an=> ?_;have ac:(bytesOf f).length=1∧(bytesOf f).getD 0 0≠46∧(bytesOf f).getD 0 0≠91:=of_decide_eq_true<|am ▸ an;exact aH 3 aa<|p (n9 nV aa (C)<|by simp)<|aC 6 aa<|aR aa<|⟨by unfold j6; rw [if_neg (show ¬(bytesOf f).length=256 by omega),if_pos ac]; rfl,J⟩
 have ac:¬((bytesOf f).length=1∧(bytesOf f).getD 0 0≠46∧(bytesOf f).getD 0 0≠91):=of_decide_eq_false<|am ▸ an;refine aH 2 aa<|p (cQ la aa (aa) fun j aN=>by rw [im]; exact (aF).aV j)<|e<|aM (H5 f 93 _ _ rfl) aa ?_;rintro v31 bJ ⟨rfl,A⟩;refine aQ 3 aa<|cb aa (fun ao=> ?_) fun ao=> ?_;refine aH 2 aa<|p (cQ la aa (aa) fun j aN=>by rw [im]; exact (A.B aF).aV j)<|e<|aM (CJ f _) aa ?_;rintro v33 bK ⟨rfl,a3⟩;refine e<|aM (Fq (fun x=> !f x) _) aa ?_;rintro bE bL ⟨aP,a4⟩;obtain ⟨bt,bv,rfl⟩:=cz aP;exact p (n9 nV aa ((aX aP).2)<|aa)<|p (cc aa aa<|by simp only [cC,gr]; omega)<|p (cc aa aa<|by simp only [cC,gr,bG]; omega)<|aC 6 aa<|aR aa<|⟨by unfold j6; rw [if_neg (show ¬(bytesOf f).length=256 by omega),if_neg ac,if_pos ao]; rfl,Md.trans J<|Md.trans A<|Md.trans a3 a4⟩
 refine bz 3 aa ?_;refine ei (fun aZ aD=> ∃ (ae:Option bF) (E ai:Nat),(((bytesOf f).filter (fun b=>decide (b≠94))++(if 94∈(bytesOf f) then [94] else [])).length=E)∧(bo aD aA.heap.size 5 1 (.slice ae E ai) E<|U8<|(bytesOf f).filter (fun b=>decide (b≠94))++(if 94∈(bytesOf f) then [94] else []))∧(Wk w aD)∧(E≤300)∧(Sl aZ [(3,.slice ae E ai)])) ?_ ?_;refine bg 3 aa<|e<|aM (TC (bytesOf f) ag _ G 94 _ (C.wk A) aa ab) aa ?_;rintro v39 bq ⟨rfl,I⟩;have aG:Wk w bq:=Md.trans J<|Md.trans A I;refine aQ 9 aa<|cd aa (fun bd=> ?_) fun bd=> ?_;have aq:=sR (c:=94) (l:=bytesOf f) ab;have av:=aU (aU Z A) I;obtain ⟨aj,rfl⟩:=VW av ab;refine aH 5 aa<|e<|aM (QH (bytesOf f) ((bytesOf f).idxOf 94) ((bytesOf f).idxOf 94 +1) _ _ aA.heap.size _ G aj _ av ab ab ab ab) aa ?_;rintro v46 br ⟨rfl,ax,aK⟩;have a5:Wk w br:=Md.trans' aG aK fun k hk h=>by have :=dH av (show (bQ (some ⟨aj,0,none⟩) _ G).ownBlock=some aj from rfl); have :=O.md.size; omega
 have bi:=DF ax;refine e<|gv iP aa aa fun bu bM bw V a1=>e<|ap iP (aU ax V.md) aa (by have :=O.md.size; have :=al.size; have :=A.size; have :=I.size; have :=aK.size; have :=V.md.size; omega) aa (aB.dT a1) (aa) (aa) ab ab fun bH bs ay bc bD bC=> ?_;have a8:=Wk.own (Md.trans a5 V.md) (aU ax V.md) bc O.md.size;rw [Tv (Ot f) aq.2] at bi ay;obtain ⟨a2,c2,rfl⟩:=cz ay;have aS:bo bs aA.heap.size 5 1 (.slice a2 (((bytesOf f).idxOf 94 +((bytesOf f).length - ((bytesOf f).idxOf 94 +1)))+1) c2) (((bytesOf f).idxOf 94 +((bytesOf f).length - ((bytesOf f).idxOf 94 +1)))+1) (U8<|(bytesOf f).filter (fun b=>decide (b≠94))++ [94]):=by rw [xF]; exact ay
 exact p bm<|aC 1 aa<|tn<|⟨a2,_,c2,(by have :=DF aS; rw [if_pos (Ac.1 aq.2)]; exact this),(by rw [if_pos (Ac.1 aq.2)]; exact aS),a8,(ab),aa⟩
 have Y:¬(94:UInt8)∈bytesOf f:=fun h=>by have h1:fF 94 (bytesOf f)=(bytesOf f).idxOf 94:=if_pos (Ac.2 h); omega
 exact aJ 1 aa<|tn<|⟨ag,(bytesOf f).length,G,(by rw [if_neg Y,Jl Y,ez]),(by rw [if_neg Y,Jl Y,ez]; exact aU (aU Z A) I),aG,(ab),aa⟩
 rintro aZ aD ⟨ae,E,ai,aO,bl,a9,bk,bp⟩;refine bA bp ?_;have aI:((bytesOf f).filter (fun b=>decide (b≠94))++(if 94∈(bytesOf f) then [94] else [])).length≤300:=by rw [aO]; exact bk
 exact aH 3 aa<|p (n9 nV aa ((aX bl).2)<|aO)<|p (cc aa aa<|e7 (Al aI _) aw)<|p (cc aa aa<|by rw [bG]; exact e7 (Nat.add_le_add_right (Al aI _) _) aw)<|aC 4 aa<|aR aa<|⟨by unfold j6; rw [if_neg (show ¬(bytesOf f).length=256 by omega),if_neg ac,if_neg (show ¬f 93=true from by rw [ao]; exact dM)]; rfl,a9⟩
theorem FZ (s:List UInt8) (w:ak) (hs:s.length≤1048576):
 ba az 164 (a7 [str s]) w (fun v w'=>(∃ a,v= .tuple #[.agg [a].toArray,ay ((dj s).2)]∧bo w' w.heap.size 321 4 (a) ((dj s).1).length (lK<|(dj s).1))∧Wk w w'):=by
 refine enter func164 aa ntmps164 aa<|bg 2 aa<|e<|gK zJ fun aE dl c0 ai aq=>au 9 aa<|gs (t:=10) aa (fun Y=> ?_) fun Y=> ?_;refine au 9 aa<|p (cV (ps:= []) (L:= [.slice none 0 0]) wW aa<|aa)<|e<|gA rC aa (vs:= [.slice none 0 0]) aa aa aa aq aw fun I C E=> ?_;have G:Wk w I:=Md.trans' ai.md C fun k hk h=>by omega
 exact aC 5 aa<|eF aa (dU (cs:= [.slice none 0 0]) aa nS aa fun j J=>by cases j with | zero=>exact (a8 E).trans aa | succ j=>omega) et<|⟨⟨.slice none 0 0,by unfold dj; rw [if_pos (.inl Y)]; rfl,by unfold dj; rw [if_pos (.inl Y)]; exact dE _ _ _ _⟩,G⟩
 refine aQ 6 aa<|cd aa (fun cv=> ?_) fun cv=> ?_;refine aH 2 aa<|p (cV (ps:= []) (L:= [.slice none 0 0]) wW aa<|aa)<|e<|gA rC aa (vs:= [.slice none 0 0]) aa aa aa aq aw fun I C E=> ?_;have G:Wk w I:=Md.trans' ai.md C fun k hk h=>by omega
 exact aC 5 aa<|eF aa (dU (cs:= [.slice none 0 0]) aa nS aa fun j J=>by cases j with | zero=>exact (a8 E).trans aa | succ j=>omega) et<|⟨⟨.slice none 0 0,by unfold dj; rw [if_pos (.inr ab)]; rfl,by unfold dj; rw [if_pos (.inr ab)]; exact dE _ _ _ _⟩,G⟩
 refine bz 9 aa<|cd aa (fun aj=> ?_) fun aj=> ?_;refine aH 2 aa<|p (cV (ps:= []) (L:= [.slice none 0 0]) wW aa<|aa)<|e<|gA rC aa (vs:= [.slice none 0 0]) aa aa aa aq aw fun I C E=> ?_;have G:Wk w I:=Md.trans' ai.md C fun k hk h=>by omega
 refine aC 5 aa<|eF aa (dU (cs:= [.slice none 0 0]) aa nS aa fun j J=>by cases j with | zero=>exact (a8 E).trans aa | succ j=>omega) et ?_;have bL:¬(s= []∨512 < s.length):=fun h=>h.elim Y fun h=>by omega
 exact ⟨⟨.slice none 0 0,by unfold dj; rw [if_neg bL,if_pos aj]; rfl,by unfold dj; rw [if_neg bL,if_pos aj]; exact dE _ _ _ _⟩,G⟩;refine aH 4 aa<|e<|gK zJ fun an cX c2 bH b4=> ?_;have cp:Wk w cX:=Md.trans ai.md bH.md;have c1:=(dD.1 aq).1;have b3:=bH.md.bl aq;have hs:=hs;refine aQ 9 aa<|lp (fun bm bk ac=> ∃ (i:Nat) (A:List (List UInt8)) (aD:ag),(i≤s.length∧A.length≤i)∧(kN s i A)∧(ac.heap[an]? =some (.cells [aD].toArray 275 (0,0)))∧(ac.heap[aE]? =some (.cells [.slice none 0 0].toArray 275 (0,0)))∧(bo ac w.heap.size 321 4 (aD) (A).length<|lK<|A)∧(Wk w ac)∧(bk 5=ay i)∧(Sl bk [(0,str s),(2,bj aE),(4,bj an)])∧(s.length - i=bm)) _ ⟨0,[],.slice none 0 0,(by simp),(kN.start s),b4,b3,(dE _ _ _ _),cp,(by first | rfl | exact iv<|if_neg aA),aa,aa⟩ ?_;rintro bm bk ac ⟨i,A,aD,hi,aT,aG,av,Z,ae,cI,cH,rfl⟩;refine bA cH<|fx 5 cI<|bq 9 aa<|cd aa (fun cw=> ?_) fun cw=> ?_;refine aH 5 aa<|e<|al th fun ao bU bI aP b9=> ?_;have aF:bO bU.heap ao (eV fun _=>false):=by rw [AX]; exact b9
 have a3:Wk w bU:=Md.trans ae aP.md;have a1:=aP.md.bl aG;have a2:=aP.md.bl av;have bh:=aU Z aP.md;have bI:ao=ac.heap.size:=bI;have cZ:=(dD.1 aG).1;have cY:=(dD.1 av).1;have bd:=drop_cons (l:=s) (i:=i) 0 ab;refine aQ 7 aa ?_;refine ei (fun bV am=>(s.getD i 0≠91)∧(bO am.heap ao<|eV<|db [s.getD i 0])∧(am.heap[an]? =some (.cells [aD].toArray 275 (0,0)))∧(am.heap[aE]? =some (.cells [.slice none 0 0].toArray 275 (0,0)))∧(bo am w.heap.size 321 4 (aD) (A).length<|lK<|A)∧(Wk w am)∧(Sl bV [(0,str s),(2,bj aE),(4,bj an),(5,ay i),(6,bj ao)])) ?_ ?_;refine bg 4 aa<|p (e5 u9 aa aa ab)<|aQ 9 aa<|cd aa (fun aR=> ?_) fun aR=> ?_;refine aH 5 aa<|p (bC<|i+1)<|e<|aM (Of s (i+1) _ hs ab) aa ?_;rintro di cW ⟨⟨bY,rfl,cy⟩,hE36⟩;have co:Wk w cW:=Md.trans a3 hE36;have bJ:=yB aR;refine p mv<|au 3 aa<|e<|c8 qC aa (vs:=eV bY) aa aa aa (hE36.B aF) aw fun cP aI bn=> ?_;have bD:Wk w cP:=Md.trans' co aI fun k hk h=>by have :=ae.size; omega
 have dc:=hE36.size;have bp:=aI.bl (hE36.bl a1) fun h=>by omega
 have bw:=aI.bl (hE36.bl a2) fun h=>by omega
 have cB:=da (aU bh hE36) aI fun k hk h=>by have :=dH Z hk; omega
 have c5:(s.drop<|i+1).length=s.length - (i+1):=fP;refine aQ 10 aa<|cb aa (fun V=> ?_) fun V=> ?_;have ax:iX (s.drop i)=none:=by
  rw [bd,bJ];refine xU aa fun h=> ?_;have cK:¬fF 93 (s.drop<|i+1) < 0:=by rw [show fF 93 (s.drop<|i+1)=(s.drop<|i+1).idxOf 93 from if_pos h.1]; omega
  have cL:=(Fg (s:=s) (k:=i+1) h.1).2 h.2;rw [decide_eq_false cK,decide_eq_true cL] at V; cases V
 have aS:=aT.bad ab ax;refine aH 2 aa<|p (cV (ps:= []) (L:= [.slice none 0 0]) wW aa<|aa)<|e<|gA rC aa (vs:= [.slice none 0 0]) aa aa aa bw aw fun I C E=> ?_;have G:Wk w I:=Md.trans' bD C fun k hk h=>by omega
 refine aC 6 aa<|tr<|bc 1 aa<|tr<|bc 2 aa<|eF aa (dU (cs:= [.slice none 0 0]) aa nS aa fun j J=>by cases j with | zero=>exact (a8 E).trans aa | succ j=>omega) et ?_;have O:dj s=([],41):=by unfold dj; rw [if_neg (fun h=>h.elim Y fun h=>by omega),if_neg aj,aS]
 exact ⟨⟨.slice none 0 0,by rw [O]; rfl,by rw [O]; exact dE _ _ _ _⟩,G⟩;have aA:¬fF 93 (s.drop<|i+1) < 0:=fun h=>by rw [decide_eq_true h] at V; cases V
 have cM:gn (jW s<|i+1) [94]≠[]:=fun h=>by rw [h] at V; simp at V
 have aW:=sR aA;have bi:=(Fg (s:=s) (k:=i+1) aW.2).1 cM;obtain rfl :=cy aA;rw [Oj aW.2 bi.1] at bn;have ax:iX (s.drop i)=some (91::(s.drop<|i+1).take ((s.drop<|i+1).idxOf 93 +1),(s.drop<|i+1).drop ((s.drop<|i+1).idxOf 93 +1)):=by rw [bd,bJ]; exact AR rfl aW.2 bi.1 bi.2
 have bf:=aT.step (j:=i+1 +(s.drop<|i+1).idxOf 93 +1) ax<|by rw [List.drop_drop]; rfl
 have c9:(s.drop<|i+1).idxOf 93 < s.length - (i+1):=by have :=aW.2; omega
 refine aH 5 aa<|p (ld1 aa<|(a8 bp).trans aa)<|p (cQ la aa (aa) fun j J=>by rw [im]; exact (bn).aV j)<|e<|lf zj aa aa aa fun bW bS c3 aN b5=> ?_;have b6:bO bS.heap bW (eV<|db (91::(s.drop<|i+1).take ((s.drop<|i+1).idxOf 93 +1))):=b5;have bE:Wk w bS:=Md.trans bD aN.md;have aX:=aU cB aN.md;have br:=aN.md.bl bp;have bx:=aN.md.bl bw;refine e<|ap zj (aX) aa (by have :=bE.size; omega) aa (aB.dT b6) (aa) (FL _) ab ab fun cN dn bM a6 df c6=> ?_;have bN:=Jz bM;have bs:=a6.bl br fun h=>dO aX br aw h;have ch:=a6.bl bx fun h=>dO aX bx aw h;have cq:=Wk.own bE aX a6<|cE _;refine au 1 aa<|e<|dd F9 aa aa (e9 bM) bs (by simp) fun cR a4 bZ=> ?_;have ck:Wk w cR:=Md.trans' cq a4 fun k hk h=>by have :=ai.md.size; omega
 exact aC 4 aa<|bK<|bc 1 aa<|tn<|⟨_,ab,i+1 +(s.drop<|i+1).idxOf 93 +1,A++ [91::(s.drop<|i+1).take ((s.drop<|i+1).idxOf 93 +1)],cN,(by rw [bG,fg]; omega),bf,bZ,(a4.bl ch fun h=>by omega),(da bN a4 fun k hk h=>dO bN bs aw<|h ▸ hk),ck,(by first | rfl | exact iv<|if_neg aA),aa,aa⟩
 refine bz 6 aa<|cd aa (fun bb=> ?_) fun bb=> ?_;refine aH 1 aa<|p (cQ la aa (aa) fun j J=>by rw [im]; exact (aF).aV j)<|e<|aM (CJ (fun _=>false) _) aa ?_;rintro dk dp ⟨rfl,ah⟩;refine e<|c8 qC aa (vs:=eV fun x=> !(fun _:UInt8=>false) x) aa aa aa (ah.B aF) aw fun cS aK b0=> ?_;have de:=ah.size;have cl:Wk w cS:=Md.trans' (Md.trans a3 ah) aK fun k hk h=>by have :=ae.size; omega
 have cc:=aK.bl (ah.bl a1) fun h=>by omega
 have cf:=aK.bl (ah.bl a2) fun h=>by omega
 have cC:=da (aU bh ah) aK fun k hk h=>by have :=dH Z hk; omega
 exact aC 2 aa<|tn<|⟨(wi aR),(by rw [B4 bb,← QY]; exact b0),cc,cf,cC,cl,aa⟩
 refine aH 3 aa<|p (e5 u9 aa aa ab)<|e<|aM (JM ao (s.getD i 0) _ _ aF) aa ?_;rintro dh cU ⟨rfl,b2,aL⟩;have cn:Wk w cU:=Md.trans' a3 aL fun k hk h=>by have :=ae.size; omega
 have ce:=aL.bl a1 fun h=>by omega
 have cg:=aL.bl a2 fun h=>by omega
 have cD:=da bh aL fun k hk h=>by have :=dH Z hk; omega
 exact aC 2 aa<|tn<|⟨(wi aR),(by rw [← VF (CA bb)]; exact b2),ce,cg,cD,cn,aa⟩
 rintro bV am ⟨cA,ca,bv,cj,cG,cu,cJ⟩;refine bA cJ<|aH 3 aa<|p (ld1 aa<|(a8 bv).trans aa)<|p (cQ la aa (aa) fun j J=>by rw [im]; exact (ca).aV j)<|e<|lf zj aa aa aa fun bX bT c4 aO b7=> ?_;have b8:bO bT.heap bX (eV<|db [s.getD i 0]):=b7;have bF:Wk w bT:=Md.trans cu aO.md;have aY:=aU cG aO.md;have bt:=aO.md.bl bv;have bB:=aO.md.bl cj;refine e<|ap zj (aY) aa (by have :=bF.size; omega) aa (aB.dT b8) (aa) (FL _) ab ab fun cO dq bP a9 dg c7=> ?_;have bR:=Jz bP;have bu:=a9.bl bt fun h=>dO aY bt aw h;have ci:=a9.bl bB fun h=>dO aY bB aw h;have ct:=Wk.own bF aY a9<|cE _;have ax:iX (s.drop i)=some ([s.getD i 0],s.drop (i+1)):=by rw [bd]; exact FE cA
 have bf:=aT.step (j:=i+1) ax rfl;refine au 1 aa<|e<|dd F9 aa aa (e9 bP) bu (by simp) fun cT a5 b1=> ?_;have cm:Wk w cT:=Md.trans' ct a5 fun k hk h=>by have :=ai.md.size; omega
 exact au 4 aa<|p (bC<|i+1)<|aC 3 aa<|tn<|⟨_,ab,i+1,A++ [[s.getD i 0]],cO,(by rw [bG,fg]; omega),bf,b1,(a5.bl ci fun h=>by omega),(da bR a5 fun k hk h=>dO bR bu aw<|h ▸ hk),cm,(by first | rfl | exact iv<|if_neg aA),aa,aa⟩
 refine aJ 2 aa<|bK<|dz 4 aa ?_;obtain ⟨aZ,a0,rfl⟩:=cz Z;have aS:=aT.done ab;refine aH 2 aa<|p (ld1 aa<|(a8 aG).trans aa)<|aQ 4 aa<|cd aa (fun cx=> ?_) fun cx=> ?_;refine aH 2 aa<|p (cV (ps:= []) (L:= [.slice none 0 0]) wW aa<|aa)<|e<|gA rC aa (vs:= [.slice none 0 0]) aa aa aa av aw fun I C E=> ?_;have G:Wk w I:=Md.trans' ae C fun k hk h=>by omega
 refine aC 5 aa<|eF aa (dU (cs:= [.slice none 0 0]) aa nS aa fun j J=>by cases j with | zero=>exact (a8 E).trans aa | succ j=>omega) et ?_;have O:dj s=([],42):=by unfold dj; rw [if_neg (fun h=>h.elim Y fun h=>by omega),if_neg aj,aS]; exact if_pos ab
 exact ⟨⟨.slice none 0 0,by rw [O]; rfl,by rw [O]; exact dE _ _ _ _⟩,G⟩;refine aH 4 aa<|p (cQ nS aa (aa) (show ∀ j,j < 1→Hb.aV ac.heap an (0 +j)= [bQ aZ A.length a0][j]? from fun j J=>by cases j with | zero=>exact (a8 aG).trans aa | succ j=>omega))<|e<|gA rC aa (vs:= [.slice aZ A.length a0]) aa aa aa av aw fun I C E=> ?_;have G:Wk w I:=Md.trans' ae C fun k hk h=>by omega
 have cF:=da Z C fun k hk h=>dO Z av aw<|h ▸ hk;refine aC 4 aa<|eF aa (dU (cs:= [.slice aZ A.length a0]) aa nS aa fun j J=>by cases j with | zero=>exact (a8 E).trans aa | succ j=>omega) et ?_;have O:dj s=(A,0):=by unfold dj; rw [if_neg (fun h=>h.elim Y fun h=>by omega),if_neg aj,aS]; exact if_neg ab
 exact ⟨⟨_,by rw [O]; rfl,by rw [O]; exact cF⟩,G⟩
theorem Wj (ps:List (List UInt8)) (a:Option bF) (c:Nat) (w:ak) (V:aB w.heap a (lK ps)) (hn:ps.length≤4096):
 ba az 239 (a7 [.agg [.slice a ps.length c].toArray]) w (fun v w'=>v=str (mQ ps)∧Wk w w'):=by
 refine enter func239 aa ntmps239 aa<|bg 2 aa<|e<|iL aa fun ap Y av C O=>au 7 aa<|p (ld1 aa<|O.aV 0)<|aQ 4 aa<|cd aa (fun E=> ?_) fun E=> ?_;exact aJ 7 aa<|aR aa<|⟨by unfold mQ; rw [if_pos (fY ab)]; rfl,C.md⟩
 refine aH 11 aa<|p (ld1 aa<|O.aV 0)<|aQ 5 aa<|lp (fun J I G=> ∃ (i:Nat),(i≤ps.length)∧(Wk Y G)∧(((ps.take i).flatMap fun t=>j6<|db t).length≤i*300)∧(I 3=str ((ps.take i).flatMap fun t=>j6<|db t))∧(Sl I [(11,.slice a ps.length c),(12,ay (ps.length)),(13,ay i)])∧(ps.length - i=J)) _ ⟨0,ab,(Md.refl _ _),(by simp),(by first | rfl | (rw [fN ps i [] ab,nM,qf]; rfl)),aa,aa⟩ ?_;rintro J I G ⟨i,hi,A,hlen,an,am,rfl⟩;refine bA am<|fx 3 an<|bq 6 aa<|cd aa (fun aj=> ?_) fun aj=> ?_;refine aH 6 aa<|p (a6 GM aa aa ab<|aB.ok (V.wk<|Md.trans C.md A)<|FK ab)<|p (cQ la aa (aa) (show ∀ j,j < 4→Hb.aV G.heap (bk a) (fo a+i*4 +j)=(eV<|db<|ps.getD i [])[j]? from FJ (V.wk<|Md.trans C.md A) ab))<|e<|al th fun aq aG ax ai Z=>e<|c8 qC aa (vs:=eV<|db<|ps.getD i []) aa aa aa Z aw fun ao ah ac=> ?_;have ag:Wk Y ao:=Md.trans' (Md.trans A ai.md) ah fun k hk h=>by have :=A.size; omega
 refine au 4 aa<|p (cQ la aa (aa) fun j aA=>by rw [im]; exact (ac).aV j)<|e<|aM (Xv (db<|ps.getD i []) _) aa ?_;rintro aE aF ⟨rfl,ae⟩;have aD:=De<|db<|ps.getD i [];exact p (cc aa aa ab)<|aC 8 aa<|tn<|⟨_,ab,i+1,ab,(Md.trans ag ae),(by rw [fN ps i [] ab,nM,qf,bG]; omega),(by first | rfl | (rw [fN ps i [] ab,nM,qf]; rfl)),aa,aa⟩
 exact aJ 2 aa<|bK<|bc 9 aa<|aR aa<|⟨by unfold mQ; rw [if_neg (fun h=>by rw [h] at E; exact E aa),show ps.take i=ps from eY ab]; rfl,Md.trans C.md A⟩
end Go.Hb
end
section
namespace Go.Hb.fj
open Go.Hb.oK
theorem yj {kind:Nat} {al:List (List Nat)} {s:Tx} (h:al= []):gx kind al s=lj kind s:=if_pos h
theorem Hm {kind:Nat} {al:List (List Nat)} {s:Tx} {e:Nat} (h:al≠[]) (h1:e8 s al.length= .error e):gx kind al s= .error 13:=by unfold gx; rw [if_neg h,h1]
theorem Hq {kind:Nat} {al:List (List Nat)} {s:Tx} (h:al≠[]) (h1:e8 s al.length= .ok 0):gx kind al s= .error 13:=by unfold gx; rw [if_neg h,h1]; rfl
theorem Hp {kind n:Nat} {al:List (List Nat)} {s:Tx} (h:al≠[]) (h1:e8 s al.length= .ok n) (A:n≠0):gx kind al s= .ok (al.getD (n - 1) []):=by unfold gx; rw [if_neg h,h1]; exact if_neg A
theorem yq {kind:Nat} {s:Tx} (h:(ed kind s).2=0):lj kind s= .ok (ed kind s).1:=if_neg fun h2=>h2 h
theorem yp {kind:Nat} {s:Tx} (h:(ed kind s).2≠0):lj kind s= .error (ed kind s).2:=if_pos h
theorem C9 {kind ln:Nat} {al:List (List Nat)} {c:di} {r:List Tx} (h:r.length≠4) (h1:r.length≠5):fV kind al c ln r= .error 111:=by unfold fV; rw [if_pos ⟨h,h1⟩]
theorem nE {kind ln:Nat} {al:List (List Nat)} {c:di} {r:List Tx} (h:r.length=4∨r.length=5):fV kind al c ln r=(match eG true (r.getD 2 []) with
 | .error e=> .error e
 | .ok st=>match j8 (bD<|r.getD 3 []) with
   | .error e=> .error e
   | .ok ad=>match ll kind al c.kind (bD<|r.getD 3 []) with
     | .error e=> .error e
     | .ok nx=>match lg r with
       | .error e=> .error e
       | .ok cd=> .ok ⟨c.kind,c.flag,c.eB,st,ad,cd,nx,ln⟩):=by unfold fV; rw [if_neg ab]; rfl
theorem EJ {r:lZ} (h:r.2.2.2≠0):j8 r= .error r.2.2.2:=if_pos h
theorem EM {r:lZ} (h:r.2.2.2=0) (h1:r.1= [48]):j8 r= .ok []:=by unfold j8; rw [if_neg (fun h2=>h2 h),if_pos h1]
theorem EK {r:lZ} (h:r.2.2.2=0) (h1:r.1≠[48]) (h2:hZ r.1≠0):j8 r= .error (hZ r.1):=by unfold j8; rw [if_neg (fun h2=>h2 h),if_neg h1,if_pos h2]
theorem EL {r:lZ} (h:r.2.2.2=0) (h1:r.1≠[48]) (h2:hZ r.1=0):j8 r= .ok r.1:=by unfold j8; rw [if_neg (fun h2=>h2 h),if_neg h1,if_neg (fun h3=>h3 h2)]
theorem Jf {kind A:Nat} {al:List (List Nat)} {r:lZ} (h:r.2.2.1=false):ll kind al A r= .ok []:=by unfold ll; rw [if_neg (by rw [h]; exact dM)]
theorem Je {kind A:Nat} {al:List (List Nat)} {r:lZ} (h:r.2.2.1=true) (h1:A=1):ll kind al A r= .error 118:=by unfold ll; rw [if_pos h,if_pos h1]
theorem yN {kind A:Nat} {al:List (List Nat)} {r:lZ} (h:r.2.2.1=true) (h1:A≠1):ll kind al A r=gx kind al r.2.1:=by unfold ll; rw [if_pos h,if_neg h1]
theorem FV {r:List Tx} (h:r.length≠5):lg r= .ok [46]:=if_neg h
theorem FR {r:List Tx} (h:r.length=5) (h1:gL (r.getD 4 [])=false):lg r= .error 21:=by unfold lg; rw [if_pos h,if_pos h1]
theorem FT {r:List Tx} (h:r.length=5) (h1:gL (r.getD 4 [])=true) (h2:(dj<|r.getD 4 []).2≠0):lg r= .error (dj<|r.getD 4 []).2:=by unfold lg; rw [if_pos h,if_neg (by rw [h1]; exact dM),if_pos h2]
theorem FU {r:List Tx} (h:r.length=5) (h1:gL (r.getD 4 [])=true) (h2:(dj<|r.getD 4 []).2=0):lg r= .ok (mQ (dj<|r.getD 4 []).1):=by unfold lg; rw [if_pos h,if_neg (by rw [h1]; exact dM),if_neg (fun h3=>h3 h2)]
theorem FY (s:Tx):(dj s).1.length≤16:=by
 unfold dj;split
 · simp
 · split
   · simp
   · split
     · simp
     · split
       · simp
       · rename_i h; exact Nat.le_of_not_lt h
theorem G1 (B fb mc:Nat) (F:aE) (V:fy) (s:Tx) (w:ak) (E:dX w B fb mc F V) (hk:F.kind=1∨F.kind=2∨F.kind=3) (am:∀ l∈F.aliases,l.length≤64∧l.Pairwise (· < ·)) (ax:F.aliases.length≤70000) (hs:s.length≤1048576):
 ba az 140 (a7 [bj fb,str s]) w (fun v w'=>((∃ a l,v= .tuple #[a,.int .i64 0]∧gx F.kind F.aliases s= .ok l∧bo w' w.heap.size 95 1 a l.length (l.map bf))∨(∃ a e,v= .tuple #[a,ay e]∧e≠0∧gx F.kind F.aliases s= .error e))∧Wk w w'):=by
 obtain ⟨ah,ai,ag⟩:=cz E.e6;have Y:=E.e6;rw [ag] at Y;have J:Hb.aV w.heap fb 10=some (.slice ah F.aliases.length ai):=by rw [← ag]; exact (a8 E.cells).trans rfl
 refine enter func140 aa ntmps140 aa<|bg 10 aa<|p (lh xd aa aa)<|aQ 2 aa<|cf (aa)<|aH 9 aa<|p (ld1 aa<|J)<|aQ 4 aa<|cd aa (fun O=> ?_) fun O=> ?_;have C:F.aliases= []:=fY ab;refine aH 6 aa<|p (ld1 aa<|(a8 E.cells).trans aa)<|au 1 aa<|e<|aM (HF F.kind s _ hk hs) aa ?_;rintro v23 aG ⟨⟨a23,rfl,aq⟩,hE23⟩;refine au 2 aa<|p bm<|aC 5 aa<|f2 aa aa aa ?_;refine ⟨?_,hE23⟩;by_cases h:(ed F.kind s).2=0;exact .inl ⟨a23,_,by rw [h]; rfl,by rw [yj C]; exact yq h,aq⟩;exact .inr ⟨a23,_,aa,h,by rw [yj C]; exact yp h⟩;have C:F.aliases≠[]:=fun h=>by rw [h] at O; exact O rfl
 refine aH 9 aa<|p (ld1 aa<|J)<|au 1 aa<|e<|aM (yQ s (F.aliases.length:Nat) _ hs ab) aa ?_;rintro aD aI ⟨rfl,A⟩;refine p mv<|au 12 aa<|gs (t:=39) aa (fun ap=> ?_) fun ap=> ?_;exact aC 14 aa<|f2 aa aa aa<|⟨.inr ⟨.slice none 0 0,13,aa,aw,Hm C (qN ab).1⟩,A⟩
 refine aQ 5 aa<|cd aa (fun ao=> ?_) fun ao=> ?_;refine aJ 8 aa<|f2 aa aa aa ?_;have G:=o8 (by omega :(ee s (F.aliases.length:Nat)).2=0);rw [show (ee s (F.aliases.length:Nat)).1=0 from by omega] at G;exact ⟨.inr ⟨.slice none 0 0,13,aa,aw,Hq C G⟩,A⟩;refine bz 3 aa ?_;have G:=o8 (by omega :(ee s (F.aliases.length:Nat)).2=0);have aA:=rT s (F.aliases.length:Nat) ab;have ac:(ee s (F.aliases.length:Nat)).1 - 1 < F.aliases.length:=ab;obtain ⟨v51,Z,I⟩:=eD.get (E.al.wk A) ac;obtain ⟨a51,av,rfl⟩:=I.slice;have an:=am _<|dR (d:= []) ac;refine aH 5 aa<|p (ld1 aa<|Wk.aV A J)<|au 1 aa<|p (dQ<|(ee s (F.aliases.length:Nat)).1 - 1)<|p (a6 Bg aa aa ab<|aB.ok ((aX<|aU Y A).2) fun h=>by rw [h] at Z; cases Z)<|p (ld1 aa<|aB.gV (aX<|aU Y A).2 Z)<|e<|aM (Js (F.aliases.getD ((ee s (F.aliases.length:Nat)).1 - 1) []) _ _ _ I.cW.2 (fun h=>Tg.uu I (by simp) h) ab) aa ?_;rintro aF aK ⟨ae,aj⟩;rw [VE an.2] at ae;exact p bm<|aC 4 aa<|f2 aa aa aa<|⟨.inl ⟨_,_,aa,Hp C G ab,eR ae A.size⟩,A.trans aj⟩
theorem y8 (B:Nat) (H:dw) (F:aE) (V:fy) (R:iD) (rows:List Rw) (ln:Nat) (seen:List Tx) (c:di) (r:List Tx) (b1:Nat) (ar:Option bF) (cr:Nat) (w:ak) (E:dX w B H.fb H.mc F V) (C:dy w B H F R rows ln seen) (aW:k6 F rows seen) (dh:c.kind=1∨c.kind=2) (hT:Tg w b1 9 r.length (.slice ar r.length cr) (r.map str)) (bc:r.length≤70000∧∀ x∈r,x.length≤70000):
 fR az 201 (a7 [.pointer (some ⟨H.rb,0,none⟩),.agg (oU c).toArray,.slice ar r.length cr]) w (fun v w'=> ∃ q,fV F.kind F.aliases c ln r= .ok q∧q.line=ln∧(∃ vn,v= .agg (eS (q,vn)).toArray∧Tg w' B 95 q.next.length vn (q.next.map bf))∧Wk w w') (fun c' w'=> ∃ e,fV F.kind F.aliases c ln r= .error e∧c'=jM 45 ln (e:Nat)∧Wk w w'):=by
 have dc:=hT.cW;have dq:=(dD.1 C.cells).1;have dk:=C.lo.1;refine kE func201 aa ntmps201 aa<|bg 2 aa<|e<|iL aa fun aU dV de bs cc=>e<|al qZ fun Z aT df aL ce=> ?_;have aD:Wk w aT:=bs.md.trans aL.md;have bK:=Wk.aV aD C.du;have dx:=bs.size;have dA:=aL.size;refine aQ 2 aa ?_;refine ei (fun bX bT=>(r.length=4∨r.length=5)∧(bT=aT)∧(Sl bX [(0,.pointer (some ⟨H.rb,0,none⟩)),(2,.slice ar r.length cr),(4,.pointer (some ⟨aU,0,none⟩)),(6,.pointer (some ⟨Z,0,none⟩))])) ?_ ?_;refine bg 6 aa<|gs (t:=20) aa (fun cJ=> ?_) fun cJ=> ?_;refine au 4 aa<|eP aa (dW iW (jc H.rb ln _ 111 aT bK aw) aa fun v25 cZ a5=> ?_) fun c w' A σ' E=>by first | exact absurd A.2.1 aw | exact ⟨111,C9 ab (by have :=of_decide_eq_false A.2.1; omega),A.1,by rw [A.2.2]; exact aD⟩
 obtain ⟨rfl,bL,rfl⟩:=a5;exact aC 1 aa<|tn<|⟨(.inl ab),aa,aa⟩
 refine au 4 aa<|eP aa (dW iW (jc H.rb ln _ 111 aT bK aw) aa fun v25 cZ a5=> ?_) fun c w' A σ' E=>by first | exact absurd A.2.1 aw | exact ⟨111,C9 ab (by have :=of_decide_eq_false A.2.1; omega),A.1,by rw [A.2.2]; exact aD⟩
 obtain ⟨rfl,bL,rfl⟩:=a5;exact aC 1 aa<|tn<|⟨(.inr<|by have :=of_decide_eq_true bL; omega),aa,aa⟩
 rintro bX bT ⟨hlen,cl,cL⟩;refine bA cL ?_;subst cl;have aR:=aL.md.B cc;refine aH 3 aa<|p (ld1 aa<|(aR.aV 1).trans aa)<|au 1 aa<|p (ld1 aa<|(aR.aV 0).trans aa)<|au 1 aa<|p (ld1 aa<|(aR.aV 2).trans aa)<|p (cV (ps:= [(0,.int .i64 (c.kind:Nat)),(1,bf c.flag),(2,.bool c.eB),(5,str [46])]) (L:= [.int .i64 (c.kind:Nat),bf c.flag,.bool c.eB,.string ⟨⟨[]⟩⟩,.string ⟨⟨[]⟩⟩,str [46],.slice none 0 0]) Dn aa<|aa)<|e<|al qZ fun G d0 dg aN cf=> ?_;have dC:=aN.size;refine e<|c8 oW aa aa aa aa (cf) (by simp) fun bU aG b9=> ?_;have aF:Wk w bU:=(aD.trans aN.md).trans' aG fun k hk h=>by omega
 have cA:=aG.B (aN.md.B aR) fun h=>by omega
 have cC:=aG.B (aN.md.B ce) fun h=>by omega
 have dE:=aG.size;have bv:=(hT.wk aF).cW;have dl:(r.getD 2 []).length≤70000:=bc.2 _<|dR ab;have dn:(r.getD 3 []).length≤70000:=bc.2 _<|dR ab;refine au 6 aa<|p (a6 cM aa aa ab<|aB.ok (bv.2)<|bS ab)<|p (ld1 aa<|bW.get (i:=2) bv.2 ab)<|eP aa (dW Fv (JC H.rb ln (r.getD 2 []) bU (Wk.aV aF C.du) ab) aa fun v37 dT cq=> ?_) fun c w' A σ' E=>by obtain ⟨e,he,h,h2⟩:=A; exact ⟨e,by rw [nE hlen,he],h,aF.trans h2⟩
 obtain ⟨stx,dY,rfl,am⟩:=cq;refine au 1 aa<|e<|st l7 aa aa (aa) (am.B b9) (by simp) fun bV aI ca=> ?_;have bk:bO bV.heap G [.int .i64 (c.kind:Nat),bf c.flag,.bool c.eB,str stx,str [],str [46],.slice none 0 0]:=ca;have bl:Wk w bV:=(aF.trans am).trans' aI fun k hk h=>by omega
 have dv:=am.size;have bC:=aI.B (am.B cA) fun h=>by omega
 have bE:=aI.B (am.B cC) fun h=>by omega
 have bt:=(hT.wk bl).cW;have dt:=aI.size;refine au 5 aa<|p (a6 cM aa aa ab<|aB.ok (bt.2)<|bS ab)<|p (ld1 aa<|bW.get (i:=3) bt.2 ab)<|e<|aM (DS (r.getD 3 []) _ ab) aa ?_;rintro dL c0 ⟨rfl,I⟩;have ac:=bl.trans I;have dr:=td<|r.getD 3 [];refine p mv<|au 14 aa<|eP aa (dW pN (pW H.rb ln ((bD<|r.getD 3 []).2.2.2:Nat) c0<|Wk.aV ac C.du) aa fun v50 c1 ct=> ?_) fun c w' A σ' E=>⟨_,by rw [nE hlen,dY,EJ (show (bD<|r.getD 3 []).2.2.2≠0 by have :=A.2.1; omega)],A.1,by rw [A.2.2]; exact ac⟩
 obtain ⟨rfl,aS,rfl⟩:=ct;have aS:(bD<|r.getD 3 []).2.2.2=0:=ab;refine aQ 2 aa ?_;refine ei (fun bY ai=> ∃ (Y:Tx),(j8 (bD<|r.getD 3 [])= .ok Y)∧(bO ai.heap G [.int .i64 (c.kind:Nat),bf c.flag,.bool c.eB,str stx,str Y,str [46],.slice none 0 0])∧(bO ai.heap aU<|oU c)∧(∃ L,L.length=7∧bO ai.heap Z L)∧(Wk w ai)∧(Sl bY [(0,.pointer (some ⟨H.rb,0,none⟩)),(2,.slice ar r.length cr),(4,.pointer (some ⟨aU,0,none⟩)),(6,.pointer (some ⟨Z,0,none⟩)),(7,.pointer (some ⟨G,0,none⟩)),(9,str (bD<|r.getD 3 []).2.1),(10,.bool (bD<|r.getD 3 []).2.2.1)])) ?_ ?_;refine bq 6 aa<|cd aa (fun aP=> ?_) fun aP=> ?_;refine aH 3 aa<|eP aa (dW Fw (JR H.rb ln (bD<|r.getD 3 []).1 c1 (Wk.aV ac C.du) ab) aa fun v55 dZ cu=> ?_) fun c w' A σ' E=>⟨_,by rw [nE hlen,dY,EK aS aP A.2.1],A.1,ac.trans A.2.2⟩
 obtain ⟨rfl,cS,an⟩:=cu;refine au 1 aa<|e<|st l7 aa aa (aa) (Wk.B (I.trans an) bk) (by simp) fun c5 a4 cg=> ?_;have cm:Wk w c5:=(ac.trans an).trans' a4 fun k hk h=>by omega
 have dz:=(I.trans an).size;exact aC 1 aa<|tn<|⟨(bD<|r.getD 3 []).1,(EL aS aP cS),cg,(a4.B (Wk.B (I.trans an) bC) fun h=>by omega),(⟨_,aa,a4.B (Wk.B (I.trans an) bE) fun h=>by omega⟩),cm,aa⟩
 exact aJ 1 aa<|tn<|⟨[],(EM aS<|jG.1 aP),(I.B bk),(I.B bC),(⟨_,aa,I.B bE⟩),ac,aa⟩
 rintro bY ai ⟨Y,aq,aA,cB,bG,J,cN⟩;refine bA cN ?_
 skip
 refine ei (fun bZ O=> ∃ (nx:List Nat) (vn:ag),(ll F.kind F.aliases c.kind (bD<|r.getD 3 [])= .ok nx)∧(bO O.heap G [.int .i64 (c.kind:Nat),bf c.flag,.bool c.eB,str stx,str Y,str [46],vn])∧(Tg O (G+1) 95 nx.length vn<|nx.map bf)∧(∃ L,L.length=7∧bO O.heap Z L)∧(Wk w O)∧(Sl bZ [(0,.pointer (some ⟨H.rb,0,none⟩)),(2,.slice ar r.length cr),(6,.pointer (some ⟨Z,0,none⟩)),(7,.pointer (some ⟨G,0,none⟩))])) ?_ ?_;refine bq 5 aa<|cb aa (fun av=> ?_) fun av=> ?_
 skip
 refine aH 4 aa<|p (ld1 aa<|(cB.aV 1).trans aa)<|au 1 aa<|eP aa (dW iW (jc H.rb ln _ 118 ai (Wk.aV J C.du) aw) aa fun dM bQ cv=> ?_) fun c' w' A σ' E=>by have db:=of_decide_eq_false A.2.1; exact ⟨118,by rw [nE hlen,dY]; simp only; rw [aq]; simp only; rw [Je av ab],A.1,by rw [A.2.2]; exact J⟩
 obtain ⟨rfl,bM,rfl⟩:=cv;have bM:=of_decide_eq_true bM;refine au 7 aa<|p (ld1 aa<|Wk.aV J<|(a8 C.cells).trans aa)<|au 1 aa<|e<|aM (G1 B H.fb H.mc F V (bD<|r.getD 3 []).2.1 _ (E.wk J) aW.kd aW.al (by have :=aW.len; omega)<|by have :=td (r.getD 3 []); omega) aa ?_;rintro cX bR ⟨cH,ae⟩;obtain ⟨bi,bj,rfl,bI⟩:∃ a,∃ e:Nat,cX= .tuple #[a,.int .i64 (e:Nat)]∧((e=0∧∃ l,gx F.kind F.aliases (bD<|r.getD 3 []).2.1= .ok l∧bo bR bQ.heap.size 95 1 a l.length (l.map bf))∨(e≠0∧gx F.kind F.aliases (bD<|r.getD 3 []).2.1= .error e)):=by
  rcases cH with ⟨a,l,h1,h2,h3⟩ | ⟨a,e,h1,h2,h3⟩;exact ⟨a,0,h1,.inl ⟨aa,l,h2,h3⟩⟩;exact ⟨a,e,h1,.inr ⟨h2,h3⟩⟩
 refine p mv<|au 2 aa<|p bm<|au 7 aa ?_;refine eP aa (dW pN (pW H.rb ln (bj:Nat) bR<|Wk.aV (J.trans ae) C.du) aa fun dN c2 cw=> ?_) (fun c' w' A σ' E=>by
  rcases bI with ⟨h,_⟩ | ⟨h,h1⟩;exact absurd ab A.2.1;exact ⟨bj,by rw [nE hlen,dY]; simp only; rw [aq]; simp only; rw [yN av ab,h1],A.1,by rw [A.2.2]; exact J.trans ae⟩)
 obtain ⟨rfl,ds,rfl⟩:=cw;obtain ⟨nx,ax,a9⟩:∃ l,gx F.kind F.aliases (bD<|r.getD 3 []).2.1= .ok l∧bo c2 bQ.heap.size 95 1 bi l.length (l.map bf):=by
  rcases bI with ⟨_,h⟩ | ⟨h,_⟩;exact h;exact absurd ab h
 refine au 3 aa<|p mv<|au 1 aa<|e<|st tY aa aa (e9 a9) (ae.B aA) (by simp) fun c3 a2 b4=> ?_;have ci:Wk w c3:=(J.trans ae).trans' a2 fun k hk h=>by omega
 have dB:=ae.size;exact aC 1 aa<|tn<|⟨nx,bi,(by rw [yN av ab]; exact ax),b4,((Tg.j5<|da a9 a2 fun k hk h=>by have :=dH a9 hk; have :=aA.lt; omega).mono aA.lt),(by obtain ⟨L,a1,aO⟩:=bG; exact ⟨L,a1,a2.B (ae.B aO) fun h=>by omega⟩),ci,aa⟩
 exact aJ 1 aa<|tn<|⟨[],.slice none 0 0,(Jf<|by simpa using av),aA,(⟨none,0,aa,cE _,.inl aa⟩),bG,J,aa⟩
 rintro bZ O ⟨nx,vn,ax,aY,bB,bH,ap,cO⟩;refine bA cO ?_;refine ei (fun b0 ay=> ∃ (aj:Tx),(lg r= .ok aj)∧(bO ay.heap G [.int .i64 (c.kind:Nat),bf c.flag,.bool c.eB,str stx,str Y,str aj,vn])∧(Tg ay (G+1) 95 nx.length vn<|nx.map bf)∧(∃ L,L.length=7∧bO ay.heap Z L)∧(Wk w ay)∧(Sl b0 [(6,.pointer (some ⟨Z,0,none⟩)),(7,.pointer (some ⟨G,0,none⟩))])) ?_ ?_;refine bq 7 aa<|cd aa (fun cG=> ?_) fun cG=> ?_;have bb:r.length=5:=ab;have dp:(r.getD 4 []).length≤70000:=bc.2 _<|dR ab;have bw:=(hT.wk ap).cW;refine aH 4 aa<|p (a6 cM aa aa ab<|aB.ok (bw.2)<|bS ab)<|p (ld1 aa<|bW.get (i:=4) bw.2 ab)<|eP aa (dW AK (CR H.rb ln (r.getD 4 []) O (Wk.aV ap C.du) ab) aa fun dO d1 cx=> ?_) fun c' w' A σ' E=>⟨21,by rw [nE hlen,dY]; simp only; rw [aq]; simp only; rw [ax]; simp only; rw [FR bb A.2.1],A.1,ap.trans A.2.2⟩
 obtain ⟨rfl,bN,a0⟩:=cx;have bn:=ap.trans a0;have bx:=(hT.wk bn).cW;refine au 5 aa<|p (a6 cM aa aa ab<|aB.ok (bx.2)<|bS ab)<|p (ld1 aa<|bW.get (i:=4) bx.2 ab)<|e<|aM (FZ (r.getD 4 []) _ ab) aa ?_;rintro dP d2 ⟨⟨c7,rfl,ba⟩,hE89⟩;obtain ⟨cT,cU,rfl⟩:=cz ba;have bp:=bn.trans hE89;refine p mv<|au 2 aa<|e<|al zJ fun c9 cY dd aK b5=> ?_;have cj:=bp.trans aK.md;refine e<|c8 rC aa aa aa aa (b5) (by simp) fun bh ah b6=> ?_;have aZ:Wk w bh:=cj.trans' ah fun k hk h=>by have :=bp.size; omega
 have bd:Wk O cY:=(a0.trans hE89).trans aK.md;have dG:=a0.size;have dI:=hE89.size;have dJ:=aK.size;have dK:=ah.size;have cR:Wk O bh:=bd.trans' ah fun k hk h=>by omega
 refine au 7 aa<|eP aa (dW pN (pW H.rb ln ((dj<|r.getD 4 []).2:Nat) bh<|Wk.aV aZ C.du) aa fun dQ d3 cy=> ?_) fun c' w' A σ' E=>⟨_,by rw [nE hlen,dY]; simp only; rw [aq]; simp only; rw [ax]; simp only; rw [FT bb bN (by have :=A.2.1; omega)],A.1,by rw [A.2.2]; exact aZ⟩
 obtain ⟨rfl,bP,rfl⟩:=cy;have bP:(dj<|r.getD 4 []).2=0:=ab;refine au 3 aa<|p (cQ nS aa (aa) fun j bJ=>b6.bu j)<|e<|aM (Wj (dj<|r.getD 4 []).1 cT cU _ (aB.md (aB.wk (aX ba).2 aK.md) ah fun cK h=>by have :=VU ba cK; omega)<|by have :=FY (r.getD 4 []); omega) aa ?_;rintro dS d4 ⟨rfl,ao⟩;have cn:=aZ.trans ao;have dF:=ao.size;refine au 1 aa<|e<|st l7 aa aa (aa) (ao.B<|ah.B (bd.B aY) fun h=>by have :=aY.lt; omega) (by simp) fun c4 a3 b7=> ?_;have ck:Wk w c4:=cn.trans' a3 fun k hk h=>by omega
 exact aC 1 aa<|tn<|⟨mQ (dj<|r.getD 4 []).1,(FU bb bN bP),b7,(Tg.IZ (Tg.wk bB<|cR.trans ao) a3 fun k hk=>by omega),(by obtain ⟨L,a1,aO⟩:=bH; exact ⟨L,a1,a3.B (ao.B<|ah.B (bd.B aO) fun h=>by have :=aO.lt; omega) fun h=>by omega⟩),ck,aa⟩
 exact aJ 1 aa<|tn<|⟨[46],(FV ab),aY,bB,bH,ap,aa⟩
 rintro b0 ay ⟨aj,cI,ch,bz,cD,co,cP⟩;refine bA cP ?_;obtain ⟨c6,cp,cF⟩:=cD;obtain ⟨b2,b3,rfl⟩:=bz.slice;exact aH 2 aa<|p (cQ lI aa (aa) fun j bJ=>ch.bu j)<|e<|c8 oW aa aa aa aa (cF) (by rw [cp]; decide) fun d5 br b8=>aC 3 aa<|kf<|vJ aa (dU (cs:=eS (⟨c.kind,c.flag,c.eB,stx,Y,aj,nx,ln⟩,.slice b2 nx.length b3)) aa lI aa fun j bJ=>by rw [b8.bu j,iR ab,ez]; rfl)<|⟨⟨c.kind,c.flag,c.eB,stx,Y,aj,nx,ln⟩,by rw [nE hlen,dY]; simp only; rw [aq]; simp only; rw [ax]; simp only; rw [cI],aa,⟨_,aa,(Tg.IZ bz br fun k hk=>by have :=aL.size; omega).mono ab⟩,co.trans' br fun k hk h=>by omega⟩
end Go.Hb.fj
end
section
namespace Go.Hb.mz
open Go.Hb.fj Go.Hb.oK
theorem dX.AB {w E J:ak} {B fb mc:Nat} {F:aE} {V:fy} {v:ag} {x:Tx×Tx} (h:dX w B fb mc F V) (hm:Md (fun k=>V.v9.ownBlock=some k) w E) (Z:bo E B 189 2 v (F.dp++ [x]).length (lu<|F.dp++ [x])) (A:Md (fun k=>k=fb) E J) (aa:J.heap[fb]? =some (.cells (pS {F with dp:=F.dp++ [x]} {V with v9:=v} mc).toArray 164 (0,0))):dX J B fb mc {F with dp:=F.dp++ [x]} {V with v9:=v} :=by
 have hT:TF w [191] (fun k=>V.v9.ownBlock=some k):=TF.own h.o9 aw;have I:=hm.iK hT h.cells aw;have G:TF E [166] (fun k=>k=fb):=TF.eq (dC I) aw;have O:∀ k,V.v9.ownBlock=some k→∀ cur z,w.heap[k]?≠some (.cells cur 95 z):=iO h.o9 aw;have Y:∀ k,k=fb→∀ cur z,E.heap[k]?≠some (.cells cur 95 z):=fL I aw;obtain ⟨f,C,ab⟩:=h.cm;have ac:=eJ<|C.md hm<|hT.no (eJ C) aw;exact ⟨aa,da Z A (fun k hk C=>dO Z I aw<|C ▸ hk),cj (cj h.e6 hm hT aw) A G aw,(h.al.md hm O).md A Y,cj (cj h.eC hm hT aw) A G aw,cj (cj h.dB hm hT aw) A G aw,(h.nx.md hm O).md A Y,⟨f,(C.md hm<|hT.no (eJ C) aw).md A (G.no ac aw),ab⟩,h.lo,h.gl⟩
theorem dX.Az {w E Y:ak} {B fb mc:Nat} {F:aE} {V:fy} {v:ag} {x:List Nat} {vx:ag} (h:dX w B fb mc F V) (ae:Tg w B 95 x.length vx (x.map bf)) (hm:Md (fun k=>V.v10.ownBlock=some k) w E) (Z:bo E B 51 1 v (F.aliases++ [x]).length (V.sa++ [vx])) (A:Md (fun k=>k=fb) E Y) (aa:Y.heap[fb]? =some (.cells (pS {F with aliases:=F.aliases++ [x]} {V with v10:=v,sa:=V.sa++ [vx]} mc).toArray 164 (0,0))):dX Y B fb mc {F with aliases:=F.aliases++ [x]} {V with v10:=v,sa:=V.sa++ [vx]} :=by
 have hT:TF w [53] (fun k=>V.v10.ownBlock=some k):=TF.own h.e6 aw;have I:=hm.iK hT h.cells aw;have G:TF E [166] (fun k=>k=fb):=TF.eq (dC I) aw;have J:∀ k,V.v10.ownBlock=some k→∀ cur z,w.heap[k]?≠some (.cells cur 95 z):=iO h.e6 aw;have O:∀ k,k=fb→∀ cur z,E.heap[k]?≠some (.cells cur 95 z):=fL I aw;obtain ⟨f,C,ab⟩:=h.cm;have ac:=eJ<|C.md hm<|hT.no (eJ C) aw;exact ⟨aa,cj (cj h.o9 hm hT aw) A G aw,da Z A (fun k hk C=>dO Z I aw<|C ▸ hk),((h.al.md hm J).md A O).snoc ((ae.md hm J).md A O),cj (cj h.eC hm hT aw) A G aw,cj (cj h.dB hm hT aw) A G aw,(h.nx.md hm J).md A O,⟨f,(C.md hm<|hT.no (eJ C) aw).md A (G.no ac aw),ab⟩,h.lo,h.gl⟩
theorem dX.xO {w E Y:ak} {B fb mc:Nat} {F:aE} {V:fy} {v:ag} {x:cJ} {vx:ag} (h:dX w B fb mc F V) (ae:Tg w B 95 x.next.length vx (x.next.map bf)) (hm:Md (fun k=>V.v12.ownBlock=some k) w E) (Z:bo E B 134 7 v (F.rules++ [x]).length (iw<|(F.rules++ [x]).zip<|V.rn++ [vx])) (A:Md (fun k=>k=fb) E Y) (aa:Y.heap[fb]? =some (.cells (pS {F with rules:=F.rules++ [x]} {V with v12:=v,rn:=V.rn++ [vx]} mc).toArray 164 (0,0))):dX Y B fb mc {F with rules:=F.rules++ [x]} {V with v12:=v,rn:=V.rn++ [vx]} :=by
 have hT:TF w [136] (fun k=>V.v12.ownBlock=some k):=TF.own h.dB aw;have I:=hm.iK hT h.cells aw;have G:TF E [166] (fun k=>k=fb):=TF.eq (dC I) aw;have J:∀ k,V.v12.ownBlock=some k→∀ cur z,w.heap[k]?≠some (.cells cur 95 z):=iO h.dB aw;have O:∀ k,k=fb→∀ cur z,E.heap[k]?≠some (.cells cur 95 z):=fL I aw;obtain ⟨f,C,ab⟩:=h.cm;have ac:=eJ<|C.md hm<|hT.no (eJ C) aw;exact ⟨aa,cj (cj h.o9 hm hT aw) A G aw,cj (cj h.e6 hm hT aw) A G aw,(h.al.md hm J).md A O,cj (cj h.eC hm hT aw) A G aw,da Z A (fun k hk C=>dO Z I aw<|C ▸ hk),(by rw [gS]; exact ((h.nx.md hm J).md A O).snoc<|(ae.md hm J).md A O),⟨f,(C.md hm<|hT.no (eJ C) aw).md A (G.no ac aw),ab⟩,h.lo,h.gl⟩
theorem dy.own {w w':ak} {B:Nat} {H:dw} {F:aE} {R:iD} {rows:List Rw} {ln:Nat} {seen:List Tx} {B' e s n:Nat} {v:ag} {xs:List ag} (h:dy w B H F R rows ln seen) (G:bo w B' e s v n xs) (hm:Md (fun k=>v.ownBlock=some k) w w') (A:([e+2].contains 169 || [e+2].contains 183 || [e+2].contains 11 || [e+2].contains 5)=false):dy w' B H F R rows ln seen:=by
 have hT:TF w [e+2] (fun k=>v.ownBlock=some k):=TF.own G<|by simp
 obtain ⟨f,C,_⟩:=h.sm;obtain ⟨g,E,_⟩:=h.tm;exact h.md hm hT A (hT.no (eJ C)<|by simp)<|hT.no (eJ E)<|by simp
theorem dy.pQ {w w':ak} {B:Nat} {H:dw} {F:aE} {R:iD} {rows:List Rw} {ln:Nat} {seen:List Tx} {cs:Array ag} {z:Nat×Nat} (h:dy w B H F R rows ln seen) (A:w.heap[H.fb]? =some (.cells cs 164 z)) (hm:Md (fun k=>k=H.fb) w w'):dy w' B H F R rows ln seen:=by
 have hT:TF w [166] (fun k=>k=H.fb):=TF.eq (dC A) aw;obtain ⟨f,C,G⟩:=h.sm;obtain ⟨g,E,I⟩:=h.tm;exact h.md hm hT aw (hT.no (eJ C) aw)<|hT.no (eJ E) aw
theorem Tg.CE {w:ak} {b e n:Nat} {L:List ag} {z:Nat×Nat} (h:w.heap[b]? =some (.cells L.toArray e z)) (hn:n=L.length):Tg w b e n (.slice (some ⟨b,0,none⟩) n n) L:=⟨_,_,rfl,cE _,.inr ⟨b,_,_,rfl,cE _,h,fun j u hu=>by simpa using hu⟩⟩
theorem k6.qE {F:aE} {q:Rw} {rest:List Rw} {seen:List Tx} (h:k6 F (q::rest) seen):k6 F rest seen:=⟨by have :=h.len; simp only [cC] at this; omega,by have :=h.sl; simp only [cC] at this; omega,fun A h2=>h.row A (List.mem_cons_of_mem _ h2),h.kd,h.al⟩
theorem JZ {eof ln e:Nat} {F:aE} {rows:List Rw} {r:List Tx} (h:e8 (r.getD 1 []) 256= .error e):ko eof F rows ln r= .error (ln,e):=by unfold ko; rw [h]
theorem wH {eof ln n:Nat} {F:aE} {rows:List Rw} {r:List Tx} {e:Nat×Nat} (h:e8 (r.getD 1 []) 256= .ok n) (h1:group [fA] k0 eof n rows= .error e):ko eof F rows ln r= .error e:=by unfold ko; rw [h]; simp only; rw [h1]
theorem WD {eof ln n:Nat} {F:aE} {rows:List Rw} {r:List Tx} {q:List (Tx×Tx)×List Rw} (h:e8 (r.getD 1 []) 256= .ok n) (h1:group [fA] k0 eof n rows= .ok q):ko eof F rows ln r= .ok ({F with dp:=F.dp++q.1},q.2):=by unfold ko; rw [h]; simp only; rw [h1]
theorem Cz {s:Tx} {most:Int} {n:Nat} (h:e8 s most= .ok n):(n:Int)≤most:=by
 unfold e8 at h;split at h
 · cases h
 · rename_i A; cases h; exact rT s most<|jG.1 A
theorem Ay {eof ln:Nat} {F:aE} {hs:List Tx} {rows:List Rw} {r:List Tx} (h:fU∈hs∨dt∈hs):j9 eof F hs rows ln r= .error (ln,113):=if_pos h
theorem EY {eof ln e:Nat} {F:aE} {hs:List Tx} {rows:List Rw} {r:List Tx} (A:¬(fU∈hs∨dt∈hs)) (h:e8 (r.getD 1 []) 1024= .error e):j9 eof F hs rows ln r= .error (ln,e):=by unfold j9; rw [if_neg A,h]
theorem xL {eof ln n:Nat} {F:aE} {hs:List Tx} {rows:List Rw} {r:List Tx} {e:Nat×Nat} (A:¬(fU∈hs∨dt∈hs)) (h:e8 (r.getD 1 []) 1024= .ok n) (h1:group [eN] (kS F.kind) eof n rows= .error e):j9 eof F hs rows ln r= .error e:=by unfold j9; rw [if_neg A,h]; simp only; rw [h1]
theorem NQ {eof ln n:Nat} {F:aE} {hs:List Tx} {rows:List Rw} {r:List Tx} {q:List (List Nat)×List Rw} (A:¬(fU∈hs∨dt∈hs)) (h:e8 (r.getD 1 []) 1024= .ok n) (h1:group [eN] (kS F.kind) eof n rows= .ok q):j9 eof F hs rows ln r= .ok ({F with aliases:=F.aliases++q.1},q.2):=by unfold j9; rw [if_neg A,h]; simp only; rw [h1]
theorem EX {kind ln:Nat} {r:List Tx} (h:r.length≠2):kS kind ln r= .error 111:=if_pos h
theorem xK {kind ln:Nat} {r:List Tx} (h:r.length=2):kS kind ln r=lj kind (r.getD 1 []):=if_neg ab
theorem HA {kind:Nat} {s:Tx} (h:(ed kind s).2=0):(ed kind s).1.length≤64∧(ed kind s).1.Pairwise (· < ·):=by
 unfold ed at h ⊢;split
 · simp
 · split
   · simp
   · split
     · simp
     · rename_i h3;exact ⟨by have :=VD ((ea kind s).map<|eZ kind); rw [fC] at this; exact e7 this ab,CC _⟩
theorem JV {ln:Nat} {r:List Tx} (h:r.length≠3):k0 ln r= .error 111:=if_pos h
theorem JW {ln e:Nat} {r:List Tx} (h:r.length=3) (h1:eG false (r.getD 1 [])= .error e):k0 ln r= .error e:=by unfold k0; rw [if_neg ab,h1]
theorem JX {ln e:Nat} {r:List Tx} {a:Tx} (h:r.length=3) (h1:eG false (r.getD 1 [])= .ok a) (h2:eG true (r.getD 2 [])= .error e):k0 ln r= .error e:=by unfold k0; rw [if_neg ab,h1]; simp only; rw [h2]
theorem JY {ln:Nat} {r:List Tx} {a b:Tx} (h:r.length=3) (h1:eG false (r.getD 1 [])= .ok a) (h2:eG true (r.getD 2 [])= .ok b):k0 ln r= .ok (a,b):=by unfold k0; rw [if_neg ab,h1]; simp only; rw [h2]
theorem WG (B:Nat) (H:dw) (F:aE) (rows:List Rw) (ln:Nat) (seen:List Tx) (r:List Tx) (bj:Nat) (ar:Option bF) (cr:Nat) (w:ak) (I:St w B H F rows ln seen) (hT:Tg w bj 9 r.length (.slice ar r.length cr) (r.map str)) (b8:r.length=2) (bM:∀ x∈r,x.length≤70000):
 fR az 132 (a7 [.pointer (some ⟨H.rb,0,none⟩),.slice ar r.length cr]) w (jV B H seen (ko H.eof F rows ln r) w) (jU B H (ko H.eof F rows ln r) w):=by
 obtain ⟨V,R,ah,aM,aU⟩:=I;have a9:=hT.cW;have b9:(r.getD 1 []).length≤70000:=bM _<|dR ab;have b6:=aM.lo;have b2:=aU.len;refine kE func132 aa ntmps132 aa<|bg 4 aa<|p (a6 cM aa aa ab<|aB.ok (a9.2)<|bS ab)<|p (ld1 aa<|bW.get (i:=1) a9.2 ab)<|eP aa (dW xR (y1 H.rb ln (r.getD 1 []) 256 w aM.du ab ab) aa fun v10 ce bw=> ?_) fun c w' E σ' ah=>by obtain ⟨e,he,h,h2⟩:=E; exact ⟨ln,e,JZ he,h,Wk.mw h2⟩
 obtain ⟨n,ac,rfl,aG⟩:=bw;have b7:=Cz ac;refine aQ 4 aa<|lp (fun aT bi ax=> ∃ (i:Nat) (xs:List (Tx×Tx)) (rows':List Rw) (aF:Nat) (C:fy) (R':iD),(i≤n)∧(ju [fA] k0 H.eof (group [fA] k0 H.eof n rows) xs (n - i) rows')∧(xs.length=i)∧(dX ax B H.fb H.mc {F with dp:=F.dp++xs} C)∧(dy ax B H F R' rows' aF seen)∧(k6 {F with dp:=F.dp++xs} rows' seen)∧(fQ B H w ax)∧(Sl bi [(0,.pointer (some ⟨H.rb,0,none⟩)),(10,.int .i64 (n:Nat)),(11,.int .i64 (i:Nat))])∧(n - i=aT)) _ ⟨0,[],rows,ln,V,R,ab,ju.start,aa,(by rw [ez]; exact ah.wk aG),(aM.wk aG),(by rw [ez]; exact aU),(Wk.mw aG),aa,aa⟩ ?_;rintro aT bi ax ⟨i,xs,rows',aF,C,R',hi,J,bP,aW,aq,an,aX,bN,rfl⟩;refine bA bN<|bq 6 aa<|cd aa (fun bH=> ?_) fun bH=> ?_;refine aH 7 aa<|e<|sK (L:= [str fA]) gk aa aa aa aa fun bn bf b0 bv bp=> ?_;have ag:Wk ax bf:=bv.md;have aY:=aX.trans<|Wk.mw ag;refine eP aa (dW AM (B3 B H F R' rows' aF seen [fA] bn 1 _ _ bf (aq.wk ag) (Tg.CE bp aa) aa aw fun q bL=>(an.row q bL).2.1) aa fun cb bQ bx=> ?_) (fun c w' E σ' ah=>by
  obtain ⟨h1,h2⟩:=E;have hm:=aY.trans<|fQ.rb (aq.wk ag) h2;rcases h1 with ⟨rfl,h3⟩ | ⟨am,Z,rest,rfl,h4,h3⟩;exact ⟨_,_,wH ac (J.ends ab),h3,hm⟩;exact ⟨_,_,wH ac (J.other ab h4),h3,hm⟩)
 obtain ⟨am,Z,rest,rfl,aD,⟨bk,aN⟩,hT15,hM15⟩:=bx;obtain ⟨bX,bZ,rfl⟩:=hT15.slice;have bt:=(aW.wk ag).rb (aq.wk ag) hM15;have aL:=aY.trans<|fQ.rb (aq.wk ag) hM15;have bd:Z≠[]∧Z.length≤70000∧∀ x∈Z,x.length≤70000:=an.row (am,Z)<|by simp
 have ay:=k6.qE an;have a4:=hT15.cW;have bE:=an.len;simp only [cC,bG] at bE;refine p bm<|au 5 aa<|p mv<|au 2 aa<|eP aa (dW iW (jc H.rb am _ 111 bQ aN.du aw) aa fun v20 bR bz=> ?_) fun c w' E σ' ah=>⟨_,_,wH ac (J.bad ab aD<|JV<|by have :=of_decide_eq_false E.2.1; omega),E.1,by rw [E.2.2]; exact aL⟩
 obtain ⟨rfl,bO,rfl⟩:=bz;have aS:Z.length=3:=by have :=of_decide_eq_true bO; omega
 have b4:=bd.2.2 _<|dR (d:= []) (i:=1) ab;have b5:=bd.2.2 _<|dR (d:= []) (i:=2) ab;refine au 5 aa<|p mv<|p (a6 cM aa aa ab<|aB.ok (a4.2)<|bS ab)<|p (ld1 aa<|bW.get (i:=1) a4.2 ab)<|eP aa (dW Fu (JF H.rb am (Z.getD 1 []) bR aN.du ab) aa fun v25 ae bB=> ?_) fun c w' E σ' ah=>by obtain ⟨e,he,h,h2⟩:=E; exact ⟨_,_,wH ac (J.bad ab aD<|JW aS he),h,aL.trans<|Wk.mw h2⟩
 obtain ⟨O,bb,rfl,aA⟩:=bB;have ai:=bt.wk aA;have av:=aN.wk aA;have a5:=hT15.wk aA;have aZ:=aL.trans<|Wk.mw aA;have aR:¬(C.v9.ownBlock=some H.rb):=dO ai.o9 av.cells aw;have bI:¬(C.v9.ownBlock=some H.fb):=dO ai.o9 ai.cells aw;refine aQ 3 aa ?_;have A:(fun w'=>Md (fun k=>C.v9.ownBlock=some k) ae w') ae.drew:=(Md.refl _ _).drew;refine gO (fun w'=>Md (fun k=>C.v9.ownBlock=some k) ae w') 24 aa wide A<|bU [0,1,2] aa A<|kJ 3 aa aj (fun w' I=>ld1 aa<|Md.aV I ((a8 av.cells).trans aa) aR) A<|bU [4,5,6] aa A<|kJ 7 aa aj (fun w' I=>ld1 aa<|Md.aV I ((a8 av.cells).trans aa) aR) A<|bU [8,9,10] aa A<|kJ 11 aa aj (fun w' I=>ld1 aa<|Md.aV I ((a8 ai.cells).trans aa) bI) A<|bU [12,13] aa A<|qL 14 aa aj (fun _=>mv) (fun _=>A)<|qL 15 aa aj (fun _=>a6 cM aa aa ab<|aB.ok (a5.cW.2)<|bS ab) (fun _=>A)<|kJ 16 aa aj (fun w' I=>ld1 aa<|bW.get (i:=2) (a5.md I<|iO ai.o9 aw).cW.2 ab) A<|II 17 aa aj aa (dW Fv (JC H.rb am (Z.getD 2 []) ae.drew (Md.aV A av.du aR) ab) aa fun cc bT bC=> ?_) fun c w' E σ' ah=>by obtain ⟨e,he,h,h2⟩:=E; exact ⟨_,_,wH ac (J.bad ab aD<|JX aS bb he),h,aZ.trans<|Wk.mw<|iQ h2⟩
 obtain ⟨Y,bK,rfl,aC⟩:=bC;have aC:=iQ aC;have aO:(fun w'=>Md (fun k=>C.v9.ownBlock=some k) ae w') bT:=Md.mono aC fun _ _ h=>h.elim;refine ⟨aO,?_⟩;refine qL 18 aa aj (fun _=>cV (ps:= [(0,str O),(1,str Y)]) (L:= [str O,str Y]) XZ aa<|aa) (fun _=>aO)<|gN 19 aa aj<|lf zm aa aa aa fun bY bV b1 a0 br=> ?_;have aI:=aC.trans a0.md;have G:=ai.wk aI;have a1:=av.wk aI;have a2:(fun w'=>Md (fun k=>C.v9.ownBlock=some k) ae w') bV:=aO.trans' a0.md fun _ _ h=>h.elim;refine ⟨a2,?_⟩;refine gN 20 aa aj<|ap zm (G.o9) aa (by have :=(dD.1 a1.cells).1; omega) aa (aB.dT br) (aa) (aa) (by simp only [bG]; omega) (by simp only [bG]; omega) fun v46 bh ba ao ca b3=> ?_;have bu:=(aZ.trans<|Wk.mw aI).trans<|Mw.of ao (TF.own G.o9 aw) fun k hk=>(dH G.o9 hk).1;have bD:=dy.own a1 G.o9 ao aw;have aP:=ao.bl G.cells<|dO G.o9 G.cells aw;have bJ:bo bh B 189 2 v46 ((F.dp++xs)++ [(O,Y)]).length (lu<|(F.dp++xs)++ [(O,Y)]):=by rw [show lu ((F.dp++xs)++ [(O,Y)])=lu (F.dp++xs)++ [str O,str Y] from by simp [lu],bG]; exact ba
 have a3:(fun w'=>Md (fun k=>C.v9.ownBlock=some k) ae w') bh:=a2.trans' ao fun _ _ h=>h;refine ⟨a3,?_⟩;exact bU [21,22,23] aa a3<|dK 24 aa aj aj<|dd Ge aa aa (v:=v46) (e9 ba) aP (by show _ < 14; omega) fun cf aK bs=>eQ aj<|bc 6 aa<|tn<|⟨_,ab,i+1,xs++ [(O,Y)],rest,am,{C with v9:=v46},bk,ab,(by rw [show n - (i+1)=n - i - 1 by omega]; exact J.step ab aD<|JY aS bb bK),(by rw [bG,bP]; rfl),(by rw [← eX]; exact dX.AB (x:=(O,Y)) G ao bJ aK bs),(dy.pQ bD aP aK),(⟨by simp only [bG,fg]; omega,ay.sl,ay.row,ay.kd,ay.al⟩),(bu.trans<|Mw.of aK (TF.eq (dC aP) aw) fun k hk=>hk ▸ G.lo.1),aa,aa⟩
 refine aJ 2 aa<|te _<|bc 1 aa<|kf<|f0 aa ?_;rw [show n - i=0 by omega] at J;exact ⟨aa,_,rows',aF,WD ac J.done,⟨C,R',aW,aq.congr aa (fun _=>rfl),an⟩,aX⟩
theorem NP (B:Nat) (H:dw) (F:aE) (rows:List Rw) (ln:Nat) (seen:List Tx) (r:List Tx) (bz:Nat) (ar:Option bF) (cr:Nat) (w:ak) (G:St w B H F rows ln seen) (hT:Tg w bz 9 r.length (.slice ar r.length cr) (r.map str)) (ct:r.length=2) (b5:∀ x∈r,x.length≤70000):
 fR az 133 (a7 [.pointer (some ⟨H.rb,0,none⟩),.slice ar r.length cr]) w (jV B H seen (j9 H.eof F seen rows ln r) w) (jU B H (j9 H.eof F seen rows ln r) w):=by
 obtain ⟨V,R,ai,Y,aL⟩:=G;have ci:=hT.cW;have cu:(r.getD 1 []).length≤70000:=b5 _<|dR ab;have cq:=Y.lo;have cl:=aL.len;obtain ⟨cy,bp,br⟩:=Y.sm;have cm:=uY (a:=fU) (l:=seen);have cn:=uY (a:=dt) (l:=seen);have cv:=aL.sl;refine kE func133 aa ntmps133 aa<|bq 1 aa<|dZ fun I=>aT [0,1,2,3] aa I<|cw 4 aa I ((a8 Y.cells).trans aa)<|hp 5 aa aj (fun w' G=>mL r8 oD jk (cR.md (bp) G id) aa aa (⟨_,aa⟩)<|br fU) I<|aT [6,7,8] aa I<|cw 9 aa I ((a8 Y.cells).trans aa)<|hp 10 aa aj (fun w' G=>mL r8 oD jk (cR.md (bp) G id) aa aa (⟨_,aa⟩)<|br dt) I<|hp 11 aa aj (fun _ _=>bC<|seen.count fU+seen.count dt) I<|aT [12] aa I ?_;refine ug 13 aa aj aa (dW iW (jc H.rb ln _ 113 w.drew (Wk.aV I Y.du) aw) aa fun v20 a1 bP=> ?_) (fun c w' A σ' ai=>⟨ln,113,Ay (Classical.byContradiction fun h2=>by
  have h1:=sx.2 fun h=>h2<|Or.inl h;have h3:=sx.2 fun h=>h2<|Or.inr h;exact of_decide_eq_false A.2.1 ab),A.1,by rw [A.2.2]; exact Wk.mw I⟩)
 obtain ⟨rfl,b8,bs⟩:=bP;have aN:Wk w a1:=by rw [bs]; exact (Md.refl _ _).drew
 have an:¬(fU∈seen∨dt∈seen):=by
  have ch:=of_decide_eq_true b8;rintro (h | h);have :=zX.2 h; omega;have :=zX.2 h; omega
 have bN:=Y.wk aN;have bh:=(hT.wk aN).cW;have bX:(fun w'=>Wk w w') a1:=by rw [bs]; exact I
 refine ⟨bX,?_⟩;refine hn aj<|dq 5 aa<|p (a6 cM aa aa ab<|aB.ok (bh.2)<|bS ab)<|p (ld1 aa<|bW.get (i:=1) bh.2 ab)<|eP aa (dW xR (y1 H.rb ln (r.getD 1 []) 1024 a1 bN.du ab ab) aa fun v25 cB bQ=> ?_) fun c w' A σ' ai=>by obtain ⟨e,he,h,h2⟩:=A; exact ⟨ln,e,EY an he,h,Wk.mw<|aN.trans h2⟩
 obtain ⟨n,ao,rfl,aq⟩:=bQ;have cs:=Cz ao;have aq:=aN.trans aq;refine aQ 4 aa<|lp (fun a2 bx aI=> ∃ (i:Nat) (xs:List (List Nat)) (rows':List Rw) (aP:Nat) (C:fy) (R':iD),(i≤n)∧(ju [eN] (kS F.kind) H.eof (group [eN] (kS F.kind) H.eof n rows) xs (n - i) rows')∧(xs.length=i)∧(dX aI B H.fb H.mc {F with aliases:=F.aliases++xs} C)∧(dy aI B H F R' rows' aP seen)∧(k6 {F with aliases:=F.aliases++xs} rows' seen)∧(fQ B H w aI)∧(Sl bx [(0,.pointer (some ⟨H.rb,0,none⟩)),(25,.int .i64 (n:Nat)),(26,.int .i64 (i:Nat))])∧(n - i=a2)) _ ⟨0,[],rows,ln,V,R,ab,ju.start,aa,(by rw [ez]; exact ai.wk aq),(Y.wk aq),(by rw [ez]; exact aL),(Wk.mw aq),aa,aa⟩ ?_;rintro a2 bx aI ⟨i,xs,rows',aP,C,R',hi,ac,ca,a3,aA,ae,a5,b7,rfl⟩;refine bA b7<|bq 6 aa<|cd aa (fun b0=> ?_) fun b0=> ?_;refine aH 7 aa<|e<|sK (L:= [str eN]) gk aa aa aa aa fun bD bt cj bL bE=> ?_;have ag:Wk aI bt:=bL.md;have a9:=a5.trans<|Wk.mw ag;refine eP aa (dW AM (B3 B H F R' rows' aP seen [eN] bD 1 _ _ bt (aA.wk ag) (Tg.CE bE aa) aa aw fun q b4=>(ae.row q b4).2.1) aa fun cz cb bO=> ?_) (fun c w' A σ' ai=>by
  obtain ⟨h1,h2⟩:=A;have hm:=a9.trans<|fQ.rb (aA.wk ag) h2;rcases h1 with ⟨rfl,h3⟩ | ⟨aF,E,rest,rfl,h4,h3⟩;exact ⟨_,_,xL an ao (ac.ends ab),h3,hm⟩;exact ⟨_,_,xL an ao (ac.other ab h4),h3,hm⟩)
 obtain ⟨aF,E,rest,rfl,aY,⟨bB,aO⟩,hT15,hM15⟩:=bO;obtain ⟨ce,cg,rfl⟩:=hT15.slice;have a4:=(a3.wk ag).rb (aA.wk ag) hM15;have ba:=a9.trans<|fQ.rb (aA.wk ag) hM15;have b6:E≠[]∧E.length≤70000∧∀ x∈E,x.length≤70000:=ae.row (aF,E)<|by simp
 have aR:=k6.qE ae;have bi:=hT15.cW;have bZ:=ae.len;simp only [cC,bG] at bZ;refine p bm<|au 5 aa<|p mv<|au 2 aa<|eP aa (dW iW (jc H.rb aF _ 111 cb aO.du aw) aa fun v35 bu bR=> ?_) fun c w' A σ' ai=>⟨_,_,xL an ao (ac.bad ab aY<|EX<|by have :=of_decide_eq_false A.2.1; omega),A.1,by rw [A.2.2]; exact ba⟩
 obtain ⟨rfl,b9,rfl⟩:=bR;have bn:E.length=2:=by have :=of_decide_eq_true b9; omega
 have cp:=b6.2.2 _<|dR (d:= []) (i:=1) ab;refine aQ 3 aa<|dZ fun Z=>aT [0,1,2] aa Z<|cw 3 aa Z ((a8 aO.cells).trans aa)<|aT [4,5,6] aa Z<|cw 7 aa Z ((a8 a4.cells).trans aa)<|hp 8 aa aj (fun _ _=>mv) Z<|hp 9 aa aj (fun _ _=>a6 cM aa aa ab<|aB.ok (bi.2)<|bS ab) Z<|cw 10 aa Z (bW.get (i:=1) bi.2 ab)<|he 11 aa aj<|aM (HF F.kind (E.getD 1 []) _ aL.kd ab) aa ?_;rintro cA bv ⟨⟨aK,rfl,aX⟩,ah⟩;have ah:=iQ ah;have ax:=a4.wk ah;have aC:=aO.wk ah;have bb:=ba.trans<|Wk.mw ah;have bj:¬(C.v10.ownBlock=some H.rb):=dO ax.e6 aC.cells aw;have b2:¬(C.v10.ownBlock=some H.fb):=dO ax.e6 ax.cells aw;have bJ:B≤bu.heap.size:=by have :=(dD.1 aO.cells).1; omega
 have aD:(fun w'=>Wk bu w') bv:=ah;refine ⟨aD,?_⟩;refine hp 12 aa aj (fun _ _=>mv) aD<|aT [13,14] aa aD<|hp 15 aa aj (fun _ _=>bm) aD<|aT [16] aa aD<|hn aj<|dq 5 aa<|eP aa (dW pN (pW H.rb aF ((ed F.kind<|E.getD 1 []).2:Nat) bv aC.du) aa fun v53 aG bV=> ?_) fun c w' A σ' ai=>⟨_,_,xL an ao (ac.bad ab aY<|by rw [xK bn]; exact yp<|by have :=A.2.1; omega),A.1,by rw [A.2.2]; exact bb⟩
 obtain ⟨rfl,aZ,rfl⟩:=bV;have aZ:(ed F.kind<|E.getD 1 []).2=0:=ab;have b1:=HA aZ;refine aQ 2 aa ?_;have O:(fun w'=>Md (fun k=>C.v10.ownBlock=some k) aG w') aG.drew:=(Md.refl _ _).drew;refine gO (fun w'=>Md (fun k=>C.v10.ownBlock=some k) aG w') 18 aa wide O<|bU [0,1,2] aa O<|kJ 3 aa aj (fun w' G=>ld1 aa<|Md.aV G ((a8 aC.cells).trans aa) bj) O<|bU [4,5,6] aa O<|kJ 7 aa aj (fun w' G=>ld1 aa<|Md.aV G ((a8 aC.cells).trans aa) bj) O<|bU [8,9,10] aa O<|kJ 11 aa aj (fun w' G=>ld1 aa<|Md.aV G ((a8 ax.cells).trans aa) b2) O<|qL 12 aa aj (fun _=>mv) (fun _=>O)<|gN 13 aa aj<|gv zn aa (e9 aX) fun cf cc ck bM bH=> ?_;have av:=iQ bM.md;have J:=ax.wk av;have bd:=aC.wk av;have bY:=(Tg.j5<|aU aX av).mono bJ;have bf:(fun w'=>Md (fun k=>C.v10.ownBlock=some k) aG w') cc:=Md.mono av fun _ _ h=>h.elim;refine ⟨bf,?_⟩;refine gN 14 aa aj<|ap zn (J.e6) aa (by have :=(dD.1 bd.cells).1; omega) aa (aB.dT bH) (aa) (by show List.all [aK] Value.oneCell'=true; simp only [List.all_cons,List.all_nil,e9 aX,Bool.and_self]) (by simp only [bG]; omega) (by simp only [bG]; omega) fun a0 bw bk ay cx co=> ?_;have bK:=(bb.trans<|Wk.mw av).trans<|Mw.of ay (TF.own J.e6 aw) fun k hk=>(dH J.e6 hk).1;have bT:=dy.own bd J.e6 ay aw;have aW:=ay.bl J.cells<|dO J.e6 J.cells aw;have b3:bo bw B 51 1 a0 ((F.aliases++xs)++ [(ed F.kind<|E.getD 1 []).1]).length (C.sa++ [aK]):=by rw [bG]; exact bk
 have bg:(fun w'=>Md (fun k=>C.v10.ownBlock=some k) aG w') bw:=bf.trans' ay fun _ _ h=>h;refine ⟨bg,?_⟩;exact bU [15,16,17] aa bg<|dK 18 aa aj aj<|dd Gf aa aa (v:=a0) (e9 bk) aW (by show _ < 14; omega) fun cD aS bI=>eQ aj<|bc 6 aa<|tn<|⟨_,ab,i+1,xs++ [(ed F.kind<|E.getD 1 []).1],rest,aF,{C with v10:=a0,sa:=C.sa++ [aK]},bB,ab,(by rw [show n - (i+1)=n - i - 1 by omega]; exact ac.step ab aY<|by rw [xK bn]; exact yq aZ),(by rw [bG,ca]; rfl),(by rw [← eX]; exact dX.Az (x:=(ed F.kind<|E.getD 1 []).1) (vx:=aK) J bY ay b3 aS bI),(dy.pQ bT aW aS),(⟨by simp only [bG,fg]; omega,aR.sl,aR.row,aR.kd,by intro l am; rw [← eX] at am; rcases jT.1 am with am | am; exact ae.al l am; rw [iS.1 am]; exact b1⟩),(bK.trans<|Mw.of aS (TF.eq (dC aW) aw) fun k hk=>hk ▸ J.lo.1),aa,aa⟩
 refine aJ 2 aa<|te _<|bc 1 aa<|kf<|f0 aa ?_;rw [show n - i=0 by omega] at ac;exact ⟨aa,_,rows',aP,NQ an ao ac.done,⟨C,R',a3,aA.congr aa (fun _=>rfl),ae⟩,a5⟩
end Go.Hb.mz
end
section
namespace Go.Hb.oI
open Go.Hb.fj Go.Hb.mz Go.Hb.oK
structure pK (w:ak) (B fb:Nat) (mc:Nat) (F:aE) (V:fy):Prop where
 cells:w.heap[fb]? =some (.cells (pS F V mc).toArray 164 (0,0))
 o9:bo w B 189 2 V.v9 F.dp.length (lu F.dp)
 e6:bo w B 51 1 V.v10 F.aliases.length V.sa
 al:eD w B 95 V.sa F.aliases
 eC:bo w B 192 5 V.v11 F.bw.length (nZ F.bw)
 dB:bo w B 134 7 V.v12 F.rules.length (iw<|F.rules.zip V.rn)
 nx:eD w B 95 V.rn (F.rules.map (·.next))
 lo:B≤fb∧B≤mc
 gl:F.sp.length=5
theorem pK.md {G:Nat→Prop} {w w':ak} {B fb mc:Nat} {F:aE} {V:fy} (h:pK w B fb mc F V) (hm:Md G w w') {L:List Nat} (hT:TF w L G) (A:(L.contains 166 || L.contains 191 || L.contains 53 || L.contains 97 || L.contains 194 || L.contains 136)=false):pK w' B fb mc F V:=by
 simp only [po] at A;obtain ⟨⟨⟨⟨⟨h1,h2⟩,h3⟩,h4⟩,h5⟩,h6⟩:=A;have C:∀ k,G k→∀ cur z,w.heap[k]?≠some (.cells cur 95 z):=fun k hk cur z E=>hT.no (dC E) h4 hk;exact ⟨hm.iK hT h.cells h1,cj h.o9 hm hT h2,cj h.e6 hm hT h3,h.al.md hm C,cj h.eC hm hT h5,cj h.dB hm hT h6,h.nx.md hm C,h.lo,h.gl⟩
theorem pK.wk {w w':ak} {B fb mc:Nat} {F:aE} {V:fy} (h:pK w B fb mc F V) (hm:Wk w w'):pK w' B fb mc F V:=h.md (L:= []) hm (fun _ hk=>hk.elim) rfl
theorem RC {w:ak} {B fb mc:Nat} {F:aE} {V:fy} (h:dX w B fb mc F V):pK w B fb mc F V:=⟨h.cells,h.o9,h.e6,h.al,h.eC,h.dB,h.nx,h.lo,h.gl⟩
theorem pK.AA {w E J:ak} {B fb mc:Nat} {F:aE} {V:fy} {v:ag} {x:di} {f:ag→Option ag} (h:pK w B fb mc F V) (C:cR w.heap mc (kV .u16) f) (ab:∀ y:Nat,f (bf y)=((F.bw++ [x]).findIdx? fun c=>decide (c.flag=y)).map fun i:Nat=>gq .i64 i) (hm:Md (fun k=>V.v11.ownBlock=some k) w E) (Z:bo E B 192 5 v (F.bw++ [x]).length (nZ<|F.bw++ [x])) (A:Md (fun k=>k=fb) E J) (aa:J.heap[fb]? =some (.cells (pS {F with bw:=F.bw++ [x]} {V with v11:=v} mc).toArray 164 (0,0))):dX J B fb mc {F with bw:=F.bw++ [x]} {V with v11:=v} :=by
 have hT:TF w [194] (fun k=>V.v11.ownBlock=some k):=TF.own h.eC aw;have I:=hm.iK hT h.cells aw;have G:TF E [166] (fun k=>k=fb):=TF.eq (dC I) aw;have O:∀ k,V.v11.ownBlock=some k→∀ cur z,w.heap[k]?≠some (.cells cur 95 z):=iO h.eC aw;have Y:∀ k,k=fb→∀ cur z,E.heap[k]?≠some (.cells cur 95 z):=fL I aw;have ac:=eJ<|C.md hm<|hT.no (eJ C) aw;exact ⟨aa,cj (cj h.o9 hm hT aw) A G aw,cj (cj h.e6 hm hT aw) A G aw,(h.al.md hm O).md A Y,da Z A (fun k hk C=>dO Z I aw<|C ▸ hk),cj (cj h.dB hm hT aw) A G aw,(h.nx.md hm O).md A Y,⟨f,(C.md hm<|hT.no (eJ C) aw).md A (G.no ac aw),ab⟩,h.lo,h.gl⟩
theorem dy.Vo {w G I:ak} {B:Nat} {H:dw} {F F':aE} {R:iD} {rows:List Rw} {ln:Nat} {seen:List Tx} {v:ag} {q:cJ} (h:dy w B H F R rows ln seen) (hm:Md (fun k=>R.vn.ownBlock=some k) w G) (Z:bo G B 3 1 v (F.rules++ [q]).length ((F.rules++ [q]).map fun r=>gq .i64 (r.line:Nat))) (A:Md (fun k=>k=H.rb) G I) (aa:I.heap[H.rb]? =some (.cells (wx H {R with vn:=v} ln).toArray 167 (0,0))) (ae:F'.rules=F.rules++ [q]) (hd:∀ x,eM F' x=eM F x):dy I B H F' {R with vn:=v} rows ln seen:=by
 have hT:TF w [5] (fun k=>R.vn.ownBlock=some k):=TF.own h.on aw;have C:=hm.iK hT h.cells aw;have J:TF G [169] (fun k=>k=H.rb):=TF.eq (dC C) aw;obtain ⟨f,E,ab⟩:=h.sm;obtain ⟨g,V,ac⟩:=h.tm;have O:=E.md hm<|hT.no (eJ E) aw;have Y:=V.md hm<|hT.no (eJ V) aw;exact ⟨aa,(h.rws.md hm<|iO h.on aw).md A (fL C aw),(h.rt.md hm<|iO h.on aw).md A (fL C aw),⟨f,O.md A (J.no (eJ O) aw),ab⟩,⟨g,Y.md A (J.no (eJ Y) aw),fun x ah=>by rw [hd]; exact ac x ah⟩,by rw [ae]; exact da Z A (fun k hk E=>dO Z C aw<|E ▸ hk),h.lo,h.ne⟩
theorem Bp {cs:List di} {x:Nat} (h:(eb cs x).isSome=false):cs.findIdx? (fun c=>decide (c.flag=x))=none:=by
 rw [ML];unfold eb at h;rw [Option.isSome_eq_false_iff,Option.isNone_iff_eq_none,Ep] at h;intro c A;simpa using h c A
theorem QE {F:aE} {c:di} (y:Nat):eM {F with bw:=F.bw++ [c]} y=(decide (y=c.flag) || eM F y):=by
 have h1:(eb (F.bw++ [c]) y).isSome=((eb F.bw y).isSome || decide (y=c.flag)):=by
  unfold eb;rw [List.find?_append,Option.isSome_or];congr 1;by_cases h:c.flag=y
  · simp [h]
  · simp [h,Ne.symm h]
 unfold eM;show (decide (y∈F.sp) || (eb (F.bw++ [c]) y).isSome)=_;rw [h1];cases decide (y∈F.sp) <;> cases (eb F.bw y).isSome <;> cases decide (y=c.flag) <;> rfl
theorem PH {F:aE} {c:di} {f:ag→Option ag} (hd:eM F c.flag=false) (A:∀ x:Nat,f (bf x)=(F.bw.findIdx? fun c=>decide (c.flag=x)).map fun i:Nat=>gq .i64 i) (y:Nat):bM f (bf c.flag) (.int .i64 (F.bw.length:Nat)) (bf y)=((F.bw++ [c]).findIdx? fun c=>decide (c.flag=y)).map fun i:Nat=>gq .i64 i:=by
 unfold eM at hd;rw [po] at hd;rw [List.findIdx?_append];by_cases h:y=c.flag
 · subst h;rw [ow,Bp hd.2];simp
 · rw [me (fun h2=>h<|Lc h2),A y];cases F.bw.findIdx? fun c=>decide (c.flag=y) <;> simp [Ne.symm h]
theorem AS {eof ln e:Nat} {F:aE} {rows:List Rw} {r:List Tx} (h:ic F (r.getD 1 [])= .error e):hU eof F rows ln r= .error (ln,e):=by unfold hU; rw [h]
theorem AT {eof ln x:Nat} {F:aE} {rows:List Rw} {r:List Tx} (h:ic F (r.getD 1 [])= .ok x) (h1:r.getD 2 []≠[89]) (h2:r.getD 2 []≠[78]):hU eof F rows ln r= .error (ln,114):=by unfold hU; rw [h]; exact if_pos ⟨h1,h2⟩
theorem FG {eof ln x e:Nat} {F:aE} {rows:List Rw} {r:List Tx} (h:ic F (r.getD 1 [])= .ok x) (h1:r.getD 2 []= [89]∨r.getD 2 []= [78]) (h2:e8 (r.getD 3 []) 1024= .error e):hU eof F rows ln r= .error (ln,e):=by
 unfold hU; rw [h]; simp only; rw [if_neg (fun h3=>h1.elim h3.1 h3.2),h2]
theorem FH {eof ln x n:Nat} {F:aE} {rows:List Rw} {r:List Tx} (h:ic F (r.getD 1 [])= .ok x) (h1:r.getD 2 []= [89]∨r.getD 2 []= [78]) (h2:e8 (r.getD 3 []) 1024= .ok n) (h3:1024 < F.rules.length+n):hU eof F rows ln r= .error (ln,117):=by
 unfold hU; rw [h]; simp only; rw [if_neg (fun h3=>h1.elim h3.1 h3.2),h2]; simp only; rw [if_pos h3]
theorem AU {eof ln x n:Nat} {F:aE} {rows:List Rw} {r:List Tx} {e:Nat×Nat} (h:ic F (r.getD 1 [])= .ok x) (h1:r.getD 2 []= [89]∨r.getD 2 []= [78]) (h2:e8 (r.getD 3 []) 1024= .ok n) (h3:¬1024 < F.rules.length+n) (h4:group [r.getD 0 [],r.getD 1 []] (fV F.kind F.aliases (⟨x,(if r.getD 0 []=dt then 2 else 1:Nat),(decide (r.getD 2 []= [89])),F.rules.length,n⟩:di)) eof n rows= .error e):hU eof F rows ln r= .error e:=by
 unfold hU; rw [h]; simp only; rw [if_neg (fun h3=>h1.elim h3.1 h3.2),h2]; simp only; rw [if_neg h3,h4]
theorem O3 {eof ln x n:Nat} {F:aE} {rows:List Rw} {r:List Tx} {q:List cJ×List Rw} (h:ic F (r.getD 1 [])= .ok x) (h1:r.getD 2 []= [89]∨r.getD 2 []= [78]) (h2:e8 (r.getD 3 []) 1024= .ok n) (h3:¬1024 < F.rules.length+n) (h4:group [r.getD 0 [],r.getD 1 []] (fV F.kind F.aliases (⟨x,(if r.getD 0 []=dt then 2 else 1:Nat),(decide (r.getD 2 []= [89])),F.rules.length,n⟩:di)) eof n rows= .ok q):hU eof F rows ln r= .ok ({F with bw:=F.bw++ [(⟨x,(if r.getD 0 []=dt then 2 else 1:Nat),(decide (r.getD 2 []= [89])),F.rules.length,n⟩:di)],rules:=F.rules++q.1},q.2):=by
 unfold hU; rw [h]; simp only; rw [if_neg (fun h3=>h1.elim h3.1 h3.2),h2]; simp only; rw [if_neg h3,h4]
theorem FI (B:Nat) (H:dw) (F:aE) (rows:List Rw) (ln:Nat) (seen:List Tx) (r:List Tx) (cu:Nat) (ar:Option bF) (cr:Nat) (w:ak) (A:St w B H F rows ln seen) (hT:Tg w cu 9 r.length (.slice ar r.length cr) (r.map str)) (fD:r.length=4) (cn:∀ x∈r,x.length≤70000) (fl:F.dp.length+F.aliases.length+F.bw.length+F.rules.length+rows.length < 70000):
 fR az 134 (a7 [.pointer (some ⟨H.rb,0,none⟩),.slice ar r.length cr]) w (jV B H seen (hU H.eof F rows ln r) w) (jU B H (hU H.eof F rows ln r) w):=by
 obtain ⟨V,R,J,an,aI⟩:=A;have ac:=hT.cW;have fE:(r.getD 1 []).length≤70000:=cn _<|dR ab;have fF:(r.getD 2 []).length≤70000:=cn _<|dR ab;have fG:(r.getD 3 []).length≤70000:=cn _<|dR ab;have fA:=an.lo;have fu:=aI.len;have fH:=(dD.1 an.cells).1;obtain ⟨a12,dI,e4⟩:=cz J.dB;obtain ⟨cv,cw,dh⟩:=cz J.eC;have eH:Hb.aV w.heap H.fb 12=some (.slice a12 F.rules.length dI):=by rw [← e4]; exact (a8 J.cells).trans rfl
 have fv:Hb.aV w.heap H.fb 11=some (.slice cv F.bw.length cw):=by rw [← dh]; exact (a8 J.cells).trans rfl
 have eN:∀ b,w.heap.size≤b→¬(V.v11.ownBlock=some b):=fun b fk h=>by have :=dH J.eC h; omega
 obtain ⟨tf,e3,df⟩:=an.tm;refine kE func134 aa ntmps134 aa ?_;refine ei (fun dv cs=> ∃ (x I:Nat),(ic F (r.getD 1 [])= .ok x)∧(x≠0)∧(eM F x=false)∧(w.heap.size≤I)∧(cs.heap[I]? =some (.cells [bf x,.int .i64 (1:Nat),.bool false,.int .i64 (F.rules.length:Nat),.int .i64 (0:Nat)].toArray 192 (0,0)))∧(Wk w cs)∧(Sl dv [(0,.pointer (some ⟨H.rb,0,none⟩)),(1,.slice ar r.length cr),(4,.pointer (some ⟨I,0,none⟩))])) ?_ ?_;have G:(fun w'=>Wk w w') w.drew:=(Md.refl _ _).drew;refine dY (fun w'=>Wk w w') aa wide G<|aT [0,1] aa G<|hp 2 aa aj (fun _ _=>a6 cM aa aa ab<|aB.ok (ac.2)<|bS ab) G<|hp 3 aa aj (fun w' A=>ld1 aa<|Wk.aV A<|bW.get (i:=1) ac.2 ab) G<|aT [5,6,7] aa G<|hp 8 aa aj (fun w' A=>ld1 aa<|Wk.aV A<|(a8 an.cells).trans aa) G<|aT [9,10,11] aa G<|hp 12 aa aj (fun w' A=>ld1 aa<|Wk.aV A<|eH) G<|aT [13] aa G<|Tf (Pn:=fun c w'=> ∃ e,ic F (r.getD 1 [])= .error e∧c=jM 45 ln (e:Nat)∧Wk w.drew w') 4 15 aa aa aj aa aa ?_ (fun c w' C σ' J=>by obtain ⟨e,he,h,h2⟩:=C; exact ⟨ln,e,AS he,h,Wk.mw<|Md.trans G h2⟩) ?_;refine dW AL (BB B H F V R rows ln seen (r.getD 1 []) w.drew (J.wk G) (an.wk G) aI.kd ab) aa fun v10 bZ bn=> ?_;obtain ⟨x,ae,bJ,rfl,aU,bN⟩:=bn;have ao:(fun w'=>Wk w w') bZ:=Md.trans G bN;refine ⟨ao,?_⟩;refine hp 14 aa aj (fun _ _=>cV (ps:= [(0,bf x),(1,.int .i64 (1:Nat)),(3,.int .i64 (F.rules.length:Nat))]) (L:= [bf x,.int .i64 (1:Nat),.bool false,.int .i64 (F.rules.length:Nat),.int .i64 0]) Dp aa<|aa) ao<|he 15 aa aj<|gK uN fun I b1 eD b7 b2=> ?_;have aA:(fun w'=>Wk w w') b1:=Md.trans ao b7.md;refine ⟨aA,?_⟩;refine he 16 aa aj<|gA sM aa aa aa aa b2 aw fun cq b5 b3=> ?_;have bs:(fun w'=>Wk w w') cq:=Md.trans' aA b5 fun k hk h=>by have h1:=Md.size ao; have h2:=Md.size G; omega
 refine ⟨bs,?_⟩;exact hn aj<|tn<|⟨x,I,ae,bJ,aU,(by have h1:=Md.size ao; have h2:=Md.size G; omega),b3,bs,aa⟩
 refine gK uN fun I b1 eD b7 b2=> ?_;have aA:(fun w'=>Wk w w') b1:=Md.trans G b7.md;refine ⟨aA,?_⟩;refine ug 4 aa aj aa (dW AL (BB B H F V R rows ln seen (r.getD 1 []) b1 (J.wk aA) (an.wk aA) aI.kd ab) aa fun v10 bZ bn=> ?_) fun c w' C σ' J=>by obtain ⟨e,he,h,h2⟩:=C; exact ⟨ln,e,AS he,h,Wk.mw<|Md.trans aA h2⟩
 obtain ⟨x,ae,bJ,rfl,aU,bN⟩:=bn;have ao:(fun w'=>Wk w w') bZ:=Md.trans aA bN;refine ⟨ao,?_⟩;refine hp 14 aa aj (fun _ _=>cV (ps:= [(0,bf x),(1,.int .i64 (1:Nat)),(3,.int .i64 (F.rules.length:Nat))]) (L:= [bf x,.int .i64 (1:Nat),.bool false,.int .i64 (F.rules.length:Nat),.int .i64 0]) Dp aa<|aa) ao<|he 16 aa aj<|gA sM aa aa aa aa (Wk.bl bN b2) aw fun cq b5 b3=> ?_;have bs:(fun w'=>Wk w w') cq:=Md.trans' ao b5 fun k hk h=>by have h1:=Md.size ao; have h2:=Md.size G; omega
 refine ⟨bs,?_⟩;exact hn aj<|tn<|⟨x,I,ae,bJ,aU,(by have h1:=Md.size ao; have h2:=Md.size G; omega),b3,bs,aa⟩
 rintro dv cs ⟨x,I,ae,bJ,aU,eV,dc,bL,eZ⟩;refine bA eZ ?_;refine ei (fun dx a2=>(a2.heap[I]? =some (.cells [bf x,.int .i64 ((if r.getD 0 []=dt then 2 else 1:Nat):Nat),.bool false,.int .i64 (F.rules.length:Nat),.int .i64 (0:Nat)].toArray 192 (0,0)))∧(Wk w a2)∧(Sl dx [(0,.pointer (some ⟨H.rb,0,none⟩)),(1,.slice ar r.length cr),(4,.pointer (some ⟨I,0,none⟩))])) ?_ ?_;refine bg 3 aa<|p (a6 cM aa aa ab<|aB.ok (aB.wk ac.2 bL)<|bS ab)<|p (ld1 aa<|bW.get (i:=0) (aB.wk ac.2 bL) ab)<|aQ 3 aa<|cd aa (fun cg=> ?_) fun cg=> ?_;exact aH 2 aa<|e<|dd gM aa aa (v:= .int .i64 (2:Nat)) aa dc (by show _ < 5; decide) fun fY d3 dQ=>aC 1 aa<|tn<|⟨(by rw [if_pos (show r.getD 0 []=dt from cg)]; exact dQ),(bL.trans' d3 fun k hk h=>by omega),aa⟩
 exact aJ 1 aa<|tn<|⟨(by rw [if_neg (show ¬r.getD 0 []=dt from cg)]; exact dc),bL,aa⟩
 rintro dx a2 ⟨eU,ai,e0⟩;refine bA e0 ?_;refine ei (fun dA ds=>(r.getD 2 []= [89]∨r.getD 2 []= [78])∧(ds=a2)∧(Sl dA [(0,.pointer (some ⟨H.rb,0,none⟩)),(1,.slice ar r.length cr),(4,.pointer (some ⟨I,0,none⟩))])) ?_ ?_;refine bg 3 aa<|p (a6 cM aa aa ab<|aB.ok (aB.wk ac.2 ai)<|bS ab)<|p (ld1 aa<|bW.get (i:=2) (aB.wk ac.2 ai) ab)<|au 2 aa<|gs (t:=31) aa (fun bT=> ?_) fun bT=> ?_;refine au 5 aa<|eP aa (dW iW (jc H.rb ln _ 114 a2 (Wk.aV ai an.du) aw) aa fun v37 fd b8=> ?_) fun c w' C σ' J=>by first | exact absurd C.2.1 aw | exact ⟨ln,114,AT ae bT (of_decide_eq_false C.2.1),C.1,by rw [C.2.2]; exact Wk.mw ai⟩
 obtain ⟨rfl,dj,rfl⟩:=b8;exact aC 1 aa<|tn<|⟨(.inl bT),aa,aa⟩
 refine au 1 aa<|pg aa aa aa (a6 cM aa aa ab<|aB.ok (aB.wk ac.2 ai)<|bS ab)<|pg aa aa aa (ld1 aa<|bW.get (i:=2) (aB.wk ac.2 ai) ab)<|au 2 aa<|eP aa (dW iW (jc H.rb ln _ 114 a2 (Wk.aV ai an.du) aw) aa fun v37 fd b8=> ?_) fun c w' C σ' J=>by first | exact absurd C.2.1 aw | exact ⟨ln,114,AT ae bT (of_decide_eq_false C.2.1),C.1,by rw [C.2.2]; exact Wk.mw ai⟩
 obtain ⟨rfl,dj,rfl⟩:=b8;exact aC 1 aa<|tn<|⟨(.inr<|of_decide_eq_true dj),aa,aa⟩
 rintro dA ds ⟨aZ,e5,e1⟩;refine bA e1 ?_;subst e5;refine bg 3 aa<|p (a6 cM aa aa ab<|aB.ok (aB.wk ac.2 ai)<|bS ab)<|p (ld1 aa<|bW.get (i:=2) (aB.wk ac.2 ai) ab)<|au 2 aa<|e<|dd Gb aa aa (v:= .bool<|decide (r.getD 2 []= [89])) aa eU (by show _ < 5; decide) fun fe d4 dS=> ?_;have bd:=ai.trans' d4 fun k hk h=>by omega
 refine au 6 aa<|p (a6 cM aa aa ab<|aB.ok (aB.wk ac.2 bd)<|bS ab)<|p (ld1 aa<|bW.get (i:=3) (aB.wk ac.2 bd) ab)<|eP aa (dW xR (y1 H.rb ln (r.getD 3 []) 1024 fe (Wk.aV bd an.du) ab ab) aa fun fT fW en=> ?_) fun c w' C σ' J=>by obtain ⟨e,he,h,h2⟩:=C; exact ⟨ln,e,FG ae aZ he,h,Wk.mw<|bd.trans h2⟩
 obtain ⟨n,aY,rfl,cy⟩:=en;have fB:=Cz aY;refine au 1 aa<|e<|dd gM aa aa (v:= .int .i64 (n:Nat)) aa (Wk.bl cy dS) (by show _ < 5; decide) fun dn d6 dU=> ?_;have aL:=(bd.trans cy).trans' d6 fun k hk h=>by omega
 have bB:dn.heap[I]? =some (.cells [bf x,.int .i64 ((if r.getD 0 []=dt then 2 else 1:Nat):Nat),.bool (decide (r.getD 2 []= [89])),.int .i64 (F.rules.length:Nat),.int .i64 (n:Nat)].toArray 192 (0,0)):=dU;refine au 6 aa<|p (ld1 aa<|(a8 bB).trans aa)<|au 1 aa<|p (ld1 aa<|(a8 bB).trans aa)<|p (bC<|F.rules.length+n)<|au 1 aa<|eP aa (dW iW (jc H.rb ln _ 117 dn (Wk.aV aL an.du) aw) aa fun fU fX eo=> ?_) fun c w' C σ' J=>⟨ln,117,FH ae aZ aY (by have :=of_decide_eq_false C.2.1; omega),C.1,by rw [C.2.2]; exact Wk.mw aL⟩
 obtain ⟨rfl,e6,rfl⟩:=eo;have bK:¬1024 < F.rules.length+n:=by have :=of_decide_eq_true e6; omega
 have bQ:=an.wk aL;have d0:=J.wk aL;have bV:=e3.wk aL;refine aQ 3 aa<|l9 8 fun aS=>gH [0,1,2] aa aS<|kZ 3 aa aS ((a8 bQ.cells).trans aa)<|gH [4] aa aS<|kZ 5 aa aS ((a8 bB).trans aa)<|lq 6 aa aj (fun w' A=>mL ta oD sS (cR.md (bV) A id) aa aa (⟨_,aa⟩) (show _=gq .i64 0 from (df x bJ).trans<|by rw [aU]; rfl)) aS<|lq 7 aa aj (fun _ _=>bC<|1) aS<|dK 8 aa aj aj<|tc ta sS (bV.wk aS) aa aa aa (⟨_,aa⟩) fun ct d5 eg=> ?_;have bj:=iQ d5;have br:dy ct B H {F with bw:=F.bw++ [(⟨x,(if r.getD 0 []=dt then 2 else 1:Nat),(decide (r.getD 2 []= [89])),F.rules.length,n⟩:di)]} R rows ln seen:=bQ.vZ bj eg rfl (K2 aU df fun y _=>QE y);have bh:=d0.vZ bQ bj;have c7:=bj.bl bB fun h=>bV.o7<|h ▸ bB;have ex:=(hT.wk aL).md bj fun k hk cur z cj=>by subst hk; exact bV.o7 cj
 have eb:=(Wk.mw aL).trans<|fQ.mt bQ bj;obtain ⟨cf,ch,eI⟩:=bh.cm;have eG:Hb.aV ct.heap H.fb 11=some (.slice cv F.bw.length cw):=by rw [← dh]; exact (a8 bh.cells).trans rfl
 refine eQ aj<|dz 2 aa<|l9 18 fun Z=>gH [0,1,2] aa Z<|kZ 3 aa Z ((a8 br.cells).trans aa)<|gH [4,5] aa Z<|kZ 6 aa Z ((a8 bh.cells).trans aa)<|gH [7] aa Z<|kZ 8 aa Z ((a8 c7).trans aa)<|gH [9,10,11] aa Z<|kZ 12 aa Z ((a8 br.cells).trans aa)<|gH [13,14,15] aa Z<|kZ 16 aa Z (eG)<|gH [17] aa Z<|dK 18 aa aj aj<|tc ta sS (ch.wk Z) aa aa aa (⟨_,aa⟩) fun a3 d7 eh=> ?_;have ej:cR a3.heap H.mc (kV .u16) (bM cf (bf x)<|.int .i64 (F.bw.length:Nat)):=eh;have bk:=iQ d7;have b9:TF ct [1] (fun k=>k=H.mc):=TF.eq (eJ ch) aw;have bx:=(RC bh).md (L:= [1]) bk b9 aw;have bR:=br.md (L:= [1]) bk b9 aw br.ne.2.1 br.ne.2.2;have c3:=bk.iK b9 c7 aw;have ey:=ex.md bk fun k hk cur z cj=>by subst hk; exact ch.o7 cj
 have ed:=eb.trans<|bk.mono fun k _ hk=>⟨hk ▸ bh.lo.2,.inr<|.inr<|.inl hk⟩
 have c8:=eN I eV;have bI:¬(V.v11.ownBlock=some H.rb):=dO bx.eC bR.cells aw;have ck:¬(V.v11.ownBlock=some H.fb):=dO bx.eC bx.cells aw;refine eQ aj<|dz 2 aa ?_;have ay:(fun w'=>Md (fun k=>V.v11.ownBlock=some k) a3 w') a3.drew:=(Md.refl _ _).drew;refine gO (fun w'=>Md (fun k=>V.v11.ownBlock=some k) a3 w') 18 aa wide ay<|bU [0,1,2] aa ay<|kJ 3 aa aj (fun w' A=>ld1 aa<|Md.aV A ((a8 bR.cells).trans aa) bI) ay<|bU [4,5,6] aa ay<|kJ 7 aa aj (fun w' A=>ld1 aa<|Md.aV A ((a8 bR.cells).trans aa) bI) ay<|bU [8,9,10] aa ay<|kJ 11 aa aj (fun w' A=>ld1 aa<|Md.aV A ((a8 bx.cells).trans aa) ck) ay<|kJ 12 aa aj (fun w' A=>cQ vt aa (aa) fun j eK=>bO.bu ⟨_,Md.bl A c3 c8⟩ j) ay<|gN 13 aa aj<|lf zo aa aa aa fun fj ff ft cI dV=> ?_;have aW:=iQ cI.md;have av:=bx.wk aW;have cL:=bR.wk aW;have fK:=(dD.1 cL.cells).1;have cY:(fun w'=>Md (fun k=>V.v11.ownBlock=some k) a3 w') ff:=ay.trans' cI.md fun _ _ h=>h.elim;refine ⟨cY,?_⟩;refine gN 14 aa aj<|ap zo (av.eC) aa ab aa (aB.dT dV) (aa) (aa) ab ab fun co dr db aP fO fz=> ?_;have ee:=(ed.trans<|Wk.mw aW).trans<|Mw.of aP (TF.own av.eC aw) fun k hk=>(dH av.eC hk).1;have bn:=dy.own cL av.eC aP aw;have bD:=aP.bl av.cells<|dO av.eC av.cells aw;have ca:=aP.bl (Wk.bl aW c3) c8;have er:=(ey.wk aW).md aP<|iO av.eC aw;have eT:bo dr B 192 5 co (F.bw++ [(⟨x,(if r.getD 0 []=dt then 2 else 1:Nat),(decide (r.getD 2 []= [89])),F.rules.length,n⟩:di)]).length (nZ<|F.bw++ [(⟨x,(if r.getD 0 []=dt then 2 else 1:Nat),(decide (r.getD 2 []= [89])),F.rules.length,n⟩:di)]):=by rw [show nZ (F.bw++ [(⟨x,(if r.getD 0 []=dt then 2 else 1:Nat),(decide (r.getD 2 []= [89])),F.rules.length,n⟩:di)])=nZ F.bw++oU (⟨x,(if r.getD 0 []=dt then 2 else 1:Nat),(decide (r.getD 2 []= [89])),F.rules.length,n⟩:di) from by simp [nZ],bG]; exact db
 have cZ:(fun w'=>Md (fun k=>V.v11.ownBlock=some k) a3 w') dr:=cY.trans' aP fun _ _ h=>h;refine ⟨cZ,?_⟩;refine bU [15,16,17] aa cZ<|dK 18 aa aj aj<|dd Gg aa aa (v:=co) (e9 db) bD (by show _ < 14; omega) fun a1 am b4=> ?_;have dZ:=pK.AA (x:=(⟨x,(if r.getD 0 []=dt then 2 else 1:Nat),(decide (r.getD 2 []= [89])),F.rules.length,n⟩:di)) av (ej.wk aW) (PH (c:=(⟨x,(if r.getD 0 []=dt then 2 else 1:Nat),(decide (r.getD 2 []= [89])),F.rules.length,n⟩:di)) aU eI) aP eT am b4;have ek:=dy.pQ bn bD am;have c4:=am.bl ca fun h=>by rw [h,bD] at ca; cases ca
 have es:=er.md am<|fL bD aw;have d8:=ee.trans<|Mw.of am (TF.eq (dC bD) aw) fun k hk=>hk ▸ av.lo.1;refine eQ aj<|dq 4 aa<|p (ld1 aa<|(a8 c4).trans aa)<|aQ 4 aa<|lp (fun cx dE ag=> ∃ (i:Nat) (xs:List cJ) (rows':List Rw) (bX:Nat) (E:fy) (R':iD),(i≤n)∧(ju [r.getD 0 [],r.getD 1 []] (fV F.kind F.aliases (⟨x,(if r.getD 0 []=dt then 2 else 1:Nat),(decide (r.getD 2 []= [89])),F.rules.length,n⟩:di)) H.eof (group [r.getD 0 [],r.getD 1 []] (fV F.kind F.aliases (⟨x,(if r.getD 0 []=dt then 2 else 1:Nat),(decide (r.getD 2 []= [89])),F.rules.length,n⟩:di)) H.eof n rows) xs (n - i) rows')∧(xs.length=i)∧(dX ag B H.fb H.mc {F with bw:=F.bw++ [(⟨x,(if r.getD 0 []=dt then 2 else 1:Nat),(decide (r.getD 2 []= [89])),F.rules.length,n⟩:di)],rules:=F.rules++xs} E)∧(dy ag B H {F with bw:=F.bw++ [(⟨x,(if r.getD 0 []=dt then 2 else 1:Nat),(decide (r.getD 2 []= [89])),F.rules.length,n⟩:di)],rules:=F.rules++xs} R' rows' bX seen)∧(k6 {F with bw:=F.bw++ [(⟨x,(if r.getD 0 []=dt then 2 else 1:Nat),(decide (r.getD 2 []= [89])),F.rules.length,n⟩:di)],rules:=F.rules++xs} rows' seen)∧(fQ B H w ag)∧(ag.heap[I]? =some (.cells [bf x,.int .i64 ((if r.getD 0 []=dt then 2 else 1:Nat):Nat),.bool (decide (r.getD 2 []= [89])),.int .i64 (F.rules.length:Nat),.int .i64 (n:Nat)].toArray 192 (0,0)))∧(Tg ag cu 9 r.length (.slice ar r.length cr)<|r.map str)∧(Sl dE [(0,.pointer (some ⟨H.rb,0,none⟩)),(1,.slice ar r.length cr),(4,.pointer (some ⟨I,0,none⟩)),(102,.int .i64 (n:Nat)),(103,.int .i64 (i:Nat))])∧(n - i=cx)) _ ⟨0,[],rows,ln,{V with v11:=co},R,ab,ju.start,aa,(by rw [ez]; exact dZ),(by rw [ez]; exact ek),(⟨by simp only [bG,fg,gr]; omega,aI.sl,aI.row,aI.kd,aI.al⟩),d8,c4,es,aa,aa⟩ ?_;rintro cx dE ag ⟨i,xs,rows',bX,E,R',hi,aX,e7,cA,ax,ba,cE,de,bv,e2,rfl⟩;refine bA e2<|bq 6 aa<|cd aa (fun eF=> ?_) fun eF=> ?_;refine bz 5 aa ?_;have aD:(fun w'=>Md (fun k=>k=H.rb) ag w') ag.drew:=(Md.refl _ _).drew;refine dY (fun w'=>Md (fun k=>k=H.rb) ag w') aa wide aD<|aT [0,1] aa aD<|hp 2 aa aj (fun _ _=>a6 cM aa aa ab<|aB.ok (bv.cW.2)<|bS ab) aD<|hp 3 aa aj (fun w' A=>ld1 aa<|bW.get (i:=0) (bv.md A<|fL ax.cells aw).cW.2 ab) aD<|aT [4] aa aD<|hp 5 aa aj (fun _ _=>a6 cM aa aa ab<|aB.ok (bv.cW.2)<|bS ab) aD<|hp 6 aa aj (fun w' A=>ld1 aa<|bW.get (i:=1) (bv.md A<|fL ax.cells aw).cW.2 ab) aD<|he 7 aa aj<|sK (L:= [str (r.getD 0 []),str (r.getD 1 [])]) gk aa aa aa aa fun dG cp fq cH dN=> ?_;have ah:Wk ag cp:=iQ cH.md;have cF:=cE.trans<|Wk.mw ah;have cN:(fun w'=>Md (fun k=>k=H.rb) ag w') cp:=aD.trans' cH.md fun _ _ h=>h.elim;refine ⟨cN,?_⟩;refine ug 8 aa aj aa (dW AM (B3 B H {F with bw:=F.bw++ [(⟨x,(if r.getD 0 []=dt then 2 else 1:Nat),(decide (r.getD 2 []= [89])),F.rules.length,n⟩:di)],rules:=F.rules++xs} R' rows' bX seen [r.getD 0 [],r.getD 1 []] dG 2 _ _ cp (ax.wk ah) (Tg.CE dN aa) aa aw fun q cl=>(ba.row q cl).2.1) aa fun fS aF em=> ?_) (fun c w' C σ' J=>by
  obtain ⟨h1,h2⟩:=C;have hm:=cF.trans<|fQ.rb (ax.wk ah) h2;rcases h1 with ⟨rfl,h3⟩ | ⟨bY,a0,rest,rfl,h4,h3⟩;exact ⟨_,_,AU ae aZ aY bK (aX.ends ab),h3,hm⟩;exact ⟨_,_,AU ae aZ aY bK (aX.other ab h4),h3,hm⟩)
 obtain ⟨bY,a0,rest,rfl,dg,⟨aG,bp⟩,hT15,hM15⟩:=em;obtain ⟨dF,dJ,rfl⟩:=hT15.slice;have aM:=(cA.wk ah).rb (ax.wk ah) hM15;have cG:=cF.trans<|fQ.rb (ax.wk ah) hM15;have eY:a0≠[]∧a0.length≤70000∧∀ x∈a0,x.length≤70000:=ba.row (bY,a0)<|by simp
 have a9:=k6.qE ba;have eE:=ba.len;simp only [cC,bG] at eE;have et:=(bv.wk ah).md hM15<|fL (ax.wk ah).cells aw;have cb:=hM15.bl (Wk.bl ah de) fun h=>by have h1:=(ax.wk ah).cells; rw [← h,Wk.bl ah de] at h1; cases h1
 have cO:(fun w'=>Md (fun k=>k=H.rb) ag w') aF:=cN.trans' hM15 fun _ _ h=>h;refine ⟨cO,?_⟩;refine hp 9 aa aj (fun _ _=>bm) cO<|hn aj<|dz 2 aa ?_;have bI:¬(E.v12.ownBlock=some H.rb):=dO aM.dB bp.cells aw;have ck:¬(E.v12.ownBlock=some H.fb):=dO aM.dB aM.cells aw;have eL:¬(E.v12.ownBlock=some I):=dO aM.dB cb aw;have aq:(fun w'=>Md (fun k=>E.v12.ownBlock=some k) aF w') aF.drew:=(Md.refl _ _).drew;refine gO (fun w'=>Md (fun k=>E.v12.ownBlock=some k) aF w') 21 aa wide aq<|bU [0,1,2] aa aq<|kJ 3 aa aj (fun w' A=>ld1 aa<|Md.aV A ((a8 bp.cells).trans aa) bI) aq<|bU [4,5,6] aa aq<|kJ 7 aa aj (fun w' A=>ld1 aa<|Md.aV A ((a8 bp.cells).trans aa) bI) aq<|bU [8,9,10] aa aq<|kJ 11 aa aj (fun w' A=>ld1 aa<|Md.aV A ((a8 aM.cells).trans aa) ck) aq<|bU [12] aa aq<|kJ 13 aa aj (fun w' A=>cQ vt aa (aa) fun j eK=>bO.bu ⟨_,Md.bl A cb eL⟩ j) aq<|qL 14 aa aj (fun _=>mv) (fun _=>aq)<|II 15 aa aj aa (dW OD (y8 B H {F with bw:=F.bw++ [(⟨x,(if r.getD 0 []=dt then 2 else 1:Nat),(decide (r.getD 2 []= [89])),F.rules.length,n⟩:di)],rules:=F.rules++xs} E aG rest bY seen (⟨x,(if r.getD 0 []=dt then 2 else 1:Nat),(decide (r.getD 2 []= [89])),F.rules.length,n⟩:di) a0 B dF dJ aF.drew (aM.wk (Md.refl _ _).drew) (bp.wk (Md.refl _ _).drew) a9 (by show (if r.getD 0 []=dt then 2 else 1)=1∨(if r.getD 0 []=dt then 2 else 1)=2; split <;> simp) (hT15.wk (Md.refl _ _).drew) eY.2) aa fun fP fa el=> ?_) fun c w' C σ' J=>by obtain ⟨e,he,h,h2⟩:=C; exact ⟨_,_,AU ae aZ aY bK (aX.bad ab dg he),h,cG.trans<|Wk.mw<|iQ h2⟩
 obtain ⟨q,cl,eW,⟨vn,rfl,c2⟩,bP⟩:=el;obtain ⟨a4,a5,rfl⟩:=c2.slice;have bP:=iQ bP;have cP:(fun w'=>Md (fun k=>E.v12.ownBlock=some k) aF w') fa:=Md.mono bP fun _ _ h=>h.elim;refine ⟨cP,?_⟩;refine gN 16 aa aj<|lf zf aa aa aa fun fh fc fo b6 dM=> ?_;have bb:=bP.trans b6.md;have O:=aM.wk bb;have cK:=bp.wk bb;have eu:=et.wk bb;have c5:=Wk.bl bb cb;have eB:=c2.wk b6.md;have fI:=(dD.1 cK.cells).1;have cS:(fun w'=>Md (fun k=>E.v12.ownBlock=some k) aF w') fc:=cP.trans' b6.md fun _ _ h=>h.elim;refine ⟨cS,?_⟩;refine gN 17 aa aj<|ap zf (O.dB) aa ab aa (aB.dT dM) (aa) (aa) (by simp only [bG]; omega) (by simp only [bG]; omega) fun v131 dk c9 aN fM fw=> ?_;have d9:=(cG.trans<|Wk.mw bb).trans<|Mw.of aN (TF.own O.dB aw) fun k hk=>(dH O.dB hk).1;have ep:=dy.own cK O.dB aN aw;have bE:=aN.bl O.cells<|dO O.dB O.cells aw;have cc:=aN.bl c5<|dO O.dB c5 aw;have ev:=eu.md aN<|iO O.dB aw;have eO:bo dk B 134 7 v131 ((F.rules++xs)++ [q]).length (iw<|((F.rules++xs)++ [q]).zip<|E.rn++ [.slice a4 q.next.length a5]):=by
  have e8:(F.rules++xs).length=E.rn.length:=by have :=O.nx.1; rw [fC] at this; exact this.symm
  rw [List.zip_append e8,show iw ((F.rules++xs).zip E.rn++ [q].zip [.slice a4 q.next.length a5])=iw ((F.rules++xs).zip E.rn)++eS (q,.slice a4 q.next.length a5) from by simp [iw],bG];exact c9
 have cT:(fun w'=>Md (fun k=>E.v12.ownBlock=some k) aF w') dk:=cS.trans' aN fun _ _ h=>h;refine ⟨cT,?_⟩;refine bU [18,19,20] aa cT<|dK 21 aa aj aj<|dd F4 aa aa (v:=v131) (e9 c9) bE (by show _ < 14; omega) fun a1 am b4=> ?_;have d1:=dX.xO (x:=q) (vx:= .slice a4 q.next.length a5) O eB aN eO am b4;have aR:=dy.pQ ep bE am;have c6:=am.bl cc fun h=>by rw [h,bE] at cc; cases cc
 have ew:=ev.md am<|fL bE aw;have ea:=d9.trans<|Mw.of am (TF.eq (dC bE) aw) fun k hk=>hk ▸ O.lo.1;refine eQ aj<|dz 1 aa ?_;have bt:(fun w'=>Md (fun k=>aG.vn.ownBlock=some k) a1 w') a1.drew:=(Md.refl _ _).drew;refine gO (fun w'=>Md (fun k=>aG.vn.ownBlock=some k) a1 w') 13 aa wide bt<|bU [0,1,2,3] aa bt<|kJ 4 aa aj (fun w' A=>ld1 aa<|Md.aV A ((a8 aR.cells).trans aa)<|dO aR.on aR.cells aw) bt<|bU [5,6,7] aa bt<|kJ 8 aa aj (fun w' A=>ld1 aa<|Md.aV A ((a8 aR.cells).trans aa)<|dO aR.on aR.cells aw) bt<|gN 9 aa aj<|gv lx aa aa fun fi dl fs ef dP=> ?_;have aK:=iQ ef.md;have Y:=aR.wk aK;have cB:=d1.wk aK;have fJ:=(dD.1 Y.cells).1;have cX:(fun w'=>Md (fun k=>aG.vn.ownBlock=some k) a1 w') dl:=Md.mono aK fun _ _ h=>h.elim;refine ⟨cX,?_⟩;refine gN 10 aa aj<|ap lx (Y.on) aa ab aa (aB.dT dP) (aa) (aa) (by simp only [bG]; omega) (by simp only [bG]; omega) fun v145 b0 da aO fN fx=> ?_;have ec:=(ea.trans<|Wk.mw aK).trans<|Mw.of aO (TF.own Y.on aw) fun k hk=>(dH Y.on hk).1;have c1:TF dl [5] (fun k=>aG.vn.ownBlock=some k):=TF.own Y.on aw;have cD:=cB.md aO c1 aw fun h=>by obtain ⟨f,ci,_⟩:=cB.cm; exact c1.no (eJ ci) aw h
 have bH:=aO.bl Y.cells<|dO Y.on Y.cells aw;have ce:=aO.bl (Wk.bl aK c6)<|dO Y.on (Wk.bl aK c6) aw;have eA:=(ew.wk aK).md aO<|iO Y.on aw;have eR:bo b0 B 3 1 v145 ((F.rules++xs)++ [q]).length (((F.rules++xs)++ [q]).map fun r=>gq .i64 (r.line:Nat)):=by
  rw [gS,bG];show bo b0 B 3 1 v145 _ (_++ [gq .i64 (q.line:Nat)]);rw [eW];exact da
 have cU:(fun w'=>Md (fun k=>aG.vn.ownBlock=some k) a1 w') b0:=cX.trans' aO fun _ _ h=>h;refine ⟨cU,?_⟩;refine bU [11,12] aa cU<|dK 13 aa aj aj<|dd Gd aa aa (v:=v145) (e9 da) bH (by show _ < 7; omega) fun bZ bi dL=> ?_;have c0:TF b0 [169] (fun k=>k=H.rb):=TF.eq (dC bH) aw;have d2:=cD.md bi c0 aw fun h=>by obtain ⟨f,ci,_⟩:=cD.cm; exact c0.no (eJ ci) aw h
 exact eQ aj<|bc 6 aa<|tn<|⟨_,ab,i+1,xs++ [q],rest,bY,{E with v12:=v131,rn:=E.rn++ [.slice a4 q.next.length a5]},{aG with vn:=v145},ab,(by rw [show n - (i+1)=n - i - 1 by omega]; exact aX.step ab dg cl),(by rw [bG,e7]; rfl),(by rw [← eX]; exact d2),(by rw [← eX]; exact dy.Vo (q:=q) Y aO eR bi dL aa fun _=>rfl),(⟨by simp only [bG,fg]; omega,a9.sl,a9.row,a9.kd,a9.al⟩),(ec.trans<|Mw.of bi (TF.eq (dC bH) aw) fun k hk=>hk ▸ Y.lo.1),(bi.bl ce fun h=>by rw [h,bH] at ce; cases ce),(eA.md bi<|fL bH aw),aa,aa⟩
 refine aJ 2 aa<|te _<|bc 1 aa<|kf<|f0 aa ?_;rw [show n - i=0 by omega] at aX;exact ⟨aa,_,rows',bX,O3 ae aZ aY bK aX.done,⟨E,R',cA,ax,ba⟩,cE⟩
end Go.Hb.oI
end
section
namespace Go.Hb
open Go.Hb.fj Go.Hb.mz Go.Hb.oI Go.Hb.oK
def tW:di:=⟨0,0,false,0,0⟩
theorem RM {x:Nat} :∀ {cs:List di} {i:Nat},cs.findIdx? (fun c=>decide (c.flag=x))=some i→∃ c,cs[i]? =some c∧eb cs x=some c:=by
 intro cs
 induction cs with
 | nil=>intro i h; simp at h
 | cons a l E=>
   intro i h;rw [List.findIdx?_cons] at h;unfold eb;rw [MK];by_cases A:a.flag=x
   · simp only [A,decide_true,if_true] at h ⊢;cases h;exact ⟨a,aa,aa⟩
   · simp only [A,decide_false] at h ⊢;simp only [Bool.false_eq_true,if_false,Option.map_eq_some_iff] at h;obtain ⟨j,C,rfl⟩:=h;obtain ⟨c,h1,h2⟩:=E C;exact ⟨c,by simpa using h1,h2⟩
theorem Ju {F:aE} {x:Nat} (h:x=F.sp.getD 0 0):nz F x=true :=by unfold nz; rw [decide_eq_true h]; rfl
theorem Jv {F:aE} {x:Nat} (h:(eb F.bw x).isSome=true) (hk:((eb F.bw x).getD tW).kind=2):nz F x=true :=by
 unfold nz;obtain ⟨c,A⟩:=nP.1 h;rw [A] at hk ⊢;simp only [An] at hk;simp [hk]
theorem yT {F:aE} {x:Nat} (A:x≠F.sp.getD 0 0) (h:(eb F.bw x).isSome=true) (hk:((eb F.bw x).getD tW).kind≠2):nz F x=false :=by
 unfold nz;obtain ⟨c,C⟩:=nP.1 h;rw [C] at hk ⊢;simp only [An] at hk;rw [decide_eq_false A];simp [hk]
theorem yU {F:aE} {x:Nat} (A:x≠F.sp.getD 0 0) (h:(eb F.bw x).isSome=false):nz F x=false :=by
 unfold nz;rw [decide_eq_false A];cases hc:eb F.bw x with
 | none=>rfl
 | some c=>rw [hc] at h; cases h
theorem rr {F:aE} {q:cJ} {j:Nat} (A:j < q.next.length) (h:nz F (q.next.getD j 0)=false):oO F q=true :=by
 unfold oO;rw [List.any_eq_true];exact ⟨_,dR A,by rw [h]; rfl⟩
theorem Fc {F:aE} {q:cJ} (h:∀ j,j < q.next.length→nz F (q.next.getD j 0)=true):oO F q=false :=by
 unfold oO;rw [Mx];intro x C;obtain ⟨j,A,rfl⟩:=mM 0 C;rw [h j A]; simp
theorem rH {p:cJ→Bool} {q:cJ} :∀ {l:List cJ} {i:Nat},(∀ j A,j < i→l[j]? =some A→p A=false)→l[i]? =some q→p q=true→l.find? p=some q:=by
 intro l
 induction l with
 | nil=>intro i _ h; simp at h
 | cons a l G=>
   intro i C hi hp;rw [MK];cases i with
   | zero=>simp only [List.getElem?_cons_zero,Option.some.injEq] at hi; subst hi; rw [hp]
   | succ i=>
     rw [C 0 a ab rfl];exact G (i:=i) (fun j A I E=>C (j+1) A ab<|by simpa using E) (by simpa using hi) hp
theorem G8 {p:cJ→Bool} {l:List cJ} (h:∀ j C,j < l.length→l[j]? =some C→p C=false):l.find? p=none:=by
 rw [Ep];intro q E;obtain ⟨j,A⟩:=List.getElem?_of_mem E;rw [h j q (ff.1 A).1 A]; simp
theorem RO {x:Nat} {cs:List di} (h:cs.findIdx? (fun c=>decide (c.flag=x))=none):eb cs x=none:=by
 rw [ML] at h;unfold eb;rw [Ep];intro c A;simpa using h c A
theorem Bk (B fb mc:Nat) (F:aE) (V:fy) (x:Nat) (w:ak) (C:dX w B fb mc F V) (aJ:F.bw.length≤70000):
 ba az 136 (a7 [bj fb,bf x]) w (fun v w'=>v= .tuple #[.agg (oU<|(eb F.bw x).getD tW).toArray,.bool (eb F.bw x).isSome]∧Wk w w'):=by
 obtain ⟨ac,ae,Z⟩:=cz C.eC;have O:=C.eC;rw [Z] at O;have am:Hb.aV w.heap fb 11=some (.slice ac F.bw.length ae):=by rw [← Z]; exact (a8 C.cells).trans rfl
 obtain ⟨f,ap,aq⟩:=C.cm;obtain ⟨iv,ob,av,ax,I⟩:∃ (iv:Nat) (ob:Bool),(f<|bf x).getD (.int .i64 0)=ay iv∧(f<|bf x).isSome=ob∧((ob=false∧eb F.bw x=none)∨(ob=true∧∃ c,F.bw[iv]? =some c∧eb F.bw x=some c)):=by
  rw [aq x];cases hfi:F.bw.findIdx? (fun c=>decide (c.flag=x)) with
  | none=>exact ⟨0,false,rfl,rfl,.inl ⟨rfl,RO hfi⟩⟩
  | some i=>exact ⟨i,true,rfl,rfl,.inr ⟨rfl,RM hfi⟩⟩
 refine enter func136 aa ntmps136 aa<|bg 2 aa<|e<|al uN fun aF aK aG A G=>au 7 aa<|p (lh xd aa aa)<|aQ 2 aa<|cf (aa)<|aH 7 aa<|p (ld1 aa<|Wk.aV A.md<|(a8 C.cells).trans aa)<|ep (bf x)<|p (IP ta oD sS (ap.wk A.md) aa aa (⟨_,aa⟩) (av)<|ax)<|p mv<|aQ 13 aa<|cb aa (fun E=> ?_) fun E=> ?_;have aA:ob=false :=by simpa using E
 have ao:eb F.bw x=none:=by rcases I with ⟨_,h⟩ | ⟨h,_⟩; exact h; rw [aA] at h; cases h
 exact aH 2 aa<|p (cV (ps:= []) (L:= [.int .u16 0,.int .i64 0,.bool false,.int .i64 0,.int .i64 0]) Dp aa<|aa)<|e<|c8 sM aa aa aa aa (G) (by simp) fun aL ai ag=>aC 5 aa<|eF aa (dU (cs:=oU tW) aa vt aa fun j aw=>ag.bu j) et<|⟨by rw [ao]; rfl,A.md.trans' ai fun k hk h=>by omega⟩
 have aD:ob=true :=by simpa using E
 obtain ⟨c,J,an⟩:∃ c,F.bw[iv]? =some c∧eb F.bw x=some c:=by rcases I with ⟨h,_⟩ | ⟨_,h⟩; rw [aD] at h; cases h; exact h
 have aI:=(ff.1 J).1;have Y:=aU O A.md;exact aH 8 aa<|p (ld1 aa<|Wk.aV A.md am)<|au 1 aa<|p (a6 RB aa aa ab<|aB.ok ((aX Y).2) fun h=>by have :=congrArg jr h; rw [show (nZ F.bw).length=F.bw.length*5 from mJ (f:=oU) (m:=5) (fun _=>rfl) _] at this; simp at this; omega)<|p (cQ vt aa (aa)<|fI (f:=oU) (m:=5) (fun _=>rfl) (aX Y).2 J)<|e<|c8 sM aa aa aa aa (G) (by simp) fun aM aj ah=>aC 4 aa<|eF aa (dU (cs:=oU c) aa vt aa fun j aw=>ah.bu j) et<|⟨by rw [an]; rfl,A.md.trans' aj fun k hk h=>by omega⟩
theorem OV (B:Nat) (H:dw) (F:aE) (rows:List Rw) (ln:Nat) (seen:List Tx) (w:ak) (bt:St w B H F rows ln seen) (bE:∀ q∈F.rules,q.next.length≤64):
 fR az 76 (a7 [.pointer (some ⟨H.rb,0,none⟩)]) w (fun v w'=>v= .tuple #[]∧F.rules.find? (oO F)=none∧(∃ V R' ay,dX w' B H.fb H.mc F V∧dy w' B H F R' rows ay seen)∧fQ B H w w') (fun c w'=> ∃ q,F.rules.find? (oO F)=some q∧c=jM 45 q.line 118∧fQ B H w w'):=by
 obtain ⟨V,R,O,aq,bb⟩:=bt;obtain ⟨a12,aF,aT⟩:=cz O.dB;have bF:=O.dB;rw [aT] at bF;have bw:Hb.aV w.heap H.fb 12=some (.slice a12 F.rules.length aF):=by rw [← aT]; exact (a8 O.cells).trans rfl
 obtain ⟨vr,vs,vn⟩:=R;obtain ⟨an,cv,bL⟩:=cz aq.on;obtain rfl :vn= .slice an F.rules.length cv:=bL;have bU:=bb.len;have bV:=aq.lo;refine kE func76 aa ntmps76 aa<|bg 5 aa<|p (ld1 aa<|(a8 aq.cells).trans aa)<|au 3 aa<|p (ld1 aa<|bw)<|aQ 5 aa<|lp (fun ae a9 am=> ∃ (i ay:Nat),(i≤F.rules.length)∧(∀ j q,j < i→F.rules[j]? =some q→oO F q=false)∧(dX am B H.fb H.mc F V)∧(dy am B H F ⟨vr,vs,.slice an F.rules.length cv⟩ rows ay seen)∧(fQ B H w am)∧(Sl a9 [(0,.pointer (some ⟨H.rb,0,none⟩)),(15,.slice a12 F.rules.length aF),(16,.int .i64 (F.rules.length:Nat)),(17,.int .i64 (i:Nat))])∧(F.rules.length - i=ae)) _ ⟨0,ln,ab,(fun j q a1=>by omega),O,aq,(Md.refl _ _),aa,aa⟩ ?_;rintro ae a9 am ⟨i,ay,hi,J,ap,aL,aW,bI,rfl⟩;refine bA bI<|bq 6 aa<|cd aa (fun bx=> ?_) fun bx=> ?_;refine bz 5 aa ?_;have aP:=ap.dB;rw [aT] at aP;have a0:i < F.rules.length:=ab;obtain ⟨vn,bK,aO⟩:=eD.get ap.nx (i:=i)<|by rw [fC]; exact a0
 obtain ⟨q,C⟩:∃ q,F.rules[i]? =some q:=⟨_,bY a0⟩
 have bH:(F.rules.map (·.next)).getD i []=q.next:=by rw [cH,fJ,C]; rfl
 rw [bH] at aO;have bZ:=bE q<|gB C;obtain ⟨aD,aG,rfl⟩:=aO.slice;have a2:(F.rules.zip V.rn)[i]? =some (q,.slice aD q.next.length aG):=by rw [List.getElem?_zip_eq_some]; exact ⟨C,bK⟩
 have a3:(iw<|F.rules.zip V.rn).length=(F.rules.zip V.rn).length*7:=mJ (f:=eS) (m:=7) (fun _=>rfl) _;have bD:(F.rules.map fun r=>gq .i64 (r.line:Nat))[i]? =some (.int .i64 (q.line:Nat)):=by rw [fJ,C]; rfl
 refine aH 2 aa<|p (a6 nk aa aa ab<|aB.ok ((aX aP).2) (fun h=>by rw [h] at a3; have h2:0=(F.rules.zip V.rn).length*7:=a3; have h3:=(ff.1 a2).1; omega)) ?_;refine p (cQ lI aa (aa)<|fI (f:=eS) (m:=7) (fun _=>rfl) (aX aP).2 a2)<|e<|al qZ fun bP b2 bR aZ bh=> ?_
 skip
 refine au 1 aa<|e<|c8 oW aa aa aa aa (bh) (by simp) fun bO bn bd=> ?_;have ao:Wk am bO:=aZ.md.trans' bn fun k hk h=>by omega
 have bl:=ap.wk ao;have E:=aL.wk ao;have b0:=aZ.size;have bW:=(dD.1 aL.cells).1;refine au 8 aa<|p (ld1 aa<|(a8 E.cells).trans aa)<|au 1 aa<|p (a6 ke aa aa ab<|aB.ok ((aX E.on).2)<|by simp; intro h; rw [h] at C; simp at C)<|p (ld1 aa<|aB.gV (aX E.on).2 bD)<|au 2 aa<|e<|dd gM aa aa (v:= .int .i64 (q.line:Nat)) aa E.cells (by show _ < 7; decide) fun b5 ah bk=> ?_;have bs:=E.cU (R':=⟨vr,vs,.slice an F.rules.length cv⟩) (ln':=q.line) ah bk rfl E.rws E.rt;have bm:=bl.rb E ah;have bv:=ah.B bd fun h=>by omega
 have bu:=(aO.wk ao).md ah<|fL E.cells aw;have bp:=(aW.trans<|Wk.mw ao).trans<|fQ.rb E ah;refine au 5 aa<|p (ld1 aa<|(bv.aV 6).trans aa)<|aQ 5 aa<|lp (fun ae ba ac=> ∃ (j:Nat),(j≤q.next.length)∧(∀ aj,aj < j→nz F (q.next.getD aj 0)=true)∧(dX ac B H.fb H.mc F V)∧(dy ac B H F ⟨vr,vs,.slice an F.rules.length cv⟩ rows q.line seen)∧(fQ B H w ac)∧(Tg ac B 95 q.next.length (.slice aD q.next.length aG)<|q.next.map bf)∧(Sl ba [(0,.pointer (some ⟨H.rb,0,none⟩)),(15,.slice a12 F.rules.length aF),(16,.int .i64 (F.rules.length:Nat)),(17,.int .i64 (i:Nat)),(33,.slice aD q.next.length aG),(34,.int .i64 (q.next.length:Nat)),(35,.int .i64 (j:Nat))])∧(q.next.length - j=ae)) _ ⟨0,ab,(fun aj bC=>by omega),bm,bs,bp,bu,aa,aa⟩ ?_;rintro ae ba ac ⟨j,a1,aR,aK,aN,aY,av,bJ,rfl⟩;refine bA bJ<|bq 6 aa<|cd aa (fun bB=> ?_) fun bB=> ?_;refine bz 5 aa ?_;have bM:(q.next.map bf)[j]? =some (bf<|q.next.getD j 0):=by rw [fJ,cH,bY (by omega :j < q.next.length)]; rfl
 refine aH 1 aa<|p (a6 bX aa aa ab<|aB.ok (av.cW.2)<|bS ab)<|p (ld1 aa<|aB.gV av.cW.2 bM)<|au 8 aa<|p (ld1 aa<|(a8 aN.cells).trans aa)<|au 1 aa<|e<|aM (Bk B H.fb H.mc F V (q.next.getD j 0) _ aK ab) aa ?_;rintro v45 b3 ⟨rfl,aU⟩;have b1:=aU.size;refine p mv<|au 2 aa<|e<|al uN fun bQ b4 bT br bi=>e<|c8 sM aa aa aa aa (bi) (by simp) fun aA bo bj=> ?_;have ag:Wk ac aA:=(aU.trans br.md).trans' bo fun k hk h=>by omega
 have aI:=aK.wk ag;have Z:=aN.wk ag;have G:=aY.trans<|Wk.mw ag;refine au 9 aa<|p (ld1 aa<|(a8 Z.cells).trans aa)<|au 3 aa<|p (kF vw aa aa ab)<|p (ld1 aa<|(a8 aI.cells).trans aa)<|au 2 aa<|gs (t:=60) aa (fun Y=> ?_) fun Y=> ?_;refine au 7 aa ?_;refine eP aa (dW iW (jc H.rb q.line _ 118 aA Z.du aw) aa fun a4 a5 ai=> ?_) (fun c w' A σ' O=>by
  first
   | exact absurd A.2.1 aw
   | exact ⟨q,rH J C (rr (j:=j) ab<|yT (fun h=>Y<|by rw [h]) I<|by have :=of_decide_eq_false A.2.1; omega),A.1,by rw [A.2.2]; exact G⟩
   | exact ⟨q,rH J C (rr (j:=j) ab<|yU (fun h=>Y<|by rw [h])<|by simpa using I),A.1,by rw [A.2.2]; exact G⟩)
 obtain ⟨rfl,ax,rfl⟩:=ai;exact aC 7 aa<|tn<|⟨_,ab,j+1,ab,(fun k hk=>by rcases fG k j with h | h <;> first | exact aR k h | (rw [show k=j by omega]; exact Ju ab)),aI,Z,G,(av.wk ag),aa,aa⟩
 refine au 2 aa<|gb (t:=62) aa (fun I=> ?_) fun I=> ?_;refine au 1 aa<|pg aa aa aa (ld1 aa<|(bj.aV 1).trans aa)<|au 3 aa ?_;refine eP aa (dW iW (jc H.rb q.line _ 118 aA Z.du aw) aa fun a4 a5 ai=> ?_) (fun c w' A σ' O=>by
  first
   | exact absurd A.2.1 aw
   | exact ⟨q,rH J C (rr (j:=j) ab<|yT (fun h=>Y<|by rw [h]) I<|by have :=of_decide_eq_false A.2.1; omega),A.1,by rw [A.2.2]; exact G⟩
   | exact ⟨q,rH J C (rr (j:=j) ab<|yU (fun h=>Y<|by rw [h])<|by simpa using I),A.1,by rw [A.2.2]; exact G⟩)
 obtain ⟨rfl,ax,rfl⟩:=ai;exact aC 7 aa<|tn<|⟨_,ab,j+1,ab,(fun k hk=>by rcases fG k j with h | h <;> first | exact aR k h | (rw [show k=j by omega]; exact Jv I<|by have :=of_decide_eq_true ax; omega)),aI,Z,G,(av.wk ag),aa,aa⟩
 refine au 4 aa<|p (rX aa) ?_;refine eP aa (dW iW (jc H.rb q.line _ 118 aA Z.du aw) aa fun a4 a5 ai=> ?_) (fun c w' A σ' O=>by
  first
   | exact absurd A.2.1 aw
   | exact ⟨q,rH J C (rr (j:=j) ab<|yT (fun h=>Y<|by rw [h]) I<|by have :=of_decide_eq_false A.2.1; omega),A.1,by rw [A.2.2]; exact G⟩
   | exact ⟨q,rH J C (rr (j:=j) ab<|yU (fun h=>Y<|by rw [h])<|by simpa using I),A.1,by rw [A.2.2]; exact G⟩)
 obtain ⟨rfl,ax,rfl⟩:=ai;exact aC 7 aa<|tn<|absurd ax aw;exact aJ 2 aa<|te _<|bc 7 aa<|tn<|⟨_,ab,i+1,q.line,ab,(fun k bN hk aS=>by rcases fG k i with h | h <;> first | exact J k bN h aS | (rw [show k=i by omega,C] at aS; cases aS; exact Fc fun aj bC=>aR aj ab)),aK,aN,aY,aa,aa⟩
 refine aJ 2 aa<|te _<|bc 1 aa<|kf<|f0 aa ?_;exact ⟨aa,G8 (fun j q a1 bG=>J j q ab bG),⟨V,_,_,ap,aL⟩,aW⟩
end Go.Hb
end
section
namespace Go.Hb
open Go.Hb.fj Go.Hb.mz
def Nx (F:aE):Prop :=(∀ l∈F.aliases,l.length≤64)∧∀ q∈F.rules,q.next.length≤64
theorem BN {α:Type} {hd:List Tx} {rd:Nat→List Tx→Except Nat α} {eof:Nat} :∀ (n:Nat) (rows:List Rw) (r:List α×List Rw),group hd rd eof n rows= .ok r→∀ x∈r.1,∃ ln row,rd ln row= .ok x:=by
 intro n
 induction n with
 | zero=>intro rows r h; simp only [group,tk] at h; subst h; intro x A; cases A
 | succ n C=>
   intro rows r h;cases rows with
   | nil=>simp [group] at h
   | cons q rows=>
     obtain ⟨ln,row⟩:=q;simp only [group] at h;split at h
     · cases h
     · cases hr:rd ln row with
       | error e=>rw [hr] at h; cases h
       | ok y=>
         rw [hr] at h;simp only at h;cases hg:group hd rd eof n rows with
         | error e=>rw [hg] at h; cases h
         | ok E=>
           rw [hg] at h;simp only [tk] at h;subst h;intro x A;rcases fi.1 A with A | A
           · exact ⟨ln,row,by rw [A]; exact hr⟩
           · exact C rows E hg x A
theorem HC {kind:Nat} {s:Tx} {l:List Nat} (h:lj kind s= .ok l):l.length≤64:=by
 unfold lj at h;split at h
 · cases h
 · rename_i A;cases h;exact (HA<|jG.1 A).1
theorem NN {kind ln:Nat} {row:List Tx} {l:List Nat} (h:kS kind ln row= .ok l):l.length≤64:=by
 unfold kS at h;split at h
 · cases h
 · exact HC h
theorem yi {kind:Nat} {al:List (List Nat)} {s:Tx} {l:List Nat} (A:∀ l∈al,l.length≤64) (h:gx kind al s= .ok l):l.length≤64:=by
 unfold gx at h;split at h
 · exact HC h
 · split at h
   · cases h
   · split at h
     · cases h
     · cases h;rename_i n _ _;rw [cH];cases hg:al[n - 1]? with
       | none=>simp
       | some x=>exact A x<|gB hg
theorem Xe {kind ln:Nat} {al:List (List Nat)} {c:di} {row:List Tx} {q:cJ} (C:∀ l∈al,l.length≤64) (h:fV kind al c ln row= .ok q):q.next.length≤64:=by
 unfold fV at h;split at h
 · cases h
 · split at h
   · cases h
   · split at h
     · cases h
     · split at h
       · cases h
       · rename_i nx A;split at h
         · cases h
         · cases h;unfold ll at A;split at A
           · split at A
             · cases A
             · exact yi C A
           · cases A; simp
theorem yx {eof ln:Nat} {F F':aE} {hs:List Tx} {rows rows':List Rw} {row:List Tx} (h:Nx F) (A:ca eof F hs rows ln row= .ok (F',rows')):Nx F':=by
 unfold ca at A;split at A
 · unfold kp at A;split at A
   · cases A
   · cases A; exact h
 · split at A
   · unfold kI at A;split at A
     · cases A
     · split at A
       · cases A
       · cases A; exact h
   · split at A
     · unfold mP at A;split at A
       · cases A
       · cases A; exact h
     · split at A
       · unfold mT at A;split at A
         · cases A
         · cases A; exact h
       · split at A
         · unfold kX at A;split at A
           · cases A
           · split at A
             · cases A
             · cases A; exact h
         · split at A
           · unfold ko at A;split at A
             · cases A
             · split at A
               · cases A
               · cases A; exact h
           · split at A
             · unfold j9 at A;split at A
               · cases A
               · split at A
                 · cases A
                 · split at A
                   · cases A
                   · rename_i r G;cases A;refine ⟨fun l C=> ?_,h.2⟩;rcases jT.1 C with C | C
                     · exact h.1 l C
                     · obtain ⟨_,_,h2⟩:=BN _ _ _ G l C;exact NN h2
             · unfold hU at A;split at A
               · cases A
               · split at A
                 · cases A
                 · split at A
                   · cases A
                   · split at A
                     · cases A
                     · split at A
                       · cases A
                       · rename_i r G;cases A;refine ⟨h.1,fun q E=> ?_⟩;rcases jT.1 E with E | E
                         · exact h.2 q E
                         · obtain ⟨_,_,h2⟩:=BN _ _ _ G q E;exact Xe h.1 h2
theorem Tm {eof ln:Nat} {F F':aE} {hs:List Tx} {rows rows':List Rw} {row:List Tx} (C:row.getD 0 []∉eh) (A:ca eof F hs rows ln row= .ok (F',rows')):F'.sp=F.sp:=by
 unfold ca at A;rw [if_neg C] at A;unfold kI mP mT kX ko j9 hU at A
 repeat' split at A
 all_goals first
  | (cases A; done)
  | (cases A; rfl)
theorem If {eof ln:Nat} {F F':aE} {seen:List Tx} {rows rows':List Rw} {row:List Tx} (h:kR F seen) (A:ca eof F seen rows ln row= .ok (F',rows')):kR F' (seen++ [row.getD 0 []]):=by
 intro k hk E;rw [jT,iS] at E;have I:k∉seen:=fun h=>E<|.inl h;have J:k≠row.getD 0 []:=fun h=>E<|.inr h;by_cases C:row.getD 0 []∈eh
 · unfold ca at A;rw [if_pos C] at A;unfold kp at A;split at A
   · cases A
   · cases A;show (F.sp.set (eh.idxOf<|row.getD 0 []) _).getD (eh.idxOf k) 0=0;rw [cH,List.getElem?_set,if_neg,← cH]
     · exact h k hk I
     · intro he;have G:∀ a∈eh,eh.getD (eh.idxOf a) []=a:=aw;have h1:=G _ C;have h2:=G _ hk;rw [he] at h1;exact J<|h2.symm.trans h1
 · rw [Tm C A]; exact h k hk I
end Go.Hb
end
namespace Go.Hb
def iZ (s:Tx):Option ag:=if s=dt then some (bN #[.int .i64 (4:Nat),.func (.func 134) #[] #[]]) else if s=fU then some (bN #[.int .i64 (4:Nat),.func (.func 134) #[] #[]]) else if s=eN then some (bN #[.int .i64 (2:Nat),.func (.func 133) #[] #[]]) else if s=fA then some (bN #[.int .i64 (2:Nat),.func (.func 132) #[] #[]]) else if s=kG then some (bN #[.int .i64 (2:Nat),.func (.func 131) #[] #[]]) else if s=l8 then some (bN #[.int .i64 (2:Nat),.func (.func 130) #[] #[]]) else if s=lP then some (bN #[.int .i64 (2:Nat),.func (.func 130) #[] #[]]) else if s=lk then some (bN #[.int .i64 (2:Nat),.func (.func 130) #[] #[]]) else if s=kW then some (bN #[.int .i64 (2:Nat),.func (.func 130) #[] #[]]) else if s=kH then some (bN #[.int .i64 (2:Nat),.func (.func 130) #[] #[]]) else if s=jj then some (bN #[.int .i64 (2:Nat),.func (.func 129) #[] #[]]) else if s=ja then some (bN #[.int .i64 (2:Nat),.func (.func 128) #[] #[]]) else if s=iN then some (bN #[.int .i64 (2:Nat),.func (.func 127) #[] #[]]) else none
def zF:ag→Option ag:=fun _=>none
def zG:Tx→Option ag:=fun _=>none
theorem str_inj {a b:Tx} :str a=str b↔a=b:=⟨fun h=>by unfold str at h; cases h; rfl,fun h=>by rw [h]⟩
theorem nC {f:ag→Option ag} {g:Tx→Option ag} {k:Tx} {v:ag} (h:∀ s,f (str s)=g s) (s:Tx):bM f (str k) v (str s)=if s=k then some v else g s:=by
 by_cases hs:s=k
 · subst hs; rw [ow,if_pos rfl]
 · rw [me (fun h2=>hs<|str_inj.1 h2),if_neg hs,h s]
theorem Tn (w:ak):
 ba az 73 (a7 []) w (fun v w'=> ∃ b,v= .map (some b)∧b=w.heap.size∧(∃ f,cR w'.heap b jN f∧∀ s,f (str s)=iZ s)∧Wk w w'):=by
 refine enter func73 aa ntmps73 aa<|bg 7 aa<|e<|sY fun A C bo aS ai=> ?_;have aT:cR C.heap A jN zF:=cR.nil ai;have bp:∀ s:Tx,zF (str s)=zG s:=fun _=>rfl;have aj:Wk w C:=aS.md;refine p (cV (ps:= [(0,ay 2),(1,.func (.func 127) #[] #[])]) (L:= [ay 2,.func (.func 127) #[] #[]]) nJ aa<|aa)<|e<|nu mU jk (aT) aa aa aa (⟨_,aa⟩) fun V aJ aZ=> ?_;have a8:cR V.heap A jN (bM zF (str iN)<|bN #[ay 2,.func (.func 127) #[] #[]]):=aZ;have bq:=nC (k:=iN) (v:=bN #[ay 2,.func (.func 127) #[] #[]]) bp;have al:Wk w V:=aj.trans' aJ fun k hk h=>by omega
 refine p (cV (ps:= [(0,ay 2),(1,.func (.func 128) #[] #[])]) (L:= [ay 2,.func (.func 128) #[] #[]]) nJ aa<|aa)<|e<|nu mU jk (a8) aa aa aa (⟨_,aa⟩) fun ae aO a4=> ?_;have a9:cR ae.heap A jN (bM (bM zF (str iN)<|bN #[ay 2,.func (.func 127) #[] #[]]) (str ja)<|bN #[ay 2,.func (.func 128) #[] #[]]):=a4;have bv:=nC (k:=ja) (v:=bN #[ay 2,.func (.func 128) #[] #[]]) bq;have aq:Wk w ae:=al.trans' aO fun k hk h=>by omega
 refine p (cV (ps:= [(0,ay 2),(1,.func (.func 129) #[] #[])]) (L:= [ay 2,.func (.func 129) #[] #[]]) nJ aa<|aa)<|e<|nu mU jk (a9) aa aa aa (⟨_,aa⟩) fun ag aP a5=> ?_;have bf:cR ag.heap A jN (bM (bM (bM zF (str iN)<|bN #[ay 2,.func (.func 127) #[] #[]]) (str ja)<|bN #[ay 2,.func (.func 128) #[] #[]]) (str jj)<|bN #[ay 2,.func (.func 129) #[] #[]]):=a5;have bw:=nC (k:=jj) (v:=bN #[ay 2,.func (.func 129) #[] #[]]) bv;have au:Wk w ag:=aq.trans' aP fun k hk h=>by omega
 refine p (cV (ps:= [(0,ay 2),(1,.func (.func 130) #[] #[])]) (L:= [ay 2,.func (.func 130) #[] #[]]) nJ aa<|aa)<|e<|nu mU jk (bf) aa aa aa (⟨_,aa⟩) fun ah aQ a6=> ?_;have bh:cR ah.heap A jN (bM (bM (bM (bM zF (str iN)<|bN #[ay 2,.func (.func 127) #[] #[]]) (str ja)<|bN #[ay 2,.func (.func 128) #[] #[]]) (str jj)<|bN #[ay 2,.func (.func 129) #[] #[]]) (str kH)<|bN #[ay 2,.func (.func 130) #[] #[]]):=a6;have bx:=nC (k:=kH) (v:=bN #[ay 2,.func (.func 130) #[] #[]]) bw;have av:Wk w ah:=au.trans' aQ fun k hk h=>by omega
 refine p (cV (ps:= [(0,ay 2),(1,.func (.func 130) #[] #[])]) (L:= [ay 2,.func (.func 130) #[] #[]]) nJ aa<|aa)<|e<|nu mU jk (bh) aa aa aa (⟨_,aa⟩) fun E aE aU=> ?_;have bi:cR E.heap A jN (bM (bM (bM (bM (bM zF (str iN)<|bN #[ay 2,.func (.func 127) #[] #[]]) (str ja)<|bN #[ay 2,.func (.func 128) #[] #[]]) (str jj)<|bN #[ay 2,.func (.func 129) #[] #[]]) (str kH)<|bN #[ay 2,.func (.func 130) #[] #[]]) (str kW)<|bN #[ay 2,.func (.func 130) #[] #[]]):=aU;have bz:=nC (k:=kW) (v:=bN #[ay 2,.func (.func 130) #[] #[]]) bx;have aw:Wk w E:=av.trans' aE fun k hk h=>by omega
 refine p (cV (ps:= [(0,ay 2),(1,.func (.func 130) #[] #[])]) (L:= [ay 2,.func (.func 130) #[] #[]]) nJ aa<|aa)<|e<|nu mU jk (bi) aa aa aa (⟨_,aa⟩) fun G aF aV=> ?_;have bj:cR G.heap A jN (bM (bM (bM (bM (bM (bM zF (str iN)<|bN #[ay 2,.func (.func 127) #[] #[]]) (str ja)<|bN #[ay 2,.func (.func 128) #[] #[]]) (str jj)<|bN #[ay 2,.func (.func 129) #[] #[]]) (str kH)<|bN #[ay 2,.func (.func 130) #[] #[]]) (str kW)<|bN #[ay 2,.func (.func 130) #[] #[]]) (str lk)<|bN #[ay 2,.func (.func 130) #[] #[]]):=aV;have bA:=nC (k:=lk) (v:=bN #[ay 2,.func (.func 130) #[] #[]]) bz;have ax:Wk w G:=aw.trans' aF fun k hk h=>by omega
 refine p (cV (ps:= [(0,ay 2),(1,.func (.func 130) #[] #[])]) (L:= [ay 2,.func (.func 130) #[] #[]]) nJ aa<|aa)<|e<|nu mU jk (bj) aa aa aa (⟨_,aa⟩) fun I aG aW=> ?_;have bk:cR I.heap A jN (bM (bM (bM (bM (bM (bM (bM zF (str iN)<|bN #[ay 2,.func (.func 127) #[] #[]]) (str ja)<|bN #[ay 2,.func (.func 128) #[] #[]]) (str jj)<|bN #[ay 2,.func (.func 129) #[] #[]]) (str kH)<|bN #[ay 2,.func (.func 130) #[] #[]]) (str kW)<|bN #[ay 2,.func (.func 130) #[] #[]]) (str lk)<|bN #[ay 2,.func (.func 130) #[] #[]]) (str lP)<|bN #[ay 2,.func (.func 130) #[] #[]]):=aW;have bB:=nC (k:=lP) (v:=bN #[ay 2,.func (.func 130) #[] #[]]) bA;have aA:Wk w I:=ax.trans' aG fun k hk h=>by omega
 refine p (cV (ps:= [(0,ay 2),(1,.func (.func 130) #[] #[])]) (L:= [ay 2,.func (.func 130) #[] #[]]) nJ aa<|aa)<|e<|nu mU jk (bk) aa aa aa (⟨_,aa⟩) fun J aH aX=> ?_;have bl:cR J.heap A jN (bM (bM (bM (bM (bM (bM (bM (bM zF (str iN)<|bN #[ay 2,.func (.func 127) #[] #[]]) (str ja)<|bN #[ay 2,.func (.func 128) #[] #[]]) (str jj)<|bN #[ay 2,.func (.func 129) #[] #[]]) (str kH)<|bN #[ay 2,.func (.func 130) #[] #[]]) (str kW)<|bN #[ay 2,.func (.func 130) #[] #[]]) (str lk)<|bN #[ay 2,.func (.func 130) #[] #[]]) (str lP)<|bN #[ay 2,.func (.func 130) #[] #[]]) (str l8)<|bN #[ay 2,.func (.func 130) #[] #[]]):=aX;have bC:=nC (k:=l8) (v:=bN #[ay 2,.func (.func 130) #[] #[]]) bB;have aB:Wk w J:=aA.trans' aH fun k hk h=>by omega
 refine p (cV (ps:= [(0,ay 2),(1,.func (.func 131) #[] #[])]) (L:= [ay 2,.func (.func 131) #[] #[]]) nJ aa<|aa)<|e<|nu mU jk (bl) aa aa aa (⟨_,aa⟩) fun O aI aY=> ?_;have bm:cR O.heap A jN (bM (bM (bM (bM (bM (bM (bM (bM (bM zF (str iN)<|bN #[ay 2,.func (.func 127) #[] #[]]) (str ja)<|bN #[ay 2,.func (.func 128) #[] #[]]) (str jj)<|bN #[ay 2,.func (.func 129) #[] #[]]) (str kH)<|bN #[ay 2,.func (.func 130) #[] #[]]) (str kW)<|bN #[ay 2,.func (.func 130) #[] #[]]) (str lk)<|bN #[ay 2,.func (.func 130) #[] #[]]) (str lP)<|bN #[ay 2,.func (.func 130) #[] #[]]) (str l8)<|bN #[ay 2,.func (.func 130) #[] #[]]) (str kG)<|bN #[ay 2,.func (.func 131) #[] #[]]):=aY;have bD:=nC (k:=kG) (v:=bN #[ay 2,.func (.func 131) #[] #[]]) bC;have aD:Wk w O:=aB.trans' aI fun k hk h=>by omega
 refine p (cV (ps:= [(0,ay 2),(1,.func (.func 132) #[] #[])]) (L:= [ay 2,.func (.func 132) #[] #[]]) nJ aa<|aa)<|e<|nu mU jk (bm) aa aa aa (⟨_,aa⟩) fun Y aK a0=> ?_;have bn:cR Y.heap A jN (bM (bM (bM (bM (bM (bM (bM (bM (bM (bM zF (str iN)<|bN #[ay 2,.func (.func 127) #[] #[]]) (str ja)<|bN #[ay 2,.func (.func 128) #[] #[]]) (str jj)<|bN #[ay 2,.func (.func 129) #[] #[]]) (str kH)<|bN #[ay 2,.func (.func 130) #[] #[]]) (str kW)<|bN #[ay 2,.func (.func 130) #[] #[]]) (str lk)<|bN #[ay 2,.func (.func 130) #[] #[]]) (str lP)<|bN #[ay 2,.func (.func 130) #[] #[]]) (str l8)<|bN #[ay 2,.func (.func 130) #[] #[]]) (str kG)<|bN #[ay 2,.func (.func 131) #[] #[]]) (str fA)<|bN #[ay 2,.func (.func 132) #[] #[]]):=a0;have br:=nC (k:=fA) (v:=bN #[ay 2,.func (.func 132) #[] #[]]) bD;have am:Wk w Y:=aD.trans' aK fun k hk h=>by omega
 refine p (cV (ps:= [(0,ay 2),(1,.func (.func 133) #[] #[])]) (L:= [ay 2,.func (.func 133) #[] #[]]) nJ aa<|aa)<|e<|nu mU jk (bn) aa aa aa (⟨_,aa⟩) fun Z aL a1=> ?_;have bb:cR Z.heap A jN (bM (bM (bM (bM (bM (bM (bM (bM (bM (bM (bM zF (str iN)<|bN #[ay 2,.func (.func 127) #[] #[]]) (str ja)<|bN #[ay 2,.func (.func 128) #[] #[]]) (str jj)<|bN #[ay 2,.func (.func 129) #[] #[]]) (str kH)<|bN #[ay 2,.func (.func 130) #[] #[]]) (str kW)<|bN #[ay 2,.func (.func 130) #[] #[]]) (str lk)<|bN #[ay 2,.func (.func 130) #[] #[]]) (str lP)<|bN #[ay 2,.func (.func 130) #[] #[]]) (str l8)<|bN #[ay 2,.func (.func 130) #[] #[]]) (str kG)<|bN #[ay 2,.func (.func 131) #[] #[]]) (str fA)<|bN #[ay 2,.func (.func 132) #[] #[]]) (str eN)<|bN #[ay 2,.func (.func 133) #[] #[]]):=a1;have bs:=nC (k:=eN) (v:=bN #[ay 2,.func (.func 133) #[] #[]]) br;have an:Wk w Z:=am.trans' aL fun k hk h=>by omega
 refine p (cV (ps:= [(0,ay 4),(1,.func (.func 134) #[] #[])]) (L:= [ay 4,.func (.func 134) #[] #[]]) nJ aa<|aa)<|e<|nu mU jk (bb) aa aa aa (⟨_,aa⟩) fun ab aM a2=> ?_;have bc:cR ab.heap A jN (bM (bM (bM (bM (bM (bM (bM (bM (bM (bM (bM (bM zF (str iN)<|bN #[ay 2,.func (.func 127) #[] #[]]) (str ja)<|bN #[ay 2,.func (.func 128) #[] #[]]) (str jj)<|bN #[ay 2,.func (.func 129) #[] #[]]) (str kH)<|bN #[ay 2,.func (.func 130) #[] #[]]) (str kW)<|bN #[ay 2,.func (.func 130) #[] #[]]) (str lk)<|bN #[ay 2,.func (.func 130) #[] #[]]) (str lP)<|bN #[ay 2,.func (.func 130) #[] #[]]) (str l8)<|bN #[ay 2,.func (.func 130) #[] #[]]) (str kG)<|bN #[ay 2,.func (.func 131) #[] #[]]) (str fA)<|bN #[ay 2,.func (.func 132) #[] #[]]) (str eN)<|bN #[ay 2,.func (.func 133) #[] #[]]) (str fU)<|bN #[ay 4,.func (.func 134) #[] #[]]):=a2;have bt:=nC (k:=fU) (v:=bN #[ay 4,.func (.func 134) #[] #[]]) bs;have ao:Wk w ab:=an.trans' aM fun k hk h=>by omega
 refine p (cV (ps:= [(0,ay 4),(1,.func (.func 134) #[] #[])]) (L:= [ay 4,.func (.func 134) #[] #[]]) nJ aa<|aa)<|e<|nu mU jk (bc) aa aa aa (⟨_,aa⟩) fun ac aN a3=> ?_;have bd:cR ac.heap A jN (bM (bM (bM (bM (bM (bM (bM (bM (bM (bM (bM (bM (bM zF (str iN)<|bN #[ay 2,.func (.func 127) #[] #[]]) (str ja)<|bN #[ay 2,.func (.func 128) #[] #[]]) (str jj)<|bN #[ay 2,.func (.func 129) #[] #[]]) (str kH)<|bN #[ay 2,.func (.func 130) #[] #[]]) (str kW)<|bN #[ay 2,.func (.func 130) #[] #[]]) (str lk)<|bN #[ay 2,.func (.func 130) #[] #[]]) (str lP)<|bN #[ay 2,.func (.func 130) #[] #[]]) (str l8)<|bN #[ay 2,.func (.func 130) #[] #[]]) (str kG)<|bN #[ay 2,.func (.func 131) #[] #[]]) (str fA)<|bN #[ay 2,.func (.func 132) #[] #[]]) (str eN)<|bN #[ay 2,.func (.func 133) #[] #[]]) (str fU)<|bN #[ay 4,.func (.func 134) #[] #[]]) (str dt)<|bN #[ay 4,.func (.func 134) #[] #[]]):=a3;have bu:=nC (k:=dt) (v:=bN #[ay 4,.func (.func 134) #[] #[]]) bt;have ap:Wk w ac:=ao.trans' aN fun k hk h=>by omega
 exact aC 5 aa<|aR aa<|⟨A,aa,bo,⟨_,bd,fun s=>bu s⟩,ap⟩
theorem Wu (J O:Nat) (w:ak):
 CallsD az 72 (a7 [.pointer (some ⟨J,0,none⟩),.pointer (some ⟨O,0,none⟩)]) .returning w (fun en V w'=> ∃ v,en= .returned v∧V= .returning∧(fun w'=>Wk w w') w'):=by
 refine Fz (v:= .nilIface) func72 aa ntmps72 aa (fun ab cs I=> .inr ⟨by simp [recoverD,I],aa,aa⟩) ?_;refine p (Yk Cp ZN aa)<|p mv<|p (xt aa aa)<|p (xt aa aa)<|e<|al q4 fun Z ag ae G A=>e<|c8 kj aa aa aa aa (A) (by simp) fun ah E ac=>p bm<|nl<|tn<|sq fun Y C=>rg aa<|p mv<|nl<|tn<|C _ _<|cf (aa)<|Ku<|f0 aa ?_;exact G.md.trans' E fun k hk h=>by omega
theorem Wt (A C:Nat) (ln:Nat) (er:Int) (w:ak) (h2:∃ v:ag,w.heap[A]? =some (.cells [v].toArray 88 (0,0))) (h3:∃ L:List ag,L.length=3∧w.heap[C]? =some (.cells L.toArray 45 (0,0))) (ae:A≠C):
 CallsD az 72 (a7 [.pointer (some ⟨A,0,none⟩),.pointer (some ⟨C,0,none⟩)]) (.panicking<|jM 45 ln er) w (fun en ay w'=> ∃ v,en= .returned v∧ay=(.panicking [{v:= .iface 45 (.agg [.int .i64 1,.int .i64 (ln:Nat),.int .i64 er].toArray),recovered:=true}])∧(fun w'=>w'.heap[A]? =some (.cells [.pointer none].toArray 88 (0,0))∧w'.heap[C]? =some (.cells [.int .i64 1,.int .i64 (ln:Nat),.int .i64 er].toArray 45 (0,0))∧Md (fun k=>k=A∨k=C) w w') w'):=by
 obtain ⟨v2,h2⟩:=h2;obtain ⟨Y,aq,h3⟩:=h3;have aG:=(dD.1 h2).1;have aH:=(dD.1 h3).1;refine Fz (v:= .iface 45<|.agg [.int .i64 1,.int .i64 (ln:Nat),.int .i64 er].toArray) func72 aa ntmps72 aa (fun aD cs aw=> .inl<|by simp [recoverD,aw,jM]) ?_;refine p (Yj Cp aa)<|p mv<|p (xt aa aa)<|p (xt aa aa)<|e<|al q4 fun ah aI aE O am=>e<|c8 kj aa aa aa aa (am) (by simp) fun E G ai=> ?_;have ao:bO E.heap ah [.int .i64 1,.int .i64 (ln:Nat),.int .i64 er]:=ai;refine p bm<|nl<|tn<|sq fun aC ap=>rg aa<|p mv<|nl<|tn<|ap _ _<|ct (aa) ?_;have V:(fun w'=>Md (fun k=>k=A∨k=C) E w') E.drew:=(Md.refl _ _).drew;refine dY (fun w'=>Md (fun k=>k=A∨k=C) E w') aa wide V<|hp 0 aa aj (fun w' au=>cQ lJ aa (aa) fun j aF=>bO.bu (Md.B au ao fun h=>by omega) j) V<|he 1 aa aj<|dd A0 aa aa (v:= .pointer none) aa (G.bl (Wk.bl O.md h2) fun h=>by omega) (by show 0 < 1; decide) fun aA I an=> ?_;have ac:(fun w'=>Md (fun k=>k=A∨k=C) E w') aA:=V.trans' I fun _ _ h=> .inl h;refine ⟨ac,?_⟩;refine he 2 aa aj<|gA kj aa aa aa aa (I.bl (G.bl (Wk.bl O.md h3) fun h=>by omega) fun h=>ae h.symm) (by rw [aq]; decide) fun aB J Z=> ?_;have av:(fun w'=>Md (fun k=>k=A∨k=C) E w') aB:=ac.trans' J fun _ _ h=> .inr h;refine ⟨av,?_⟩;refine hn aj<|f0 aa ?_;have ax:Y.take 0 ++ [gq .i64 1,.int .i64 (ln:Nat),.int .i64 er]++Y.drop (0 +3)= [gq .i64 1,.int .i64 (ln:Nat),.int .i64 er]:=by rw [iR ab]; rfl
 rw [ax] at Z;exact ⟨J.bl an ae,Z,(((O.md.mono fun _ _ h=>h.elim).trans' G fun k hk h=>by omega).trans' (iQ I) fun _ _ h=> .inl h).trans' J fun _ _ h=> .inr h⟩
theorem JP (A C:Nat) (w:ak):(invoke (.fn (.func 72) #[bj A,bj C]) #[]).run az w= .ok (.enter 72 #[bj A,bj C]) w:=by
 have h:=OG #[bj A,bj C] w;simp [invoke,h]
theorem yd {n:Nat} {D:List Deferred} {G:List Nat} {σ:Nat→ag} {t:Nat} (h:t < n):ev ⟨n,D,G,none⟩ σ (.tmp t)=σ t:=by
 show cond (Nat.blt t n) (σ t) undef=_;rw [show Nat.blt t n=true from by simpa using h]; rfl
theorem Wx {n:Nat} {G:List Nat} {fn:Func} {R:ag→ak→Prop} {σ:Nat→ag} {w:ak} {A C ln:Nat} {er:Int} (V:fn.results= #[.cell 2 88,.cell 3 45]) (ac:3 < n) (Y:σ 2= .pointer (some ⟨A,0,none⟩)) (Z:σ 3= .pointer (some ⟨C,0,none⟩)) (h2:∃ v:ag,w.heap[A]? =some (.cells [v].toArray 88 (0,0))) (h3:∃ L:List ag,L.length=3∧w.heap[C]? =some (.cells L.toArray 45 (0,0))) (O:A≠C)
 (E:∀ w',Md (fun k=>k=A∨k=C) w w'→R (.tuple #[.pointer none,.agg [.int .i64 1,.int .i64 (ln:Nat),.int .i64 er].toArray]) w'):qb ⟨n,[{target:= .fn (.func 72) #[.pointer (some ⟨A,0,none⟩),.pointer (some ⟨C,0,none⟩)],args:= #[]}],G,none⟩ (rk az fn R) (.panic<|jM 45 ln er) σ w:=by
 refine pR (JP A C w) (Wt A C ln er w h2 h3 O) ?_;rintro w' ⟨I,J,hm⟩;exact ⟨_,y7 V (oz<|C5 ((yd ab).trans Y) EV<|(a8 I).trans aa) (oz<|dU (cs:= [.int .i64 1,.int .i64 (ln:Nat),.int .i64 er]) ((yd ab).trans Z) lJ aa fun j _=>by rw [im,a8 J]; simp),E w' hm⟩
theorem Wy {n:Nat} {G:List Nat} {fn:Func} {R:ag→ak→Prop} {σ:Nat→ag} {w:ak} {A C:Nat} {v:ag} {L:List ag} (V:fn.results= #[.cell 2 88,.cell 3 45]) (ac:3 < n) (Y:σ 2= .pointer (some ⟨A,0,none⟩)) (Z:σ 3= .pointer (some ⟨C,0,none⟩)) (h2:w.heap[A]? =some (.cells [v].toArray 88 (0,0))) (h3:w.heap[C]? =some (.cells L.toArray 45 (0,0))) (E:L.length=3)
 (I:∀ w',Wk w w'→R (.tuple #[v,.agg L.toArray]) w'):qb ⟨n,[{target:= .fn (.func 72) #[.pointer (some ⟨A,0,none⟩),.pointer (some ⟨C,0,none⟩)],args:= #[]}],G,none⟩ (rk az fn R) .ret σ w:=by
 refine RE (JP A C w) (Wu A C w) ?_;intro w' hm;have J:=Wk.bl hm h2;have O:=Wk.bl hm h3;exact ⟨_,y7 V (oz<|C5 ((yd ab).trans Y) EV<|(a8 J).trans aa) (oz<|dU (cs:=L) ((yd ab).trans Z) lJ E fun j _=>by rw [im,a8 O]; simp),I w' hm⟩
end Go.Hb
