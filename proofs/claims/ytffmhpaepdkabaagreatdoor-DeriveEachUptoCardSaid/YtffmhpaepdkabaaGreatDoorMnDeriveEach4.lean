/-
  Walks and plain laws that the law rests on, laid together. No conditions but those that each theorem names.
-/
import Derived.Test.YtffmhpaepdkabaaGreatDoorMnDeriveEach3
set_option linter.unusedVariables false
set_option maxRecDepth 20000
set_option maxHeartbeats 1000000
open Array renaming getElem?_eq_some_iff→cQ
open Bool renaming eq_iff_iff→tK,noConfusion→ei
open Classical renaming not_not→jq
open Go.Proofs.Tryz renaming prog→aw
open Go.Value renaming bool→bT,int→jk,oneCell'→gC,slice→bR,tuple→gz
open Go.Value.slice renaming injEq→mL
open Go.World renaming ownsRow→bu,ownsRow_nil→dx
open List renaming append_assoc→dF,append_nil→ek,count_eq_zero→qT,count_le_length→tT,count_pos_iff→zy,drop_drop→r4,drop_eq_nil_of_le→gV,drop_succ_cons→vX,drop_take→r5,drop_zero→vY,eq_nil_of_length_eq_zero→fS,flatMap_append→n8,flatMap_singleton→pX,getD_cons_zero→lO,getD_eq_getElem?_getD→cV,getElem?_eq_getElem→cD,idxOf_lt_length_iff→wc,length→jy,length_append→bL,length_cons→cT,length_drop→fP,length_map→fK,length_nil→ga,length_replicate→n9,length_singleton→e5,length_take→dT,map_append→iq,map_take→Ei,mem_append→jz,mem_singleton→j4,replicate→km,take→r7,take_of_length_le→eN,take_succ_cons→p4,take_zero→oc,toArray→bh
open Nat renaming add_le_add_left→zH,le_refl→cB,le_trans→gd,lt_or_ge→fg,mul_one→oW,zero_add→gW
open UInt8 renaming toNat_inj→kX,toNat_lt→iV
open Go.Proofs.Tryz
open Go.Hb.dX Go.Proofs Go.Hb.fk

namespace Go.Hb.iu
theorem tu {w:World} {B e n cp i:Nat} {a:Option Addr} {d:Array Nat} (h:w.ownsRow B e 1 (.slice a n cp) n (LE bg d)):aJ w.heap (gp a cp i 1) ((LE bg d).drop i):=by
 have :=(a8 h).2.drop (cap:=cp) (k:=i) (size:=1)<|by rw [uV]; have h1:=fM h; have h2:=(a8 h).1; omega
 rwa [oW] at this
theorem Vr (l:List Nat):l.map bg=LE bg l.toArray:=by simp [LE]
theorem sy (l:List Nat):(l.map bg).all gC=true :=by
 rw [List.all_eq_true]; intro v a; obtain ⟨x,_,rfl⟩:=List.mem_map.1 a; rfl
theorem Yk (d:Array Nat) (k:Nat):(LE bg d).take k=(d.toList.take k).map bg:=by simp [LE,Ei]
theorem oI (b:UInt8):jh b=decide ((b.toNat:Int) > 32∧(b.toNat:Int) < 127∧(b.toNat:Int)≠47∧(b.toNat:Int)≠44∧(b.toNat:Int)≠35):=by
 unfold jh; exact decide_eq_decide.2 ab
theorem Wa {w:World} {B e size n cp:Nat} {a:Option Addr} {xs:List Value} (h:w.ownsRow B e size (.slice a n cp) n xs) (hn:0 < n):a≠none:=by
 rintro rfl
 rcases h.2 with ⟨_,h5⟩ | ⟨g,cap,cur,h4,_⟩
 · omega
 · simp at h4
theorem sI (a:Option Addr) (n c:Nat) (xs:List Value) (w:World) (M:aJ w.heap a xs) (ae:xs.length=n*1) (V:a=none→n=0) (h1:xs.all gC=true) (hn:n≤1048576):
 bo aw 51 (bh [.slice a n c]) w (fun v w'=>bu w' w.heap.size 51 1 v n xs∧Wk w w'):=by
 refine enter func51 aa ntmps51 aa<|ag fun E=>ay<|E<|aC fun G=>ag fun I=>au (.slice a n c)<|p (sR oJ aa aa)<|nl<|I<|cb aa (fun A=> ?_) fun A=> ?_
 have Y:a=none:=by simpa using A
 refine ag fun i=>ay<|i<|rt<|tr<|aX aa ?_
 have Z:=V Y
 subst Z
 obtain rfl :=fS (show xs.length=0 by omega)
 exact ⟨dx _ _ _ _,Md.refl _ _⟩
 refine aO<|G<|ag fun i=>e<|mW yW fun ak ao al q J=> ?_
 have C:=J w.heap.size ab
 refine au (.slice a n c)<|e<|ap yW (C) aa (by have :=q.size; omega) aa (M.wk q.md) (ae) (h1) ab ab fun ai aj ac U an am=> ?_
 have O:=Wk.own q.md C U<|cB _
 refine ay<|i<|rt<|aX aa ?_
 have ah:bu aj w.heap.size 51 1 ai n xs:=by simpa using ac
 exact ⟨ah,O⟩
theorem Q8 (d:Array Nat) (B n cp:Nat) (a:Option Addr) (w:World) (G:w.ownsRow B 51 1 (.slice a n cp) n (LE bg d)) (bp:n≤1048576):
 bo aw 247 (bh [.slice a n cp]) w (fun v w'=> ∃ k,v= .slice a k cp∧k=(iD d.toList).length∧bu w' B 51 1 (.slice a k cp) k ((iD d.toList).map bg)∧Md (fun q=>(bR a n cp).ownBlock=some q) w w'):=by
 have bm:=fM G
 have bj:=(a8 G).1
 refine enter func247 aa ntmps247 aa<|ag fun ax=>ay<|ax<|aC fun aI=>ag fun aK=>au (.slice a n cp)<|p (bK oJ aa aa)<|p (lt aa aa)<|nl<|aK<|cd aa (fun a0=> ?_) fun a0=> ?_
 refine ag fun an=>au (.slice a n cp)<|p (cO (.slice a n cp) aa)<|nl<|an<|rt<|tr<|aX aa ?_
 have al:iD d.toList=d.toList:=by
  have aq:d.toList.length < 2:=by rw [tw]; omega
  revert aq
  generalize d.toList=l
  intro aq
  match l,aq with
  | [],_=>rfl
  | [x],_=>rfl
 exact ⟨n,aa,by rw [al,tw]; omega,by rw [al]; exact G,Md.refl _ _⟩
 refine aO<|aI<|aC fun an=>ag fun aL=>ay<|aL<|aM<|lp (fun V ar ac=> ∃ (i:Nat),(1≤i∧i≤n∧2≤n)∧(iD (d.toList.take i)=d.toList.take i)∧(Wk w ac)∧(ar 0= .slice a n cp)∧(ar 3=ak i)∧(n - i=V)) _ ⟨1,ab,(by have h1:=y0 (d:=d) (i:=0) ab; rw [h1]; rfl),(Md.refl _ _),aa,aa,aa⟩ ?_
 rintro V ar ac ⟨i,hi,Y,J,a7,a9,rfl⟩
 refine fx 0 a7<|fx 3 a9<|aC fun aN=>ag fun aP=>au (ak i)<|au (.slice a n cp)<|p (bK oJ aa aa)<|p (lt aa aa)<|nl<|aP<|cd aa (fun aU=> ?_) fun aU=> ?_
 refine aO<|aN<|aC fun ao=>aM<|aC fun aR=> ?_
 have C:(fun w'=>Wk ac w') ac.drew:=(Md.refl _ _).drew
 refine bM (fun w'=>Wk ac w') aa wide C<|bH 0 aa (.slice a n cp) C<|bH 1 aa (ak i) C<|aE 2 aa (fun _ _=>ba bY aa aa ab<|aJ.ok ((a8 G).2)<|cx ab) C<|aE 3 aa (fun w' M=>ld c7 aa<|Wk.aQ M<|dI (i:=i) (a8<|aW G J).2 ab) C<|bH 4 aa (.slice a n cp) C<|bH 5 aa (ak i) C<|aE 6 aa (fun _ _=>dN ((i - 1:Nat):Int) aa aa<|bl ab ab) C<|aE 7 aa (fun _ _=>ba bY aa aa ab<|aJ.ok ((a8 G).2)<|cx ab) C<|aE 8 aa (fun w' M=>ld c7 aa<|Wk.aQ M<|dI (i:=i - 1) (a8<|aW G J).2 ab) C<|aE 9 aa (fun _ _=>bI aa aa) C<|hn aj<|aR<|cd aa (fun aV=> ?_) fun aV=> ?_
 have heq:d[i - 1]! =d[i]! :=ab
 refine ag fun az=>au (.slice a n cp)<|au (ak i)<|p (vv bY aa aa ab)<|ay<|az<|aC fun aA=>ag fun aD=>ay<|aD<|aM<|lp (fun V ae U=> ∃ (k i2:Nat) (E:Array Nat),(1≤k∧k < i+i2∧1≤i2∧i2≤n - i)∧(E.toList.drop k=d.toList.drop k)∧(E.toList.take k=iD (d.toList.take<|i+i2))∧(U.ownsRow B 51 1 (.slice a n cp) n<|LE bg E)∧(Md (fun q=>(bR a n cp).ownBlock=some q) w U)∧(ae 0= .slice a n cp)∧(ae 3=ak k)∧(ae 4= .slice (gp a cp i 1) (n - i) (cp - i))∧(ae 5=ak i2)∧(n - i2=V)) _ ⟨i,1,d,ab,aa,(by rw [xv ab ab,if_pos heq,Y]),(aW G<|Md.trans J (Md.refl _ _).drew),((Md.trans J (Md.refl _ _).drew).mono fun _ _ h=>h.elim),aa,aa,aa,aa,aa⟩ ?_
 rintro V ae U ⟨k,i2,E,hk,O,Z,I,ap,bb,bc,bd,bi,rfl⟩
 refine fx 0 bb<|fx 3 bc<|fx 4 bd<|fx 5 bi ?_
 have bk:=fM I
 refine aC fun aF=>ag fun aG=>au (ak i2)<|au (.slice (gp a cp i 1) (n - i)<|cp - i)<|p (bK oJ aa aa)<|p (lt aa aa)<|nl<|aG<|cd aa (fun aY=> ?_) fun aY=> ?_
 refine aO<|aF<|aC fun ah=>aM<|aC fun am=> ?_
 have A:(fun w'=>Wk U w') U.drew:=(Md.refl _ _).drew
 refine bM (fun w'=>Wk U w') aa wide A<|bH 0 aa (.slice (gp a cp i 1) (n - i)<|cp - i) A<|bH 1 aa (ak i2) A<|aE 2 aa (fun _ _=>ba bY aa aa ab<|aJ.ok (tu I)<|Cm ab) A<|aE 3 aa (fun w' M=>ld c7 aa<|Wk.aQ M<|Cl (j:=i2) (tu I) ab) A<|bH 4 aa (.slice (gp a cp i 1) (n - i)<|cp - i) A<|bH 5 aa (ak i2) A<|aE 6 aa (fun _ _=>dN ((i2 - 1:Nat):Int) aa aa<|bl ab ab) A<|aE 7 aa (fun _ _=>ba bY aa aa ab<|aJ.ok (tu I)<|Cm ab) A<|aE 8 aa (fun w' M=>ld c7 aa<|Wk.aQ M<|Cl (j:=i2 - 1) (tu I) ab) A<|aE 9 aa (fun _ _=>dj aa aa) A<|hn aj<|am<|cd aa (fun aZ=> ?_) fun aZ=> ?_
 have ai:=aW I A
 have g1:=xy O (show k≤i+i2 by omega)
 have g2:=xy O (show k≤i+(i2 - 1) by omega)
 have a3:¬d[i+i2 - 1]! =d[i+i2]! :=by rw [show i+i2 - 1=i+(i2 - 1) by omega,← g1,← g2]; omega
 exact ag fun aH=>au (.slice a n cp)<|au (ak k)<|au (.slice (gp a cp i 1) (n - i)<|cp - i)<|au (ak i2)<|p (ba bY aa aa ab<|aJ.ok (tu ai)<|Cm ab)<|p (ld c7 aa<|Cl (j:=i2) (tu ai) ab)<|p (ba bY aa aa ab<|aJ.ok ((a8 ai).2)<|cx ab)<|e<|gx (u:=E[i+i2]!) (k) ai gn aa aa aa ab fun bq aS a5=>nl<|aH<|rg aa<|au (ak k)<|p (bG ((k+1:Nat):Int) aa aa<|bl ab ab)<|p aB<|nl<|bn<|ah<|rg aa<|au (ak i2)<|p (bG ((i2+1:Nat):Int) aa aa<|bl ab ab)<|p aB<|nl<|tn<|⟨_,ab,k+1,i2+1,E.setIfInBounds k E[i+i2]!,ab,(by rw [set_drop ab]; have h3:=congrArg (List.drop 1) O; rwa [r4,r4] at h3),(by rw [Da ab,Z,show i+(i2+1)=i+i2+1 from aa,xv ab ab,if_neg a3,g1]),a5,(Md.trans ap<|Md.trans (A.mono fun _ _ h=>h.elim) aS),aa,aa,aa,aa,aa⟩
 have g1:=xy O (show k≤i+i2 by omega)
 have g2:=xy O (show k≤i+(i2 - 1) by omega)
 have a1:d[i+i2 - 1]! =d[i+i2]! :=by rw [show i+i2 - 1=i+(i2 - 1) by omega,← g1,← g2]; omega
 exact aO<|bn<|ah<|rg aa<|au (ak i2)<|p (bG ((i2+1:Nat):Int) aa aa<|bl ab ab)<|p aB<|nl<|tn<|⟨_,ab,k,i2+1,E,ab,O,(by rw [Z,show i+(i2+1)=i+i2+1 from aa,xv ab ab,if_pos a1]),(aW I (Md.refl _ _).drew),ap.drew,aa,aa,aa,aa,aa⟩
 refine ext<|bf<|bf<|be<|aA<|ag fun ah=>au (.slice a n cp)<|au (ak k)<|p (vv bY aa aa ab)<|e<|QP (k:=k) oJ Zr aa I aa aa ab fun bs aT a6=>nl<|ah<|ag fun am=>au (.slice a n cp)<|au (ak k)<|p (vu bY aa aa ab)<|ay<|am<|rt<|br<|tr<|tr<|br<|tr<|aX aa ?_
 have al:d.toList.take (i+i2)=d.toList:=eN<|by rw [tw]; omega
 rw [al] at Z
 have a2:k=(iD d.toList).length:=by rw [← Z,dT,tw]; omega
 refine ⟨k,aa,a2,?_,Md.trans ap aT⟩
 have av:=JK a6 (show k≤n by omega)<|Wa G ab
 rw [oW,List.take_append,eN (l:=(LE bg E).take k) (by rw [dT]; omega),dT,uV,show k - min k E.size=0 by omega,oc,ek,Yk,Z] at av
 exact av
 have a4:¬d[i - 1]! =d[i]! :=ab
 exact aO<|bn<|ao<|rg aa<|au (ak i)<|p (ad aa aa<|bX ab)<|p aB<|nl<|tn<|⟨_,ab,i+1,ab,(by rw [xv ab ab,if_neg a4,Y,y0 ab]),(Md.trans J (Md.refl _ _).drew),aa,aa,aa⟩
 refine ext<|bf<|bf<|be<|an<|ag fun ao=>au (.slice a n cp)<|p (cO (.slice a n cp) aa)<|nl<|ao<|rt<|aX aa ?_
 rw [show d.toList.take i=d.toList from eN (by rw [tw]; omega)] at Y
 exact ⟨n,aa,by rw [Y,tw]; omega,by rw [Y]; exact aW G J,J.mono fun _ _ h=>h.elim⟩
theorem yA (l:List Nat) (a:Option Addr) (c:Nat) (w:World) (O:aJ w.heap a (l.map bg)) (ai:a=none→l.length=0) (aj:l.length≤255):
 bo aw 205 (bh [.slice a l.length c]) w (fun v w'=>bu w' w.heap.size 51 1 v (kh l).length ((kh l).map bg)∧Wk w w'):=by
 refine enter func205 aa ntmps205 aa<|ag fun G=>ay<|G<|ag fun I=>au (.slice a l.length c)<|e<|cl q9 (sI a l.length c (l.map bg) _ O (by simp) ai (sy l) ab) aa fun v5 ao ac=> ?_
 obtain ⟨A,U⟩:=ac
 obtain ⟨i,q,rfl⟩:=cC A
 rw [Vr] at A
 refine ay<|I<|ag fun J=>au (.slice i l.length q)<|e<|cl Pr (XL l.toArray w.heap.size l.length q i _ A aj) aa fun an ap ae=> ?_
 obtain ⟨d1,rfl,ak,al,C,Y⟩:=ae
 refine nl<|J<|ag fun M=>au (.slice i l.length q)<|e<|cl Ps (Q8 d1 w.heap.size l.length q i _ C ab) aa fun v9 am ah=> ?_
 obtain ⟨k,rfl,hk,E,Z⟩:=ah
 have V:Wk w am:=Wk.own (Wk.own U A Y<|cB _) C Z<|cB _
 refine ay<|M<|rt<|aX aa ?_
 rw [XK ak al] at hk E
 exact ⟨by rw [← hk]; exact E,V⟩
theorem Dc (b:UInt8) (w:World):
 bo aw 266 (bh [.int .u8 b.toNat]) w (fun v w'=>v= .bool (jh b)∧Wk w w'):=by
 refine enter func266 aa ntmps266 aa<|ag fun i=>ay<|i<|ag fun a=>au (.int .u8 b.toNat)<|p (gt aa aa)<|p mv<|gs (t:=5) aa (fun C=> ?_) fun C=> ?_
 refine aI aa (aU (.int .u8 b.toNat) aa)<|aI aa (lt aa aa)<|p (bB aa)<|p mv<|gs (t:=9) aa (fun E=> ?_) fun E=> ?_
 refine aI aa (aU (.int .u8 b.toNat) aa)<|aI aa (dj aa aa)<|p (bB aa)<|p mv<|gs (t:=13) aa (fun q=> ?_) fun q=> ?_
 refine aI aa (aU (.int .u8 b.toNat) aa)<|aI aa (dj aa aa)<|p (bB aa)<|p mv<|gs (t:=17) aa (fun A=> ?_) fun A=> ?_
 exact aI aa (aU (.int .u8 b.toNat) aa)<|aI aa (dj aa aa)<|p (bB aa)<|ay<|a<|rt<|aX aa<|⟨by show bT (decide _)=_; rw [oI]; exact bv (by constructor <;> intro h <;> first | exact ⟨ab,ab,ab,ab,h⟩ | exact h.2.2.2.2),Md.refl _ _⟩
 exact aH aa<|aH aa<|p (bq aa)<|ay<|a<|rt<|aX aa<|⟨by show bT false =_; rw [oI,decide_eq_false ab],Md.refl _ _⟩
 exact aH aa<|aH aa<|p (bq aa)<|p mv<|aH aa<|aH aa<|p (bq aa)<|p aB<|nl<|a<|rt<|aX aa<|⟨by show bT false =_; rw [oI,decide_eq_false ab],Md.refl _ _⟩
 exact aH aa<|aH aa<|p (bq aa)<|p mv<|aH aa<|aH aa<|p (bq aa)<|p mv<|aH aa<|aH aa<|p (bq aa)<|ay<|a<|rt<|aX aa<|⟨by show bT false =_; rw [oI,decide_eq_false ab],Md.refl _ _⟩
 exact aH aa<|aH aa<|p (bq aa)<|p mv<|aH aa<|aH aa<|p (bq aa)<|p mv<|aH aa<|aH aa<|p (bq aa)<|p mv<|aH aa<|aH aa<|p (bq aa)<|p aB<|nl<|a<|rt<|aX aa<|⟨by show bT false =_; rw [oI,decide_eq_false ab],Md.refl _ _⟩
theorem IT (k:Nat) (w:World):
 bo aw 242 (bh [ak k]) w (fun v w'=>v= .bool (decide (1≤k∧k≤3))∧Wk w w'):=by
 refine enter func242 aa ntmps242 aa<|ag fun i=>ay<|i<|ag fun a=>au (ak k)<|p (ge aa aa)<|p mv<|gs (t:=5) aa (fun q=> ?_) fun q=> ?_
 exact aI aa (aU (ak k) aa)<|aI aa (le aa aa)<|p (bB aa)<|ay<|a<|rt<|aX aa<|⟨by show bT (decide _)=_; exact bv ab,Md.refl _ _⟩
 exact aH aa<|aH aa<|p (bq aa)<|ay<|a<|rt<|aX aa<|⟨by show bT false =_; rw [decide_eq_false ab],Md.refl _ _⟩
end Go.Hb.iu
section
namespace Go.Hb
open Go.Hb.iu
theorem Hs {kind:Nat} {s:List UInt8} (h:kind=1∧s.length=1∧jh (s.getD 0 0)=true):eI kind s=(s.getD 0 0).toNat:=by unfold eI; rw [if_pos h.1,if_pos h.2]
theorem Ht {kind:Nat} {s:List UInt8} (h:kind=2∧s.length=2∧jh (s.getD 0 0)=true∧jh (s.getD 1 0)=true):eI kind s=256 *(s.getD 0 0).toNat+(s.getD 1 0).toNat:=by unfold eI; rw [if_neg ab,if_pos h.1,if_pos h.2]
theorem Bs {kind:Nat} {s:List UInt8} (h:kind=3):eI kind s=(eb s 65535).1:=by unfold eI; rw [if_neg ab,if_neg ab]
theorem sT {kind:Nat} {s:List UInt8} (h:kind=1∨kind=2) (h1:¬(kind=1∧s.length=1∧jh (s.getD 0 0)=true)) (h2:¬(kind=2∧s.length=2∧jh (s.getD 0 0)=true∧jh (s.getD 1 0)=true)):eI kind s=0:=by
 unfold eI
 rcases h with h | h
 · rw [if_pos h,if_neg (fun h3=>h1 ⟨h,h3⟩)]
 · rw [if_neg ab,if_pos h,if_neg (fun h3=>h2 ⟨h,h3⟩)]
theorem UK {c:UInt8} {l:List UInt8} (h:0 < l.count c):¬e8 c l < 0:=by
 intro h1
 exact IK h1<|wc.2<|zy.1 h
theorem WL (n:Nat) (x:List UInt8):km n (str x)=(km n x).map str:=by rw [List.map_replicate]
theorem KA {a:List (List UInt8)} {m:Nat} {x:List UInt8} (h:0 < m):((a++km m []).map str).set a.length (str x)=((a++ [x])++km (m - 1) []).map str:=by
 obtain ⟨m,rfl⟩:∃ k,m=k+1:=⟨m - 1,ab⟩
 rw [← List.map_set,List.set_append_right _ _ (cB _),Nat.sub_self,List.replicate_succ,List.set_cons_zero,Nat.add_sub_cancel,dF]; rfl
theorem Bg {kind:Nat} {ps:List (List UInt8)} {i:Nat} (h:i < ps.length) (h1:¬∃ x∈ps.take i,eI kind x=0) (h2:eI kind (ps.getD i [])≠0):¬∃ x∈ps.take (i+1),eI kind x=0:=by
 rw [fH ps i [] h]
 rintro ⟨x,a,h3⟩
 rcases jz.1 a with a | a
 · exact h1 ⟨x,a,h3⟩
 · rw [j4] at a; subst a; exact h2 h3
theorem ya {α:Type} {l:List α} {i:Nat} {d:α} (h:i < l.length):l.getD i d∈l:=by
 rw [cV,cD h]; exact List.getElem_mem h
theorem Hu (kind:Nat) (s:List UInt8) (w:World) (hk:kind=1∨kind=2∨kind=3) (hs:s.length≤1048576):
 bo aw 244 (bh [ak kind,str s]) w (fun v w'=>v=bg (eI kind s)∧Wk w w'):=by
 refine enter func244 aa ntmps244 aa<|ag fun ai=>ay<|ai<|aC fun al=>aM ?_
 refine ej (fun E ah=> ∃ (J:Bool),(J=decide (kind=1∧s.length=1∧jh (s.getD 0 0)=true))∧(Wk w ah)∧(E 0=ak kind)∧(E 1=str s)∧(E 7= .bool J)) ?_ ?_
 refine rg aa<|au (ak kind)<|p (bI aa aa)<|p mv<|gs (t:=10) aa (fun aD=> ?_) fun aD=> ?_
 refine aI aa (aU (str s) aa)<|aI aa (cy u9 aa aa)<|aI aa (bI aa aa)<|p (bB aa)<|p mv<|gs (t:=15) aa (fun aF=> ?_) fun aF=> ?_
 refine aI aa (aU (str s) aa)<|aI aa (jd 0 u9 aa aa ab)<|eg aa aa aa<|cl AA (Dc (s.getD 0 0) _) aa fun aT aZ aq=> ?_
 obtain ⟨rfl,an⟩:=aq
 exact p (bB aa)<|p aB<|nl<|tn<|⟨jh (s.getD 0 0),(by rw [tK,decide_eq_true_iff]; exact ⟨fun h=>⟨ab,ab,h⟩,fun h=>h.2.2⟩),an,aa,aa,aa⟩
 exact aH aa<|aH aa<|aH aa<|p (bq aa)<|p aB<|nl<|tn<|⟨false,((decide_eq_false fun h=>by omega).symm),(Md.refl _ _),aa,aa,aa⟩
 exact aH aa<|aH aa<|aH aa<|p (bq aa)<|p mv<|aH aa<|aH aa<|aH aa<|p (bq aa)<|p aB<|nl<|tn<|⟨false,((decide_eq_false fun h=>by omega).symm),(Md.refl _ _),aa,aa,aa⟩
 rintro E ah ⟨J,ac,i,aK,aL,aN⟩
 refine fx 0 aK<|fx 1 aL<|fx 7 aN<|cb aa (fun U=> ?_) fun U=> ?_
 have V:kind=1∧s.length=1∧jh (s.getD 0 0)=true :=of_decide_eq_true<|ac ▸ U
 exact ag fun q=>au (str s)<|p (jd 0 u9 aa aa ab)<|p (lG y4 pO aa<|tE<|by have :=iV (s.getD 0 0); omega)<|ay<|q<|rt<|br<|tr<|aX aa<|⟨by rw [Hs V]; rfl,i⟩
 have V:¬(kind=1∧s.length=1∧jh (s.getD 0 0)=true):=of_decide_eq_false<|ac ▸ U
 refine ej (fun G A=> ∃ (M:Bool),(M=decide (kind=2∧s.length=2∧jh (s.getD 0 0)=true∧jh (s.getD 1 0)=true))∧(Wk w A)∧(G 0=ak kind)∧(G 1=str s)∧(G 23= .bool M)) ?_ ?_
 refine rg aa<|au (ak kind)<|p (bI aa aa)<|p mv<|gs (t:=26) aa (fun aG=> ?_) fun aG=> ?_
 refine aI aa (aU (str s) aa)<|aI aa (cy u9 aa aa)<|aI aa (bI aa aa)<|p (bB aa)<|p mv<|gs (t:=31) aa (fun aJ=> ?_) fun aJ=> ?_
 refine aI aa (aU (str s) aa)<|aI aa (jd 0 u9 aa aa ab)<|eg aa aa aa<|cl AA (Dc (s.getD 0 0) _) aa fun aV a0 ar=> ?_
 obtain ⟨rfl,Z⟩:=ar
 refine p (bB aa)<|p mv<|gb (t:=36) aa (fun C=> ?_) fun C=> ?_
 refine aI aa (aU (str s) aa)<|aI aa (jd 1 u9 aa aa ab)<|eg aa aa aa<|cl AA (Dc (s.getD 1 0) _) aa fun aW a1 av=> ?_
 obtain ⟨rfl,ao⟩:=av
 exact p (bB aa)<|p aB<|nl<|tn<|⟨jh (s.getD 1 0),(by rw [tK,decide_eq_true_iff]; exact ⟨fun h=>⟨ab,ab,C,h⟩,fun h=>h.2.2.2⟩),(Md.trans i<|Md.trans Z ao),aa,aa,aa⟩
 exact aH aa<|aH aa<|aH aa<|p (bq aa)<|p aB<|nl<|tn<|⟨false,((decide_eq_false fun h=>by rw [h.2.2.1] at C; cases C).symm),(Md.trans i Z),aa,aa,aa⟩
 exact aH aa<|aH aa<|aH aa<|p (bq aa)<|p mv<|aH aa<|aH aa<|aH aa<|p (bq aa)<|p aB<|nl<|tn<|⟨false,((decide_eq_false fun h=>by omega).symm),i,aa,aa,aa⟩
 exact aH aa<|aH aa<|aH aa<|p (bq aa)<|p mv<|aH aa<|aH aa<|aH aa<|p (bq aa)<|p mv<|aH aa<|aH aa<|aH aa<|p (bq aa)<|p aB<|nl<|tn<|⟨false,((decide_eq_false fun h=>by omega).symm),i,aa,aa,aa⟩
 rintro G A ⟨M,ae,i,aP,aQ,aR⟩
 refine fx 0 aP<|fx 1 aQ<|fx 23 aR<|cb aa (fun O=> ?_) fun O=> ?_
 have Y:kind=2∧s.length=2∧jh (s.getD 0 0)=true∧jh (s.getD 1 0)=true :=of_decide_eq_true<|ae ▸ O
 have g0:=iV<|s.getD 0 0
 have g1:=iV<|s.getD 1 0
 refine aC fun q=> ?_
 have a:(fun w'=>Wk A w') A.drew:=(Md.refl _ _).drew
 exact bM (fun w'=>Wk A w') aa wide a<|bH 0 aa (str s) a<|aE 1 aa (fun _ _=>jd 0 u9 aa aa ab) a<|aE 2 aa (fun _ _=>lG y4 pO aa<|tE ab) a<|aE 3 aa (fun _ _=>shl aa aa az<|Xv g0) a<|bH 4 aa (str s) a<|aE 5 aa (fun _ _=>jd 1 u9 aa aa ab) a<|aE 6 aa (fun _ _=>lG y4 pO aa<|tE ab) a<|aE 7 aa (fun _ _=>E1 aa aa<|V7 g0 g1) a<|aE 8 aa (fun _ _=>aB) a<|hn aj<|q<|rt<|br<|tr<|aX aa<|⟨by rw [Ht Y]; rfl,i.drew⟩
 have Y:¬(kind=2∧s.length=2∧jh (s.getD 0 0)=true∧jh (s.getD 1 0)=true):=of_decide_eq_false<|ae ▸ O
 refine ag fun q=>au (ak kind)<|p (bI aa aa)<|ay<|q<|cd aa (fun aA=> ?_) fun aA=> ?_
 refine ag fun I=>au (str s)<|e<|cl xe (yy s 65535 _ hs az) aa fun aY a2 ax=> ?_
 obtain ⟨rfl,ap⟩:=ax
 have aS:=Jz s
 exact p mv<|p (xt aa aa)<|p (xt aa aa)<|p aB<|ay<|I<|aC fun am=>rg aa<|p mv<|p (lG y4 qK aa<|tE ab)<|ay<|am<|rt<|br<|tr<|aX aa<|⟨by rw [Bs ab]; rfl,Md.trans i ap⟩
 exact aO<|bn<|al<|ag fun I=>ay<|I<|rt<|aX aa<|⟨by rw [sT ab V Y]; rfl,i⟩
theorem V0 (kind:Nat) (s:List UInt8) (w:World) (hk:kind=1∨kind=2∨kind=3) (hs:s.length≤1048576):
 bo aw 239 (bh [ak kind,str s]) w (fun v w'=>v= .tuple #[bg (gN kind s).1,ak ((gN kind s).2)]∧Wk w w'):=by
 refine enter func239 aa ntmps239 aa<|ag fun A=>p aB<|ay<|A<|aC fun C=>aC fun E=>rg aa<|au (ak kind)<|e<|cl FJ (IT kind _) aa fun V Z O=> ?_
 obtain ⟨rfl,q⟩:=O
 refine p (no aa)<|nl<|E<|cf (by rw [decide_eq_true ab]; rfl)<|aO<|C<|ag fun G=>au (ak kind)<|au (str s)<|e<|cl FK (Hu kind s _ hk hs) aa fun v12 Y M=> ?_
 obtain ⟨rfl,i⟩:=M
 refine ay<|G<|aC fun I=>ag fun J=>p mv<|p (bI aa aa)<|nl<|J<|cd aa (fun U=> ?_) fun U=> ?_
 exact ag fun a=>p aB<|ay<|a<|rt<|tr<|f2 aa aa aa<|⟨by unfold gN; rw [if_pos (show eI kind s=0 by omega)]; rfl,Md.trans q i⟩
 exact aO<|I<|ag fun a=>p mv<|p aB<|p aB<|nl<|a<|rt<|f2 aa aa aa<|⟨by unfold gN; rw [if_neg (show ¬eI kind s=0 by omega)]; rfl,Md.trans q i⟩
theorem Rg (s:List UInt8) (c:UInt8) (w:World):
 bo aw 297 (bh [str s,str [c]]) w (fun v w'=>v=ak (s.count c)∧Wk w w'):=by
 refine enter func297 aa ntmps297 aa<|ag fun a=>ay<|a<|aC fun i=>ag fun q=>au (str [c])<|p (cy u9 aa aa)<|p (bI aa aa)<|nl<|q<|cd aa (fun h=>absurd h<|by simp) fun I=>aO<|i<|aC fun E=>ag fun A=>au (str [c])<|p (cy u9 aa aa)<|p (bI aa aa)<|nl<|A<|cd aa (fun G=> ?_) fun h=>absurd aa h
 exact ag fun C=>au (str s)<|au (str [c])<|p (jd 0 u9 aa aa<|by simp)<|p (Ge (Q6 s c _) aa)<|p aB<|nl<|C<|rt<|tr<|aX aa<|⟨aa,Md.refl _ _⟩
theorem Tt (s:List UInt8) (w:World) (hs:s.length≤1048576):
 bo aw 279 (bh [str s,str [44],.int .i64 0,.int .i64 (-1)]) w (fun v w'=>bu w' w.heap.size 9 1 (v) (fG 44 [] s).length ((fG 44 [] s).map str)∧Wk w w'):=by
 have bd:=tT (a:=(44:UInt8)) (l:=s)
 have a4:=Dh 44 s []
 refine enter func279 aa ntmps279 aa<|ag fun ah=>ay<|ah<|aC fun ar=>ag fun av=>au (.int .i64<|-1)<|p (bI aa aa)<|nl<|av<|cd aa (fun h=>absurd h az) fun a9=>aO<|ar<|aC fun ax=>ag fun aA=>au (str [44])<|p (dW aa aa)<|nl<|aA<|cd aa (fun h=>absurd h<|by simp) fun bb=> ?_
 refine aO<|ax<|aC fun aD=>ag fun aE=>au (.int .i64<|-1)<|p (lt aa aa)<|nl<|aE<|cd aa (fun bc=> ?_) fun h=>absurd az h
 refine rg aa<|au (str s)<|au (str [44])<|e<|cl PO (Rg s 44 _) aa fun bk bp aP=> ?_
 obtain ⟨rfl,Y⟩:=aP
 refine p (bG ((s.count 44 +1:Nat):Int) aa aa<|bl ab ab)<|ay<|aD<|ag fun aF=>p mv<|au (str s)<|p (cy u9 aa aa)<|p (bG ((s.length+1:Nat):Int) aa aa<|bl ab ab)<|p (mn aa aa)<|ay<|aF<|ag fun aG=>p mv<|e<|VC (n:=s.count 44 +1) (zv:=str []) fN Zm aa (show jk .i64 (min ((s.count 44 +1:Nat):Int) ((s.length+1:Nat):Int))=_ from iv ab) (show jk .i64 (min ((s.count 44 +1:Nat):Int) ((s.length+1:Nat):Int))=_ from iv ab) ab (by unfold maxLen; omega) fun E bq a7 aN aU=> ?_
 have Z:=aU w.heap.size<|by have :=Y.size; omega
 rw [WL] at Z
 refine ay<|aG<|ag fun ai=>p mv<|p (dN ((s.count 44:Nat):Int) aa aa<|bl ab ab)<|p aB<|nl<|ai<|ag fun aj=>ay<|aj<|aC fun al=>aM<|lp (fun U q O=> ∃ (i:Nat) (A:List (List UInt8)) (r:List UInt8),(A.length=i)∧(r.count 44 +i=s.count 44∧r.length≤s.length)∧(A++fG 44 [] r=fG 44 [] s)∧(bu O w.heap.size 9 1 (.slice (some ⟨E,0,none⟩) (s.count 44 +1)<|s.count 44 +1) (s.count 44 +1)<|(A++km (s.count 44 +1 - i) []).map str)∧(Wk w O)∧(q 0=str r)∧(q 1=str [44])∧(q 2= .int .i64 0)∧(q 3=ak (s.count 44))∧(q 9= .slice (some ⟨E,0,none⟩) (s.count 44 +1) (s.count 44 +1))∧(q 10=ak i)∧(r.length=U)) _ ⟨0,[],s,aa,(ab),aa,Z,(Md.trans Y aN.md),aa,aa,aa,aa,aa,aa,aa⟩ ?_
 rintro U q O ⟨i,A,r,hi,bi,hd,C,V,aY,aZ,a1,a2,a3,a0,rfl⟩
 refine fx 0 aY<|fx 1 aZ<|fx 2 a1<|fx 3 a2<|fx 9 a3<|fx 10 a0 ?_
 have bj:=tT (a:=(44:UInt8)) (l:=r)
 refine aC fun am=>ag fun an=>au (ak i)<|au (ak<|s.count 44)<|p (lt aa aa)<|nl<|an<|cd aa (fun aR=> ?_) fun aR=> ?_
 refine aO<|am<|aM<|ag fun I=>au (str r)<|au (str [44])<|e<|cl PQ (Uy r 44 _) aa fun bm br aQ=> ?_
 obtain ⟨rfl,G⟩:=aQ
 refine ay<|I<|aC fun J=>ag fun ao=>p mv<|p (lt aa aa)<|nl<|ao<|cd aa (fun h=>absurd h<|UK ab) fun aS=>aO<|J<|aC fun ap=> ?_
 have ac:=rr (c:=(44:UInt8)) (l:=r) aS
 have bg:[(44:UInt8)].length=1:=rfl
 refine rg aa<|au (.slice (some ⟨E,0,none⟩) (s.count 44 +1)<|s.count 44 +1)<|au (ak i)<|au (str r)<|p mv<|au (.int .i64 0)<|p (bG ((r.idxOf 44:Nat):Int) aa aa<|bl ab ab)<|p (rM u9 aa aa ab)<|p (ba cI aa aa ab<|aJ.ok ((a8<|aW C G).2)<|bS<|by rw [bL,n9]; omega)<|e<|tt (j:=i) (u:=str<|r.take<|r.idxOf 44) (aW C G) kM aa aa aa ab ab fun a5 aK ae=> ?_
 have aH:Wk w a5:=Wk.own (Md.trans V G) (aW C G) aK<|cB _
 rw [← hi,KA ab,hi] at ae
 exact nl<|ap<|ag fun aq=>au (str r)<|p mv<|au (str [44])<|p (cy u9 aa aa)<|p (bG ((r.idxOf 44 +1:Nat):Int) aa aa<|bl ab ab)<|p (l7 u9 aa aa ab)<|ay<|aq<|rg aa<|au (ak i)<|p (bG ((i+1:Nat):Int) aa aa<|bl ab ab)<|p aB<|nl<|bn<|tn<|⟨_,by rw [fP]; omega,i+1,A++ [r.take (r.idxOf 44)],r.drop (r.idxOf 44 +1),(by rw [bL,hi]; rfl),(by have :=Ru ac.2; rw [fP]; omega),(by rw [dF,← hd,KP 44 r [] ac.2]; rfl),(by rw [show s.count 44 +1 - (i+1)=s.count 44 +1 - i - 1 by omega]; exact ae),aH,aa,aa,aa,aa,aa,aa,aa⟩
 refine ext<|bf<|bf<|be<|al<|ag fun I=>au (.slice (some ⟨E,0,none⟩) (s.count 44 +1)<|s.count 44 +1)<|au (ak i)<|au (str r)<|p (ba cI aa aa ab<|aJ.ok ((a8 C).2)<|bS<|by rw [bL,n9]; omega)<|e<|tt (j:=i) (u:=str r) C kM aa aa aa ab ab fun a6 aL M=> ?_
 have aI:Wk w a6:=Wk.own V C aL<|cB _
 rw [← hi,KA ab,hi] at M
 refine nl<|I<|ag fun J=>au (.slice (some ⟨E,0,none⟩) (s.count 44 +1)<|s.count 44 +1)<|au (ak i)<|p (bG ((i+1:Nat):Int) aa aa<|bl ab ab)<|p (vu cI aa aa ab)<|ay<|J<|rt<|aX aa ?_
 have aV:¬(44:UInt8)∈r:=fun h=>by have :=zy.2 h; omega
 have aT:A++ [r]=fG 44 [] s:=by rw [← hd,XR 44 r [] aV]; rfl
 rw [show s.count 44 +1 - i - 1=0 by omega,List.replicate_zero,ek,aT] at M
 exact ⟨by rw [a4,show s.count 44 +1=i+1 by omega] at*; exact M,aI⟩
theorem X9 (s:List UInt8) (w:World) (hs:s.length≤1048576):
 bo aw 265 (bh [str s,str [44]]) w (fun v w'=>bu w' w.heap.size 9 1 (v) (fG 44 [] s).length ((fG 44 [] s).map str)∧Wk w w'):=by
 exact enter func265 aa ntmps265 aa<|ag fun a=>ay<|a<|ag fun i=>au (str s)<|au (str [44])<|e<|cl PC (Tt s _ hs) aa fun A C q=>ay<|i<|rt<|aX aa<|q
theorem Ws (kind:Nat) (s:List UInt8) (w:World) (hk:kind=1∨kind=2∨kind=3) (hs:s.length≤1048576):
 bo aw 243 (bh [ak kind,str s]) w (fun v w'=>bu w' w.heap.size 9 1 (v) (dH kind s).length ((dH kind s).map str)∧Wk w w'):=by
 refine enter func243 aa ntmps243 aa<|ag fun Y=>ay<|Y<|aC fun Z=>ag fun ac=>au (ak kind)<|p (bI aa aa)<|nl<|ac<|cd aa (fun ar=> ?_) fun ar=> ?_
 refine ag fun C=>au (str s)<|e<|cl Py (X9 s _ hs) aa fun v10 aP ao=>ay<|C<|rt<|tr<|aX aa ?_
 unfold dH; rw [if_pos ab]; exact ao
 refine aO<|Z<|ag fun C=>ay<|C<|aC fun ae=>ag fun ah=>ay<|ah<|aM<|lp (fun M A J=> ∃ (i:Nat) (a:List (List UInt8)) (q:Value),(i≤s.length+kind∧a.length≤i)∧(a++chunks kind (s.drop i)=chunks kind s)∧(bu J w.heap.size 9 1 (q) (a).length<|(a).map str)∧(Wk w J)∧(A 0=ak kind)∧(A 1=str s)∧(A 5=q)∧(A 6=ak i)∧(s.length - i=M)) _ ⟨0,[],.slice none 0 0,(by simp),aa,(dx _ _ _ _),(Md.refl _ _),aa,aa,aa,aa,aa⟩ ?_
 rintro M A J ⟨i,a,q,hi,hd,I,O,aA,aD,aE,aF,rfl⟩
 refine fx 0 aA<|fx 1 aD<|fx 5 aE<|fx 6 aF<|aC fun ai=>ag fun aj=>au (ak i)<|au (str s)<|p (cy u9 aa aa)<|p (lt aa aa)<|nl<|aj<|cd aa (fun aq=> ?_) fun aq=> ?_
 have ax:s.drop i≠[]:=fun h=>by have :=congrArg jy h; rw [fP,ga] at this; omega
 refine aO<|ai<|aC fun E=>aM<|rg aa<|au (q)<|au (str s)<|au (ak i)<|au (ak i)<|au (ak kind)<|p (bG ((i+kind:Nat):Int) aa aa<|bl ab ab)<|au (str s)<|p (cy u9 aa aa)<|p (mn aa aa)<|p (l6 u9 aa aa aa ab)<|e<|fU fN aa aa fun aI aH aK G al=> ?_
 have U:Wk w aH:=Md.trans O G.md
 refine e<|ap fN (aW I G.md) aa (by have :=U.size; omega) aa (aJ.dZ al) (aa) (aa) ab ab fun aG aQ V an aN aL=> ?_
 have am:=Wk.own U (aW I G.md) an<|cB _
 rw [Qw] at V
 have az:=mB V
 exact p aB<|nl<|bn<|E<|rg aa<|au (ak i)<|au (ak kind)<|p (bG ((i+kind:Nat):Int) aa aa<|bl ab ab)<|p aB<|nl<|tn<|⟨_,ab,i+kind,a++ [(s.drop i).take kind],aG,(by rw [bL,e5]; omega),(by rw [← hd,xj (k:=kind) ab ax,dF,r4]; rfl),az,am,aa,aa,aa,aa,aa⟩
 refine ext<|bf<|bf<|be<|ae<|ag fun E=>au (q)<|p (cO (q) aa)<|nl<|E<|rt<|aX aa ?_
 have av:a=dH kind s:=by unfold dH; rw [if_neg ab,← hd,gV ab,xk,ek]
 exact ⟨by rw [← av]; exact I,O⟩
theorem H0 (kind:Nat) (s:List UInt8) (w:World) (hk:kind=1∨kind=2∨kind=3) (hs:s.length≤1048576):
 bo aw 200 (bh [ak kind,str s]) w (fun v w'=>(∃ a,v= .tuple #[a,ak ((ea kind s).2)]∧bu w' w.heap.size 51 1 a (ea kind s).1.length ((ea kind s).1.map bg))∧Wk w w'):=by
 refine enter func200 aa ntmps200 aa<|ag fun aA=>p aB<|ay<|aA<|aC fun aH=>aC fun aI=>rg aa<|au (ak kind)<|e<|cl FJ (IT kind _) aa fun v11 bC aZ=> ?_
 obtain ⟨rfl,ao⟩:=aZ
 refine p (no aa)<|nl<|aI<|cf (by rw [decide_eq_true ab]; rfl)<|aO<|aH<|aC fun aK=>aC fun aL=>rg aa<|au (str s)<|p (dW aa aa)<|nl<|aL<|cd aa (fun E=> ?_) fun E=> ?_
 exact ag fun ah=>p aB<|ay<|ah<|rt<|tr<|f2 aa aa aa<|⟨⟨.slice none 0 0,by unfold ea; rw [if_pos E]; rfl,by unfold ea; rw [if_pos E]; exact dx _ _ _ _⟩,ao⟩
 refine aO<|aK<|ag fun ah=>ay<|ah<|aC fun aN=>ag fun aP=>au (ak kind)<|au (str s)<|e<|cl Pp (Ws kind s _ hk hs) aa fun bA M a0=> ?_
 obtain ⟨av,aU⟩:=a0
 obtain ⟨aR,aS,rfl⟩:=cC av
 have ar:=(a8 av).2
 have bx:=JQ (kind:=kind) (s:=s) ab
 have V:Wk w M:=Md.trans ao aU
 refine p (bK eV aa aa)<|p mv<|nl<|aP<|aM<|lp (fun an C am=> ∃ (i:Nat) (U:Value),(i≤(dH kind s).length)∧(¬∃ x∈(dH kind s).take i,eI kind x=0)∧(bu am M.heap.size 51 1 U (((dH kind s).take i).map<|eI kind).length<|(((dH kind s).take i).map<|eI kind).map bg)∧(Wk M am)∧(C 0=ak kind)∧(C 1=str s)∧(C 6=U)∧(C 17= .slice aR (dH kind s).length aS)∧(C 18=ak ((dH kind s).length))∧(C 19=ak i)∧((dH kind s).length - i=an)) _ ⟨0,.slice none 0 0,ab,(by rintro ⟨x,bm,_⟩; simp at bm),(dx _ _ _ _),(Md.refl _ _),aa,aa,aa,aa,aa,aa,aa⟩ ?_
 rintro an C am ⟨i,U,hi,I,J,A,bb,bc,bk,bd,bi,bj,rfl⟩
 refine fx 0 bb<|fx 1 bc<|fx 6 bk<|fx 17 bd<|fx 18 bi<|fx 19 bj ?_
 have bw:(((dH kind s).take i).map<|eI kind).length≤i:=by rw [fK,dT]; omega
 refine ag fun aQ=>p (lt aa aa)<|nl<|aQ<|aC fun aD=>cd aa (fun a4=> ?_) fun a4=> ?_
 refine aO<|aD<|aC fun ac=>aM<|ag fun ae=>p (ba cI aa aa ab<|aJ.ok (ar.wk A)<|bS ab)<|p (ld bU aa<|cg.get (i:=i) (ar.wk A) ab)<|ay<|ae<|ag fun G=>au (ak kind)<|p mv<|e<|cl FK (Hu kind ((dH kind s).getD i []) _ hk<|by have :=JR (kind:=kind) ab (ya (d:= []) (show i < (dH kind s).length by omega)); omega) aa fun bB bD a1=> ?_
 obtain ⟨rfl,Y⟩:=a1
 refine ay<|G<|aC fun aE=>ag fun aF=>p mv<|p (bI aa aa)<|nl<|aF<|cd aa (fun a5=> ?_) fun a5=> ?_
 refine ag fun aG=>p aB<|ay<|aG<|rt<|tr<|br<|tr<|tr<|br<|tr<|f2 aa aa aa ?_
 have q:ea kind s=([],31):=by unfold ea; rw [if_neg E,if_pos ⟨_,ya (d:= []) (show i < (dH kind s).length by omega),ab⟩]
 exact ⟨⟨.slice none 0 0,by rw [q]; rfl,by rw [q]; exact dx _ _ _ _⟩,Md.trans V<|Md.trans A Y⟩
 refine aO<|aE<|rg aa<|au (U)<|p mv<|e<|fU yW aa aa fun bs bp bt aj aT=> ?_
 have aq:Wk M bp:=Md.trans (Md.trans A Y) aj.md
 refine e<|ap yW (aW (aW J Y) aj.md) aa (by have :=aq.size; omega) aa (aJ.dZ aT) (aa) (aa) ab ab fun v31 bq a7 aY bz bv=> ?_
 have aV:=Wk.own aq (aW (aW J Y) aj.md) aY<|cB _
 have a9:bu bq M.heap.size 51 1 v31 (((dH kind s).take<|i+1).map<|eI kind).length ((((dH kind s).take<|i+1).map<|eI kind).map bg):=by
  rw [fH _ i [] ab,iq,bL,iq]; exact a7
 exact p aB<|nl<|bn<|ac<|rg aa<|p (ad aa aa<|bX ab)<|p mv<|nl<|tn<|⟨_,ab,i+1,v31,ab,(Bg ab I ab),a9,aV,aa,aa,aa,aa,aa,aa,aa⟩
 refine ext<|bf<|bf<|be<|aN<|aC fun ac=>aC fun ae=> ?_
 obtain ⟨O,ai,rfl⟩:=cC J
 have bl:(((dH kind s).take i).map<|eI kind).length=(dH kind s).length:=by rw [fK,dT]; omega
 have Z:(dH kind s).take i=(dH kind s):=eN ab
 have a6:O=none→(((dH kind s).take i).map<|eI kind).length=0:=fun h=>by obtain ⟨a2,c2,az,_,_,h3⟩:=Rd.jN J; simp only [mL] at az; exact h3<|az.1 ▸ h
 refine rg aa<|au (.slice O (((dH kind s).take i).map<|eI kind).length ai)<|p (bK oJ aa aa)<|p (gt aa aa)<|nl<|ae<|cd aa (fun al=> ?_) fun al=> ?_
 refine ag fun G=>p aB<|ay<|G<|rt<|tr<|f2 aa aa aa ?_
 rw [Z] at I bl
 have q:ea kind s=([],32):=by unfold ea; rw [if_neg E,if_neg I,if_pos (by rw [Z,fK] at al; omega)]
 exact ⟨⟨.slice none 0 0,by rw [q]; rfl,by rw [q]; exact dx _ _ _ _⟩,Md.trans V A⟩
 refine aO<|ac<|ag fun G=>au (.slice O (((dH kind s).take i).map<|eI kind).length ai)<|e<|cl FF (yA (((dH kind s).take i).map<|eI kind) O ai _ (a8 J).2 a6<|by rw [fK,dT] at*; omega) aa fun v37 bE a3=> ?_
 obtain ⟨ax,aX⟩:=a3
 refine p aB<|ay<|G<|rt<|f2 aa aa aa ?_
 rw [Z] at I ax
 have q:ea kind s=(kh ((dH kind s).map<|eI kind),0):=by unfold ea; rw [if_neg E,if_neg I,if_neg (by rw [Z,fK] at al; omega)]
 exact ⟨⟨v37,by rw [q]; rfl,by rw [q]; exact ew ax<|by have :=V.size; have :=A.size; omega⟩,Md.trans V<|Md.trans A aX⟩
end Go.Hb
end
namespace Go.Hb.j7
theorem VT {b:UInt8} (h:¬(b.toNat:Int)=10):b≠10:=by rintro rfl; exact h rfl
theorem UH {b:UInt8} (h:(b.toNat:Int)=10):b=10:=kX.1 (by have :(10:UInt8).toNat=10:=rfl; omega)
theorem UI {b:UInt8} (h:(b.toNat:Int)=13):b=13:=kX.1 (by have :(13:UInt8).toNat=13:=rfl; omega)
theorem VU {b:UInt8} (h:¬(b.toNat:Int)=13):b≠13:=by rintro rfl; exact h rfl
theorem BV (b:UInt8) (w:World):
 bo aw 191 (bh [.int .u8 b.toNat]) w (fun v w'=>v= .bool (m7 b)∧Wk w w'):=by
 refine enter func191 aa ntmps191 aa<|ag fun i=>ay<|i<|ag fun a=>au (.int .u8 b.toNat)<|p (bI aa aa)<|p mv<|gs (t:=5) aa (fun q=> ?_) fun q=> ?_
 exact aH aa<|aH aa<|p (bB aa)<|ay<|a<|rt<|aX aa<|⟨by show bT true =_; rw [qq,decide_eq_true (.inl ab)],Md.refl _ _⟩
 exact aI aa (aU (.int .u8 b.toNat) aa)<|aI aa (bI aa aa)<|p (bq aa)<|ay<|a<|rt<|aX aa<|⟨by show bT (decide ((b.toNat:Int)=9))=_; rw [qq]; exact congrArg bT (decide_eq_decide.2 ab),Md.refl _ _⟩
theorem SO (l:List UInt8) (w:World) (bp:l.length≤1048576):
 bo aw 127 (bh [str l]) w (fun v w'=>bu w' w.heap.size 9 1 v (cH [] l).length ((cH [] l).map str)∧Wk w w'):=by
 refine enter func127 aa ntmps127 aa<|ag fun aA=>ay<|aA<|ag fun aD=>p aB<|nl<|aD<|ag fun aF=>ay<|aF<|aC fun aG=>ag fun aK=>au (str l)<|p (cy u9 aa aa)<|p mv<|nl<|aK<|aM<|lp (fun ax M ar=> ∃ (i:Nat) (a:Int) (O:List UInt8) (q:List (List UInt8)) (v:Value),(i≤l.length)∧(kY l i a O)∧(q++cH O (l.drop i)=(cH [] l))∧(Wk w ar)∧(bu ar w.heap.size 9 1 v (q).length<|(q).map str)∧(M 0=str l)∧(M 3=v)∧(M 4= .int .i64 a)∧(M 7= .int .i64 l.length)∧(M 8= .int .i64 i)∧(l.length - i=ax)) _ ⟨0,-1,[],[],.slice none 0 0,ab,kY.no,aa,(Md.refl _ _),(dx _ _ _ _),aa,aa,aa,aa,aa,aa⟩ ?_
 rintro ax M ar ⟨i,a,O,q,v,hi,I,hd,Y,ai,a6,a7,a8,a9,ba,rfl⟩
 refine fx 0 a6<|fx 3 a7<|fx 4 a8<|fx 7 a9<|fx 8 ba ?_
 have bk:q.length≤l.length+1:=by have h1:=congrArg jy hd; have h2:=uE l []; rw [bL] at h1; omega
 refine ag fun aL=>p (lt aa aa)<|nl<|aL<|aC fun aN=>cd aa (fun a1=> ?_) fun a1=> ?_
 refine aO<|aN<|aC fun A=>aM<|ag fun al=>au (.int .i64 i)<|p (cO (.int .i64 i) aa)<|nl<|al<|aM<|ag fun J=>au (str l)<|au (.int .i64 i)<|p (eQ u9 aa aa ab)<|e<|cl Ao (BV (l.getD i 0) _) aa fun bv bc aY=> ?_
 obtain ⟨rfl,az⟩:=aY
 have Z:Wk w bc:=Md.trans Y az
 have br:=Z.size
 have aj:=aW ai az
 refine p mv<|gb (t:=16) aa (fun E=> ?_) fun E=> ?_
 refine aI aa (aU (.int .i64 a) aa)<|aI aa (ge aa aa)<|p (bB aa)<|ay<|J<|cd aa (fun aZ=> ?_) fun aZ=> ?_
 obtain ⟨aE,V,aq⟩:=I.pos ab
 refine ag fun G=>au (v)<|au (str l)<|au (.int .i64 a)<|au (.int .i64 i)<|p (l6 u9 aa aa aa ab)<|e<|fU fN aa aa fun bd bw bi ae aP=>e<|ap fN (aW aj ae.md) aa (by have :=ae.size; omega) aa (aJ.dZ aP) (aa) (aa) ab ab fun bb bx a2 aT bs bl=> ?_
 have aR:=Wk.own (Md.trans Z ae.md) (aW aj ae.md) aT<|cB _
 have a3:=mB a2
 exact ay<|G<|rg aa<|p aB<|nl<|bn<|bn<|A<|rg aa<|p (ad aa aa<|bX ab)<|p mv<|nl<|tn<|⟨_,ab,i+1,-1,[],q++ [(l.take i).drop a.toNat],bb,ab,kY.no,(by rw [drop_cons 0 ab,HD E aq,V] at hd; rw [dF]; exact hd),aR,a3,aa,aa,aa,aa,aa,aa⟩
 refine ag fun G=>au (str l)<|au (.int .i64 i)<|p (eQ u9 aa aa ab)<|e<|cl Ao (BV (l.getD i 0) _) aa fun v31 av am=> ?_
 obtain ⟨rfl,U⟩:=am
 have ac:Wk w av:=Md.trans Z U
 have ak:=aW aj U
 refine p (no aa)<|p mv<|gb (t:=33) aa (fun C=> ?_) fun C=> ?_
 refine aI aa (aU (.int .i64 a) aa)<|aI aa (lt aa aa)<|p (bB aa)<|ay<|G<|cd aa (fun an=> ?_) fun an=> ?_
 refine rg aa<|au (.int .i64 i)<|p (cO (.int .i64 i) aa)<|nl<|bn<|bn<|A<|rg aa<|p (ad aa aa<|bX ab)<|p mv<|nl<|tn ?_
 rw [E] at C; cases C
 refine aO<|bn<|bn<|A<|rg aa<|p (ad aa aa<|bX ab)<|p mv<|nl<|tn ?_
 rw [E] at C; cases C
 exact aH aa<|aH aa<|p (bq aa)<|ay<|G<|cf aa<|aO<|bn<|bn<|A<|rg aa<|p (ad aa aa<|bX ab)<|p mv<|nl<|tn<|⟨_,ab,i+1,a,O,q,v,ab,(by obtain ⟨h1,h2⟩:=I.neg ab; subst h1 h2; exact kY.no),(by obtain ⟨h1,h2⟩:=I.neg ab; subst h2; rw [drop_cons 0 ab,xO E] at hd; exact hd),ac,ak,aa,aa,aa,aa,aa,aa⟩
 refine aH aa<|aH aa<|p (bq aa)<|ay<|J<|cf aa<|aC fun G=>rg aa<|au (str l)<|au (.int .i64 i)<|p (eQ u9 aa aa ab)<|e<|cl Ao (BV (l.getD i 0) _) aa fun v31 av am=> ?_
 obtain ⟨rfl,U⟩:=am
 have ac:Wk w av:=Md.trans Z U
 have ak:=aW aj U
 refine p (no aa)<|p mv<|gb (t:=33) aa (fun C=> ?_) fun C=> ?_
 refine aI aa (aU (.int .i64 a) aa)<|aI aa (lt aa aa)<|p (bB aa)<|ay<|G<|cd aa (fun an=> ?_) fun an=> ?_
 exact rg aa<|au (.int .i64 i)<|p (cO (.int .i64 i) aa)<|nl<|bn<|bn<|A<|rg aa<|p (ad aa aa<|bX ab)<|p mv<|nl<|tn<|⟨_,ab,i+1,i,[l.getD i 0],q,v,ab,(kY.begin ab),(by obtain ⟨h1,h2⟩:=I.neg ab; subst h2; rw [drop_cons 0 ab,Bx E] at hd; exact hd),ac,ak,aa,aa,aa,aa,aa,aa⟩
 exact aO<|bn<|bn<|A<|rg aa<|p (ad aa aa<|bX ab)<|p mv<|nl<|tn<|⟨_,ab,i+1,a,O++ [l.getD i 0],q,v,ab,(I.more ab ab),(by rw [drop_cons 0 ab,Bx E] at hd; exact hd),ac,ak,aa,aa,aa,aa,aa,aa⟩
 refine aH aa<|aH aa<|p (bq aa)<|ay<|G<|cf aa<|aO<|bn<|bn<|A<|rg aa<|p (ad aa aa<|bX ab)<|p mv<|nl<|tn ?_
 rw [E] at C; cases C
 refine ext<|bf<|bf<|be<|aG<|aC fun A=>ag fun al=>au (.int .i64 a)<|p (ge aa aa)<|nl<|al<|cd aa (fun a0=> ?_) fun a0=> ?_
 obtain ⟨aE,V,aq⟩:=I.pos ab
 refine rg aa<|au (v)<|au (str l)<|au (.int .i64 a)<|p (l7 u9 aa aa ab)<|e<|fU fN aa aa fun bg bz bj ah aQ=>e<|ap fN (aW ai ah.md) aa (by have :=ah.size; have :=Y.size; omega) aa (aJ.dZ aQ) (aa) (aa) ab ab fun v46 bA a4 aV bt bm=> ?_
 have aS:=Wk.own (Md.trans Y ah.md) (aW ai ah.md) aV<|cB _
 have a5:=mB a4
 refine ay<|A<|ag fun J=>p mv<|p aB<|nl<|J<|rt<|aX aa ?_
 have ao:q++ [l.drop a.toNat]=(cH [] l):=by rw [← hd,show l.drop i= [] from gV ab,HE aq,V,eN ab]
 exact ⟨by rw [← ao]; exact a5,aS⟩
 obtain ⟨aE,V⟩:=I.neg ab
 refine aO<|A<|ag fun J=>au (v)<|p (cO (v) aa)<|nl<|J<|rt<|aX aa ?_
 have ao:q=(cH [] l):=by rw [← hd,gV ab,V,By,ek]
 exact ⟨by rw [← ao]; exact ai,Y⟩
theorem WU (l:List UInt8) (w:World) (bb:l.length≤1048576):
 bo aw 170 (bh [str l]) w (fun v w'=>bu w' w.heap.size 9 1 v (cH [] l).length ((cH [] l).map str)∧Wk w w'):=by
 refine enter func170 aa ntmps170 aa<|ag fun aG=>ay<|aG<|ag fun aL=>p aB<|nl<|aL<|ag fun aN=>ay<|aN<|aC fun aP=>aM<|lp (fun M al ak=> ∃ (i:Nat) (q:List (List UInt8)) (v:Value),(i≤l.length)∧(q++cH [] (l.drop i)=(cH [] l))∧(Wk w ak)∧(bu ak w.heap.size 9 1 v (q).length<|(q).map str)∧(al 0=str l)∧(al 3=v)∧(al 4= .int .i64 i)∧(l.length - i=M)) _ ⟨0,[],.slice none 0 0,ab,aa,(Md.refl _ _),(dx _ _ _ _),aa,aa,aa,aa⟩ ?_
 rintro M al ak ⟨i,q,v,hi,hd,C,E,a2,a3,a4,rfl⟩
 refine fx 0 a2<|fx 3 a3<|fx 4 a4 ?_
 have a9:q.length≤l.length+1:=by have h1:=congrArg jy hd; have h2:=uE l []; rw [bL] at h1; omega
 refine aC fun aQ=>ag fun aR=>au (.int .i64 i)<|au (str l)<|p (cy u9 aa aa)<|p (lt aa aa)<|nl<|aR<|cd aa (fun aY=> ?_) fun aY=> ?_
 refine aO<|aQ<|aM<|aC fun ao=>ag fun ar=>au (str l)<|au (.int .i64 i)<|p (eQ u9 aa aa ab)<|p (bI aa aa)<|p mv<|gs (t:=14) aa (fun aZ=> ?_) fun aZ=> ?_
 exact aH aa<|aH aa<|aH aa<|aH aa<|p (bB aa)<|nl<|ar<|ct aa<|ag fun J=>au (.int .i64 i)<|p (ad aa aa<|bX ab)<|ay<|J<|ext<|bf<|be<|tn<|⟨_,ab,i+1,q,v,ab,(by rw [drop_cons 0 ab,xO (by rw [qq]; exact decide_eq_true<|.inl ab)] at hd; exact hd),C,E,aa,aa,aa,aa⟩
 refine aI aa (aU (str l) aa)<|aI aa (aU (.int .i64 i) aa)<|aI aa (eQ u9 aa aa ab)<|aI aa (bI aa aa)<|p (bq aa)<|nl<|ar<|cd aa (fun aT=> ?_) fun aT=> ?_
 exact ag fun J=>au (.int .i64 i)<|p (ad aa aa<|bX ab)<|ay<|J<|ext<|bf<|be<|tn<|⟨_,ab,i+1,q,v,ab,(by rw [drop_cons 0 ab,xO (by rw [qq]; exact decide_eq_true<|.inr ab)] at hd; exact hd),C,E,aa,aa,aa,aa⟩
 have aq:m7 (l.getD i 0)=false :=by rw [qq]; exact decide_eq_false ab
 refine aO<|ao<|ag fun J=>au (.int .i64 i)<|p (cO (.int .i64 i) aa)<|nl<|J<|aC fun am=>aM<|lp (fun M aj aF=> ∃ (j:Nat),(i≤j∧j≤l.length)∧(aF=ak)∧(q++cH ((l.take j).drop i) (l.drop j)=(cH [] l))∧(aj 0=str l)∧(aj 3=v)∧(aj 4= .int .i64 i)∧(aj 5= .int .i64 j)∧(l.length - j=M)) _ ⟨i,ab,aa,(by rw [gV (by rw [dT]; omega)]; exact hd),aa,aa,aa,aa,aa⟩ ?_
 rintro M aj aF ⟨j,ba,aS,A,a5,a6,a7,a8,rfl⟩
 refine fx 0 a5<|fx 3 a6<|fx 4 a7<|fx 5 a8 ?_
 subst aS
 refine aC fun aK=>ag fun an=>au (.int .i64 j)<|au (str l)<|p (cy u9 aa aa)<|p (lt aa aa)<|p mv<|gs (t:=27) aa (fun a0=> ?_) fun a0=> ?_
 refine aI aa (aU (str l) aa)<|aI aa (aU (.int .i64 j) aa)<|aI aa (eQ u9 aa aa ab)<|aI aa (dj aa aa)<|p (bB aa)<|p mv<|gs (t:=33) aa (fun a1=> ?_) fun a1=> ?_
 refine aI aa (aU (str l) aa)<|aI aa (aU (.int .i64 j) aa)<|aI aa (eQ u9 aa aa ab)<|aI aa (dj aa aa)<|p (bB aa)<|nl<|an<|cd aa (fun aV=> ?_) fun aV=> ?_
 exact aO<|aK<|aM<|rg aa<|au (.int .i64 j)<|p (ad aa aa<|bX ab)<|p aB<|nl<|bn<|tn<|⟨_,ab,j+1,ab,aa,(by rw [drop_cons (l:=l) (i:=j) 0 ab,Bx (by rw [qq]; exact decide_eq_false ab),← vt 0 ab ab] at A; exact A),aa,aa,aa,aa,aa⟩
 have G:l.length≤j∨m7 (l.getD j 0)=true := .inr<|by rw [qq]; exact decide_eq_true<|.inr ab
 have Z:¬j=i:=by
  rintro rfl
  rcases G with h | h
  omega
  rw [aq] at h; cases h
 have ac:(l.take j).drop i≠[]:=fun O=>Z<|by have h1:=congrArg jy O; simp only [fP,dT,ga] at h1; omega
 rw [Bv (i:=j) ac G] at A
 refine ext<|bf<|bf<|be<|am<|ag fun I=>au (v)<|au (str l)<|au (.int .i64 i)<|au (.int .i64 j)<|p (l6 u9 aa aa aa ab)<|e<|fU fN aa aa fun av aD ax a U=>e<|ap fN (aW E a.md) aa (by have :=a.size; have :=C.size; omega) aa (aJ.dZ U) (aa) (aa) ab ab fun ai aE ae Y aA az=> ?_
 have V:=Wk.own (Md.trans C a.md) (aW E a.md) Y<|cB _
 have ah:=mB ae
 exact ay<|I<|rg aa<|au (.int .i64 j)<|p (cO (.int .i64 j) aa)<|nl<|bn<|tn<|⟨_,ab,j,q++ [(l.take j).drop i],ai,ab,(by rw [dF]; exact A),V,ah,aa,aa,aa,aa⟩
 have G:l.length≤j∨m7 (l.getD j 0)=true := .inr<|by rw [qq]; exact decide_eq_true<|.inl ab
 have Z:¬j=i:=by
  rintro rfl
  rcases G with h | h
  omega
  rw [aq] at h; cases h
 have ac:(l.take j).drop i≠[]:=fun O=>Z<|by have h1:=congrArg jy O; simp only [fP,dT,ga] at h1; omega
 rw [Bv (i:=j) ac G] at A
 refine aH aa<|aH aa<|aH aa<|aH aa<|p (bq aa)<|nl<|an<|cf aa<|ext<|bf<|bf<|be<|am<|ag fun I=>au (v)<|au (str l)<|au (.int .i64 i)<|au (.int .i64 j)<|p (l6 u9 aa aa aa ab)<|e<|fU fN aa aa fun av aD ax a U=>e<|ap fN (aW E a.md) aa (by have :=a.size; have :=C.size; omega) aa (aJ.dZ U) (aa) (aa) ab ab fun ai aE ae Y aA az=> ?_
 have V:=Wk.own (Md.trans C a.md) (aW E a.md) Y<|cB _
 have ah:=mB ae
 exact ay<|I<|rg aa<|au (.int .i64 j)<|p (cO (.int .i64 j) aa)<|nl<|bn<|tn<|⟨_,ab,j,q++ [(l.take j).drop i],ai,ab,(by rw [dF]; exact A),V,ah,aa,aa,aa,aa⟩
 have G:l.length≤j∨m7 (l.getD j 0)=true := .inl ab
 have Z:¬j=i:=by
  rintro rfl
  rcases G with h | h
  omega
  rw [aq] at h; cases h
 have ac:(l.take j).drop i≠[]:=fun O=>Z<|by have h1:=congrArg jy O; simp only [fP,dT,ga] at h1; omega
 rw [Bv (i:=j) ac G] at A
 refine aH aa<|aH aa<|aH aa<|aH aa<|p (bq aa)<|p mv<|aH aa<|aH aa<|aH aa<|aH aa<|p (bq aa)<|nl<|an<|cf aa<|ext<|bf<|bf<|be<|am<|ag fun I=>au (v)<|au (str l)<|au (.int .i64 i)<|au (.int .i64 j)<|p (l6 u9 aa aa aa ab)<|e<|fU fN aa aa fun av aD ax a U=>e<|ap fN (aW E a.md) aa (by have :=a.size; have :=C.size; omega) aa (aJ.dZ U) (aa) (aa) ab ab fun ai aE ae Y aA az=> ?_
 have V:=Wk.own (Md.trans C a.md) (aW E a.md) Y<|cB _
 have ah:=mB ae
 exact ay<|I<|rg aa<|au (.int .i64 j)<|p (cO (.int .i64 j) aa)<|nl<|bn<|tn<|⟨_,ab,j,q++ [(l.take j).drop i],ai,ab,(by rw [dF]; exact A),V,ah,aa,aa,aa,aa⟩
 refine ext<|bf<|bf<|be<|aP<|ag fun ao=>au (v)<|p (cO (v) aa)<|nl<|ao<|rt<|aX aa ?_
 have A:q=(cH [] l):=by rw [← hd,gV ab,By,ek]
 exact ⟨by rw [← A]; exact E,C⟩
theorem Ct (s:List UInt8) (w:World):
 bo aw 171 (bh [str s]) w (fun v w'=>v= .bool (td s)∧Wk w w'):=by
 refine enter func171 aa ntmps171 aa<|ag fun i=>ay<|i<|ag fun a=>au (str s)<|p (cy u9 aa aa)<|p (ge aa aa)<|p mv<|gs (t:=6) aa (fun C=> ?_) fun C=> ?_
 refine aI aa (aU (str s) aa)<|aI aa (jd 0 u9 aa aa ab)<|aI aa (bI aa aa)<|p (bB aa)<|p mv<|gs (t:=11) aa (fun q=> ?_) fun q=> ?_
 refine aI aa (aU (str s) aa)<|aI aa (jd 1 u9 aa aa ab)<|aI aa (bI aa aa)<|p (bB aa)<|p mv<|gs (t:=16) aa (fun A=> ?_) fun A=> ?_
 exact aI aa (aU (str s) aa)<|aI aa (jd 2 u9 aa aa ab)<|aI aa (bI aa aa)<|p (bB aa)<|ay<|a<|rt<|aX aa<|⟨by show bT (decide (((s.getD 2 0).toNat:Int)=191))=_; rw [yr]; exact congrArg bT (decide_eq_decide.2 ab),Md.refl _ _⟩
 exact aH aa<|aH aa<|aH aa<|p (bq aa)<|ay<|a<|rt<|aX aa<|⟨by show bT false =_; rw [yr,decide_eq_false ab],Md.refl _ _⟩
 exact aH aa<|aH aa<|aH aa<|p (bq aa)<|p mv<|aH aa<|aH aa<|aH aa<|p (bq aa)<|ay<|a<|rt<|aX aa<|⟨by show bT false =_; rw [yr,decide_eq_false ab],Md.refl _ _⟩
 exact aH aa<|aH aa<|aH aa<|p (bq aa)<|p mv<|aH aa<|aH aa<|aH aa<|p (bq aa)<|p mv<|aH aa<|aH aa<|aH aa<|p (bq aa)<|p aB<|nl<|a<|rt<|aX aa<|⟨by show bT false =_; rw [yr,decide_eq_false ab],Md.refl _ _⟩
theorem GU (l:List UInt8) (a:Option Addr) (c:Nat) (w:World) (q:aJ w.heap a (U8 l)) (O:l.length≤1048576) (M:l.length≤c):
 bo aw 172 (bh [.slice a l.length c]) w (fun v w'=>v=str (jK l)∧Wk w w'):=by
 refine enter func172 aa ntmps172 aa<|ag fun E=>ay<|E<|ag fun G=>au (.slice a l.length c)<|p (bK mK aa aa)<|ay<|G<|aC fun A=>ag fun C=>p mv<|p (gt aa aa)<|p mv<|gs (t:=8) aa (fun J=> ?_) fun J=> ?_
 refine aI aa (aU (.slice a l.length c) aa)<|aI aa mv<|aI aa (sb aa aa<|bX ab)<|aI aa (ba lX aa aa ab<|aJ.ok (q)<|pN ab)<|aI aa (ld o8 aa<|(show _=some (jk .u8 (l.getD (l.length - 1) 0).toNat) from by rw [show ((l.length:Int) - 1).toNat=l.length - 1 from by omega]; exact pM q ab))<|aI aa (bI aa aa)<|p (bB aa)<|nl<|C<|cd aa (fun I=> ?_) fun I=> ?_
 exact ag fun i=>au (.slice a l.length c)<|p mv<|p (sb aa aa<|bX ab)<|p (vu lX aa aa ab)<|p (mZ mX aa (YD q ((l.length:Int) - 1).toNat)<|by rw [dT]; omega)<|p aB<|nl<|i<|rt<|tr<|aX aa<|⟨by show str (l.take ((l.length:Int) - 1).toNat)=_; rw [GR ab (UI ab),show ((l.length:Int) - 1).toNat=l.length - 1 from by omega],Md.refl _ _⟩
 exact aO<|A<|ag fun i=>au (.slice a l.length c)<|p (mZ mX aa (q)<|aa)<|p aB<|nl<|i<|rt<|aX aa<|⟨by show str l=_; rw [A9 (fun h=>VU ab h.2)],Md.refl _ _⟩
 refine aH aa<|aH aa<|aH aa<|aH aa<|aH aa<|aH aa<|p (bq aa)<|nl<|C<|cf aa<|aO<|A<|ag fun i=>au (.slice a l.length c)<|p (mZ mX aa (q)<|aa) ?_
 exact ay<|i<|rt<|aX aa<|⟨by show str l=_; rw [A9 ab],Md.refl _ _⟩
end Go.Hb.j7
section
namespace Go.Hb
open Go.Hb.iu Go.Hb.j7
theorem Up {l:List Tx} {x:Tx} :∀ {i:Nat},i < l.length→(∀ j,j < i→l.getD j []≠x)→l.getD i []=x→l.idxOf x=i:=by
 induction l with
 | nil=>intro i h; simp at h
 | cons a l E=>
   intro i hi C q
   cases i with
   | zero=>simp only [lO] at q; rw [q,List.idxOf_cons_self]
   | succ i=>
     have A:=C 0 ab
     simp only [lO] at A
     rw [List.idxOf_cons,show (a==x)=false from by simpa using A,cond_false,E (i:=i) (by simpa using hi) (fun j G=>by have :=C (j+1) ab; simpa using this) (by simpa using q)]
theorem SC {a b:List Tx} (h:a.length≠b.length):a≠b:=fun h2=>h<|by rw [h2]
theorem Tz {a b:List Tx} {i:Nat} (h:a.getD i []≠b.getD i []):a≠b:=fun h2=>h<|by rw [h2]
theorem Tv {a b:List Tx} (q:a.length=b.length) (h:∀ i,i < a.length→a.getD i []=b.getD i []):a=b:=by
 apply List.ext_getElem q
 intro i h1 h2
 have :=h i h1
 rw [cV,cV,cD h1,cD h2] at this
 exact this
theorem Yj {s:Tx} {i:Nat} (h:i < s.length):(s.drop i).take 1= [s.getD i 0]:=by
 rw [drop_cons 0 h]; rfl
theorem LH (b:UInt8):pP [b]=iR b:=by
 unfold pP gu
 cases h:iR b <;> simp [h]
theorem KE {s:Tx} {i:Nat} (h:i < s.length):(s.take<|i+1).drop i= [s.getD i 0]:=by
 rw [r5,show i+1 - i=1 from by omega,Yj h]
theorem xI {s:Tx} (h:s= []∨gu s=false):gF s=21:=if_pos h
theorem Hk {s:Tx} (h:s≠[]) (h1:gu s=true) (h2:32 < s.length):gF s=22:=by unfold gF; rw [if_neg (by rw [h1]; simp [h]),if_pos h2]
theorem Hl {s:Tx} (h:s≠[]) (h1:gu s=true) (h2:¬32 < s.length):gF s=0:=by unfold gF; rw [if_neg (by rw [h1]; simp [h]),if_neg h2]
theorem JO {s:Tx} (h:s= [48]):eB true s= .ok []:=by unfold eB; rw [if_pos ⟨rfl,h⟩]
theorem CR {s:Tx} (h:s≠[48]):eB true s=eB false s:=by unfold eB; simp [h]
theorem CN {s:Tx} (h:(bA s).2.2.2≠0):eB false s= .error (bA s).2.2.2:=by unfold eB; rw [if_neg (fun h2=>by cases h2.1),if_pos h]
theorem CO {s:Tx} (h:(bA s).2.2.2=0) (h1:(bA s).2.2.1=true):eB false s= .error 114:=by unfold eB; rw [if_neg (fun h2=>by cases h2.1),if_neg (fun h2=>h2 h),if_pos h1]
theorem CP {s:Tx} (h:(bA s).2.2.2=0) (h1:(bA s).2.2.1=false) (h2:gF (bA s).1≠0):eB false s= .error (gF (bA s).1):=by unfold eB; rw [if_neg (fun h2=>by cases h2.1),if_neg (fun h2=>h2 h),if_neg (by rw [h1]; simp),if_pos h2]
theorem CQ {s:Tx} (h:(bA s).2.2.2=0) (h1:(bA s).2.2.1=false) (h2:gF (bA s).1=0):eB false s= .ok (bA s).1:=by unfold eB; rw [if_neg (fun h2=>by cases h2.1),if_neg (fun h2=>h2 h),if_neg (by rw [h1]; simp),if_neg (fun h3=>h3 h2)]
theorem nO {s:Tx} {most:Int} (h:(eb s most).2=0):eX s most= .ok (eb s most).1:=by unfold eX; rw [if_neg (fun h2=>h2 h)]
theorem pG {s:Tx} {most:Int} (h:(eb s most).2≠0):eX s most= .error 13∧(eb s most).2=13:=by
 refine ⟨by unfold eX; rw [if_pos h],?_⟩
 rcases JA s most with h1 | ⟨h1,_⟩
 · rw [h1]
 · rw [h1] at h; exact absurd rfl h
theorem IG (l:List Tx) (a:Option Addr) (c:Nat) (x:Tx) (w:World) (I:cg w.heap a l) (aq:l.length≤1048576):
 bo aw 192 (bh [.slice a l.length c,str x]) w (fun v w'=>v= .int .i64 (if x∈l then (l.idxOf x:Nat) else -1:Int)∧w'=w):=by
 refine enter func192 aa ntmps192 aa<|ag fun O=>ay<|O<|aC fun U=>ag fun V=>au (.slice a l.length c)<|p (bK eV aa aa)<|p mv<|nl<|V<|aM<|lp (fun G q M=> ∃ (i:Nat),(i≤l.length)∧(∀ j,j < i→l.getD j []≠x)∧(M=w)∧(q 0= .slice a l.length c)∧(q 1=str x)∧(q 7=ak (l.length))∧(q 8=ak i)∧(l.length - i=G)) _ ⟨0,ab,(fun j J=>by omega),aa,aa,aa,aa,aa,aa⟩ ?_
 rintro G q M ⟨i,hi,E,ai,al,am,an,ao,rfl⟩
 refine fx 0 al<|fx 1 am<|fx 7 an<|fx 8 ao ?_
 subst ai
 refine ag fun Y=>p (lt aa aa)<|nl<|Y<|aC fun Z=>cd aa (fun aj=> ?_) fun aj=> ?_
 refine aO<|Z<|aC fun C=>aM<|ag fun ac=>au (ak i)<|p (cO (ak i) aa)<|nl<|ac<|ag fun ae=>au (str x)<|au (.slice a l.length c)<|au (ak i)<|p (ba cI aa aa ab<|aJ.ok (I)<|bS ab)<|p (ld bU aa<|cg.get (i:=i) I ab)<|p (dW aa aa)<|nl<|ae<|cd aa (fun A=> ?_) fun A=> ?_
 exact ag fun ah=>au (ak i)<|p (cO (ak i) aa)<|nl<|ah<|rt<|br<|tr<|tr<|br<|tr<|aX aa<|⟨by rw [if_pos (by rw [A]; exact dV ab),Up ab E A.symm]; rfl,aa⟩
 exact aO<|bn<|C<|rg aa<|p (ad aa aa<|bX ab)<|p mv<|nl<|tn<|⟨_,ab,i+1,ab,(fun j J=>by rcases fg j i with h | h <;> first | exact E j h | (rw [show j=i by omega]; exact fun h2=>A h2.symm)),aa,aa,aa,aa,aa,aa⟩
 exact ext<|bf<|bf<|be<|U<|ag fun C=>p aB<|nl<|C<|rt<|aX aa<|⟨by rw [if_neg (fun h=>by obtain ⟨j,J,ap⟩:=nM [] h; exact E j ab ap)]; rfl,aa⟩
theorem SD (l m:List Tx) (A E:Nat) (a b:Option Addr) (c d:Nat) (w:World) (Y:cg w.heap a l) (Z:cg w.heap b m) (aI:l.length=A) (aK:m.length=E) (aH:A≤1048576):
 bo aw 240 (bh [.slice a A c,.slice b E d]) w (fun v w'=>v= .bool (decide (l=m))∧Wk w w'):=by
 refine enter func240 aa ntmps240 aa<|ag fun ah=>ay<|ah<|aC fun am=>ag fun an=>au (.slice a A c)<|p (bK eV aa aa)<|au (.slice b E d)<|p (bK eV aa aa)<|p (dj aa aa)<|nl<|an<|cd aa (fun av=> ?_) fun av=> ?_
 exact ag fun J=>ay<|J<|rt<|tr<|aX aa<|⟨by show bT false =_; rw [decide_eq_false (SC ab)],Md.refl _ _⟩
 have az:l.length=m.length:=ab
 refine aO<|am<|aC fun J=>ag fun ao=>au (.slice a A c)<|p (bK eV aa aa)<|p mv<|nl<|ao<|aM<|lp (fun V I G=> ∃ (i:Nat),(i≤A)∧(∀ j,j < i→l.getD j []=m.getD j [])∧(Wk w G)∧(I 0= .slice a A c)∧(I 1= .slice b E d)∧(I 12=ak A)∧(I 13=ak i)∧(A - i=V)) _ ⟨0,ab,(fun j ac=>by omega),(Md.refl _ _),aa,aa,aa,aa,aa⟩ ?_
 rintro V I G ⟨i,hi,ae,C,aA,aD,aF,aG,rfl⟩
 refine fx 0 aA<|fx 1 aD<|fx 12 aF<|fx 13 aG<|ag fun ap=>p (lt aa aa)<|nl<|ap<|aC fun aq=>cd aa (fun ax=> ?_) fun ax=> ?_
 refine aO<|aq<|aC fun M=>aM<|ag fun ar=>au (ak i)<|p (cO (ak i) aa)<|nl<|ar<|aC fun ai=> ?_
 have q:(fun w'=>Wk G w') G.drew:=(Md.refl _ _).drew
 refine bM (fun w'=>Wk G w') aa wide q<|bH 0 aa (.slice a A c) q<|bH 1 aa (ak i) q<|aE 2 aa (fun _ _=>ba cI aa aa ab<|aJ.ok (Y.wk C)<|bS ab) q<|aE 3 aa (fun w' O=>ld bU aa<|Wk.aQ O<|cg.get (i:=i) (Y.wk C) ab) q<|bH 4 aa (.slice b E d) q<|bH 5 aa (ak i) q<|aE 6 aa (fun _ _=>ba cI aa aa ab<|aJ.ok (Z.wk C)<|bS ab) q<|aE 7 aa (fun w' O=>ld bU aa<|Wk.aQ O<|cg.get (i:=i) (Z.wk C) ab) q<|aE 8 aa (fun _ _=>oG aa aa) q<|hn aj<|ai<|cd aa (fun U=> ?_) fun U=> ?_
 exact ag fun al=>ay<|al<|rt<|br<|tr<|tr<|br<|tr<|aX aa<|⟨by show bT false =_; rw [decide_eq_false (Tz U)],C.drew⟩
 exact aO<|bn<|M<|rg aa<|p (ad aa aa<|bX ab)<|p mv<|nl<|tn<|⟨_,ab,i+1,ab,(fun j ac=>by rcases fg j i with h | h <;> first | exact ae j h | (rw [show j=i by omega]; exact jq.1 U)),C.drew,aa,aa,aa,aa,aa⟩
 exact ext<|bf<|bf<|be<|J<|ag fun M=>p aB<|nl<|M<|rt<|aX aa<|⟨by show bT true =_; rw [decide_eq_true (Tv az fun j ac=>ae j ab)],C⟩
theorem oF (rb ln:Nat) (e:Int) (w:World) (q:Hb.aQ w.heap rb 2=some (.int .i64 (ln:Nat))):
 fC aw 136 (bh [.pointer (some ⟨rb,0,none⟩),.int .i64 e]) w (fun v w'=>v=gz #[]∧e=0∧w'=w) (fun c w'=>c=jm 47 ln e∧e≠0∧w'=w):=by
 refine ka func136 aa ntmps136 aa<|sq fun A a=>rg aa<|p (aU (.int .i64 e) aa)<|p (dj aa aa)<|nl<|tn<|a _ _<|cd aa (fun i=> ?_) fun i=> ?_
 exact rg aa<|p (aU (.pointer<|some ⟨rb,0,none⟩) aa)<|p (nc aa)<|p (fa uL aa)<|p (ld bC aa<|q)<|p (aU (.int .i64 e) aa)<|p (cU (ps:= [(0,.int .i64 1),(1,.int .i64 (ln:Nat)),(2,.int .i64 e)]) (L:= [.int .i64 1,.int .i64 (ln:Nat),.int .i64 e]) tq aa<|aa)<|p (VB Cv aa)<|Wu aa fun E C=>⟨aa,ab,aa⟩
 refine aO<|jM<|f0 aa ?_
 exact ⟨aa,ab,aa⟩
theorem iK (rb ln:Nat) (b:Bool) (e:Int) (w:World) (C:Hb.aQ w.heap rb 2=some (.int .i64 (ln:Nat))) (he:e≠0):
 fC aw 85 (bh [.pointer (some ⟨rb,0,none⟩),.bool b,.int .i64 e]) w (fun v w'=>v=gz #[]∧b=true∧w'=w) (fun c w'=>c=jm 47 ln e∧b=false∧w'=w):=by
 refine ka func85 aa ntmps85 aa<|sq fun E q=>rg aa<|p (aU (.bool b) aa)<|p (no aa)<|nl<|tn<|q _ _<|cb aa (fun a=> ?_) fun a=> ?_
 refine rg aa<|p (aU (.pointer<|some ⟨rb,0,none⟩) aa)<|p (aU (.int .i64 e) aa)<|eP aa (dS ou (oF rb ln e w C) aa fun v10 I A=> ?_) fun c w' i J G=>⟨i.1,by simpa using a,i.2.2⟩
 exact absurd A.2.1 he
 refine aO<|jM<|f0 aa ?_
 exact ⟨aa,by simpa using a,aa⟩
theorem Lj (B:Nat) (H:dt) (F:aT) (R:gX) (n:Nat) (r:List Tx) (rest:List Rw) (ln:Nat) (seen:List Tx) (w:World) (A:dy w B H F R ((n,r)::rest) ln seen):
 bo aw 84 (bh [aR H.rb]) w (fun v w'=>(∃ R',dy w' B H F R' rest n seen)∧Tg w' B 9 r.length v (r.map str)∧Md (fun k=>k=H.rb) w w'):=by
 obtain ⟨vr,vs,vn⟩:=R
 obtain ⟨a,cp,aD⟩:=A.rws.slice
 obtain rfl :vr= .slice a (rest.length+1) cp:=aD
 obtain ⟨q,vs,rfl⟩:∃ q I,vs=q::I:=by
  cases vs with
  | nil=>exact absurd A.rt.1<|by simp
  | cons q I=>exact ⟨q,I,rfl⟩
 obtain ⟨E,aE⟩:=q
 obtain ⟨aC,Z⟩:=A.rt.2 0 (E,aE) (n,r) rfl rfl
 obtain rfl :E=n:=aC
 obtain ⟨an,ao,rfl⟩:=Z.slice
 have ac:rest.length+1≤cp∧aJ w.heap a (kF ((E,.slice an r.length ao)::vs)):=A.rws.cells
 have C:=A.cells
 have aI:H.rb < w.heap.size:=(cQ.1 C).1
 refine enter func84 aa ntmps84 aa<|ag fun ae=>ay<|ae<|ag fun ah=>au (aR H.rb)<|p (nc aa)<|p (fa uK aa)<|p (ld ss aa<|(a7 C).trans aa)<|p (ba sS aa aa ab<|aJ.ok (ac.2)<|lK<|by simp)<|p (c8 wS aa (aa)<|lL (i:=0) ac.2 aa)<|e<|al L8 fun aG aK aH U aq=> ?_
 have aA:=U.md.aM C
 refine e<|da Gu aa aa aa aa (aq) (by simp) fun aN J ap=> ?_
 have Y:=J.aM aA fun h=>by omega
 refine nl<|ah<|ag fun ai=>au (aR H.rb)<|au (aR H.rb)<|p (nc aa)<|p (fa uK aa)<|p (ld ss aa<|(a7 Y).trans aa)<|p (vv sS aa aa ab)<|p (nc aa)<|p (fa uK aa)<|e<|cJ Gt aa aa (v:= .slice (gp a cp 1 2) rest.length<|cp - 1) aa Y (by show _ < 7; decide) fun aL M ar=> ?_
 have V:=M.B ap fun h=>by omega
 refine nl<|ai<|ag fun aj=>au (aR H.rb)<|p (fa xU aa)<|p (ld bC aa<|(V.aQ 0).trans aa)<|p (nc aa)<|p (fa uL aa)<|e<|cJ gB aa aa (v:=ak E) aa ar (by show _ < 7; decide) fun aF O av=> ?_
 have ax:=O.B V fun h=>by omega
 refine nl<|aj<|ag fun am=>p (fa uM aa)<|p (ld jS aa<|(ax.aQ 1).trans aa)<|p aB<|nl<|am<|rt<|aX aa ?_
 have G:Md (fun k=>k=H.rb) w aF:=(((U.md.mono fun _ _ h=>h.elim).trans' J fun k hk h=>by omega).trans' M fun _ _ h=>h).trans' O fun _ _ h=>h
 exact ⟨⟨⟨.slice (gp a cp 1 2) rest.length (cp - 1),vs,vn⟩,A.dB (R':=⟨.slice (gp a cp 1 2) rest.length (cp - 1),vs,vn⟩) G av aa (A.rws.po (m:=2)<|(Kt _).trans<|by have :=A.rt.1; simp at this; simp [this])<|gZ.tl A.rt⟩,Z.md G (fu C az),G⟩
theorem Cf (B:Nat) (H:dt) (F:aT) (R:gX) (rows:List Rw) (ln:Nat) (seen:List Tx) (hd:List Tx) (ak A:Nat) (E:Option Addr) (G:Nat) (w:World) (M:dy w B H F R rows ln seen) (ap:Tg w ak 9 A (.slice E A G) (hd.map str)) (O:hd.length=A) (aX:A≤1000) (aH:∀ q∈rows,q.2.length≤70000):
 fC aw 197 (bh [.pointer (some ⟨H.rb,0,none⟩),.slice E A G]) w (fun v w'=> ∃ n r rest,rows=(n,r)::rest∧r.take hd.length=hd∧(∃ R',dy w' B H F R' rest n seen)∧Tg w' B 9 r.length v (r.map str)∧Md (fun k=>k=H.rb) w w') (fun c w'=>((rows= []∧c=jm 47 H.eof 116)∨(∃ n r rest,rows=(n,r)::rest∧r.take hd.length≠hd∧c=jm 47 n 116))∧Md (fun k=>k=H.rb) w w'):=by
 obtain ⟨a,cp,aI⟩:=M.rws.slice
 have Z:=M.cells
 have ac:=M.cells
 unfold vk at Z
 rw [aI] at Z
 refine ka func197 aa ntmps197 aa<|sq fun aP av=>rg aa<|p aB<|nl<|tn<|av _ _<|sq fun aR ax=>sq fun aS ay=>rg aa<|p (aU (.pointer<|some ⟨H.rb,0,none⟩) aa)<|p (nc aa)<|p (fa uK aa)<|p (ld ss aa<|(a7 Z).trans aa)<|p (bK y2 aa aa)<|p (bI aa aa)<|nl<|tn<|ay _ _<|cd aa (fun ai=> ?_) fun ai=> ?_
 obtain rfl :rows= []:=fS ab
 refine sq fun al U=>rg aa<|p (aU (.pointer<|some ⟨H.rb,0,none⟩) aa)<|p (aU (.pointer<|some ⟨H.rb,0,none⟩) aa)<|p (nc aa)<|p (fa Tc aa)<|p (ld bC aa<|(a7 ac).trans aa)<|p (nc aa)<|p (fa uL aa)<|e<|cJ gB aa aa (v:= .int .i64 (H.eof:Nat)) aa ac (by show _ < 7; decide) fun aN aA ao=>nl<|tn<|U _ _<|rg aa<|p (aU (.pointer<|some ⟨H.rb,0,none⟩) aa)<|eP aa (dS ou (oF H.rb H.eof 116 aN<|(a7 ao).trans aa) aa fun v20 a1 aC=> ?_) fun c w' i aj ag=>⟨.inl ⟨aa,i.1⟩,i.2.2 ▸ aA⟩
 exact absurd aC.2.1 az
 obtain ⟨q,rest,rfl⟩:∃ q rest,rows=q::rest:=by
  cases rows with
  | nil=>exact absurd rfl ai
  | cons q rest=>exact ⟨q,rest,rfl⟩
 obtain ⟨n,r⟩:=q
 refine aO<|tn<|ax _ _<|sq fun al U=>rg aa<|p (aU (.pointer<|some ⟨H.rb,0,none⟩) aa)<|e<|cl FZ (Lj B H F R n r rest ln seen _ M) aa fun aZ aK aD=> ?_
 obtain ⟨⟨an,J⟩,hT,I⟩:=aD
 obtain ⟨ar,cr,rfl⟩:=hT.slice
 have aF:=hT.cM
 have aY:r.length≤70000:=aH (n,r)<|by simp
 have aq:=ap.md I<|fu ac az
 have au:=aq.cM
 have aW:=J.dq
 refine p aB<|nl<|tn<|U _ _<|sq fun aV ah=>rg aa<|p (aU (.pointer<|some ⟨H.rb,0,none⟩) aa)<|p mv<|p (bK eV aa aa)<|p (aU (.slice E A G) aa)<|p (bK eV aa aa)<|p (ge aa aa)<|p mv<|gs (t:=29) aa (fun aG=> ?_) fun aG=> ?_
 refine pg aa aa aa mv<|pg aa aa aa (aU (.slice E A G) aa)<|pg aa aa aa (bK eV aa aa)<|pg aa aa aa (vu cI aa aa ab)<|pg aa aa aa (aU (.slice E A G) aa)<|eg aa aa aa<|cl Po (SD (r.take A) hd _ _ ar E cr G _ (by have :=aJ.take aF.2 A; unfold cg; rw [Ei]; exact this) au.2 (by rw [dT]; omega) O ab) aa fun a0 aL aE=> ?_
 obtain ⟨rfl,C⟩:=aE
 refine p (bB aa)<|eP aa (dS iy (iK H.rb n _ 116 aL (by first | exact J.dq | exact Wk.aQ C J.dq) az) aa fun v37 aM Y=> ?_) fun c w' i aj ag=>⟨.inr ⟨n,r,rest,aa,(by rw [O]; first | exact of_decide_eq_false i.2.1 | exact fun h=>by have :=congrArg jy h; rw [dT] at this; omega),i.1⟩,by rw [i.2.2]; first | exact I.trans' C (fun _ _ h=>h.elim) | exact I⟩
 obtain ⟨rfl,ae,rfl⟩:=Y
 exact nl<|tn<|ah _ _<|sq fun am V=>rg aa<|p mv<|p aB<|nl<|tn<|V _ _<|rt<|jM<|f1 aa aa<|⟨n,r,rest,aa,(by rw [O]; exact of_decide_eq_true ae),⟨an,J.wk C⟩,hT.wk C,I.trans' C fun _ _ h=>h.elim⟩
 refine sk aa aa aa aa<|sk aa aa aa aa<|sk aa aa aa aa<|sk aa aa aa aa<|sk aa aa aa aa<|sk aa aa aa aa<|p (bq aa)<|eP aa (dS iy (iK H.rb n _ 116 aK (by first | exact J.dq | exact Wk.aQ C J.dq) az) aa fun v37 aM Y=> ?_) fun c w' i aj ag=>⟨.inr ⟨n,r,rest,aa,(by rw [O]; first | exact of_decide_eq_false i.2.1 | exact fun h=>by have :=congrArg jy h; rw [dT] at this; omega),i.1⟩,by rw [i.2.2]; first | exact I.trans' C (fun _ _ h=>h.elim) | exact I⟩
 obtain ⟨rfl,ae,rfl⟩:=Y
 exact nl<|tn<|ah _ _<|sq fun am V=>rg aa<|p mv<|p aB<|nl<|tn<|V _ _<|rt<|jM<|f1 aa aa<|absurd ae az
theorem yF (rb ln:Nat) (s:Tx) (most:Int) (w:World) (M:Hb.aQ w.heap rb 2=some (.int .i64 (ln:Nat))) (hs:s.length≤1048576) (hm: -9223372036854775808≤most∧most≤9223372036854775807):
 fC aw 196 (bh [.pointer (some ⟨rb,0,none⟩),str s,.int .i64 most]) w (fun v w'=> ∃ a,eX s most= .ok a∧v= .int .i64 (a:Nat)∧Wk w w') (fun c w'=> ∃ e,eX s most= .error e∧c=jm 47 ln e∧Wk w w'):=by
 refine ka func196 aa ntmps196 aa<|sq fun V A=>rg aa<|p aB<|nl<|tn<|A _ _<|sq fun Y C=>rg aa<|p (aU (str s) aa)<|p (aU (.int .i64 most) aa)<|e<|cl xe (yy s most _ hs hm) aa fun v12 U I=> ?_
 obtain ⟨rfl,q⟩:=I
 refine p mv<|p (xt aa aa)<|p (xt aa aa)<|p aB<|p aB<|nl<|tn<|C _ _<|sq fun Z E=>rg aa<|p (aU (.pointer<|some ⟨rb,0,none⟩) aa)<|p mv<|eP aa (dS ou (oF rb ln (eb s most).2 U<|Wk.aQ q M) aa fun ae ag J=> ?_) fun c w' i ah ac=>⟨13,(pG i.2.1).1,(by rw [i.1,(pG i.2.1).2]; rfl),by rw [i.2.2]; exact q⟩
 obtain ⟨rfl,O,rfl⟩:=J
 exact nl<|tn<|E _ _<|sq fun ab G=>rg aa<|p mv<|p aB<|nl<|tn<|G _ _<|rt<|jM<|f1 aa aa<|⟨_,nO O,aa,q⟩
theorem CS (rb ln:Nat) (s:Tx) (w:World) (ah:Hb.aQ w.heap rb 2=some (.int .i64 (ln:Nat))) (hs:s.length≤1048576):
 fC aw 193 (bh [.pointer (some ⟨rb,0,none⟩),str s]) w (fun v w'=>v= .tuple #[]∧gu s=true∧Wk w w') (fun c w'=>c=jm 47 ln 21∧gu s=false∧Wk w w'):=by
 refine ka func193 aa ntmps193 aa<|sq fun an O=>rg aa<|p (aU (str s) aa)<|p (cy u9 aa aa)<|p mv<|nl<|tn<|O _ _<|aM<|lp (fun E a M=> ∃ (i:Nat),(i≤s.length)∧(∀ j,j < i→iR (s.getD j 0)=true)∧(Wk w M)∧(a 0= .pointer (some ⟨rb,0,none⟩))∧(a 1=str s)∧(a 6= .int .i64 (s.length:Nat))∧(a 7= .int .i64 (i:Nat))∧(s.length - i=E)) _ ⟨0,ab,(fun j G=>by omega),(Md.refl _ _),aa,aa,aa,aa,aa⟩ ?_
 rintro E a M ⟨i,hi,I,q,ai,aj,ak,al,rfl⟩
 refine fx 0 ai<|fx 1 aj<|fx 6 ak<|fx 7 al<|sq fun ao U=>rg aa<|p (lt aa aa)<|nl<|tn<|U _ _<|sq fun ap V=>cd aa (fun ag=> ?_) fun ag=> ?_
 refine aO<|tn<|V _ _<|sq fun aq Y=>aM<|sq fun ar Z=>rg aa<|p (aU (.int .i64 (i:Nat)) aa)<|p (cO (.int .i64 (i:Nat)) aa)<|nl<|tn<|Z _ _<|rg aa<|p (aU (.pointer<|some ⟨rb,0,none⟩) aa)<|p (aU (str s) aa)<|p (aU (.int .i64 (i:Nat)) aa)<|p (aU (.int .i64 (i:Nat)) aa)<|p (bG ((i+1:Nat):Int) aa aa<|bl ab ab)<|p (l6 u9 aa aa aa ab)<|e<|cl Fj (LJ ((s.take<|i+1).drop i) _<|by rw [fP,dT]; omega) aa fun av am ac=> ?_
 obtain ⟨rfl,A⟩:=ac
 refine eP aa (dS iy (iK rb ln _ 21 am (Wk.aQ (q.trans A) ah) az) aa fun ax ay ae=> ?_) fun c w' C aA au=>⟨C.1,sG (i:=i) ab (by have h:=C.2.1; rw [KE (by omega :i < s.length),LH] at h; exact h),by rw [C.2.2]; exact q.trans A⟩
 obtain ⟨rfl,J,rfl⟩:=ae
 rw [KE (by omega :i < s.length),LH] at J
 exact nl<|bn<|tn<|Y _ _<|rg aa<|p (ad aa aa<|bX ab)<|p mv<|nl<|tn<|⟨_,ab,i+1,ab,(fun j G=>by rcases fg j i with h | h <;> first | exact I j h | (rw [show j=i by omega]; exact J)),(q.trans A),aa,aa,aa,aa,aa⟩
 refine ext<|te _<|te _<|be<|jM<|f0 aa ?_
 exact ⟨aa,uk (fun j G=>I j ab),q⟩
theorem Ka (rb ln:Nat) (s:Tx) (w:World) (A:Hb.aQ w.heap rb 2=some (.int .i64 (ln:Nat))) (hs:s.length≤1048576):
 fC aw 241 (bh [.pointer (some ⟨rb,0,none⟩),str s]) w (fun v w'=>v=str s∧gF s=0∧Wk w w') (fun c w'=>c=jm 47 ln (gF s:Nat)∧gF s≠0∧Wk w w'):=by
 refine ka func241 aa ntmps241 aa<|sq fun ah J=>rg aa<|p aB<|nl<|tn<|J _ _<|sq fun ai M=>rg aa<|p (aU (.pointer<|some ⟨rb,0,none⟩) aa)<|p (aU (str s) aa)<|eP aa (dS Ap (CS rb ln s w A hs) aa fun ao ag ac=> ?_) (fun c w' a I C=>by have h:gF s=21:=xI (.inr a.2.1); exact ⟨by rw [h]; exact a.1,by rw [h]; decide,a.2.2⟩)
 obtain ⟨rfl,G,i⟩:=ac
 refine nl<|tn<|M _ _<|sq fun aj O=>rg aa<|p (aU (.pointer<|some ⟨rb,0,none⟩) aa)<|p (aU (str s) aa)<|p (oG aa aa)<|eP aa (dS iy (iK rb ln _ 21 ag (Wk.aQ i A) az) aa fun v11 ae Y=> ?_) (fun c w' a I C=>by have h:gF s=21:=xI (.inl<|jq.1<|of_decide_eq_false a.2.1); exact ⟨by rw [h]; exact a.1,by rw [h]; decide,by rw [a.2.2]; exact i⟩)
 obtain ⟨rfl,q,rfl⟩:=Y
 have q:s≠[]:=of_decide_eq_true q
 refine nl<|tn<|O _ _<|sq fun ak U=>rg aa<|p (aU (.pointer<|some ⟨rb,0,none⟩) aa)<|p (aU (str s) aa)<|p (cy u9 aa aa)<|p (le aa aa)<|eP aa (dS iy (iK rb ln _ 22 ae (Wk.aQ i A) az) aa fun an ap Z=> ?_) (fun c w' a I C=>by have am:=of_decide_eq_false a.2.1; have h:gF s=22:=Hk q G ab; exact ⟨by rw [h]; exact a.1,by rw [h]; decide,by rw [a.2.2]; exact i⟩)
 obtain ⟨rfl,E,rfl⟩:=Z
 have E:=of_decide_eq_true E
 exact nl<|tn<|U _ _<|sq fun al V=>rg aa<|p (aU (str s) aa)<|p (cO (str s) aa)<|nl<|tn<|V _ _<|rt<|jM<|f1 aa aa<|⟨aa,Hl q G ab,i⟩
theorem JP (rb ln:Nat) (s:Tx) (w:World) (E:Hb.aQ w.heap rb 2=some (.int .i64 (ln:Nat))) (hs:s.length≤1048576):
 fC aw 198 (bh [.pointer (some ⟨rb,0,none⟩),str s]) w (fun v w'=> ∃ a,eB false s= .ok a∧v=str a∧Wk w w') (fun c w'=> ∃ e,eB false s= .error e∧c=jm 47 ln e∧Wk w w'):=by
 refine ka func198 aa ntmps198 aa<|sq fun al M=>rg aa<|p aB<|nl<|tn<|M _ _<|sq fun am O=>rg aa<|p (aU (str s) aa)<|e<|cl Aj (DF s _ hs) aa fun v11 ai Z=> ?_
 obtain ⟨rfl,q⟩:=Z
 have aq:=rQ s
 refine p mv<|p (xt aa aa)<|p (xt aa aa)<|p (xt aa aa)<|p (xt aa aa)<|p aB<|p aB<|p aB<|p aB<|nl<|tn<|O _ _<|sq fun an U=>rg aa<|p (aU (.pointer<|some ⟨rb,0,none⟩) aa)<|p mv<|eP aa (dS ou (oF rb ln ((bA s).2.2.2:Nat) ai<|Wk.aQ q E) aa fun ar aj ac=> ?_) fun c w' i I G=>⟨_,CN (by have :=i.2.1; omega),i.1,by rw [i.2.2]; exact q⟩
 obtain ⟨rfl,A,rfl⟩:=ac
 have A:(bA s).2.2.2=0:=ab
 refine nl<|tn<|U _ _<|sq fun ao V=>rg aa<|p (aU (.pointer<|some ⟨rb,0,none⟩) aa)<|p mv<|p (no aa)<|eP aa (dS iy (iK rb ln _ 114 aj (Wk.aQ q E) az) aa fun au ak ae=> ?_) fun c w' i I G=>⟨_,CO A (by simpa using i.2.1),i.1,by rw [i.2.2]; exact q⟩
 obtain ⟨rfl,C,rfl⟩:=ae
 have C:(bA s).2.2.1=false :=by simpa using C
 refine nl<|tn<|V _ _<|sq fun ap Y=>rg aa<|p (aU (.pointer<|some ⟨rb,0,none⟩) aa)<|p mv<|eP aa (dS FI (Ka rb ln (bA s).1 ak (Wk.aQ q E) ab) aa fun av ax ag=> ?_) fun c w' i I G=>⟨_,CP A C i.2.1,i.1,q.trans i.2.2⟩
 obtain ⟨rfl,ah,J⟩:=ag
 exact p aB<|nl<|tn<|Y _ _<|rt<|jM<|f1 aa aa<|⟨_,CQ A C ah,aa,q.trans J⟩
theorem JM (rb ln:Nat) (s:Tx) (w:World) (U:Hb.aQ w.heap rb 2=some (.int .i64 (ln:Nat))) (hs:s.length≤1048576):
 fC aw 199 (bh [.pointer (some ⟨rb,0,none⟩),str s]) w (fun v w'=> ∃ a,eB true s= .ok a∧v=str a∧Wk w w') (fun c w'=> ∃ e,eB true s= .error e∧c=jm 47 ln e∧Wk w w'):=by
 refine ka func199 aa ntmps199 aa<|sq fun V E=>rg aa<|p aB<|nl<|tn<|E _ _<|sq fun Y G=>sq fun Z I=>rg aa<|p (aU (str s) aa)<|p (dW aa aa)<|nl<|tn<|I _ _<|cd aa (fun i=> ?_) fun i=> ?_
 exact sq fun A q=>rg aa<|p aB<|nl<|tn<|q _ _<|rt<|tr<|jM<|f1 aa aa<|⟨[],JO i,aa,Md.refl _ _⟩
 refine aO<|tn<|G _ _<|sq fun A q=>rg aa<|p (aU (.pointer<|some ⟨rb,0,none⟩) aa)<|p (aU (str s) aa)<|eP aa (dS FA (JP rb ln s w U hs) aa fun v9 ac M=> ?_) fun c w' J ae ab=>by obtain ⟨e,he,h⟩:=J; exact ⟨e,by rw [CR i]; exact he,h⟩
 obtain ⟨a,O,rfl,C⟩:=M
 exact p aB<|nl<|tn<|q _ _<|rt<|jM<|f1 aa aa<|⟨a,by rw [CR i]; exact O,aa,C⟩
end Go.Hb
end
section
namespace Go.Hb
open Go.Hb.iu Go.Hb.j7
theorem HU {kind:Nat} {s:Tx} (h:(gN kind s).2=0):(gN kind s).1≠0:=by
 unfold gN at h ⊢
 split
 · rename_i a; rw [if_pos a] at h; cases h
 · rename_i a; exact a
theorem H3 {F:aT} {s:Tx} (h:(gN F.kind s).2≠0):gH F s= .error (gN F.kind s).2:=if_pos h
theorem H4 {F:aT} {s:Tx} (h:(gN F.kind s).2=0) (h1:eG F (gN F.kind s).1=true):gH F s= .error 115:=by unfold gH; rw [if_neg (fun h2=>h2 h),if_pos h1]
theorem H5 {F:aT} {s:Tx} (h:(gN F.kind s).2=0) (h1:eG F (gN F.kind s).1=false):gH F s= .ok (gN F.kind s).1:=by unfold gH; rw [if_neg (fun h2=>h2 h),if_neg (by rw [h1]; exact ei)]
theorem KN {F:aT} {rows:List Rw} {ln e:Nat} {r:List Tx} (h:gH F (r.getD 1 [])= .error e):kj F rows ln r= .error (ln,e):=by unfold kj; rw [h]
theorem KO {F:aT} {rows:List Rw} {ln x:Nat} {r:List Tx} (h:gH F (r.getD 1 [])= .ok x):kj F rows ln r= .ok ({F with sp:=F.sp.set (ec.idxOf<|r.getD 0 []) x},rows):=by unfold kj; rw [h]
def lk:List Tx:= [kg,kA,kP,lf,lJ,eJ,fE,dp]
theorem CK (hs:List Tx):ordered hs=true↔∀ k∈lk,k∉hs:=by
 unfold ordered
 rw [Bool.not_eq_true',List.any_eq_false]
 have hm:∀ k,k∈lk↔(k∈ec∨k=eJ∨k=fE∨k=dp):=by
  intro k
  simp only [lk,ec,List.mem_cons,List.not_mem_nil,or_false,or_assoc]
 constructor
 · intro h k hk a
   have :=h k a
   rw [decide_eq_true_iff] at this
   exact this<|(hm k).1 hk
 · intro h x i hd
   rw [decide_eq_true_iff] at hd
   exact h x ((hm x).2 hd) i
theorem Ky {F:aT} {rows:List Rw} {ln:Nat} {r:List Tx} (h:gu (r.getD 1 [])=false):mF F rows ln r= .error (ln,21):=if_pos h
theorem Kz {F:aT} {rows:List Rw} {ln:Nat} {r:List Tx} (h:gu (r.getD 1 [])=true):mF F rows ln r= .ok ({F with rh:=r.getD 1 []},rows):=if_neg<|by rw [h]; exact ei
theorem Lq {F:aT} {rows:List Rw} {ln:Nat} {r:List Tx} (h:(letE<|r.getD 1 []).2≠0):mJ F rows ln r= .error (ln,(letE<|r.getD 1 []).2):=if_pos h
theorem Lr {F:aT} {rows:List Rw} {ln:Nat} {r:List Tx} (h:(letE<|r.getD 1 []).2=0):mJ F rows ln r= .ok ({F with tr:=(letE<|r.getD 1 []).1},rows):=if_neg fun h2=>h2 h
theorem Jl {F:aT} {rows:List Rw} {ln e:Nat} {r:List Tx} (h:eX (r.getD 1 []) 64= .error e):kR F rows ln r= .error (ln,e):=by unfold kR; rw [h]
theorem Jm {F:aT} {rows:List Rw} {ln n:Nat} {r:List Tx} (h:eX (r.getD 1 []) 64= .ok n) (a:n=0):kR F rows ln r= .error (ln,13):=by unfold kR; rw [h]; exact if_pos a
theorem Jn {F:aT} {rows:List Rw} {ln n:Nat} {r:List Tx} (h:eX (r.getD 1 []) 64= .ok n) (a:n≠0):kR F rows ln r= .ok ({F with least:=n},rows):=by unfold kR; rw [h]; exact if_neg a
theorem uT {F:aT} {seen:List Tx} {rows:List Rw} {ln:Nat} {r:List Tx} {k:Tx} (hk:k∈lk) (h:k∈seen):kB F seen rows ln r= .error (ln,113):=by
 unfold kB
 rw [if_pos]
 cases ho:ordered seen with
 | false =>rfl
 | true =>exact absurd h<|(CK seen).1 ho k hk
theorem IS {F:aT} {seen:List Tx} {rows:List Rw} {ln:Nat} {r:List Tx} (h:ordered seen=true) (a:jw (r.getD 1 [])=0):kB F seen rows ln r= .error (ln,114):=by unfold kB; rw [if_neg (by rw [h]; exact ei),if_pos a]
theorem ym {F:aT} {seen:List Tx} {rows:List Rw} {ln:Nat} {r:List Tx} (h:ordered seen=true) (a:jw (r.getD 1 [])≠0):kB F seen rows ln r= .ok ({F with kind:=jw<|r.getD 1 []},rows):=by unfold kB; rw [if_neg (by rw [h]; exact ei),if_neg a]
def kinds:List Tx:= [ry,tc,uU]
theorem U1 (s:Tx):((if s∈kinds then (kinds.idxOf s:Nat) else -1:Int))=(jw s:Nat) - 1:=by
 unfold jw kinds
 by_cases h1:s=ry
 · subst h1; decide
 · by_cases h2:s=tc
   · subst h2; decide
   · by_cases h3:s=uU
     · subst h3; decide
     · rw [if_neg (by simp [h1,h2,h3]),if_neg h1,if_neg h2,if_neg h3]; rfl
theorem U2 (s:Tx):jw s≤3:=by
 unfold jw
 split
 · omega
 · split
   · omega
   · split <;> omega
theorem BS (B:Nat) (H:dt) (F:aT) (V:e6) (R:gX) (rows:List Rw) (ln:Nat) (seen:List Tx) (s:Tx) (w:World) (E:dU w B H.fb H.mc F V) (q:dy w B H F R rows ln seen) (hk:F.kind=1∨F.kind=2∨F.kind=3) (hs:s.length≤1048576):
 fC aw 195 (bh [.pointer (some ⟨H.rb,0,none⟩),str s]) w (fun v w'=> ∃ x,gH F s= .ok x∧x≠0∧v=bg x∧eG F x=false∧Wk w w') (fun c w'=> ∃ e,gH F s= .error e∧c=jm 47 ln (e:Nat)∧Wk w w'):=by
 obtain ⟨tf,ae,ag⟩:=q.tm
 refine ka func195 aa ntmps195 aa<|sq fun ak I=>rg aa<|p aB<|nl<|tn<|I _ _<|sq fun al J=>rg aa<|p (aU (.pointer<|some ⟨H.rb,0,none⟩) aa)<|p (nc aa)<|p (fa ic aa)<|p (ld gl aa<|(a7 q.cells).trans aa)<|p (nc aa)<|p (fa gG aa)<|p (fa s7 aa)<|p (ld bC aa<|(a7 E.cells).trans aa)<|p (aU (str s) aa)<|e<|cl Pm (V0 F.kind s _ hk hs) aa fun ap ah Y=> ?_
 obtain ⟨rfl,a⟩:=Y
 refine p mv<|p (xt aa aa)<|p (xt aa aa)<|p aB<|p aB<|nl<|tn<|J _ _<|sq fun am M=>rg aa<|p (aU (.pointer<|some ⟨H.rb,0,none⟩) aa)<|p mv<|eP aa (dS ou (oF H.rb ln ((gN F.kind s).2:Nat) ah<|Wk.aQ a q.dq) aa fun aq ai Z=> ?_) fun c w' i aj E=>⟨_,H3 (by have :=i.2.1; omega),i.1,by rw [i.2.2]; exact a⟩
 obtain ⟨rfl,C,rfl⟩:=Z
 have C:(gN F.kind s).2=0:=ab
 have G:=HU C
 refine nl<|tn<|M _ _<|sq fun an O=>rg aa<|p (aU (.pointer<|some ⟨H.rb,0,none⟩) aa)<|p (aU (.pointer<|some ⟨H.rb,0,none⟩) aa)<|p (nc aa)<|p (fa BH aa)<|p (ld ue aa<|Wk.aQ a<|(a7 q.cells).trans aa)<|p mv<|p (oD rO oO rv (ae.wk a) aa aa (⟨_,aa⟩)<|ag _ G)<|p (bI aa aa)<|eP aa (dS iy (iK H.rb ln _ 115 ai (Wk.aQ a q.dq) az) aa fun v31 ar ac=> ?_) fun c w' i aj E=>⟨115,H4 C (by have h:=i.2.1; rw [GG] at h; simpa using h),i.1,by rw [i.2.2]; exact a⟩
 obtain ⟨rfl,A,rfl⟩:=ac
 rw [GG] at A
 have A:eG F (gN F.kind s).1=false :=by simpa using A
 exact nl<|tn<|O _ _<|sq fun ao U=>rg aa<|p mv<|p aB<|nl<|tn<|U _ _<|rt<|jM<|f1 aa aa<|⟨_,H5 C A,G,aa,A,a⟩
theorem vy (B:Nat) (H:dt) (F:aT) (rows:List Rw) (ln:Nat) (seen:List Tx) (r:List Tx) (aD:Nat) (ar:Option Addr) (cr:Nat) (w:World) (M:St w B H F rows ln seen) (ae:Tg w aD 9 r.length (.slice ar r.length cr) (r.map str)) (a4:r.length=2) (aV:∀ x∈r,x.length≤70000) (av:r.getD 0 []∈ec) (aW:F.sp.getD (ec.idxOf<|r.getD 0 []) 0=0):
 fC aw 131 (bh [.pointer (some ⟨H.rb,0,none⟩),.slice ar r.length cr]) w (jt B H seen (kj F rows ln r) w) (js B H (kj F rows ln r) w):=by
 obtain ⟨V,R,A,E,C⟩:=M
 have ao:=ae.cM
 have aq:¬(H.rb=H.fb):=fun h=>by have h1:=E.cells; rw [h,A.cells] at h1; cases h1
 have a5:(r.getD 1 []).length≤70000:=aV _<|dV ab
 have au:¬(bk ar=H.fb):=Tg.u0 ae (bS ab) A.cells az
 obtain ⟨tf,ag,ax⟩:=E.tm
 obtain ⟨a9,a6,a8⟩:=E.sm
 have ap:ec.idxOf (r.getD 0 []) < 5:=wc.2 av
 refine ka func131 aa ntmps131 aa<|sq fun a1 aH=>rg aa<|p (aU (.pointer<|some ⟨H.rb,0,none⟩) aa)<|p (aU (.slice ar r.length cr) aa)<|p (ba cI aa aa ab<|aJ.ok (ao.2)<|bS ab)<|p (ld bU aa<|cg.get (i:=1) ao.2 ab)<|eP aa (dS Aq (BS B H F V R rows ln seen (r.getD 1 []) w A E C.kd ab) aa fun v9 bc J=> ?_) fun c w' aK bd A=>by obtain ⟨e,he,h,h2⟩:=aK; exact ⟨ln,e,KN he,h,Wk.mw h2⟩
 obtain ⟨x,aX,aY,rfl,aA,q⟩:=J
 have aG:=A.wk q
 have J:=E.wk q
 refine p aB<|nl<|tn<|aH _ _<|sq fun a2 aI=>rg aa<|p (aU (.pointer<|some ⟨H.rb,0,none⟩) aa)<|p (nc aa)<|p (fa BH aa)<|p (ld ue aa<|Wk.aQ q<|(a7 E.cells).trans aa)<|p mv<|p (oD rO oO rv (ag.wk q) aa aa (⟨_,aa⟩) (show _=jk .i64 0 from (ax x aY).trans<|by rw [aA]; rfl))<|p (bG ((1:Nat):Int) aa aa<|bl ab ab)<|e<|tA rO rv (ag.wk q) aa aa aa (⟨_,aa⟩) fun G U aL=> ?_
 have ak:=J.uZ (F':= {F with sp:=F.sp.set (ec.idxOf<|r.getD 0 []) x}) U aL rfl (Lk aA ax<|RM (by rw [A.fO]; exact ap) aW)
 have O:=aG.uZ J U
 have aR:=(ae.wk q).md U fun k hk cur z aS=>by subst hk; exact (ag.wk q).pF aS
 have an:=aR.cM
 refine nl<|tn<|aI _ _ ?_
 have a:(fun w'=>Md (fun k=>k=H.fb) G w') G.drew:=(Md.refl _ _).drew
 refine bM (fun w'=>Md (fun k=>k=H.fb) G w') aa wide a<|hp 0 aa aj (fun _ _=>aU (.pointer<|some ⟨H.rb,0,none⟩) aa) a<|hp 1 aa aj (fun _ _=>nc aa) a<|hp 2 aa aj (fun _ _=>fa ic aa) a<|hp 3 aa aj (fun w' M=>ld gl aa<|Md.aQ M ((a7 ak.cells).trans aa)<|by first | exact aq | exact au) a<|hp 5 aa aj (fun _ _=>aU (.slice ar r.length cr) aa) a<|hp 6 aa aj (fun _ _=>ba cI aa aa ab<|aJ.ok (an.2)<|bS ab) a<|hp 7 aa aj (fun w' M=>ld bU aa<|Md.aQ M (cg.get (i:=0) an.2 ab)<|by first | exact aq | exact au) a<|hp 9 aa aj (fun _ _=>mv) a<|hp 10 aa aj (fun _ _=>nc aa) a<|hp 11 aa aj (fun _ _=>fa gG aa) a<|hp 12 aa aj (fun _ _=>fa x4 aa) a<|he 4 aa aj<|sE (L:=ec.map str) fN aa aa aa aa fun ah aC a3 Z aE=> ?_
 have aO:cg aC.heap (some ⟨ah,0,none⟩) ec:=aJ.dZ ⟨_,aE⟩
 have I:=il Z.md
 have am:(fun w'=>Md (fun k=>k=H.fb) G w') aC:=a.trans' Z.md fun _ _ h=>h.elim
 refine ⟨am,?_⟩
 refine he 8 aa aj<|cl Fz (IG ec (some ⟨ah,0,none⟩) 5 (r.getD 0 []) _ aO az) aa fun bb aZ aN=> ?_
 obtain ⟨ay,rfl⟩:=aN
 rw [if_pos av] at ay
 subst ay
 have ac:(fun w'=>Md (fun k=>k=H.fb) G w') aZ:=am
 refine ⟨ac,?_⟩
 refine hp 13 aa aj (fun _ _=>ke ui aa aa ab) ac<|he 14 aa aj<|cJ gn aa aa (v:=bg x) aa (Z.md.aM O.cells) (by show _ < 14; omega) fun a0 Y ai=> ?_
 rw [SX (i:=ec.idxOf<|r.getD 0 []) A.fO ap ab] at ai
 have aP:(fun w'=>Md (fun k=>k=H.fb) G w') a0:=ac.trans' Y fun _ _ h=>h
 refine ⟨aP,?_⟩
 refine hn aj<|jM<|f0 aa ?_
 have aF:=(O.wk I).put (F':= {F with sp:=F.sp.set (ec.idxOf<|r.getD 0 []) x}) Y ai rfl rfl rfl rfl (by rw [List.length_set]; exact A.fO)
 exact ⟨aa,_,rows,ln,KO aX,⟨V,R,aF,(ak.wk I).fb (O.wk I) Y,⟨C.len,C.sl,C.row,C.kd,C.al⟩⟩,((Wk.mw q).trans<|fA.mt J U).trans<|(Wk.mw I).trans<|fA.fb (O.wk I) Y⟩
theorem Qq (B:Nat) (H:dt) (F:aT) (rows:List Rw) (ln:Nat) (seen:List Tx) (r:List Tx) (ah:Nat) (ar:Option Addr) (cr:Nat) (w:World) (G:St w B H F rows ln seen) (Y:Tg w ah 9 r.length (.slice ar r.length cr) (r.map str)) (av:r.length=2) (ao:∀ x∈r,x.length≤70000):
 fC aw 129 (bh [.pointer (some ⟨H.rb,0,none⟩),.slice ar r.length cr]) w (jt B H seen (mF F rows ln r) w) (js B H (mF F rows ln r) w):=by
 obtain ⟨V,R,C,E,A⟩:=G
 have ac:=Y.cM
 have ae:¬(H.rb=H.fb):=fun h=>by have h1:=E.cells; rw [h,C.cells] at h1; cases h1
 have ax:(r.getD 1 []).length≤70000:=ao _<|dV ab
 have ag:¬(bk ar=H.fb):=Tg.u0 Y (bS ab) C.cells az
 obtain ⟨tf,aB,aC⟩:=E.tm
 obtain ⟨aD,ay,aA⟩:=E.sm
 refine ka func129 aa ntmps129 aa<|sq fun au am=>rg aa<|p (aU (.pointer<|some ⟨H.rb,0,none⟩) aa)<|p (aU (.slice ar r.length cr) aa)<|p (ba cI aa aa ab<|aJ.ok (ac.2)<|bS ab)<|p (ld bU aa<|cg.get (i:=1) ac.2 ab)<|eP aa (dS Ap (CS H.rb ln (r.getD 1 []) w E.dq ab) aa fun aE O M=> ?_) fun c w' U aF C=>⟨ln,21,Ky U.2.1,U.1,Wk.mw U.2.2⟩
 obtain ⟨rfl,ap,I⟩:=M
 have J:=C.wk I
 have M:=E.wk I
 have Z:=(Y.wk I).cM
 refine nl<|tn<|am _ _ ?_
 have a:(fun w'=>Md (fun k=>k=H.fb) O w') O.drew:=(Md.refl _ _).drew
 refine bM (fun w'=>Md (fun k=>k=H.fb) O w') aa wide a<|hp 0 aa aj (fun _ _=>aU (.pointer<|some ⟨H.rb,0,none⟩) aa) a<|hp 1 aa aj (fun _ _=>nc aa) a<|hp 2 aa aj (fun _ _=>fa ic aa) a<|hp 3 aa aj (fun w' G=>ld gl aa<|Md.aQ G ((a7 M.cells).trans aa)<|by first | exact ae | exact ag) a<|hp 4 aa aj (fun _ _=>aU (.slice ar r.length cr) aa) a<|hp 5 aa aj (fun _ _=>ba cI aa aa ab<|aJ.ok (Z.2)<|bS ab) a<|hp 6 aa aj (fun w' G=>ld bU aa<|Md.aQ G (cg.get (i:=1) Z.2 ab)<|by first | exact ae | exact ag) a<|hp 7 aa aj (fun _ _=>nc aa) a<|hp 8 aa aj (fun _ _=>fa gG aa) a<|hp 9 aa aj (fun _ _=>fa Tf aa) a<|he 10 aa aj<|cJ kM aa aa (v:=str<|r.getD 1 []) aa J.cells (by show _ < 14; omega) fun aq q ai=> ?_
 have q:=il q
 have an:(fun w'=>Md (fun k=>k=H.fb) O w') aq:=q
 refine ⟨an,?_⟩
 refine hn aj<|jM<|f0 aa ?_
 have ak:=J.put (F':= {F with rh:=r.getD 1 []}) q ai rfl rfl rfl rfl C.fO
 exact ⟨aa,_,rows,ln,Kz ap,⟨V,R,ak,(M.fb J q).congr aa (fun _=>rfl),⟨A.len,A.sl,A.row,A.kd,A.al⟩⟩,(Wk.mw I).trans<|fA.fb J q⟩
theorem Yz (B:Nat) (H:dt) (F:aT) (rows:List Rw) (ln:Nat) (seen:List Tx) (r:List Tx) (Y:Nat) (ar:Option Addr) (cr:Nat) (w:World) (aj:St w B H F rows ln seen) (M:Tg w Y 9 r.length (.slice ar r.length cr) (r.map str)) (au:r.length=2) (ak:∀ x∈r,x.length≤70000):
 fC aw 130 (bh [.pointer (some ⟨H.rb,0,none⟩),.slice ar r.length cr]) w (jt B H seen (mJ F rows ln r) w) (js B H (mJ F rows ln r) w):=by
 obtain ⟨V,R,q,E,a⟩:=aj
 have O:=M.cM
 have ap:¬(H.rb=H.fb):=fun h=>by have h1:=E.cells; rw [h,q.cells] at h1; cases h1
 have av:(r.getD 1 []).length≤70000:=ak _<|dV ab
 have aq:¬(bk ar=H.fb):=Tg.u0 M (bS ab) q.cells az
 obtain ⟨tf,aA,aC⟩:=E.tm
 obtain ⟨aD,ax,ay⟩:=E.sm
 refine ka func130 aa ntmps130 aa<|sq fun an ae=>rg aa<|p (aU (.slice ar r.length cr) aa)<|p (ba cI aa aa ab<|aJ.ok (O.2)<|bS ab)<|p (ld bU aa<|cg.get (i:=1) O.2 ab)<|e<|cl O7 (Vc (r.getD 1 []) _ ab) aa fun v10 am ah=> ?_
 obtain ⟨rfl,A⟩:=ah
 have C:=q.wk A
 have J:=E.wk A
 refine p mv<|p (xt aa aa)<|p (xt aa aa)<|p aB<|p aB<|nl<|tn<|ae _ _<|sq fun ao ag=>rg aa<|p (aU (.pointer<|some ⟨H.rb,0,none⟩) aa)<|p mv<|eP aa (dS ou (oF H.rb ln ((letE<|r.getD 1 []).2:Nat) am J.dq) aa fun aE aF ai=> ?_) fun c w' I aH q=>⟨ln,_,Lq (by have :=I.2.1; omega),I.1,by rw [I.2.2]; exact Wk.mw A⟩
 obtain ⟨rfl,U,rfl⟩:=ai
 have U:(letE<|r.getD 1 []).2=0:=ab
 refine nl<|tn<|ag _ _<|rg aa<|p (aU (.pointer<|some ⟨H.rb,0,none⟩) aa)<|p (nc aa)<|p (fa ic aa)<|p (ld gl aa<|(a7 J.cells).trans aa)<|p mv<|p (nc aa)<|p (fa gG aa)<|p (fa Th aa)<|e<|cJ kM aa aa (v:=str (letE<|r.getD 1 []).1) aa C.cells (by show _ < 14; omega) fun aG G Z=>nl<|jM<|f0 aa ?_
 have ac:=C.put (F':= {F with tr:=(letE<|r.getD 1 []).1}) G Z rfl rfl rfl rfl q.fO
 exact ⟨aa,_,rows,ln,Lr U,⟨V,R,ac,(J.fb C G).congr aa (fun _=>rfl),⟨a.len,a.sl,a.row,a.kd,a.al⟩⟩,(Wk.mw A).trans<|fA.fb C G⟩
theorem U7 (B:Nat) (H:dt) (F:aT) (rows:List Rw) (ln:Nat) (seen:List Tx) (r:List Tx) (am:Nat) (ar:Option Addr) (cr:Nat) (w:World) (M:St w B H F rows ln seen) (Z:Tg w am 9 r.length (.slice ar r.length cr) (r.map str)) (aD:r.length=2) (ax:∀ x∈r,x.length≤70000):
 fC aw 132 (bh [.pointer (some ⟨H.rb,0,none⟩),.slice ar r.length cr]) w (jt B H seen (kR F rows ln r) w) (js B H (kR F rows ln r) w):=by
 obtain ⟨V,R,A,C,E⟩:=M
 have ac:=Z.cM
 have ae:¬(H.rb=H.fb):=fun h=>by have h1:=C.cells; rw [h,A.cells] at h1; cases h1
 have aE:(r.getD 1 []).length≤70000:=ax _<|dV ab
 have ag:¬(bk ar=H.fb):=Tg.u0 Z (bS ab) A.cells az
 obtain ⟨tf,aH,aI⟩:=C.tm
 obtain ⟨aK,aF,aG⟩:=C.sm
 refine ka func132 aa ntmps132 aa<|sq fun aB ao=> ?_
 have a:(fun w'=>Md (fun k=>k=H.fb) w w') w.drew:=(Md.refl _ _).drew
 refine bM (fun w'=>Md (fun k=>k=H.fb) w w') aa wide a<|hp 0 aa aj (fun _ _=>aU (.pointer<|some ⟨H.rb,0,none⟩) aa) a<|hp 1 aa aj (fun _ _=>nc aa) a<|hp 2 aa aj (fun _ _=>fa ic aa) a<|hp 3 aa aj (fun w' M=>ld gl aa<|Md.aQ M ((a7 C.cells).trans aa)<|by first | exact ae | exact ag) a<|hp 4 aa aj (fun _ _=>aU (.pointer<|some ⟨H.rb,0,none⟩) aa) a<|hp 5 aa aj (fun _ _=>aU (.slice ar r.length cr) aa) a<|hp 6 aa aj (fun _ _=>ba cI aa aa ab<|aJ.ok (ac.2)<|bS ab) a<|hp 7 aa aj (fun w' M=>ld bU aa<|Md.aQ M (cg.get (i:=1) ac.2 ab)<|by first | exact ae | exact ag) a<|ta 8 aa aj aa (dS xg (yF H.rb ln (r.getD 1 []) 64 w.drew C.dq ab ab) aa fun v12 ay ap=> ?_) fun c w' J aA A=>by obtain ⟨e,he,h,h2⟩:=J; exact ⟨ln,e,Jl he,h,Wk.mw<|il h2⟩
 obtain ⟨n,ah,rfl,q⟩:=ap
 have q:=il q
 have G:=A.wk q
 have au:=C.wk q
 have O:(fun w'=>Md (fun k=>k=H.fb) w w') ay:=Md.mono q fun _ _ h=>h.elim
 refine ⟨O,?_⟩
 refine hp 9 aa aj (fun _ _=>nc aa) O<|hp 10 aa aj (fun _ _=>fa gG aa) O<|hp 11 aa aj (fun _ _=>fa BL aa) O<|he 12 aa aj<|cJ gB aa aa (v:= .int .i64 (n:Nat)) aa G.cells (by show _ < 14; omega) fun ak I Y=> ?_
 have U:=au.fb G I
 have av:(fun w'=>Md (fun k=>k=H.fb) w w') ak:=O.trans' I fun _ _ h=>h
 refine ⟨av,?_⟩
 refine hn aj<|tn<|ao _ _<|rg aa<|p (aU (.pointer<|some ⟨H.rb,0,none⟩) aa)<|p (aU (.pointer<|some ⟨H.rb,0,none⟩) aa)<|p (nc aa)<|p (fa ic aa)<|p (ld gl aa<|(a7 U.cells).trans aa)<|p (nc aa)<|p (fa gG aa)<|p (fa BL aa)<|p (ld bC aa<|(a7 Y).trans aa)<|p (gt aa aa)<|eP aa (dS iy (iK H.rb ln _ 13 ak U.dq az) aa fun aL aM aq=> ?_) fun c w' J aA A=>by have aC:=of_decide_eq_false J.2.1; exact ⟨ln,13,Jm ah ab,J.1,by rw [J.2.2]; exact (Wk.mw q).trans<|fA.fb G I⟩
 obtain ⟨rfl,ai,rfl⟩:=aq
 have ai:=of_decide_eq_true ai
 refine nl<|jM<|f0 aa ?_
 have an:=G.put (F':= {F with least:=n}) I Y rfl rfl rfl rfl A.fO
 exact ⟨aa,_,rows,ln,Jn ah ab,⟨V,R,an,U.congr aa (fun _=>rfl),⟨E.len,E.sl,E.row,E.kd,E.al⟩⟩,(Wk.mw q).trans<|fA.fb G I⟩
theorem U3 (B:Nat) (H:dt) (F:aT) (rows:List Rw) (ln:Nat) (seen:List Tx) (r:List Tx) (aN:Nat) (ar:Option Addr) (cr:Nat) (w:World) (J:St w B H F rows ln seen) (ah:Tg w aN 9 r.length (.slice ar r.length cr) (r.map str)) (bE:r.length=2) (bb:∀ x∈r,x.length≤70000):
 fC aw 128 (bh [.pointer (some ⟨H.rb,0,none⟩),.slice ar r.length cr]) w (jt B H seen (kB F seen rows ln r) w) (js B H (kB F seen rows ln r) w):=by
 obtain ⟨V,R,E,Y,M⟩:=J
 have bx:=ah.cM
 have aD:¬(H.rb=H.fb):=fun h=>by have h1:=Y.cells; rw [h,E.cells] at h1; cases h1
 have bF:(r.getD 1 []).length≤70000:=bb _<|dV ab
 have aE:¬(bk ar=H.fb):=Tg.u0 ah (bS ab) E.cells az
 obtain ⟨tf,bH,bJ⟩:=Y.tm
 obtain ⟨bL,bj,bm⟩:=Y.sm
 refine ka func128 aa ntmps128 aa<|sq fun br aX=>sq fun bs aY=>rg aa<|e<|sE (L:=lk.map str) fN aa aa aa aa fun an ak bA a2 aS=> ?_
 have ay:cg ak.heap (some ⟨an,0,none⟩) lk:=aJ.dZ ⟨_,aS⟩
 have C:Wk w ak:=a2.md
 have aq:=E.wk C
 have Z:=Y.wk C
 have aA:=(ah.wk C).cM
 have bo:=bj.wk C
 have bD:lk.length=8:=rfl
 refine p (bK eV aa aa)<|p mv<|nl<|tn<|aY _ _<|aM<|lp (fun ao I q=> ∃ (i:Nat),(i≤8)∧(∀ j,j < i→lk.getD j []∉seen)∧(q=ak)∧(I 0= .pointer (some ⟨H.rb,0,none⟩))∧(I 1= .slice ar r.length cr)∧(I 6= .slice (some ⟨an,0,none⟩) 8 8)∧(I 7= .int .i64 (8:Nat))∧(I 8= .int .i64 (i:Nat))∧(8 - i=ao)) _ ⟨0,ab,(fun j aC=>by omega),aa,aa,aa,aa,aa,aa,aa⟩ ?_
 rintro ao I q ⟨i,hi,aF,aV,bc,bd,bf,bg,bi,rfl⟩
 refine fx 0 bc<|fx 1 bd<|fx 6 bf<|fx 7 bg<|fx 8 bi ?_
 subst aV
 refine sq fun bt aZ=>rg aa<|p (lt aa aa)<|nl<|tn<|aZ _ _<|sq fun bu a0=>cd aa (fun a9=> ?_) fun a9=> ?_
 refine aO<|tn<|a0 _ _<|sq fun aP ae=>aM<|sq fun bv a1=>rg aa<|p (ba cI aa aa ab<|aJ.ok (ay)<|bS ab)<|p (ld bU aa<|cg.get (i:=i) ay ab)<|p aB<|nl<|tn<|a1 _ _<|rg aa<|p (aU (.pointer<|some ⟨H.rb,0,none⟩) aa)<|p (aU (.pointer<|some ⟨H.rb,0,none⟩) aa)<|p (nc aa)<|p (fa s5 aa)<|p (ld su aa<|(a7 Z.cells).trans aa)<|p mv<|p (oD qI oO je (bo) aa aa (⟨_,aa⟩)<|bm _)<|p (bI aa aa)<|eP aa (dS iy (iK H.rb ln _ 113 q Z.dq az) aa fun v20 bO a3=> ?_) fun c w' A bq E=>⟨ln,113,uT (k:=lk.getD i []) (dV ab) (by have h:=of_decide_eq_false A.2.1; exact jq.1 fun h2=>h<|by have :=qT.2 h2; omega),A.1,by rw [A.2.2]; exact Wk.mw C⟩
 obtain ⟨rfl,ai,rfl⟩:=a3
 have ai:lk.getD i []∉seen:=qT.1<|by have :=of_decide_eq_true ai; omega
 exact nl<|bn<|tn<|ae _ _<|rg aa<|p (ad aa aa<|bX ab)<|p mv<|nl<|tn<|⟨_,ab,i+1,ab,(fun j aC=>by rcases fg j i with h | h <;> first | exact aF j h | (rw [show j=i by omega]; exact ai)),aa,aa,aa,aa,aa,aa,aa⟩
 refine ext<|te _<|te _<|be<|tn<|aX _ _<|sq fun aP ae=> ?_
 have aG:ordered seen=true :=(CK seen).2 fun k hk=>by obtain ⟨j,aC,rfl⟩:=nM [] hk; exact aF j ab
 have a:(fun w'=>Md (fun k=>k=H.fb) q w') q.drew:=(Md.refl _ _).drew
 refine bM (fun w'=>Md (fun k=>k=H.fb) q w') aa wide a<|hp 0 aa aj (fun _ _=>aU (.pointer<|some ⟨H.rb,0,none⟩) aa) a<|hp 1 aa aj (fun _ _=>nc aa) a<|hp 2 aa aj (fun _ _=>fa ic aa) a<|hp 3 aa aj (fun w' J=>ld gl aa<|Md.aQ J ((a7 Z.cells).trans aa)<|by first | exact aD | exact aE) a<|hp 5 aa aj (fun _ _=>aU (.slice ar r.length cr) aa) a<|hp 6 aa aj (fun _ _=>ba cI aa aa ab<|aJ.ok (aA.2)<|bS ab) a<|hp 7 aa aj (fun w' J=>ld bU aa<|Md.aQ J (cg.get (i:=1) aA.2 ab)<|by first | exact aD | exact aE) a<|he 4 aa aj<|sE (L:=kinds.map str) fN aa aa aa aa fun am aK bz av aR=> ?_
 have a6:cg aK.heap (some ⟨am,0,none⟩) kinds:=aJ.dZ ⟨_,aR⟩
 have O:=il av.md
 have ax:(fun w'=>Md (fun k=>k=H.fb) q w') aK:=a.trans' av.md fun _ _ h=>h.elim
 refine ⟨ax,?_⟩
 refine he 8 aa aj<|cl Fz (IG kinds (some ⟨am,0,none⟩) 3 (r.getD 1 []) _ a6 az) aa fun v30 bp a4=> ?_
 obtain ⟨aH,rfl⟩:=a4
 rw [U1] at aH
 subst aH
 have bB:=U2<|r.getD 1 []
 have G:(fun w'=>Md (fun k=>k=H.fb) q w') bp:=ax
 refine ⟨G,?_⟩
 refine hp 9 aa aj (fun _ _=>bG ((jw (r.getD 1 []):Nat):Int) aa aa<|bl ab ab) G<|hp 10 aa aj (fun _ _=>nc aa) G<|hp 11 aa aj (fun _ _=>fa gG aa) G<|hp 12 aa aj (fun _ _=>fa s7 aa) G<|he 13 aa aj<|cJ gB aa aa (v:= .int .i64 (jw (r.getD 1 []):Nat)) aa ((aq.wk O).cells) (by show _ < 14; omega) fun aL U ap=> ?_
 have ac:=aq.wk O
 have ag:=(Z.wk O).fb ac U
 have au:=((Wk.mw C).trans<|Wk.mw O).trans<|fA.fb ac U
 have a8:(fun w'=>Md (fun k=>k=H.fb) q w') aL:=G.trans' U fun _ _ h=>h
 refine ⟨a8,?_⟩
 refine hn aj<|tn<|ae _ _<|rg aa<|p (aU (.pointer<|some ⟨H.rb,0,none⟩) aa)<|p (aU (.pointer<|some ⟨H.rb,0,none⟩) aa)<|p (nc aa)<|p (fa ic aa)<|p (ld gl aa<|(a7 ag.cells).trans aa)<|p (nc aa)<|p (fa gG aa)<|p (fa s7 aa)<|p (ld bC aa<|(a7 ap).trans aa)<|p (gt aa aa)<|eP aa (dS iy (iK H.rb ln _ 114 aL ag.dq az) aa fun bN bP a5=> ?_) fun c w' A bq E=>by have bw:=of_decide_eq_false A.2.1; exact ⟨ln,114,IS aG ab,A.1,by rw [A.2.2]; exact au⟩
 obtain ⟨rfl,aI,rfl⟩:=a5
 have aI:=of_decide_eq_true aI
 refine nl<|jM<|f0 aa ?_
 have aW:=ac.put (F':= {F with kind:=jw<|r.getD 1 []}) U ap rfl rfl rfl rfl E.fO
 exact ⟨aa,_,rows,ln,ym aG ab,⟨V,R,aW,ag.congr aa (fun _=>rfl),⟨M.len,M.sl,M.row,(by show jw (r.getD 1 [])=1∨jw (r.getD 1 [])=2∨jw (r.getD 1 [])=3; omega),M.al⟩⟩,au⟩
end Go.Hb
end
namespace Go.Hb.od
theorem Gd {h:Array Obj} {b:Nat} {f:UInt8→Bool} (a:bO h b (eL f)) (c:UInt8):Hb.aQ h b (0 +((c.toNat / 64:Nat):Int).toNat*1)=some (.int .u64<|eZ f<|c.toNat / 64):=by
 have i:=iV c
 rw [a.aQ,show 0 +((c.toNat / 64:Nat):Int).toNat*1=c.toNat / 64 from by omega]; exact AW f ab
theorem Q1 {h:Array Obj} {b:Nat} {f:UInt8→Bool} {c:UInt8} (a:bO h b ((eL f).set (0 +((c.toNat / 64:Nat):Int).toNat*1)<|.int .u64 ((eZ f (c.toNat / 64) ||| 2 ^ (c.toNat % 64):Nat):Int))):bO h b (eL (fun x=>f x || decide (x=c))):=by
 rw [show 0 +((c.toNat / 64:Nat):Int).toNat*1=c.toNat / 64 from by omega,QW] at a; exact a
theorem QY {f g:UInt8→Bool} (h:∀ b,f b=g b):eL f=eL g:=by rw [show f=g from funext h]
theorem Ut {l:List UInt8} {i:Nat} (h:i < l.length) (x:UInt8):(decide (x∈l.take i) || decide (x=l.getD i 0))=decide (x∈l.take (i+1)):=by
 rw [fH l i 0 h,← Bool.decide_or]
 exact decide_eq_decide.2<|by rw [jz,j4]
theorem CM {w:World} {B e n cp i:Nat} {a:Option Addr} {l:List UInt8} (h:w.ownsRow B e 1 (.slice a n cp) n (U8 l)) (hi:i≤n) (hn:0 < n):w.ownsRow B e 1 (.slice a i cp) i (U8<|l.take i):=by
 have q:a≠none:=by
  rintro rfl
  rcases h.2 with ⟨_,h5⟩ | ⟨g,cap,cur,h4,_⟩
  · omega
  · simp at h4
 have :=JK h hi q
 rw [oW] at this
 unfold U8 at*
 rwa [Ei]
theorem Wc {w:World} {B e n cp:Nat} {a:Option Addr} {xs:List Value} (h:w.ownsRow B e 1 (.slice a n cp) n xs) (hn:0 < n):∃ i,a=some ⟨i,0,none⟩:=by
 rcases h.2 with ⟨_,h5⟩ | ⟨g,cap,cur,h4,_⟩
 · omega
 · simp only [mL] at h4; exact ⟨g,h4.1⟩
theorem YC {w:World} {B e n cp j:Nat} {a:Option Addr} {l:List UInt8} (h:w.ownsRow B e 1 (.slice a n cp) n (U8 l)):aJ w.heap (gp a cp j 1) (U8<|l.drop j):=by
 have h2:=(a8 h).2.drop (cap:=cp) (k:=j) (size:=1)<|by have h1:=h.1; have h3:=(a8 h).1; omega
 rw [oW] at h2
 unfold U8 at*
 rwa [List.map_drop]
theorem Dv {w:World} {B e n:Nat} {v:Value} {l:List UInt8} (h:w.ownsRow B e 1 v n (U8 l)):l.length=n:=by have :=h.1; rw [wH] at this; omega
theorem JW (b:Nat) (c:UInt8) (f:UInt8→Bool) (w:World) (i:bO w.heap b (eL f)):
 bo aw 209 (bh [aR b,.int .u8 c.toNat]) w (fun v w'=>v= .tuple #[]∧bO w'.heap b (eL (fun x=>f x || decide (x=c)))∧Md (fun q=>q=b) w w'):=by
 have I:=iV c
 refine enter func209 aa ntmps209 aa ?_
 have a:(fun w'=>Wk w w') w.drew:=(Md.refl _ _).drew
 refine eS (fun w'=>Wk w w') 12 aa wide a<|bD 0 aa (aR b) a<|bD 1 aa (.int .u8 c.toNat) a<|bz 2 aa (fun _=>shr aa aa az<|KB c) (fun _=>a)<|bz 3 aa (fun _=>nc aa) (fun _=>a)<|bz 4 aa (fun _=>ke q7 aa aa ab) (fun _=>a)<|dM 5 aa (fun w' G=>ld sr aa<|Wk.aQ G<|Gd i c) a<|bD 6 aa (.int .u8 c.toNat) a<|bz 7 aa (fun _=>fD aa aa<|ET c) (fun _=>a)<|bz 8 aa (fun _=>shl aa aa ab<|Xu ab) (fun _=>a)<|bz 9 aa (fun _=>E1 aa aa<|V6 (tC _ _)<|Nat.pow_lt_pow_right az ab) (fun _=>a)<|bz 10 aa (fun _=>nc aa) (fun _=>a)<|bz 11 aa (fun _=>ke q7 aa aa ab) (fun _=>a)<|dK 12 aa aj aj<|st Rz aa aa (aa) (a.B i) (by rw [xn]; omega) fun J E C=> ?_
 have A:=Q1 C
 refine eR aj<|f0 aa ?_
 exact ⟨aa,A,Md.trans (Md.refl _ _).drew E⟩
theorem Iq (f:UInt8→Bool) (c:UInt8) (w:World):
 bo aw 251 (bh [.agg (eL<|f).toArray,.int .u8 c.toNat]) w (fun v w'=>v= .bool (f c)∧Wk w w'):=by
 have G:=iV c
 exact enter func251 aa ntmps251 aa<|ag fun a=>e<|iY aa fun C I E A q=>ay<|a<|ag fun i=>au (.int .u8 c.toNat)<|p (shr aa aa az<|KB c)<|p (ke q7 aa aa ab)<|p (ld sr aa<|Gd q c)<|au (.int .u8 c.toNat)<|p (fD aa aa<|ET c)<|p (shr aa aa ab<|XC _ ab)<|p (fD aa aa<|N3<|Nat.lt_of_le_of_lt (Nat.div_le_self _ _)<|tC _ _)<|p (bI aa aa)<|ay<|i<|rt<|aX aa<|⟨congrArg bT (Y2 f c),A.md⟩
theorem CL (f:UInt8→Bool) (w:World):
 bo aw 208 (bh [.agg (eL<|f).toArray]) w (fun v w'=>v= .agg (eL fun x=> !f x).toArray∧Wk w w'):=by
 exact enter func208 aa ntmps208 aa<|ag fun A=>e<|iY aa fun J Y O q i=>e<|al rS fun M Z U a E=>nl<|A<|ag fun C=>p (ke q7 aa aa ab)<|p (ld sr aa<|(a.md.B i).aQ 0)<|p (xo aa)<|p (ke q7 aa aa ab)<|p (ld sr aa<|(a.md.B i).aQ 1)<|p (xo aa)<|p (ke q7 aa aa ab)<|p (ld sr aa<|(a.md.B i).aQ 2)<|p (xo aa)<|p (ke q7 aa aa ab)<|p (ld sr aa<|(a.md.B i).aQ 3)<|p (xo aa)<|p (E0 (ps:= [(0,.int .u64 (eZ (fun x=> !f x) 0:Nat)),(1,.int .u64 (eZ (fun x=> !f x) 1:Nat)),(2,.int .u64 (eZ (fun x=> !f x) 2:Nat)),(3,.int .u64 (eZ (fun x=> !f x) 3:Nat))]) (L:= [.int .u64 (eZ (fun x=> !f x) 0:Nat),.int .u64 (eZ (fun x=> !f x) 1:Nat),.int .u64 (eZ (fun x=> !f x) 2:Nat),.int .u64 (eZ (fun x=> !f x) 3:Nat)]) EX aa<|aa)<|e<|da pj aa (vs:=eL fun x=> !f x) aa aa aa E az fun ac I G=>nl<|C<|rt<|uB aa (dP aa kJ aa fun j V=>by rw [gW]; exact G.aQ j)<|⟨aa,Md.trans' (Md.trans q.md a.md) I fun k hk h=>by have :=q.md.size; omega⟩
theorem Ir (f:UInt8→Bool) (c:UInt8) (ci:Int) (w:World) (a:(c.toNat:Int)=ci):bo aw 251 (bh [.agg (eL<|f).toArray,.int .u8 ci]) w (fun v w'=>v= .bool (f c)∧Wk w w'):=by
 subst a; exact Iq f c w
theorem Fa (f:UInt8→Bool) (w:World):
 bo aw 280 (bh [.agg (eL<|f).toArray]) w (fun v w'=>bu w' w.heap.size 5 1 (v) (bytesOf f).length (U8<|bytesOf f)∧Wk w w'):=by
 refine enter func280 aa ntmps280 aa<|ag fun Z=>e<|iY aa fun an U aN M ao=>ay<|Z<|ag fun ac=>ay<|ac<|aC fun ae=>ag fun ah=>p mv<|nl<|ah<|aM<|lp (fun V J I=> ∃ (i:Nat) (a:Value),(i≤256)∧(bu I U.heap.size 5 1 (a) (lU f i).length<|U8<|lU f i)∧(Wk U I)∧(J 1=aR an)∧(J 3=a)∧(J 5=ak i)∧(256 - i=V)) _ ⟨0,.slice none 0 0,ab,(dx _ _ _ _),(Md.refl _ _),aa,aa,aa,aa⟩ ?_
 rintro V J I ⟨i,a,hi,G,A,aE,aF,aG,rfl⟩
 refine fx 1 aE<|fx 3 aF<|fx 5 aG ?_
 have aL:Wk w I:=Md.trans M.md A
 have aS:=qg f i
 have aV:=A.size
 refine ag fun ai=>p (lt aa aa)<|nl<|ai<|aC fun aj=>cd aa (fun az=> ?_) fun az=> ?_
 refine aO<|aj<|aC fun C=>aM<|ag fun al=>au (ak i)<|p (cO (ak i) aa)<|nl<|al<|ag fun am=>p (c8 kJ aa (aa) fun j aU=>by rw [gW]; exact (A.B ao).aQ j)<|au (ak i)<|p (lG u5 qK aa<|tF ab)<|e<|cl Ay (Ir f (UInt8.ofNat i) _ _<|y7 i ab) aa fun v11 aZ ax=> ?_
 obtain ⟨rfl,q⟩:=ax
 refine nl<|am<|cb aa (fun O=> ?_) fun O=> ?_
 refine rg aa<|au (a)<|au (ak i)<|p (lG u5 qK aa<|tF ab)<|e<|fU ik aa aa fun aK a0 aP E aq=>e<|ap ik (aW (aW G q) E.md) aa (by have :=q.size; have :=E.md.size; omega) aa (aJ.dZ aq) (aa) (aa) ab ab fun aH aI Y av aY aT=> ?_
 rw [← y7 i ab] at Y
 have aD:=qD Y
 have ar:Wk U aI:=Wk.own (Md.trans (Md.trans A q) E.md) (aW (aW G q) E.md) av<|cB _
 exact p aB<|nl<|bn<|C<|rg aa<|p (ad aa aa<|bX ab)<|p mv<|nl<|tn<|⟨_,ab,i+1,aH,ab,(by rw [sF,if_pos O]; exact aD),ar,aa,aa,aa,aa⟩
 exact aO<|bn<|C<|rg aa<|p (ad aa aa<|bX ab)<|p mv<|nl<|tn<|⟨_,ab,i+1,a,ab,(by rw [sF,if_neg (by rw [O]; exact ei),ek]; exact aW G q),(Md.trans A q),aa,aa,aa,aa⟩
 refine ext<|bf<|bf<|be<|ae<|ag fun C=>au (a)<|p (cO (a) aa)<|nl<|C<|rt<|aX aa ?_
 have aA:i=256:=ab
 subst aA
 exact ⟨ew G M.md.size,Md.trans M.md A⟩
theorem Q7 (s:List UInt8) (w:World) (hs:s.length≤1048576):
 bo aw 250 (bh [str s]) w (fun v w'=>v= .agg (eL fun x=>decide (x∈s)).toArray∧Wk w w'):=by
 refine enter func250 aa ntmps250 aa<|ag fun Z=>e<|al rS fun E aS aK V I=>nl<|Z<|ag fun ac=>e<|al rS fun q aJ aN Y ao=> ?_
 have ap:bO aJ.heap q (eL fun x=>decide (x∈s.take 0)):=by rw [show (fun x=>decide (x∈s.take 0))=(fun _:UInt8=>false) from funext fun x=>by simp,AX]; exact ao
 refine nl<|ac<|aC fun ae=>ag fun ah=>au (str s)<|p (cy u9 aa aa)<|p mv<|nl<|ah<|aM ?_
 have aL:=I.lt
 refine lp (fun G a A=> ∃ (i:Nat),(i≤s.length)∧(bO A.heap q<|eL fun x=>decide (x∈s.take i))∧(bO A.heap E [.int .u64 0,.int .u64 0,.int .u64 0,.int .u64 0])∧(Wk w A)∧(a 0=str s)∧(a 2=aR E)∧(a 3=aR q)∧(a 6=ak (s.length))∧(a 7=ak i)∧(s.length - i=G)) _ ⟨0,ab,ap,(Y.md.B I),(Md.trans V.md Y.md),aa,aa,aa,aa,aa,aa⟩ ?_
 rintro G a A ⟨i,hi,J,M,O,aB,aD,aE,aF,aG,rfl⟩
 refine fx 0 aB<|fx 2 aD<|fx 3 aE<|fx 6 aF<|fx 7 aG<|ag fun ai=>p (lt aa aa)<|nl<|ai<|aC fun aj=>cd aa (fun ay=> ?_) fun ay=> ?_
 refine aO<|aj<|aC fun C=>aM<|ag fun am=>au (ak i)<|p (cO (ak i) aa)<|nl<|am<|rg aa<|au (str s)<|au (ak i)<|p (eQ u9 aa aa ab)<|e<|cl FG (JW q (s.getD i 0) _ _ J) aa fun aP aI ax=> ?_
 obtain ⟨rfl,an,U⟩:=ax
 have ar:Wk w aI:=Md.trans' O U fun k hk h=>by have :=V.md.size; omega
 exact nl<|bn<|C<|rg aa<|p (ad aa aa<|bX ab)<|p mv<|nl<|tn<|⟨_,ab,i+1,ab,(by rw [QY (fun x=>(Ut (show i < s.length by omega) x).symm)]; exact an),(U.B M fun h=>by omega),ar,aa,aa,aa,aa,aa,aa⟩
 refine ext<|bf<|bf<|be<|ae<|ag fun C=>p (c8 kJ aa (aa) fun j aA=>by rw [gW]; exact (J).aQ j)<|e<|da pj aa (vs:=eL fun x=>decide (x∈s.take i)) aa aa aa M az fun aT av aq=>nl<|C<|rt<|uB aa (dP aa kJ aa fun j aA=>by rw [gW]; exact aq.aQ j) ?_
 have aH:s.take i=s:=eN ab
 rw [aH]
 exact ⟨aa,Md.trans' O av fun k hk h=>by omega⟩
theorem Uv (s:List UInt8) (c:UInt8) (w:World):
 bo aw 248 (bh [str s,.int .u8 c.toNat]) w (fun v w'=>v= .int .i64 (e8 c s)∧Wk w w'):=by
 exact enter func248 aa ntmps248 aa<|ag fun a=>ay<|a<|ag fun i=>au (str s)<|au (.int .u8 c.toNat)<|e<|cl FQ (IF s c _) aa fun A C q=>ay<|i<|rt<|aX aa<|q
theorem Rq (s pr:List UInt8) (w:World) (hs:s.length≤1099511627776) (J:pr.length≤1099511627776):
 bo aw 270 (bh [str s,str pr]) w (fun v w'=>v= .tuple #[str (gy s pr),.bool (decide (s.take pr.length=pr))]∧Wk w w'):=by
 refine enter func270 aa ntmps270 aa<|ag fun C=>p aB<|ay<|C<|aC fun E=>aC fun G=>rg aa<|au (str s)<|au (str pr)<|e<|cl Aw (Ca s pr _ hs J) aa fun O U I=> ?_
 obtain ⟨rfl,A⟩:=I
 refine p (no aa)<|nl<|G<|cb aa (fun q=> ?_) fun q=> ?_
 have a:¬s.take pr.length=pr:=by simpa using q
 exact ag fun i=>au (str s)<|p (cO (str s) aa)<|ay<|i<|rt<|tr<|f2 aa aa aa<|⟨by unfold gy; rw [if_neg a,decide_eq_false a]; rfl,A⟩
 have a:s.take pr.length=pr:=by simpa using q
 have M:=CU a
 exact aO<|E<|ag fun i=>au (str s)<|au (str pr)<|p (cy u9 aa aa)<|p (l7 u9 aa aa ab)<|p aB<|ay<|i<|rt<|f2 aa aa aa<|⟨by unfold gy; rw [if_pos a,decide_eq_true a]; rfl,A⟩
theorem Rr (s pr:List UInt8) (w:World) (hs:s.length≤1099511627776) (C:pr.length≤1099511627776):
 bo aw 249 (bh [str s,str pr]) w (fun v w'=>v= .tuple #[str (gy s pr),.bool (decide (s.take pr.length=pr))]∧Wk w w'):=by
 refine enter func249 aa ntmps249 aa<|ag fun a=>p aB<|ay<|a<|ag fun i=>au (str s)<|au (str pr)<|e<|cl PA (Rq s pr _ hs C) aa fun E G A=> ?_
 obtain ⟨rfl,q⟩:=A
 exact p (xt aa aa)<|p (xt aa aa)<|p aB<|ay<|i<|rt<|f2 aa aa aa<|⟨aa,q⟩
theorem Yt (s pr:List UInt8):(gy s pr).length≤s.length:=by unfold gy; split <;> simp
def jl (s:List UInt8) (k:Nat):List UInt8:=(s.drop k).take<|(s.drop k).idxOf 93
theorem Ol (s:List UInt8) (k:Nat):(jl s k).length≤s.length:=by unfold jl; rw [dT,fP]; omega
theorem Oj (s:List UInt8) (k:Nat):(s.take<|k+(s.drop k).idxOf 93).drop k=jl s k:=by
 rw [r5,Nat.add_sub_cancel_left]; rfl
def qf (s:List UInt8) (k:Nat):UInt8→Bool:=fun x=>if (jl s k).take 1= [94] then !decide (x∈gy (jl s k) [94]) else decide (x∈gy (jl s k) [94])
theorem Oo {s:List UInt8} {k:Nat} (h:(jl s k).take [(94:UInt8)].length= [94]):qf s k=fun x=> !decide (x∈gy (jl s k) [94]):=by
 funext x; exact if_pos h
theorem Oq {s:List UInt8} {k:Nat} (h:¬(jl s k).take [(94:UInt8)].length= [94]):qf s k=fun x=>decide (x∈gy (jl s k) [94]):=by
 funext x; exact if_neg h
theorem Om (s:List UInt8) (k:Nat) (w:World) (hs:s.length≤1048576) (hk:k≤s.length):
 bo aw 207 (bh [str s,ak k]) w (fun v w'=>(∃ f,v= .tuple #[.agg (eL f).toArray,.int .i64 (if e8 93 (s.drop k) < 0 then 0 else ((k+(s.drop k).idxOf 93 +1:Nat):Int)),.bool (!decide (e8 93 (s.drop k) < 0) && decide (gy (jl s k) [94]≠[]))]∧(¬e8 93 (s.drop k) < 0→f=qf s k))∧Wk w w'):=by
 refine enter func207 aa ntmps207 aa<|ag fun aq=>e<|al rS fun ac bq a7 G E=>p aB<|ay<|aq<|aC fun ar=>rg aa<|au (str s)<|au (ak k)<|p (l7 u9 aa aa ab)<|e<|cl Pt (Uv (s.drop k) 93 _) aa fun bd bj aT=> ?_
 obtain ⟨rfl,a⟩:=aT
 have ba:(s.drop k).length=s.length - k:=fP
 refine ay<|ar<|aC fun av=>ag fun ax=>p mv<|p (lt aa aa)<|nl<|ax<|cd aa (fun i=> ?_) fun i=> ?_
 refine ag fun J=>p (E0 (ps:= []) (L:= [.int .u64 0,.int .u64 0,.int .u64 0,.int .u64 0]) EX aa<|aa)<|e<|da pj aa (vs:=eL fun _=>false) (by rw [AX]; rfl) aa aa (a.B E) az fun bn aP aE=>p aB<|ay<|J<|rt<|tr<|Hc aa (dP aa kJ aa fun j Y=>by rw [gW]; exact aE.aQ j) ee ee ?_
 refine ⟨⟨fun _=>false,by rw [if_pos i,decide_eq_true i]; rfl,fun h=>absurd i h⟩,Md.trans' (Md.trans G.md a) aP fun k hk h=>by omega⟩
 have bb:=rr (c:=93) (l:=s.drop k) i
 have a9:(jl s k).length≤s.length:=Ol s k
 refine aO<|av<|aC fun J=> ?_
 have ap:=Oj s k
 refine rg aa<|au (str s)<|au (ak k)<|au (ak k)<|p mv<|p (bG ((k+(s.drop k).idxOf 93:Nat):Int) aa aa<|bl ab ab)<|p (l6 u9 aa aa aa ab)<|e<|cl Pu (Rr ((s.take<|k+(s.drop k).idxOf 93).drop k) [94] _ (by rw [ap]; omega) az) aa fun bf bk ao=> ?_
 rw [ap] at ao
 obtain ⟨rfl,A⟩:=ao
 have bc:=Yt (jl s k) [94]
 refine p mv<|p (xt aa aa)<|p (xt aa aa)<|p aB<|ay<|J<|aC fun aA=>rg aa<|p mv<|e<|cl Pv (Q7 (gy (jl s k) [94]) _ ab) aa fun bg bm aU=> ?_
 obtain ⟨rfl,C⟩:=aU
 refine e<|al rS fun Z a2 a6 an aD=> ?_
 have aK:Wk w a2:=Md.trans G.md<|Md.trans a<|Md.trans A<|Md.trans C an.md
 have ae:=an.md.B<|C.B<|A.B<|a.B E
 have a8:=ae.lt
 refine e<|da pj aa (vs:=eL fun x=>decide (x∈gy (jl s k) [94])) aa aa aa aD az fun a3 aj O=> ?_
 have ai:Wk w a3:=Md.trans' aK aj fun k hk h=>by have :=G.md.size; have :=a.size; have :=A.size; have :=C.size; omega
 have ah:=aj.B ae fun h=>by have :=E.lt; have :=a.size; have :=A.size; have :=C.size; omega
 refine nl<|aA ?_
 refine ej (fun q I=>(bO I.heap Z<|eL<|qf s k)∧(bO I.heap ac [.int .u64 0,.int .u64 0,.int .u64 0,.int .u64 0])∧(Wk w I)∧(q 0=str s)∧(q 1=ak k)∧(q 4=aR ac)∧(q 7= .int .i64 (e8 93<|s.drop k))∧(q 8=str (gy (jl s k) [94]))∧(q 10=aR Z)) ?_ ?_
 refine ag fun M=>p mv<|nl<|M<|cb aa (fun V=> ?_) fun V=> ?_
 refine rg aa<|p (c8 kJ aa (aa) fun j Y=>by rw [gW]; exact (O).aQ j)<|e<|cl Au (CL (fun x=>decide (x∈gy (jl s k) [94])) _) aa fun bi bp aV=> ?_
 obtain ⟨rfl,U⟩:=aV
 refine e<|da pj aa (vs:=eL fun x=> !decide (x∈gy (jl s k) [94])) aa aa aa (U.B O) (cB 4) fun a4 am aG=> ?_
 have aL:Wk w a4:=Md.trans' (Md.trans ai U) am fun k hk h=>by have :=G.md.size; have :=a.size; have :=A.size; have :=C.size; omega
 have aF:=am.B (U.B ah) fun h=>by have :=E.lt; have :=a.size; have :=A.size; have :=C.size; omega
 exact nl<|tn<|⟨(by rw [Oo (by simpa using V)]; exact aG),aF,aL,aa,aa,aa,aa,aa,aa⟩
 exact aO<|tn<|⟨(by rw [Oq (by simpa using V)]; exact O),ah,ai,aa,aa,aa,aa,aa,aa⟩
 rintro q I ⟨aI,aJ,aN,aW,aX,aZ,a0,a1,aY⟩
 refine fx 0 aW<|fx 1 aX<|fx 4 aZ<|fx 7 a0<|fx 8 a1<|fx 10 aY<|ag fun M=>p (c8 kJ aa (aa) fun j Y=>by rw [gW]; exact (aI).aQ j)<|au (ak k)<|au (.int .i64<|e8 93<|s.drop k)<|p (bG ((k+(s.drop k).idxOf 93:Nat):Int) aa aa<|bl ab ab)<|p (bG ((k+(s.drop k).idxOf 93 +1:Nat):Int) aa aa<|bl ab ab)<|au (str<|gy (jl s k) [94])<|p (oG aa aa)<|e<|da pj aa (vs:=eL<|qf s k) aa aa aa aJ az fun a5 aS aH=> ?_
 have aM:Wk w a5:=Md.trans' aN aS fun k hk h=>by omega
 refine p aB<|ay<|M<|rt<|Hc aa (dP aa kJ aa fun j Y=>by rw [gW]; exact aH.aQ j) ee ee ?_
 refine ⟨⟨qf s k,by rw [if_neg i,decide_eq_false i]; rfl,fun _=>rfl⟩,aM⟩
theorem Uu (l:List UInt8) (a:Option Addr) (n c:Nat) (x:UInt8) (w:World) (G:aJ w.heap a (U8 l)) (hn:l.length=n) (aq:n≤1048576):
 bo aw 281 (bh [.slice a n c,.int .u8 x.toNat]) w (fun v w'=>v= .int .i64 (e8 x l)∧Wk w w'):=by
 refine enter func281 aa ntmps281 aa<|ag fun O=>ay<|O<|aC fun U=>ag fun V=>au (.slice a n c)<|p (bK mK aa aa)<|p mv<|nl<|V<|aM<|lp (fun E q M=> ∃ (i:Nat),(i≤n)∧(∀ j,j < i→l.getD j 0≠x)∧(M=w)∧(q 0= .slice a n c)∧(q 1= .int .u8 x.toNat)∧(q 7=ak n)∧(q 8=ak i)∧(n - i=E)) _ ⟨0,ab,(fun j J=>by omega),aa,aa,aa,aa,aa,aa⟩ ?_
 rintro E q M ⟨i,hi,C,ai,al,am,an,ao,rfl⟩
 refine fx 0 al<|fx 1 am<|fx 7 an<|fx 8 ao ?_
 subst ai
 refine ag fun Y=>p (lt aa aa)<|nl<|Y<|aC fun Z=>cd aa (fun aj=> ?_) fun aj=> ?_
 refine aO<|Z<|aC fun A=>aM<|ag fun ac=>au (ak i)<|p (cO (ak i) aa)<|nl<|ac<|ag fun ae=>au (.int .u8 x.toNat)<|au (.slice a n c)<|au (ak i)<|p (ba lX aa aa ab<|aJ.ok (G)<|pN ab)<|p (ld o8 aa<|pM (i:=i) G ab)<|p (bI aa aa)<|nl<|ae<|cd aa (fun I=> ?_) fun I=> ?_
 have ap:l.getD i 0=x:=kX.1 ab
 exact ag fun ah=>au (ak i)<|p (cO (ak i) aa)<|nl<|ah<|rt<|br<|tr<|tr<|br<|tr<|aX aa<|⟨by rw [IL (show i < l.length by omega) C ap]; rfl,Md.refl _ _⟩
 exact aO<|bn<|A<|rg aa<|p (ad aa aa<|bX ab)<|p mv<|nl<|tn<|⟨_,ab,i+1,ab,(fun j J=>by rcases fg j i with h | h <;> first | exact C j h | (rw [show j=i by omega]; exact fun h2=>I<|by rw [h2])),aa,aa,aa,aa,aa,aa⟩
 exact ext<|bf<|bf<|be<|U<|ag fun A=>p aB<|nl<|A<|rt<|aX aa<|⟨by rw [IM (fun j J=>C j ab)]; rfl,Md.refl _ _⟩
theorem RN (l:List UInt8) (i j:Nat) (B n cp a:Nat) (w:World) (C:bu w B 5 1 (.slice (some ⟨a,0,none⟩) n cp) n (U8 l)) (al:i < j∧j≤n) (an:n≤1048576):
 bo aw 282 (bh [.slice (some ⟨a,0,none⟩) n cp,ak i,ak j]) w (fun v w'=>v= .slice (some ⟨a,0,none⟩) (i+(n - j)) cp∧bu w' B 5 1 (.slice (some ⟨a,0,none⟩) (i+(n - j)) cp) (i+(n - j)) (U8<|l.take i++l.drop j)∧Md (fun q=>q=a) w w'):=by
 have am:=Dv C
 have ai:=(a8 C).1
 refine enter func282 aa ntmps282 aa<|ag fun E=>ay<|E<|ag fun G=>au (.slice (some ⟨a,0,none⟩) n cp)<|au (ak i)<|au (ak j)<|au (.slice (some ⟨a,0,none⟩) n cp)<|p (bK mK aa aa)<|p (XG lX aa aa aa aa ab)<|nl<|G<|aC fun I=>ag fun J=>au (ak i)<|au (ak j)<|p (bI aa aa)<|nl<|J<|cd aa (fun h=>absurd h ab) fun ah=>aO<|I<|ag fun M=>au (.slice (some ⟨a,0,none⟩) n cp)<|p (bK mK aa aa)<|p aB<|nl<|M<|aC fun O=> ?_
 have A:(fun w'=>Wk w w') w.drew:=(Md.refl _ _).drew
 refine eS (fun w'=>Wk w w') 6 aa wide A<|bD 0 aa (.slice (some ⟨a,0,none⟩) n cp) A<|bD 1 aa (ak i) A<|bz 2 aa (fun _=>vu lX aa aa ab) (fun _=>A)<|bD 3 aa (.slice (some ⟨a,0,none⟩) n cp) A<|bD 4 aa (ak j) A<|bz 5 aa (fun _=>vv lX aa aa ab) (fun _=>A)<|dK 6 aa aj aj<|N6 (B:=B) (xs:=U8<|l.take i) (news:=U8<|l.drop j) (n:=i) (m:=n - j) ik (CM (aW C A) ab ab) aa aa (show aJ _ (gp (some ⟨a,0,none⟩) cp j 1) (U8<|l.drop j) from YC<|aW C A) (by unfold gp; split <;> simp) (by rw [wH,fP]; omega) (NO _) ab fun ao Y ac=>bz 7 aa (fun _=>aB) (fun h=>ei<|(show true =_ from by kernel_rfl).trans h)<|eR aj<|O<|ag fun U=>au (.slice (some ⟨a,0,none⟩) (i+(n - j)) cp)<|au (.slice (some ⟨a,0,none⟩) (i+(n - j)) cp)<|p (bK mK aa aa)<|p mv<|p (XH lX aa aa aa ab) ?_
 exact e<|QQ mK Zq aa ac (by simp) aa ab fun ap Z ae=>nl<|U<|ag fun V=>au (.slice (some ⟨a,0,none⟩) (i+(n - j)) cp)<|p (cO (.slice (some ⟨a,0,none⟩) (i+(n - j)) cp) aa)<|nl<|V<|rt<|aX aa<|⟨aa,by rw [wz]; exact ae,Md.trans (A.mono fun _ _ h=>h.elim)<|Md.trans Y<|Z.mono fun q _ h=>by simpa [Value.ownBlock] using h.symm⟩
end Go.Hb.od
section
namespace Go.Hb
open Go.Hb.od
theorem E2 {s:List UInt8} {k:Nat} (h:(s.drop k).idxOf 93 < (s.drop k).length):gy (jl s k) [94]≠[]↔(s.drop k).idxOf 93≠0∧¬((s.drop k).idxOf 93=1∧(s.drop k).getD 0 0=94):=by
 unfold jl gy
 generalize i:s.drop k=l at*
 cases l with
 | nil=>simp at h
 | cons b r=>
   generalize hm:(b::r).idxOf 93=m at*
   cases m with
   | zero=>simp
   | succ m=>
     simp only [cT] at h
     simp only [p4,e5,oc,lO,vX,vY]
     by_cases a:b=94
     · subst a
       rw [if_pos rfl]
       cases m with
       | zero=>simp
       | succ m=>
         cases r with
         | nil=>simp at h
         | cons x r=>simp
     · rw [if_neg (by simpa using a)]
       simp [a]
theorem Ot {s:List UInt8} {k:Nat} (h:(s.drop k).idxOf 93 < (s.drop k).length) (A:(s.drop k).idxOf 93≠0):qf s k=cE (91::(s.drop k).take ((s.drop k).idxOf 93 +1)):=by
 funext x
 unfold qf jl gy cE
 generalize E:s.drop k=l at*
 cases l with
 | nil=>simp at h
 | cons b r=>
   generalize hm:(b::r).idxOf 93=m at*
   cases m with
   | zero=>exact absurd rfl A
   | succ m=>
     simp only [cT] at h
     have C:(91::r7 (m+1 +1) (b::r)).length=m+3:=by simp only [cT,dT]; omega
     rw [C,if_neg (show ¬m+3=1 by omega)]
     have i:(91::r7 (m+1 +1) (b::r)).getD 1 0=b:=rfl
     have q:r7 (m+3 - 1) (91::r7 (m+1 +1) (b::r))=91::r7 (m+1) (b::r):=by
      show r7 (m+2) (91::r7 (m+2) (b::r))=_
      rw [p4,List.take_take,Nat.min_eq_left ab]
     rw [i,q]
     simp only [p4,oc,vX,vY,e5]
     by_cases a:b=94
     · subst a; simp
     · simp [a]
theorem R6:(fun x:UInt8=> !(fun _:UInt8=>false) x)=cE [46]:=by funext x; simp [cE]
theorem VY {c:UInt8} (h:c≠46):(fun x:UInt8=>(fun _:UInt8=>false) x || decide (x=c))=cE [c]:=by
 funext x
 simp only [cE,e5,if_true,Bool.false_or,lO]
 exact decide_eq_decide.2 ⟨fun h1=> .inr h1.symm,fun h1=>(h1.resolve_left h).symm⟩
theorem Gb {ps:List (List UInt8)} (h:0 < ps.length):k6 ps≠[]:=Bu (f:=fun t=>eL<|cE t) (m:=4) (fun _=>rfl) az h
theorem Ga {h:Array Obj} {a:Option Addr} {ps:List (List UInt8)} {i:Nat} (q:aJ h a (k6 ps)) (hi:i < ps.length):∀ j,j < 4→Hb.aQ h (bk a) (fo a+i*4 +j)=(eL<|cE<|ps.getD i [])[j]? :=by
 have :=fw (f:=fun t=>eL<|cE t) (m:=4) (fun _=>rfl) q<|cD hi
 rw [cV,cD hi]; exact this
theorem yh {b:UInt8} (h:(b.toNat:Int)=91):b=91:=kX.1 (by have :(91:UInt8).toNat=91:=rfl; omega)
theorem vb {b:UInt8} (h:¬(b.toNat:Int)=91):b≠91:=by rintro rfl; exact h rfl
theorem Cg {b:UInt8} (h:(b.toNat:Int)=46):b=46:=kX.1 (by have :(46:UInt8).toNat=46:=rfl; omega)
theorem CD {b:UInt8} (h:¬(b.toNat:Int)=46):b≠46:=by rintro rfl; exact h rfl
theorem JJ {w:World} {B:Nat} {v:Value} {l:List (List UInt8)} {x:List UInt8} (h:w.ownsRow B 325 4 v (l.length+1) (k6 l++eL (cE x))):w.ownsRow B 325 4 v (l++ [x]).length (k6<|l++ [x]):=by
 rw [bL,QV]; simpa [k6] using h
theorem RO (l:List UInt8) (i j:Nat) (A C:Int) (B n cp a:Nat) (w:World) (E:bu w B 5 1 (.slice (some ⟨a,0,none⟩) n cp) n (U8 l)) (G:i < j∧j≤n) (J:n≤1048576) (hi:A=(i:Nat)) (I:C=(j:Nat)):
 bo aw 282 (bh [.slice (some ⟨a,0,none⟩) n cp,.int .i64 A,.int .i64 C]) w (fun v w'=>v= .slice (some ⟨a,0,none⟩) (i+(n - j)) cp∧bu w' B 5 1 (.slice (some ⟨a,0,none⟩) (i+(n - j)) cp) (i+(n - j)) (U8<|l.take i++l.drop j)∧Md (fun q=>q=a) w w'):=by
 subst hi I; exact RN l i j B n cp a w E G J
theorem Xy (f:UInt8→Bool) (w:World):
 bo aw 267 (bh [.agg (eL<|f).toArray]) w (fun v w'=>v=str (gR f)∧Wk w w'):=by
 have bQ:(bytesOf f).length≤256:=qg f 256
 have bS:(bytesOf fun x=> !f x).length≤256:=qg _ 256
 refine enter func267 aa ntmps267 aa<|ag fun a0=>e<|iY aa fun a6 ax al Y aD=>ay<|a0<|ag fun a1=>p (c8 kJ aa (aa) fun j aN=>by rw [gW]; exact (aD).aQ j)<|e<|cl FR (Fa f _) aa fun v6 aV bs=> ?_
 obtain ⟨ae,ak⟩:=bs
 obtain ⟨q,a,rfl⟩:=cC ae
 have E:=(a8 ae).2
 have V:Wk w aV:=Md.trans Y.md ak
 have aE:=ak.B aD
 refine ay<|a1<|aC fun a3=>aM<|ag fun a4=>au (.slice q (bytesOf f).length a)<|p (bK mK aa aa)<|p (bI aa aa)<|ay<|a4<|cd aa (fun bv=> ?_) fun bv=> ?_
 exact ag fun G=>ay<|G<|rt<|br<|tr<|aX aa<|⟨by unfold gR; rw [if_pos (show (bytesOf f).length=256 by omega)]; rfl,V⟩
 refine ej (fun ai aY=> ∃ (aj:Bool),(aj=decide ((bytesOf f).length=1∧(bytesOf f).getD 0 0≠46∧(bytesOf f).getD 0 0≠91))∧(aY=aV)∧(ai 1=aR a6)∧(ai 3= .slice q (bytesOf f).length a)∧(ai 11= .bool aj)) ?_ ?_
 refine rg aa<|au (.slice q (bytesOf f).length a)<|p (bK mK aa aa)<|p (bI aa aa)<|p mv<|gs (t:=15) aa (fun bw=> ?_) fun bw=> ?_
 refine aI aa (aU (.slice q (bytesOf f).length a) aa)<|aI aa (ba lX aa aa ab<|aJ.ok (E)<|pN ab)<|aI aa (ld o8 aa<|pM (i:=0) E ab)<|aI aa (dj aa aa)<|p (bB aa)<|p mv<|gs (t:=21) aa (fun aL=> ?_) fun aL=> ?_
 exact aI aa (aU (.slice q (bytesOf f).length a) aa)<|aI aa (ba lX aa aa ab<|aJ.ok (E)<|pN ab)<|aI aa (ld o8 aa<|pM (i:=0) E ab)<|aI aa (dj aa aa)<|p (bB aa)<|p aB<|nl<|tn<|⟨_,(by first | exact decide_eq_decide.2 ⟨fun h=>⟨ab,by first | exact CD ab | exact fun h=>by omega,by first | exact vb ab | exact fun h=>by omega⟩,fun h=>by have h1:=h.2.2; exact fun h2=>h1<|yh h2⟩ | rfl),aa,aa,aa,aa⟩
 exact aH aa<|aH aa<|aH aa<|aH aa<|p (bq aa)<|p aB<|nl<|tn<|⟨false,((decide_eq_false fun h=>h.2.1<|Cg<|Decidable.of_not_not aL).symm),aa,aa,aa,aa⟩
 exact aH aa<|aH aa<|aH aa<|aH aa<|p (bq aa)<|p mv<|aH aa<|aH aa<|aH aa<|aH aa<|p (bq aa)<|p aB<|nl<|tn<|⟨false,((decide_eq_false fun h=>by omega).symm),aa,aa,aa,aa⟩
 rintro ai aY ⟨aj,al,bg,bC,bE,bD⟩
 refine fx 1 bC<|fx 3 bE<|fx 11 bD ?_
 subst bg
 refine cb aa (fun am=> ?_) fun am=> ?_
 have ah:(bytesOf f).length=1∧(bytesOf f).getD 0 0≠46∧(bytesOf f).getD 0 0≠91:=of_decide_eq_true<|al ▸ am
 exact ag fun G=>au (.slice q (bytesOf f).length a)<|p (mZ mX aa (E)<|by simp)<|ay<|G<|rt<|br<|tr<|aX aa<|⟨by unfold gR; rw [if_neg (show ¬(bytesOf f).length=256 by omega),if_pos ah]; rfl,V⟩
 have ah:¬((bytesOf f).length=1∧(bytesOf f).getD 0 0≠46∧(bytesOf f).getD 0 0≠91):=of_decide_eq_false<|al ▸ am
 refine ag fun G=>p (c8 kJ aa (aa) fun j aN=>by rw [gW]; exact (aE).aQ j)<|e<|cl Ay (Ir f 93 _ _ rfl) aa fun v31 b0 bj=> ?_
 obtain ⟨rfl,A⟩:=bj
 refine ay<|G<|cb aa (fun an=> ?_) fun an=> ?_
 refine ag fun I=>p (c8 kJ aa (aa) fun j aN=>by rw [gW]; exact (A.B aE).aQ j)<|e<|cl Au (CL f _) aa fun bV b1 bk=> ?_
 obtain ⟨rfl,a9⟩:=bk
 refine e<|cl FR (Fa (fun x=> !f x) _) aa fun bW b2 bl=> ?_
 obtain ⟨aS,bb⟩:=bl
 obtain ⟨bM,bO,rfl⟩:=cC aS
 exact p (mZ mX aa ((a8 aS).2)<|aa)<|p (cc aa aa<|by simp only [cT,ga]; omega)<|p (cc aa aa<|by simp only [cT,ga,bL]; omega)<|ay<|I<|rt<|br<|tr<|aX aa<|⟨by unfold gR; rw [if_neg (show ¬(bytesOf f).length=256 by omega),if_neg ah,if_pos an]; rfl,Md.trans V<|Md.trans A<|Md.trans a9 bb⟩
 refine aO<|bn<|a3 ?_
 refine ej (fun aZ aA=> ∃ (J:Option Addr) (C M:Nat),(((bytesOf f).filter (fun b=>decide (b≠94))++(if 94∈(bytesOf f) then [94] else [])).length=C)∧(bu aA ax.heap.size 5 1 (.slice J C M) C<|U8<|(bytesOf f).filter (fun b=>decide (b≠94))++(if 94∈(bytesOf f) then [94] else []))∧(Wk w aA)∧(C≤300)∧(aZ 3= .slice J C M)) ?_ ?_
 refine ag fun I=>au (.slice q (bytesOf f).length a)<|e<|cl PD (Uu (bytesOf f) q _ a 94 _ (E.wk A) aa ab) aa fun bY bG bm=> ?_
 obtain ⟨rfl,U⟩:=bm
 have aF:Wk w bG:=Md.trans V<|Md.trans A U
 refine ay<|I<|ag fun a5=>p mv<|p (ge aa aa)<|nl<|a5<|cd aa (fun bt=> ?_) fun bt=> ?_
 have ao:=rr (c:=94) (l:=bytesOf f) ab
 have aq:=aW (aW ae A) U
 obtain ⟨O,rfl⟩:=Wc aq ab
 refine rg aa<|au (.slice (some ⟨O,0,none⟩) (bytesOf f).length a)<|p mv<|p mv<|p (ad aa aa<|bX ab)<|e<|cl PE (RO (bytesOf f) ((bytesOf f).idxOf 94) ((bytesOf f).idxOf 94 +1) _ _ ax.heap.size _ a O _ aq ab ab ab ab) aa fun v46 bH bp=> ?_
 obtain ⟨rfl,ar,aK⟩:=bp
 have bc:Wk w bH:=Md.trans' aF aK fun k hk h=>by have :=dG aq (show (bR (some ⟨O,0,none⟩) _ a).ownBlock=some O from rfl); have :=Y.md.size; omega
 have bx:=Dv ar
 refine e<|fU ik aa aa fun bN b3 bP Z a7=>e<|ap ik (aW ar Z.md) aa (by have :=Y.md.size; have :=ak.size; have :=A.size; have :=U.size; have :=aK.size; have :=Z.md.size; omega) aa (aJ.dZ a7) (aa) (aa) ab ab fun bZ bJ av bi bU bT=> ?_
 have bd:=Wk.own (Md.trans bc Z.md) (aW ar Z.md) bi Y.md.size
 rw [Uq (Ox f) ao.2] at bx av
 obtain ⟨a2,c2,rfl⟩:=cC av
 have aT:bu bJ ax.heap.size 5 1 (.slice a2 (((bytesOf f).idxOf 94 +((bytesOf f).length - ((bytesOf f).idxOf 94 +1)))+1) c2) (((bytesOf f).idxOf 94 +((bytesOf f).length - ((bytesOf f).idxOf 94 +1)))+1) (U8<|(bytesOf f).filter (fun b=>decide (b≠94))++ [94]):=by rw [wz]; exact av
 exact p aB<|nl<|tn<|⟨a2,_,c2,(by have :=Dv aT; rw [if_pos (wc.1 ao.2)]; exact this),(by rw [if_pos (wc.1 ao.2)]; exact aT),bd,(ab),aa⟩
 have ac:¬(94:UInt8)∈bytesOf f:=fun h=>by have h1:e8 94 (bytesOf f)=(bytesOf f).idxOf 94:=if_pos (wc.2 h); omega
 exact aO<|tn<|⟨q,(bytesOf f).length,a,(by rw [if_neg ac,Jy ac,ek]),(by rw [if_neg ac,Jy ac,ek]; exact aW (aW ae A) U),aF,(ab),aa⟩
 rintro aZ aA ⟨J,C,M,aP,bA,bf,bz,bF⟩
 refine fx 3 bF ?_
 have aG:((bytesOf f).filter (fun b=>decide (b≠94))++(if 94∈(bytesOf f) then [94] else [])).length≤300:=by rw [aP]; exact bz
 exact ag fun I=>au (.slice J C M)<|p (mZ mX aa ((a8 bA).2)<|aP)<|p (cc aa aa<|gd (zH aG _) az)<|p (cc aa aa<|by rw [bL]; exact gd (Nat.add_le_add_right (zH aG _) _) az)<|p aB<|nl<|I<|rt<|aX aa<|⟨by unfold gR; rw [if_neg (show ¬(bytesOf f).length=256 by omega),if_neg ah,if_neg (show ¬f 93=true from by rw [an]; exact ei)]; rfl,bf⟩
theorem Gm (s:List UInt8) (w:World) (hs:s.length≤1048576):
 bo aw 144 (bh [str s]) w (fun v w'=>(∃ a,v= .tuple #[.agg [a].toArray,ak ((di s).2)]∧bu w' w.heap.size 325 4 (a) ((di s).1).length (k6<|(di s).1))∧Wk w w'):=by
 refine enter func144 aa ntmps144 aa<|ag fun b3=>e<|fi zg fun aE dT dA ae aq=>ay<|b3<|aC fun b8=>aC fun bv=>rg aa<|au (str s)<|p (dW aa aa)<|p mv<|gs (t:=10) aa (fun U=> ?_) fun U=> ?_
 refine aH aa<|aH aa<|aH aa<|p (bB aa)<|nl<|bv<|ct aa<|aC fun am=>rg aa<|p (cU (ps:= []) (L:= [.slice none 0 0]) vz aa<|aa)<|e<|fZ qj aa (vs:= [.slice none 0 0]) aa aa aa aq az fun G A C=> ?_
 have E:Wk w G:=Md.trans' ae.md A fun k hk h=>by omega
 exact ay<|am<|rt<|tr<|eA aa (dP (cs:= [.slice none 0 0]) aa mS aa fun j I=>by cases j with | zero=>exact (a7 C).trans aa | succ j=>omega) ee<|⟨⟨.slice none 0 0,by unfold di; rw [if_pos (.inl U)]; rfl,by unfold di; rw [if_pos (.inl U)]; exact dx _ _ _ _⟩,E⟩
 refine aI aa (aU (str s) aa)<|aI aa (cy u9 aa aa)<|aI aa (gt aa aa)<|p (bq aa)<|nl<|bv<|cd aa (fun cY=> ?_) fun cY=> ?_
 refine ag fun am=>p (cU (ps:= []) (L:= [.slice none 0 0]) vz aa<|aa)<|e<|fZ qj aa (vs:= [.slice none 0 0]) aa aa aa aq az fun G A C=> ?_
 have E:Wk w G:=Md.trans' ae.md A fun k hk h=>by omega
 exact ay<|am<|rt<|tr<|eA aa (dP (cs:= [.slice none 0 0]) aa mS aa fun j I=>by cases j with | zero=>exact (a7 C).trans aa | succ j=>omega) ee<|⟨⟨.slice none 0 0,by unfold di; rw [if_pos (.inr ab)]; rfl,by unfold di; rw [if_pos (.inr ab)]; exact dx _ _ _ _⟩,E⟩
 refine aO<|b8<|aC fun am=>ag fun b9=>au (str s)<|p (dW aa aa)<|nl<|b9<|cd aa (fun ah=> ?_) fun ah=> ?_
 refine ag fun a6=>p (cU (ps:= []) (L:= [.slice none 0 0]) vz aa<|aa)<|e<|fZ qj aa (vs:= [.slice none 0 0]) aa aa aa aq az fun G A C=> ?_
 have E:Wk w G:=Md.trans' ae.md A fun k hk h=>by omega
 refine ay<|a6<|rt<|tr<|eA aa (dP (cs:= [.slice none 0 0]) aa mS aa fun j I=>by cases j with | zero=>exact (a7 C).trans aa | succ j=>omega) ee ?_
 have bV:¬(s= []∨512 < s.length):=fun h=>h.elim U fun h=>by omega
 exact ⟨⟨.slice none 0 0,by unfold di; rw [if_neg bV,if_pos ah]; rfl,by unfold di; rw [if_neg bV,if_pos ah]; exact dx _ _ _ _⟩,E⟩
 refine aO<|am<|ag fun a6=>e<|fi zg fun an dw dC bS co=> ?_
 have cO:Wk w dw:=Md.trans ae.md bS.md
 have dB:=(cQ.1 aq).1
 have cn:=bS.md.aM aq
 have hs:=hs
 refine nl<|a6<|aC fun ca=>ag fun cc=>ay<|cc<|aM<|lp (fun bw aD Y=> ∃ (i:Nat) (q:List (List UInt8)) (aA:Value),(i≤s.length∧q.length≤i)∧(ko s i q)∧(Y.heap[an]? =some (.cells [aA].toArray 270 (0,0)))∧(Y.heap[aE]? =some (.cells [.slice none 0 0].toArray 270 (0,0)))∧(bu Y w.heap.size 325 4 (aA) (q).length<|k6<|q)∧(Wk w Y)∧(aD 0=str s)∧(aD 2=aR aE)∧(aD 4=aR an)∧(aD 5=ak i)∧(s.length - i=bw)) _ ⟨0,[],.slice none 0 0,(by simp),(ko.start s),co,cn,(dx _ _ _ _),cO,aa,aa,aa,(by first | rfl | exact iv<|if_neg ax),aa⟩ ?_
 rintro bw aD Y ⟨i,q,aA,hi,aY,aG,ar,V,Z,c9,db,dc,dd,rfl⟩
 refine fx 0 c9<|fx 2 db<|fx 4 dc<|fx 5 dd<|aC fun ce=>ag fun b4=>au (ak i)<|au (str s)<|p (cy u9 aa aa)<|p (lt aa aa)<|nl<|b4<|cd aa (fun cZ=> ?_) fun cZ=> ?_
 refine aO<|ce<|aM<|ag fun a2=>e<|al rS fun ao b2 bT aT cv=> ?_
 have aF:bO b2.heap ao (eL fun _=>false):=by rw [AX]; exact cv
 have bc:Wk w b2:=Md.trans Z aT.md
 have ba:=aT.md.aM aG
 have bb:=aT.md.aM ar
 have bs:=aW V aT.md
 have bT:ao=Y.heap.size:=bT
 have dz:=(cQ.1 aG).1
 have dy:=(cQ.1 ar).1
 have bm:=drop_cons (l:=s) (i:=i) 0 ab
 refine nl<|a2<|ag fun a3=>ay<|a3 ?_
 refine ej (fun aj ai=>(s.getD i 0≠91)∧(bO ai.heap ao<|eL<|cE [s.getD i 0])∧(ai.heap[an]? =some (.cells [aA].toArray 270 (0,0)))∧(ai.heap[aE]? =some (.cells [.slice none 0 0].toArray 270 (0,0)))∧(bu ai w.heap.size 325 4 (aA) (q).length<|k6<|q)∧(Wk w ai)∧(aj 0=str s)∧(aj 2=aR aE)∧(aj 4=aR an)∧(aj 5=ak i)∧(aj 6=aR ao)) ?_ ?_
 refine ag fun M=>au (str s)<|au (ak i)<|p (eQ u9 aa aa ab)<|nl<|M<|aM<|ag fun b5=>p (bI aa aa)<|ay<|b5<|cd aa (fun aV=> ?_) fun aV=> ?_
 refine aC fun a4=>ag fun b6=>au (str s)<|au (ak i)<|p (bG ((i+1:Nat):Int) aa aa<|bl ab ab)<|e<|cl Pb (Om s (i+1) _ hs ab) aa fun dR dv cV=> ?_
 obtain ⟨⟨ch,rfl,c1⟩,hE36⟩:=cV
 have cN:Wk w dv:=Md.trans bc hE36
 have bU:=yh aV
 refine p mv<|p (xt aa aa)<|p (xt aa aa)<|p (xt aa aa)<|e<|da pj aa (vs:=eL ch) aa aa aa (hE36.B aF) az fun dq aK bx=> ?_
 have bN:Wk w dq:=Md.trans' cN aK fun k hk h=>by have :=Z.size; omega
 have dL:=hE36.size
 have bz:=aK.aM (hE36.aM ba) fun h=>by omega
 have bH:=aK.aM (hE36.aM bb) fun h=>by omega
 have c3:=cX (aW bs hE36) aK fun k hk h=>by have :=dG V hk; omega
 have dH:(s.drop<|i+1).length=s.length - (i+1):=fP
 refine p aB<|ay<|b6<|ag fun b7=>p mv<|p (no aa)<|nl<|b7<|cb aa (fun O=> ?_) fun O=> ?_
 have av:iz (s.drop i)=none:=by
  rw [bm,bU]
  refine xm aa fun h=> ?_
  have dk:¬e8 93 (s.drop<|i+1) < 0:=by rw [show e8 93 (s.drop<|i+1)=(s.drop<|i+1).idxOf 93 from if_pos h.1]; omega
  have dl:=(E2 (s:=s) (k:=i+1) h.1).2 h.2
  rw [decide_eq_false dk,decide_eq_true dl] at O; cases O
 have aX:=aY.bad ab av
 refine ag fun a5=>p (cU (ps:= []) (L:= [.slice none 0 0]) vz aa<|aa)<|e<|fZ qj aa (vs:= [.slice none 0 0]) aa aa aa bH az fun G A C=> ?_
 have E:Wk w G:=Md.trans' bN A fun k hk h=>by omega
 refine ay<|a5<|rt<|tr<|br<|tr<|br<|tr<|br<|tr<|eA aa (dP (cs:= [.slice none 0 0]) aa mS aa fun j I=>by cases j with | zero=>exact (a7 C).trans aa | succ j=>omega) ee ?_
 have J:di s=([],41):=by unfold di; rw [if_neg (fun h=>h.elim U fun h=>by omega),if_neg ah,aX]
 exact ⟨⟨.slice none 0 0,by rw [J]; rfl,by rw [J]; exact dx _ _ _ _⟩,E⟩
 have ax:¬e8 93 (s.drop<|i+1) < 0:=fun h=>by rw [decide_eq_true h] at O; cases O
 have dm:gy (jl s<|i+1) [94]≠[]:=fun h=>by rw [h] at O; simp at O
 have aZ:=rr ax
 have bt:=(E2 (s:=s) (k:=i+1) aZ.2).1 dm
 obtain rfl :=c1 ax
 rw [Ot aZ.2 bt.1] at bx
 have av:iz (s.drop i)=some (91::(s.drop<|i+1).take ((s.drop<|i+1).idxOf 93 +1),(s.drop<|i+1).drop ((s.drop<|i+1).idxOf 93 +1)):=by rw [bm,bU]; exact AR rfl aZ.2 bt.1 bt.2
 have bp:=aY.step (j:=i+1 +(s.drop<|i+1).idxOf 93 +1) av<|by rw [r4]; rfl
 have dK:(s.drop<|i+1).idxOf 93 < s.length - (i+1):=by have :=aZ.2; omega
 refine aO<|a4<|ag fun a5=>p (fa mq aa)<|p (ld nw aa<|(a7 bz).trans aa)<|p (c8 kJ aa (aa) fun j I=>by rw [gW]; exact (bx).aQ j)<|e<|kK yQ aa aa aa fun cf b0 dD aP cp=> ?_
 have cq:bO b0.heap cf (eL<|cE (91::(s.drop<|i+1).take ((s.drop<|i+1).idxOf 93 +1))):=cp
 have bP:Wk w b0:=Md.trans bN aP.md
 have a0:=aW c3 aP.md
 have bA:=aP.md.aM bz
 have bJ:=aP.md.aM bH
 refine e<|ap yQ (a0) aa (by have :=bP.size; omega) aa (aJ.dZ cq) (aa) (Gc _) ab ab fun dn dU bW bi dN dI=> ?_
 have bX:=JJ bW
 have bC:=bi.aM bA fun h=>dE a0 bA az h
 have cF:=bi.aM bJ fun h=>dE a0 bJ az h
 have cP:=Wk.own bP a0 bi<|cB _
 refine p (fa mq aa)<|e<|cJ Gv aa aa (eU bW) bC (by simp) fun dr bd ci=> ?_
 have cI:Wk w dr:=Md.trans' cP bd fun k hk h=>by have :=ae.md.size; omega
 exact nl<|a5<|ext<|mV az<|bf<|be<|tn<|⟨_,ab,i+1 +(s.drop<|i+1).idxOf 93 +1,q++ [91::(s.drop<|i+1).take ((s.drop<|i+1).idxOf 93 +1)],dn,(by rw [bL,e5]; omega),bp,ci,(bd.aM cF fun h=>by omega),(cX bX bd fun k hk h=>dE bX bC az<|h ▸ hk),cI,aa,aa,aa,(by first | rfl | exact iv<|if_neg ax),aa⟩
 refine ag fun a4=>p (bI aa aa)<|ay<|a4<|cd aa (fun bk=> ?_) fun bk=> ?_
 refine rg aa<|p (c8 kJ aa (aa) fun j I=>by rw [gW]; exact (aF).aQ j)<|e<|cl Au (CL (fun _=>false) _) aa fun dS dV cW=> ?_
 obtain ⟨rfl,ac⟩:=cW
 refine e<|da pj aa (vs:=eL fun x=> !(fun _:UInt8=>false) x) aa aa aa (ac.B aF) az fun ds aL cj=> ?_
 have dM:=ac.size
 have cK:Wk w ds:=Md.trans' (Md.trans bc ac) aL fun k hk h=>by have :=Z.size; omega
 have cx:=aL.aM (ac.aM ba) fun h=>by omega
 have cA:=aL.aM (ac.aM bb) fun h=>by omega
 have c4:=cX (aW bs ac) aL fun k hk h=>by have :=dG V hk; omega
 exact nl<|bn<|tn<|⟨(vb aV),(by rw [Cg bk,← R6]; exact cj),cx,cA,c4,cK,aa,aa,aa,aa,aa⟩
 refine rg aa<|au (str s)<|au (ak i)<|p (eQ u9 aa aa ab)<|e<|cl FG (JW ao (s.getD i 0) _ _ aF) aa fun dQ du cT=> ?_
 obtain ⟨rfl,cm,aN⟩:=cT
 have cM:Wk w du:=Md.trans' bc aN fun k hk h=>by have :=Z.size; omega
 have cz:=aN.aM ba fun h=>by omega
 have cD:=aN.aM bb fun h=>by omega
 have c5:=cX bs aN fun k hk h=>by have :=dG V hk; omega
 exact nl<|bn<|tn<|⟨(vb aV),(by rw [← VY (CD bk)]; exact cm),cz,cD,c5,cM,aa,aa,aa,aa,aa⟩
 rintro aj ai ⟨c2,cw,bF,cH,c7,cS,de,df,dg,dh,dj⟩
 refine fx 0 de<|fx 2 df<|fx 4 dg<|fx 5 dh<|fx 6 dj<|ag fun M=>p (fa mq aa)<|p (ld nw aa<|(a7 bF).trans aa)<|p (c8 kJ aa (aa) fun j I=>by rw [gW]; exact (cw).aQ j)<|e<|kK yQ aa aa aa fun cg b1 dF aS cr=> ?_
 have cu:bO b1.heap cg (eL<|cE [s.getD i 0]):=cr
 have bQ:Wk w b1:=Md.trans cS aS.md
 have a1:=aW c7 aS.md
 have bD:=aS.md.aM bF
 have bM:=aS.md.aM cH
 refine e<|ap yQ (a1) aa (by have :=bQ.size; omega) aa (aJ.dZ cu) (aa) (Gc _) ab ab fun dp dX bY bj dO dJ=> ?_
 have bZ:=JJ bY
 have bE:=bj.aM bD fun h=>dE a1 bD az h
 have cG:=bj.aM bM fun h=>dE a1 bM az h
 have cR:=Wk.own bQ a1 bj<|cB _
 have av:iz (s.drop i)=some ([s.getD i 0],s.drop (i+1)):=by rw [bm]; exact F6 c2
 have bp:=aY.step (j:=i+1) av rfl
 refine p (fa mq aa)<|e<|cJ Gv aa aa (eU bY) bE (by simp) fun dt bg ck=> ?_
 have cL:Wk w dt:=Md.trans' cR bg fun k hk h=>by have :=ae.md.size; omega
 exact nl<|M<|rg aa<|au (ak i)<|p (bG ((i+1:Nat):Int) aa aa<|bl ab ab)<|p aB<|nl<|bn<|tn<|⟨_,ab,i+1,q++ [[s.getD i 0]],dp,(by rw [bL,e5]; omega),bp,ck,(bg.aM cG fun h=>by omega),(cX bZ bg fun k hk h=>dE bZ bE az<|h ▸ hk),cL,aa,aa,aa,(by first | rfl | exact iv<|if_neg ax),aa⟩
 refine ext<|bf<|bf<|be<|ca<|aC fun a2=>aC fun a3=> ?_
 obtain ⟨a8,a9,rfl⟩:=cC V
 have aX:=aY.done ab
 refine rg aa<|p (fa mq aa)<|p (ld nw aa<|(a7 aG).trans aa)<|p (bK qJ aa aa)<|p (gt aa aa)<|nl<|a3<|cd aa (fun c0=> ?_) fun c0=> ?_
 refine ag fun M=>p (cU (ps:= []) (L:= [.slice none 0 0]) vz aa<|aa)<|e<|fZ qj aa (vs:= [.slice none 0 0]) aa aa aa ar az fun G A C=> ?_
 have E:Wk w G:=Md.trans' Z A fun k hk h=>by omega
 refine ay<|M<|rt<|tr<|eA aa (dP (cs:= [.slice none 0 0]) aa mS aa fun j I=>by cases j with | zero=>exact (a7 C).trans aa | succ j=>omega) ee ?_
 have J:di s=([],42):=by unfold di; rw [if_neg (fun h=>h.elim U fun h=>by omega),if_neg ah,aX]; exact if_pos ab
 exact ⟨⟨.slice none 0 0,by rw [J]; rfl,by rw [J]; exact dx _ _ _ _⟩,E⟩
 refine aO<|a2<|ag fun M=>p (c8 mS aa (aa) (show ∀ j,j < 1→Hb.aQ Y.heap an (0 +j)= [bR a8 q.length a9][j]? from fun j I=>by cases j with | zero=>exact (a7 aG).trans aa | succ j=>omega))<|e<|fZ qj aa (vs:= [.slice a8 q.length a9]) aa aa aa ar az fun G A C=> ?_
 have E:Wk w G:=Md.trans' Z A fun k hk h=>by omega
 have c6:=cX V A fun k hk h=>dE V ar az<|h ▸ hk
 refine ay<|M<|rt<|eA aa (dP (cs:= [.slice a8 q.length a9]) aa mS aa fun j I=>by cases j with | zero=>exact (a7 C).trans aa | succ j=>omega) ee ?_
 have J:di s=(q,0):=by unfold di; rw [if_neg (fun h=>h.elim U fun h=>by omega),if_neg ah,aX]; exact if_neg ab
 exact ⟨⟨_,by rw [J]; rfl,by rw [J]; exact c6⟩,E⟩
theorem Ww (ps:List (List UInt8)) (a:Option Addr) (c:Nat) (w:World) (U:aJ w.heap a (k6 ps)) (hn:ps.length≤4096):
 bo aw 245 (bh [.agg [.slice a ps.length c].toArray]) w (fun v w'=>v=str (l5 ps)∧Wk w w'):=by
 refine enter func245 aa ntmps245 aa<|ag fun Y=>e<|iY aa fun aI V aL C O=>ay<|Y<|aC fun ac=>aC fun ae=>rg aa<|p (fa mq aa)<|p (ld nw aa<|O.aQ 0)<|p (bK qJ aa aa)<|p (bI aa aa)<|nl<|ae<|cd aa (fun I=> ?_) fun I=> ?_
 exact ag fun E=>ay<|E<|rt<|tr<|aX aa<|⟨by unfold l5; rw [if_pos (fS ab)]; rfl,C.md⟩
 refine aO<|ac<|ag fun E=>ay<|E<|aC fun ah=>ag fun ai=>p (fa mq aa)<|p (ld nw aa<|O.aQ 0)<|p (bK qJ aa aa)<|p mv<|nl<|ai<|aM<|lp (fun M A J=> ∃ (i:Nat),(i≤ps.length)∧(Wk V J)∧(((ps.take i).flatMap fun t=>gR<|cE t).length≤i*300)∧(A 3=str ((ps.take i).flatMap fun t=>gR<|cE t))∧(A 11= .slice a ps.length c)∧(A 12=ak (ps.length))∧(A 13=ak i)∧(ps.length - i=M)) _ ⟨0,ab,(Md.refl _ _),(by simp),(by first | rfl | (rw [fH ps i [] ab,n8,pX]; rfl)),aa,aa,aa,aa⟩ ?_
 rintro M A J ⟨i,hi,q,hlen,aG,aD,aE,aF,rfl⟩
 refine fx 3 aG<|fx 11 aD<|fx 12 aE<|fx 13 aF<|ag fun aj=>p (lt aa aa)<|nl<|aj<|aC fun am=>cd aa (fun aA=> ?_) fun aA=> ?_
 refine aO<|am<|aC fun G=>aM<|ag fun Z=>p (ba G5 aa aa ab<|aJ.ok (U.wk<|Md.trans C.md q)<|Gb ab)<|p (c8 kJ aa (aa) (show ∀ j,j < 4→Hb.aQ J.heap (bk a) (fo a+i*4 +j)=(eL<|cE<|ps.getD i [])[j]? from Ga (U.wk<|Md.trans C.md q) ab))<|e<|al rS fun aK aU aN av an=>e<|da pj aa (vs:=eL<|cE<|ps.getD i []) aa aa aa an az fun aH ar ao=> ?_
 have aq:Wk V aH:=Md.trans' (Md.trans q av.md) ar fun k hk h=>by have :=q.size; omega
 refine nl<|Z<|rg aa<|au (str<|(ps.take i).flatMap fun t=>gR<|cE t)<|p (c8 kJ aa (aa) fun j aP=>by rw [gW]; exact (ao).aQ j)<|e<|cl Pz (Xy (cE<|ps.getD i []) _) aa fun aS aT ax=> ?_
 obtain ⟨rfl,ap⟩:=ax
 have aR:=Db<|cE<|ps.getD i []
 exact p (cc aa aa ab)<|p aB<|nl<|bn<|G<|rg aa<|p (ad aa aa<|bX ab)<|p mv<|nl<|tn<|⟨_,ab,i+1,ab,(Md.trans aq ap),(by rw [fH ps i [] ab,n8,pX,bL]; omega),(by first | rfl | (rw [fH ps i [] ab,n8,pX]; rfl)),aa,aa,aa,aa⟩
 exact ext<|bf<|bf<|be<|ah<|ag fun G=>au (str<|(ps.take i).flatMap fun t=>gR<|cE t)<|p (cO (str<|(ps.take i).flatMap fun t=>gR<|cE t) aa)<|nl<|G<|rt<|aX aa<|⟨by unfold l5; rw [if_neg (fun h=>by rw [h] at I; exact I aa),show ps.take i=ps from eN ab]; rfl,Md.trans C.md q⟩
end Go.Hb
end
section
namespace Go.Hb.gh
open Go.Hb.iu Go.Hb.od Go.Hb.j7
theorem xN {kind:Nat} {al:List (List Nat)} {s:Tx} (h:al= []):fR kind al s=kN kind s:=if_pos h
theorem Hv {kind:Nat} {al:List (List Nat)} {s:Tx} {e:Nat} (h:al≠[]) (h1:eX s al.length= .error e):fR kind al s= .error 13:=by unfold fR; rw [if_neg h,h1]
theorem Hz {kind:Nat} {al:List (List Nat)} {s:Tx} (h:al≠[]) (h1:eX s al.length= .ok 0):fR kind al s= .error 13:=by unfold fR; rw [if_neg h,h1]; rfl
theorem Hy {kind n:Nat} {al:List (List Nat)} {s:Tx} (h:al≠[]) (h1:eX s al.length= .ok n) (a:n≠0):fR kind al s= .ok (al.getD (n - 1) []):=by unfold fR; rw [if_neg h,h1]; exact if_neg a
theorem x7 {kind:Nat} {s:Tx} (h:(ea kind s).2=0):kN kind s= .ok (ea kind s).1:=if_neg fun h2=>h2 h
theorem x6 {kind:Nat} {s:Tx} (h:(ea kind s).2≠0):kN kind s= .error (ea kind s).2:=if_pos h
theorem C7 {kind ln:Nat} {al:List (List Nat)} {c:db} {r:List Tx} (h:r.length≠4) (h1:r.length≠5):fF kind al c ln r= .error 111:=by unfold fF; rw [if_pos ⟨h,h1⟩]
theorem mE {kind ln:Nat} {al:List (List Nat)} {c:db} {r:List Tx} (h:r.length=4∨r.length=5):fF kind al c ln r=(match eB true (r.getD 2 []) with
 | .error e=> .error e
 | .ok st=>match jJ (bA<|r.getD 3 []) with
   | .error e=> .error e
   | .ok ad=>match kS kind al c.kind (bA<|r.getD 3 []) with
     | .error e=> .error e
     | .ok nx=>match kL r with
       | .error e=> .error e
       | .ok cd=> .ok ⟨c.kind,c.flag,c.et,st,ad,cd,nx,ln⟩):=by unfold fF; rw [if_neg ab]; rfl
theorem Ev {r:lC} (h:r.2.2.2≠0):jJ r= .error r.2.2.2:=if_pos h
theorem Ey {r:lC} (h:r.2.2.2=0) (h1:r.1= [48]):jJ r= .ok []:=by unfold jJ; rw [if_neg (fun h2=>h2 h),if_pos h1]
theorem Ew {r:lC} (h:r.2.2.2=0) (h1:r.1≠[48]) (h2:gF r.1≠0):jJ r= .error (gF r.1):=by unfold jJ; rw [if_neg (fun h2=>h2 h),if_neg h1,if_pos h2]
theorem Ex {r:lC} (h:r.2.2.2=0) (h1:r.1≠[48]) (h2:gF r.1=0):jJ r= .ok r.1:=by unfold jJ; rw [if_neg (fun h2=>h2 h),if_neg h1,if_neg (fun h3=>h3 h2)]
theorem Js {kind a:Nat} {al:List (List Nat)} {r:lC} (h:r.2.2.1=false):kS kind al a r= .ok []:=by unfold kS; rw [if_neg (by rw [h]; exact ei)]
theorem Jr {kind a:Nat} {al:List (List Nat)} {r:lC} (h:r.2.2.1=true) (h1:a=1):kS kind al a r= .error 118:=by unfold kS; rw [if_pos h,if_pos h1]
theorem yv {kind a:Nat} {al:List (List Nat)} {r:lC} (h:r.2.2.1=true) (h1:a≠1):kS kind al a r=fR kind al r.2.1:=by unfold kS; rw [if_pos h,if_neg h1]
theorem Gi {r:List Tx} (h:r.length≠5):kL r= .ok [46]:=if_neg h
theorem Gf {r:List Tx} (h:r.length=5) (h1:gu (r.getD 4 [])=false):kL r= .error 21:=by unfold kL; rw [if_pos h,if_pos h1]
theorem Gg {r:List Tx} (h:r.length=5) (h1:gu (r.getD 4 [])=true) (h2:(di<|r.getD 4 []).2≠0):kL r= .error (di<|r.getD 4 []).2:=by unfold kL; rw [if_pos h,if_neg (by rw [h1]; exact ei),if_pos h2]
theorem Gh {r:List Tx} (h:r.length=5) (h1:gu (r.getD 4 [])=true) (h2:(di<|r.getD 4 []).2=0):kL r= .ok (l5 (di<|r.getD 4 []).1):=by unfold kL; rw [if_pos h,if_neg (by rw [h1]; exact ei),if_neg (fun h3=>h3 h2)]
theorem Gl (s:Tx):(di s).1.length≤16:=by
 unfold di
 split
 · simp
 · split
   · simp
   · split
     · simp
     · split
       · simp
       · rename_i h; exact Nat.le_of_not_lt h
theorem He (B fb mc:Nat) (F:aT) (V:e6) (s:Tx) (w:World) (C:dU w B fb mc F V) (hk:F.kind=1∨F.kind=2∨F.kind=3) (aE:∀ l∈F.aliases,l.length≤64∧l.Pairwise (· < ·)) (aM:F.aliases.length≤70000) (hs:s.length≤1048576):
 bo aw 141 (bh [aR fb,str s]) w (fun v w'=>((∃ a l,v= .tuple #[a,.int .i64 0]∧fR F.kind F.aliases s= .ok l∧bu w' w.heap.size 51 1 a l.length (l.map bg))∨(∃ a e,v= .tuple #[a,ak e]∧e≠0∧fR F.kind F.aliases s= .error e))∧Wk w w'):=by
 obtain ⟨aq,ar,ah⟩:=cC C.eT
 have O:=C.eT
 rw [ah] at O
 have J:Hb.aQ w.heap fb 10=some (.slice aq F.aliases.length ar):=by rw [← ah]; exact (a7 C.cells).trans rfl
 refine enter func141 aa ntmps141 aa<|ag fun ai=>p aB<|ay<|ai<|aC fun aj=>aC fun am=>rg aa<|au (aR fb)<|p (m4 vF aa aa)<|nl<|am<|cf (aa)<|aO<|aj<|aC fun an=>ag fun ao=>au (aR fb)<|p (nc aa)<|p (fa gG aa)<|p (fa pC aa)<|p (ld q6 aa<|J)<|p (bK y5 aa aa)<|p (bI aa aa)<|nl<|ao<|cd aa (fun M=> ?_) fun M=> ?_
 have q:F.aliases= []:=fS ab
 refine ag fun G=>au (aR fb)<|p (nc aa)<|p (fa gG aa)<|p (fa s7 aa)<|p (ld bC aa<|(a7 C.cells).trans aa)<|au (str s)<|e<|cl FC (H0 F.kind s _ hk hs) aa fun aP aV ax=> ?_
 obtain ⟨⟨Z,rfl,aL⟩,hE23⟩:=ax
 refine p (xt aa aa)<|p (xt aa aa)<|p aB<|ay<|G<|rt<|tr<|f2 aa aa aa ?_
 refine ⟨?_,hE23⟩
 by_cases h:(ea F.kind s).2=0
 exact .inl ⟨Z,_,by rw [h]; rfl,by rw [xN q]; exact x7 h,aL⟩
 exact .inr ⟨Z,_,aa,h,by rw [xN q]; exact x6 h⟩
 have q:F.aliases≠[]:=fun h=>by rw [h] at M; exact M rfl
 refine aO<|an<|ag fun G=>au (str s)<|au (aR fb)<|p (nc aa)<|p (fa gG aa)<|p (fa pC aa)<|p (ld q6 aa<|J)<|p (bK y5 aa aa)<|e<|cl xe (yy s (F.aliases.length:Nat) _ hs ab) aa fun aS aX aA=> ?_
 obtain ⟨rfl,i⟩:=aA
 refine p mv<|p (xt aa aa)<|p (xt aa aa)<|p aB<|ay<|G<|aC fun ap=>ag fun Y=>p mv<|p (dj aa aa)<|p mv<|gs (t:=39) aa (fun aK=> ?_) fun aK=> ?_
 exact aH aa<|aH aa<|p (bB aa)<|nl<|Y<|ct aa<|ag fun A=>p aB<|ay<|A<|rt<|tr<|f2 aa aa aa<|⟨.inr ⟨.slice none 0 0,13,aa,az,Hv q (pG ab).1⟩,i⟩
 refine aI aa mv<|aI aa (bI aa aa)<|p (bq aa)<|nl<|Y<|cd aa (fun aG=> ?_) fun aG=> ?_
 refine ag fun A=>p aB<|ay<|A<|rt<|tr<|f2 aa aa aa ?_
 have E:=nO (by omega :(eb s (F.aliases.length:Nat)).2=0)
 rw [show (eb s (F.aliases.length:Nat)).1=0 from by omega] at E
 exact ⟨.inr ⟨.slice none 0 0,13,aa,az,Hz q E⟩,i⟩
 refine aO<|ap<|aC fun A=> ?_
 have E:=nO (by omega :(eb s (F.aliases.length:Nat)).2=0)
 have aN:=qA s (F.aliases.length:Nat) ab
 have ac:(eb s (F.aliases.length:Nat)).1 - 1 < F.aliases.length:=ab
 obtain ⟨v51,U,I⟩:=ez.get (C.al.wk i) ac
 obtain ⟨a51,q9,rfl⟩:=I.slice
 have aF:=aE _<|dV (d:= []) ac
 refine rg aa<|au (aR fb)<|p (nc aa)<|p (fa gG aa)<|p (fa pC aa)<|p (ld q6 aa<|Wk.aQ i J)<|p mv<|p (dN (((eb s (F.aliases.length:Nat)).1 - 1:Nat):Int) aa aa<|bl ab ab)<|p (ba Bc aa aa ab<|aJ.ok ((a8<|aW O i).2) fun h=>by rw [h] at U; cases U)<|p (ld mT aa<|aJ.gL (a8<|aW O i).2 U)<|e<|cl FF (yA (F.aliases.getD ((eb s (F.aliases.length:Nat)).1 - 1) []) _ _ _ I.cM.2 (fun h=>Tg.tg I (by simp) h) ab) aa fun aU aY aD=> ?_
 obtain ⟨ae,av⟩:=aD
 rw [VX aF.2] at ae
 exact p aB<|ay<|A<|rt<|f2 aa aa aa<|⟨.inl ⟨_,_,aa,Hy q E ab,ew ae i.size⟩,i.trans av⟩
theorem yJ (B:Nat) (H:dt) (F:aT) (V:e6) (R:gX) (rows:List Rw) (ln:Nat) (seen:List Tx) (c:db) (r:List Tx) (b3:Nat) (ar:Option Addr) (cr:Nat) (w:World) (E:dU w B H.fb H.mc F V) (C:dy w B H F R rows ln seen) (aX:kH F rows seen) (d3:c.kind=1∨c.kind=2) (aq:Tg w b3 9 r.length (.slice ar r.length cr) (r.map str)) (bi:r.length≤70000∧∀ x∈r,x.length≤70000):
 fC aw 201 (bh [.pointer (some ⟨H.rb,0,none⟩),.agg (nB c).toArray,.slice ar r.length cr]) w (fun v w'=> ∃ q,fF F.kind F.aliases c ln r= .ok q∧q.line=ln∧(∃ vn,v= .agg (fz (q,vn)).toArray∧Tg w' B 51 q.next.length vn (q.next.map bg))∧Wk w w') (fun aj w'=> ∃ e,fF F.kind F.aliases c ln r= .error e∧aj=jm 47 ln (e:Nat)∧Wk w w'):=by
 have dY:=aq.cM
 have d8:=(cQ.1 C.cells).1
 have d4:=C.lo.1
 refine ka func201 aa ntmps201 aa<|sq fun dL cy=>rg aa<|e<|iY aa fun aW eB d0 bv cj=>e<|al rT fun Z aS d1 aK ck=> ?_
 have aE:Wk w aS:=bv.md.trans aK.md
 have bR:=Wk.aQ aE C.dq
 have ed:=bv.size
 have ef:=aK.size
 refine nl<|tn<|cy _ _ ?_
 refine ej (fun aA b0=>(r.length=4∨r.length=5)∧(b0=aS)∧(aA 0= .pointer (some ⟨H.rb,0,none⟩))∧(aA 2= .slice ar r.length cr)∧(aA 4= .pointer (some ⟨aW,0,none⟩))∧(aA 6= .pointer (some ⟨Z,0,none⟩))) ?_ ?_
 refine rg aa<|p (aU (.pointer<|some ⟨H.rb,0,none⟩) aa)<|p (aU (.slice ar r.length cr) aa)<|p (bK eV aa aa)<|p (bI aa aa)<|p mv<|gs (t:=20) aa (fun c4=> ?_) fun c4=> ?_
 refine sk aa aa aa aa<|sk aa aa aa aa<|sk aa aa aa aa<|p (bB aa)<|eP aa (dS iy (iK H.rb ln _ 111 aS bR az) aa fun dA dD bb=> ?_) fun c w' A O E=>by first | exact absurd A.2.1 az | exact ⟨111,C7 ab (by have :=of_decide_eq_false A.2.1; omega),A.1,by rw [A.2.2]; exact aE⟩
 obtain ⟨rfl,bT,rfl⟩:=bb
 exact nl<|tn<|⟨(.inl ab),aa,aa,aa,aa,aa⟩
 refine pg aa aa aa (aU (.slice ar r.length cr) aa)<|pg aa aa aa (bK eV aa aa)<|pg aa aa aa (bI aa aa)<|p (bq aa)<|eP aa (dS iy (iK H.rb ln _ 111 aS bR az) aa fun dA dD bb=> ?_) fun c w' A O E=>by first | exact absurd A.2.1 az | exact ⟨111,C7 ab (by have :=of_decide_eq_false A.2.1; omega),A.1,by rw [A.2.2]; exact aE⟩
 obtain ⟨rfl,bT,rfl⟩:=bb
 exact nl<|tn<|⟨(.inr<|by have :=of_decide_eq_true bT; omega),aa,aa,aa,aa,aa⟩
 rintro aA b0 ⟨hlen,cu,c6,c9,dc,dd⟩
 refine fx 0 c6<|fx 2 c9<|fx 4 dc<|fx 6 dd ?_
 subst cu
 have aP:=aK.md.B cj
 refine sq fun dM cz=>rg aa<|p (fa uF aa)<|p (ld bC aa<|(aP.aQ 1).trans aa)<|p (fa BA aa)<|p (ld c7 aa<|(aP.aQ 0).trans aa)<|p (fa HG aa)<|p (ld k4 aa<|(aP.aQ 2).trans aa)<|p (cU (ps:= [(0,.int .i64 (c.kind:Nat)),(1,bg c.flag),(2,.bool c.et),(5,str [46])]) (L:= [.int .i64 (c.kind:Nat),bg c.flag,.bool c.et,.string ⟨⟨[]⟩⟩,.string ⟨⟨[]⟩⟩,str [46],.slice none 0 0]) Dl aa<|aa)<|e<|al rT fun G eD d2 aL cm=> ?_
 have eh:=aL.size
 refine e<|da pk aa aa aa aa (cm) (by simp) fun b1 aG ch=> ?_
 have aF:Wk w b1:=(aE.trans aL.md).trans' aG fun k hk h=>by omega
 have cV:=aG.B (aL.md.B aP) fun h=>by omega
 have cY:=aG.B (aL.md.B ck) fun h=>by omega
 have ei:=aG.size
 have bx:=(aq.wk aF).cM
 have d5:(r.getD 2 []).length≤70000:=bi.2 _<|dV ab
 have d6:(r.getD 3 []).length≤70000:=bi.2 _<|dV ab
 refine nl<|tn<|cz _ _<|sq fun dN cA=>rg aa<|p (aU (.pointer<|some ⟨H.rb,0,none⟩) aa)<|p (aU (.slice ar r.length cr) aa)<|p (ba cI aa aa ab<|aJ.ok (bx.2)<|bS ab)<|p (ld bU aa<|cg.get (i:=2) bx.2 ab)<|eP aa (dS FB (JM H.rb ln (r.getD 2 []) b1 (Wk.aQ aF C.dq) ab) aa fun v37 eA cG=> ?_) fun c w' A O E=>by obtain ⟨e,he,h,h2⟩:=A; exact ⟨e,by rw [mE hlen,he],h,aF.trans h2⟩
 obtain ⟨stx,bM,rfl,am⟩:=cG
 refine p (fa s9 aa)<|e<|st kM aa aa (aa) (am.B ch) (by simp) fun b2 aH ci=> ?_
 have bo:bO b2.heap G [.int .i64 (c.kind:Nat),bg c.flag,.bool c.et,str stx,str [],str [46],.slice none 0 0]:=ci
 have bp:Wk w b2:=(aF.trans am).trans' aH fun k hk h=>by omega
 have ec:=am.size
 have bH:=aH.B (am.B cV) fun h=>by omega
 have bJ:=aH.B (am.B cY) fun h=>by omega
 have bw:=(aq.wk bp).cM
 have eb:=aH.size
 refine nl<|tn<|cA _ _<|sq fun dO cD=>rg aa<|p (aU (.slice ar r.length cr) aa)<|p (ba cI aa aa ab<|aJ.ok (bw.2)<|bS ab)<|p (ld bU aa<|cg.get (i:=3) bw.2 ab)<|e<|cl Aj (DF (r.getD 3 []) _ ab) aa fun eq dE cH=> ?_
 obtain ⟨rfl,I⟩:=cH
 have ae:=bp.trans I
 have d9:=rQ<|r.getD 3 []
 refine p mv<|p (xt aa aa)<|p (xt aa aa)<|p (xt aa aa)<|p (xt aa aa)<|p aB<|p aB<|p aB<|p aB<|nl<|tn<|cD _ _<|sq fun dQ cE=>rg aa<|p (aU (.pointer<|some ⟨H.rb,0,none⟩) aa)<|p mv<|eP aa (dS ou (oF H.rb ln ((bA<|r.getD 3 []).2.2.2:Nat) dE<|Wk.aQ ae C.dq) aa fun er dF cJ=> ?_) fun c w' A O E=>⟨_,by rw [mE hlen,bM,Ev (show (bA<|r.getD 3 []).2.2.2≠0 by have :=A.2.1; omega)],A.1,by rw [A.2.2]; exact ae⟩
 obtain ⟨rfl,aR,rfl⟩:=cJ
 have aR:(bA<|r.getD 3 []).2.2.2=0:=ab
 refine nl<|tn<|cE _ _ ?_
 refine ej (fun U ai=> ∃ (Y:Tx),(jJ (bA<|r.getD 3 [])= .ok Y)∧(bO ai.heap G [.int .i64 (c.kind:Nat),bg c.flag,.bool c.et,str stx,str Y,str [46],.slice none 0 0])∧(bO ai.heap aW<|nB c)∧(∃ L,L.length=7∧bO ai.heap Z L)∧(Wk w ai)∧(U 0= .pointer (some ⟨H.rb,0,none⟩))∧(U 2= .slice ar r.length cr)∧(U 4= .pointer (some ⟨aW,0,none⟩))∧(U 6= .pointer (some ⟨Z,0,none⟩))∧(U 7= .pointer (some ⟨G,0,none⟩))∧(U 9=str (bA<|r.getD 3 []).2.1)∧(U 10= .bool (bA<|r.getD 3 []).2.2.1)) ?_ ?_
 refine sq fun aV ac=>rg aa<|p mv<|p (oG aa aa)<|nl<|tn<|ac _ _<|cd aa (fun aN=> ?_) fun aN=> ?_
 refine rg aa<|p (aU (.pointer<|some ⟨H.rb,0,none⟩) aa)<|p mv<|eP aa (dS FI (Ka H.rb ln (bA<|r.getD 3 []).1 dF (Wk.aQ ae C.dq) ab) aa fun es eC cK=> ?_) fun c w' A O E=>⟨_,by rw [mE hlen,bM,Ew aR aN A.2.1],A.1,ae.trans A.2.2⟩
 obtain ⟨rfl,dw,an⟩:=cK
 refine p (fa BQ aa)<|e<|st kM aa aa (aa) (Wk.B (I.trans an) bo) (by simp) fun dK a9 cn=> ?_
 have cv:Wk w dK:=(ae.trans an).trans' a9 fun k hk h=>by omega
 have ee:=(I.trans an).size
 exact nl<|tn<|⟨(bA<|r.getD 3 []).1,(Ex aR aN dw),cn,(a9.B (Wk.B (I.trans an) bH) fun h=>by omega),(⟨_,aa,a9.B (Wk.B (I.trans an) bJ) fun h=>by omega⟩),cv,aa,aa,aa,aa,aa,aa,aa⟩
 exact aO<|tn<|⟨[],(Ey aR<|jq.1 aN),(I.B bo),(I.B bH),(⟨_,aa,I.B bJ⟩),ae,aa,aa,aa,aa,aa,aa,aa⟩
 rintro U ai ⟨Y,au,aD,cW,bL,J,de,dg,dh,dj,dk,dl,df⟩
 refine fx 0 de<|fx 2 dg<|fx 4 dh<|fx 6 dj<|fx 7 dk<|fx 9 dl<|fx 10 df ?_
 skip
 refine ej (fun aC M=> ∃ (nx:List Nat) (vn:Value),(kS F.kind F.aliases c.kind (bA<|r.getD 3 [])= .ok nx)∧(bO M.heap G [.int .i64 (c.kind:Nat),bg c.flag,.bool c.et,str stx,str Y,str [46],vn])∧(Tg M (G+1) 51 nx.length vn<|nx.map bg)∧(∃ L,L.length=7∧bO M.heap Z L)∧(Wk w M)∧(aC 0= .pointer (some ⟨H.rb,0,none⟩))∧(aC 2= .slice ar r.length cr)∧(aC 6= .pointer (some ⟨Z,0,none⟩))∧(aC 7= .pointer (some ⟨G,0,none⟩))) ?_ ?_
 refine sq fun aV ac=>rg aa<|p (aU (.bool (bA<|r.getD 3 []).2.2.1) aa)<|nl<|tn<|ac _ _<|cb aa (fun av=> ?_) fun av=> ?_
 skip
 refine sq fun b4 a1=>rg aa<|p (aU (.pointer<|some ⟨H.rb,0,none⟩) aa)<|p (fa uF aa)<|p (ld bC aa<|(cW.aQ 1).trans aa)<|p (bI aa aa)<|eP aa (dS iy (iK H.rb ln _ 118 ai (Wk.aQ J C.dq) az) aa fun eu bY cL=> ?_) fun aj w' A O E=>by have dX:=of_decide_eq_false A.2.1; exact ⟨118,by rw [mE hlen,bM]; simp only; rw [au]; simp only; rw [Jr av ab],A.1,by rw [A.2.2]; exact J⟩
 obtain ⟨rfl,bV,rfl⟩:=cL
 have bV:=of_decide_eq_true bV
 refine nl<|tn<|a1 _ _<|sq fun b5 a2=>rg aa<|p (aU (.pointer<|some ⟨H.rb,0,none⟩) aa)<|p (nc aa)<|p (fa ic aa)<|p (ld gl aa<|Wk.aQ J<|(a7 C.cells).trans aa)<|p (aU (str (bA<|r.getD 3 []).2.1) aa)<|e<|cl Fk (He B H.fb H.mc F V (bA<|r.getD 3 []).2.1 _ (E.wk J) aX.kd aX.al (by have :=aX.len; omega)<|by have :=rQ (r.getD 3 []); omega) aa fun dB bZ cN=> ?_
 obtain ⟨c2,ag⟩:=cN
 obtain ⟨bm,bn,rfl,bP⟩:∃ a,∃ e:Nat,dB= .tuple #[a,.int .i64 (e:Nat)]∧((e=0∧∃ l,fR F.kind F.aliases (bA<|r.getD 3 []).2.1= .ok l∧bu bZ bY.heap.size 51 1 a l.length (l.map bg))∨(e≠0∧fR F.kind F.aliases (bA<|r.getD 3 []).2.1= .error e)):=by
  rcases c2 with ⟨a,l,h1,h2,h3⟩ | ⟨a,e,h1,h2,h3⟩
  exact ⟨a,0,h1,.inl ⟨aa,l,h2,h3⟩⟩
  exact ⟨a,e,h1,.inr ⟨h2,h3⟩⟩
 refine p mv<|p (xt aa aa)<|p (xt aa aa)<|p aB<|p aB<|nl<|tn<|a2 _ _<|sq fun b6 a3=>rg aa<|p (aU (.pointer<|some ⟨H.rb,0,none⟩) aa)<|p mv ?_
 refine eP aa (dS ou (oF H.rb ln (bn:Nat) bZ<|Wk.aQ (J.trans ag) C.dq) aa fun ev dH cO=> ?_) (fun aj w' A O E=>by
  rcases bP with ⟨h,_⟩ | ⟨h,h1⟩
  exact absurd ab A.2.1
  exact ⟨bn,by rw [mE hlen,bM]; simp only; rw [au]; simp only; rw [yv av ab,h1],A.1,by rw [A.2.2]; exact J.trans ag⟩)
 obtain ⟨rfl,ea,rfl⟩:=cO
 obtain ⟨nx,ax,bc⟩:∃ l,fR F.kind F.aliases (bA<|r.getD 3 []).2.1= .ok l∧bu dH bY.heap.size 51 1 bm l.length (l.map bg):=by
  rcases bP with ⟨_,h⟩ | ⟨h,_⟩
  exact h
  exact absurd ab h
 refine nl<|tn<|a3 _ _<|rg aa<|p mv<|p (fa qo aa)<|e<|st sM aa aa (eU bc) (ag.B aD) (by simp) fun dI a5 b9=> ?_
 have cp:Wk w dI:=(J.trans ag).trans' a5 fun k hk h=>by omega
 have eg:=ag.size
 exact nl<|tn<|⟨nx,bm,(by rw [yv av ab]; exact ax),b9,((Tg.jN<|cX bc a5 fun k hk h=>by have :=dG bc hk; have :=aD.lt; omega).mono aD.lt),(by obtain ⟨L,a4,aM⟩:=bL; exact ⟨L,a4,a5.B (ag.B aM) fun h=>by omega⟩),cp,aa,aa,aa,aa⟩
 exact aO<|tn<|⟨[],.slice none 0 0,(Js<|by simpa using av),aD,(⟨none,0,aa,cB _,.inl aa⟩),bL,J,aa,aa,aa,aa⟩
 rintro aC M ⟨nx,vn,ax,aY,bG,bN,ap,dm,dn,dp,dr⟩
 refine fx 0 dm<|fx 2 dn<|fx 6 dp<|fx 7 dr ?_
 refine ej (fun bl ay=> ∃ (ak:Tx),(kL r= .ok ak)∧(bO ay.heap G [.int .i64 (c.kind:Nat),bg c.flag,.bool c.et,str stx,str Y,str ak,vn])∧(Tg ay (G+1) 51 nx.length vn<|nx.map bg)∧(∃ L,L.length=7∧bO ay.heap Z L)∧(Wk w ay)∧(bl 6= .pointer (some ⟨Z,0,none⟩))∧(bl 7= .pointer (some ⟨G,0,none⟩))) ?_ ?_
 refine sq fun aV ac=>rg aa<|p (aU (.slice ar r.length cr) aa)<|p (bK eV aa aa)<|p (bI aa aa)<|nl<|tn<|ac _ _<|cd aa (fun c1=> ?_) fun c1=> ?_
 have bf:r.length=5:=ab
 have d7:(r.getD 4 []).length≤70000:=bi.2 _<|dV ab
 have bz:=(aq.wk ap).cM
 refine sq fun b4 a1=>rg aa<|p (aU (.pointer<|some ⟨H.rb,0,none⟩) aa)<|p (aU (.slice ar r.length cr) aa)<|p (ba cI aa aa ab<|aJ.ok (bz.2)<|bS ab)<|p (ld bU aa<|cg.get (i:=4) bz.2 ab)<|eP aa (dS Ap (CS H.rb ln (r.getD 4 []) M (Wk.aQ ap C.dq) ab) aa fun ew eE cP=> ?_) fun aj w' A O E=>⟨21,by rw [mE hlen,bM]; simp only; rw [au]; simp only; rw [ax]; simp only; rw [Gf bf A.2.1],A.1,ap.trans A.2.2⟩
 obtain ⟨rfl,bW,a0⟩:=cP
 have br:=ap.trans a0
 have bD:=(aq.wk br).cM
 refine nl<|tn<|a1 _ _<|sq fun b5 a2=>rg aa<|p (aU (.slice ar r.length cr) aa)<|p (ba cI aa aa ab<|aJ.ok (bD.2)<|bS ab)<|p (ld bU aa<|cg.get (i:=4) bD.2 ab)<|e<|cl Fl (Gm (r.getD 4 []) _ ab) aa fun ex eF cR=> ?_
 obtain ⟨⟨dT,rfl,bd⟩,hE89⟩:=cR
 obtain ⟨dx,dz,rfl⟩:=cC bd
 have bs:=br.trans hE89
 refine p mv<|p (xt aa aa)<|p (xt aa aa)<|e<|al zg fun dW dC dZ aI ca=> ?_
 have cq:=bs.trans aI.md
 refine e<|da qj aa aa aa aa (ca) (by simp) fun bk ah cc=> ?_
 have aZ:Wk w bk:=cq.trans' ah fun k hk h=>by have :=bs.size; omega
 have bj:Wk M dC:=(a0.trans hE89).trans aI.md
 have em:=a0.size
 have en:=hE89.size
 have eo:=aI.size
 have ep:=ah.size
 have dv:Wk M bk:=bj.trans' ah fun k hk h=>by omega
 refine p aB<|nl<|tn<|a2 _ _<|sq fun b6 a3=>rg aa<|p (aU (.pointer<|some ⟨H.rb,0,none⟩) aa)<|p mv<|eP aa (dS ou (oF H.rb ln ((di<|r.getD 4 []).2:Nat) bk<|Wk.aQ aZ C.dq) aa fun ey eG cS=> ?_) fun aj w' A O E=>⟨_,by rw [mE hlen,bM]; simp only; rw [au]; simp only; rw [ax]; simp only; rw [Gg bf bW (by have :=A.2.1; omega)],A.1,by rw [A.2.2]; exact aZ⟩
 obtain ⟨rfl,bX,rfl⟩:=cS
 have bX:(di<|r.getD 4 []).2=0:=ab
 refine nl<|tn<|a3 _ _<|rg aa<|p (c8 mS aa (aa) fun j bQ=>cc.bE j)<|e<|cl Pq (Ww (di<|r.getD 4 []).1 dx dz _ (aJ.md (aJ.wk (a8 bd).2 aI.md) ah fun c5 h=>by have :=V9 bd c5; omega)<|by have :=Gl (r.getD 4 []); omega) aa fun ez eH cT=> ?_
 obtain ⟨rfl,ao⟩:=cT
 have cw:=aZ.trans ao
 have el:=ao.size
 refine p (fa HT aa)<|e<|st kM aa aa (aa) (ao.B<|ah.B (bj.B aY) fun h=>by have :=aY.lt; omega) (by simp) fun dJ a6 ce=> ?_
 have ct:Wk w dJ:=cw.trans' a6 fun k hk h=>by omega
 exact nl<|tn<|⟨l5 (di<|r.getD 4 []).1,(Gh bf bW bX),ce,(Tg.Jd (Tg.wk bG<|dv.trans ao) a6 fun k hk=>by omega),(by obtain ⟨L,a4,aM⟩:=bN; exact ⟨L,a4,a6.B (ao.B<|ah.B (bj.B aM) fun h=>by have :=aM.lt; omega) fun h=>by omega⟩),ct,aa,aa⟩
 exact aO<|tn<|⟨[46],(Gi ab),aY,bG,bN,ap,aa,aa⟩
 rintro bl ay ⟨ak,c3,co,bF,cZ,cx,ds,du⟩
 refine fx 6 ds<|fx 7 du ?_
 obtain ⟨dR,cF,c0⟩:=cZ
 obtain ⟨b7,b8,rfl⟩:=bF.slice
 exact sq fun aV ac=>rg aa<|p (c8 mU aa (aa) fun j bQ=>co.bE j)<|e<|da pk aa aa aa aa (c0) (by rw [cF]; decide) fun eI bt cf=>nl<|tn<|ac _ _<|rt<|jM<|uB aa (dP (cs:=fz (⟨c.kind,c.flag,c.et,stx,Y,ak,nx,ln⟩,.slice b7 nx.length b8)) aa mU aa fun j bQ=>by rw [cf.bE j,gV ab,ek]; rfl)<|⟨⟨c.kind,c.flag,c.et,stx,Y,ak,nx,ln⟩,by rw [mE hlen,bM]; simp only; rw [au]; simp only; rw [ax]; simp only; rw [c3],aa,⟨_,aa,(Tg.Jd bF bt fun k hk=>by have :=aK.size; omega).mono ab⟩,cx.trans' bt fun k hk h=>by omega⟩
end Go.Hb.gh
end
section
namespace Go.Hb.lP
open Go.Hb.gh Go.Hb.iu Go.Hb.od Go.Hb.j7
theorem dU.zZ {w A G:World} {B fb mc:Nat} {F:aT} {V:e6} {v:Value} {x:Tx×Tx} (h:dU w B fb mc F V) (hm:Md (fun k=>V.v9.ownBlock=some k) w A) (M:bu A B 128 2 v (F.dm++ [x]).length (kT<|F.dm++ [x])) (a:Md (fun k=>k=fb) A G) (O:G.heap[fb]? =some (.cells (oy {F with dm:=F.dm++ [x]} {V with v9:=v} mc).toArray 125 (0,0))):dU G B fb mc {F with dm:=F.dm++ [x]} {V with v9:=v} :=by
 have i:TF w [130] (fun k=>V.v9.ownBlock=some k):=TF.own h.o9 az
 have E:=hm.gA i h.cells az
 have C:TF A [127] (fun k=>k=fb):=TF.eq (dw E) az
 have I:∀ k,V.v9.ownBlock=some k→∀ cur z,w.heap[k]?≠some (.cells cur 51 z):=ij h.o9 az
 have J:∀ k,k=fb→∀ cur z,A.heap[k]?≠some (.cells cur 51 z):=fu E az
 obtain ⟨f,q,U⟩:=h.cm
 have Y:=eE<|q.md hm<|i.no (eE q) az
 exact ⟨O,cX M a (fun k hk q=>dE M E az<|q ▸ hk),cj (cj h.eT hm i az) a C az,(h.al.md hm I).md a J,cj (cj h.eu hm i az) a C az,cj (cj h.dD hm i az) a C az,(h.nx.md hm I).md a J,⟨f,(q.md hm<|i.no (eE q) az).md a (C.no Y az),U⟩,h.lo,h.fO⟩
theorem dU.zX {w A J:World} {B fb mc:Nat} {F:aT} {V:e6} {v:Value} {x:List Nat} {vx:Value} (h:dU w B fb mc F V) (Z:Tg w B 51 x.length vx (x.map bg)) (hm:Md (fun k=>V.v10.ownBlock=some k) w A) (M:bu A B 70 1 v (F.aliases++ [x]).length (V.sa++ [vx])) (a:Md (fun k=>k=fb) A J) (O:J.heap[fb]? =some (.cells (oy {F with aliases:=F.aliases++ [x]} {V with v10:=v,sa:=V.sa++ [vx]} mc).toArray 125 (0,0))):dU J B fb mc {F with aliases:=F.aliases++ [x]} {V with v10:=v,sa:=V.sa++ [vx]} :=by
 have i:TF w [72] (fun k=>V.v10.ownBlock=some k):=TF.own h.eT az
 have E:=hm.gA i h.cells az
 have C:TF A [127] (fun k=>k=fb):=TF.eq (dw E) az
 have G:∀ k,V.v10.ownBlock=some k→∀ cur z,w.heap[k]?≠some (.cells cur 51 z):=ij h.eT az
 have I:∀ k,k=fb→∀ cur z,A.heap[k]?≠some (.cells cur 51 z):=fu E az
 obtain ⟨f,q,U⟩:=h.cm
 have Y:=eE<|q.md hm<|i.no (eE q) az
 exact ⟨O,cj (cj h.o9 hm i az) a C az,cX M a (fun k hk q=>dE M E az<|q ▸ hk),((h.al.md hm G).md a I).snoc ((Z.md hm G).md a I),cj (cj h.eu hm i az) a C az,cj (cj h.dD hm i az) a C az,(h.nx.md hm G).md a I,⟨f,(q.md hm<|i.no (eE q) az).md a (C.no Y az),U⟩,h.lo,h.fO⟩
theorem dU.wY {w A J:World} {B fb mc:Nat} {F:aT} {V:e6} {v:Value} {x:dd} {vx:Value} (h:dU w B fb mc F V) (Z:Tg w B 51 x.next.length vx (x.next.map bg)) (hm:Md (fun k=>V.v12.ownBlock=some k) w A) (M:bu A B 77 7 v (F.rules++ [x]).length (iT<|(F.rules++ [x]).zip<|V.rn++ [vx])) (a:Md (fun k=>k=fb) A J) (O:J.heap[fb]? =some (.cells (oy {F with rules:=F.rules++ [x]} {V with v12:=v,rn:=V.rn++ [vx]} mc).toArray 125 (0,0))):dU J B fb mc {F with rules:=F.rules++ [x]} {V with v12:=v,rn:=V.rn++ [vx]} :=by
 have i:TF w [79] (fun k=>V.v12.ownBlock=some k):=TF.own h.dD az
 have E:=hm.gA i h.cells az
 have C:TF A [127] (fun k=>k=fb):=TF.eq (dw E) az
 have G:∀ k,V.v12.ownBlock=some k→∀ cur z,w.heap[k]?≠some (.cells cur 51 z):=ij h.dD az
 have I:∀ k,k=fb→∀ cur z,A.heap[k]?≠some (.cells cur 51 z):=fu E az
 obtain ⟨f,q,U⟩:=h.cm
 have Y:=eE<|q.md hm<|i.no (eE q) az
 exact ⟨O,cj (cj h.o9 hm i az) a C az,cj (cj h.eT hm i az) a C az,(h.al.md hm G).md a I,cj (cj h.eu hm i az) a C az,cX M a (fun k hk q=>dE M E az<|q ▸ hk),(by rw [iq]; exact ((h.nx.md hm G).md a I).snoc<|(Z.md hm G).md a I),⟨f,(q.md hm<|i.no (eE q) az).md a (C.no Y az),U⟩,h.lo,h.fO⟩
theorem dy.own {w w':World} {B:Nat} {H:dt} {F:aT} {R:gX} {rows:List Rw} {ln:Nat} {seen:List Tx} {B' e s n:Nat} {v:Value} {xs:List Value} (h:dy w B H F R rows ln seen) (C:bu w B' e s v n xs) (hm:Md (fun k=>v.ownBlock=some k) w w') (i:([e+2].contains 197 || [e+2].contains 211 || [e+2].contains 11 || [e+2].contains 5)=false):dy w' B H F R rows ln seen:=by
 have a:TF w [e+2] (fun k=>v.ownBlock=some k):=TF.own C<|by simp
 obtain ⟨f,q,_⟩:=h.sm
 obtain ⟨g,A,_⟩:=h.tm
 exact h.md hm a i (a.no (eE q)<|by simp)<|a.no (eE A)<|by simp
theorem dy.ox {w w':World} {B:Nat} {H:dt} {F:aT} {R:gX} {rows:List Rw} {ln:Nat} {seen:List Tx} {cs:Array Value} {z:Nat×Nat} (h:dy w B H F R rows ln seen) (i:w.heap[H.fb]? =some (.cells cs 125 z)) (hm:Md (fun k=>k=H.fb) w w'):dy w' B H F R rows ln seen:=by
 have a:TF w [127] (fun k=>k=H.fb):=TF.eq (dw i) az
 obtain ⟨f,q,C⟩:=h.sm
 obtain ⟨g,A,E⟩:=h.tm
 exact h.md hm a az (a.no (eE q) az)<|a.no (eE A) az
theorem Tg.CH {w:World} {b e n:Nat} {L:List Value} {z:Nat×Nat} (h:w.heap[b]? =some (.cells L.toArray e z)) (hn:n=L.length):Tg w b e n (.slice (some ⟨b,0,none⟩) n n) L:=⟨_,_,rfl,cB _,.inr ⟨b,_,_,rfl,cB _,h,fun j u hu=>by simpa using hu⟩⟩
theorem kH.po {F:aT} {q:Rw} {rest:List Rw} {seen:List Tx} (h:kH F (q::rest) seen):kH F rest seen:=⟨by have :=h.len; simp only [cT] at this; omega,by have :=h.sl; simp only [cT] at this; omega,fun a h2=>h.row a (List.mem_cons_of_mem _ h2),h.kd,h.al⟩
theorem Ki {eof ln e:Nat} {F:aT} {rows:List Rw} {r:List Tx} (h:eX (r.getD 1 []) 256= .error e):ki eof F rows ln r= .error (ln,e):=by unfold ki; rw [h]
theorem vo {eof ln n:Nat} {F:aT} {rows:List Rw} {r:List Tx} {e:Nat×Nat} (h:eX (r.getD 1 []) 256= .ok n) (h1:group [e9] kE eof n rows= .error e):ki eof F rows ln r= .error e:=by unfold ki; rw [h]; simp only; rw [h1]
theorem WM {eof ln n:Nat} {F:aT} {rows:List Rw} {r:List Tx} {q:List (Tx×Tx)×List Rw} (h:eX (r.getD 1 []) 256= .ok n) (h1:group [e9] kE eof n rows= .ok q):ki eof F rows ln r= .ok ({F with dm:=F.dm++q.1},q.2):=by unfold ki; rw [h]; simp only; rw [h1]
theorem CB {s:Tx} {most:Int} {n:Nat} (h:eX s most= .ok n):(n:Int)≤most:=by
 unfold eX at h
 split at h
 · cases h
 · rename_i a; cases h; exact qA s most<|jq.1 a
theorem zV {eof ln:Nat} {F:aT} {hs:List Tx} {rows:List Rw} {r:List Tx} (h:fE∈hs∨dp∈hs):jT eof F hs rows ln r= .error (ln,113):=if_pos h
theorem EN {eof ln e:Nat} {F:aT} {hs:List Tx} {rows:List Rw} {r:List Tx} (a:¬(fE∈hs∨dp∈hs)) (h:eX (r.getD 1 []) 1024= .error e):jT eof F hs rows ln r= .error (ln,e):=by unfold jT; rw [if_neg a,h]
theorem wX {eof ln n:Nat} {F:aT} {hs:List Tx} {rows:List Rw} {r:List Tx} {e:Nat×Nat} (a:¬(fE∈hs∨dp∈hs)) (h:eX (r.getD 1 []) 1024= .ok n) (h1:group [eJ] (kq F.kind) eof n rows= .error e):jT eof F hs rows ln r= .error e:=by unfold jT; rw [if_neg a,h]; simp only; rw [h1]
theorem NZ {eof ln n:Nat} {F:aT} {hs:List Tx} {rows:List Rw} {r:List Tx} {q:List (List Nat)×List Rw} (a:¬(fE∈hs∨dp∈hs)) (h:eX (r.getD 1 []) 1024= .ok n) (h1:group [eJ] (kq F.kind) eof n rows= .ok q):jT eof F hs rows ln r= .ok ({F with aliases:=F.aliases++q.1},q.2):=by unfold jT; rw [if_neg a,h]; simp only; rw [h1]
theorem EM {kind ln:Nat} {r:List Tx} (h:r.length≠2):kq kind ln r= .error 111:=if_pos h
theorem wW {kind ln:Nat} {r:List Tx} (h:r.length=2):kq kind ln r=kN kind (r.getD 1 []):=if_neg ab
theorem HV {kind:Nat} {s:Tx} (h:(ea kind s).2=0):(ea kind s).1.length≤64∧(ea kind s).1.Pairwise (· < ·):=by
 unfold ea at h ⊢
 split
 · simp
 · split
   · simp
   · split
     · simp
     · rename_i h3
       exact ⟨by have :=VW ((dH kind s).map<|eI kind); rw [fK] at this; exact gd this ab,CF _⟩
theorem Ke {ln:Nat} {r:List Tx} (h:r.length≠3):kE ln r= .error 111:=if_pos h
theorem Kf {ln e:Nat} {r:List Tx} (h:r.length=3) (h1:eB false (r.getD 1 [])= .error e):kE ln r= .error e:=by unfold kE; rw [if_neg ab,h1]
theorem Kg {ln e:Nat} {r:List Tx} {a:Tx} (h:r.length=3) (h1:eB false (r.getD 1 [])= .ok a) (h2:eB true (r.getD 2 [])= .error e):kE ln r= .error e:=by unfold kE; rw [if_neg ab,h1]; simp only; rw [h2]
theorem Kh {ln:Nat} {r:List Tx} {a b:Tx} (h:r.length=3) (h1:eB false (r.getD 1 [])= .ok a) (h2:eB true (r.getD 2 [])= .ok b):kE ln r= .ok (a,b):=by unfold kE; rw [if_neg ab,h1]; simp only; rw [h2]
theorem WO (B:Nat) (H:dt) (F:aT) (rows:List Rw) (ln:Nat) (seen:List Tx) (r:List Tx) (bc:Nat) (ar:Option Addr) (cr:Nat) (w:World) (G:St w B H F rows ln seen) (bD:Tg w bc 9 r.length (.slice ar r.length cr) (r.map str)) (cj:r.length=2) (bN:∀ x∈r,x.length≤70000):
 fC aw 133 (bh [.pointer (some ⟨H.rb,0,none⟩),.slice ar r.length cr]) w (jt B H seen (ki H.eof F rows ln r) w) (js B H (ki H.eof F rows ln r) w):=by
 obtain ⟨V,R,ac,aH,aS⟩:=G
 have a4:=bD.cM
 have ck:(r.getD 1 []).length≤70000:=bN _<|dV ab
 have ch:=aH.lo
 have cb:=aS.len
 refine ka func133 aa ntmps133 aa<|sq fun b0 bl=>rg aa<|p (aU (.pointer<|some ⟨H.rb,0,none⟩) aa)<|p (aU (.slice ar r.length cr) aa)<|p (ba cI aa aa ab<|aJ.ok (a4.2)<|bS ab)<|p (ld bU aa<|cg.get (i:=1) a4.2 ab)<|eP aa (dS xg (yF H.rb ln (r.getD 1 []) 256 w aH.dq ab ab) aa fun v10 cp bw=> ?_) fun c w' C aA ac=>by obtain ⟨e,he,h,h2⟩:=C; exact ⟨ln,e,Ki he,h,Wk.mw h2⟩
 obtain ⟨n,U,rfl,aD⟩:=bw
 have ci:=CB U
 refine p mv<|nl<|tn<|bl _ _<|aM<|lp (fun aR aC an=> ∃ (i:Nat) (xs:List (Tx×Tx)) (rows':List Rw) (ay:Nat) (A:e6) (R':gX),(i≤n)∧(iW [e9] kE H.eof (group [e9] kE H.eof n rows) xs (n - i) rows')∧(xs.length=i)∧(dU an B H.fb H.mc {F with dm:=F.dm++xs} A)∧(dy an B H F R' rows' ay seen)∧(kH {F with dm:=F.dm++xs} rows' seen)∧(fA B H w an)∧(aC 0= .pointer (some ⟨H.rb,0,none⟩))∧(aC 10= .int .i64 (n:Nat))∧(aC 11= .int .i64 (i:Nat))∧(n - i=aR)) _ ⟨0,[],rows,ln,V,R,ab,iW.start,aa,(by rw [ek]; exact ac.wk aD),(aH.wk aD),(by rw [ek]; exact aS),(Wk.mw aD),aa,aa,aa,aa⟩ ?_
 rintro aR aC an ⟨i,xs,rows',ay,A,R',hi,I,bT,aV,ak,ah,aW,bO,bP,bQ,rfl⟩
 refine fx 0 bO<|fx 10 bP<|fx 11 bQ<|sq fun b1 bm=>rg aa<|p (lt aa aa)<|nl<|tn<|bm _ _<|sq fun b2 bo=>cd aa (fun bF=> ?_) fun bF=> ?_
 refine aO<|tn<|bo _ _<|sq fun b3 bp=>aM<|sq fun b4 bq=>rg aa<|p (aU (.pointer<|some ⟨H.rb,0,none⟩) aa)<|e<|sE (L:= [str e9]) fN aa aa aa aa fun bf a9 b9 bv bg=> ?_
 have Z:Wk an a9:=bv.md
 have aX:=aW.trans<|Wk.mw Z
 refine eP aa (dS Ar (Cf B H F R' rows' ay seen [e9] bf 1 _ _ a9 (ak.wk Z) (Tg.CH bg aa) aa az fun q bM=>(ah.row q bM).2.1) aa fun cm bV bx=> ?_) (fun c w' C aA ac=>by
  obtain ⟨h1,h2⟩:=C
  have hm:=aX.trans<|fA.rb (ak.wk Z) h2
  rcases h1 with ⟨rfl,h3⟩ | ⟨ag,O,rest,rfl,h4,h3⟩
  exact ⟨_,_,vo U (I.ends ab),h3,hm⟩
  exact ⟨_,_,vo U (I.other ab h4),h3,hm⟩)
 obtain ⟨ag,O,rest,rfl,ax,⟨bd,aI⟩,hT15,hM15⟩:=bx
 obtain ⟨b7,uo,rfl⟩:=hT15.slice
 have bk:=(aV.wk Z).rb (ak.wk Z) hM15
 have aG:=aX.trans<|fA.rb (ak.wk Z) hM15
 have a8:O≠[]∧O.length≤70000∧∀ x∈O,x.length≤70000:=ah.row (ag,O)<|by simp
 have ao:=kH.po ah
 have a2:=hT15.cM
 have bE:=ah.len
 simp only [cT,bL] at bE
 refine p aB<|nl<|tn<|bq _ _<|sq fun b5 br=>rg aa<|p (aU (.pointer<|some ⟨H.rb,0,none⟩) aa)<|p mv<|p (bK eV aa aa)<|p (bI aa aa)<|eP aa (dS iy (iK H.rb ag _ 111 bV aI.dq az) aa fun v20 bW bz=> ?_) fun c w' C aA ac=>⟨_,_,vo U (I.bad ab ax<|Ke<|by have :=of_decide_eq_false C.2.1; omega),C.1,by rw [C.2.2]; exact aG⟩
 obtain ⟨rfl,bR,rfl⟩:=bz
 have aP:O.length=3:=by have :=of_decide_eq_true bR; omega
 have ce:=a8.2.2 _<|dV (d:= []) (i:=1) ab
 have cf:=a8.2.2 _<|dV (d:= []) (i:=2) ab
 refine nl<|tn<|br _ _<|sq fun b6 bs=>rg aa<|p (aU (.pointer<|some ⟨H.rb,0,none⟩) aa)<|p mv<|p (ba cI aa aa ab<|aJ.ok (a2.2)<|bS ab)<|p (ld bU aa<|cg.get (i:=1) a2.2 ab)<|eP aa (dS FA (JP H.rb ag (O.getD 1 []) bW aI.dq ab) aa fun cn Y bA=> ?_) fun c w' C aA ac=>by obtain ⟨e,he,h,h2⟩:=C; exact ⟨_,_,vo U (I.bad ab ax<|Kf aP he),h,aG.trans<|Wk.mw h2⟩
 obtain ⟨J,a6,rfl,aq⟩:=bA
 have ae:=bk.wk aq
 have am:=aI.wk aq
 have a3:=hT15.wk aq
 have aY:=aG.trans<|Wk.mw aq
 have aN:¬(A.v9.ownBlock=some H.rb):=dE ae.o9 am.cells az
 have bG:¬(A.v9.ownBlock=some H.fb):=dE ae.o9 ae.cells az
 refine p aB<|nl<|tn<|bs _ _ ?_
 have a:(fun w'=>Md (fun k=>A.v9.ownBlock=some k) Y w') Y.drew:=(Md.refl _ _).drew
 refine eS (fun w'=>Md (fun k=>A.v9.ownBlock=some k) Y w') 24 aa wide a<|dA 0 aa aj (fun _=>aU (.pointer<|some ⟨H.rb,0,none⟩) aa) (fun _=>a)<|dA 1 aa aj (fun _=>nc aa) (fun _=>a)<|dA 2 aa aj (fun _=>fa ic aa) (fun _=>a)<|kD 3 aa aj (fun w' G=>ld gl aa<|Md.aQ G ((a7 am.cells).trans aa) aN) a<|dA 4 aa aj (fun _=>aU (.pointer<|some ⟨H.rb,0,none⟩) aa) (fun _=>a)<|dA 5 aa aj (fun _=>nc aa) (fun _=>a)<|dA 6 aa aj (fun _=>fa ic aa) (fun _=>a)<|kD 7 aa aj (fun w' G=>ld gl aa<|Md.aQ G ((a7 am.cells).trans aa) aN) a<|dA 8 aa aj (fun _=>nc aa) (fun _=>a)<|dA 9 aa aj (fun _=>fa gG aa) (fun _=>a)<|dA 10 aa aj (fun _=>fa x5 aa) (fun _=>a)<|kD 11 aa aj (fun w' G=>ld EL aa<|Md.aQ G ((a7 ae.cells).trans aa) bG) a<|dA 12 aa aj (fun _=>mv) (fun _=>a)<|dA 13 aa aj (fun _=>aU (.pointer<|some ⟨H.rb,0,none⟩) aa) (fun _=>a)<|dA 14 aa aj (fun _=>mv) (fun _=>a) ?_
 refine dA 15 aa aj (fun _=>ba cI aa aa ab<|aJ.ok (a3.cM.2)<|bS ab) (fun _=>a)<|kD 16 aa aj (fun w' G=>ld bU aa<|cg.get (i:=2) (a3.md G<|ij ae.o9 az).cM.2 ab) a<|I0 17 aa aj aa (dS FB (JM H.rb ag (O.getD 2 []) Y.drew (Md.aQ a am.dq aN) ab) aa fun co bY bB=> ?_) fun c w' C aA ac=>by obtain ⟨e,he,h,h2⟩:=C; exact ⟨_,_,vo U (I.bad ab ax<|Kg aP a6 he),h,aY.trans<|Wk.mw<|il h2⟩
 obtain ⟨M,bJ,rfl,au⟩:=bB
 have au:=il au
 have aK:(fun w'=>Md (fun k=>A.v9.ownBlock=some k) Y w') bY:=Md.mono au fun _ _ h=>h.elim
 refine ⟨aK,?_⟩
 refine dA 18 aa aj (fun _=>cU (ps:= [(0,str J),(1,str M)]) (L:= [str J,str M]) XW aa<|aa) (fun _=>aK)<|gQ 19 aa aj<|kK yR aa aa aa fun b8 bZ ca aZ bi=> ?_
 have aE:=au.trans aZ.md
 have E:=ae.wk aE
 have a0:=am.wk aE
 have a1:(fun w'=>Md (fun k=>A.v9.ownBlock=some k) Y w') bZ:=aK.trans' aZ.md fun _ _ h=>h.elim
 refine ⟨a1,?_⟩
 refine gQ 20 aa aj<|ap yR (E.o9) aa (by have :=(cQ.1 a0.cells).1; omega) aa (aJ.dZ bi) (aa) (aa) (by simp only [bL]; omega) (by simp only [bL]; omega) fun v46 bb a5 ai cl cc=> ?_
 have bt:=(aY.trans<|Wk.mw aE).trans<|Mw.of ai (TF.own E.o9 az) fun k hk=>(dG E.o9 hk).1
 have bC:=dy.own a0 E.o9 ai az
 have aL:=ai.aM E.cells<|dE E.o9 E.cells az
 have bH:bu bb B 128 2 v46 ((F.dm++xs)++ [(J,M)]).length (kT<|(F.dm++xs)++ [(J,M)]):=by rw [show kT ((F.dm++xs)++ [(J,M)])=kT (F.dm++xs)++ [str J,str M] from by simp [kT],bL]; exact a5
 have av:(fun w'=>Md (fun k=>A.v9.ownBlock=some k) Y w') bb:=a1.trans' ai fun _ _ h=>h
 refine ⟨av,?_⟩
 exact dA 21 aa aj (fun _=>nc aa) (fun _=>av)<|dA 22 aa aj (fun _=>fa gG aa) (fun _=>av)<|dA 23 aa aj (fun _=>fa x5 aa) (fun _=>av)<|dK 24 aa aj aj<|cJ Gy aa aa (v:=v46) (eU a5) aL (by show _ < 14; omega) fun cq aF bj=>eR aj<|bn<|tn<|bp _ _<|rg aa<|p (ad aa aa<|bX ab)<|p mv<|nl<|tn<|⟨_,ab,i+1,xs++ [(J,M)],rest,ag,{A with v9:=v46},bd,ab,(by rw [show n - (i+1)=n - i - 1 by omega]; exact I.step ab ax<|Kh aP a6 bJ),(by rw [bL,bT]; rfl),(by rw [← dF]; exact dU.zZ (x:=(J,M)) E ai bH aF bj),(dy.ox bC aL aF),(⟨by simp only [bL,e5]; omega,ao.sl,ao.row,ao.kd,ao.al⟩),(bt.trans<|Mw.of aF (TF.eq (dw aL) az) fun k hk=>hk ▸ E.lo.1),aa,aa,aa,aa⟩
 refine ext<|te _<|te _<|be<|jM<|f0 aa ?_
 rw [show n - i=0 by omega] at I
 exact ⟨aa,_,rows',ay,WM U I.done,⟨A,R',aV,ak.congr aa (fun _=>rfl),ah⟩,aW⟩
theorem NY (B:Nat) (H:dt) (F:aT) (rows:List Rw) (ln:Nat) (seen:List Tx) (r:List Tx) (bs:Nat) (ar:Option Addr) (cr:Nat) (w:World) (A:St w B H F rows ln seen) (bc:Tg w bs 9 r.length (.slice ar r.length cr) (r.map str)) (cP:r.length=2) (cc:∀ x∈r,x.length≤70000):
 fC aw 134 (bh [.pointer (some ⟨H.rb,0,none⟩),.slice ar r.length cr]) w (jt B H seen (jT H.eof F seen rows ln r) w) (js B H (jT H.eof F seen rows ln r) w):=by
 obtain ⟨V,R,ag,U,aF⟩:=A
 have cC:=bc.cM
 have cR:(r.getD 1 []).length≤70000:=cc _<|dV ab
 have cN:=U.lo
 have cF:=aF.len
 obtain ⟨cV,bk,bm⟩:=U.sm
 have cG:=tT (a:=fE) (l:=seen)
 have cH:=tT (a:=dp) (l:=seen)
 have cS:=aF.sl
 refine ka func134 aa ntmps134 aa<|sq fun cp bB=> ?_
 have C:(fun w'=>Wk w w') w.drew:=(Md.refl _ _).drew
 refine bM (fun w'=>Wk w w') aa wide C<|hp 0 aa aj (fun _ _=>aU (.pointer<|some ⟨H.rb,0,none⟩) aa) C<|hp 1 aa aj (fun _ _=>aU (.pointer<|some ⟨H.rb,0,none⟩) aa) C<|hp 2 aa aj (fun _ _=>nc aa) C<|hp 3 aa aj (fun _ _=>fa s5 aa) C<|hp 4 aa aj (fun w' A=>ld su aa<|Wk.aQ A<|(a7 U.cells).trans aa) C<|hp 5 aa aj (fun w' A=>oD qI oO je (du.md (bk) A id) aa aa (⟨_,aa⟩)<|bm fE) C<|hp 6 aa aj (fun _ _=>aU (.pointer<|some ⟨H.rb,0,none⟩) aa) C<|hp 7 aa aj (fun _ _=>nc aa) C<|hp 8 aa aj (fun _ _=>fa s5 aa) C<|hp 9 aa aj (fun w' A=>ld su aa<|Wk.aQ A<|(a7 U.cells).trans aa) C<|hp 10 aa aj (fun w' A=>oD qI oO je (du.md (bk) A id) aa aa (⟨_,aa⟩)<|bm dp) C<|hp 11 aa aj (fun _ _=>bG ((seen.count fE+seen.count dp:Nat):Int) aa aa<|bl ab ab) C<|hp 12 aa aj (fun _ _=>bI aa aa) C ?_
 refine ta 13 aa aj aa (dS iy (iK H.rb ln _ 113 w.drew (Wk.aQ C U.dq) az) aa fun v20 a0 bY=> ?_) (fun c w' E aL ag=>⟨ln,113,zV (Classical.byContradiction fun h2=>by
  have h1:=qT.2 fun h=>h2<|Or.inl h
  have h3:=qT.2 fun h=>h2<|Or.inr h
  exact of_decide_eq_false E.2.1 ab),E.1,by rw [E.2.2]; exact Wk.mw C⟩)
 obtain ⟨rfl,cj,bo⟩:=bY
 have aG:Wk w a0:=by rw [bo]; exact (Md.refl _ _).drew
 have ak:¬(fE∈seen∨dp∈seen):=by
  have cB:=of_decide_eq_true cj
  rintro (h | h)
  have :=zy.2 h; omega
  have :=zy.2 h; omega
 have bV:=U.wk aG
 have bd:=(bc.wk aG).cM
 have b4:(fun w'=>Wk w w') a0:=by rw [bo]; exact C
 refine ⟨b4,?_⟩
 refine hn aj<|tn<|bB _ _<|sq fun cq bD=>rg aa<|p (aU (.pointer<|some ⟨H.rb,0,none⟩) aa)<|p (aU (.slice ar r.length cr) aa)<|p (ba cI aa aa ab<|aJ.ok (bd.2)<|bS ab)<|p (ld bU aa<|cg.get (i:=1) bd.2 ab)<|eP aa (dS xg (yF H.rb ln (r.getD 1 []) 1024 a0 bV.dq ab ab) aa fun cX c0 bZ=> ?_) fun c w' E aL ag=>by obtain ⟨e,he,h,h2⟩:=E; exact ⟨ln,e,EN ak he,h,Wk.mw<|aG.trans h2⟩
 obtain ⟨n,am,rfl,an⟩:=bZ
 have cO:=CB am
 have an:=aG.trans an
 refine p mv<|nl<|tn<|bD _ _<|aM<|lp (fun a1 aN aD=> ∃ (i:Nat) (xs:List (List Nat)) (rows':List Rw) (aK:Nat) (I:e6) (R':gX),(i≤n)∧(iW [eJ] (kq F.kind) H.eof (group [eJ] (kq F.kind) H.eof n rows) xs (n - i) rows')∧(xs.length=i)∧(dU aD B H.fb H.mc {F with aliases:=F.aliases++xs} I)∧(dy aD B H F R' rows' aK seen)∧(kH {F with aliases:=F.aliases++xs} rows' seen)∧(fA B H w aD)∧(aN 0= .pointer (some ⟨H.rb,0,none⟩))∧(aN 25= .int .i64 (n:Nat))∧(aN 26= .int .i64 (i:Nat))∧(n - i=a1)) _ ⟨0,[],rows,ln,V,R,ab,iW.start,aa,(by rw [ek]; exact ag.wk an),(U.wk an),(by rw [ek]; exact aF),(Wk.mw an),aa,aa,aa,aa⟩ ?_
 rintro a1 aN aD ⟨i,xs,rows',aK,I,R',hi,Y,cm,a2,av,Z,a4,cf,ch,ci,rfl⟩
 refine fx 0 cf<|fx 25 ch<|fx 26 ci<|sq fun cs bE=>rg aa<|p (lt aa aa)<|nl<|tn<|bE _ _<|sq fun ct bF=>cd aa (fun b7=> ?_) fun b7=> ?_
 refine aO<|tn<|bF _ _<|sq fun cu bH=>aM<|sq fun cv bJ=>rg aa<|p (aU (.pointer<|some ⟨H.rb,0,none⟩) aa)<|e<|sE (L:= [str eJ]) fN aa aa aa aa fun bv bp cD bR bw=> ?_
 have ac:Wk aD bp:=bR.md
 have a5:=a4.trans<|Wk.mw ac
 refine eP aa (dS Ar (Cf B H F R' rows' aK seen [eJ] bv 1 _ _ bp (av.wk ac) (Tg.CH bw aa) aa az fun q cb=>(Z.row q cb).2.1) aa fun cW cn bW=> ?_) (fun c w' E aL ag=>by
  obtain ⟨h1,h2⟩:=E
  have hm:=a5.trans<|fA.rb (av.wk ac) h2
  rcases h1 with ⟨rfl,h3⟩ | ⟨ay,M,rest,rfl,h4,h3⟩
  exact ⟨_,_,wX ak am (Y.ends ab),h3,hm⟩
  exact ⟨_,_,wX ak am (Y.other ab h4),h3,hm⟩)
 obtain ⟨ay,M,rest,rfl,aX,⟨bt,aH⟩,hT15,hM15⟩:=bW
 obtain ⟨cz,uo,rfl⟩:=hT15.slice
 have a3:=(a2.wk ac).rb (av.wk ac) hM15
 have a6:=a5.trans<|fA.rb (av.wk ac) hM15
 have ce:M≠[]∧M.length≤70000∧∀ x∈M,x.length≤70000:=Z.row (ay,M)<|by simp
 have aP:=kH.po Z
 have bf:=hT15.cM
 have b6:=Z.len
 simp only [cT,bL] at b6
 refine p aB<|nl<|tn<|bJ _ _<|sq fun cw bN=>rg aa<|p (aU (.pointer<|some ⟨H.rb,0,none⟩) aa)<|p mv<|p (bK eV aa aa)<|p (bI aa aa)<|eP aa (dS iy (iK H.rb ay _ 111 cn aH.dq az) aa fun cY aA b0=> ?_) fun c w' E aL ag=>⟨_,_,wX ak am (Y.bad ab aX<|EM<|by have :=of_decide_eq_false E.2.1; omega),E.1,by rw [E.2.2]; exact a6⟩
 obtain ⟨rfl,ck,rfl⟩:=b0
 have bj:M.length=2:=by have :=of_decide_eq_true ck; omega
 have cL:=ce.2.2 _<|dV (d:= []) (i:=1) ab
 refine nl<|tn<|bN _ _<|sq fun cx bO=> ?_
 have J:(fun w'=>Wk aA w') aA.drew:=(Md.refl _ _).drew
 refine bM (fun w'=>Wk aA w') aa wide J<|hp 0 aa aj (fun _ _=>aU (.pointer<|some ⟨H.rb,0,none⟩) aa) J<|hp 1 aa aj (fun _ _=>nc aa) J<|hp 2 aa aj (fun _ _=>fa ic aa) J<|hp 3 aa aj (fun w' A=>ld gl aa<|Wk.aQ A<|(a7 aH.cells).trans aa) J<|hp 4 aa aj (fun _ _=>nc aa) J<|hp 5 aa aj (fun _ _=>fa gG aa) J<|hp 6 aa aj (fun _ _=>fa s7 aa) J<|hp 7 aa aj (fun w' A=>ld bC aa<|Wk.aQ A<|(a7 a3.cells).trans aa) J<|hp 8 aa aj (fun _ _=>mv) J<|hp 9 aa aj (fun _ _=>ba cI aa aa ab<|aJ.ok (bf.2)<|bS ab) J<|hp 10 aa aj (fun w' A=>ld bU aa<|Wk.aQ A<|cg.get (i:=1) bf.2 ab) J<|he 11 aa aj<|cl FC (H0 F.kind (M.getD 1 []) _ aF.kd ab) aa fun cZ bq b1=> ?_
 obtain ⟨⟨aE,rfl,aV⟩,ae⟩:=b1
 have ae:=il ae
 have aq:=a3.wk ae
 have ax:=aH.wk ae
 have a8:=a6.trans<|Wk.mw ae
 have bg:¬(I.v10.ownBlock=some H.rb):=dE aq.eT ax.cells az
 have b9:¬(I.v10.ownBlock=some H.fb):=dE aq.eT aq.cells az
 have bA:B≤aA.heap.size:=by have :=(cQ.1 aH.cells).1; omega
 have ah:(fun w'=>Wk aA w') bq:=ae
 refine ⟨ah,?_⟩
 refine hp 12 aa aj (fun _ _=>mv) ah<|hp 13 aa aj (fun _ _=>xt aa aa) ah<|hp 14 aa aj (fun _ _=>xt aa aa) ah<|hp 15 aa aj (fun _ _=>aB) ah<|hp 16 aa aj (fun _ _=>aB) ah<|hn aj<|tn<|bO _ _<|sq fun cy bP=>rg aa<|p (aU (.pointer<|some ⟨H.rb,0,none⟩) aa)<|p mv<|eP aa (dS ou (oF H.rb ay ((ea F.kind<|M.getD 1 []).2:Nat) bq ax.dq) aa fun v53 aC b3=> ?_) fun c w' E aL ag=>⟨_,_,wX ak am (Y.bad ab aX<|by rw [wW bj]; exact x6<|by have :=E.2.1; omega),E.1,by rw [E.2.2]; exact a8⟩
 obtain ⟨rfl,aY,rfl⟩:=b3
 have aY:(ea F.kind<|M.getD 1 []).2=0:=ab
 have b8:=HV aY
 refine nl<|tn<|bP _ _ ?_
 have G:(fun w'=>Md (fun k=>I.v10.ownBlock=some k) aC w') aC.drew:=(Md.refl _ _).drew
 refine eS (fun w'=>Md (fun k=>I.v10.ownBlock=some k) aC w') 18 aa wide G<|dA 0 aa aj (fun _=>aU (.pointer<|some ⟨H.rb,0,none⟩) aa) (fun _=>G)<|dA 1 aa aj (fun _=>nc aa) (fun _=>G)<|dA 2 aa aj (fun _=>fa ic aa) (fun _=>G)<|kD 3 aa aj (fun w' A=>ld gl aa<|Md.aQ A ((a7 ax.cells).trans aa) bg) G<|dA 4 aa aj (fun _=>aU (.pointer<|some ⟨H.rb,0,none⟩) aa) (fun _=>G)<|dA 5 aa aj (fun _=>nc aa) (fun _=>G)<|dA 6 aa aj (fun _=>fa ic aa) (fun _=>G)<|kD 7 aa aj (fun w' A=>ld gl aa<|Md.aQ A ((a7 ax.cells).trans aa) bg) G<|dA 8 aa aj (fun _=>nc aa) (fun _=>G)<|dA 9 aa aj (fun _=>fa gG aa) (fun _=>G)<|dA 10 aa aj (fun _=>fa pC aa) (fun _=>G)<|kD 11 aa aj (fun w' A=>ld q6 aa<|Md.aQ A ((a7 aq.cells).trans aa) b9) G<|dA 12 aa aj (fun _=>mv) (fun _=>G)<|gQ 13 aa aj<|fU yS aa (eU aV) fun cA co cE bT bx=> ?_
 have ao:=il bT.md
 have O:=aq.wk ao
 have a9:=ax.wk ao
 have b5:=(Tg.jN<|aW aV ao).mono bA
 have bb:(fun w'=>Md (fun k=>I.v10.ownBlock=some k) aC w') co:=Md.mono ao fun _ _ h=>h.elim
 refine ⟨bb,?_⟩
 refine gQ 14 aa aj<|ap yS (O.eT) aa (by have :=(cQ.1 a9.cells).1; omega) aa (aJ.dZ bx) (aa) (by show List.all [aE] gC=true; simp only [List.all_cons,List.all_nil,eU aV,Bool.and_self]) (by simp only [bL]; omega) (by simp only [bL]; omega) fun aZ br bi au cU cK=> ?_
 have bQ:=(a8.trans<|Wk.mw ao).trans<|Mw.of au (TF.own O.eT az) fun k hk=>(dG O.eT hk).1
 have b2:=dy.own a9 O.eT au az
 have aS:=au.aM O.cells<|dE O.eT O.cells az
 have ca:bu br B 70 1 aZ ((F.aliases++xs)++ [(ea F.kind<|M.getD 1 []).1]).length (I.sa++ [aE]):=by rw [bL]; exact bi
 have aI:(fun w'=>Md (fun k=>I.v10.ownBlock=some k) aC w') br:=bb.trans' au fun _ _ h=>h
 refine ⟨aI,?_⟩
 exact dA 15 aa aj (fun _=>nc aa) (fun _=>aI)<|dA 16 aa aj (fun _=>fa gG aa) (fun _=>aI)<|dA 17 aa aj (fun _=>fa pC aa) (fun _=>aI)<|dK 18 aa aj aj<|cJ Gz aa aa (v:=aZ) (eU bi) aS (by show _ < 14; omega) fun c1 aR bz=>eR aj<|bn<|tn<|bH _ _<|rg aa<|p (ad aa aa<|bX ab)<|p mv<|nl<|tn<|⟨_,ab,i+1,xs++ [(ea F.kind<|M.getD 1 []).1],rest,ay,{I with v10:=aZ,sa:=I.sa++ [aE]},bt,ab,(by rw [show n - (i+1)=n - i - 1 by omega]; exact Y.step ab aX<|by rw [wW bj]; exact x7 aY),(by rw [bL,cm]; rfl),(by rw [← dF]; exact dU.zX (x:=(ea F.kind<|M.getD 1 []).1) (vx:=aE) O b5 au ca aR bz),(dy.ox b2 aS aR),(⟨by simp only [bL,e5]; omega,aP.sl,aP.row,aP.kd,by intro l ai; rw [← dF] at ai; rcases jz.1 ai with ai | ai; exact Z.al l ai; rw [j4.1 ai]; exact b8⟩),(bQ.trans<|Mw.of aR (TF.eq (dw aS) az) fun k hk=>hk ▸ O.lo.1),aa,aa,aa,aa⟩
 refine ext<|te _<|te _<|be<|jM<|f0 aa ?_
 rw [show n - i=0 by omega] at Y
 exact ⟨aa,_,rows',aK,NZ ak am Y.done,⟨I,R',a2,av.congr aa (fun _=>rfl),Z⟩,a4⟩
end Go.Hb.lP
end
