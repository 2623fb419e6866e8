/-
  Walks and plain laws that the law rests on, laid together. No conditions but those that each theorem names.
-/
import Derived.Test.YtffmhpaepdkabaaGreatDoorMnDeriveWalks3
set_option linter.unusedVariables false
set_option maxRecDepth 20000
set_option maxHeartbeats 1000000
open Array renaming getElem?_eq_some_iff→dB
open Bool renaming eq_iff_iff→ua,noConfusion→eo
open Classical renaming not_not→jr
open Go.Proofs.Tryz renaming prog→aw
open Go.Value renaming bool→bU,int→jk,oneCell'→gF,slice→bS,tuple→gD
open Go.Value.slice renaming injEq→mT
open Go.World renaming ownsRow→bw,ownsRow_nil→dC
open List renaming append_assoc→dH,append_nil→ei,count_eq_zero→q9,count_le_length→ui,count_pos_iff→zP,drop_drop→ss,drop_eq_nil_of_le→gV,drop_succ_cons→wO,drop_take→su,drop_zero→wP,eq_nil_of_length_eq_zero→fY,flatMap_append→nC,flatMap_singleton→o5,getD_cons_zero→lT,getD_eq_getElem?_getD→da,getElem?_eq_getElem→cI,idxOf_lt_length_iff→wU,length→jD,length_append→bM,length_cons→c7,length_drop→fT,length_map→fM,length_nil→fU,length_replicate→ot,length_singleton→e9,length_take→dQ,map_append→ir,map_take→EF,mem_append→jF,mem_singleton→j5,replicate→kp,take→sw,take_of_length_le→eU,take_succ_cons→qe,take_zero→ow,toArray→bh
open Nat renaming add_le_add_left→zX,le_refl→cD,le_trans→gk,lt_or_ge→fu,mul_one→pd,zero_add→gW
open UInt8 renaming toNat_inj→k6,toNat_lt→iX
open Go.Proofs.Tryz
open Go.Hb.ea Go.Proofs Go.Hb.fw

namespace Go.Hb.iw
theorem tJ {w:World} {B e n cp i:Nat} {a:Option Addr} {d:Array Nat} (h:w.ownsRow B e 1 (.slice a n cp) n (LE bj d)):aO w.heap (gv a cp i 1) ((LE bj d).drop i):=by
 have :=(ba h).2.drop (cap:=cp) (k:=i) (size:=1)<|by rw [vo]; have h1:=fP h; have h2:=(ba h).1; omega
 rwa [pd] at this
theorem VZ (l:List Nat):l.map bj=LE bj l.toArray:=by simp [LE]
theorem sP (l:List Nat):(l.map bj).all gF=true :=by
 rw [List.all_eq_true]; intro v a; obtain ⟨x,_,rfl⟩:=List.mem_map.1 a; rfl
theorem YU (d:Array Nat) (k:Nat):(LE bj d).take k=(d.toList.take k).map bj:=by simp [LE,EF]
theorem oS (b:UInt8):ji b=decide ((b.toNat:Int) > 32∧(b.toNat:Int) < 127∧(b.toNat:Int)≠47∧(b.toNat:Int)≠44∧(b.toNat:Int)≠35):=by
 unfold ji; exact decide_eq_decide.2 ab
theorem WL {w:World} {B e size n cp:Nat} {a:Option Addr} {xs:List Value} (h:w.ownsRow B e size (.slice a n cp) n xs) (hn:0 < n):a≠none:=by
 rintro rfl
 rcases h.2 with ⟨_,h5⟩ | ⟨g,cap,cur,h4,_⟩
 · omega
 · simp at h4
theorem sX (a:Option Addr) (n c:Nat) (xs:List Value) (w:World) (M:aO w.heap a xs) (ae:xs.length=n*1) (V:a=none→n=0) (h1:xs.all gF=true) (hn:n≤1048576):
 bp aw 51 (bh [.slice a n c]) w (fun v w'=>bw w' w.heap.size 51 1 v n xs∧Wk w w'):=by
 refine enter func51 aa ntmps51 aa<|ag fun E=>ay<|E<|aB fun G=>ag fun I=>au (.slice a n c)<|p (s9 oT aa aa)<|nl<|I<|cb aa (fun A=> ?_) fun A=> ?_
 have Y:a=none:=by simpa using A
 refine ag fun i=>ay<|i<|rt<|tr<|aX aa ?_
 have Z:=V Y
 subst Z
 obtain rfl :=fY (show xs.length=0 by omega)
 exact ⟨dC _ _ _ _,Md.refl _ _⟩
 refine aQ<|G<|ag fun i=>e<|m7 zb fun ak ao al q J=> ?_
 have C:=J w.heap.size ab
 refine au (.slice a n c)<|e<|ap zb (C) aa (by have :=q.size; omega) aa (M.wk q.md) (ae) (h1) ab ab fun ai aj ac U an am=> ?_
 have O:=Wk.own q.md C U<|cD _
 refine ay<|i<|rt<|aX aa ?_
 have ah:bw aj w.heap.size 51 1 ai n xs:=by simpa using ac
 exact ⟨ah,O⟩
theorem RJ (d:Array Nat) (B n cp:Nat) (a:Option Addr) (w:World) (G:w.ownsRow B 51 1 (.slice a n cp) n (LE bj d)) (bo:n≤1048576):
 bp aw 247 (bh [.slice a n cp]) w (fun v w'=> ∃ k,v= .slice a k cp∧k=(iG d.toList).length∧bw w' B 51 1 (.slice a k cp) k ((iG d.toList).map bj)∧Md (fun q=>(bS a n cp).ownBlock=some q) w w'):=by
 have bm:=fP G
 have bi:=(ba G).1
 refine enter func247 aa ntmps247 aa<|ag fun ax=>ay<|ax<|aB fun aI=>ag fun aK=>au (.slice a n cp)<|p (bJ oT aa aa)<|p (lt aa aa)<|nl<|aK<|cd aa (fun aZ=> ?_) fun aZ=> ?_
 refine ag fun an=>au (.slice a n cp)<|p (cU (.slice a n cp) aa)<|nl<|an<|rt<|tr<|aX aa ?_
 have al:iG d.toList=d.toList:=by
  have aq:d.toList.length < 2:=by rw [tL]; omega
  revert aq
  generalize d.toList=l
  intro aq
  match l,aq with
  | [],_=>rfl
  | [x],_=>rfl
 exact ⟨n,aa,by rw [al,tL]; omega,by rw [al]; exact G,Md.refl _ _⟩
 refine aQ<|aI<|aB fun an=>ag fun aL=>ay<|aL<|aJ<|lp (fun V ar ac=> ∃ (i:Nat),(1≤i∧i≤n∧2≤n)∧(iG (d.toList.take i)=d.toList.take i)∧(Wk w ac)∧(ar 0= .slice a n cp)∧(ar 3=ak i)∧(n - i=V)) _ ⟨1,ab,(by have h1:=zg (d:=d) (i:=0) ab; rw [h1]; rfl),(Md.refl _ _),aa,aa,aa⟩ ?_
 rintro V ar ac ⟨i,hi,Y,J,a7,a8,rfl⟩
 refine fx 0 a7<|fx 3 a8<|aB fun aM=>ag fun aN=>au (ak i)<|au (.slice a n cp)<|p (bJ oT aa aa)<|p (lt aa aa)<|nl<|aN<|cd aa (fun aU=> ?_) fun aU=> ?_
 refine aQ<|aM<|aB fun ao=>aJ<|aB fun aP=> ?_
 have C:(fun w'=>Wk ac w') ac.drew:=(Md.refl _ _).drew
 refine bN (fun w'=>Wk ac w') aa wide C<|bI 0 aa (.slice a n cp) C<|bI 1 aa (ak i) C<|aH 2 aa (fun _ _=>bc ca aa aa ab<|aO.ok ((ba G).2)<|cy ab) C<|aH 3 aa (fun w' M=>ld dd aa<|Wk.aR M<|dN (i:=i) (ba<|a6 G J).2 ab) C<|bI 4 aa (.slice a n cp) C<|bI 5 aa (ak i) C<|aH 6 aa (fun _ _=>dR ((i - 1:Nat):Int) aa aa<|bl ab ab) C<|aH 7 aa (fun _ _=>bc ca aa aa ab<|aO.ok ((ba G).2)<|cy ab) C<|aH 8 aa (fun w' M=>ld dd aa<|Wk.aR M<|dN (i:=i - 1) (ba<|a6 G J).2 ab) C<|aH 9 aa (fun _ _=>bK aa aa) C<|hn aj<|aP<|cd aa (fun aV=> ?_) fun aV=> ?_
 have heq:d[i - 1]! =d[i]! :=ab
 refine ag fun az=>au (.slice a n cp)<|au (ak i)<|p (vO ca aa aa ab)<|ay<|az<|aB fun aA=>ag fun aC=>ay<|aC<|aJ<|lp (fun V ae U=> ∃ (k i2:Nat) (E:Array Nat),(1≤k∧k < i+i2∧1≤i2∧i2≤n - i)∧(E.toList.drop k=d.toList.drop k)∧(E.toList.take k=iG (d.toList.take<|i+i2))∧(U.ownsRow B 51 1 (.slice a n cp) n<|LE bj E)∧(Md (fun q=>(bS a n cp).ownBlock=some q) w U)∧(ae 0= .slice a n cp)∧(ae 3=ak k)∧(ae 4= .slice (gv a cp i 1) (n - i) (cp - i))∧(ae 5=ak i2)∧(n - i2=V)) _ ⟨i,1,d,ab,aa,(by rw [xM ab ab,if_pos heq,Y]),(a6 G<|Md.trans J (Md.refl _ _).drew),((Md.trans J (Md.refl _ _).drew).mono fun _ _ h=>h.elim),aa,aa,aa,aa,aa⟩ ?_
 rintro V ae U ⟨k,i2,E,hk,O,Z,I,ap,a9,bb,bd,bg,rfl⟩
 refine fx 0 a9<|fx 3 bb<|fx 4 bd<|fx 5 bg ?_
 have bk:=fP I
 refine aB fun aD=>ag fun aF=>au (ak i2)<|au (.slice (gv a cp i 1) (n - i)<|cp - i)<|p (bJ oT aa aa)<|p (lt aa aa)<|nl<|aF<|cd aa (fun aW=> ?_) fun aW=> ?_
 refine aQ<|aD<|aB fun ah=>aJ<|aB fun am=> ?_
 have A:(fun w'=>Wk U w') U.drew:=(Md.refl _ _).drew
 refine bN (fun w'=>Wk U w') aa wide A<|bI 0 aa (.slice (gv a cp i 1) (n - i)<|cp - i) A<|bI 1 aa (ak i2) A<|aH 2 aa (fun _ _=>bc ca aa aa ab<|aO.ok (tJ I)<|CC ab) A<|aH 3 aa (fun w' M=>ld dd aa<|Wk.aR M<|CB (j:=i2) (tJ I) ab) A<|bI 4 aa (.slice (gv a cp i 1) (n - i)<|cp - i) A<|bI 5 aa (ak i2) A<|aH 6 aa (fun _ _=>dR ((i2 - 1:Nat):Int) aa aa<|bl ab ab) A<|aH 7 aa (fun _ _=>bc ca aa aa ab<|aO.ok (tJ I)<|CC ab) A<|aH 8 aa (fun w' M=>ld dd aa<|Wk.aR M<|CB (j:=i2 - 1) (tJ I) ab) A<|aH 9 aa (fun _ _=>cO aa aa) A<|hn aj<|am<|cd aa (fun aY=> ?_) fun aY=> ?_
 have ai:=a6 I A
 have g1:=xP O (show k≤i+i2 by omega)
 have g2:=xP O (show k≤i+(i2 - 1) by omega)
 have a2:¬d[i+i2 - 1]! =d[i+i2]! :=by rw [show i+i2 - 1=i+(i2 - 1) by omega,← g1,← g2]; omega
 exact ag fun aG=>au (.slice a n cp)<|au (ak k)<|au (.slice (gv a cp i 1) (n - i)<|cp - i)<|au (ak i2)<|p (bc ca aa aa ab<|aO.ok (tJ ai)<|CC ab)<|p (ld dd aa<|CB (j:=i2) (tJ ai) ab)<|p (bc ca aa aa ab<|aO.ok ((ba ai).2)<|cy ab)<|e<|gB (u:=E[i+i2]!) (k) ai gu aa aa aa ab fun bq aS a4=>nl<|aG<|rg aa<|au (ak k)<|p (bF ((k+1:Nat):Int) aa aa<|bl ab ab)<|p aE<|nl<|bn<|ah<|rg aa<|au (ak i2)<|p (bF ((i2+1:Nat):Int) aa aa<|bl ab ab)<|p aE<|nl<|tn<|⟨_,ab,k+1,i2+1,E.setIfInBounds k E[i+i2]!,ab,(by rw [set_drop ab]; have h3:=congrArg (List.drop 1) O; rwa [ss,ss] at h3),(by rw [Dw ab,Z,show i+(i2+1)=i+i2+1 from aa,xM ab ab,if_neg a2,g1]),a4,(Md.trans ap<|Md.trans (A.mono fun _ _ h=>h.elim) aS),aa,aa,aa,aa,aa⟩
 have g1:=xP O (show k≤i+i2 by omega)
 have g2:=xP O (show k≤i+(i2 - 1) by omega)
 have a0:d[i+i2 - 1]! =d[i+i2]! :=by rw [show i+i2 - 1=i+(i2 - 1) by omega,← g1,← g2]; omega
 exact aQ<|bn<|ah<|rg aa<|au (ak i2)<|p (bF ((i2+1:Nat):Int) aa aa<|bl ab ab)<|p aE<|nl<|tn<|⟨_,ab,k,i2+1,E,ab,O,(by rw [Z,show i+(i2+1)=i+i2+1 from aa,xM ab ab,if_pos a0]),(a6 I (Md.refl _ _).drew),ap.drew,aa,aa,aa,aa,aa⟩
 refine ext<|bf<|bf<|be<|aA<|ag fun ah=>au (.slice a n cp)<|au (ak k)<|p (vO ca aa aa ab)<|e<|Rp (k:=k) oT Z3 aa I aa aa ab fun bs aT a5=>nl<|ah<|ag fun am=>au (.slice a n cp)<|au (ak k)<|p (vN ca aa aa ab)<|ay<|am<|rt<|br<|tr<|tr<|br<|tr<|aX aa ?_
 have al:d.toList.take (i+i2)=d.toList:=eU<|by rw [tL]; omega
 rw [al] at Z
 have a1:k=(iG d.toList).length:=by rw [← Z,dQ,tL]; omega
 refine ⟨k,aa,a1,?_,Md.trans ap aT⟩
 have av:=Kt a5 (show k≤n by omega)<|WL G ab
 rw [pd,List.take_append,eU (l:=(LE bj E).take k) (by rw [dQ]; omega),dQ,vo,show k - min k E.size=0 by omega,ow,ei,YU,Z] at av
 exact av
 have a3:¬d[i - 1]! =d[i]! :=ab
 exact aQ<|bn<|ao<|rg aa<|au (ak i)<|p (ad aa aa<|bY ab)<|p aE<|nl<|tn<|⟨_,ab,i+1,ab,(by rw [xM ab ab,if_neg a3,Y,zg ab]),(Md.trans J (Md.refl _ _).drew),aa,aa,aa⟩
 refine ext<|bf<|bf<|be<|an<|ag fun ao=>au (.slice a n cp)<|p (cU (.slice a n cp) aa)<|nl<|ao<|rt<|aX aa ?_
 rw [show d.toList.take i=d.toList from eU (by rw [tL]; omega)] at Y
 exact ⟨n,aa,by rw [Y,tL]; omega,by rw [Y]; exact a6 G J,J.mono fun _ _ h=>h.elim⟩
theorem vz (l:List Nat) (a:Option Addr) (c:Nat) (w:World) (O:aO w.heap a (l.map bj)) (ai:a=none→l.length=0) (aj:l.length≤255):
 bp aw 205 (bh [.slice a l.length c]) w (fun v w'=>bw w' w.heap.size 51 1 v (kj l).length ((kj l).map bj)∧Wk w w'):=by
 refine enter func205 aa ntmps205 aa<|ag fun G=>ay<|G<|ag fun I=>au (.slice a l.length c)<|e<|cl rD (sX a l.length c (l.map bj) _ O (by simp) ai (sP l) ab) aa fun v5 ao ac=> ?_
 obtain ⟨A,U⟩:=ac
 obtain ⟨i,q,rfl⟩:=cE A
 rw [VZ] at A
 refine ay<|I<|ag fun J=>au (.slice i l.length q)<|e<|cl PZ (Yn l.toArray w.heap.size l.length q i _ A aj) aa fun an ap ae=> ?_
 obtain ⟨d1,rfl,ak,al,C,Y⟩:=ae
 refine nl<|J<|ag fun M=>au (.slice i l.length q)<|e<|cl P0 (RJ d1 w.heap.size l.length q i _ C ab) aa fun v9 am ah=> ?_
 obtain ⟨k,rfl,hk,E,Z⟩:=ah
 have V:Wk w am:=Wk.own (Wk.own U A Y<|cD _) C Z<|cD _
 refine ay<|M<|rt<|aX aa ?_
 rw [Ym ak al] at hk E
 exact ⟨by rw [← hk]; exact E,V⟩
theorem Dy (b:UInt8) (w:World):
 bp aw 266 (bh [.int .u8 b.toNat]) w (fun v w'=>v= .bool (ji b)∧Wk w w'):=by
 refine enter func266 aa ntmps266 aa<|ag fun i=>ay<|i<|ag fun a=>au (.int .u8 b.toNat)<|p (gt aa aa)<|p mv<|gs (t:=5) aa (fun C=> ?_) fun C=> ?_
 refine aM aa (aV (.int .u8 b.toNat) aa)<|aM aa (lt aa aa)<|p (bC aa)<|p mv<|gs (t:=9) aa (fun E=> ?_) fun E=> ?_
 refine aM aa (aV (.int .u8 b.toNat) aa)<|aM aa (cO aa aa)<|p (bC aa)<|p mv<|gs (t:=13) aa (fun q=> ?_) fun q=> ?_
 refine aM aa (aV (.int .u8 b.toNat) aa)<|aM aa (cO aa aa)<|p (bC aa)<|p mv<|gs (t:=17) aa (fun A=> ?_) fun A=> ?_
 exact aM aa (aV (.int .u8 b.toNat) aa)<|aM aa (cO aa aa)<|p (bC aa)<|ay<|a<|rt<|aX aa<|⟨by show bU (decide _)=_; rw [oS]; exact bv (by constructor <;> intro h <;> first | exact ⟨ab,ab,ab,ab,h⟩ | exact h.2.2.2.2),Md.refl _ _⟩
 exact aI aa<|aI aa<|p (bu aa)<|ay<|a<|rt<|aX aa<|⟨by show bU false =_; rw [oS,decide_eq_false ab],Md.refl _ _⟩
 exact aI aa<|aI aa<|p (bu aa)<|p mv<|aI aa<|aI aa<|p (bu aa)<|p aE<|nl<|a<|rt<|aX aa<|⟨by show bU false =_; rw [oS,decide_eq_false ab],Md.refl _ _⟩
 exact aI aa<|aI aa<|p (bu aa)<|p mv<|aI aa<|aI aa<|p (bu aa)<|p mv<|aI aa<|aI aa<|p (bu aa)<|ay<|a<|rt<|aX aa<|⟨by show bU false =_; rw [oS,decide_eq_false ab],Md.refl _ _⟩
 exact aI aa<|aI aa<|p (bu aa)<|p mv<|aI aa<|aI aa<|p (bu aa)<|p mv<|aI aa<|aI aa<|p (bu aa)<|p mv<|aI aa<|aI aa<|p (bu aa)<|p aE<|nl<|a<|rt<|aX aa<|⟨by show bU false =_; rw [oS,decide_eq_false ab],Md.refl _ _⟩
theorem Jo (k:Nat) (w:World):
 bp aw 242 (bh [ak k]) w (fun v w'=>v= .bool (decide (1≤k∧k≤3))∧Wk w w'):=by
 refine enter func242 aa ntmps242 aa<|ag fun i=>ay<|i<|ag fun a=>au (ak k)<|p (ge aa aa)<|p mv<|gs (t:=5) aa (fun q=> ?_) fun q=> ?_
 exact aM aa (aV (ak k) aa)<|aM aa (le aa aa)<|p (bC aa)<|ay<|a<|rt<|aX aa<|⟨by show bU (decide _)=_; exact bv ab,Md.refl _ _⟩
 exact aI aa<|aI aa<|p (bu aa)<|ay<|a<|rt<|aX aa<|⟨by show bU false =_; rw [decide_eq_false ab],Md.refl _ _⟩
end Go.Hb.iw
section
namespace Go.Hb
open Go.Hb.iw
theorem HW {kind:Nat} {s:List UInt8} (h:kind=1∧s.length=1∧ji (s.getD 0 0)=true):eK kind s=(s.getD 0 0).toNat:=by unfold eK; rw [if_pos h.1,if_pos h.2]
theorem HX {kind:Nat} {s:List UInt8} (h:kind=2∧s.length=2∧ji (s.getD 0 0)=true∧ji (s.getD 1 0)=true):eK kind s=256 *(s.getD 0 0).toNat+(s.getD 1 0).toNat:=by unfold eK; rw [if_neg ab,if_pos h.1,if_pos h.2]
theorem BJ {kind:Nat} {s:List UInt8} (h:kind=3):eK kind s=(ee s 65535).1:=by unfold eK; rw [if_neg ab,if_neg ab]
theorem tc {kind:Nat} {s:List UInt8} (h:kind=1∨kind=2) (h1:¬(kind=1∧s.length=1∧ji (s.getD 0 0)=true)) (h2:¬(kind=2∧s.length=2∧ji (s.getD 0 0)=true∧ji (s.getD 1 0)=true)):eK kind s=0:=by
 unfold eK
 rcases h with h | h
 · rw [if_pos h,if_neg (fun h3=>h1 ⟨h,h3⟩)]
 · rw [if_neg ab,if_pos h,if_neg (fun h3=>h2 ⟨h,h3⟩)]
theorem Vk {c:UInt8} {l:List UInt8} (h:0 < l.count c):¬fj c l < 0:=by
 intro h1
 exact Jh h1<|wU.2<|zP.1 h
theorem Xn (n:Nat) (x:List UInt8):kp n (str x)=(kp n x).map str:=by rw [List.map_replicate]
theorem Li {a:List (List UInt8)} {m:Nat} {x:List UInt8} (h:0 < m):((a++kp m []).map str).set a.length (str x)=((a++ [x])++kp (m - 1) []).map str:=by
 obtain ⟨m,rfl⟩:∃ k,m=k+1:=⟨m - 1,ab⟩
 rw [← List.map_set,List.set_append_right _ _ (cD _),Nat.sub_self,List.replicate_succ,List.set_cons_zero,Nat.add_sub_cancel,dH]; rfl
theorem Bz {kind:Nat} {ps:List (List UInt8)} {i:Nat} (h:i < ps.length) (h1:¬∃ x∈ps.take i,eK kind x=0) (h2:eK kind (ps.getD i [])≠0):¬∃ x∈ps.take (i+1),eK kind x=0:=by
 rw [fK ps i [] h]
 rintro ⟨x,a,h3⟩
 rcases jF.1 a with a | a
 · exact h1 ⟨x,a,h3⟩
 · rw [j5] at a; subst a; exact h2 h3
theorem yw {α:Type} {l:List α} {i:Nat} {d:α} (h:i < l.length):l.getD i d∈l:=by
 rw [da,cI h]; exact List.getElem_mem h
theorem HY (kind:Nat) (s:List UInt8) (w:World) (hk:kind=1∨kind=2∨kind=3) (hs:s.length≤1048576):
 bp aw 244 (bh [ak kind,str s]) w (fun v w'=>v=bj (eK kind s)∧Wk w w'):=by
 refine enter func244 aa ntmps244 aa<|ag fun ai=>ay<|ai<|aB fun al=>aJ ?_
 refine ep (fun E ah=> ∃ (J:Bool),(J=decide (kind=1∧s.length=1∧ji (s.getD 0 0)=true))∧(Wk w ah)∧(E 0=ak kind)∧(E 1=str s)∧(E 7= .bool J)) ?_ ?_
 refine rg aa<|au (ak kind)<|p (bK aa aa)<|p mv<|gs (t:=10) aa (fun aC=> ?_) fun aC=> ?_
 refine aM aa (aV (str s) aa)<|aM aa (cz u9 aa aa)<|aM aa (bK aa aa)<|p (bC aa)<|p mv<|gs (t:=15) aa (fun aD=> ?_) fun aD=> ?_
 refine aM aa (aV (str s) aa)<|aM aa (je 0 u9 aa aa ab)<|eg aa aa aa<|cl AQ (Dy (s.getD 0 0) _) aa fun aT aZ aq=> ?_
 obtain ⟨rfl,an⟩:=aq
 exact p (bC aa)<|p aE<|nl<|tn<|⟨ji (s.getD 0 0),(by rw [ua,decide_eq_true_iff]; exact ⟨fun h=>⟨ab,ab,h⟩,fun h=>h.2.2⟩),an,aa,aa,aa⟩
 exact aI aa<|aI aa<|aI aa<|p (bu aa)<|p aE<|nl<|tn<|⟨false,((decide_eq_false fun h=>by omega).symm),(Md.refl _ _),aa,aa,aa⟩
 exact aI aa<|aI aa<|aI aa<|p (bu aa)<|p mv<|aI aa<|aI aa<|aI aa<|p (bu aa)<|p aE<|nl<|tn<|⟨false,((decide_eq_false fun h=>by omega).symm),(Md.refl _ _),aa,aa,aa⟩
 rintro E ah ⟨J,ac,i,aK,aL,aN⟩
 refine fx 0 aK<|fx 1 aL<|fx 7 aN<|cb aa (fun U=> ?_) fun U=> ?_
 have V:kind=1∧s.length=1∧ji (s.getD 0 0)=true :=of_decide_eq_true<|ac ▸ U
 exact ag fun q=>au (str s)<|p (je 0 u9 aa aa ab)<|p (lM zl pY aa<|tU<|by have :=iX (s.getD 0 0); omega)<|ay<|q<|rt<|br<|tr<|aX aa<|⟨by rw [HW V]; rfl,i⟩
 have V:¬(kind=1∧s.length=1∧ji (s.getD 0 0)=true):=of_decide_eq_false<|ac ▸ U
 refine ep (fun G A=> ∃ (M:Bool),(M=decide (kind=2∧s.length=2∧ji (s.getD 0 0)=true∧ji (s.getD 1 0)=true))∧(Wk w A)∧(G 0=ak kind)∧(G 1=str s)∧(G 23= .bool M)) ?_ ?_
 refine rg aa<|au (ak kind)<|p (bK aa aa)<|p mv<|gs (t:=26) aa (fun aF=> ?_) fun aF=> ?_
 refine aM aa (aV (str s) aa)<|aM aa (cz u9 aa aa)<|aM aa (bK aa aa)<|p (bC aa)<|p mv<|gs (t:=31) aa (fun aG=> ?_) fun aG=> ?_
 refine aM aa (aV (str s) aa)<|aM aa (je 0 u9 aa aa ab)<|eg aa aa aa<|cl AQ (Dy (s.getD 0 0) _) aa fun aU a0 ar=> ?_
 obtain ⟨rfl,Z⟩:=ar
 refine p (bC aa)<|p mv<|gb (t:=36) aa (fun C=> ?_) fun C=> ?_
 refine aM aa (aV (str s) aa)<|aM aa (je 1 u9 aa aa ab)<|eg aa aa aa<|cl AQ (Dy (s.getD 1 0) _) aa fun aW a1 av=> ?_
 obtain ⟨rfl,ao⟩:=av
 exact p (bC aa)<|p aE<|nl<|tn<|⟨ji (s.getD 1 0),(by rw [ua,decide_eq_true_iff]; exact ⟨fun h=>⟨ab,ab,C,h⟩,fun h=>h.2.2.2⟩),(Md.trans i<|Md.trans Z ao),aa,aa,aa⟩
 exact aI aa<|aI aa<|aI aa<|p (bu aa)<|p aE<|nl<|tn<|⟨false,((decide_eq_false fun h=>by rw [h.2.2.1] at C; cases C).symm),(Md.trans i Z),aa,aa,aa⟩
 exact aI aa<|aI aa<|aI aa<|p (bu aa)<|p mv<|aI aa<|aI aa<|aI aa<|p (bu aa)<|p aE<|nl<|tn<|⟨false,((decide_eq_false fun h=>by omega).symm),i,aa,aa,aa⟩
 exact aI aa<|aI aa<|aI aa<|p (bu aa)<|p mv<|aI aa<|aI aa<|aI aa<|p (bu aa)<|p mv<|aI aa<|aI aa<|aI aa<|p (bu aa)<|p aE<|nl<|tn<|⟨false,((decide_eq_false fun h=>by omega).symm),i,aa,aa,aa⟩
 rintro G A ⟨M,ae,i,aO,aP,aR⟩
 refine fx 0 aO<|fx 1 aP<|fx 23 aR<|cb aa (fun O=> ?_) fun O=> ?_
 have Y:kind=2∧s.length=2∧ji (s.getD 0 0)=true∧ji (s.getD 1 0)=true :=of_decide_eq_true<|ae ▸ O
 have g0:=iX<|s.getD 0 0
 have g1:=iX<|s.getD 1 0
 refine aB fun q=> ?_
 have a:(fun w'=>Wk A w') A.drew:=(Md.refl _ _).drew
 exact bN (fun w'=>Wk A w') aa wide a<|bI 0 aa (str s) a<|aH 1 aa (fun _ _=>je 0 u9 aa aa ab) a<|aH 2 aa (fun _ _=>lM zl pY aa<|tU ab) a<|aH 3 aa (fun _ _=>shl aa aa az<|X6 g0) a<|bI 4 aa (str s) a<|aH 5 aa (fun _ _=>je 1 u9 aa aa ab) a<|aH 6 aa (fun _ _=>lM zl pY aa<|tU ab) a<|aH 7 aa (fun _ _=>Fu aa aa<|WI g0 g1) a<|aH 8 aa (fun _ _=>aE) a<|hn aj<|q<|rt<|br<|tr<|aX aa<|⟨by rw [HX Y]; rfl,i.drew⟩
 have Y:¬(kind=2∧s.length=2∧ji (s.getD 0 0)=true∧ji (s.getD 1 0)=true):=of_decide_eq_false<|ae ▸ O
 refine ag fun q=>au (ak kind)<|p (bK aa aa)<|ay<|q<|cd aa (fun aA=> ?_) fun aA=> ?_
 refine ag fun I=>au (str s)<|e<|cl xy (yO s 65535 _ hs az) aa fun aY a2 ax=> ?_
 obtain ⟨rfl,ap⟩:=ax
 have aS:=Ki s
 exact p mv<|p (xt aa aa)<|p (xt aa aa)<|p aE<|ay<|I<|aB fun am=>rg aa<|p mv<|p (lM zl qW aa<|tU ab)<|ay<|am<|rt<|br<|tr<|aX aa<|⟨by rw [BJ ab]; rfl,Md.trans i ap⟩
 exact aQ<|bn<|al<|ag fun I=>ay<|I<|rt<|aX aa<|⟨by rw [tc ab V Y]; rfl,i⟩
theorem WD (kind:Nat) (s:List UInt8) (w:World) (hk:kind=1∨kind=2∨kind=3) (hs:s.length≤1048576):
 bp aw 239 (bh [ak kind,str s]) w (fun v w'=>v= .tuple #[bj (gP kind s).1,ak ((gP kind s).2)]∧Wk w w'):=by
 refine enter func239 aa ntmps239 aa<|ag fun A=>p aE<|ay<|A<|aB fun C=>aB fun E=>rg aa<|au (ak kind)<|e<|cl Gb (Jo kind _) aa fun V Z O=> ?_
 obtain ⟨rfl,q⟩:=O
 refine p (no aa)<|nl<|E<|cf (by rw [decide_eq_true ab]; rfl)<|aQ<|C<|ag fun G=>au (ak kind)<|au (str s)<|e<|cl Gc (HY kind s _ hk hs) aa fun v12 Y M=> ?_
 obtain ⟨rfl,i⟩:=M
 refine ay<|G<|aB fun I=>ag fun J=>p mv<|p (bK aa aa)<|nl<|J<|cd aa (fun U=> ?_) fun U=> ?_
 exact ag fun a=>p aE<|ay<|a<|rt<|tr<|f2 aa aa aa<|⟨by unfold gP; rw [if_pos (show eK kind s=0 by omega)]; rfl,Md.trans q i⟩
 exact aQ<|I<|ag fun a=>p mv<|p aE<|p aE<|nl<|a<|rt<|f2 aa aa aa<|⟨by unfold gP; rw [if_neg (show ¬eK kind s=0 by omega)]; rfl,Md.trans q i⟩
theorem RQ (s:List UInt8) (c:UInt8) (w:World):
 bp aw 297 (bh [str s,str [c]]) w (fun v w'=>v=ak (s.count c)∧Wk w w'):=by
 refine enter func297 aa ntmps297 aa<|ag fun a=>ay<|a<|aB fun i=>ag fun q=>au (str [c])<|p (cz u9 aa aa)<|p (bK aa aa)<|nl<|q<|cd aa (fun h=>absurd h<|by simp) fun I=>aQ<|i<|aB fun E=>ag fun A=>au (str [c])<|p (cz u9 aa aa)<|p (bK aa aa)<|nl<|A<|cd aa (fun G=> ?_) fun h=>absurd aa h
 exact ag fun C=>au (str s)<|au (str [c])<|p (je 0 u9 aa aa<|by simp)<|p (GJ (RH s c _) aa)<|p aE<|nl<|C<|rt<|tr<|aX aa<|⟨aa,Md.refl _ _⟩
theorem T4 (s:List UInt8) (w:World) (hs:s.length≤1048576):
 bp aw 279 (bh [str s,str [44],.int .i64 0,.int .i64 (-1)]) w (fun v w'=>bw w' w.heap.size 9 1 (v) (fJ 44 [] s).length ((fJ 44 [] s).map str)∧Wk w w'):=by
 have bd:=ui (a:=(44:UInt8)) (l:=s)
 have a3:=DE 44 s []
 refine enter func279 aa ntmps279 aa<|ag fun ah=>ay<|ah<|aB fun ar=>ag fun av=>au (.int .i64<|-1)<|p (bK aa aa)<|nl<|av<|cd aa (fun h=>absurd h az) fun a8=>aQ<|ar<|aB fun ax=>ag fun aA=>au (str [44])<|p (dZ aa aa)<|nl<|aA<|cd aa (fun h=>absurd h<|by simp) fun a9=> ?_
 refine aQ<|ax<|aB fun aC=>ag fun aD=>au (.int .i64<|-1)<|p (lt aa aa)<|nl<|aD<|cd aa (fun bb=> ?_) fun h=>absurd az h
 refine rg aa<|au (str s)<|au (str [44])<|e<|cl Qm (RQ s 44 _) aa fun bk bo aN=> ?_
 obtain ⟨rfl,Y⟩:=aN
 refine p (bF ((s.count 44 +1:Nat):Int) aa aa<|bl ab ab)<|ay<|aC<|ag fun aF=>p mv<|au (str s)<|p (cz u9 aa aa)<|p (bF ((s.length+1:Nat):Int) aa aa<|bl ab ab)<|p (mn aa aa)<|ay<|aF<|ag fun aG=>p mv<|e<|Wd (n:=s.count 44 +1) (zv:=str []) fQ ZY aa (show jk .i64 (min ((s.count 44 +1:Nat):Int) ((s.length+1:Nat):Int))=_ from iv ab) (show jk .i64 (min ((s.count 44 +1:Nat):Int) ((s.length+1:Nat):Int))=_ from iv ab) ab (by unfold maxLen; omega) fun E bq a7 aM aU=> ?_
 have Z:=aU w.heap.size<|by have :=Y.size; omega
 rw [Xn] at Z
 refine ay<|aG<|ag fun ai=>p mv<|p (dR ((s.count 44:Nat):Int) aa aa<|bl ab ab)<|p aE<|nl<|ai<|ag fun aj=>ay<|aj<|aB fun al=>aJ<|lp (fun U q O=> ∃ (i:Nat) (A:List (List UInt8)) (r:List UInt8),(A.length=i)∧(r.count 44 +i=s.count 44∧r.length≤s.length)∧(A++fJ 44 [] r=fJ 44 [] s)∧(bw O w.heap.size 9 1 (.slice (some ⟨E,0,none⟩) (s.count 44 +1)<|s.count 44 +1) (s.count 44 +1)<|(A++kp (s.count 44 +1 - i) []).map str)∧(Wk w O)∧(q 0=str r)∧(q 1=str [44])∧(q 2= .int .i64 0)∧(q 3=ak (s.count 44))∧(q 9= .slice (some ⟨E,0,none⟩) (s.count 44 +1) (s.count 44 +1))∧(q 10=ak i)∧(r.length=U)) _ ⟨0,[],s,aa,(ab),aa,Z,(Md.trans Y aM.md),aa,aa,aa,aa,aa,aa,aa⟩ ?_
 rintro U q O ⟨i,A,r,hi,bi,hd,C,V,aW,aY,a0,a1,a2,aZ,rfl⟩
 refine fx 0 aW<|fx 1 aY<|fx 2 a0<|fx 3 a1<|fx 9 a2<|fx 10 aZ ?_
 have bj:=ui (a:=(44:UInt8)) (l:=r)
 refine aB fun am=>ag fun an=>au (ak i)<|au (ak<|s.count 44)<|p (lt aa aa)<|nl<|an<|cd aa (fun aR=> ?_) fun aR=> ?_
 refine aQ<|am<|aJ<|ag fun I=>au (str r)<|au (str [44])<|e<|cl Qn (U7 r 44 _) aa fun bm br aP=> ?_
 obtain ⟨rfl,G⟩:=aP
 refine ay<|I<|aB fun J=>ag fun ao=>p mv<|p (lt aa aa)<|nl<|ao<|cd aa (fun h=>absurd h<|Vk ab) fun aS=>aQ<|J<|aB fun ap=> ?_
 have ac:=rM (c:=(44:UInt8)) (l:=r) aS
 have bg:[(44:UInt8)].length=1:=rfl
 refine rg aa<|au (.slice (some ⟨E,0,none⟩) (s.count 44 +1)<|s.count 44 +1)<|au (ak i)<|au (str r)<|p mv<|au (.int .i64 0)<|p (bF ((r.idxOf 44:Nat):Int) aa aa<|bl ab ab)<|p (r5 u9 aa aa ab)<|p (bc cR aa aa ab<|aO.ok ((ba<|a6 C G).2)<|bT<|by rw [bM,ot]; omega)<|e<|tI (j:=i) (u:=str<|r.take<|r.idxOf 44) (a6 C G) kS aa aa aa ab ab fun a4 aK ae=> ?_
 have aH:Wk w a4:=Wk.own (Md.trans V G) (a6 C G) aK<|cD _
 rw [← hi,Li ab,hi] at ae
 exact nl<|ap<|ag fun aq=>au (str r)<|p mv<|au (str [44])<|p (cz u9 aa aa)<|p (bF ((r.idxOf 44 +1:Nat):Int) aa aa<|bl ab ab)<|p (mh u9 aa aa ab)<|ay<|aq<|rg aa<|au (ak i)<|p (bF ((i+1:Nat):Int) aa aa<|bl ab ab)<|p aE<|nl<|bn<|tn<|⟨_,by rw [fT]; omega,i+1,A++ [r.take (r.idxOf 44)],r.drop (r.idxOf 44 +1),(by rw [bM,hi]; rfl),(by have :=R8 ac.2; rw [fT]; omega),(by rw [dH,← hd,Lw 44 r [] ac.2]; rfl),(by rw [show s.count 44 +1 - (i+1)=s.count 44 +1 - i - 1 by omega]; exact ae),aH,aa,aa,aa,aa,aa,aa,aa⟩
 refine ext<|bf<|bf<|be<|al<|ag fun I=>au (.slice (some ⟨E,0,none⟩) (s.count 44 +1)<|s.count 44 +1)<|au (ak i)<|au (str r)<|p (bc cR aa aa ab<|aO.ok ((ba C).2)<|bT<|by rw [bM,ot]; omega)<|e<|tI (j:=i) (u:=str r) C kS aa aa aa ab ab fun a5 aL M=> ?_
 have aI:Wk w a5:=Wk.own V C aL<|cD _
 rw [← hi,Li ab,hi] at M
 refine nl<|I<|ag fun J=>au (.slice (some ⟨E,0,none⟩) (s.count 44 +1)<|s.count 44 +1)<|au (ak i)<|p (bF ((i+1:Nat):Int) aa aa<|bl ab ab)<|p (vN cR aa aa ab)<|ay<|J<|rt<|aX aa ?_
 have aV:¬(44:UInt8)∈r:=fun h=>by have :=zP.2 h; omega
 have aT:A++ [r]=fJ 44 [] s:=by rw [← hd,Yt 44 r [] aV]; rfl
 rw [show s.count 44 +1 - i - 1=0 by omega,List.replicate_zero,ei,aT] at M
 exact ⟨by rw [a3,show s.count 44 +1=i+1 by omega] at*; exact M,aI⟩
theorem YI (s:List UInt8) (w:World) (hs:s.length≤1048576):
 bp aw 265 (bh [str s,str [44]]) w (fun v w'=>bw w' w.heap.size 9 1 (v) (fJ 44 [] s).length ((fJ 44 [] s).map str)∧Wk w w'):=by
 exact enter func265 aa ntmps265 aa<|ag fun a=>ay<|a<|ag fun i=>au (str s)<|au (str [44])<|e<|cl Qa (T4 s _ hs) aa fun A C q=>ay<|i<|rt<|aX aa<|q
theorem W5 (kind:Nat) (s:List UInt8) (w:World) (hk:kind=1∨kind=2∨kind=3) (hs:s.length≤1048576):
 bp aw 243 (bh [ak kind,str s]) w (fun v w'=>bw w' w.heap.size 9 1 (v) (dM kind s).length ((dM kind s).map str)∧Wk w w'):=by
 refine enter func243 aa ntmps243 aa<|ag fun Y=>ay<|Y<|aB fun Z=>ag fun ac=>au (ak kind)<|p (bK aa aa)<|nl<|ac<|cd aa (fun ar=> ?_) fun ar=> ?_
 refine ag fun C=>au (str s)<|e<|cl P6 (YI s _ hs) aa fun v10 aN ao=>ay<|C<|rt<|tr<|aX aa ?_
 unfold dM; rw [if_pos ab]; exact ao
 refine aQ<|Z<|ag fun C=>ay<|C<|aB fun ae=>ag fun ah=>ay<|ah<|aJ<|lp (fun M A J=> ∃ (i:Nat) (a:List (List UInt8)) (q:Value),(i≤s.length+kind∧a.length≤i)∧(a++chunks kind (s.drop i)=chunks kind s)∧(bw J w.heap.size 9 1 (q) (a).length<|(a).map str)∧(Wk w J)∧(A 0=ak kind)∧(A 1=str s)∧(A 5=q)∧(A 6=ak i)∧(s.length - i=M)) _ ⟨0,[],.slice none 0 0,(by simp),aa,(dC _ _ _ _),(Md.refl _ _),aa,aa,aa,aa,aa⟩ ?_
 rintro M A J ⟨i,a,q,hi,hd,I,O,aA,aC,aD,aF,rfl⟩
 refine fx 0 aA<|fx 1 aC<|fx 5 aD<|fx 6 aF<|aB fun ai=>ag fun aj=>au (ak i)<|au (str s)<|p (cz u9 aa aa)<|p (lt aa aa)<|nl<|aj<|cd aa (fun aq=> ?_) fun aq=> ?_
 have ax:s.drop i≠[]:=fun h=>by have :=congrArg jD h; rw [fT,fU] at this; omega
 refine aQ<|ai<|aB fun E=>aJ<|rg aa<|au (q)<|au (str s)<|au (ak i)<|au (ak i)<|au (ak kind)<|p (bF ((i+kind:Nat):Int) aa aa<|bl ab ab)<|au (str s)<|p (cz u9 aa aa)<|p (mn aa aa)<|p (mg u9 aa aa aa ab)<|e<|fZ fQ aa aa fun aI aH aK G al=> ?_
 have U:Wk w aH:=Md.trans O G.md
 refine e<|ap fQ (a6 I G.md) aa (by have :=U.size; omega) aa (aO.ec al) (aa) (aa) ab ab fun aG aP V an aM aL=> ?_
 have am:=Wk.own U (a6 I G.md) an<|cD _
 rw [Q4] at V
 have az:=mJ V
 exact p aE<|nl<|bn<|E<|rg aa<|au (ak i)<|au (ak kind)<|p (bF ((i+kind:Nat):Int) aa aa<|bl ab ab)<|p aE<|nl<|tn<|⟨_,ab,i+kind,a++ [(s.drop i).take kind],aG,(by rw [bM,e9]; omega),(by rw [← hd,xC (k:=kind) ab ax,dH,ss]; rfl),az,am,aa,aa,aa,aa,aa⟩
 refine ext<|bf<|bf<|be<|ae<|ag fun E=>au (q)<|p (cU (q) aa)<|nl<|E<|rt<|aX aa ?_
 have av:a=dM kind s:=by unfold dM; rw [if_neg ab,← hd,gV ab,xD,ei]
 exact ⟨by rw [← av]; exact I,O⟩
theorem Iy (kind:Nat) (s:List UInt8) (w:World) (hk:kind=1∨kind=2∨kind=3) (hs:s.length≤1048576):
 bp aw 200 (bh [ak kind,str s]) w (fun v w'=>(∃ a,v= .tuple #[a,ak ((ed kind s).2)]∧bw w' w.heap.size 51 1 a (ed kind s).1.length ((ed kind s).1.map bj))∧Wk w w'):=by
 refine enter func200 aa ntmps200 aa<|ag fun aA=>p aE<|ay<|aA<|aB fun aH=>aB fun aI=>rg aa<|au (ak kind)<|e<|cl Gb (Jo kind _) aa fun v11 bC aY=> ?_
 obtain ⟨rfl,ao⟩:=aY
 refine p (no aa)<|nl<|aI<|cf (by rw [decide_eq_true ab]; rfl)<|aQ<|aH<|aB fun aK=>aB fun aL=>rg aa<|au (str s)<|p (dZ aa aa)<|nl<|aL<|cd aa (fun E=> ?_) fun E=> ?_
 exact ag fun ah=>p aE<|ay<|ah<|rt<|tr<|f2 aa aa aa<|⟨⟨.slice none 0 0,by unfold ed; rw [if_pos E]; rfl,by unfold ed; rw [if_pos E]; exact dC _ _ _ _⟩,ao⟩
 refine aQ<|aK<|ag fun ah=>ay<|ah<|aB fun aM=>ag fun aN=>au (ak kind)<|au (str s)<|e<|cl PX (W5 kind s _ hk hs) aa fun bA M aZ=> ?_
 obtain ⟨av,aU⟩:=aZ
 obtain ⟨aR,aS,rfl⟩:=cE av
 have ar:=(ba av).2
 have bx:=Kz (kind:=kind) (s:=s) ab
 have V:Wk w M:=Md.trans ao aU
 refine p (bJ eZ aa aa)<|p mv<|nl<|aN<|aJ<|lp (fun an C am=> ∃ (i:Nat) (U:Value),(i≤(dM kind s).length)∧(¬∃ x∈(dM kind s).take i,eK kind x=0)∧(bw am M.heap.size 51 1 U (((dM kind s).take i).map<|eK kind).length<|(((dM kind s).take i).map<|eK kind).map bj)∧(Wk M am)∧(C 0=ak kind)∧(C 1=str s)∧(C 6=U)∧(C 17= .slice aR (dM kind s).length aS)∧(C 18=ak ((dM kind s).length))∧(C 19=ak i)∧((dM kind s).length - i=an)) _ ⟨0,.slice none 0 0,ab,(by rintro ⟨x,bm,_⟩; simp at bm),(dC _ _ _ _),(Md.refl _ _),aa,aa,aa,aa,aa,aa,aa⟩ ?_
 rintro an C am ⟨i,U,hi,I,J,A,a9,bb,bk,bd,bg,bi,rfl⟩
 refine fx 0 a9<|fx 1 bb<|fx 6 bk<|fx 17 bd<|fx 18 bg<|fx 19 bi ?_
 have bv:(((dM kind s).take i).map<|eK kind).length≤i:=by rw [fM,dQ]; omega
 refine ag fun aP=>p (lt aa aa)<|nl<|aP<|aB fun aC=>cd aa (fun a3=> ?_) fun a3=> ?_
 refine aQ<|aC<|aB fun ac=>aJ<|ag fun ae=>p (bc cR aa aa ab<|aO.ok (ar.wk A)<|bT ab)<|p (ld bV aa<|cj.get (i:=i) (ar.wk A) ab)<|ay<|ae<|ag fun G=>au (ak kind)<|p mv<|e<|cl Gc (HY kind ((dM kind s).getD i []) _ hk<|by have :=KA (kind:=kind) ab (yw (d:= []) (show i < (dM kind s).length by omega)); omega) aa fun bB bD a0=> ?_
 obtain ⟨rfl,Y⟩:=a0
 refine ay<|G<|aB fun aD=>ag fun aF=>p mv<|p (bK aa aa)<|nl<|aF<|cd aa (fun a4=> ?_) fun a4=> ?_
 refine ag fun aG=>p aE<|ay<|aG<|rt<|tr<|br<|tr<|tr<|br<|tr<|f2 aa aa aa ?_
 have q:ed kind s=([],31):=by unfold ed; rw [if_neg E,if_pos ⟨_,yw (d:= []) (show i < (dM kind s).length by omega),ab⟩]
 exact ⟨⟨.slice none 0 0,by rw [q]; rfl,by rw [q]; exact dC _ _ _ _⟩,Md.trans V<|Md.trans A Y⟩
 refine aQ<|aD<|rg aa<|au (U)<|p mv<|e<|fZ zb aa aa fun bs bo bt aj aT=> ?_
 have aq:Wk M bo:=Md.trans (Md.trans A Y) aj.md
 refine e<|ap zb (a6 (a6 J Y) aj.md) aa (by have :=aq.size; omega) aa (aO.ec aT) (aa) (aa) ab ab fun v31 bq a7 aX bz bu=> ?_
 have aV:=Wk.own aq (a6 (a6 J Y) aj.md) aX<|cD _
 have a8:bw bq M.heap.size 51 1 v31 (((dM kind s).take<|i+1).map<|eK kind).length ((((dM kind s).take<|i+1).map<|eK kind).map bj):=by
  rw [fK _ i [] ab,ir,bM,ir]; exact a7
 exact p aE<|nl<|bn<|ac<|rg aa<|p (ad aa aa<|bY ab)<|p mv<|nl<|tn<|⟨_,ab,i+1,v31,ab,(Bz ab I ab),a8,aV,aa,aa,aa,aa,aa,aa,aa⟩
 refine ext<|bf<|bf<|be<|aM<|aB fun ac=>aB fun ae=> ?_
 obtain ⟨O,ai,rfl⟩:=cE J
 have bl:(((dM kind s).take i).map<|eK kind).length=(dM kind s).length:=by rw [fM,dQ]; omega
 have Z:(dM kind s).take i=(dM kind s):=eU ab
 have a5:O=none→(((dM kind s).take i).map<|eK kind).length=0:=fun h=>by obtain ⟨a2,c2,az,_,_,h3⟩:=Rd.jP J; simp only [mT] at az; exact h3<|az.1 ▸ h
 refine rg aa<|au (.slice O (((dM kind s).take i).map<|eK kind).length ai)<|p (bJ oT aa aa)<|p (gt aa aa)<|nl<|ae<|cd aa (fun al=> ?_) fun al=> ?_
 refine ag fun G=>p aE<|ay<|G<|rt<|tr<|f2 aa aa aa ?_
 rw [Z] at I bl
 have q:ed kind s=([],32):=by unfold ed; rw [if_neg E,if_neg I,if_pos (by rw [Z,fM] at al; omega)]
 exact ⟨⟨.slice none 0 0,by rw [q]; rfl,by rw [q]; exact dC _ _ _ _⟩,Md.trans V A⟩
 refine aQ<|ac<|ag fun G=>au (.slice O (((dM kind s).take i).map<|eK kind).length ai)<|e<|cl F7 (vz (((dM kind s).take i).map<|eK kind) O ai _ (ba J).2 a5<|by rw [fM,dQ] at*; omega) aa fun v37 bE a1=> ?_
 obtain ⟨ax,aW⟩:=a1
 refine p aE<|ay<|G<|rt<|f2 aa aa aa ?_
 rw [Z] at I ax
 have q:ed kind s=(kj ((dM kind s).map<|eK kind),0):=by unfold ed; rw [if_neg E,if_neg I,if_neg (by rw [Z,fM] at al; omega)]
 exact ⟨⟨v37,by rw [q]; rfl,by rw [q]; exact eE ax<|by have :=V.size; have :=A.size; omega⟩,Md.trans V<|Md.trans A aW⟩
end Go.Hb
end
namespace Go.Hb.j8
theorem Ww {b:UInt8} (h:¬(b.toNat:Int)=10):b≠10:=by rintro rfl; exact h rfl
theorem Vh {b:UInt8} (h:(b.toNat:Int)=10):b=10:=k6.1 (by have :(10:UInt8).toNat=10:=rfl; omega)
theorem Vi {b:UInt8} (h:(b.toNat:Int)=13):b=13:=k6.1 (by have :(13:UInt8).toNat=13:=rfl; omega)
theorem Wx {b:UInt8} (h:¬(b.toNat:Int)=13):b≠13:=by rintro rfl; exact h rfl
theorem Ce (b:UInt8) (w:World):
 bp aw 191 (bh [.int .u8 b.toNat]) w (fun v w'=>v= .bool (ni b)∧Wk w w'):=by
 refine enter func191 aa ntmps191 aa<|ag fun i=>ay<|i<|ag fun a=>au (.int .u8 b.toNat)<|p (bK aa aa)<|p mv<|gs (t:=5) aa (fun q=> ?_) fun q=> ?_
 exact aI aa<|aI aa<|p (bC aa)<|ay<|a<|rt<|aX aa<|⟨by show bU true =_; rw [qC,decide_eq_true (.inl ab)],Md.refl _ _⟩
 exact aM aa (aV (.int .u8 b.toNat) aa)<|aM aa (bK aa aa)<|p (bu aa)<|ay<|a<|rt<|aX aa<|⟨by show bU (decide ((b.toNat:Int)=9))=_; rw [qC]; exact congrArg bU (decide_eq_decide.2 ab),Md.refl _ _⟩
theorem Tq (l:List UInt8) (w:World) (bo:l.length≤1048576):
 bp aw 127 (bh [str l]) w (fun v w'=>bw w' w.heap.size 9 1 v (cQ [] l).length ((cQ [] l).map str)∧Wk w w'):=by
 refine enter func127 aa ntmps127 aa<|ag fun aA=>ay<|aA<|ag fun aC=>p aE<|nl<|aC<|ag fun aD=>ay<|aD<|aB fun aF=>ag fun aG=>au (str l)<|p (cz u9 aa aa)<|p mv<|nl<|aG<|aJ<|lp (fun ax M ar=> ∃ (i:Nat) (a:Int) (O:List UInt8) (q:List (List UInt8)) (v:Value),(i≤l.length)∧(k8 l i a O)∧(q++cQ O (l.drop i)=(cQ [] l))∧(Wk w ar)∧(bw ar w.heap.size 9 1 v (q).length<|(q).map str)∧(M 0=str l)∧(M 3=v)∧(M 4= .int .i64 a)∧(M 7= .int .i64 l.length)∧(M 8= .int .i64 i)∧(l.length - i=ax)) _ ⟨0,-1,[],[],.slice none 0 0,ab,k8.no,aa,(Md.refl _ _),(dC _ _ _ _),aa,aa,aa,aa,aa,aa⟩ ?_
 rintro ax M ar ⟨i,a,O,q,v,hi,I,hd,Y,ai,a5,a7,a8,a9,ba,rfl⟩
 refine fx 0 a5<|fx 3 a7<|fx 4 a8<|fx 7 a9<|fx 8 ba ?_
 have bk:q.length≤l.length+1:=by have h1:=congrArg jD hd; have h2:=uT l []; rw [bM] at h1; omega
 refine ag fun aK=>p (lt aa aa)<|nl<|aK<|aB fun aL=>cd aa (fun a0=> ?_) fun a0=> ?_
 refine aQ<|aL<|aB fun A=>aJ<|ag fun al=>au (.int .i64 i)<|p (cU (.int .i64 i) aa)<|nl<|al<|aJ<|ag fun J=>au (str l)<|au (.int .i64 i)<|p (eX u9 aa aa ab)<|e<|cl AF (Ce (l.getD i 0) _) aa fun bt bc aW=> ?_
 obtain ⟨rfl,az⟩:=aW
 have Z:Wk w bc:=Md.trans Y az
 have bq:=Z.size
 have aj:=a6 ai az
 refine p mv<|gb (t:=16) aa (fun E=> ?_) fun E=> ?_
 refine aM aa (aV (.int .i64 a) aa)<|aM aa (ge aa aa)<|p (bC aa)<|ay<|J<|cd aa (fun aY=> ?_) fun aY=> ?_
 obtain ⟨aH,V,aq⟩:=I.pos ab
 refine ag fun G=>au (v)<|au (str l)<|au (.int .i64 a)<|au (.int .i64 i)<|p (mg u9 aa aa aa ab)<|e<|fZ fQ aa aa fun bd bv bi ae aN=>e<|ap fQ (a6 aj ae.md) aa (by have :=ae.size; omega) aa (aO.ec aN) (aa) (aa) ab ab fun bb bx a1 aT br bl=> ?_
 have aR:=Wk.own (Md.trans Z ae.md) (a6 aj ae.md) aT<|cD _
 have a2:=mJ a1
 exact ay<|G<|rg aa<|p aE<|nl<|bn<|bn<|A<|rg aa<|p (ad aa aa<|bY ab)<|p mv<|nl<|tn<|⟨_,ab,i+1,-1,[],q++ [(l.take i).drop a.toNat],bb,ab,k8.no,(by rw [drop_cons 0 ab,H8 E aq,V] at hd; rw [dH]; exact hd),aR,a2,aa,aa,aa,aa,aa,aa⟩
 refine ag fun G=>au (str l)<|au (.int .i64 i)<|p (eX u9 aa aa ab)<|e<|cl AF (Ce (l.getD i 0) _) aa fun v31 av am=> ?_
 obtain ⟨rfl,U⟩:=am
 have ac:Wk w av:=Md.trans Z U
 have ak:=a6 aj U
 refine p (no aa)<|p mv<|gb (t:=33) aa (fun C=> ?_) fun C=> ?_
 refine aM aa (aV (.int .i64 a) aa)<|aM aa (lt aa aa)<|p (bC aa)<|ay<|G<|cd aa (fun an=> ?_) fun an=> ?_
 refine rg aa<|au (.int .i64 i)<|p (cU (.int .i64 i) aa)<|nl<|bn<|bn<|A<|rg aa<|p (ad aa aa<|bY ab)<|p mv<|nl<|tn ?_
 rw [E] at C; cases C
 refine aQ<|bn<|bn<|A<|rg aa<|p (ad aa aa<|bY ab)<|p mv<|nl<|tn ?_
 rw [E] at C; cases C
 exact aI aa<|aI aa<|p (bu aa)<|ay<|G<|cf aa<|aQ<|bn<|bn<|A<|rg aa<|p (ad aa aa<|bY ab)<|p mv<|nl<|tn<|⟨_,ab,i+1,a,O,q,v,ab,(by obtain ⟨h1,h2⟩:=I.neg ab; subst h1 h2; exact k8.no),(by obtain ⟨h1,h2⟩:=I.neg ab; subst h2; rw [drop_cons 0 ab,x9 E] at hd; exact hd),ac,ak,aa,aa,aa,aa,aa,aa⟩
 refine aI aa<|aI aa<|p (bu aa)<|ay<|J<|cf aa<|aB fun G=>rg aa<|au (str l)<|au (.int .i64 i)<|p (eX u9 aa aa ab)<|e<|cl AF (Ce (l.getD i 0) _) aa fun v31 av am=> ?_
 obtain ⟨rfl,U⟩:=am
 have ac:Wk w av:=Md.trans Z U
 have ak:=a6 aj U
 refine p (no aa)<|p mv<|gb (t:=33) aa (fun C=> ?_) fun C=> ?_
 refine aM aa (aV (.int .i64 a) aa)<|aM aa (lt aa aa)<|p (bC aa)<|ay<|G<|cd aa (fun an=> ?_) fun an=> ?_
 exact rg aa<|au (.int .i64 i)<|p (cU (.int .i64 i) aa)<|nl<|bn<|bn<|A<|rg aa<|p (ad aa aa<|bY ab)<|p mv<|nl<|tn<|⟨_,ab,i+1,i,[l.getD i 0],q,v,ab,(k8.begin ab),(by obtain ⟨h1,h2⟩:=I.neg ab; subst h2; rw [drop_cons 0 ab,BO E] at hd; exact hd),ac,ak,aa,aa,aa,aa,aa,aa⟩
 exact aQ<|bn<|bn<|A<|rg aa<|p (ad aa aa<|bY ab)<|p mv<|nl<|tn<|⟨_,ab,i+1,a,O++ [l.getD i 0],q,v,ab,(I.more ab ab),(by rw [drop_cons 0 ab,BO E] at hd; exact hd),ac,ak,aa,aa,aa,aa,aa,aa⟩
 refine aI aa<|aI aa<|p (bu aa)<|ay<|G<|cf aa<|aQ<|bn<|bn<|A<|rg aa<|p (ad aa aa<|bY ab)<|p mv<|nl<|tn ?_
 rw [E] at C; cases C
 refine ext<|bf<|bf<|be<|aF<|aB fun A=>ag fun al=>au (.int .i64 a)<|p (ge aa aa)<|nl<|al<|cd aa (fun aZ=> ?_) fun aZ=> ?_
 obtain ⟨aH,V,aq⟩:=I.pos ab
 refine rg aa<|au (v)<|au (str l)<|au (.int .i64 a)<|p (mh u9 aa aa ab)<|e<|fZ fQ aa aa fun bg bz bj ah aP=>e<|ap fQ (a6 ai ah.md) aa (by have :=ah.size; have :=Y.size; omega) aa (aO.ec aP) (aa) (aa) ab ab fun v46 bA a3 aU bs bm=> ?_
 have aS:=Wk.own (Md.trans Y ah.md) (a6 ai ah.md) aU<|cD _
 have a4:=mJ a3
 refine ay<|A<|ag fun J=>p mv<|p aE<|nl<|J<|rt<|aX aa ?_
 have ao:q++ [l.drop a.toNat]=(cQ [] l):=by rw [← hd,show l.drop i= [] from gV ab,H9 aq,V,eU ab]
 exact ⟨by rw [← ao]; exact a4,aS⟩
 obtain ⟨aH,V⟩:=I.neg ab
 refine aQ<|A<|ag fun J=>au (v)<|p (cU (v) aa)<|nl<|J<|rt<|aX aa ?_
 have ao:q=(cQ [] l):=by rw [← hd,gV ab,V,BQ,ei]
 exact ⟨by rw [← ao]; exact ai,Y⟩
theorem Xv (l:List UInt8) (w:World) (bb:l.length≤1048576):
 bp aw 170 (bh [str l]) w (fun v w'=>bw w' w.heap.size 9 1 v (cQ [] l).length ((cQ [] l).map str)∧Wk w w'):=by
 refine enter func170 aa ntmps170 aa<|ag fun aG=>ay<|aG<|ag fun aK=>p aE<|nl<|aK<|ag fun aL=>ay<|aL<|aB fun aN=>aJ<|lp (fun M al ak=> ∃ (i:Nat) (q:List (List UInt8)) (v:Value),(i≤l.length)∧(q++cQ [] (l.drop i)=(cQ [] l))∧(Wk w ak)∧(bw ak w.heap.size 9 1 v (q).length<|(q).map str)∧(al 0=str l)∧(al 3=v)∧(al 4= .int .i64 i)∧(l.length - i=M)) _ ⟨0,[],.slice none 0 0,ab,aa,(Md.refl _ _),(dC _ _ _ _),aa,aa,aa,aa⟩ ?_
 rintro M al ak ⟨i,q,v,hi,hd,C,E,a1,a2,a3,rfl⟩
 refine fx 0 a1<|fx 3 a2<|fx 4 a3 ?_
 have a9:q.length≤l.length+1:=by have h1:=congrArg jD hd; have h2:=uT l []; rw [bM] at h1; omega
 refine aB fun aP=>ag fun aR=>au (.int .i64 i)<|au (str l)<|p (cz u9 aa aa)<|p (lt aa aa)<|nl<|aR<|cd aa (fun aW=> ?_) fun aW=> ?_
 refine aQ<|aP<|aJ<|aB fun ao=>ag fun ar=>au (str l)<|au (.int .i64 i)<|p (eX u9 aa aa ab)<|p (bK aa aa)<|p mv<|gs (t:=14) aa (fun aY=> ?_) fun aY=> ?_
 exact aI aa<|aI aa<|aI aa<|aI aa<|p (bC aa)<|nl<|ar<|ct aa<|ag fun J=>au (.int .i64 i)<|p (ad aa aa<|bY ab)<|ay<|J<|ext<|bf<|be<|tn<|⟨_,ab,i+1,q,v,ab,(by rw [drop_cons 0 ab,x9 (by rw [qC]; exact decide_eq_true<|.inl ab)] at hd; exact hd),C,E,aa,aa,aa,aa⟩
 refine aM aa (aV (str l) aa)<|aM aa (aV (.int .i64 i) aa)<|aM aa (eX u9 aa aa ab)<|aM aa (bK aa aa)<|p (bu aa)<|nl<|ar<|cd aa (fun aT=> ?_) fun aT=> ?_
 exact ag fun J=>au (.int .i64 i)<|p (ad aa aa<|bY ab)<|ay<|J<|ext<|bf<|be<|tn<|⟨_,ab,i+1,q,v,ab,(by rw [drop_cons 0 ab,x9 (by rw [qC]; exact decide_eq_true<|.inr ab)] at hd; exact hd),C,E,aa,aa,aa,aa⟩
 have aq:ni (l.getD i 0)=false :=by rw [qC]; exact decide_eq_false ab
 refine aQ<|ao<|ag fun J=>au (.int .i64 i)<|p (cU (.int .i64 i) aa)<|nl<|J<|aB fun am=>aJ<|lp (fun M aj aF=> ∃ (j:Nat),(i≤j∧j≤l.length)∧(aF=ak)∧(q++cQ ((l.take j).drop i) (l.drop j)=(cQ [] l))∧(aj 0=str l)∧(aj 3=v)∧(aj 4= .int .i64 i)∧(aj 5= .int .i64 j)∧(l.length - j=M)) _ ⟨i,ab,aa,(by rw [gV (by rw [dQ]; omega)]; exact hd),aa,aa,aa,aa,aa⟩ ?_
 rintro M aj aF ⟨j,ba,aS,A,a4,a5,a7,a8,rfl⟩
 refine fx 0 a4<|fx 3 a5<|fx 4 a7<|fx 5 a8 ?_
 subst aS
 refine aB fun aH=>ag fun an=>au (.int .i64 j)<|au (str l)<|p (cz u9 aa aa)<|p (lt aa aa)<|p mv<|gs (t:=27) aa (fun aZ=> ?_) fun aZ=> ?_
 refine aM aa (aV (str l) aa)<|aM aa (aV (.int .i64 j) aa)<|aM aa (eX u9 aa aa ab)<|aM aa (cO aa aa)<|p (bC aa)<|p mv<|gs (t:=33) aa (fun a0=> ?_) fun a0=> ?_
 refine aM aa (aV (str l) aa)<|aM aa (aV (.int .i64 j) aa)<|aM aa (eX u9 aa aa ab)<|aM aa (cO aa aa)<|p (bC aa)<|nl<|an<|cd aa (fun aU=> ?_) fun aU=> ?_
 exact aQ<|aH<|aJ<|rg aa<|au (.int .i64 j)<|p (ad aa aa<|bY ab)<|p aE<|nl<|bn<|tn<|⟨_,ab,j+1,ab,aa,(by rw [drop_cons (l:=l) (i:=j) 0 ab,BO (by rw [qC]; exact decide_eq_false ab),← vM 0 ab ab] at A; exact A),aa,aa,aa,aa,aa⟩
 have G:l.length≤j∨ni (l.getD j 0)=true := .inr<|by rw [qC]; exact decide_eq_true<|.inr ab
 have Z:¬j=i:=by
  rintro rfl
  rcases G with h | h
  omega
  rw [aq] at h; cases h
 have ac:(l.take j).drop i≠[]:=fun O=>Z<|by have h1:=congrArg jD O; simp only [fT,dQ,fU] at h1; omega
 rw [BM (i:=j) ac G] at A
 refine ext<|bf<|bf<|be<|am<|ag fun I=>au (v)<|au (str l)<|au (.int .i64 i)<|au (.int .i64 j)<|p (mg u9 aa aa aa ab)<|e<|fZ fQ aa aa fun av aC ax a U=>e<|ap fQ (a6 E a.md) aa (by have :=a.size; have :=C.size; omega) aa (aO.ec U) (aa) (aa) ab ab fun ai aD ae Y aA az=> ?_
 have V:=Wk.own (Md.trans C a.md) (a6 E a.md) Y<|cD _
 have ah:=mJ ae
 exact ay<|I<|rg aa<|au (.int .i64 j)<|p (cU (.int .i64 j) aa)<|nl<|bn<|tn<|⟨_,ab,j,q++ [(l.take j).drop i],ai,ab,(by rw [dH]; exact A),V,ah,aa,aa,aa,aa⟩
 have G:l.length≤j∨ni (l.getD j 0)=true := .inr<|by rw [qC]; exact decide_eq_true<|.inl ab
 have Z:¬j=i:=by
  rintro rfl
  rcases G with h | h
  omega
  rw [aq] at h; cases h
 have ac:(l.take j).drop i≠[]:=fun O=>Z<|by have h1:=congrArg jD O; simp only [fT,dQ,fU] at h1; omega
 rw [BM (i:=j) ac G] at A
 refine aI aa<|aI aa<|aI aa<|aI aa<|p (bu aa)<|nl<|an<|cf aa<|ext<|bf<|bf<|be<|am<|ag fun I=>au (v)<|au (str l)<|au (.int .i64 i)<|au (.int .i64 j)<|p (mg u9 aa aa aa ab)<|e<|fZ fQ aa aa fun av aC ax a U=>e<|ap fQ (a6 E a.md) aa (by have :=a.size; have :=C.size; omega) aa (aO.ec U) (aa) (aa) ab ab fun ai aD ae Y aA az=> ?_
 have V:=Wk.own (Md.trans C a.md) (a6 E a.md) Y<|cD _
 have ah:=mJ ae
 exact ay<|I<|rg aa<|au (.int .i64 j)<|p (cU (.int .i64 j) aa)<|nl<|bn<|tn<|⟨_,ab,j,q++ [(l.take j).drop i],ai,ab,(by rw [dH]; exact A),V,ah,aa,aa,aa,aa⟩
 have G:l.length≤j∨ni (l.getD j 0)=true := .inl ab
 have Z:¬j=i:=by
  rintro rfl
  rcases G with h | h
  omega
  rw [aq] at h; cases h
 have ac:(l.take j).drop i≠[]:=fun O=>Z<|by have h1:=congrArg jD O; simp only [fT,dQ,fU] at h1; omega
 rw [BM (i:=j) ac G] at A
 refine aI aa<|aI aa<|aI aa<|aI aa<|p (bu aa)<|p mv<|aI aa<|aI aa<|aI aa<|aI aa<|p (bu aa)<|nl<|an<|cf aa<|ext<|bf<|bf<|be<|am<|ag fun I=>au (v)<|au (str l)<|au (.int .i64 i)<|au (.int .i64 j)<|p (mg u9 aa aa aa ab)<|e<|fZ fQ aa aa fun av aC ax a U=>e<|ap fQ (a6 E a.md) aa (by have :=a.size; have :=C.size; omega) aa (aO.ec U) (aa) (aa) ab ab fun ai aD ae Y aA az=> ?_
 have V:=Wk.own (Md.trans C a.md) (a6 E a.md) Y<|cD _
 have ah:=mJ ae
 exact ay<|I<|rg aa<|au (.int .i64 j)<|p (cU (.int .i64 j) aa)<|nl<|bn<|tn<|⟨_,ab,j,q++ [(l.take j).drop i],ai,ab,(by rw [dH]; exact A),V,ah,aa,aa,aa,aa⟩
 refine ext<|bf<|bf<|be<|aN<|ag fun ao=>au (v)<|p (cU (v) aa)<|nl<|ao<|rt<|aX aa ?_
 have A:q=(cQ [] l):=by rw [← hd,gV ab,BQ,ei]
 exact ⟨by rw [← A]; exact E,C⟩
theorem CK (s:List UInt8) (w:World):
 bp aw 171 (bh [str s]) w (fun v w'=>v= .bool (tA s)∧Wk w w'):=by
 refine enter func171 aa ntmps171 aa<|ag fun i=>ay<|i<|ag fun a=>au (str s)<|p (cz u9 aa aa)<|p (ge aa aa)<|p mv<|gs (t:=6) aa (fun C=> ?_) fun C=> ?_
 refine aM aa (aV (str s) aa)<|aM aa (je 0 u9 aa aa ab)<|aM aa (bK aa aa)<|p (bC aa)<|p mv<|gs (t:=11) aa (fun q=> ?_) fun q=> ?_
 refine aM aa (aV (str s) aa)<|aM aa (je 1 u9 aa aa ab)<|aM aa (bK aa aa)<|p (bC aa)<|p mv<|gs (t:=16) aa (fun A=> ?_) fun A=> ?_
 exact aM aa (aV (str s) aa)<|aM aa (je 2 u9 aa aa ab)<|aM aa (bK aa aa)<|p (bC aa)<|ay<|a<|rt<|aX aa<|⟨by show bU (decide (((s.getD 2 0).toNat:Int)=191))=_; rw [yI]; exact congrArg bU (decide_eq_decide.2 ab),Md.refl _ _⟩
 exact aI aa<|aI aa<|aI aa<|p (bu aa)<|ay<|a<|rt<|aX aa<|⟨by show bU false =_; rw [yI,decide_eq_false ab],Md.refl _ _⟩
 exact aI aa<|aI aa<|aI aa<|p (bu aa)<|p mv<|aI aa<|aI aa<|aI aa<|p (bu aa)<|ay<|a<|rt<|aX aa<|⟨by show bU false =_; rw [yI,decide_eq_false ab],Md.refl _ _⟩
 exact aI aa<|aI aa<|aI aa<|p (bu aa)<|p mv<|aI aa<|aI aa<|aI aa<|p (bu aa)<|p mv<|aI aa<|aI aa<|aI aa<|p (bu aa)<|p aE<|nl<|a<|rt<|aX aa<|⟨by show bU false =_; rw [yI,decide_eq_false ab],Md.refl _ _⟩
theorem Hn (l:List UInt8) (a:Option Addr) (c:Nat) (w:World) (q:aO w.heap a (U8 l)) (O:l.length≤1048576) (M:l.length≤c):
 bp aw 172 (bh [.slice a l.length c]) w (fun v w'=>v=str (jM l)∧Wk w w'):=by
 refine enter func172 aa ntmps172 aa<|ag fun E=>ay<|E<|ag fun G=>au (.slice a l.length c)<|p (bJ mS aa aa)<|ay<|G<|aB fun A=>ag fun C=>p mv<|p (gt aa aa)<|p mv<|gs (t:=8) aa (fun J=> ?_) fun J=> ?_
 refine aM aa (aV (.slice a l.length c) aa)<|aM aa mv<|aM aa (sb aa aa<|bY ab)<|aM aa (bc l6 aa aa ab<|aO.ok (q)<|pX ab)<|aM aa (ld pB aa<|(show _=some (jk .u8 (l.getD (l.length - 1) 0).toNat) from by rw [show ((l.length:Int) - 1).toNat=l.length - 1 from by omega]; exact pW q ab))<|aM aa (bK aa aa)<|p (bC aa)<|nl<|C<|cd aa (fun I=> ?_) fun I=> ?_
 exact ag fun i=>au (.slice a l.length c)<|p mv<|p (sb aa aa<|bY ab)<|p (vN l6 aa aa ab)<|p (na m8 aa (Zd q ((l.length:Int) - 1).toNat)<|by rw [dQ]; omega)<|p aE<|nl<|i<|rt<|tr<|aX aa<|⟨by show str (l.take ((l.length:Int) - 1).toNat)=_; rw [Hm ab (Vi ab),show ((l.length:Int) - 1).toNat=l.length - 1 from by omega],Md.refl _ _⟩
 exact aQ<|A<|ag fun i=>au (.slice a l.length c)<|p (na m8 aa (q)<|aa)<|p aE<|nl<|i<|rt<|aX aa<|⟨by show str l=_; rw [Bt (fun h=>Wx ab h.2)],Md.refl _ _⟩
 refine aI aa<|aI aa<|aI aa<|aI aa<|aI aa<|aI aa<|p (bu aa)<|nl<|C<|cf aa<|aQ<|A<|ag fun i=>au (.slice a l.length c)<|p (na m8 aa (q)<|aa) ?_
 exact ay<|i<|rt<|aX aa<|⟨by show str l=_; rw [Bt ab],Md.refl _ _⟩
end Go.Hb.j8
section
namespace Go.Hb
open Go.Hb.iw Go.Hb.j8
theorem UY {l:List Tx} {x:Tx} :∀ {i:Nat},i < l.length→(∀ j,j < i→l.getD j []≠x)→l.getD i []=x→l.idxOf x=i:=by
 induction l with
 | nil=>intro i h; simp at h
 | cons a l E=>
   intro i hi C q
   cases i with
   | zero=>simp only [lT] at q; rw [q,List.idxOf_cons_self]
   | succ i=>
     have A:=C 0 ab
     simp only [lT] at A
     rw [List.idxOf_cons,show (a==x)=false from by simpa using A,cond_false,E (i:=i) (by simpa using hi) (fun j G=>by have :=C (j+1) ab; simpa using this) (by simpa using q)]
theorem Td {a b:List Tx} (h:a.length≠b.length):a≠b:=fun h2=>h<|by rw [h2]
theorem T8 {a b:List Tx} {i:Nat} (h:a.getD i []≠b.getD i []):a≠b:=fun h2=>h<|by rw [h2]
theorem T6 {a b:List Tx} (q:a.length=b.length) (h:∀ i,i < a.length→a.getD i []=b.getD i []):a=b:=by
 apply List.ext_getElem q
 intro i h1 h2
 have :=h i h1
 rw [da,da,cI h1,cI h2] at this
 exact this
theorem YT {s:Tx} {i:Nat} (h:i < s.length):(s.drop i).take 1= [s.getD i 0]:=by
 rw [drop_cons 0 h]; rfl
theorem Mg (b:UInt8):pZ [b]=iT b:=by
 unfold pZ gy
 cases h:iT b <;> simp [h]
theorem Lm {s:Tx} {i:Nat} (h:i < s.length):(s.take<|i+1).drop i= [s.getD i 0]:=by
 rw [su,show i+1 - i=1 from by omega,YT h]
theorem x3 {s:Tx} (h:s= []∨gy s=false):gI s=21:=if_pos h
theorem HO {s:Tx} (h:s≠[]) (h1:gy s=true) (h2:32 < s.length):gI s=22:=by unfold gI; rw [if_neg (by rw [h1]; simp [h]),if_pos h2]
theorem HP {s:Tx} (h:s≠[]) (h1:gy s=true) (h2:¬32 < s.length):gI s=0:=by unfold gI; rw [if_neg (by rw [h1]; simp [h]),if_neg h2]
theorem Kx {s:Tx} (h:s= [48]):eF true s= .ok []:=by unfold eF; rw [if_pos ⟨rfl,h⟩]
theorem Da {s:Tx} (h:s≠[48]):eF true s=eF false s:=by unfold eF; simp [h]
theorem C6 {s:Tx} (h:(bD s).2.2.2≠0):eF false s= .error (bD s).2.2.2:=by unfold eF; rw [if_neg (fun h2=>by cases h2.1),if_pos h]
theorem C7 {s:Tx} (h:(bD s).2.2.2=0) (h1:(bD s).2.2.1=true):eF false s= .error 114:=by unfold eF; rw [if_neg (fun h2=>by cases h2.1),if_neg (fun h2=>h2 h),if_pos h1]
theorem C8 {s:Tx} (h:(bD s).2.2.2=0) (h1:(bD s).2.2.1=false) (h2:gI (bD s).1≠0):eF false s= .error (gI (bD s).1):=by unfold eF; rw [if_neg (fun h2=>by cases h2.1),if_neg (fun h2=>h2 h),if_neg (by rw [h1]; simp),if_pos h2]
theorem C9 {s:Tx} (h:(bD s).2.2.2=0) (h1:(bD s).2.2.1=false) (h2:gI (bD s).1=0):eF false s= .ok (bD s).1:=by unfold eF; rw [if_neg (fun h2=>by cases h2.1),if_neg (fun h2=>h2 h),if_neg (by rw [h1]; simp),if_neg (fun h3=>h3 h2)]
theorem n8 {s:Tx} {most:Int} (h:(ee s most).2=0):e5 s most= .ok (ee s most).1:=by unfold e5; rw [if_neg (fun h2=>h2 h)]
theorem pQ {s:Tx} {most:Int} (h:(ee s most).2≠0):e5 s most= .error 13∧(ee s most).2=13:=by
 refine ⟨by unfold e5; rw [if_pos h],?_⟩
 rcases Kj s most with h1 | ⟨h1,_⟩
 · rw [h1]
 · rw [h1] at h; exact absurd rfl h
theorem Jd (l:List Tx) (a:Option Addr) (c:Nat) (x:Tx) (w:World) (I:cj w.heap a l) (aq:l.length≤1048576):
 bp aw 192 (bh [.slice a l.length c,str x]) w (fun v w'=>v= .int .i64 (if x∈l then (l.idxOf x:Nat) else -1:Int)∧w'=w):=by
 refine enter func192 aa ntmps192 aa<|ag fun O=>ay<|O<|aB fun U=>ag fun V=>au (.slice a l.length c)<|p (bJ eZ aa aa)<|p mv<|nl<|V<|aJ<|lp (fun G q M=> ∃ (i:Nat),(i≤l.length)∧(∀ j,j < i→l.getD j []≠x)∧(M=w)∧(q 0= .slice a l.length c)∧(q 1=str x)∧(q 7=ak (l.length))∧(q 8=ak i)∧(l.length - i=G)) _ ⟨0,ab,(fun j J=>by omega),aa,aa,aa,aa,aa,aa⟩ ?_
 rintro G q M ⟨i,hi,E,ai,al,am,an,ao,rfl⟩
 refine fx 0 al<|fx 1 am<|fx 7 an<|fx 8 ao ?_
 subst ai
 refine ag fun Y=>p (lt aa aa)<|nl<|Y<|aB fun Z=>cd aa (fun aj=> ?_) fun aj=> ?_
 refine aQ<|Z<|aB fun C=>aJ<|ag fun ac=>au (ak i)<|p (cU (ak i) aa)<|nl<|ac<|ag fun ae=>au (str x)<|au (.slice a l.length c)<|au (ak i)<|p (bc cR aa aa ab<|aO.ok (I)<|bT ab)<|p (ld bV aa<|cj.get (i:=i) I ab)<|p (dZ aa aa)<|nl<|ae<|cd aa (fun A=> ?_) fun A=> ?_
 exact ag fun ah=>au (ak i)<|p (cU (ak i) aa)<|nl<|ah<|rt<|br<|tr<|tr<|br<|tr<|aX aa<|⟨by rw [if_pos (by rw [A]; exact dY ab),UY ab E A.symm]; rfl,aa⟩
 exact aQ<|bn<|C<|rg aa<|p (ad aa aa<|bY ab)<|p mv<|nl<|tn<|⟨_,ab,i+1,ab,(fun j J=>by rcases fu j i with h | h <;> first | exact E j h | (rw [show j=i by omega]; exact fun h2=>A h2.symm)),aa,aa,aa,aa,aa,aa⟩
 exact ext<|bf<|bf<|be<|U<|ag fun C=>p aE<|nl<|C<|rt<|aX aa<|⟨by rw [if_neg (fun h=>by obtain ⟨j,J,ap⟩:=nZ [] h; exact E j ab ap)]; rfl,aa⟩
theorem Te (l m:List Tx) (A E:Nat) (a b:Option Addr) (c d:Nat) (w:World) (Y:cj w.heap a l) (Z:cj w.heap b m) (aI:l.length=A) (aK:m.length=E) (aG:A≤1048576):
 bp aw 240 (bh [.slice a A c,.slice b E d]) w (fun v w'=>v= .bool (decide (l=m))∧Wk w w'):=by
 refine enter func240 aa ntmps240 aa<|ag fun ah=>ay<|ah<|aB fun am=>ag fun an=>au (.slice a A c)<|p (bJ eZ aa aa)<|au (.slice b E d)<|p (bJ eZ aa aa)<|p (cO aa aa)<|nl<|an<|cd aa (fun av=> ?_) fun av=> ?_
 exact ag fun J=>ay<|J<|rt<|tr<|aX aa<|⟨by show bU false =_; rw [decide_eq_false (Td ab)],Md.refl _ _⟩
 have az:l.length=m.length:=ab
 refine aQ<|am<|aB fun J=>ag fun ao=>au (.slice a A c)<|p (bJ eZ aa aa)<|p mv<|nl<|ao<|aJ<|lp (fun V I G=> ∃ (i:Nat),(i≤A)∧(∀ j,j < i→l.getD j []=m.getD j [])∧(Wk w G)∧(I 0= .slice a A c)∧(I 1= .slice b E d)∧(I 12=ak A)∧(I 13=ak i)∧(A - i=V)) _ ⟨0,ab,(fun j ac=>by omega),(Md.refl _ _),aa,aa,aa,aa,aa⟩ ?_
 rintro V I G ⟨i,hi,ae,C,aA,aC,aD,aF,rfl⟩
 refine fx 0 aA<|fx 1 aC<|fx 12 aD<|fx 13 aF<|ag fun ap=>p (lt aa aa)<|nl<|ap<|aB fun aq=>cd aa (fun ax=> ?_) fun ax=> ?_
 refine aQ<|aq<|aB fun M=>aJ<|ag fun ar=>au (ak i)<|p (cU (ak i) aa)<|nl<|ar<|aB fun ai=> ?_
 have q:(fun w'=>Wk G w') G.drew:=(Md.refl _ _).drew
 refine bN (fun w'=>Wk G w') aa wide q<|bI 0 aa (.slice a A c) q<|bI 1 aa (ak i) q<|aH 2 aa (fun _ _=>bc cR aa aa ab<|aO.ok (Y.wk C)<|bT ab) q<|aH 3 aa (fun w' O=>ld bV aa<|Wk.aR O<|cj.get (i:=i) (Y.wk C) ab) q<|bI 4 aa (.slice b E d) q<|bI 5 aa (ak i) q<|aH 6 aa (fun _ _=>bc cR aa aa ab<|aO.ok (Z.wk C)<|bT ab) q<|aH 7 aa (fun w' O=>ld bV aa<|Wk.aR O<|cj.get (i:=i) (Z.wk C) ab) q<|aH 8 aa (fun _ _=>oQ aa aa) q<|hn aj<|ai<|cd aa (fun U=> ?_) fun U=> ?_
 exact ag fun al=>ay<|al<|rt<|br<|tr<|tr<|br<|tr<|aX aa<|⟨by show bU false =_; rw [decide_eq_false (T8 U)],C.drew⟩
 exact aQ<|bn<|M<|rg aa<|p (ad aa aa<|bY ab)<|p mv<|nl<|tn<|⟨_,ab,i+1,ab,(fun j ac=>by rcases fu j i with h | h <;> first | exact ae j h | (rw [show j=i by omega]; exact jr.1 U)),C.drew,aa,aa,aa,aa,aa⟩
 exact ext<|bf<|bf<|be<|J<|ag fun M=>p aE<|nl<|M<|rt<|aX aa<|⟨by show bU true =_; rw [decide_eq_true (T6 az fun j ac=>ae j ab)],C⟩
theorem oP (rb ln:Nat) (e:Int) (w:World) (q:Hb.aR w.heap rb 2=some (.int .i64 (ln:Nat))):
 fF aw 136 (bh [.pointer (some ⟨rb,0,none⟩),.int .i64 e]) w (fun v w'=>v=gD #[]∧e=0∧w'=w) (fun c w'=>c=jn 47 ln e∧e≠0∧w'=w):=by
 refine ke func136 aa ntmps136 aa<|sq fun A a=>rg aa<|p (aV (.int .i64 e) aa)<|p (cO aa aa)<|nl<|tn<|a _ _<|cd aa (fun i=> ?_) fun i=> ?_
 exact rg aa<|p (aV (.pointer<|some ⟨rb,0,none⟩) aa)<|p (nc aa)<|p (fa u6 aa)<|p (ld bz aa<|q)<|p (aV (.int .i64 e) aa)<|p (c8 (ps:= [(0,.int .i64 1),(1,.int .i64 (ln:Nat)),(2,.int .i64 e)]) (L:= [.int .i64 1,.int .i64 (ln:Nat),.int .i64 e]) tH aa<|aa)<|p (Wc CN aa)<|W7 aa fun E C=>⟨aa,ab,aa⟩
 refine aQ<|jO<|f0 aa ?_
 exact ⟨aa,ab,aa⟩
theorem iM (rb ln:Nat) (b:Bool) (e:Int) (w:World) (C:Hb.aR w.heap rb 2=some (.int .i64 (ln:Nat))) (he:e≠0):
 fF aw 85 (bh [.pointer (some ⟨rb,0,none⟩),.bool b,.int .i64 e]) w (fun v w'=>v=gD #[]∧b=true∧w'=w) (fun c w'=>c=jn 47 ln e∧b=false∧w'=w):=by
 refine ke func85 aa ntmps85 aa<|sq fun E q=>rg aa<|p (aV (.bool b) aa)<|p (no aa)<|nl<|tn<|q _ _<|cb aa (fun a=> ?_) fun a=> ?_
 refine rg aa<|p (aV (.pointer<|some ⟨rb,0,none⟩) aa)<|p (aV (.int .i64 e) aa)<|eP aa (dW oF (oP rb ln e w C) aa fun v10 I A=> ?_) fun c w' i J G=>⟨i.1,by simpa using a,i.2.2⟩
 exact absurd A.2.1 he
 refine aQ<|jO<|f0 aa ?_
 exact ⟨aa,by simpa using a,aa⟩
theorem LP (B:Nat) (H:dx) (F:aU) (R:gX) (n:Nat) (r:List Tx) (rest:List Rw) (ln:Nat) (seen:List Tx) (w:World) (A:dE w B H F R ((n,r)::rest) ln seen):
 bp aw 84 (bh [aT H.rb]) w (fun v w'=>(∃ R',dE w' B H F R' rest n seen)∧Tg w' B 9 r.length v (r.map str)∧Md (fun k=>k=H.rb) w w'):=by
 obtain ⟨vr,vs,vn⟩:=R
 obtain ⟨a,cp,aC⟩:=A.rws.slice
 obtain rfl :vr= .slice a (rest.length+1) cp:=aC
 obtain ⟨q,vs,rfl⟩:∃ q I,vs=q::I:=by
  cases vs with
  | nil=>exact absurd A.rt.1<|by simp
  | cons q I=>exact ⟨q,I,rfl⟩
 obtain ⟨E,aD⟩:=q
 obtain ⟨aB,Z⟩:=A.rt.2 0 (E,aD) (n,r) rfl rfl
 obtain rfl :E=n:=aB
 obtain ⟨an,ao,rfl⟩:=Z.slice
 have ac:rest.length+1≤cp∧aO w.heap a (kK ((E,.slice an r.length ao)::vs)):=A.rws.cells
 have C:=A.cells
 have aI:H.rb < w.heap.size:=(dB.1 C).1
 refine enter func84 aa ntmps84 aa<|ag fun ae=>ay<|ae<|ag fun ah=>au (aT H.rb)<|p (nc aa)<|p (fa u0 aa)<|p (ld sJ aa<|(a7 C).trans aa)<|p (bc ta aa aa ab<|aO.ok (ac.2)<|lQ<|by simp)<|p (di xn aa (aa)<|lR (i:=0) ac.2 aa)<|e<|al MF fun aG aK aH U aq=> ?_
 have aA:=U.md.aJ C
 refine e<|dj G0 aa aa aa aa (aq) (by simp) fun aM J ap=> ?_
 have Y:=J.aJ aA fun h=>by omega
 refine nl<|ah<|ag fun ai=>au (aT H.rb)<|au (aT H.rb)<|p (nc aa)<|p (fa u0 aa)<|p (ld sJ aa<|(a7 Y).trans aa)<|p (vO ta aa aa ab)<|p (nc aa)<|p (fa u0 aa)<|e<|cT GZ aa aa (v:= .slice (gv a cp 1 2) rest.length<|cp - 1) aa Y (by show _ < 7; decide) fun aL M ar=> ?_
 have V:=M.B ap fun h=>by omega
 refine nl<|ai<|ag fun aj=>au (aT H.rb)<|p (fa yf aa)<|p (ld bz aa<|(V.aR 0).trans aa)<|p (nc aa)<|p (fa u6 aa)<|e<|cT gr aa aa (v:=ak E) aa ar (by show _ < 7; decide) fun aF O av=> ?_
 have ax:=O.B V fun h=>by omega
 refine nl<|aj<|ag fun am=>p (fa u7 aa)<|p (ld jT aa<|(ax.aR 1).trans aa)<|p aE<|nl<|am<|rt<|aX aa ?_
 have G:Md (fun k=>k=H.rb) w aF:=(((U.md.mono fun _ _ h=>h.elim).trans' J fun k hk h=>by omega).trans' M fun _ _ h=>h).trans' O fun _ _ h=>h
 exact ⟨⟨⟨.slice (gv a cp 1 2) rest.length (cp - 1),vs,vn⟩,A.dD (R':=⟨.slice (gv a cp 1 2) rest.length (cp - 1),vs,vn⟩) G av aa (A.rws.pH (m:=2)<|(Lb _).trans<|by have :=A.rt.1; simp at this; simp [this])<|gZ.tl A.rt⟩,Z.md G (fz C az),G⟩
theorem Cv (B:Nat) (H:dx) (F:aU) (R:gX) (rows:List Rw) (ln:Nat) (seen:List Tx) (hd:List Tx) (ak A:Nat) (E:Option Addr) (G:Nat) (w:World) (M:dE w B H F R rows ln seen) (ap:Tg w ak 9 A (.slice E A G) (hd.map str)) (O:hd.length=A) (aX:A≤1000) (aH:∀ q∈rows,q.2.length≤70000):
 fF aw 197 (bh [.pointer (some ⟨H.rb,0,none⟩),.slice E A G]) w (fun v w'=> ∃ n r rest,rows=(n,r)::rest∧r.take hd.length=hd∧(∃ R',dE w' B H F R' rest n seen)∧Tg w' B 9 r.length v (r.map str)∧Md (fun k=>k=H.rb) w w') (fun c w'=>((rows= []∧c=jn 47 H.eof 116)∨(∃ n r rest,rows=(n,r)::rest∧r.take hd.length≠hd∧c=jn 47 n 116))∧Md (fun k=>k=H.rb) w w'):=by
 obtain ⟨a,cp,aI⟩:=M.rws.slice
 have Z:=M.cells
 have ac:=M.cells
 unfold vF at Z
 rw [aI] at Z
 refine ke func197 aa ntmps197 aa<|sq fun aN av=>rg aa<|p aE<|nl<|tn<|av _ _<|sq fun aP ax=>sq fun aS ay=>rg aa<|p (aV (.pointer<|some ⟨H.rb,0,none⟩) aa)<|p (nc aa)<|p (fa u0 aa)<|p (ld sJ aa<|(a7 Z).trans aa)<|p (bJ zi aa aa)<|p (bK aa aa)<|nl<|tn<|ay _ _<|cd aa (fun ai=> ?_) fun ai=> ?_
 obtain rfl :rows= []:=fY ab
 refine sq fun al U=>rg aa<|p (aV (.pointer<|some ⟨H.rb,0,none⟩) aa)<|p (aV (.pointer<|some ⟨H.rb,0,none⟩) aa)<|p (nc aa)<|p (fa TP aa)<|p (ld bz aa<|(a7 ac).trans aa)<|p (nc aa)<|p (fa u6 aa)<|e<|cT gr aa aa (v:= .int .i64 (H.eof:Nat)) aa ac (by show _ < 7; decide) fun aM aA ao=>nl<|tn<|U _ _<|rg aa<|p (aV (.pointer<|some ⟨H.rb,0,none⟩) aa)<|eP aa (dW oF (oP H.rb H.eof 116 aM<|(a7 ao).trans aa) aa fun v20 a1 aB=> ?_) fun c w' i aj ag=>⟨.inl ⟨aa,i.1⟩,i.2.2 ▸ aA⟩
 exact absurd aB.2.1 az
 obtain ⟨q,rest,rfl⟩:∃ q rest,rows=q::rest:=by
  cases rows with
  | nil=>exact absurd rfl ai
  | cons q rest=>exact ⟨q,rest,rfl⟩
 obtain ⟨n,r⟩:=q
 refine aQ<|tn<|ax _ _<|sq fun al U=>rg aa<|p (aV (.pointer<|some ⟨H.rb,0,none⟩) aa)<|e<|cl Gu (LP B H F R n r rest ln seen _ M) aa fun aZ aJ aC=> ?_
 obtain ⟨⟨an,J⟩,hT,I⟩:=aC
 obtain ⟨ar,cr,rfl⟩:=hT.slice
 have aF:=hT.cV
 have aY:r.length≤70000:=aH (n,r)<|by simp
 have aq:=ap.md I<|fz ac az
 have au:=aq.cV
 have aW:=J.dw
 refine p aE<|nl<|tn<|U _ _<|sq fun aT ah=>rg aa<|p (aV (.pointer<|some ⟨H.rb,0,none⟩) aa)<|p mv<|p (bJ eZ aa aa)<|p (aV (.slice E A G) aa)<|p (bJ eZ aa aa)<|p (ge aa aa)<|p mv<|gs (t:=29) aa (fun aG=> ?_) fun aG=> ?_
 refine pg aa aa aa mv<|pg aa aa aa (aV (.slice E A G) aa)<|pg aa aa aa (bJ eZ aa aa)<|pg aa aa aa (vN cR aa aa ab)<|pg aa aa aa (aV (.slice E A G) aa)<|eg aa aa aa<|cl PW (Te (r.take A) hd _ _ ar E cr G _ (by have :=aO.take aF.2 A; unfold cj; rw [EF]; exact this) au.2 (by rw [dQ]; omega) O ab) aa fun a0 aK aD=> ?_
 obtain ⟨rfl,C⟩:=aD
 refine p (bC aa)<|eP aa (dW iD (iM H.rb n _ 116 aK (by first | exact J.dw | exact Wk.aR C J.dw) az) aa fun v37 aL Y=> ?_) fun c w' i aj ag=>⟨.inr ⟨n,r,rest,aa,(by rw [O]; first | exact of_decide_eq_false i.2.1 | exact fun h=>by have :=congrArg jD h; rw [dQ] at this; omega),i.1⟩,by rw [i.2.2]; first | exact I.trans' C (fun _ _ h=>h.elim) | exact I⟩
 obtain ⟨rfl,ae,rfl⟩:=Y
 exact nl<|tn<|ah _ _<|sq fun am V=>rg aa<|p mv<|p aE<|nl<|tn<|V _ _<|rt<|jO<|f1 aa aa<|⟨n,r,rest,aa,(by rw [O]; exact of_decide_eq_true ae),⟨an,J.wk C⟩,hT.wk C,I.trans' C fun _ _ h=>h.elim⟩
 refine sk aa aa aa aa<|sk aa aa aa aa<|sk aa aa aa aa<|sk aa aa aa aa<|sk aa aa aa aa<|sk aa aa aa aa<|p (bu aa)<|eP aa (dW iD (iM H.rb n _ 116 aJ (by first | exact J.dw | exact Wk.aR C J.dw) az) aa fun v37 aL Y=> ?_) fun c w' i aj ag=>⟨.inr ⟨n,r,rest,aa,(by rw [O]; first | exact of_decide_eq_false i.2.1 | exact fun h=>by have :=congrArg jD h; rw [dQ] at this; omega),i.1⟩,by rw [i.2.2]; first | exact I.trans' C (fun _ _ h=>h.elim) | exact I⟩
 obtain ⟨rfl,ae,rfl⟩:=Y
 exact nl<|tn<|ah _ _<|sq fun am V=>rg aa<|p mv<|p aE<|nl<|tn<|V _ _<|rt<|jO<|f1 aa aa<|absurd ae az
theorem yU (rb ln:Nat) (s:Tx) (most:Int) (w:World) (M:Hb.aR w.heap rb 2=some (.int .i64 (ln:Nat))) (hs:s.length≤1048576) (hm: -9223372036854775808≤most∧most≤9223372036854775807):
 fF aw 196 (bh [.pointer (some ⟨rb,0,none⟩),str s,.int .i64 most]) w (fun v w'=> ∃ a,e5 s most= .ok a∧v= .int .i64 (a:Nat)∧Wk w w') (fun c w'=> ∃ e,e5 s most= .error e∧c=jn 47 ln e∧Wk w w'):=by
 refine ke func196 aa ntmps196 aa<|sq fun V A=>rg aa<|p aE<|nl<|tn<|A _ _<|sq fun Y C=>rg aa<|p (aV (str s) aa)<|p (aV (.int .i64 most) aa)<|e<|cl xy (yO s most _ hs hm) aa fun v12 U I=> ?_
 obtain ⟨rfl,q⟩:=I
 refine p mv<|p (xt aa aa)<|p (xt aa aa)<|p aE<|p aE<|nl<|tn<|C _ _<|sq fun Z E=>rg aa<|p (aV (.pointer<|some ⟨rb,0,none⟩) aa)<|p mv<|eP aa (dW oF (oP rb ln (ee s most).2 U<|Wk.aR q M) aa fun ae ag J=> ?_) fun c w' i ah ac=>⟨13,(pQ i.2.1).1,(by rw [i.1,(pQ i.2.1).2]; rfl),by rw [i.2.2]; exact q⟩
 obtain ⟨rfl,O,rfl⟩:=J
 exact nl<|tn<|E _ _<|sq fun ab G=>rg aa<|p mv<|p aE<|nl<|tn<|G _ _<|rt<|jO<|f1 aa aa<|⟨_,n8 O,aa,q⟩
theorem Db (rb ln:Nat) (s:Tx) (w:World) (ah:Hb.aR w.heap rb 2=some (.int .i64 (ln:Nat))) (hs:s.length≤1048576):
 fF aw 193 (bh [.pointer (some ⟨rb,0,none⟩),str s]) w (fun v w'=>v= .tuple #[]∧gy s=true∧Wk w w') (fun c w'=>c=jn 47 ln 21∧gy s=false∧Wk w w'):=by
 refine ke func193 aa ntmps193 aa<|sq fun an O=>rg aa<|p (aV (str s) aa)<|p (cz u9 aa aa)<|p mv<|nl<|tn<|O _ _<|aJ<|lp (fun E a M=> ∃ (i:Nat),(i≤s.length)∧(∀ j,j < i→iT (s.getD j 0)=true)∧(Wk w M)∧(a 0= .pointer (some ⟨rb,0,none⟩))∧(a 1=str s)∧(a 6= .int .i64 (s.length:Nat))∧(a 7= .int .i64 (i:Nat))∧(s.length - i=E)) _ ⟨0,ab,(fun j G=>by omega),(Md.refl _ _),aa,aa,aa,aa,aa⟩ ?_
 rintro E a M ⟨i,hi,I,q,ai,aj,ak,al,rfl⟩
 refine fx 0 ai<|fx 1 aj<|fx 6 ak<|fx 7 al<|sq fun ao U=>rg aa<|p (lt aa aa)<|nl<|tn<|U _ _<|sq fun ap V=>cd aa (fun ag=> ?_) fun ag=> ?_
 refine aQ<|tn<|V _ _<|sq fun aq Y=>aJ<|sq fun ar Z=>rg aa<|p (aV (.int .i64 (i:Nat)) aa)<|p (cU (.int .i64 (i:Nat)) aa)<|nl<|tn<|Z _ _<|rg aa<|p (aV (.pointer<|some ⟨rb,0,none⟩) aa)<|p (aV (str s) aa)<|p (aV (.int .i64 (i:Nat)) aa)<|p (aV (.int .i64 (i:Nat)) aa)<|p (bF ((i+1:Nat):Int) aa aa<|bl ab ab)<|p (mg u9 aa aa aa ab)<|e<|cl FM (Mi ((s.take<|i+1).drop i) _<|by rw [fT,dQ]; omega) aa fun av am ac=> ?_
 obtain ⟨rfl,A⟩:=ac
 refine eP aa (dW iD (iM rb ln _ 21 am (Wk.aR (q.trans A) ah) az) aa fun ax ay ae=> ?_) fun c w' C aA au=>⟨C.1,sV (i:=i) ab (by have h:=C.2.1; rw [Lm (by omega :i < s.length),Mg] at h; exact h),by rw [C.2.2]; exact q.trans A⟩
 obtain ⟨rfl,J,rfl⟩:=ae
 rw [Lm (by omega :i < s.length),Mg] at J
 exact nl<|bn<|tn<|Y _ _<|rg aa<|p (ad aa aa<|bY ab)<|p mv<|nl<|tn<|⟨_,ab,i+1,ab,(fun j G=>by rcases fu j i with h | h <;> first | exact I j h | (rw [show j=i by omega]; exact J)),(q.trans A),aa,aa,aa,aa,aa⟩
 refine ext<|te _<|te _<|be<|jO<|f0 aa ?_
 exact ⟨aa,uG (fun j G=>I j ab),q⟩
theorem KI (rb ln:Nat) (s:Tx) (w:World) (A:Hb.aR w.heap rb 2=some (.int .i64 (ln:Nat))) (hs:s.length≤1048576):
 fF aw 241 (bh [.pointer (some ⟨rb,0,none⟩),str s]) w (fun v w'=>v=str s∧gI s=0∧Wk w w') (fun c w'=>c=jn 47 ln (gI s:Nat)∧gI s≠0∧Wk w w'):=by
 refine ke func241 aa ntmps241 aa<|sq fun ah J=>rg aa<|p aE<|nl<|tn<|J _ _<|sq fun ai M=>rg aa<|p (aV (.pointer<|some ⟨rb,0,none⟩) aa)<|p (aV (str s) aa)<|eP aa (dW AG (Db rb ln s w A hs) aa fun ao ag ac=> ?_) (fun c w' a I C=>by have h:gI s=21:=x3 (.inr a.2.1); exact ⟨by rw [h]; exact a.1,by rw [h]; decide,a.2.2⟩)
 obtain ⟨rfl,G,i⟩:=ac
 refine nl<|tn<|M _ _<|sq fun aj O=>rg aa<|p (aV (.pointer<|some ⟨rb,0,none⟩) aa)<|p (aV (str s) aa)<|p (oQ aa aa)<|eP aa (dW iD (iM rb ln _ 21 ag (Wk.aR i A) az) aa fun v11 ae Y=> ?_) (fun c w' a I C=>by have h:gI s=21:=x3 (.inl<|jr.1<|of_decide_eq_false a.2.1); exact ⟨by rw [h]; exact a.1,by rw [h]; decide,by rw [a.2.2]; exact i⟩)
 obtain ⟨rfl,q,rfl⟩:=Y
 have q:s≠[]:=of_decide_eq_true q
 refine nl<|tn<|O _ _<|sq fun ak U=>rg aa<|p (aV (.pointer<|some ⟨rb,0,none⟩) aa)<|p (aV (str s) aa)<|p (cz u9 aa aa)<|p (le aa aa)<|eP aa (dW iD (iM rb ln _ 22 ae (Wk.aR i A) az) aa fun an ap Z=> ?_) (fun c w' a I C=>by have am:=of_decide_eq_false a.2.1; have h:gI s=22:=HO q G ab; exact ⟨by rw [h]; exact a.1,by rw [h]; decide,by rw [a.2.2]; exact i⟩)
 obtain ⟨rfl,E,rfl⟩:=Z
 have E:=of_decide_eq_true E
 exact nl<|tn<|U _ _<|sq fun al V=>rg aa<|p (aV (str s) aa)<|p (cU (str s) aa)<|nl<|tn<|V _ _<|rt<|jO<|f1 aa aa<|⟨aa,HP q G ab,i⟩
theorem Ky (rb ln:Nat) (s:Tx) (w:World) (E:Hb.aR w.heap rb 2=some (.int .i64 (ln:Nat))) (hs:s.length≤1048576):
 fF aw 198 (bh [.pointer (some ⟨rb,0,none⟩),str s]) w (fun v w'=> ∃ a,eF false s= .ok a∧v=str a∧Wk w w') (fun c w'=> ∃ e,eF false s= .error e∧c=jn 47 ln e∧Wk w w'):=by
 refine ke func198 aa ntmps198 aa<|sq fun al M=>rg aa<|p aE<|nl<|tn<|M _ _<|sq fun am O=>rg aa<|p (aV (str s) aa)<|e<|cl Az (D3 s _ hs) aa fun v11 ai Z=> ?_
 obtain ⟨rfl,q⟩:=Z
 have aq:=r9 s
 refine p mv<|p (xt aa aa)<|p (xt aa aa)<|p (xt aa aa)<|p (xt aa aa)<|p aE<|p aE<|p aE<|p aE<|nl<|tn<|O _ _<|sq fun an U=>rg aa<|p (aV (.pointer<|some ⟨rb,0,none⟩) aa)<|p mv<|eP aa (dW oF (oP rb ln ((bD s).2.2.2:Nat) ai<|Wk.aR q E) aa fun ar aj ac=> ?_) fun c w' i I G=>⟨_,C6 (by have :=i.2.1; omega),i.1,by rw [i.2.2]; exact q⟩
 obtain ⟨rfl,A,rfl⟩:=ac
 have A:(bD s).2.2.2=0:=ab
 refine nl<|tn<|U _ _<|sq fun ao V=>rg aa<|p (aV (.pointer<|some ⟨rb,0,none⟩) aa)<|p mv<|p (no aa)<|eP aa (dW iD (iM rb ln _ 114 aj (Wk.aR q E) az) aa fun au ak ae=> ?_) fun c w' i I G=>⟨_,C7 A (by simpa using i.2.1),i.1,by rw [i.2.2]; exact q⟩
 obtain ⟨rfl,C,rfl⟩:=ae
 have C:(bD s).2.2.1=false :=by simpa using C
 refine nl<|tn<|V _ _<|sq fun ap Y=>rg aa<|p (aV (.pointer<|some ⟨rb,0,none⟩) aa)<|p mv<|eP aa (dW Ga (KI rb ln (bD s).1 ak (Wk.aR q E) ab) aa fun av ax ag=> ?_) fun c w' i I G=>⟨_,C8 A C i.2.1,i.1,q.trans i.2.2⟩
 obtain ⟨rfl,ah,J⟩:=ag
 exact p aE<|nl<|tn<|Y _ _<|rt<|jO<|f1 aa aa<|⟨_,C9 A C ah,aa,q.trans J⟩
theorem Kv (rb ln:Nat) (s:Tx) (w:World) (U:Hb.aR w.heap rb 2=some (.int .i64 (ln:Nat))) (hs:s.length≤1048576):
 fF aw 199 (bh [.pointer (some ⟨rb,0,none⟩),str s]) w (fun v w'=> ∃ a,eF true s= .ok a∧v=str a∧Wk w w') (fun c w'=> ∃ e,eF true s= .error e∧c=jn 47 ln e∧Wk w w'):=by
 refine ke func199 aa ntmps199 aa<|sq fun V E=>rg aa<|p aE<|nl<|tn<|E _ _<|sq fun Y G=>sq fun Z I=>rg aa<|p (aV (str s) aa)<|p (dZ aa aa)<|nl<|tn<|I _ _<|cd aa (fun i=> ?_) fun i=> ?_
 exact sq fun A q=>rg aa<|p aE<|nl<|tn<|q _ _<|rt<|tr<|jO<|f1 aa aa<|⟨[],Kx i,aa,Md.refl _ _⟩
 refine aQ<|tn<|G _ _<|sq fun A q=>rg aa<|p (aV (.pointer<|some ⟨rb,0,none⟩) aa)<|p (aV (str s) aa)<|eP aa (dW F1 (Ky rb ln s w U hs) aa fun v9 ac M=> ?_) fun c w' J ae ab=>by obtain ⟨e,he,h⟩:=J; exact ⟨e,by rw [Da i]; exact he,h⟩
 obtain ⟨a,O,rfl,C⟩:=M
 exact p aE<|nl<|tn<|q _ _<|rt<|jO<|f1 aa aa<|⟨a,by rw [Da i]; exact O,aa,C⟩
end Go.Hb
end
section
namespace Go.Hb
open Go.Hb.iw Go.Hb.j8
theorem Is {kind:Nat} {s:Tx} (h:(gP kind s).2=0):(gP kind s).1≠0:=by
 unfold gP at h ⊢
 split
 · rename_i a; rw [if_pos a] at h; cases h
 · rename_i a; exact a
theorem IA {F:aU} {s:Tx} (h:(gP F.kind s).2≠0):gK F s= .error (gP F.kind s).2:=if_pos h
theorem IB {F:aU} {s:Tx} (h:(gP F.kind s).2=0) (h1:eJ F (gP F.kind s).1=true):gK F s= .error 115:=by unfold gK; rw [if_neg (fun h2=>h2 h),if_pos h1]
theorem IC {F:aU} {s:Tx} (h:(gP F.kind s).2=0) (h1:eJ F (gP F.kind s).1=false):gK F s= .ok (gP F.kind s).1:=by unfold gK; rw [if_neg (fun h2=>h2 h),if_neg (by rw [h1]; exact eo)]
theorem Lu {F:aU} {rows:List Rw} {ln e:Nat} {r:List Tx} (h:gK F (r.getD 1 [])= .error e):ko F rows ln r= .error (ln,e):=by unfold ko; rw [h]
theorem Lv {F:aU} {rows:List Rw} {ln x:Nat} {r:List Tx} (h:gK F (r.getD 1 [])= .ok x):ko F rows ln r= .ok ({F with sp:=F.sp.set (eh.idxOf<|r.getD 0 []) x},rows):=by unfold ko; rw [h]
def lA:List Tx:= [ki,kG,kV,lu,lP,eL,fH,du]
theorem C3 (hs:List Tx):ordered hs=true↔∀ k∈lA,k∉hs:=by
 unfold ordered
 rw [Bool.not_eq_true',List.any_eq_false]
 have hm:∀ k,k∈lA↔(k∈eh∨k=eL∨k=fH∨k=du):=by
  intro k
  simp only [lA,eh,List.mem_cons,List.not_mem_nil,or_false,or_assoc]
 constructor
 · intro h k hk a
   have :=h k a
   rw [decide_eq_true_iff] at this
   exact this<|(hm k).1 hk
 · intro h x i hd
   rw [decide_eq_true_iff] at hd
   exact h x ((hm x).2 hd) i
theorem Lg {F:aU} {rows:List Rw} {ln:Nat} {r:List Tx} (h:gy (r.getD 1 [])=false):mN F rows ln r= .error (ln,21):=if_pos h
theorem Lh {F:aU} {rows:List Rw} {ln:Nat} {r:List Tx} (h:gy (r.getD 1 [])=true):mN F rows ln r= .ok ({F with rE:=r.getD 1 []},rows):=if_neg<|by rw [h]; exact eo
theorem LX {F:aU} {rows:List Rw} {ln:Nat} {r:List Tx} (h:(letE<|r.getD 1 []).2≠0):mR F rows ln r= .error (ln,(letE<|r.getD 1 []).2):=if_pos h
theorem LY {F:aU} {rows:List Rw} {ln:Nat} {r:List Tx} (h:(letE<|r.getD 1 []).2=0):mR F rows ln r= .ok ({F with tr:=(letE<|r.getD 1 []).1},rows):=if_neg fun h2=>h2 h
theorem JR {F:aU} {rows:List Rw} {ln e:Nat} {r:List Tx} (h:e5 (r.getD 1 []) 64= .error e):kX F rows ln r= .error (ln,e):=by unfold kX; rw [h]
theorem JS {F:aU} {rows:List Rw} {ln n:Nat} {r:List Tx} (h:e5 (r.getD 1 []) 64= .ok n) (a:n=0):kX F rows ln r= .error (ln,13):=by unfold kX; rw [h]; exact if_pos a
theorem JT {F:aU} {rows:List Rw} {ln n:Nat} {r:List Tx} (h:e5 (r.getD 1 []) 64= .ok n) (a:n≠0):kX F rows ln r= .ok ({F with least:=n},rows):=by unfold kX; rw [h]; exact if_neg a
theorem vl {F:aU} {seen:List Tx} {rows:List Rw} {ln:Nat} {r:List Tx} {k:Tx} (hk:k∈lA) (h:k∈seen):kH F seen rows ln r= .error (ln,113):=by
 unfold kH
 rw [if_pos]
 cases ho:ordered seen with
 | false =>rfl
 | true =>exact absurd h<|(C3 seen).1 ho k hk
theorem Jn {F:aU} {seen:List Tx} {rows:List Rw} {ln:Nat} {r:List Tx} (h:ordered seen=true) (a:jy (r.getD 1 [])=0):kH F seen rows ln r= .error (ln,114):=by unfold kH; rw [if_neg (by rw [h]; exact eo),if_pos a]
theorem yF {F:aU} {seen:List Tx} {rows:List Rw} {ln:Nat} {r:List Tx} (h:ordered seen=true) (a:jy (r.getD 1 [])≠0):kH F seen rows ln r= .ok ({F with kind:=jy<|r.getD 1 []},rows):=by unfold kH; rw [if_neg (by rw [h]; exact eo),if_neg a]
def kinds:List Tx:= [rO,tz,vm]
theorem VA (s:Tx):((if s∈kinds then (kinds.idxOf s:Nat) else -1:Int))=(jy s:Nat) - 1:=by
 unfold jy kinds
 by_cases h1:s=rO
 · subst h1; decide
 · by_cases h2:s=tz
   · subst h2; decide
   · by_cases h3:s=vm
     · subst h3; decide
     · rw [if_neg (by simp [h1,h2,h3]),if_neg h1,if_neg h2,if_neg h3]; rfl
theorem VB (s:Tx):jy s≤3:=by
 unfold jy
 split
 · omega
 · split
   · omega
   · split <;> omega
theorem Cb (B:Nat) (H:dx) (F:aU) (V:ff) (R:gX) (rows:List Rw) (ln:Nat) (seen:List Tx) (s:Tx) (w:World) (E:dX w B H.fb H.mc F V) (q:dE w B H F R rows ln seen) (hk:F.kind=1∨F.kind=2∨F.kind=3) (hs:s.length≤1048576):
 fF aw 195 (bh [.pointer (some ⟨H.rb,0,none⟩),str s]) w (fun v w'=> ∃ x,gK F s= .ok x∧x≠0∧v=bj x∧eJ F x=false∧Wk w w') (fun c w'=> ∃ e,gK F s= .error e∧c=jn 47 ln (e:Nat)∧Wk w w'):=by
 obtain ⟨tf,ae,ag⟩:=q.tm
 refine ke func195 aa ntmps195 aa<|sq fun ak I=>rg aa<|p aE<|nl<|tn<|I _ _<|sq fun al J=>rg aa<|p (aV (.pointer<|some ⟨H.rb,0,none⟩) aa)<|p (nc aa)<|p (fa ig aa)<|p (ld gq aa<|(a7 q.cells).trans aa)<|p (nc aa)<|p (fa gJ aa)<|p (fa tu aa)<|p (ld bz aa<|(a7 E.cells).trans aa)<|p (aV (str s) aa)<|e<|cl PV (WD F.kind s _ hk hs) aa fun ap ah Y=> ?_
 obtain ⟨rfl,a⟩:=Y
 refine p mv<|p (xt aa aa)<|p (xt aa aa)<|p aE<|p aE<|nl<|tn<|J _ _<|sq fun am M=>rg aa<|p (aV (.pointer<|some ⟨H.rb,0,none⟩) aa)<|p mv<|eP aa (dW oF (oP H.rb ln ((gP F.kind s).2:Nat) ah<|Wk.aR a q.dw) aa fun aq ai Z=> ?_) fun c w' i aj E=>⟨_,IA (by have :=i.2.1; omega),i.1,by rw [i.2.2]; exact a⟩
 obtain ⟨rfl,C,rfl⟩:=Z
 have C:(gP F.kind s).2=0:=ab
 have G:=Is C
 refine nl<|tn<|M _ _<|sq fun an O=>rg aa<|p (aV (.pointer<|some ⟨H.rb,0,none⟩) aa)<|p (aV (.pointer<|some ⟨H.rb,0,none⟩) aa)<|p (nc aa)<|p (fa BY aa)<|p (ld uA aa<|Wk.aR a<|(a7 q.cells).trans aa)<|p mv<|p (oM r7 oY rN (ae.wk a) aa aa (⟨_,aa⟩)<|ag _ G)<|p (bK aa aa)<|eP aa (dW iD (iM H.rb ln _ 115 ai (Wk.aR a q.dw) az) aa fun v31 ar ac=> ?_) fun c w' i aj E=>⟨115,IB C (by have h:=i.2.1; rw [Ha] at h; simpa using h),i.1,by rw [i.2.2]; exact a⟩
 obtain ⟨rfl,A,rfl⟩:=ac
 rw [Ha] at A
 have A:eJ F (gP F.kind s).1=false :=by simpa using A
 exact nl<|tn<|O _ _<|sq fun ao U=>rg aa<|p mv<|p aE<|nl<|tn<|U _ _<|rt<|jO<|f1 aa aa<|⟨_,IC C A,G,aa,A,a⟩
theorem vQ (B:Nat) (H:dx) (F:aU) (rows:List Rw) (ln:Nat) (seen:List Tx) (r:List Tx) (aC:Nat) (ar:Option Addr) (cr:Nat) (w:World) (M:St w B H F rows ln seen) (ae:Tg w aC 9 r.length (.slice ar r.length cr) (r.map str)) (a4:r.length=2) (aT:∀ x∈r,x.length≤70000) (av:r.getD 0 []∈eh) (aW:F.sp.getD (eh.idxOf<|r.getD 0 []) 0=0):
 fF aw 131 (bh [.pointer (some ⟨H.rb,0,none⟩),.slice ar r.length cr]) w (ju B H seen (ko F rows ln r) w) (jt B H (ko F rows ln r) w):=by
 obtain ⟨V,R,A,E,C⟩:=M
 have ao:=ae.cV
 have aq:¬(H.rb=H.fb):=fun h=>by have h1:=E.cells; rw [h,A.cells] at h1; cases h1
 have a5:(r.getD 1 []).length≤70000:=aT _<|dY ab
 have au:¬(bk ar=H.fb):=Tg.vv ae (bT ab) A.cells az
 obtain ⟨tf,ag,ax⟩:=E.tm
 obtain ⟨a9,a6,a8⟩:=E.sm
 have ap:eh.idxOf (r.getD 0 []) < 5:=wU.2 av
 refine ke func131 aa ntmps131 aa<|sq fun a1 aH=>rg aa<|p (aV (.pointer<|some ⟨H.rb,0,none⟩) aa)<|p (aV (.slice ar r.length cr) aa)<|p (bc cR aa aa ab<|aO.ok (ao.2)<|bT ab)<|p (ld bV aa<|cj.get (i:=1) ao.2 ab)<|eP aa (dW AH (Cb B H F V R rows ln seen (r.getD 1 []) w A E C.kd ab) aa fun v9 bb J=> ?_) fun c w' aK bd A=>by obtain ⟨e,he,h,h2⟩:=aK; exact ⟨ln,e,Lu he,h,Wk.mw h2⟩
 obtain ⟨x,aX,aY,rfl,aA,q⟩:=J
 have aG:=A.wk q
 have J:=E.wk q
 refine p aE<|nl<|tn<|aH _ _<|sq fun a2 aI=>rg aa<|p (aV (.pointer<|some ⟨H.rb,0,none⟩) aa)<|p (nc aa)<|p (fa BY aa)<|p (ld uA aa<|Wk.aR q<|(a7 E.cells).trans aa)<|p mv<|p (oM r7 oY rN (ag.wk q) aa aa (⟨_,aa⟩) (show _=jk .i64 0 from (ax x aY).trans<|by rw [aA]; rfl))<|p (bF ((1:Nat):Int) aa aa<|bl ab ab)<|e<|tQ r7 rN (ag.wk q) aa aa aa (⟨_,aa⟩) fun G U aL=> ?_
 have ak:=J.vu (F':= {F with sp:=F.sp.set (eh.idxOf<|r.getD 0 []) x}) U aL rfl (LQ aA ax<|Sr (by rw [A.fR]; exact ap) aW)
 have O:=aG.vu J U
 have aQ:=(ae.wk q).md U fun k hk cur z aS=>by subst hk; exact (ag.wk q).pP aS
 have an:=aQ.cV
 refine nl<|tn<|aI _ _ ?_
 have a:(fun w'=>Md (fun k=>k=H.fb) G w') G.drew:=(Md.refl _ _).drew
 refine bN (fun w'=>Md (fun k=>k=H.fb) G w') aa wide a<|hp 0 aa aj (fun _ _=>aV (.pointer<|some ⟨H.rb,0,none⟩) aa) a<|hp 1 aa aj (fun _ _=>nc aa) a<|hp 2 aa aj (fun _ _=>fa ig aa) a<|hp 3 aa aj (fun w' M=>ld gq aa<|Md.aR M ((a7 ak.cells).trans aa)<|by first | exact aq | exact au) a<|hp 5 aa aj (fun _ _=>aV (.slice ar r.length cr) aa) a<|hp 6 aa aj (fun _ _=>bc cR aa aa ab<|aO.ok (an.2)<|bT ab) a<|hp 7 aa aj (fun w' M=>ld bV aa<|Md.aR M (cj.get (i:=0) an.2 ab)<|by first | exact aq | exact au) a<|hp 9 aa aj (fun _ _=>mv) a<|hp 10 aa aj (fun _ _=>nc aa) a<|hp 11 aa aj (fun _ _=>fa gJ aa) a<|hp 12 aa aj (fun _ _=>fa yo aa) a<|he 4 aa aj<|sT (L:=eh.map str) fQ aa aa aa aa fun ah aB a3 Z aD=> ?_
 have aN:cj aB.heap (some ⟨ah,0,none⟩) eh:=aO.ec ⟨_,aD⟩
 have I:=im Z.md
 have am:(fun w'=>Md (fun k=>k=H.fb) G w') aB:=a.trans' Z.md fun _ _ h=>h.elim
 refine ⟨am,?_⟩
 refine he 8 aa aj<|cl FZ (Jd eh (some ⟨ah,0,none⟩) 5 (r.getD 0 []) _ aN az) aa fun ba aZ aM=> ?_
 obtain ⟨ay,rfl⟩:=aM
 rw [if_pos av] at ay
 subst ay
 have ac:(fun w'=>Md (fun k=>k=H.fb) G w') aZ:=am
 refine ⟨ac,?_⟩
 refine hp 13 aa aj (fun _ _=>kg uE aa aa ab) ac<|he 14 aa aj<|cT gu aa aa (v:=bj x) aa (Z.md.aJ O.cells) (by show _ < 14; omega) fun a0 Y ai=> ?_
 rw [TA (i:=eh.idxOf<|r.getD 0 []) A.fR ap ab] at ai
 have aP:(fun w'=>Md (fun k=>k=H.fb) G w') a0:=ac.trans' Y fun _ _ h=>h
 refine ⟨aP,?_⟩
 refine hn aj<|jO<|f0 aa ?_
 have aF:=(O.wk I).put (F':= {F with sp:=F.sp.set (eh.idxOf<|r.getD 0 []) x}) Y ai rfl rfl rfl rfl (by rw [List.length_set]; exact A.fR)
 exact ⟨aa,_,rows,ln,Lv aX,⟨V,R,aF,(ak.wk I).fb (O.wk I) Y,⟨C.len,C.sl,C.row,C.kd,C.al⟩⟩,((Wk.mw q).trans<|fE.mt J U).trans<|(Wk.mw I).trans<|fE.fb (O.wk I) Y⟩
theorem QY (B:Nat) (H:dx) (F:aU) (rows:List Rw) (ln:Nat) (seen:List Tx) (r:List Tx) (ah:Nat) (ar:Option Addr) (cr:Nat) (w:World) (G:St w B H F rows ln seen) (Y:Tg w ah 9 r.length (.slice ar r.length cr) (r.map str)) (av:r.length=2) (ao:∀ x∈r,x.length≤70000):
 fF aw 129 (bh [.pointer (some ⟨H.rb,0,none⟩),.slice ar r.length cr]) w (ju B H seen (mN F rows ln r) w) (jt B H (mN F rows ln r) w):=by
 obtain ⟨V,R,C,E,A⟩:=G
 have ac:=Y.cV
 have ae:¬(H.rb=H.fb):=fun h=>by have h1:=E.cells; rw [h,C.cells] at h1; cases h1
 have ax:(r.getD 1 []).length≤70000:=ao _<|dY ab
 have ag:¬(bk ar=H.fb):=Tg.vv Y (bT ab) C.cells az
 obtain ⟨tf,aB,aC⟩:=E.tm
 obtain ⟨aD,ay,aA⟩:=E.sm
 refine ke func129 aa ntmps129 aa<|sq fun au am=>rg aa<|p (aV (.pointer<|some ⟨H.rb,0,none⟩) aa)<|p (aV (.slice ar r.length cr) aa)<|p (bc cR aa aa ab<|aO.ok (ac.2)<|bT ab)<|p (ld bV aa<|cj.get (i:=1) ac.2 ab)<|eP aa (dW AG (Db H.rb ln (r.getD 1 []) w E.dw ab) aa fun aE O M=> ?_) fun c w' U aF C=>⟨ln,21,Lg U.2.1,U.1,Wk.mw U.2.2⟩
 obtain ⟨rfl,ap,I⟩:=M
 have J:=C.wk I
 have M:=E.wk I
 have Z:=(Y.wk I).cV
 refine nl<|tn<|am _ _ ?_
 have a:(fun w'=>Md (fun k=>k=H.fb) O w') O.drew:=(Md.refl _ _).drew
 refine bN (fun w'=>Md (fun k=>k=H.fb) O w') aa wide a<|hp 0 aa aj (fun _ _=>aV (.pointer<|some ⟨H.rb,0,none⟩) aa) a<|hp 1 aa aj (fun _ _=>nc aa) a<|hp 2 aa aj (fun _ _=>fa ig aa) a<|hp 3 aa aj (fun w' G=>ld gq aa<|Md.aR G ((a7 M.cells).trans aa)<|by first | exact ae | exact ag) a<|hp 4 aa aj (fun _ _=>aV (.slice ar r.length cr) aa) a<|hp 5 aa aj (fun _ _=>bc cR aa aa ab<|aO.ok (Z.2)<|bT ab) a<|hp 6 aa aj (fun w' G=>ld bV aa<|Md.aR G (cj.get (i:=1) Z.2 ab)<|by first | exact ae | exact ag) a<|hp 7 aa aj (fun _ _=>nc aa) a<|hp 8 aa aj (fun _ _=>fa gJ aa) a<|hp 9 aa aj (fun _ _=>fa TS aa) a<|he 10 aa aj<|cT kS aa aa (v:=str<|r.getD 1 []) aa J.cells (by show _ < 14; omega) fun aq q ai=> ?_
 have q:=im q
 have an:(fun w'=>Md (fun k=>k=H.fb) O w') aq:=q
 refine ⟨an,?_⟩
 refine hn aj<|jO<|f0 aa ?_
 have ak:=J.put (F':= {F with rE:=r.getD 1 []}) q ai rfl rfl rfl rfl C.fR
 exact ⟨aa,_,rows,ln,Lh ap,⟨V,R,ak,(M.fb J q).congr aa (fun _=>rfl),⟨A.len,A.sl,A.row,A.kd,A.al⟩⟩,(Wk.mw I).trans<|fE.fb J q⟩
theorem Y9 (B:Nat) (H:dx) (F:aU) (rows:List Rw) (ln:Nat) (seen:List Tx) (r:List Tx) (Y:Nat) (ar:Option Addr) (cr:Nat) (w:World) (aj:St w B H F rows ln seen) (M:Tg w Y 9 r.length (.slice ar r.length cr) (r.map str)) (au:r.length=2) (ak:∀ x∈r,x.length≤70000):
 fF aw 130 (bh [.pointer (some ⟨H.rb,0,none⟩),.slice ar r.length cr]) w (ju B H seen (mR F rows ln r) w) (jt B H (mR F rows ln r) w):=by
 obtain ⟨V,R,q,E,a⟩:=aj
 have O:=M.cV
 have ap:¬(H.rb=H.fb):=fun h=>by have h1:=E.cells; rw [h,q.cells] at h1; cases h1
 have av:(r.getD 1 []).length≤70000:=ak _<|dY ab
 have aq:¬(bk ar=H.fb):=Tg.vv M (bT ab) q.cells az
 obtain ⟨tf,aA,aB⟩:=E.tm
 obtain ⟨aC,ax,ay⟩:=E.sm
 refine ke func130 aa ntmps130 aa<|sq fun an ae=>rg aa<|p (aV (.slice ar r.length cr) aa)<|p (bc cR aa aa ab<|aO.ok (O.2)<|bT ab)<|p (ld bV aa<|cj.get (i:=1) O.2 ab)<|e<|cl PG (VK (r.getD 1 []) _ ab) aa fun v10 am ah=> ?_
 obtain ⟨rfl,A⟩:=ah
 have C:=q.wk A
 have J:=E.wk A
 refine p mv<|p (xt aa aa)<|p (xt aa aa)<|p aE<|p aE<|nl<|tn<|ae _ _<|sq fun ao ag=>rg aa<|p (aV (.pointer<|some ⟨H.rb,0,none⟩) aa)<|p mv<|eP aa (dW oF (oP H.rb ln ((letE<|r.getD 1 []).2:Nat) am J.dw) aa fun aD aF ai=> ?_) fun c w' I aH q=>⟨ln,_,LX (by have :=I.2.1; omega),I.1,by rw [I.2.2]; exact Wk.mw A⟩
 obtain ⟨rfl,U,rfl⟩:=ai
 have U:(letE<|r.getD 1 []).2=0:=ab
 refine nl<|tn<|ag _ _<|rg aa<|p (aV (.pointer<|some ⟨H.rb,0,none⟩) aa)<|p (nc aa)<|p (fa ig aa)<|p (ld gq aa<|(a7 J.cells).trans aa)<|p mv<|p (nc aa)<|p (fa gJ aa)<|p (fa TT aa)<|e<|cT kS aa aa (v:=str (letE<|r.getD 1 []).1) aa C.cells (by show _ < 14; omega) fun aG G Z=>nl<|jO<|f0 aa ?_
 have ac:=C.put (F':= {F with tr:=(letE<|r.getD 1 []).1}) G Z rfl rfl rfl rfl q.fR
 exact ⟨aa,_,rows,ln,LY U,⟨V,R,ac,(J.fb C G).congr aa (fun _=>rfl),⟨a.len,a.sl,a.row,a.kd,a.al⟩⟩,(Wk.mw A).trans<|fE.fb C G⟩
theorem VG (B:Nat) (H:dx) (F:aU) (rows:List Rw) (ln:Nat) (seen:List Tx) (r:List Tx) (am:Nat) (ar:Option Addr) (cr:Nat) (w:World) (M:St w B H F rows ln seen) (Z:Tg w am 9 r.length (.slice ar r.length cr) (r.map str)) (aD:r.length=2) (ax:∀ x∈r,x.length≤70000):
 fF aw 132 (bh [.pointer (some ⟨H.rb,0,none⟩),.slice ar r.length cr]) w (ju B H seen (kX F rows ln r) w) (jt B H (kX F rows ln r) w):=by
 obtain ⟨V,R,A,C,E⟩:=M
 have ac:=Z.cV
 have ae:¬(H.rb=H.fb):=fun h=>by have h1:=C.cells; rw [h,A.cells] at h1; cases h1
 have aE:(r.getD 1 []).length≤70000:=ax _<|dY ab
 have ag:¬(bk ar=H.fb):=Tg.vv Z (bT ab) A.cells az
 obtain ⟨tf,aH,aI⟩:=C.tm
 obtain ⟨aJ,aF,aG⟩:=C.sm
 refine ke func132 aa ntmps132 aa<|sq fun aB ao=> ?_
 have a:(fun w'=>Md (fun k=>k=H.fb) w w') w.drew:=(Md.refl _ _).drew
 refine bN (fun w'=>Md (fun k=>k=H.fb) w w') aa wide a<|hp 0 aa aj (fun _ _=>aV (.pointer<|some ⟨H.rb,0,none⟩) aa) a<|hp 1 aa aj (fun _ _=>nc aa) a<|hp 2 aa aj (fun _ _=>fa ig aa) a<|hp 3 aa aj (fun w' M=>ld gq aa<|Md.aR M ((a7 C.cells).trans aa)<|by first | exact ae | exact ag) a<|hp 4 aa aj (fun _ _=>aV (.pointer<|some ⟨H.rb,0,none⟩) aa) a<|hp 5 aa aj (fun _ _=>aV (.slice ar r.length cr) aa) a<|hp 6 aa aj (fun _ _=>bc cR aa aa ab<|aO.ok (ac.2)<|bT ab) a<|hp 7 aa aj (fun w' M=>ld bV aa<|Md.aR M (cj.get (i:=1) ac.2 ab)<|by first | exact ae | exact ag) a<|tx 8 aa aj aa (dW xA (yU H.rb ln (r.getD 1 []) 64 w.drew C.dw ab ab) aa fun v12 ay ap=> ?_) fun c w' J aA A=>by obtain ⟨e,he,h,h2⟩:=J; exact ⟨ln,e,JR he,h,Wk.mw<|im h2⟩
 obtain ⟨n,ah,rfl,q⟩:=ap
 have q:=im q
 have G:=A.wk q
 have au:=C.wk q
 have O:(fun w'=>Md (fun k=>k=H.fb) w w') ay:=Md.mono q fun _ _ h=>h.elim
 refine ⟨O,?_⟩
 refine hp 9 aa aj (fun _ _=>nc aa) O<|hp 10 aa aj (fun _ _=>fa gJ aa) O<|hp 11 aa aj (fun _ _=>fa B5 aa) O<|he 12 aa aj<|cT gr aa aa (v:= .int .i64 (n:Nat)) aa G.cells (by show _ < 14; omega) fun ak I Y=> ?_
 have U:=au.fb G I
 have av:(fun w'=>Md (fun k=>k=H.fb) w w') ak:=O.trans' I fun _ _ h=>h
 refine ⟨av,?_⟩
 refine hn aj<|tn<|ao _ _<|rg aa<|p (aV (.pointer<|some ⟨H.rb,0,none⟩) aa)<|p (aV (.pointer<|some ⟨H.rb,0,none⟩) aa)<|p (nc aa)<|p (fa ig aa)<|p (ld gq aa<|(a7 U.cells).trans aa)<|p (nc aa)<|p (fa gJ aa)<|p (fa B5 aa)<|p (ld bz aa<|(a7 Y).trans aa)<|p (gt aa aa)<|eP aa (dW iD (iM H.rb ln _ 13 ak U.dw az) aa fun aK aL aq=> ?_) fun c w' J aA A=>by have aC:=of_decide_eq_false J.2.1; exact ⟨ln,13,JS ah ab,J.1,by rw [J.2.2]; exact (Wk.mw q).trans<|fE.fb G I⟩
 obtain ⟨rfl,ai,rfl⟩:=aq
 have ai:=of_decide_eq_true ai
 refine nl<|jO<|f0 aa ?_
 have an:=G.put (F':= {F with least:=n}) I Y rfl rfl rfl rfl A.fR
 exact ⟨aa,_,rows,ln,JT ah ab,⟨V,R,an,U.congr aa (fun _=>rfl),⟨E.len,E.sl,E.row,E.kd,E.al⟩⟩,(Wk.mw q).trans<|fE.fb G I⟩
theorem VC (B:Nat) (H:dx) (F:aU) (rows:List Rw) (ln:Nat) (seen:List Tx) (r:List Tx) (aM:Nat) (ar:Option Addr) (cr:Nat) (w:World) (J:St w B H F rows ln seen) (ah:Tg w aM 9 r.length (.slice ar r.length cr) (r.map str)) (bE:r.length=2) (ba:∀ x∈r,x.length≤70000):
 fF aw 128 (bh [.pointer (some ⟨H.rb,0,none⟩),.slice ar r.length cr]) w (ju B H seen (kH F seen rows ln r) w) (jt B H (kH F seen rows ln r) w):=by
 obtain ⟨V,R,E,Y,M⟩:=J
 have bx:=ah.cV
 have aC:¬(H.rb=H.fb):=fun h=>by have h1:=Y.cells; rw [h,E.cells] at h1; cases h1
 have bG:(r.getD 1 []).length≤70000:=ba _<|dY ab
 have aD:¬(bk ar=H.fb):=Tg.vv ah (bT ab) E.cells az
 obtain ⟨tf,bH,bI⟩:=Y.tm
 obtain ⟨bL,bj,bm⟩:=Y.sm
 refine ke func128 aa ntmps128 aa<|sq fun br aX=>sq fun bs aY=>rg aa<|e<|sT (L:=lA.map str) fQ aa aa aa aa fun an ak bB a2 aS=> ?_
 have ay:cj ak.heap (some ⟨an,0,none⟩) lA:=aO.ec ⟨_,aS⟩
 have C:Wk w ak:=a2.md
 have aq:=E.wk C
 have Z:=Y.wk C
 have aA:=(ah.wk C).cV
 have bo:=bj.wk C
 have bD:lA.length=8:=rfl
 refine p (bJ eZ aa aa)<|p mv<|nl<|tn<|aY _ _<|aJ<|lp (fun ao I q=> ∃ (i:Nat),(i≤8)∧(∀ j,j < i→lA.getD j []∉seen)∧(q=ak)∧(I 0= .pointer (some ⟨H.rb,0,none⟩))∧(I 1= .slice ar r.length cr)∧(I 6= .slice (some ⟨an,0,none⟩) 8 8)∧(I 7= .int .i64 (8:Nat))∧(I 8= .int .i64 (i:Nat))∧(8 - i=ao)) _ ⟨0,ab,(fun j aB=>by omega),aa,aa,aa,aa,aa,aa,aa⟩ ?_
 rintro ao I q ⟨i,hi,aF,aT,bb,bd,bf,bg,bi,rfl⟩
 refine fx 0 bb<|fx 1 bd<|fx 6 bf<|fx 7 bg<|fx 8 bi ?_
 subst aT
 refine sq fun bt aZ=>rg aa<|p (lt aa aa)<|nl<|tn<|aZ _ _<|sq fun bu a0=>cd aa (fun a9=> ?_) fun a9=> ?_
 refine aQ<|tn<|a0 _ _<|sq fun aN ae=>aJ<|sq fun bv a1=>rg aa<|p (bc cR aa aa ab<|aO.ok (ay)<|bT ab)<|p (ld bV aa<|cj.get (i:=i) ay ab)<|p aE<|nl<|tn<|a1 _ _<|rg aa<|p (aV (.pointer<|some ⟨H.rb,0,none⟩) aa)<|p (aV (.pointer<|some ⟨H.rb,0,none⟩) aa)<|p (nc aa)<|p (fa tp aa)<|p (ld sK aa<|(a7 Z.cells).trans aa)<|p mv<|p (oM qU oY jg (bo) aa aa (⟨_,aa⟩)<|bm _)<|p (bK aa aa)<|eP aa (dW iD (iM H.rb ln _ 113 q Z.dw az) aa fun v20 bO a3=> ?_) fun c w' A bq E=>⟨ln,113,vl (k:=lA.getD i []) (dY ab) (by have h:=of_decide_eq_false A.2.1; exact jr.1 fun h2=>h<|by have :=q9.2 h2; omega),A.1,by rw [A.2.2]; exact Wk.mw C⟩
 obtain ⟨rfl,ai,rfl⟩:=a3
 have ai:lA.getD i []∉seen:=q9.1<|by have :=of_decide_eq_true ai; omega
 exact nl<|bn<|tn<|ae _ _<|rg aa<|p (ad aa aa<|bY ab)<|p mv<|nl<|tn<|⟨_,ab,i+1,ab,(fun j aB=>by rcases fu j i with h | h <;> first | exact aF j h | (rw [show j=i by omega]; exact ai)),aa,aa,aa,aa,aa,aa,aa⟩
 refine ext<|te _<|te _<|be<|tn<|aX _ _<|sq fun aN ae=> ?_
 have aG:ordered seen=true :=(C3 seen).2 fun k hk=>by obtain ⟨j,aB,rfl⟩:=nZ [] hk; exact aF j ab
 have a:(fun w'=>Md (fun k=>k=H.fb) q w') q.drew:=(Md.refl _ _).drew
 refine bN (fun w'=>Md (fun k=>k=H.fb) q w') aa wide a<|hp 0 aa aj (fun _ _=>aV (.pointer<|some ⟨H.rb,0,none⟩) aa) a<|hp 1 aa aj (fun _ _=>nc aa) a<|hp 2 aa aj (fun _ _=>fa ig aa) a<|hp 3 aa aj (fun w' J=>ld gq aa<|Md.aR J ((a7 Z.cells).trans aa)<|by first | exact aC | exact aD) a<|hp 5 aa aj (fun _ _=>aV (.slice ar r.length cr) aa) a<|hp 6 aa aj (fun _ _=>bc cR aa aa ab<|aO.ok (aA.2)<|bT ab) a<|hp 7 aa aj (fun w' J=>ld bV aa<|Md.aR J (cj.get (i:=1) aA.2 ab)<|by first | exact aC | exact aD) a<|he 4 aa aj<|sT (L:=kinds.map str) fQ aa aa aa aa fun am aK bA av aP=> ?_
 have a6:cj aK.heap (some ⟨am,0,none⟩) kinds:=aO.ec ⟨_,aP⟩
 have O:=im av.md
 have ax:(fun w'=>Md (fun k=>k=H.fb) q w') aK:=a.trans' av.md fun _ _ h=>h.elim
 refine ⟨ax,?_⟩
 refine he 8 aa aj<|cl FZ (Jd kinds (some ⟨am,0,none⟩) 3 (r.getD 1 []) _ a6 az) aa fun v30 bp a4=> ?_
 obtain ⟨aH,rfl⟩:=a4
 rw [VA] at aH
 subst aH
 have bC:=VB<|r.getD 1 []
 have G:(fun w'=>Md (fun k=>k=H.fb) q w') bp:=ax
 refine ⟨G,?_⟩
 refine hp 9 aa aj (fun _ _=>bF ((jy (r.getD 1 []):Nat):Int) aa aa<|bl ab ab) G<|hp 10 aa aj (fun _ _=>nc aa) G<|hp 11 aa aj (fun _ _=>fa gJ aa) G<|hp 12 aa aj (fun _ _=>fa tu aa) G<|he 13 aa aj<|cT gr aa aa (v:= .int .i64 (jy (r.getD 1 []):Nat)) aa ((aq.wk O).cells) (by show _ < 14; omega) fun aL U ap=> ?_
 have ac:=aq.wk O
 have ag:=(Z.wk O).fb ac U
 have au:=((Wk.mw C).trans<|Wk.mw O).trans<|fE.fb ac U
 have a8:(fun w'=>Md (fun k=>k=H.fb) q w') aL:=G.trans' U fun _ _ h=>h
 refine ⟨a8,?_⟩
 refine hn aj<|tn<|ae _ _<|rg aa<|p (aV (.pointer<|some ⟨H.rb,0,none⟩) aa)<|p (aV (.pointer<|some ⟨H.rb,0,none⟩) aa)<|p (nc aa)<|p (fa ig aa)<|p (ld gq aa<|(a7 ag.cells).trans aa)<|p (nc aa)<|p (fa gJ aa)<|p (fa tu aa)<|p (ld bz aa<|(a7 ap).trans aa)<|p (gt aa aa)<|eP aa (dW iD (iM H.rb ln _ 114 aL ag.dw az) aa fun bM bP a5=> ?_) fun c w' A bq E=>by have bw:=of_decide_eq_false A.2.1; exact ⟨ln,114,Jn aG ab,A.1,by rw [A.2.2]; exact au⟩
 obtain ⟨rfl,aI,rfl⟩:=a5
 have aI:=of_decide_eq_true aI
 refine nl<|jO<|f0 aa ?_
 have aW:=ac.put (F':= {F with kind:=jy<|r.getD 1 []}) U ap rfl rfl rfl rfl E.fR
 exact ⟨aa,_,rows,ln,yF aG ab,⟨V,R,aW,ag.congr aa (fun _=>rfl),⟨M.len,M.sl,M.row,(by show jy (r.getD 1 [])=1∨jy (r.getD 1 [])=2∨jy (r.getD 1 [])=3; omega),M.al⟩⟩,au⟩
end Go.Hb
end
namespace Go.Hb.ox
theorem GI {h:Array Obj} {b:Nat} {f:UInt8→Bool} (a:bP h b (eO f)) (c:UInt8):Hb.aR h b (0 +((c.toNat / 64:Nat):Int).toNat*1)=some (.int .u64<|e8 f<|c.toNat / 64):=by
 have i:=iX c
 rw [a.aR,show 0 +((c.toNat / 64:Nat):Int).toNat*1=c.toNat / 64 from by omega]; exact Ba f ab
theorem RC {h:Array Obj} {b:Nat} {f:UInt8→Bool} {c:UInt8} (a:bP h b ((eO f).set (0 +((c.toNat / 64:Nat):Int).toNat*1)<|.int .u64 ((e8 f (c.toNat / 64) ||| 2 ^ (c.toNat % 64):Nat):Int))):bP h b (eO (fun x=>f x || decide (x=c))):=by
 rw [show 0 +((c.toNat / 64:Nat):Int).toNat*1=c.toNat / 64 from by omega,Rx] at a; exact a
theorem Rz {f g:UInt8→Bool} (h:∀ b,f b=g b):eO f=eO g:=by rw [show f=g from funext h]
theorem U2 {l:List UInt8} {i:Nat} (h:i < l.length) (x:UInt8):(decide (x∈l.take i) || decide (x=l.getD i 0))=decide (x∈l.take (i+1)):=by
 rw [fK l i 0 h,← Bool.decide_or]
 exact decide_eq_decide.2<|by rw [jF,j5]
theorem C5 {w:World} {B e n cp i:Nat} {a:Option Addr} {l:List UInt8} (h:w.ownsRow B e 1 (.slice a n cp) n (U8 l)) (hi:i≤n) (hn:0 < n):w.ownsRow B e 1 (.slice a i cp) i (U8<|l.take i):=by
 have q:a≠none:=by
  rintro rfl
  rcases h.2 with ⟨_,h5⟩ | ⟨g,cap,cur,h4,_⟩
  · omega
  · simp at h4
 have :=Kt h hi q
 rw [pd] at this
 unfold U8 at*
 rwa [EF]
theorem WN {w:World} {B e n cp:Nat} {a:Option Addr} {xs:List Value} (h:w.ownsRow B e 1 (.slice a n cp) n xs) (hn:0 < n):∃ i,a=some ⟨i,0,none⟩:=by
 rcases h.2 with ⟨_,h5⟩ | ⟨g,cap,cur,h4,_⟩
 · omega
 · simp only [mT] at h4; exact ⟨g,h4.1⟩
theorem Zc {w:World} {B e n cp j:Nat} {a:Option Addr} {l:List UInt8} (h:w.ownsRow B e 1 (.slice a n cp) n (U8 l)):aO w.heap (gv a cp j 1) (U8<|l.drop j):=by
 have h2:=(ba h).2.drop (cap:=cp) (k:=j) (size:=1)<|by have h1:=h.1; have h3:=(ba h).1; omega
 rw [pd] at h2
 unfold U8 at*
 rwa [List.map_drop]
theorem DR {w:World} {B e n:Nat} {v:Value} {l:List UInt8} (h:w.ownsRow B e 1 v n (U8 l)):l.length=n:=by have :=h.1; rw [xj] at this; omega
theorem KE (b:Nat) (c:UInt8) (f:UInt8→Bool) (w:World) (i:bP w.heap b (eO f)):
 bp aw 209 (bh [aT b,.int .u8 c.toNat]) w (fun v w'=>v= .tuple #[]∧bP w'.heap b (eO (fun x=>f x || decide (x=c)))∧Md (fun q=>q=b) w w'):=by
 have I:=iX c
 refine enter func209 aa ntmps209 aa ?_
 have a:(fun w'=>Wk w w') w.drew:=(Md.refl _ _).drew
 refine eR (fun w'=>Wk w w') 12 aa wide a<|bE 0 aa (aT b) a<|bE 1 aa (.int .u8 c.toNat) a<|bB 2 aa (fun _=>shr aa aa az<|Lj c) (fun _=>a)<|bB 3 aa (fun _=>nc aa) (fun _=>a)<|bB 4 aa (fun _=>kg rA aa aa ab) (fun _=>a)<|dP 5 aa (fun w' G=>ld sI aa<|Wk.aR G<|GI i c) a<|bE 6 aa (.int .u8 c.toNat) a<|bB 7 aa (fun _=>fG aa aa<|Fi c) (fun _=>a)<|bB 8 aa (fun _=>shl aa aa ab<|X5 ab) (fun _=>a)<|bB 9 aa (fun _=>Fu aa aa<|WH (tS _ _)<|Nat.pow_lt_pow_right az ab) (fun _=>a)<|bB 10 aa (fun _=>nc aa) (fun _=>a)<|bB 11 aa (fun _=>kg rA aa aa ab) (fun _=>a)<|dO 12 aa aj aj<|st Sc aa aa (aa) (a.B i) (by rw [xF]; omega) fun J E C=> ?_
 have A:=RC C
 refine eQ aj<|f0 aa ?_
 exact ⟨aa,A,Md.trans (Md.refl _ _).drew E⟩
theorem IX (f:UInt8→Bool) (c:UInt8) (w:World):
 bp aw 251 (bh [.agg (eO<|f).toArray,.int .u8 c.toNat]) w (fun v w'=>v= .bool (f c)∧Wk w w'):=by
 have G:=iX c
 exact enter func251 aa ntmps251 aa<|ag fun a=>e<|iZ aa fun C I E A q=>ay<|a<|ag fun i=>au (.int .u8 c.toNat)<|p (shr aa aa az<|Lj c)<|p (kg rA aa aa ab)<|p (ld sI aa<|GI q c)<|au (.int .u8 c.toNat)<|p (fG aa aa<|Fi c)<|p (shr aa aa ab<|Ye _ ab)<|p (fG aa aa<|OE<|Nat.lt_of_le_of_lt (Nat.div_le_self _ _)<|tS _ _)<|p (bK aa aa)<|ay<|i<|rt<|aX aa<|⟨congrArg bU (ZE f c),A.md⟩
theorem C4 (f:UInt8→Bool) (w:World):
 bp aw 208 (bh [.agg (eO<|f).toArray]) w (fun v w'=>v= .agg (eO fun x=> !f x).toArray∧Wk w w'):=by
 exact enter func208 aa ntmps208 aa<|ag fun A=>e<|iZ aa fun J Y O q i=>e<|al sd fun M Z U a E=>nl<|A<|ag fun C=>p (kg rA aa aa ab)<|p (ld sI aa<|(a.md.B i).aR 0)<|p (xG aa)<|p (kg rA aa aa ab)<|p (ld sI aa<|(a.md.B i).aR 1)<|p (xG aa)<|p (kg rA aa aa ab)<|p (ld sI aa<|(a.md.B i).aR 2)<|p (xG aa)<|p (kg rA aa aa ab)<|p (ld sI aa<|(a.md.B i).aR 3)<|p (xG aa)<|p (Ft (ps:= [(0,.int .u64 (e8 (fun x=> !f x) 0:Nat)),(1,.int .u64 (e8 (fun x=> !f x) 1:Nat)),(2,.int .u64 (e8 (fun x=> !f x) 2:Nat)),(3,.int .u64 (e8 (fun x=> !f x) 3:Nat))]) (L:= [.int .u64 (e8 (fun x=> !f x) 0:Nat),.int .u64 (e8 (fun x=> !f x) 1:Nat),.int .u64 (e8 (fun x=> !f x) 2:Nat),.int .u64 (e8 (fun x=> !f x) 3:Nat)]) Fo aa<|aa)<|e<|dj pF aa (vs:=eO fun x=> !f x) aa aa aa E az fun ac I G=>nl<|C<|rt<|uQ aa (dT aa kO aa fun j V=>by rw [gW]; exact G.aR j)<|⟨aa,Md.trans' (Md.trans q.md a.md) I fun k hk h=>by have :=q.md.size; omega⟩
theorem IY (f:UInt8→Bool) (c:UInt8) (ci:Int) (w:World) (a:(c.toNat:Int)=ci):bp aw 251 (bh [.agg (eO<|f).toArray,.int .u8 ci]) w (fun v w'=>v= .bool (f c)∧Wk w w'):=by
 subst a; exact IX f c w
theorem FE (f:UInt8→Bool) (w:World):
 bp aw 280 (bh [.agg (eO<|f).toArray]) w (fun v w'=>bw w' w.heap.size 5 1 (v) (bytesOf f).length (U8<|bytesOf f)∧Wk w w'):=by
 refine enter func280 aa ntmps280 aa<|ag fun Z=>e<|iZ aa fun an U aM M ao=>ay<|Z<|ag fun ac=>ay<|ac<|aB fun ae=>ag fun ah=>p mv<|nl<|ah<|aJ<|lp (fun V J I=> ∃ (i:Nat) (a:Value),(i≤256)∧(bw I U.heap.size 5 1 (a) (l0 f i).length<|U8<|l0 f i)∧(Wk U I)∧(J 1=aT an)∧(J 3=a)∧(J 5=ak i)∧(256 - i=V)) _ ⟨0,.slice none 0 0,ab,(dC _ _ _ _),(Md.refl _ _),aa,aa,aa,aa⟩ ?_
 rintro V J I ⟨i,a,hi,G,A,aD,aF,aG,rfl⟩
 refine fx 1 aD<|fx 3 aF<|fx 5 aG ?_
 have aL:Wk w I:=Md.trans M.md A
 have aP:=qo f i
 have aV:=A.size
 refine ag fun ai=>p (lt aa aa)<|nl<|ai<|aB fun aj=>cd aa (fun az=> ?_) fun az=> ?_
 refine aQ<|aj<|aB fun C=>aJ<|ag fun al=>au (ak i)<|p (cU (ak i) aa)<|nl<|al<|ag fun am=>p (di kO aa (aa) fun j aU=>by rw [gW]; exact (A.B ao).aR j)<|au (ak i)<|p (lM u5 qW aa<|tV ab)<|e<|cl AO (IY f (UInt8.ofNat i) _ _<|zn i ab) aa fun v11 aY ax=> ?_
 obtain ⟨rfl,q⟩:=ax
 refine nl<|am<|cb aa (fun O=> ?_) fun O=> ?_
 refine rg aa<|au (a)<|au (ak i)<|p (lM u5 qW aa<|tV ab)<|e<|fZ il aa aa fun aK aZ aN E aq=>e<|ap il (a6 (a6 G q) E.md) aa (by have :=q.size; have :=E.md.size; omega) aa (aO.ec aq) (aa) (aa) ab ab fun aH aI Y av aW aS=> ?_
 rw [← zn i ab] at Y
 have aC:=qP Y
 have ar:Wk U aI:=Wk.own (Md.trans (Md.trans A q) E.md) (a6 (a6 G q) E.md) av<|cD _
 exact p aE<|nl<|bn<|C<|rg aa<|p (ad aa aa<|bY ab)<|p mv<|nl<|tn<|⟨_,ab,i+1,aH,ab,(by rw [sU,if_pos O]; exact aC),ar,aa,aa,aa,aa⟩
 exact aQ<|bn<|C<|rg aa<|p (ad aa aa<|bY ab)<|p mv<|nl<|tn<|⟨_,ab,i+1,a,ab,(by rw [sU,if_neg (by rw [O]; exact eo),ei]; exact a6 G q),(Md.trans A q),aa,aa,aa,aa⟩
 refine ext<|bf<|bf<|be<|ae<|ag fun C=>au (a)<|p (cU (a) aa)<|nl<|C<|rt<|aX aa ?_
 have aA:i=256:=ab
 subst aA
 exact ⟨eE G M.md.size,Md.trans M.md A⟩
theorem RI (s:List UInt8) (w:World) (hs:s.length≤1048576):
 bp aw 250 (bh [str s]) w (fun v w'=>v= .agg (eO fun x=>decide (x∈s)).toArray∧Wk w w'):=by
 refine enter func250 aa ntmps250 aa<|ag fun Z=>e<|al sd fun E aP aL V I=>nl<|Z<|ag fun ac=>e<|al sd fun q aK aN Y ao=> ?_
 have ap:bP aK.heap q (eO fun x=>decide (x∈s.take 0)):=by rw [show (fun x=>decide (x∈s.take 0))=(fun _:UInt8=>false) from funext fun x=>by simp,Bb]; exact ao
 refine nl<|ac<|aB fun ae=>ag fun ah=>au (str s)<|p (cz u9 aa aa)<|p mv<|nl<|ah<|aJ ?_
 have aM:=I.lt
 refine lp (fun G a A=> ∃ (i:Nat),(i≤s.length)∧(bP A.heap q<|eO fun x=>decide (x∈s.take i))∧(bP A.heap E [.int .u64 0,.int .u64 0,.int .u64 0,.int .u64 0])∧(Wk w A)∧(a 0=str s)∧(a 2=aT E)∧(a 3=aT q)∧(a 6=ak (s.length))∧(a 7=ak i)∧(s.length - i=G)) _ ⟨0,ab,ap,(Y.md.B I),(Md.trans V.md Y.md),aa,aa,aa,aa,aa,aa⟩ ?_
 rintro G a A ⟨i,hi,J,M,O,aC,aD,aE,aF,aG,rfl⟩
 refine fx 0 aC<|fx 2 aD<|fx 3 aE<|fx 6 aF<|fx 7 aG<|ag fun ai=>p (lt aa aa)<|nl<|ai<|aB fun aj=>cd aa (fun ay=> ?_) fun ay=> ?_
 refine aQ<|aj<|aB fun C=>aJ<|ag fun am=>au (ak i)<|p (cU (ak i) aa)<|nl<|am<|rg aa<|au (str s)<|au (ak i)<|p (eX u9 aa aa ab)<|e<|cl F8 (KE q (s.getD i 0) _ _ J) aa fun aO aI ax=> ?_
 obtain ⟨rfl,an,U⟩:=ax
 have ar:Wk w aI:=Md.trans' O U fun k hk h=>by have :=V.md.size; omega
 exact nl<|bn<|C<|rg aa<|p (ad aa aa<|bY ab)<|p mv<|nl<|tn<|⟨_,ab,i+1,ab,(by rw [Rz (fun x=>(U2 (show i < s.length by omega) x).symm)]; exact an),(U.B M fun h=>by omega),ar,aa,aa,aa,aa,aa,aa⟩
 refine ext<|bf<|bf<|be<|ae<|ag fun C=>p (di kO aa (aa) fun j aA=>by rw [gW]; exact (J).aR j)<|e<|dj pF aa (vs:=eO fun x=>decide (x∈s.take i)) aa aa aa M az fun aS av aq=>nl<|C<|rt<|uQ aa (dT aa kO aa fun j aA=>by rw [gW]; exact aq.aR j) ?_
 have aH:s.take i=s:=eU ab
 rw [aH]
 exact ⟨aa,Md.trans' O av fun k hk h=>by omega⟩
theorem U4 (s:List UInt8) (c:UInt8) (w:World):
 bp aw 248 (bh [str s,.int .u8 c.toNat]) w (fun v w'=>v= .int .i64 (fj c s)∧Wk w w'):=by
 exact enter func248 aa ntmps248 aa<|ag fun a=>ay<|a<|ag fun i=>au (str s)<|au (.int .u8 c.toNat)<|e<|cl Gi (Jc s c _) aa fun A C q=>ay<|i<|rt<|aX aa<|q
theorem RZ (s pr:List UInt8) (w:World) (hs:s.length≤1099511627776) (J:pr.length≤1099511627776):
 bp aw 270 (bh [str s,str pr]) w (fun v w'=>v= .tuple #[str (gC s pr),.bool (decide (s.take pr.length=pr))]∧Wk w w'):=by
 refine enter func270 aa ntmps270 aa<|ag fun C=>p aE<|ay<|C<|aB fun E=>aB fun G=>rg aa<|au (str s)<|au (str pr)<|e<|cl AM (Cq s pr _ hs J) aa fun O U I=> ?_
 obtain ⟨rfl,A⟩:=I
 refine p (no aa)<|nl<|G<|cb aa (fun q=> ?_) fun q=> ?_
 have a:¬s.take pr.length=pr:=by simpa using q
 exact ag fun i=>au (str s)<|p (cU (str s) aa)<|ay<|i<|rt<|tr<|f2 aa aa aa<|⟨by unfold gC; rw [if_neg a,decide_eq_false a]; rfl,A⟩
 have a:s.take pr.length=pr:=by simpa using q
 have M:=De a
 exact aQ<|E<|ag fun i=>au (str s)<|au (str pr)<|p (cz u9 aa aa)<|p (mh u9 aa aa ab)<|p aE<|ay<|i<|rt<|f2 aa aa aa<|⟨by unfold gC; rw [if_pos a,decide_eq_true a]; rfl,A⟩
theorem R5 (s pr:List UInt8) (w:World) (hs:s.length≤1099511627776) (C:pr.length≤1099511627776):
 bp aw 249 (bh [str s,str pr]) w (fun v w'=>v= .tuple #[str (gC s pr),.bool (decide (s.take pr.length=pr))]∧Wk w w'):=by
 refine enter func249 aa ntmps249 aa<|ag fun a=>p aE<|ay<|a<|ag fun i=>au (str s)<|au (str pr)<|e<|cl P8 (RZ s pr _ hs C) aa fun E G A=> ?_
 obtain ⟨rfl,q⟩:=A
 exact p (xt aa aa)<|p (xt aa aa)<|p aE<|ay<|i<|rt<|f2 aa aa aa<|⟨aa,q⟩
theorem Y3 (s pr:List UInt8):(gC s pr).length≤s.length:=by unfold gC; split <;> simp
def jl (s:List UInt8) (k:Nat):List UInt8:=(s.drop k).take<|(s.drop k).idxOf 93
theorem OU (s:List UInt8) (k:Nat):(jl s k).length≤s.length:=by unfold jl; rw [dQ,fT]; omega
theorem OT (s:List UInt8) (k:Nat):(s.take<|k+(s.drop k).idxOf 93).drop k=jl s k:=by
 rw [su,Nat.add_sub_cancel_left]; rfl
def qn (s:List UInt8) (k:Nat):UInt8→Bool:=fun x=>if (jl s k).take 1= [94] then !decide (x∈gC (jl s k) [94]) else decide (x∈gC (jl s k) [94])
theorem OX {s:List UInt8} {k:Nat} (h:(jl s k).take [(94:UInt8)].length= [94]):qn s k=fun x=> !decide (x∈gC (jl s k) [94]):=by
 funext x; exact if_pos h
theorem OY {s:List UInt8} {k:Nat} (h:¬(jl s k).take [(94:UInt8)].length= [94]):qn s k=fun x=>decide (x∈gC (jl s k) [94]):=by
 funext x; exact if_neg h
theorem OV (s:List UInt8) (k:Nat) (w:World) (hs:s.length≤1048576) (hk:k≤s.length):
 bp aw 207 (bh [str s,ak k]) w (fun v w'=>(∃ f,v= .tuple #[.agg (eO f).toArray,.int .i64 (if fj 93 (s.drop k) < 0 then 0 else ((k+(s.drop k).idxOf 93 +1:Nat):Int)),.bool (!decide (fj 93 (s.drop k) < 0) && decide (gC (jl s k) [94]≠[]))]∧(¬fj 93 (s.drop k) < 0→f=qn s k))∧Wk w w'):=by
 refine enter func207 aa ntmps207 aa<|ag fun aq=>e<|al sd fun ac bq a7 G E=>p aE<|ay<|aq<|aB fun ar=>rg aa<|au (str s)<|au (ak k)<|p (mh u9 aa aa ab)<|e<|cl P1 (U4 (s.drop k) 93 _) aa fun bd bj aS=> ?_
 obtain ⟨rfl,a⟩:=aS
 have ba:(s.drop k).length=s.length - k:=fT
 refine ay<|ar<|aB fun av=>ag fun ax=>p mv<|p (lt aa aa)<|nl<|ax<|cd aa (fun i=> ?_) fun i=> ?_
 refine ag fun J=>p (Ft (ps:= []) (L:= [.int .u64 0,.int .u64 0,.int .u64 0,.int .u64 0]) Fo aa<|aa)<|e<|dj pF aa (vs:=eO fun _=>false) (by rw [Bb]; rfl) aa aa (a.B E) az fun bn aO aD=>p aE<|ay<|J<|rt<|tr<|HG aa (dT aa kO aa fun j Y=>by rw [gW]; exact aD.aR j) ej ej ?_
 refine ⟨⟨fun _=>false,by rw [if_pos i,decide_eq_true i]; rfl,fun h=>absurd i h⟩,Md.trans' (Md.trans G.md a) aO fun k hk h=>by omega⟩
 have bb:=rM (c:=93) (l:=s.drop k) i
 have a9:(jl s k).length≤s.length:=OU s k
 refine aQ<|av<|aB fun J=> ?_
 have ap:=OT s k
 refine rg aa<|au (str s)<|au (ak k)<|au (ak k)<|p mv<|p (bF ((k+(s.drop k).idxOf 93:Nat):Int) aa aa<|bl ab ab)<|p (mg u9 aa aa aa ab)<|e<|cl P2 (R5 ((s.take<|k+(s.drop k).idxOf 93).drop k) [94] _ (by rw [ap]; omega) az) aa fun bf bk ao=> ?_
 rw [ap] at ao
 obtain ⟨rfl,A⟩:=ao
 have bc:=Y3 (jl s k) [94]
 refine p mv<|p (xt aa aa)<|p (xt aa aa)<|p aE<|ay<|J<|aB fun aA=>rg aa<|p mv<|e<|cl P3 (RI (gC (jl s k) [94]) _ ab) aa fun bg bm aU=> ?_
 obtain ⟨rfl,C⟩:=aU
 refine e<|al sd fun Z a2 a6 an aC=> ?_
 have aK:Wk w a2:=Md.trans G.md<|Md.trans a<|Md.trans A<|Md.trans C an.md
 have ae:=an.md.B<|C.B<|A.B<|a.B E
 have a8:=ae.lt
 refine e<|dj pF aa (vs:=eO fun x=>decide (x∈gC (jl s k) [94])) aa aa aa aC az fun a3 aj O=> ?_
 have ai:Wk w a3:=Md.trans' aK aj fun k hk h=>by have :=G.md.size; have :=a.size; have :=A.size; have :=C.size; omega
 have ah:=aj.B ae fun h=>by have :=E.lt; have :=a.size; have :=A.size; have :=C.size; omega
 refine nl<|aA ?_
 refine ep (fun q I=>(bP I.heap Z<|eO<|qn s k)∧(bP I.heap ac [.int .u64 0,.int .u64 0,.int .u64 0,.int .u64 0])∧(Wk w I)∧(q 0=str s)∧(q 1=ak k)∧(q 4=aT ac)∧(q 7= .int .i64 (fj 93<|s.drop k))∧(q 8=str (gC (jl s k) [94]))∧(q 10=aT Z)) ?_ ?_
 refine ag fun M=>p mv<|nl<|M<|cb aa (fun V=> ?_) fun V=> ?_
 refine rg aa<|p (di kO aa (aa) fun j Y=>by rw [gW]; exact (O).aR j)<|e<|cl AK (C4 (fun x=>decide (x∈gC (jl s k) [94])) _) aa fun bi bo aV=> ?_
 obtain ⟨rfl,U⟩:=aV
 refine e<|dj pF aa (vs:=eO fun x=> !decide (x∈gC (jl s k) [94])) aa aa aa (U.B O) (cD 4) fun a4 am aG=> ?_
 have aL:Wk w a4:=Md.trans' (Md.trans ai U) am fun k hk h=>by have :=G.md.size; have :=a.size; have :=A.size; have :=C.size; omega
 have aF:=am.B (U.B ah) fun h=>by have :=E.lt; have :=a.size; have :=A.size; have :=C.size; omega
 exact nl<|tn<|⟨(by rw [OX (by simpa using V)]; exact aG),aF,aL,aa,aa,aa,aa,aa,aa⟩
 exact aQ<|tn<|⟨(by rw [OY (by simpa using V)]; exact O),ah,ai,aa,aa,aa,aa,aa,aa⟩
 rintro q I ⟨aI,aJ,aN,aW,aX,aZ,a0,a1,aY⟩
 refine fx 0 aW<|fx 1 aX<|fx 4 aZ<|fx 7 a0<|fx 8 a1<|fx 10 aY<|ag fun M=>p (di kO aa (aa) fun j Y=>by rw [gW]; exact (aI).aR j)<|au (ak k)<|au (.int .i64<|fj 93<|s.drop k)<|p (bF ((k+(s.drop k).idxOf 93:Nat):Int) aa aa<|bl ab ab)<|p (bF ((k+(s.drop k).idxOf 93 +1:Nat):Int) aa aa<|bl ab ab)<|au (str<|gC (jl s k) [94])<|p (oQ aa aa)<|e<|dj pF aa (vs:=eO<|qn s k) aa aa aa aJ az fun a5 aP aH=> ?_
 have aM:Wk w a5:=Md.trans' aN aP fun k hk h=>by omega
 refine p aE<|ay<|M<|rt<|HG aa (dT aa kO aa fun j Y=>by rw [gW]; exact aH.aR j) ej ej ?_
 refine ⟨⟨qn s k,by rw [if_neg i,decide_eq_false i]; rfl,fun _=>rfl⟩,aM⟩
theorem U3 (l:List UInt8) (a:Option Addr) (n c:Nat) (x:UInt8) (w:World) (G:aO w.heap a (U8 l)) (hn:l.length=n) (aq:n≤1048576):
 bp aw 281 (bh [.slice a n c,.int .u8 x.toNat]) w (fun v w'=>v= .int .i64 (fj x l)∧Wk w w'):=by
 refine enter func281 aa ntmps281 aa<|ag fun O=>ay<|O<|aB fun U=>ag fun V=>au (.slice a n c)<|p (bJ mS aa aa)<|p mv<|nl<|V<|aJ<|lp (fun E q M=> ∃ (i:Nat),(i≤n)∧(∀ j,j < i→l.getD j 0≠x)∧(M=w)∧(q 0= .slice a n c)∧(q 1= .int .u8 x.toNat)∧(q 7=ak n)∧(q 8=ak i)∧(n - i=E)) _ ⟨0,ab,(fun j J=>by omega),aa,aa,aa,aa,aa,aa⟩ ?_
 rintro E q M ⟨i,hi,C,ai,al,am,an,ao,rfl⟩
 refine fx 0 al<|fx 1 am<|fx 7 an<|fx 8 ao ?_
 subst ai
 refine ag fun Y=>p (lt aa aa)<|nl<|Y<|aB fun Z=>cd aa (fun aj=> ?_) fun aj=> ?_
 refine aQ<|Z<|aB fun A=>aJ<|ag fun ac=>au (ak i)<|p (cU (ak i) aa)<|nl<|ac<|ag fun ae=>au (.int .u8 x.toNat)<|au (.slice a n c)<|au (ak i)<|p (bc l6 aa aa ab<|aO.ok (G)<|pX ab)<|p (ld pB aa<|pW (i:=i) G ab)<|p (bK aa aa)<|nl<|ae<|cd aa (fun I=> ?_) fun I=> ?_
 have ap:l.getD i 0=x:=k6.1 ab
 exact ag fun ah=>au (ak i)<|p (cU (ak i) aa)<|nl<|ah<|rt<|br<|tr<|tr<|br<|tr<|aX aa<|⟨by rw [Ji (show i < l.length by omega) C ap]; rfl,Md.refl _ _⟩
 exact aQ<|bn<|A<|rg aa<|p (ad aa aa<|bY ab)<|p mv<|nl<|tn<|⟨_,ab,i+1,ab,(fun j J=>by rcases fu j i with h | h <;> first | exact C j h | (rw [show j=i by omega]; exact fun h2=>I<|by rw [h2])),aa,aa,aa,aa,aa,aa⟩
 exact ext<|bf<|bf<|be<|U<|ag fun A=>p aE<|nl<|A<|rt<|aX aa<|⟨by rw [Jj (fun j J=>C j ab)]; rfl,Md.refl _ _⟩
theorem Ss (l:List UInt8) (i j:Nat) (B n cp a:Nat) (w:World) (C:bw w B 5 1 (.slice (some ⟨a,0,none⟩) n cp) n (U8 l)) (al:i < j∧j≤n) (an:n≤1048576):
 bp aw 282 (bh [.slice (some ⟨a,0,none⟩) n cp,ak i,ak j]) w (fun v w'=>v= .slice (some ⟨a,0,none⟩) (i+(n - j)) cp∧bw w' B 5 1 (.slice (some ⟨a,0,none⟩) (i+(n - j)) cp) (i+(n - j)) (U8<|l.take i++l.drop j)∧Md (fun q=>q=a) w w'):=by
 have am:=DR C
 have ai:=(ba C).1
 refine enter func282 aa ntmps282 aa<|ag fun E=>ay<|E<|ag fun G=>au (.slice (some ⟨a,0,none⟩) n cp)<|au (ak i)<|au (ak j)<|au (.slice (some ⟨a,0,none⟩) n cp)<|p (bJ mS aa aa)<|p (Yi l6 aa aa aa aa ab)<|nl<|G<|aB fun I=>ag fun J=>au (ak i)<|au (ak j)<|p (bK aa aa)<|nl<|J<|cd aa (fun h=>absurd h ab) fun ah=>aQ<|I<|ag fun M=>au (.slice (some ⟨a,0,none⟩) n cp)<|p (bJ mS aa aa)<|p aE<|nl<|M<|aB fun O=> ?_
 have A:(fun w'=>Wk w w') w.drew:=(Md.refl _ _).drew
 refine eR (fun w'=>Wk w w') 6 aa wide A<|bE 0 aa (.slice (some ⟨a,0,none⟩) n cp) A<|bE 1 aa (ak i) A<|bB 2 aa (fun _=>vN l6 aa aa ab) (fun _=>A)<|bE 3 aa (.slice (some ⟨a,0,none⟩) n cp) A<|bE 4 aa (ak j) A<|bB 5 aa (fun _=>vO l6 aa aa ab) (fun _=>A)<|dO 6 aa aj aj<|OH (B:=B) (xs:=U8<|l.take i) (news:=U8<|l.drop j) (n:=i) (m:=n - j) il (C5 (a6 C A) ab ab) aa aa (show aO _ (gv (some ⟨a,0,none⟩) cp j 1) (U8<|l.drop j) from Zc<|a6 C A) (by unfold gv; split <;> simp) (by rw [xj,fT]; omega) (Oh _) ab fun ao Y ac=>bB 7 aa (fun _=>aE) (fun h=>eo<|(show true =_ from by kernel_rfl).trans h)<|eQ aj<|O<|ag fun U=>au (.slice (some ⟨a,0,none⟩) (i+(n - j)) cp)<|au (.slice (some ⟨a,0,none⟩) (i+(n - j)) cp)<|p (bJ mS aa aa)<|p mv<|p (Yj l6 aa aa aa ab) ?_
 exact e<|Rq mS Z2 aa ac (by simp) aa ab fun ap Z ae=>nl<|U<|ag fun V=>au (.slice (some ⟨a,0,none⟩) (i+(n - j)) cp)<|p (cU (.slice (some ⟨a,0,none⟩) (i+(n - j)) cp) aa)<|nl<|V<|rt<|aX aa<|⟨aa,by rw [xi]; exact ae,Md.trans (A.mono fun _ _ h=>h.elim)<|Md.trans Y<|Z.mono fun q _ h=>by simpa [Value.ownBlock] using h.symm⟩
end Go.Hb.ox
section
namespace Go.Hb
open Go.Hb.ox
theorem Fv {s:List UInt8} {k:Nat} (h:(s.drop k).idxOf 93 < (s.drop k).length):gC (jl s k) [94]≠[]↔(s.drop k).idxOf 93≠0∧¬((s.drop k).idxOf 93=1∧(s.drop k).getD 0 0=94):=by
 unfold jl gC
 generalize i:s.drop k=l at*
 cases l with
 | nil=>simp at h
 | cons b r=>
   generalize hm:(b::r).idxOf 93=m at*
   cases m with
   | zero=>simp
   | succ m=>
     simp only [c7] at h
     simp only [qe,e9,ow,lT,wO,wP]
     by_cases a:b=94
     · subst a
       rw [if_pos rfl]
       cases m with
       | zero=>simp
       | succ m=>
         cases r with
         | nil=>simp at h
         | cons x r=>simp
     · rw [if_neg (by simpa using a)]
       simp [a]
theorem OZ {s:List UInt8} {k:Nat} (h:(s.drop k).idxOf 93 < (s.drop k).length) (A:(s.drop k).idxOf 93≠0):qn s k=cJ (91::(s.drop k).take ((s.drop k).idxOf 93 +1)):=by
 funext x
 unfold qn jl gC cJ
 generalize E:s.drop k=l at*
 cases l with
 | nil=>simp at h
 | cons b r=>
   generalize hm:(b::r).idxOf 93=m at*
   cases m with
   | zero=>exact absurd rfl A
   | succ m=>
     simp only [c7] at h
     have C:(91::sw (m+1 +1) (b::r)).length=m+3:=by simp only [c7,dQ]; omega
     rw [C,if_neg (show ¬m+3=1 by omega)]
     have i:(91::sw (m+1 +1) (b::r)).getD 1 0=b:=rfl
     have q:sw (m+3 - 1) (91::sw (m+1 +1) (b::r))=91::sw (m+1) (b::r):=by
      show sw (m+2) (91::sw (m+2) (b::r))=_
      rw [qe,List.take_take,Nat.min_eq_left ab]
     rw [i,q]
     simp only [qe,ow,wO,wP,e9]
     by_cases a:b=94
     · subst a; simp
     · simp [a]
theorem SI:(fun x:UInt8=> !(fun _:UInt8=>false) x)=cJ [46]:=by funext x; simp [cJ]
theorem WB {c:UInt8} (h:c≠46):(fun x:UInt8=>(fun _:UInt8=>false) x || decide (x=c))=cJ [c]:=by
 funext x
 simp only [cJ,e9,if_true,Bool.false_or,lT]
 exact decide_eq_decide.2 ⟨fun h1=> .inr h1.symm,fun h1=>(h1.resolve_left h).symm⟩
theorem GG {ps:List (List UInt8)} (h:0 < ps.length):lj ps≠[]:=BL (f:=fun t=>eO<|cJ t) (m:=4) (fun _=>rfl) az h
theorem GF {h:Array Obj} {a:Option Addr} {ps:List (List UInt8)} {i:Nat} (q:aO h a (lj ps)) (hi:i < ps.length):∀ j,j < 4→Hb.aR h (bk a) (fo a+i*4 +j)=(eO<|cJ<|ps.getD i [])[j]? :=by
 have :=fA (f:=fun t=>eO<|cJ t) (m:=4) (fun _=>rfl) q<|cI hi
 rw [da,cI hi]; exact this
theorem yC {b:UInt8} (h:(b.toNat:Int)=91):b=91:=k6.1 (by have :(91:UInt8).toNat=91:=rfl; omega)
theorem vy {b:UInt8} (h:¬(b.toNat:Int)=91):b≠91:=by rintro rfl; exact h rfl
theorem Cw {b:UInt8} (h:(b.toNat:Int)=46):b=46:=k6.1 (by have :(46:UInt8).toNat=46:=rfl; omega)
theorem CW {b:UInt8} (h:¬(b.toNat:Int)=46):b≠46:=by rintro rfl; exact h rfl
theorem Ks {w:World} {B:Nat} {v:Value} {l:List (List UInt8)} {x:List UInt8} (h:w.ownsRow B 325 4 v (l.length+1) (lj l++eO (cJ x))):w.ownsRow B 325 4 v (l++ [x]).length (lj<|l++ [x]):=by
 rw [bM,Rv]; simpa [lj] using h
theorem Su (l:List UInt8) (i j:Nat) (A C:Int) (B n cp a:Nat) (w:World) (E:bw w B 5 1 (.slice (some ⟨a,0,none⟩) n cp) n (U8 l)) (G:i < j∧j≤n) (J:n≤1048576) (hi:A=(i:Nat)) (I:C=(j:Nat)):
 bp aw 282 (bh [.slice (some ⟨a,0,none⟩) n cp,.int .i64 A,.int .i64 C]) w (fun v w'=>v= .slice (some ⟨a,0,none⟩) (i+(n - j)) cp∧bw w' B 5 1 (.slice (some ⟨a,0,none⟩) (i+(n - j)) cp) (i+(n - j)) (U8<|l.take i++l.drop j)∧Md (fun q=>q=a) w w'):=by
 subst hi I; exact Ss l i j B n cp a w E G J
theorem X9 (f:UInt8→Bool) (w:World):
 bp aw 267 (bh [.agg (eO<|f).toArray]) w (fun v w'=>v=str (gS f)∧Wk w w'):=by
 have bQ:(bytesOf f).length≤256:=qo f 256
 have bR:(bytesOf fun x=> !f x).length≤256:=qo _ 256
 refine enter func267 aa ntmps267 aa<|ag fun aZ=>e<|iZ aa fun a5 ax al Y aC=>ay<|aZ<|ag fun a0=>p (di kO aa (aa) fun j aL=>by rw [gW]; exact (aC).aR j)<|e<|cl Gj (FE f _) aa fun v6 aU bq=> ?_
 obtain ⟨ae,ak⟩:=bq
 obtain ⟨q,a,rfl⟩:=cE ae
 have E:=(ba ae).2
 have V:Wk w aU:=Md.trans Y.md ak
 have aD:=ak.B aC
 refine ay<|a0<|aB fun a1=>aJ<|ag fun a3=>au (.slice q (bytesOf f).length a)<|p (bJ mS aa aa)<|p (bK aa aa)<|ay<|a3<|cd aa (fun bt=> ?_) fun bt=> ?_
 exact ag fun G=>ay<|G<|rt<|br<|tr<|aX aa<|⟨by unfold gS; rw [if_pos (show (bytesOf f).length=256 by omega)]; rfl,V⟩
 refine ep (fun ai aW=> ∃ (aj:Bool),(aj=decide ((bytesOf f).length=1∧(bytesOf f).getD 0 0≠46∧(bytesOf f).getD 0 0≠91))∧(aW=aU)∧(ai 1=aT a5)∧(ai 3= .slice q (bytesOf f).length a)∧(ai 11= .bool aj)) ?_ ?_
 refine rg aa<|au (.slice q (bytesOf f).length a)<|p (bJ mS aa aa)<|p (bK aa aa)<|p mv<|gs (t:=15) aa (fun bv=> ?_) fun bv=> ?_
 refine aM aa (aV (.slice q (bytesOf f).length a) aa)<|aM aa (bc l6 aa aa ab<|aO.ok (E)<|pX ab)<|aM aa (ld pB aa<|pW (i:=0) E ab)<|aM aa (cO aa aa)<|p (bC aa)<|p mv<|gs (t:=21) aa (fun aK=> ?_) fun aK=> ?_
 exact aM aa (aV (.slice q (bytesOf f).length a) aa)<|aM aa (bc l6 aa aa ab<|aO.ok (E)<|pX ab)<|aM aa (ld pB aa<|pW (i:=0) E ab)<|aM aa (cO aa aa)<|p (bC aa)<|p aE<|nl<|tn<|⟨_,(by first | exact decide_eq_decide.2 ⟨fun h=>⟨ab,by first | exact CW ab | exact fun h=>by omega,by first | exact vy ab | exact fun h=>by omega⟩,fun h=>by have h1:=h.2.2; exact fun h2=>h1<|yC h2⟩ | rfl),aa,aa,aa,aa⟩
 exact aI aa<|aI aa<|aI aa<|aI aa<|p (bu aa)<|p aE<|nl<|tn<|⟨false,((decide_eq_false fun h=>h.2.1<|Cw<|Decidable.of_not_not aK).symm),aa,aa,aa,aa⟩
 exact aI aa<|aI aa<|aI aa<|aI aa<|p (bu aa)<|p mv<|aI aa<|aI aa<|aI aa<|aI aa<|p (bu aa)<|p aE<|nl<|tn<|⟨false,((decide_eq_false fun h=>by omega).symm),aa,aa,aa,aa⟩
 rintro ai aW ⟨aj,al,bg,bB,bE,bD⟩
 refine fx 1 bB<|fx 3 bE<|fx 11 bD ?_
 subst bg
 refine cb aa (fun am=> ?_) fun am=> ?_
 have ah:(bytesOf f).length=1∧(bytesOf f).getD 0 0≠46∧(bytesOf f).getD 0 0≠91:=of_decide_eq_true<|al ▸ am
 exact ag fun G=>au (.slice q (bytesOf f).length a)<|p (na m8 aa (E)<|by simp)<|ay<|G<|rt<|br<|tr<|aX aa<|⟨by unfold gS; rw [if_neg (show ¬(bytesOf f).length=256 by omega),if_pos ah]; rfl,V⟩
 have ah:¬((bytesOf f).length=1∧(bytesOf f).getD 0 0≠46∧(bytesOf f).getD 0 0≠91):=of_decide_eq_false<|al ▸ am
 refine ag fun G=>p (di kO aa (aa) fun j aL=>by rw [gW]; exact (aD).aR j)<|e<|cl AO (IY f 93 _ _ rfl) aa fun v31 b0 bj=> ?_
 obtain ⟨rfl,A⟩:=bj
 refine ay<|G<|cb aa (fun an=> ?_) fun an=> ?_
 refine ag fun I=>p (di kO aa (aa) fun j aL=>by rw [gW]; exact (A.B aD).aR j)<|e<|cl AK (C4 f _) aa fun bV b1 bk=> ?_
 obtain ⟨rfl,a8⟩:=bk
 refine e<|cl Gj (FE (fun x=> !f x) _) aa fun bW b2 bl=> ?_
 obtain ⟨aP,a9⟩:=bl
 obtain ⟨bL,bO,rfl⟩:=cE aP
 exact p (na m8 aa ((ba aP).2)<|aa)<|p (cc aa aa<|by simp only [c7,fU]; omega)<|p (cc aa aa<|by simp only [c7,fU,bM]; omega)<|ay<|I<|rt<|br<|tr<|aX aa<|⟨by unfold gS; rw [if_neg (show ¬(bytesOf f).length=256 by omega),if_neg ah,if_pos an]; rfl,Md.trans V<|Md.trans A<|Md.trans a8 a9⟩
 refine aQ<|bn<|a1 ?_
 refine ep (fun aY aA=> ∃ (J:Option Addr) (C M:Nat),(((bytesOf f).filter (fun b=>decide (b≠94))++(if 94∈(bytesOf f) then [94] else [])).length=C)∧(bw aA ax.heap.size 5 1 (.slice J C M) C<|U8<|(bytesOf f).filter (fun b=>decide (b≠94))++(if 94∈(bytesOf f) then [94] else []))∧(Wk w aA)∧(C≤300)∧(aY 3= .slice J C M)) ?_ ?_
 refine ag fun I=>au (.slice q (bytesOf f).length a)<|e<|cl Qb (U3 (bytesOf f) q _ a 94 _ (E.wk A) aa ab) aa fun bX bG bm=> ?_
 obtain ⟨rfl,U⟩:=bm
 have aF:Wk w bG:=Md.trans V<|Md.trans A U
 refine ay<|I<|ag fun a4=>p mv<|p (ge aa aa)<|nl<|a4<|cd aa (fun bs=> ?_) fun bs=> ?_
 have ao:=rM (c:=94) (l:=bytesOf f) ab
 have aq:=a6 (a6 ae A) U
 obtain ⟨O,rfl⟩:=WN aq ab
 refine rg aa<|au (.slice (some ⟨O,0,none⟩) (bytesOf f).length a)<|p mv<|p mv<|p (ad aa aa<|bY ab)<|e<|cl Qc (Su (bytesOf f) ((bytesOf f).idxOf 94) ((bytesOf f).idxOf 94 +1) _ _ ax.heap.size _ a O _ aq ab ab ab ab) aa fun v46 bH bo=> ?_
 obtain ⟨rfl,ar,aH⟩:=bo
 have bb:Wk w bH:=Md.trans' aF aH fun k hk h=>by have :=dS aq (show (bS (some ⟨O,0,none⟩) _ a).ownBlock=some O from rfl); have :=Y.md.size; omega
 have bx:=DR ar
 refine e<|fZ il aa aa fun bN b3 bP Z a7=>e<|ap il (a6 ar Z.md) aa (by have :=Y.md.size; have :=ak.size; have :=A.size; have :=U.size; have :=aH.size; have :=Z.md.size; omega) aa (aO.ec a7) (aa) (aa) ab ab fun bZ bI av bi bU bT=> ?_
 have bd:=Wk.own (Md.trans bb Z.md) (a6 ar Z.md) bi Y.md.size
 rw [UZ (O3 f) ao.2] at bx av
 obtain ⟨a2,c2,rfl⟩:=cE av
 have aS:bw bI ax.heap.size 5 1 (.slice a2 (((bytesOf f).idxOf 94 +((bytesOf f).length - ((bytesOf f).idxOf 94 +1)))+1) c2) (((bytesOf f).idxOf 94 +((bytesOf f).length - ((bytesOf f).idxOf 94 +1)))+1) (U8<|(bytesOf f).filter (fun b=>decide (b≠94))++ [94]):=by rw [xi]; exact av
 exact p aE<|nl<|tn<|⟨a2,_,c2,(by have :=DR aS; rw [if_pos (wU.1 ao.2)]; exact this),(by rw [if_pos (wU.1 ao.2)]; exact aS),bd,(ab),aa⟩
 have ac:¬(94:UInt8)∈bytesOf f:=fun h=>by have h1:fj 94 (bytesOf f)=(bytesOf f).idxOf 94:=if_pos (wU.2 h); omega
 exact aQ<|tn<|⟨q,(bytesOf f).length,a,(by rw [if_neg ac,Kh ac,ei]),(by rw [if_neg ac,Kh ac,ei]; exact a6 (a6 ae A) U),aF,(ab),aa⟩
 rintro aY aA ⟨J,C,M,aN,bA,bf,bz,bF⟩
 refine fx 3 bF ?_
 have aG:((bytesOf f).filter (fun b=>decide (b≠94))++(if 94∈(bytesOf f) then [94] else [])).length≤300:=by rw [aN]; exact bz
 exact ag fun I=>au (.slice J C M)<|p (na m8 aa ((ba bA).2)<|aN)<|p (cc aa aa<|gk (zX aG _) az)<|p (cc aa aa<|by rw [bM]; exact gk (Nat.add_le_add_right (zX aG _) _) az)<|p aE<|nl<|I<|rt<|aX aa<|⟨by unfold gS; rw [if_neg (show ¬(bytesOf f).length=256 by omega),if_neg ah,if_neg (show ¬f 93=true from by rw [an]; exact eo)]; rfl,bf⟩
theorem GR (s:List UInt8) (w:World) (hs:s.length≤1048576):
 bp aw 144 (bh [str s]) w (fun v w'=>(∃ a,v= .tuple #[.agg [a].toArray,ak ((dq s).2)]∧bw w' w.heap.size 325 4 (a) ((dq s).1).length (lj<|(dq s).1))∧Wk w w'):=by
 refine enter func144 aa ntmps144 aa<|ag fun b3=>e<|fg zw fun aD dR dx ae aq=>ay<|b3<|aB fun b8=>aB fun bt=>rg aa<|au (str s)<|p (dZ aa aa)<|p mv<|gs (t:=10) aa (fun U=> ?_) fun U=> ?_
 refine aI aa<|aI aa<|aI aa<|p (bC aa)<|nl<|bt<|ct aa<|aB fun am=>rg aa<|p (c8 (ps:= []) (L:= [.slice none 0 0]) vR aa<|aa)<|e<|gj qs aa (vs:= [.slice none 0 0]) aa aa aa aq az fun G A C=> ?_
 have E:Wk w G:=Md.trans' ae.md A fun k hk h=>by omega
 exact ay<|am<|rt<|tr<|eD aa (dT (cs:= [.slice none 0 0]) aa m4 aa fun j I=>by cases j with | zero=>exact (a7 C).trans aa | succ j=>omega) ej<|⟨⟨.slice none 0 0,by unfold dq; rw [if_pos (.inl U)]; rfl,by unfold dq; rw [if_pos (.inl U)]; exact dC _ _ _ _⟩,E⟩
 refine aM aa (aV (str s) aa)<|aM aa (cz u9 aa aa)<|aM aa (gt aa aa)<|p (bu aa)<|nl<|bt<|cd aa (fun cV=> ?_) fun cV=> ?_
 refine ag fun am=>p (c8 (ps:= []) (L:= [.slice none 0 0]) vR aa<|aa)<|e<|gj qs aa (vs:= [.slice none 0 0]) aa aa aa aq az fun G A C=> ?_
 have E:Wk w G:=Md.trans' ae.md A fun k hk h=>by omega
 exact ay<|am<|rt<|tr<|eD aa (dT (cs:= [.slice none 0 0]) aa m4 aa fun j I=>by cases j with | zero=>exact (a7 C).trans aa | succ j=>omega) ej<|⟨⟨.slice none 0 0,by unfold dq; rw [if_pos (.inr ab)]; rfl,by unfold dq; rw [if_pos (.inr ab)]; exact dC _ _ _ _⟩,E⟩
 refine aQ<|b8<|aB fun am=>ag fun b9=>au (str s)<|p (dZ aa aa)<|nl<|b9<|cd aa (fun ah=> ?_) fun ah=> ?_
 refine ag fun a5=>p (c8 (ps:= []) (L:= [.slice none 0 0]) vR aa<|aa)<|e<|gj qs aa (vs:= [.slice none 0 0]) aa aa aa aq az fun G A C=> ?_
 have E:Wk w G:=Md.trans' ae.md A fun k hk h=>by omega
 refine ay<|a5<|rt<|tr<|eD aa (dT (cs:= [.slice none 0 0]) aa m4 aa fun j I=>by cases j with | zero=>exact (a7 C).trans aa | succ j=>omega) ej ?_
 have bV:¬(s= []∨512 < s.length):=fun h=>h.elim U fun h=>by omega
 exact ⟨⟨.slice none 0 0,by unfold dq; rw [if_neg bV,if_pos ah]; rfl,by unfold dq; rw [if_neg bV,if_pos ah]; exact dC _ _ _ _⟩,E⟩
 refine aQ<|am<|ag fun a5=>e<|fg zw fun an du dA bR co=> ?_
 have cN:Wk w du:=Md.trans ae.md bR.md
 have dy:=(dB.1 aq).1
 have cn:=bR.md.aJ aq
 have hs:=hs
 refine nl<|a5<|aB fun ca=>ag fun cc=>ay<|cc<|aJ<|lp (fun bv aC Y=> ∃ (i:Nat) (q:List (List UInt8)) (aA:Value),(i≤s.length∧q.length≤i)∧(ks s i q)∧(Y.heap[an]? =some (.cells [aA].toArray 270 (0,0)))∧(Y.heap[aD]? =some (.cells [.slice none 0 0].toArray 270 (0,0)))∧(bw Y w.heap.size 325 4 (aA) (q).length<|lj<|q)∧(Wk w Y)∧(aC 0=str s)∧(aC 2=aT aD)∧(aC 4=aT an)∧(aC 5=ak i)∧(s.length - i=bv)) _ ⟨0,[],.slice none 0 0,(by simp),(ks.start s),co,cn,(dC _ _ _ _),cN,aa,aa,aa,(by first | rfl | exact iv<|if_neg ax),aa⟩ ?_
 rintro bv aC Y ⟨i,q,aA,hi,aX,aG,ar,V,Z,c5,c6,c7,c9,rfl⟩
 refine fx 0 c5<|fx 2 c6<|fx 4 c7<|fx 5 c9<|aB fun ce=>ag fun b4=>au (ak i)<|au (str s)<|p (cz u9 aa aa)<|p (lt aa aa)<|nl<|b4<|cd aa (fun cW=> ?_) fun cW=> ?_
 refine aQ<|ce<|aJ<|ag fun a1=>e<|al sd fun ao b2 bT aS cv=> ?_
 have aF:bP b2.heap ao (eO fun _=>false):=by rw [Bb]; exact cv
 have bc:Wk w b2:=Md.trans Z aS.md
 have ba:=aS.md.aJ aG
 have bb:=aS.md.aJ ar
 have bq:=a6 V aS.md
 have bT:ao=Y.heap.size:=bT
 have dw:=(dB.1 aG).1
 have dv:=(dB.1 ar).1
 have bm:=drop_cons (l:=s) (i:=i) 0 ab
 refine nl<|a1<|ag fun a2=>ay<|a2 ?_
 refine ep (fun aj ai=>(s.getD i 0≠91)∧(bP ai.heap ao<|eO<|cJ [s.getD i 0])∧(ai.heap[an]? =some (.cells [aA].toArray 270 (0,0)))∧(ai.heap[aD]? =some (.cells [.slice none 0 0].toArray 270 (0,0)))∧(bw ai w.heap.size 325 4 (aA) (q).length<|lj<|q)∧(Wk w ai)∧(aj 0=str s)∧(aj 2=aT aD)∧(aj 4=aT an)∧(aj 5=ak i)∧(aj 6=aT ao)) ?_ ?_
 refine ag fun M=>au (str s)<|au (ak i)<|p (eX u9 aa aa ab)<|nl<|M<|aJ<|ag fun b5=>p (bK aa aa)<|ay<|b5<|cd aa (fun aU=> ?_) fun aU=> ?_
 refine aB fun a3=>ag fun b6=>au (str s)<|au (ak i)<|p (bF ((i+1:Nat):Int) aa aa<|bl ab ab)<|e<|cl PK (OV s (i+1) _ hs ab) aa fun dP dt cS=> ?_
 obtain ⟨⟨ch,rfl,cY⟩,hE36⟩:=cS
 have cM:Wk w dt:=Md.trans bc hE36
 have bU:=yC aU
 refine p mv<|p (xt aa aa)<|p (xt aa aa)<|p (xt aa aa)<|e<|dj pF aa (vs:=eO ch) aa aa aa (hE36.B aF) az fun dm aH bx=> ?_
 have bN:Wk w dm:=Md.trans' cM aH fun k hk h=>by have :=Z.size; omega
 have dK:=hE36.size
 have bz:=aH.aJ (hE36.aJ ba) fun h=>by omega
 have bH:=aH.aJ (hE36.aJ bb) fun h=>by omega
 have c0:=dz (a6 bq hE36) aH fun k hk h=>by have :=dS V hk; omega
 have dF:(s.drop<|i+1).length=s.length - (i+1):=fT
 refine p aE<|ay<|b6<|ag fun b7=>p mv<|p (no aa)<|nl<|b7<|cb aa (fun O=> ?_) fun O=> ?_
 have av:iF (s.drop i)=none:=by
  rw [bm,bU]
  refine xE aa fun h=> ?_
  have df:¬fj 93 (s.drop<|i+1) < 0:=by rw [show fj 93 (s.drop<|i+1)=(s.drop<|i+1).idxOf 93 from if_pos h.1]; omega
  have dg:=(Fv (s:=s) (k:=i+1) h.1).2 h.2
  rw [decide_eq_false df,decide_eq_true dg] at O; cases O
 have aW:=aX.bad ab av
 refine ag fun a4=>p (c8 (ps:= []) (L:= [.slice none 0 0]) vR aa<|aa)<|e<|gj qs aa (vs:= [.slice none 0 0]) aa aa aa bH az fun G A C=> ?_
 have E:Wk w G:=Md.trans' bN A fun k hk h=>by omega
 refine ay<|a4<|rt<|tr<|br<|tr<|br<|tr<|br<|tr<|eD aa (dT (cs:= [.slice none 0 0]) aa m4 aa fun j I=>by cases j with | zero=>exact (a7 C).trans aa | succ j=>omega) ej ?_
 have J:dq s=([],41):=by unfold dq; rw [if_neg (fun h=>h.elim U fun h=>by omega),if_neg ah,aW]
 exact ⟨⟨.slice none 0 0,by rw [J]; rfl,by rw [J]; exact dC _ _ _ _⟩,E⟩
 have ax:¬fj 93 (s.drop<|i+1) < 0:=fun h=>by rw [decide_eq_true h] at O; cases O
 have dh:gC (jl s<|i+1) [94]≠[]:=fun h=>by rw [h] at O; simp at O
 have aY:=rM ax
 have bs:=(Fv (s:=s) (k:=i+1) aY.2).1 dh
 obtain rfl :=cY ax
 rw [OZ aY.2 bs.1] at bx
 have av:iF (s.drop i)=some (91::(s.drop<|i+1).take ((s.drop<|i+1).idxOf 93 +1),(s.drop<|i+1).drop ((s.drop<|i+1).idxOf 93 +1)):=by rw [bm,bU]; exact A5 rfl aY.2 bs.1 bs.2
 have bo:=aX.step (j:=i+1 +(s.drop<|i+1).idxOf 93 +1) av<|by rw [ss]; rfl
 have dJ:(s.drop<|i+1).idxOf 93 < s.length - (i+1):=by have :=aY.2; omega
 refine aQ<|a3<|ag fun a4=>p (fa mB aa)<|p (ld nJ aa<|(a7 bz).trans aa)<|p (di kO aa (aa) fun j I=>by rw [gW]; exact (bx).aR j)<|e<|kQ y4 aa aa aa fun cf b0 dD aN cp=> ?_
 have cq:bP b0.heap cf (eO<|cJ (91::(s.drop<|i+1).take ((s.drop<|i+1).idxOf 93 +1))):=cp
 have bO:Wk w b0:=Md.trans bN aN.md
 have aZ:=a6 c0 aN.md
 have bA:=aN.md.aJ bz
 have bI:=aN.md.aJ bH
 refine e<|ap y4 (aZ) aa (by have :=bO.size; omega) aa (aO.ec cq) (aa) (GH _) ab ab fun dk dU bW bi dM dG=> ?_
 have bX:=Ks bW
 have bB:=bi.aJ bA fun h=>dI aZ bA az h
 have cC:=bi.aJ bI fun h=>dI aZ bI az h
 have cO:=Wk.own bO aZ bi<|cD _
 refine p (fa mB aa)<|e<|cT G1 aa aa (eS bW) bB (by simp) fun dn bd ci=> ?_
 have cH:Wk w dn:=Md.trans' cO bd fun k hk h=>by have :=ae.md.size; omega
 exact nl<|a4<|ext<|my az<|bf<|be<|tn<|⟨_,ab,i+1 +(s.drop<|i+1).idxOf 93 +1,q++ [91::(s.drop<|i+1).take ((s.drop<|i+1).idxOf 93 +1)],dk,(by rw [bM,e9]; omega),bo,ci,(bd.aJ cC fun h=>by omega),(dz bX bd fun k hk h=>dI bX bB az<|h ▸ hk),cH,aa,aa,aa,(by first | rfl | exact iv<|if_neg ax),aa⟩
 refine ag fun a3=>p (bK aa aa)<|ay<|a3<|cd aa (fun bk=> ?_) fun bk=> ?_
 refine rg aa<|p (di kO aa (aa) fun j I=>by rw [gW]; exact (aF).aR j)<|e<|cl AK (C4 (fun _=>false) _) aa fun dQ dV cU=> ?_
 obtain ⟨rfl,ac⟩:=cU
 refine e<|dj pF aa (vs:=eO fun x=> !(fun _:UInt8=>false) x) aa aa aa (ac.B aF) az fun dp aK cj=> ?_
 have dL:=ac.size
 have cI:Wk w dp:=Md.trans' (Md.trans bc ac) aK fun k hk h=>by have :=Z.size; omega
 have cx:=aK.aJ (ac.aJ ba) fun h=>by omega
 have cA:=aK.aJ (ac.aJ bb) fun h=>by omega
 have c1:=dz (a6 bq ac) aK fun k hk h=>by have :=dS V hk; omega
 exact nl<|bn<|tn<|⟨(vy aU),(by rw [Cw bk,← SI]; exact cj),cx,cA,c1,cI,aa,aa,aa,aa,aa⟩
 refine rg aa<|au (str s)<|au (ak i)<|p (eX u9 aa aa ab)<|e<|cl F8 (KE ao (s.getD i 0) _ _ aF) aa fun dO ds cR=> ?_
 obtain ⟨rfl,cm,aL⟩:=cR
 have cL:Wk w ds:=Md.trans' bc aL fun k hk h=>by have :=Z.size; omega
 have cy:=aL.aJ ba fun h=>by omega
 have cB:=aL.aJ bb fun h=>by omega
 have c2:=dz bq aL fun k hk h=>by have :=dS V hk; omega
 exact nl<|bn<|tn<|⟨(vy aU),(by rw [← WB (CW bk)]; exact cm),cy,cB,c2,cL,aa,aa,aa,aa,aa⟩
 rintro aj ai ⟨cZ,cw,bG,cG,c4,cQ,da,db,dc,dd,de⟩
 refine fx 0 da<|fx 2 db<|fx 4 dc<|fx 5 dd<|fx 6 de<|ag fun M=>p (fa mB aa)<|p (ld nJ aa<|(a7 bG).trans aa)<|p (di kO aa (aa) fun j I=>by rw [gW]; exact (cw).aR j)<|e<|kQ y4 aa aa aa fun cg b1 dE aP cr=> ?_
 have cu:bP b1.heap cg (eO<|cJ [s.getD i 0]):=cr
 have bQ:Wk w b1:=Md.trans cQ aP.md
 have a0:=a6 c4 aP.md
 have bD:=aP.md.aJ bG
 have bL:=aP.md.aJ cG
 refine e<|ap y4 (a0) aa (by have :=bQ.size; omega) aa (aO.ec cu) (aa) (GH _) ab ab fun dl dW bY bj dN dH=> ?_
 have bZ:=Ks bY
 have bE:=bj.aJ bD fun h=>dI a0 bD az h
 have cF:=bj.aJ bL fun h=>dI a0 bL az h
 have cP:=Wk.own bQ a0 bj<|cD _
 have av:iF (s.drop i)=some ([s.getD i 0],s.drop (i+1)):=by rw [bm]; exact GA cZ
 have bo:=aX.step (j:=i+1) av rfl
 refine p (fa mB aa)<|e<|cT G1 aa aa (eS bY) bE (by simp) fun dr bg ck=> ?_
 have cK:Wk w dr:=Md.trans' cP bg fun k hk h=>by have :=ae.md.size; omega
 exact nl<|M<|rg aa<|au (ak i)<|p (bF ((i+1:Nat):Int) aa aa<|bl ab ab)<|p aE<|nl<|bn<|tn<|⟨_,ab,i+1,q++ [[s.getD i 0]],dl,(by rw [bM,e9]; omega),bo,ck,(bg.aJ cF fun h=>by omega),(dz bZ bg fun k hk h=>dI bZ bE az<|h ▸ hk),cK,aa,aa,aa,(by first | rfl | exact iv<|if_neg ax),aa⟩
 refine ext<|bf<|bf<|be<|ca<|aB fun a1=>aB fun a2=> ?_
 obtain ⟨a8,a9,rfl⟩:=cE V
 have aW:=aX.done ab
 refine rg aa<|p (fa mB aa)<|p (ld nJ aa<|(a7 aG).trans aa)<|p (bJ qV aa aa)<|p (gt aa aa)<|nl<|a2<|cd aa (fun cX=> ?_) fun cX=> ?_
 refine ag fun M=>p (c8 (ps:= []) (L:= [.slice none 0 0]) vR aa<|aa)<|e<|gj qs aa (vs:= [.slice none 0 0]) aa aa aa ar az fun G A C=> ?_
 have E:Wk w G:=Md.trans' Z A fun k hk h=>by omega
 refine ay<|M<|rt<|tr<|eD aa (dT (cs:= [.slice none 0 0]) aa m4 aa fun j I=>by cases j with | zero=>exact (a7 C).trans aa | succ j=>omega) ej ?_
 have J:dq s=([],42):=by unfold dq; rw [if_neg (fun h=>h.elim U fun h=>by omega),if_neg ah,aW]; exact if_pos ab
 exact ⟨⟨.slice none 0 0,by rw [J]; rfl,by rw [J]; exact dC _ _ _ _⟩,E⟩
 refine aQ<|a1<|ag fun M=>p (di m4 aa (aa) (show ∀ j,j < 1→Hb.aR Y.heap an (0 +j)= [bS a8 q.length a9][j]? from fun j I=>by cases j with | zero=>exact (a7 aG).trans aa | succ j=>omega))<|e<|gj qs aa (vs:= [.slice a8 q.length a9]) aa aa aa ar az fun G A C=> ?_
 have E:Wk w G:=Md.trans' Z A fun k hk h=>by omega
 have c3:=dz V A fun k hk h=>dI V ar az<|h ▸ hk
 refine ay<|M<|rt<|eD aa (dT (cs:= [.slice a8 q.length a9]) aa m4 aa fun j I=>by cases j with | zero=>exact (a7 C).trans aa | succ j=>omega) ej ?_
 have J:dq s=(q,0):=by unfold dq; rw [if_neg (fun h=>h.elim U fun h=>by omega),if_neg ah,aW]; exact if_neg ab
 exact ⟨⟨_,by rw [J]; rfl,by rw [J]; exact c3⟩,E⟩
theorem W9 (ps:List (List UInt8)) (a:Option Addr) (c:Nat) (w:World) (U:aO w.heap a (lj ps)) (hn:ps.length≤4096):
 bp aw 245 (bh [.agg [.slice a ps.length c].toArray]) w (fun v w'=>v=str (me ps)∧Wk w w'):=by
 refine enter func245 aa ntmps245 aa<|ag fun Y=>e<|iZ aa fun aI V aL C O=>ay<|Y<|aB fun ac=>aB fun ae=>rg aa<|p (fa mB aa)<|p (ld nJ aa<|O.aR 0)<|p (bJ qV aa aa)<|p (bK aa aa)<|nl<|ae<|cd aa (fun I=> ?_) fun I=> ?_
 exact ag fun E=>ay<|E<|rt<|tr<|aX aa<|⟨by unfold me; rw [if_pos (fY ab)]; rfl,C.md⟩
 refine aQ<|ac<|ag fun E=>ay<|E<|aB fun ah=>ag fun ai=>p (fa mB aa)<|p (ld nJ aa<|O.aR 0)<|p (bJ qV aa aa)<|p mv<|nl<|ai<|aJ<|lp (fun M A J=> ∃ (i:Nat),(i≤ps.length)∧(Wk V J)∧(((ps.take i).flatMap fun t=>gS<|cJ t).length≤i*300)∧(A 3=str ((ps.take i).flatMap fun t=>gS<|cJ t))∧(A 11= .slice a ps.length c)∧(A 12=ak (ps.length))∧(A 13=ak i)∧(ps.length - i=M)) _ ⟨0,ab,(Md.refl _ _),(by simp),(by first | rfl | (rw [fK ps i [] ab,nC,o5]; rfl)),aa,aa,aa,aa⟩ ?_
 rintro M A J ⟨i,hi,q,hlen,aG,aC,aD,aF,rfl⟩
 refine fx 3 aG<|fx 11 aC<|fx 12 aD<|fx 13 aF<|ag fun aj=>p (lt aa aa)<|nl<|aj<|aB fun am=>cd aa (fun aA=> ?_) fun aA=> ?_
 refine aQ<|am<|aB fun G=>aJ<|ag fun Z=>p (bc Hz aa aa ab<|aO.ok (U.wk<|Md.trans C.md q)<|GG ab)<|p (di kO aa (aa) (show ∀ j,j < 4→Hb.aR J.heap (bk a) (fo a+i*4 +j)=(eO<|cJ<|ps.getD i [])[j]? from GF (U.wk<|Md.trans C.md q) ab))<|e<|al sd fun aK aU aM av an=>e<|dj pF aa (vs:=eO<|cJ<|ps.getD i []) aa aa aa an az fun aH ar ao=> ?_
 have aq:Wk V aH:=Md.trans' (Md.trans q av.md) ar fun k hk h=>by have :=q.size; omega
 refine nl<|Z<|rg aa<|au (str<|(ps.take i).flatMap fun t=>gS<|cJ t)<|p (di kO aa (aa) fun j aN=>by rw [gW]; exact (ao).aR j)<|e<|cl P7 (X9 (cJ<|ps.getD i []) _) aa fun aS aT ax=> ?_
 obtain ⟨rfl,ap⟩:=ax
 have aP:=Dx<|cJ<|ps.getD i []
 exact p (cc aa aa ab)<|p aE<|nl<|bn<|G<|rg aa<|p (ad aa aa<|bY ab)<|p mv<|nl<|tn<|⟨_,ab,i+1,ab,(Md.trans aq ap),(by rw [fK ps i [] ab,nC,o5,bM]; omega),(by first | rfl | (rw [fK ps i [] ab,nC,o5]; rfl)),aa,aa,aa,aa⟩
 exact ext<|bf<|bf<|be<|ah<|ag fun G=>au (str<|(ps.take i).flatMap fun t=>gS<|cJ t)<|p (cU (str<|(ps.take i).flatMap fun t=>gS<|cJ t) aa)<|nl<|G<|rt<|aX aa<|⟨by unfold me; rw [if_neg (fun h=>by rw [h] at I; exact I aa),show ps.take i=ps from eU ab]; rfl,Md.trans C.md q⟩
end Go.Hb
end
section
namespace Go.Hb.gl
open Go.Hb.iw Go.Hb.ox Go.Hb.j8
theorem x8 {kind:Nat} {al:List (List Nat)} {s:Tx} (h:al= []):fX kind al s=kT kind s:=if_pos h
theorem HZ {kind:Nat} {al:List (List Nat)} {s:Tx} {e:Nat} (h:al≠[]) (h1:e5 s al.length= .error e):fX kind al s= .error 13:=by unfold fX; rw [if_neg h,h1]
theorem H4 {kind:Nat} {al:List (List Nat)} {s:Tx} (h:al≠[]) (h1:e5 s al.length= .ok 0):fX kind al s= .error 13:=by unfold fX; rw [if_neg h,h1]; rfl
theorem H3 {kind n:Nat} {al:List (List Nat)} {s:Tx} (h:al≠[]) (h1:e5 s al.length= .ok n) (a:n≠0):fX kind al s= .ok (al.getD (n - 1) []):=by unfold fX; rw [if_neg h,h1]; exact if_neg a
theorem yt {kind:Nat} {s:Tx} (h:(ed kind s).2=0):kT kind s= .ok (ed kind s).1:=if_neg fun h2=>h2 h
theorem yr {kind:Nat} {s:Tx} (h:(ed kind s).2≠0):kT kind s= .error (ed kind s).2:=if_pos h
theorem Dt {kind ln:Nat} {al:List (List Nat)} {c:dm} {r:List Tx} (h:r.length≠4) (h1:r.length≠5):fI kind al c ln r= .error 111:=by unfold fI; rw [if_pos ⟨h,h1⟩]
theorem mM {kind ln:Nat} {al:List (List Nat)} {c:dm} {r:List Tx} (h:r.length=4∨r.length=5):fI kind al c ln r=(match eF true (r.getD 2 []) with
 | .error e=> .error e
 | .ok st=>match jK (bD<|r.getD 3 []) with
   | .error e=> .error e
   | .ok ad=>match kY kind al c.kind (bD<|r.getD 3 []) with
     | .error e=> .error e
     | .ok nx=>match kR r with
       | .error e=> .error e
       | .ok cd=> .ok ⟨c.kind,c.flag,c.ew,st,ad,cd,nx,ln⟩):=by unfold fI; rw [if_neg ab]; rfl
theorem ES {r:lI} (h:r.2.2.2≠0):jK r= .error r.2.2.2:=if_pos h
theorem EV {r:lI} (h:r.2.2.2=0) (h1:r.1= [48]):jK r= .ok []:=by unfold jK; rw [if_neg (fun h2=>h2 h),if_pos h1]
theorem ET {r:lI} (h:r.2.2.2=0) (h1:r.1≠[48]) (h2:gI r.1≠0):jK r= .error (gI r.1):=by unfold jK; rw [if_neg (fun h2=>h2 h),if_neg h1,if_pos h2]
theorem EU {r:lI} (h:r.2.2.2=0) (h1:r.1≠[48]) (h2:gI r.1=0):jK r= .ok r.1:=by unfold jK; rw [if_neg (fun h2=>h2 h),if_neg h1,if_neg (fun h3=>h3 h2)]
theorem Kb {kind a:Nat} {al:List (List Nat)} {r:lI} (h:r.2.2.1=false):kY kind al a r= .ok []:=by unfold kY; rw [if_neg (by rw [h]; exact eo)]
theorem Ka {kind a:Nat} {al:List (List Nat)} {r:lI} (h:r.2.2.1=true) (h1:a=1):kY kind al a r= .error 118:=by unfold kY; rw [if_pos h,if_pos h1]
theorem yL {kind a:Nat} {al:List (List Nat)} {r:lI} (h:r.2.2.1=true) (h1:a≠1):kY kind al a r=fX kind al r.2.1:=by unfold kY; rw [if_pos h,if_neg h1]
theorem GN {r:List Tx} (h:r.length≠5):kR r= .ok [46]:=if_neg h
theorem GK {r:List Tx} (h:r.length=5) (h1:gy (r.getD 4 [])=false):kR r= .error 21:=by unfold kR; rw [if_pos h,if_pos h1]
theorem GL {r:List Tx} (h:r.length=5) (h1:gy (r.getD 4 [])=true) (h2:(dq<|r.getD 4 []).2≠0):kR r= .error (dq<|r.getD 4 []).2:=by unfold kR; rw [if_pos h,if_neg (by rw [h1]; exact eo),if_pos h2]
theorem GM {r:List Tx} (h:r.length=5) (h1:gy (r.getD 4 [])=true) (h2:(dq<|r.getD 4 []).2=0):kR r= .ok (me (dq<|r.getD 4 []).1):=by unfold kR; rw [if_pos h,if_neg (by rw [h1]; exact eo),if_neg (fun h3=>h3 h2)]
theorem GQ (s:Tx):(dq s).1.length≤16:=by
 unfold dq
 split
 · simp
 · split
   · simp
   · split
     · simp
     · split
       · simp
       · rename_i h; exact Nat.le_of_not_lt h
theorem HI (B fb mc:Nat) (F:aU) (V:ff) (s:Tx) (w:World) (C:dX w B fb mc F V) (hk:F.kind=1∨F.kind=2∨F.kind=3) (aD:∀ l∈F.aliases,l.length≤64∧l.Pairwise (· < ·)) (aK:F.aliases.length≤70000) (hs:s.length≤1048576):
 bp aw 141 (bh [aT fb,str s]) w (fun v w'=>((∃ a l,v= .tuple #[a,.int .i64 0]∧fX F.kind F.aliases s= .ok l∧bw w' w.heap.size 51 1 a l.length (l.map bj))∨(∃ a e,v= .tuple #[a,ak e]∧e≠0∧fX F.kind F.aliases s= .error e))∧Wk w w'):=by
 obtain ⟨aq,ar,ah⟩:=cE C.eY
 have O:=C.eY
 rw [ah] at O
 have J:Hb.aR w.heap fb 10=some (.slice aq F.aliases.length ar):=by rw [← ah]; exact (a7 C.cells).trans rfl
 refine enter func141 aa ntmps141 aa<|ag fun ai=>p aE<|ay<|ai<|aB fun aj=>aB fun am=>rg aa<|au (aT fb)<|p (lN vV aa aa)<|nl<|am<|cf (aa)<|aQ<|aj<|aB fun an=>ag fun ao=>au (aT fb)<|p (nc aa)<|p (fa gJ aa)<|p (fa pM aa)<|p (ld ry aa<|J)<|p (bJ zm aa aa)<|p (bK aa aa)<|nl<|ao<|cd aa (fun M=> ?_) fun M=> ?_
 have q:F.aliases= []:=fY ab
 refine ag fun G=>au (aT fb)<|p (nc aa)<|p (fa gJ aa)<|p (fa tu aa)<|p (ld bz aa<|(a7 C.cells).trans aa)<|au (str s)<|e<|cl F4 (Iy F.kind s _ hk hs) aa fun aN aV ax=> ?_
 obtain ⟨⟨Z,rfl,aJ⟩,hE23⟩:=ax
 refine p (xt aa aa)<|p (xt aa aa)<|p aE<|ay<|G<|rt<|tr<|f2 aa aa aa ?_
 refine ⟨?_,hE23⟩
 by_cases h:(ed F.kind s).2=0
 exact .inl ⟨Z,_,by rw [h]; rfl,by rw [x8 q]; exact yt h,aJ⟩
 exact .inr ⟨Z,_,aa,h,by rw [x8 q]; exact yr h⟩
 have q:F.aliases≠[]:=fun h=>by rw [h] at M; exact M rfl
 refine aQ<|an<|ag fun G=>au (str s)<|au (aT fb)<|p (nc aa)<|p (fa gJ aa)<|p (fa pM aa)<|p (ld ry aa<|J)<|p (bJ zm aa aa)<|e<|cl xy (yO s (F.aliases.length:Nat) _ hs ab) aa fun aP aW aA=> ?_
 obtain ⟨rfl,i⟩:=aA
 refine p mv<|p (xt aa aa)<|p (xt aa aa)<|p aE<|ay<|G<|aB fun ap=>ag fun Y=>p mv<|p (cO aa aa)<|p mv<|gs (t:=39) aa (fun aH=> ?_) fun aH=> ?_
 exact aI aa<|aI aa<|p (bC aa)<|nl<|Y<|ct aa<|ag fun A=>p aE<|ay<|A<|rt<|tr<|f2 aa aa aa<|⟨.inr ⟨.slice none 0 0,13,aa,az,HZ q (pQ ab).1⟩,i⟩
 refine aM aa mv<|aM aa (bK aa aa)<|p (bu aa)<|nl<|Y<|cd aa (fun aG=> ?_) fun aG=> ?_
 refine ag fun A=>p aE<|ay<|A<|rt<|tr<|f2 aa aa aa ?_
 have E:=n8 (by omega :(ee s (F.aliases.length:Nat)).2=0)
 rw [show (ee s (F.aliases.length:Nat)).1=0 from by omega] at E
 exact ⟨.inr ⟨.slice none 0 0,13,aa,az,H4 q E⟩,i⟩
 refine aQ<|ap<|aB fun A=> ?_
 have E:=n8 (by omega :(ee s (F.aliases.length:Nat)).2=0)
 have aL:=qN s (F.aliases.length:Nat) ab
 have ac:(ee s (F.aliases.length:Nat)).1 - 1 < F.aliases.length:=ab
 obtain ⟨v51,U,I⟩:=eB.get (C.al.wk i) ac
 obtain ⟨a51,rD,rfl⟩:=I.slice
 have aF:=aD _<|dY (d:= []) ac
 refine rg aa<|au (aT fb)<|p (nc aa)<|p (fa gJ aa)<|p (fa pM aa)<|p (ld ry aa<|Wk.aR i J)<|p mv<|p (dR (((ee s (F.aliases.length:Nat)).1 - 1:Nat):Int) aa aa<|bl ab ab)<|p (bc Bw aa aa ab<|aO.ok ((ba<|a6 O i).2) fun h=>by rw [h] at U; cases U)<|p (ld m5 aa<|aO.gN (ba<|a6 O i).2 U)<|e<|cl F7 (vz (F.aliases.getD ((ee s (F.aliases.length:Nat)).1 - 1) []) _ _ _ I.cV.2 (fun h=>Tg.tB I (by simp) h) ab) aa fun aS aX aC=> ?_
 obtain ⟨ae,av⟩:=aC
 rw [WA aF.2] at ae
 exact p aE<|ay<|A<|rt<|f2 aa aa aa<|⟨.inl ⟨_,_,aa,H3 q E ab,eE ae i.size⟩,i.trans av⟩
theorem yY (B:Nat) (H:dx) (F:aU) (V:ff) (R:gX) (rows:List Rw) (ln:Nat) (seen:List Tx) (c:dm) (r:List Tx) (b3:Nat) (ar:Option Addr) (cr:Nat) (w:World) (E:dX w B H.fb H.mc F V) (C:dE w B H F R rows ln seen) (aX:kM F rows seen) (d3:c.kind=1∨c.kind=2) (aq:Tg w b3 9 r.length (.slice ar r.length cr) (r.map str)) (bg:r.length≤70000∧∀ x∈r,x.length≤70000):
 fF aw 201 (bh [.pointer (some ⟨H.rb,0,none⟩),.agg (nN c).toArray,.slice ar r.length cr]) w (fun v w'=> ∃ q,fI F.kind F.aliases c ln r= .ok q∧q.line=ln∧(∃ vn,v= .agg (fD (q,vn)).toArray∧Tg w' B 51 q.next.length vn (q.next.map bj))∧Wk w w') (fun aj w'=> ∃ e,fI F.kind F.aliases c ln r= .error e∧aj=jn 47 ln (e:Nat)∧Wk w w'):=by
 have dV:=aq.cV
 have d8:=(dB.1 C.cells).1
 have d4:=C.lo.1
 refine ke func201 aa ntmps201 aa<|sq fun dK cy=>rg aa<|e<|iZ aa fun aW eB d0 bt ci=>e<|al se fun Z aS d1 aJ ck=> ?_
 have aD:Wk w aS:=bt.md.trans aJ.md
 have bR:=Wk.aR aD C.dw
 have ed:=bt.size
 have ef:=aJ.size
 refine nl<|tn<|cy _ _ ?_
 refine ep (fun aA b0=>(r.length=4∨r.length=5)∧(b0=aS)∧(aA 0= .pointer (some ⟨H.rb,0,none⟩))∧(aA 2= .slice ar r.length cr)∧(aA 4= .pointer (some ⟨aW,0,none⟩))∧(aA 6= .pointer (some ⟨Z,0,none⟩))) ?_ ?_
 refine rg aa<|p (aV (.pointer<|some ⟨H.rb,0,none⟩) aa)<|p (aV (.slice ar r.length cr) aa)<|p (bJ eZ aa aa)<|p (bK aa aa)<|p mv<|gs (t:=20) aa (fun c1=> ?_) fun c1=> ?_
 refine sk aa aa aa aa<|sk aa aa aa aa<|sk aa aa aa aa<|p (bC aa)<|eP aa (dW iD (iM H.rb ln _ 111 aS bR az) aa fun dv dC a9=> ?_) fun c w' A O E=>by first | exact absurd A.2.1 az | exact ⟨111,Dt ab (by have :=of_decide_eq_false A.2.1; omega),A.1,by rw [A.2.2]; exact aD⟩
 obtain ⟨rfl,bS,rfl⟩:=a9
 exact nl<|tn<|⟨(.inl ab),aa,aa,aa,aa,aa⟩
 refine pg aa aa aa (aV (.slice ar r.length cr) aa)<|pg aa aa aa (bJ eZ aa aa)<|pg aa aa aa (bK aa aa)<|p (bu aa)<|eP aa (dW iD (iM H.rb ln _ 111 aS bR az) aa fun dv dC a9=> ?_) fun c w' A O E=>by first | exact absurd A.2.1 az | exact ⟨111,Dt ab (by have :=of_decide_eq_false A.2.1; omega),A.1,by rw [A.2.2]; exact aD⟩
 obtain ⟨rfl,bS,rfl⟩:=a9
 exact nl<|tn<|⟨(.inr<|by have :=of_decide_eq_true bS; omega),aa,aa,aa,aa,aa⟩
 rintro aA b0 ⟨hlen,cu,c3,c4,c5,c6⟩
 refine fx 0 c3<|fx 2 c4<|fx 4 c5<|fx 6 c6 ?_
 subst cu
 have aN:=aJ.md.B ci
 refine sq fun dL cz=>rg aa<|p (fa uU aa)<|p (ld bz aa<|(aN.aR 1).trans aa)<|p (fa BS aa)<|p (ld dd aa<|(aN.aR 0).trans aa)<|p (fa Ib aa)<|p (ld lY aa<|(aN.aR 2).trans aa)<|p (c8 (ps:= [(0,.int .i64 (c.kind:Nat)),(1,bj c.flag),(2,.bool c.ew),(5,str [46])]) (L:= [.int .i64 (c.kind:Nat),bj c.flag,.bool c.ew,.string ⟨⟨[]⟩⟩,.string ⟨⟨[]⟩⟩,str [46],.slice none 0 0]) DI aa<|aa)<|e<|al se fun G eD d2 aK cm=> ?_
 have eh:=aK.size
 refine e<|dj pG aa aa aa aa (cm) (by simp) fun b1 aG cg=> ?_
 have aF:Wk w b1:=(aD.trans aK.md).trans' aG fun k hk h=>by omega
 have cS:=aG.B (aK.md.B aN) fun h=>by omega
 have cU:=aG.B (aK.md.B ck) fun h=>by omega
 have ej:=aG.size
 have bx:=(aq.wk aF).cV
 have d5:(r.getD 2 []).length≤70000:=bg.2 _<|dY ab
 have d6:(r.getD 3 []).length≤70000:=bg.2 _<|dY ab
 refine nl<|tn<|cz _ _<|sq fun dM cA=>rg aa<|p (aV (.pointer<|some ⟨H.rb,0,none⟩) aa)<|p (aV (.slice ar r.length cr) aa)<|p (bc cR aa aa ab<|aO.ok (bx.2)<|bT ab)<|p (ld bV aa<|cj.get (i:=2) bx.2 ab)<|eP aa (dW F3 (Kv H.rb ln (r.getD 2 []) b1 (Wk.aR aF C.dw) ab) aa fun v37 eA cG=> ?_) fun c w' A O E=>by obtain ⟨e,he,h,h2⟩:=A; exact ⟨e,by rw [mM hlen,he],h,aF.trans h2⟩
 obtain ⟨stx,bN,rfl,am⟩:=cG
 refine p (fa tw aa)<|e<|st kS aa aa (aa) (am.B cg) (by simp) fun b2 aH ch=> ?_
 have bo:bP b2.heap G [.int .i64 (c.kind:Nat),bj c.flag,.bool c.ew,str stx,str [],str [46],.slice none 0 0]:=ch
 have bp:Wk w b2:=(aF.trans am).trans' aH fun k hk h=>by omega
 have ec:=am.size
 have bH:=aH.B (am.B cS) fun h=>by omega
 have bI:=aH.B (am.B cU) fun h=>by omega
 have bv:=(aq.wk bp).cV
 have eb:=aH.size
 refine nl<|tn<|cA _ _<|sq fun dN cB=>rg aa<|p (aV (.slice ar r.length cr) aa)<|p (bc cR aa aa ab<|aO.ok (bv.2)<|bT ab)<|p (ld bV aa<|cj.get (i:=3) bv.2 ab)<|e<|cl Az (D3 (r.getD 3 []) _ ab) aa fun eq dD cH=> ?_
 obtain ⟨rfl,I⟩:=cH
 have ae:=bp.trans I
 have d9:=r9<|r.getD 3 []
 refine p mv<|p (xt aa aa)<|p (xt aa aa)<|p (xt aa aa)<|p (xt aa aa)<|p aE<|p aE<|p aE<|p aE<|nl<|tn<|cB _ _<|sq fun dO cC=>rg aa<|p (aV (.pointer<|some ⟨H.rb,0,none⟩) aa)<|p mv<|eP aa (dW oF (oP H.rb ln ((bD<|r.getD 3 []).2.2.2:Nat) dD<|Wk.aR ae C.dw) aa fun er dF cI=> ?_) fun c w' A O E=>⟨_,by rw [mM hlen,bN,ES (show (bD<|r.getD 3 []).2.2.2≠0 by have :=A.2.1; omega)],A.1,by rw [A.2.2]; exact ae⟩
 obtain ⟨rfl,aP,rfl⟩:=cI
 have aP:(bD<|r.getD 3 []).2.2.2=0:=ab
 refine nl<|tn<|cC _ _ ?_
 refine ep (fun U ai=> ∃ (Y:Tx),(jK (bD<|r.getD 3 [])= .ok Y)∧(bP ai.heap G [.int .i64 (c.kind:Nat),bj c.flag,.bool c.ew,str stx,str Y,str [46],.slice none 0 0])∧(bP ai.heap aW<|nN c)∧(∃ L,L.length=7∧bP ai.heap Z L)∧(Wk w ai)∧(U 0= .pointer (some ⟨H.rb,0,none⟩))∧(U 2= .slice ar r.length cr)∧(U 4= .pointer (some ⟨aW,0,none⟩))∧(U 6= .pointer (some ⟨Z,0,none⟩))∧(U 7= .pointer (some ⟨G,0,none⟩))∧(U 9=str (bD<|r.getD 3 []).2.1)∧(U 10= .bool (bD<|r.getD 3 []).2.2.1)) ?_ ?_
 refine sq fun aT ac=>rg aa<|p mv<|p (oQ aa aa)<|nl<|tn<|ac _ _<|cd aa (fun aM=> ?_) fun aM=> ?_
 refine rg aa<|p (aV (.pointer<|some ⟨H.rb,0,none⟩) aa)<|p mv<|eP aa (dW Ga (KI H.rb ln (bD<|r.getD 3 []).1 dF (Wk.aR ae C.dw) ab) aa fun es eC cJ=> ?_) fun c w' A O E=>⟨_,by rw [mM hlen,bN,ET aP aM A.2.1],A.1,ae.trans A.2.2⟩
 obtain ⟨rfl,ds,an⟩:=cJ
 refine p (fa B9 aa)<|e<|st kS aa aa (aa) (Wk.B (I.trans an) bo) (by simp) fun dJ a8 cn=> ?_
 have cv:Wk w dJ:=(ae.trans an).trans' a8 fun k hk h=>by omega
 have ee:=(I.trans an).size
 exact nl<|tn<|⟨(bD<|r.getD 3 []).1,(EU aP aM ds),cn,(a8.B (Wk.B (I.trans an) bH) fun h=>by omega),(⟨_,aa,a8.B (Wk.B (I.trans an) bI) fun h=>by omega⟩),cv,aa,aa,aa,aa,aa,aa,aa⟩
 exact aQ<|tn<|⟨[],(EV aP<|jr.1 aM),(I.B bo),(I.B bH),(⟨_,aa,I.B bI⟩),ae,aa,aa,aa,aa,aa,aa,aa⟩
 rintro U ai ⟨Y,au,aC,cT,bL,J,c7,da,db,dc,de,df,c9⟩
 refine fx 0 c7<|fx 2 da<|fx 4 db<|fx 6 dc<|fx 7 de<|fx 9 df<|fx 10 c9 ?_
 skip
 refine ep (fun aB M=> ∃ (nx:List Nat) (vn:Value),(kY F.kind F.aliases c.kind (bD<|r.getD 3 [])= .ok nx)∧(bP M.heap G [.int .i64 (c.kind:Nat),bj c.flag,.bool c.ew,str stx,str Y,str [46],vn])∧(Tg M (G+1) 51 nx.length vn<|nx.map bj)∧(∃ L,L.length=7∧bP M.heap Z L)∧(Wk w M)∧(aB 0= .pointer (some ⟨H.rb,0,none⟩))∧(aB 2= .slice ar r.length cr)∧(aB 6= .pointer (some ⟨Z,0,none⟩))∧(aB 7= .pointer (some ⟨G,0,none⟩))) ?_ ?_
 refine sq fun aT ac=>rg aa<|p (aV (.bool (bD<|r.getD 3 []).2.2.1) aa)<|nl<|tn<|ac _ _<|cb aa (fun av=> ?_) fun av=> ?_
 skip
 refine sq fun b4 a1=>rg aa<|p (aV (.pointer<|some ⟨H.rb,0,none⟩) aa)<|p (fa uU aa)<|p (ld bz aa<|(cT.aR 1).trans aa)<|p (bK aa aa)<|eP aa (dW iD (iM H.rb ln _ 118 ai (Wk.aR J C.dw) az) aa fun et bY cK=> ?_) fun aj w' A O E=>by have dU:=of_decide_eq_false A.2.1; exact ⟨118,by rw [mM hlen,bN]; simp only; rw [au]; simp only; rw [Ka av ab],A.1,by rw [A.2.2]; exact J⟩
 obtain ⟨rfl,bU,rfl⟩:=cK
 have bU:=of_decide_eq_true bU
 refine nl<|tn<|a1 _ _<|sq fun b5 a2=>rg aa<|p (aV (.pointer<|some ⟨H.rb,0,none⟩) aa)<|p (nc aa)<|p (fa ig aa)<|p (ld gq aa<|Wk.aR J<|(a7 C.cells).trans aa)<|p (aV (str (bD<|r.getD 3 []).2.1) aa)<|e<|cl FN (HI B H.fb H.mc F V (bD<|r.getD 3 []).2.1 _ (E.wk J) aX.kd aX.al (by have :=aX.len; omega)<|by have :=r9 (r.getD 3 []); omega) aa fun dy bZ cL=> ?_
 obtain ⟨cZ,ag⟩:=cL
 obtain ⟨bm,bn,rfl,bO⟩:∃ a,∃ e:Nat,dy= .tuple #[a,.int .i64 (e:Nat)]∧((e=0∧∃ l,fX F.kind F.aliases (bD<|r.getD 3 []).2.1= .ok l∧bw bZ bY.heap.size 51 1 a l.length (l.map bj))∨(e≠0∧fX F.kind F.aliases (bD<|r.getD 3 []).2.1= .error e)):=by
  rcases cZ with ⟨a,l,h1,h2,h3⟩ | ⟨a,e,h1,h2,h3⟩
  exact ⟨a,0,h1,.inl ⟨aa,l,h2,h3⟩⟩
  exact ⟨a,e,h1,.inr ⟨h2,h3⟩⟩
 refine p mv<|p (xt aa aa)<|p (xt aa aa)<|p aE<|p aE<|nl<|tn<|a2 _ _<|sq fun b6 a3=>rg aa<|p (aV (.pointer<|some ⟨H.rb,0,none⟩) aa)<|p mv ?_
 refine eP aa (dW oF (oP H.rb ln (bn:Nat) bZ<|Wk.aR (J.trans ag) C.dw) aa fun eu dG cM=> ?_) (fun aj w' A O E=>by
  rcases bO with ⟨h,_⟩ | ⟨h,h1⟩
  exact absurd ab A.2.1
  exact ⟨bn,by rw [mM hlen,bN]; simp only; rw [au]; simp only; rw [yL av ab,h1],A.1,by rw [A.2.2]; exact J.trans ag⟩)
 obtain ⟨rfl,ea,rfl⟩:=cM
 obtain ⟨nx,ax,bb⟩:∃ l,fX F.kind F.aliases (bD<|r.getD 3 []).2.1= .ok l∧bw dG bY.heap.size 51 1 bm l.length (l.map bj):=by
  rcases bO with ⟨_,h⟩ | ⟨h,_⟩
  exact h
  exact absurd ab h
 refine nl<|tn<|a3 _ _<|rg aa<|p mv<|p (fa qA aa)<|e<|st s5 aa aa (eS bb) (ag.B aC) (by simp) fun dH a5 b9=> ?_
 have cp:Wk w dH:=(J.trans ag).trans' a5 fun k hk h=>by omega
 have eg:=ag.size
 exact nl<|tn<|⟨nx,bm,(by rw [yL av ab]; exact ax),b9,((Tg.jP<|dz bb a5 fun k hk h=>by have :=dS bb hk; have :=aC.lt; omega).mono aC.lt),(by obtain ⟨L,a4,aL⟩:=bL; exact ⟨L,a4,a5.B (ag.B aL) fun h=>by omega⟩),cp,aa,aa,aa,aa⟩
 exact aQ<|tn<|⟨[],.slice none 0 0,(Kb<|by simpa using av),aC,(⟨none,0,aa,cD _,.inl aa⟩),bL,J,aa,aa,aa,aa⟩
 rintro aB M ⟨nx,vn,ax,aY,bF,bM,ap,dg,dh,dk,dl⟩
 refine fx 0 dg<|fx 2 dh<|fx 6 dk<|fx 7 dl ?_
 refine ep (fun bl ay=> ∃ (ak:Tx),(kR r= .ok ak)∧(bP ay.heap G [.int .i64 (c.kind:Nat),bj c.flag,.bool c.ew,str stx,str Y,str ak,vn])∧(Tg ay (G+1) 51 nx.length vn<|nx.map bj)∧(∃ L,L.length=7∧bP ay.heap Z L)∧(Wk w ay)∧(bl 6= .pointer (some ⟨Z,0,none⟩))∧(bl 7= .pointer (some ⟨G,0,none⟩))) ?_ ?_
 refine sq fun aT ac=>rg aa<|p (aV (.slice ar r.length cr) aa)<|p (bJ eZ aa aa)<|p (bK aa aa)<|nl<|tn<|ac _ _<|cd aa (fun cY=> ?_) fun cY=> ?_
 have bf:r.length=5:=ab
 have d7:(r.getD 4 []).length≤70000:=bg.2 _<|dY ab
 have bA:=(aq.wk ap).cV
 refine sq fun b4 a1=>rg aa<|p (aV (.pointer<|some ⟨H.rb,0,none⟩) aa)<|p (aV (.slice ar r.length cr) aa)<|p (bc cR aa aa ab<|aO.ok (bA.2)<|bT ab)<|p (ld bV aa<|cj.get (i:=4) bA.2 ab)<|eP aa (dW AG (Db H.rb ln (r.getD 4 []) M (Wk.aR ap C.dw) ab) aa fun ev eE cN=> ?_) fun aj w' A O E=>⟨21,by rw [mM hlen,bN]; simp only; rw [au]; simp only; rw [ax]; simp only; rw [GK bf A.2.1],A.1,ap.trans A.2.2⟩
 obtain ⟨rfl,bW,a0⟩:=cN
 have bq:=ap.trans a0
 have bB:=(aq.wk bq).cV
 refine nl<|tn<|a1 _ _<|sq fun b5 a2=>rg aa<|p (aV (.slice ar r.length cr) aa)<|p (bc cR aa aa ab<|aO.ok (bB.2)<|bT ab)<|p (ld bV aa<|cj.get (i:=4) bB.2 ab)<|e<|cl FO (GR (r.getD 4 []) _ ab) aa fun ex eF cO=> ?_
 obtain ⟨⟨dQ,rfl,bd⟩,hE89⟩:=cO
 obtain ⟨dt,du,rfl⟩:=cE bd
 have br:=bq.trans hE89
 refine p mv<|p (xt aa aa)<|p (xt aa aa)<|e<|al zw fun dR dA dZ aI ca=> ?_
 have cq:=br.trans aI.md
 refine e<|dj qs aa aa aa aa (ca) (by simp) fun bk ah cc=> ?_
 have aZ:Wk w bk:=cq.trans' ah fun k hk h=>by have :=br.size; omega
 have bi:Wk M dA:=(a0.trans hE89).trans aI.md
 have el:=a0.size
 have em:=hE89.size
 have en:=aI.size
 have eo:=ah.size
 have dr:Wk M bk:=bi.trans' ah fun k hk h=>by omega
 refine p aE<|nl<|tn<|a2 _ _<|sq fun b6 a3=>rg aa<|p (aV (.pointer<|some ⟨H.rb,0,none⟩) aa)<|p mv<|eP aa (dW oF (oP H.rb ln ((dq<|r.getD 4 []).2:Nat) bk<|Wk.aR aZ C.dw) aa fun ey eG cP=> ?_) fun aj w' A O E=>⟨_,by rw [mM hlen,bN]; simp only; rw [au]; simp only; rw [ax]; simp only; rw [GL bf bW (by have :=A.2.1; omega)],A.1,by rw [A.2.2]; exact aZ⟩
 obtain ⟨rfl,bX,rfl⟩:=cP
 have bX:(dq<|r.getD 4 []).2=0:=ab
 refine nl<|tn<|a3 _ _<|rg aa<|p (di m4 aa (aa) fun j bQ=>cc.bG j)<|e<|cl PY (W9 (dq<|r.getD 4 []).1 dt du _ (aO.md (aO.wk (ba bd).2 aI.md) ah fun c2 h=>by have :=WK bd c2; omega)<|by have :=GQ (r.getD 4 []); omega) aa fun ez eH cQ=> ?_
 obtain ⟨rfl,ao⟩:=cQ
 have cw:=aZ.trans ao
 have ek:=ao.size
 refine p (fa Ir aa)<|e<|st kS aa aa (aa) (ao.B<|ah.B (bi.B aY) fun h=>by have :=aY.lt; omega) (by simp) fun dI a6 ce=> ?_
 have ct:Wk w dI:=cw.trans' a6 fun k hk h=>by omega
 exact nl<|tn<|⟨me (dq<|r.getD 4 []).1,(GM bf bW bX),ce,(Tg.JK (Tg.wk bF<|dr.trans ao) a6 fun k hk=>by omega),(by obtain ⟨L,a4,aL⟩:=bM; exact ⟨L,a4,a6.B (ao.B<|ah.B (bi.B aL) fun h=>by have :=aL.lt; omega) fun h=>by omega⟩),ct,aa,aa⟩
 exact aQ<|tn<|⟨[46],(GN ab),aY,bF,bM,ap,aa,aa⟩
 rintro bl ay ⟨ak,c0,co,bE,cW,cx,dn,dp⟩
 refine fx 6 dn<|fx 7 dp ?_
 obtain ⟨dP,cF,cX⟩:=cW
 obtain ⟨b7,b8,rfl⟩:=bE.slice
 exact sq fun aT ac=>rg aa<|p (di m6 aa (aa) fun j bQ=>co.bG j)<|e<|dj pG aa aa aa aa (cX) (by rw [cF]; decide) fun eI bs cf=>nl<|tn<|ac _ _<|rt<|jO<|uQ aa (dT (cs:=fD (⟨c.kind,c.flag,c.ew,stx,Y,ak,nx,ln⟩,.slice b7 nx.length b8)) aa m6 aa fun j bQ=>by rw [cf.bG j,gV ab,ei]; rfl)<|⟨⟨c.kind,c.flag,c.ew,stx,Y,ak,nx,ln⟩,by rw [mM hlen,bN]; simp only; rw [au]; simp only; rw [ax]; simp only; rw [c0],aa,⟨_,aa,(Tg.JK bE bs fun k hk=>by have :=aJ.size; omega).mono ab⟩,cx.trans' bs fun k hk h=>by omega⟩
end Go.Hb.gl
end
section
namespace Go.Hb.lU
open Go.Hb.gl Go.Hb.iw Go.Hb.ox Go.Hb.j8
theorem dX.Ak {w A G:World} {B fb mc:Nat} {F:aU} {V:ff} {v:Value} {x:Tx×Tx} (h:dX w B fb mc F V) (hm:Md (fun k=>V.v9.ownBlock=some k) w A) (M:bw A B 128 2 v (F.dt++ [x]).length (kZ<|F.dt++ [x])) (a:Md (fun k=>k=fb) A G) (O:G.heap[fb]? =some (.cells (oI {F with dt:=F.dt++ [x]} {V with v9:=v} mc).toArray 125 (0,0))):dX G B fb mc {F with dt:=F.dt++ [x]} {V with v9:=v} :=by
 have i:TF w [130] (fun k=>V.v9.ownBlock=some k):=TF.own h.o9 az
 have E:=hm.ic i h.cells az
 have C:TF A [127] (fun k=>k=fb):=TF.eq (dA E) az
 have I:∀ k,V.v9.ownBlock=some k→∀ cur z,w.heap[k]?≠some (.cells cur 51 z):=ik h.o9 az
 have J:∀ k,k=fb→∀ cur z,A.heap[k]?≠some (.cells cur 51 z):=fz E az
 obtain ⟨f,q,U⟩:=h.cm
 have Y:=eH<|q.md hm<|i.no (eH q) az
 exact ⟨O,dz M a (fun k hk q=>dI M E az<|q ▸ hk),cx (cx h.eY hm i az) a C az,(h.al.md hm I).md a J,cx (cx h.ez hm i az) a C az,cx (cx h.dK hm i az) a C az,(h.nx.md hm I).md a J,⟨f,(q.md hm<|i.no (eH q) az).md a (C.no Y az),U⟩,h.lo,h.fR⟩
theorem dX.Ai {w A J:World} {B fb mc:Nat} {F:aU} {V:ff} {v:Value} {x:List Nat} {vx:Value} (h:dX w B fb mc F V) (Z:Tg w B 51 x.length vx (x.map bj)) (hm:Md (fun k=>V.v10.ownBlock=some k) w A) (M:bw A B 70 1 v (F.aliases++ [x]).length (V.sa++ [vx])) (a:Md (fun k=>k=fb) A J) (O:J.heap[fb]? =some (.cells (oI {F with aliases:=F.aliases++ [x]} {V with v10:=v,sa:=V.sa++ [vx]} mc).toArray 125 (0,0))):dX J B fb mc {F with aliases:=F.aliases++ [x]} {V with v10:=v,sa:=V.sa++ [vx]} :=by
 have i:TF w [72] (fun k=>V.v10.ownBlock=some k):=TF.own h.eY az
 have E:=hm.ic i h.cells az
 have C:TF A [127] (fun k=>k=fb):=TF.eq (dA E) az
 have G:∀ k,V.v10.ownBlock=some k→∀ cur z,w.heap[k]?≠some (.cells cur 51 z):=ik h.eY az
 have I:∀ k,k=fb→∀ cur z,A.heap[k]?≠some (.cells cur 51 z):=fz E az
 obtain ⟨f,q,U⟩:=h.cm
 have Y:=eH<|q.md hm<|i.no (eH q) az
 exact ⟨O,cx (cx h.o9 hm i az) a C az,dz M a (fun k hk q=>dI M E az<|q ▸ hk),((h.al.md hm G).md a I).snoc ((Z.md hm G).md a I),cx (cx h.ez hm i az) a C az,cx (cx h.dK hm i az) a C az,(h.nx.md hm G).md a I,⟨f,(q.md hm<|i.no (eH q) az).md a (C.no Y az),U⟩,h.lo,h.fR⟩
theorem dX.xv {w A J:World} {B fb mc:Nat} {F:aU} {V:ff} {v:Value} {x:dp} {vx:Value} (h:dX w B fb mc F V) (Z:Tg w B 51 x.next.length vx (x.next.map bj)) (hm:Md (fun k=>V.v12.ownBlock=some k) w A) (M:bw A B 77 7 v (F.rules++ [x]).length (iV<|(F.rules++ [x]).zip<|V.rn++ [vx])) (a:Md (fun k=>k=fb) A J) (O:J.heap[fb]? =some (.cells (oI {F with rules:=F.rules++ [x]} {V with v12:=v,rn:=V.rn++ [vx]} mc).toArray 125 (0,0))):dX J B fb mc {F with rules:=F.rules++ [x]} {V with v12:=v,rn:=V.rn++ [vx]} :=by
 have i:TF w [79] (fun k=>V.v12.ownBlock=some k):=TF.own h.dK az
 have E:=hm.ic i h.cells az
 have C:TF A [127] (fun k=>k=fb):=TF.eq (dA E) az
 have G:∀ k,V.v12.ownBlock=some k→∀ cur z,w.heap[k]?≠some (.cells cur 51 z):=ik h.dK az
 have I:∀ k,k=fb→∀ cur z,A.heap[k]?≠some (.cells cur 51 z):=fz E az
 obtain ⟨f,q,U⟩:=h.cm
 have Y:=eH<|q.md hm<|i.no (eH q) az
 exact ⟨O,cx (cx h.o9 hm i az) a C az,cx (cx h.eY hm i az) a C az,(h.al.md hm G).md a I,cx (cx h.ez hm i az) a C az,dz M a (fun k hk q=>dI M E az<|q ▸ hk),(by rw [ir]; exact ((h.nx.md hm G).md a I).snoc<|(Z.md hm G).md a I),⟨f,(q.md hm<|i.no (eH q) az).md a (C.no Y az),U⟩,h.lo,h.fR⟩
theorem dE.own {w w':World} {B:Nat} {H:dx} {F:aU} {R:gX} {rows:List Rw} {ln:Nat} {seen:List Tx} {B' e s n:Nat} {v:Value} {xs:List Value} (h:dE w B H F R rows ln seen) (C:bw w B' e s v n xs) (hm:Md (fun k=>v.ownBlock=some k) w w') (i:([e+2].contains 197 || [e+2].contains 211 || [e+2].contains 11 || [e+2].contains 5)=false):dE w' B H F R rows ln seen:=by
 have a:TF w [e+2] (fun k=>v.ownBlock=some k):=TF.own C<|by simp
 obtain ⟨f,q,_⟩:=h.sm
 obtain ⟨g,A,_⟩:=h.tm
 exact h.md hm a i (a.no (eH q)<|by simp)<|a.no (eH A)<|by simp
theorem dE.oH {w w':World} {B:Nat} {H:dx} {F:aU} {R:gX} {rows:List Rw} {ln:Nat} {seen:List Tx} {cs:Array Value} {z:Nat×Nat} (h:dE w B H F R rows ln seen) (i:w.heap[H.fb]? =some (.cells cs 125 z)) (hm:Md (fun k=>k=H.fb) w w'):dE w' B H F R rows ln seen:=by
 have a:TF w [127] (fun k=>k=H.fb):=TF.eq (dA i) az
 obtain ⟨f,q,C⟩:=h.sm
 obtain ⟨g,A,E⟩:=h.tm
 exact h.md hm a az (a.no (eH q) az)<|a.no (eH A) az
theorem Tg.C0 {w:World} {b e n:Nat} {L:List Value} {z:Nat×Nat} (h:w.heap[b]? =some (.cells L.toArray e z)) (hn:n=L.length):Tg w b e n (.slice (some ⟨b,0,none⟩) n n) L:=⟨_,_,rfl,cD _,.inr ⟨b,_,_,rfl,cD _,h,fun j u hu=>by simpa using hu⟩⟩
theorem kM.pH {F:aU} {q:Rw} {rest:List Rw} {seen:List Tx} (h:kM F (q::rest) seen):kM F rest seen:=⟨by have :=h.len; simp only [c7] at this; omega,by have :=h.sl; simp only [c7] at this; omega,fun a h2=>h.row a (List.mem_cons_of_mem _ h2),h.kd,h.al⟩
theorem KQ {eof ln e:Nat} {F:aU} {rows:List Rw} {r:List Tx} (h:e5 (r.getD 1 []) 256= .error e):km eof F rows ln r= .error (ln,e):=by unfold km; rw [h]
theorem vI {eof ln n:Nat} {F:aU} {rows:List Rw} {r:List Tx} {e:Nat×Nat} (h:e5 (r.getD 1 []) 256= .ok n) (h1:group [fk] kJ eof n rows= .error e):km eof F rows ln r= .error e:=by unfold km; rw [h]; simp only; rw [h1]
theorem Xo {eof ln n:Nat} {F:aU} {rows:List Rw} {r:List Tx} {q:List (Tx×Tx)×List Rw} (h:e5 (r.getD 1 []) 256= .ok n) (h1:group [fk] kJ eof n rows= .ok q):km eof F rows ln r= .ok ({F with dt:=F.dt++q.1},q.2):=by unfold km; rw [h]; simp only; rw [h1]
theorem CU {s:Tx} {most:Int} {n:Nat} (h:e5 s most= .ok n):(n:Int)≤most:=by
 unfold e5 at h
 split at h
 · cases h
 · rename_i a; cases h; exact qN s most<|jr.1 a
theorem Ag {eof ln:Nat} {F:aU} {hs:List Tx} {rows:List Rw} {r:List Tx} (h:fH∈hs∨du∈hs):jU eof F hs rows ln r= .error (ln,113):=if_pos h
theorem Fb {eof ln e:Nat} {F:aU} {hs:List Tx} {rows:List Rw} {r:List Tx} (a:¬(fH∈hs∨du∈hs)) (h:e5 (r.getD 1 []) 1024= .error e):jU eof F hs rows ln r= .error (ln,e):=by unfold jU; rw [if_neg a,h]
theorem xr {eof ln n:Nat} {F:aU} {hs:List Tx} {rows:List Rw} {r:List Tx} {e:Nat×Nat} (a:¬(fH∈hs∨du∈hs)) (h:e5 (r.getD 1 []) 1024= .ok n) (h1:group [eL] (ky F.kind) eof n rows= .error e):jU eof F hs rows ln r= .error e:=by unfold jU; rw [if_neg a,h]; simp only; rw [h1]
theorem Ov {eof ln n:Nat} {F:aU} {hs:List Tx} {rows:List Rw} {r:List Tx} {q:List (List Nat)×List Rw} (a:¬(fH∈hs∨du∈hs)) (h:e5 (r.getD 1 []) 1024= .ok n) (h1:group [eL] (ky F.kind) eof n rows= .ok q):jU eof F hs rows ln r= .ok ({F with aliases:=F.aliases++q.1},q.2):=by unfold jU; rw [if_neg a,h]; simp only; rw [h1]
theorem Fa {kind ln:Nat} {r:List Tx} (h:r.length≠2):ky kind ln r= .error 111:=if_pos h
theorem xq {kind ln:Nat} {r:List Tx} (h:r.length=2):ky kind ln r=kT kind (r.getD 1 []):=if_neg ab
theorem It {kind:Nat} {s:Tx} (h:(ed kind s).2=0):(ed kind s).1.length≤64∧(ed kind s).1.Pairwise (· < ·):=by
 unfold ed at h ⊢
 split
 · simp
 · split
   · simp
   · split
     · simp
     · rename_i h3
       exact ⟨by have :=Wz ((dM kind s).map<|eK kind); rw [fM] at this; exact gk this ab,CY _⟩
theorem KM {ln:Nat} {r:List Tx} (h:r.length≠3):kJ ln r= .error 111:=if_pos h
theorem KN {ln e:Nat} {r:List Tx} (h:r.length=3) (h1:eF false (r.getD 1 [])= .error e):kJ ln r= .error e:=by unfold kJ; rw [if_neg ab,h1]
theorem KO {ln e:Nat} {r:List Tx} {a:Tx} (h:r.length=3) (h1:eF false (r.getD 1 [])= .ok a) (h2:eF true (r.getD 2 [])= .error e):kJ ln r= .error e:=by unfold kJ; rw [if_neg ab,h1]; simp only; rw [h2]
theorem KP {ln:Nat} {r:List Tx} {a b:Tx} (h:r.length=3) (h1:eF false (r.getD 1 [])= .ok a) (h2:eF true (r.getD 2 [])= .ok b):kJ ln r= .ok (a,b):=by unfold kJ; rw [if_neg ab,h1]; simp only; rw [h2]
theorem Xq (B:Nat) (H:dx) (F:aU) (rows:List Rw) (ln:Nat) (seen:List Tx) (r:List Tx) (bb:Nat) (ar:Option Addr) (cr:Nat) (w:World) (G:St w B H F rows ln seen) (bD:Tg w bb 9 r.length (.slice ar r.length cr) (r.map str)) (ci:r.length=2) (bN:∀ x∈r,x.length≤70000):
 fF aw 133 (bh [.pointer (some ⟨H.rb,0,none⟩),.slice ar r.length cr]) w (ju B H seen (km H.eof F rows ln r) w) (jt B H (km H.eof F rows ln r) w):=by
 obtain ⟨V,R,ac,aH,aS⟩:=G
 have a4:=bD.cV
 have ck:(r.getD 1 []).length≤70000:=bN _<|dY ab
 have cg:=aH.lo
 have cb:=aS.len
 refine ke func133 aa ntmps133 aa<|sq fun b0 bl=>rg aa<|p (aV (.pointer<|some ⟨H.rb,0,none⟩) aa)<|p (aV (.slice ar r.length cr) aa)<|p (bc cR aa aa ab<|aO.ok (a4.2)<|bT ab)<|p (ld bV aa<|cj.get (i:=1) a4.2 ab)<|eP aa (dW xA (yU H.rb ln (r.getD 1 []) 256 w aH.dw ab ab) aa fun v10 cp bv=> ?_) fun c w' C aA ac=>by obtain ⟨e,he,h,h2⟩:=C; exact ⟨ln,e,KQ he,h,Wk.mw h2⟩
 obtain ⟨n,U,rfl,aC⟩:=bv
 have ch:=CU U
 refine p mv<|nl<|tn<|bl _ _<|aJ<|lp (fun aP aB an=> ∃ (i:Nat) (xs:List (Tx×Tx)) (rows':List Rw) (ay:Nat) (A:ff) (R':gX),(i≤n)∧(iY [fk] kJ H.eof (group [fk] kJ H.eof n rows) xs (n - i) rows')∧(xs.length=i)∧(dX an B H.fb H.mc {F with dt:=F.dt++xs} A)∧(dE an B H F R' rows' ay seen)∧(kM {F with dt:=F.dt++xs} rows' seen)∧(fE B H w an)∧(aB 0= .pointer (some ⟨H.rb,0,none⟩))∧(aB 10= .int .i64 (n:Nat))∧(aB 11= .int .i64 (i:Nat))∧(n - i=aP)) _ ⟨0,[],rows,ln,V,R,ab,iY.start,aa,(by rw [ei]; exact ac.wk aC),(aH.wk aC),(by rw [ei]; exact aS),(Wk.mw aC),aa,aa,aa,aa⟩ ?_
 rintro aP aB an ⟨i,xs,rows',ay,A,R',hi,I,bS,aT,ak,ah,aW,bO,bP,bQ,rfl⟩
 refine fx 0 bO<|fx 10 bP<|fx 11 bQ<|sq fun b1 bm=>rg aa<|p (lt aa aa)<|nl<|tn<|bm _ _<|sq fun b2 bo=>cd aa (fun bF=> ?_) fun bF=> ?_
 refine aQ<|tn<|bo _ _<|sq fun b3 bp=>aJ<|sq fun b4 bq=>rg aa<|p (aV (.pointer<|some ⟨H.rb,0,none⟩) aa)<|e<|sT (L:= [str fk]) fQ aa aa aa aa fun bf a9 b9 bu bg=> ?_
 have Z:Wk an a9:=bu.md
 have aX:=aW.trans<|Wk.mw Z
 refine eP aa (dW AI (Cv B H F R' rows' ay seen [fk] bf 1 _ _ a9 (ak.wk Z) (Tg.C0 bg aa) aa az fun q bL=>(ah.row q bL).2.1) aa fun cm bU bx=> ?_) (fun c w' C aA ac=>by
  obtain ⟨h1,h2⟩:=C
  have hm:=aX.trans<|fE.rb (ak.wk Z) h2
  rcases h1 with ⟨rfl,h3⟩ | ⟨ag,O,rest,rfl,h4,h3⟩
  exact ⟨_,_,vI U (I.ends ab),h3,hm⟩
  exact ⟨_,_,vI U (I.other ab h4),h3,hm⟩)
 obtain ⟨ag,O,rest,rfl,ax,⟨bd,aI⟩,hT15,hM15⟩:=bx
 obtain ⟨b7,uI,rfl⟩:=hT15.slice
 have bk:=(aT.wk Z).rb (ak.wk Z) hM15
 have aG:=aX.trans<|fE.rb (ak.wk Z) hM15
 have a8:O≠[]∧O.length≤70000∧∀ x∈O,x.length≤70000:=ah.row (ag,O)<|by simp
 have ao:=kM.pH ah
 have a2:=hT15.cV
 have bE:=ah.len
 simp only [c7,bM] at bE
 refine p aE<|nl<|tn<|bq _ _<|sq fun b5 br=>rg aa<|p (aV (.pointer<|some ⟨H.rb,0,none⟩) aa)<|p mv<|p (bJ eZ aa aa)<|p (bK aa aa)<|eP aa (dW iD (iM H.rb ag _ 111 bU aI.dw az) aa fun v20 bW bz=> ?_) fun c w' C aA ac=>⟨_,_,vI U (I.bad ab ax<|KM<|by have :=of_decide_eq_false C.2.1; omega),C.1,by rw [C.2.2]; exact aG⟩
 obtain ⟨rfl,bR,rfl⟩:=bz
 have aN:O.length=3:=by have :=of_decide_eq_true bR; omega
 have ce:=a8.2.2 _<|dY (d:= []) (i:=1) ab
 have cf:=a8.2.2 _<|dY (d:= []) (i:=2) ab
 refine nl<|tn<|br _ _<|sq fun b6 bs=>rg aa<|p (aV (.pointer<|some ⟨H.rb,0,none⟩) aa)<|p mv<|p (bc cR aa aa ab<|aO.ok (a2.2)<|bT ab)<|p (ld bV aa<|cj.get (i:=1) a2.2 ab)<|eP aa (dW F1 (Ky H.rb ag (O.getD 1 []) bW aI.dw ab) aa fun cn Y bA=> ?_) fun c w' C aA ac=>by obtain ⟨e,he,h,h2⟩:=C; exact ⟨_,_,vI U (I.bad ab ax<|KN aN he),h,aG.trans<|Wk.mw h2⟩
 obtain ⟨J,a6,rfl,aq⟩:=bA
 have ae:=bk.wk aq
 have am:=aI.wk aq
 have a3:=hT15.wk aq
 have aY:=aG.trans<|Wk.mw aq
 have aM:¬(A.v9.ownBlock=some H.rb):=dI ae.o9 am.cells az
 have bG:¬(A.v9.ownBlock=some H.fb):=dI ae.o9 ae.cells az
 refine p aE<|nl<|tn<|bs _ _ ?_
 have a:(fun w'=>Md (fun k=>A.v9.ownBlock=some k) Y w') Y.drew:=(Md.refl _ _).drew
 refine eR (fun w'=>Md (fun k=>A.v9.ownBlock=some k) Y w') 24 aa wide a<|dG 0 aa aj (fun _=>aV (.pointer<|some ⟨H.rb,0,none⟩) aa) (fun _=>a)<|dG 1 aa aj (fun _=>nc aa) (fun _=>a)<|dG 2 aa aj (fun _=>fa ig aa) (fun _=>a)<|kI 3 aa aj (fun w' G=>ld gq aa<|Md.aR G ((a7 am.cells).trans aa) aM) a<|dG 4 aa aj (fun _=>aV (.pointer<|some ⟨H.rb,0,none⟩) aa) (fun _=>a)<|dG 5 aa aj (fun _=>nc aa) (fun _=>a)<|dG 6 aa aj (fun _=>fa ig aa) (fun _=>a)<|kI 7 aa aj (fun w' G=>ld gq aa<|Md.aR G ((a7 am.cells).trans aa) aM) a<|dG 8 aa aj (fun _=>nc aa) (fun _=>a)<|dG 9 aa aj (fun _=>fa gJ aa) (fun _=>a)<|dG 10 aa aj (fun _=>fa yq aa) (fun _=>a)<|kI 11 aa aj (fun w' G=>ld E8 aa<|Md.aR G ((a7 ae.cells).trans aa) bG) a<|dG 12 aa aj (fun _=>mv) (fun _=>a)<|dG 13 aa aj (fun _=>aV (.pointer<|some ⟨H.rb,0,none⟩) aa) (fun _=>a)<|dG 14 aa aj (fun _=>mv) (fun _=>a) ?_
 refine dG 15 aa aj (fun _=>bc cR aa aa ab<|aO.ok (a3.cV.2)<|bT ab) (fun _=>a)<|kI 16 aa aj (fun w' G=>ld bV aa<|cj.get (i:=2) (a3.md G<|ik ae.o9 az).cV.2 ab) a<|Jw 17 aa aj aa (dW F3 (Kv H.rb ag (O.getD 2 []) Y.drew (Md.aR a am.dw aM) ab) aa fun co bX bB=> ?_) fun c w' C aA ac=>by obtain ⟨e,he,h,h2⟩:=C; exact ⟨_,_,vI U (I.bad ab ax<|KO aN a6 he),h,aY.trans<|Wk.mw<|im h2⟩
 obtain ⟨M,bI,rfl,au⟩:=bB
 have au:=im au
 have aK:(fun w'=>Md (fun k=>A.v9.ownBlock=some k) Y w') bX:=Md.mono au fun _ _ h=>h.elim
 refine ⟨aK,?_⟩
 refine dG 18 aa aj (fun _=>c8 (ps:= [(0,str J),(1,str M)]) (L:= [str J,str M]) Yx aa<|aa) (fun _=>aK)<|gE 19 aa aj<|kQ y5 aa aa aa fun b8 bZ ca aZ bi=> ?_
 have aD:=au.trans aZ.md
 have E:=ae.wk aD
 have a0:=am.wk aD
 have a1:(fun w'=>Md (fun k=>A.v9.ownBlock=some k) Y w') bZ:=aK.trans' aZ.md fun _ _ h=>h.elim
 refine ⟨a1,?_⟩
 refine gE 20 aa aj<|ap y5 (E.o9) aa (by have :=(dB.1 a0.cells).1; omega) aa (aO.ec bi) (aa) (aa) (by simp only [bM]; omega) (by simp only [bM]; omega) fun v46 ba a5 ai cl cc=> ?_
 have bt:=(aY.trans<|Wk.mw aD).trans<|Mw.of ai (TF.own E.o9 az) fun k hk=>(dS E.o9 hk).1
 have bC:=dE.own a0 E.o9 ai az
 have aL:=ai.aJ E.cells<|dI E.o9 E.cells az
 have bH:bw ba B 128 2 v46 ((F.dt++xs)++ [(J,M)]).length (kZ<|(F.dt++xs)++ [(J,M)]):=by rw [show kZ ((F.dt++xs)++ [(J,M)])=kZ (F.dt++xs)++ [str J,str M] from by simp [kZ],bM]; exact a5
 have av:(fun w'=>Md (fun k=>A.v9.ownBlock=some k) Y w') ba:=a1.trans' ai fun _ _ h=>h
 refine ⟨av,?_⟩
 exact dG 21 aa aj (fun _=>nc aa) (fun _=>av)<|dG 22 aa aj (fun _=>fa gJ aa) (fun _=>av)<|dG 23 aa aj (fun _=>fa yq aa) (fun _=>av)<|dO 24 aa aj aj<|cT G3 aa aa (v:=v46) (eS a5) aL (by show _ < 14; omega) fun cq aF bj=>eQ aj<|bn<|tn<|bp _ _<|rg aa<|p (ad aa aa<|bY ab)<|p mv<|nl<|tn<|⟨_,ab,i+1,xs++ [(J,M)],rest,ag,{A with v9:=v46},bd,ab,(by rw [show n - (i+1)=n - i - 1 by omega]; exact I.step ab ax<|KP aN a6 bI),(by rw [bM,bS]; rfl),(by rw [← dH]; exact dX.Ak (x:=(J,M)) E ai bH aF bj),(dE.oH bC aL aF),(⟨by simp only [bM,e9]; omega,ao.sl,ao.row,ao.kd,ao.al⟩),(bt.trans<|Mw.of aF (TF.eq (dA aL) az) fun k hk=>hk ▸ E.lo.1),aa,aa,aa,aa⟩
 refine ext<|te _<|te _<|be<|jO<|f0 aa ?_
 rw [show n - i=0 by omega] at I
 exact ⟨aa,_,rows',ay,Xo U I.done,⟨A,R',aT,ak.congr aa (fun _=>rfl),ah⟩,aW⟩
theorem Ou (B:Nat) (H:dx) (F:aU) (rows:List Rw) (ln:Nat) (seen:List Tx) (r:List Tx) (bs:Nat) (ar:Option Addr) (cr:Nat) (w:World) (A:St w B H F rows ln seen) (bb:Tg w bs 9 r.length (.slice ar r.length cr) (r.map str)) (cM:r.length=2) (cc:∀ x∈r,x.length≤70000):
 fF aw 134 (bh [.pointer (some ⟨H.rb,0,none⟩),.slice ar r.length cr]) w (ju B H seen (jU H.eof F seen rows ln r) w) (jt B H (jU H.eof F seen rows ln r) w):=by
 obtain ⟨V,R,ag,U,aF⟩:=A
 have cC:=bb.cV
 have cN:(r.getD 1 []).length≤70000:=cc _<|dY ab
 have cK:=U.lo
 have cF:=aF.len
 obtain ⟨cQ,bk,bm⟩:=U.sm
 have cG:=ui (a:=fH) (l:=seen)
 have cH:=ui (a:=du) (l:=seen)
 have cO:=aF.sl
 refine ke func134 aa ntmps134 aa<|sq fun cp bC=> ?_
 have C:(fun w'=>Wk w w') w.drew:=(Md.refl _ _).drew
 refine bN (fun w'=>Wk w w') aa wide C<|hp 0 aa aj (fun _ _=>aV (.pointer<|some ⟨H.rb,0,none⟩) aa) C<|hp 1 aa aj (fun _ _=>aV (.pointer<|some ⟨H.rb,0,none⟩) aa) C<|hp 2 aa aj (fun _ _=>nc aa) C<|hp 3 aa aj (fun _ _=>fa tp aa) C<|hp 4 aa aj (fun w' A=>ld sK aa<|Wk.aR A<|(a7 U.cells).trans aa) C<|hp 5 aa aj (fun w' A=>oM qU oY jg (dy.md (bk) A id) aa aa (⟨_,aa⟩)<|bm fH) C<|hp 6 aa aj (fun _ _=>aV (.pointer<|some ⟨H.rb,0,none⟩) aa) C<|hp 7 aa aj (fun _ _=>nc aa) C<|hp 8 aa aj (fun _ _=>fa tp aa) C<|hp 9 aa aj (fun w' A=>ld sK aa<|Wk.aR A<|(a7 U.cells).trans aa) C<|hp 10 aa aj (fun w' A=>oM qU oY jg (dy.md (bk) A id) aa aa (⟨_,aa⟩)<|bm du) C<|hp 11 aa aj (fun _ _=>bF ((seen.count fH+seen.count du:Nat):Int) aa aa<|bl ab ab) C<|hp 12 aa aj (fun _ _=>bK aa aa) C ?_
 refine tx 13 aa aj aa (dW iD (iM H.rb ln _ 113 w.drew (Wk.aR C U.dw) az) aa fun v20 aZ bX=> ?_) (fun c w' E aL ag=>⟨ln,113,Ag (Classical.byContradiction fun h2=>by
  have h1:=q9.2 fun h=>h2<|Or.inl h
  have h3:=q9.2 fun h=>h2<|Or.inr h
  exact of_decide_eq_false E.2.1 ab),E.1,by rw [E.2.2]; exact Wk.mw C⟩)
 obtain ⟨rfl,ci,bo⟩:=bX
 have aG:Wk w aZ:=by rw [bo]; exact (Md.refl _ _).drew
 have ak:¬(fH∈seen∨du∈seen):=by
  have cB:=of_decide_eq_true ci
  rintro (h | h)
  have :=zP.2 h; omega
  have :=zP.2 h; omega
 have bU:=U.wk aG
 have bd:=(bb.wk aG).cV
 have b4:(fun w'=>Wk w w') aZ:=by rw [bo]; exact C
 refine ⟨b4,?_⟩
 refine hn aj<|tn<|bC _ _<|sq fun cq bD=>rg aa<|p (aV (.pointer<|some ⟨H.rb,0,none⟩) aa)<|p (aV (.slice ar r.length cr) aa)<|p (bc cR aa aa ab<|aO.ok (bd.2)<|bT ab)<|p (ld bV aa<|cj.get (i:=1) bd.2 ab)<|eP aa (dW xA (yU H.rb ln (r.getD 1 []) 1024 aZ bU.dw ab ab) aa fun cU cY bZ=> ?_) fun c w' E aL ag=>by obtain ⟨e,he,h,h2⟩:=E; exact ⟨ln,e,Fb ak he,h,Wk.mw<|aG.trans h2⟩
 obtain ⟨n,am,rfl,an⟩:=bZ
 have cL:=CU am
 have an:=aG.trans an
 refine p mv<|nl<|tn<|bD _ _<|aJ<|lp (fun a0 aM aC=> ∃ (i:Nat) (xs:List (List Nat)) (rows':List Rw) (aK:Nat) (I:ff) (R':gX),(i≤n)∧(iY [eL] (ky F.kind) H.eof (group [eL] (ky F.kind) H.eof n rows) xs (n - i) rows')∧(xs.length=i)∧(dX aC B H.fb H.mc {F with aliases:=F.aliases++xs} I)∧(dE aC B H F R' rows' aK seen)∧(kM {F with aliases:=F.aliases++xs} rows' seen)∧(fE B H w aC)∧(aM 0= .pointer (some ⟨H.rb,0,none⟩))∧(aM 25= .int .i64 (n:Nat))∧(aM 26= .int .i64 (i:Nat))∧(n - i=a0)) _ ⟨0,[],rows,ln,V,R,ab,iY.start,aa,(by rw [ei]; exact ag.wk an),(U.wk an),(by rw [ei]; exact aF),(Wk.mw an),aa,aa,aa,aa⟩ ?_
 rintro a0 aM aC ⟨i,xs,rows',aK,I,R',hi,Y,cm,a1,av,Z,a3,cf,cg,ch,rfl⟩
 refine fx 0 cf<|fx 25 cg<|fx 26 ch<|sq fun cs bE=>rg aa<|p (lt aa aa)<|nl<|tn<|bE _ _<|sq fun ct bG=>cd aa (fun b7=> ?_) fun b7=> ?_
 refine aQ<|tn<|bG _ _<|sq fun cu bH=>aJ<|sq fun cv bI=>rg aa<|p (aV (.pointer<|some ⟨H.rb,0,none⟩) aa)<|e<|sT (L:= [str eL]) fQ aa aa aa aa fun bu bp cD bR bv=> ?_
 have ac:Wk aC bp:=bR.md
 have a4:=a3.trans<|Wk.mw ac
 refine eP aa (dW AI (Cv B H F R' rows' aK seen [eL] bu 1 _ _ bp (av.wk ac) (Tg.C0 bv aa) aa az fun q cb=>(Z.row q cb).2.1) aa fun cS cn bW=> ?_) (fun c w' E aL ag=>by
  obtain ⟨h1,h2⟩:=E
  have hm:=a4.trans<|fE.rb (av.wk ac) h2
  rcases h1 with ⟨rfl,h3⟩ | ⟨ay,M,rest,rfl,h4,h3⟩
  exact ⟨_,_,xr ak am (Y.ends ab),h3,hm⟩
  exact ⟨_,_,xr ak am (Y.other ab h4),h3,hm⟩)
 obtain ⟨ay,M,rest,rfl,aW,⟨bt,aH⟩,hT15,hM15⟩:=bW
 obtain ⟨cz,uI,rfl⟩:=hT15.slice
 have a2:=(a1.wk ac).rb (av.wk ac) hM15
 have a5:=a4.trans<|fE.rb (av.wk ac) hM15
 have ce:M≠[]∧M.length≤70000∧∀ x∈M,x.length≤70000:=Z.row (ay,M)<|by simp
 have aN:=kM.pH Z
 have bf:=hT15.cV
 have b6:=Z.len
 simp only [c7,bM] at b6
 refine p aE<|nl<|tn<|bI _ _<|sq fun cw bL=>rg aa<|p (aV (.pointer<|some ⟨H.rb,0,none⟩) aa)<|p mv<|p (bJ eZ aa aa)<|p (bK aa aa)<|eP aa (dW iD (iM H.rb ay _ 111 cn aH.dw az) aa fun cW aA b0=> ?_) fun c w' E aL ag=>⟨_,_,xr ak am (Y.bad ab aW<|Fa<|by have :=of_decide_eq_false E.2.1; omega),E.1,by rw [E.2.2]; exact a5⟩
 obtain ⟨rfl,ck,rfl⟩:=b0
 have bj:M.length=2:=by have :=of_decide_eq_true ck; omega
 have cJ:=ce.2.2 _<|dY (d:= []) (i:=1) ab
 refine nl<|tn<|bL _ _<|sq fun cx bO=> ?_
 have J:(fun w'=>Wk aA w') aA.drew:=(Md.refl _ _).drew
 refine bN (fun w'=>Wk aA w') aa wide J<|hp 0 aa aj (fun _ _=>aV (.pointer<|some ⟨H.rb,0,none⟩) aa) J<|hp 1 aa aj (fun _ _=>nc aa) J<|hp 2 aa aj (fun _ _=>fa ig aa) J<|hp 3 aa aj (fun w' A=>ld gq aa<|Wk.aR A<|(a7 aH.cells).trans aa) J<|hp 4 aa aj (fun _ _=>nc aa) J<|hp 5 aa aj (fun _ _=>fa gJ aa) J<|hp 6 aa aj (fun _ _=>fa tu aa) J<|hp 7 aa aj (fun w' A=>ld bz aa<|Wk.aR A<|(a7 a2.cells).trans aa) J<|hp 8 aa aj (fun _ _=>mv) J<|hp 9 aa aj (fun _ _=>bc cR aa aa ab<|aO.ok (bf.2)<|bT ab) J<|hp 10 aa aj (fun w' A=>ld bV aa<|Wk.aR A<|cj.get (i:=1) bf.2 ab) J<|he 11 aa aj<|cl F4 (Iy F.kind (M.getD 1 []) _ aF.kd ab) aa fun cX bq b1=> ?_
 obtain ⟨⟨aD,rfl,aT⟩,ae⟩:=b1
 have ae:=im ae
 have aq:=a2.wk ae
 have ax:=aH.wk ae
 have a8:=a5.trans<|Wk.mw ae
 have bg:¬(I.v10.ownBlock=some H.rb):=dI aq.eY ax.cells az
 have b9:¬(I.v10.ownBlock=some H.fb):=dI aq.eY aq.cells az
 have bB:B≤aA.heap.size:=by have :=(dB.1 aH.cells).1; omega
 have ah:(fun w'=>Wk aA w') bq:=ae
 refine ⟨ah,?_⟩
 refine hp 12 aa aj (fun _ _=>mv) ah<|hp 13 aa aj (fun _ _=>xt aa aa) ah<|hp 14 aa aj (fun _ _=>xt aa aa) ah<|hp 15 aa aj (fun _ _=>aE) ah<|hp 16 aa aj (fun _ _=>aE) ah<|hn aj<|tn<|bO _ _<|sq fun cy bP=>rg aa<|p (aV (.pointer<|some ⟨H.rb,0,none⟩) aa)<|p mv<|eP aa (dW oF (oP H.rb ay ((ed F.kind<|M.getD 1 []).2:Nat) bq ax.dw) aa fun v53 aB b3=> ?_) fun c w' E aL ag=>⟨_,_,xr ak am (Y.bad ab aW<|by rw [xq bj]; exact yr<|by have :=E.2.1; omega),E.1,by rw [E.2.2]; exact a8⟩
 obtain ⟨rfl,aX,rfl⟩:=b3
 have aX:(ed F.kind<|M.getD 1 []).2=0:=ab
 have b8:=It aX
 refine nl<|tn<|bP _ _ ?_
 have G:(fun w'=>Md (fun k=>I.v10.ownBlock=some k) aB w') aB.drew:=(Md.refl _ _).drew
 refine eR (fun w'=>Md (fun k=>I.v10.ownBlock=some k) aB w') 18 aa wide G<|dG 0 aa aj (fun _=>aV (.pointer<|some ⟨H.rb,0,none⟩) aa) (fun _=>G)<|dG 1 aa aj (fun _=>nc aa) (fun _=>G)<|dG 2 aa aj (fun _=>fa ig aa) (fun _=>G)<|kI 3 aa aj (fun w' A=>ld gq aa<|Md.aR A ((a7 ax.cells).trans aa) bg) G<|dG 4 aa aj (fun _=>aV (.pointer<|some ⟨H.rb,0,none⟩) aa) (fun _=>G)<|dG 5 aa aj (fun _=>nc aa) (fun _=>G)<|dG 6 aa aj (fun _=>fa ig aa) (fun _=>G)<|kI 7 aa aj (fun w' A=>ld gq aa<|Md.aR A ((a7 ax.cells).trans aa) bg) G<|dG 8 aa aj (fun _=>nc aa) (fun _=>G)<|dG 9 aa aj (fun _=>fa gJ aa) (fun _=>G)<|dG 10 aa aj (fun _=>fa pM aa) (fun _=>G)<|kI 11 aa aj (fun w' A=>ld ry aa<|Md.aR A ((a7 aq.cells).trans aa) b9) G<|dG 12 aa aj (fun _=>mv) (fun _=>G)<|gE 13 aa aj<|fZ y6 aa (eS aT) fun cA co cE bS bx=> ?_
 have ao:=im bS.md
 have O:=aq.wk ao
 have a9:=ax.wk ao
 have b5:=(Tg.jP<|a6 aT ao).mono bB
 have ba:(fun w'=>Md (fun k=>I.v10.ownBlock=some k) aB w') co:=Md.mono ao fun _ _ h=>h.elim
 refine ⟨ba,?_⟩
 refine gE 14 aa aj<|ap y6 (O.eY) aa (by have :=(dB.1 a9.cells).1; omega) aa (aO.ec bx) (aa) (by show List.all [aD] gF=true; simp only [List.all_cons,List.all_nil,eS aT,Bool.and_self]) (by simp only [bM]; omega) (by simp only [bM]; omega) fun aY br bi au cP cI=> ?_
 have bQ:=(a8.trans<|Wk.mw ao).trans<|Mw.of au (TF.own O.eY az) fun k hk=>(dS O.eY hk).1
 have b2:=dE.own a9 O.eY au az
 have aS:=au.aJ O.cells<|dI O.eY O.cells az
 have ca:bw br B 70 1 aY ((F.aliases++xs)++ [(ed F.kind<|M.getD 1 []).1]).length (I.sa++ [aD]):=by rw [bM]; exact bi
 have aI:(fun w'=>Md (fun k=>I.v10.ownBlock=some k) aB w') br:=ba.trans' au fun _ _ h=>h
 refine ⟨aI,?_⟩
 exact dG 15 aa aj (fun _=>nc aa) (fun _=>aI)<|dG 16 aa aj (fun _=>fa gJ aa) (fun _=>aI)<|dG 17 aa aj (fun _=>fa pM aa) (fun _=>aI)<|dO 18 aa aj aj<|cT G4 aa aa (v:=aY) (eS bi) aS (by show _ < 14; omega) fun cZ aP bA=>eQ aj<|bn<|tn<|bH _ _<|rg aa<|p (ad aa aa<|bY ab)<|p mv<|nl<|tn<|⟨_,ab,i+1,xs++ [(ed F.kind<|M.getD 1 []).1],rest,ay,{I with v10:=aY,sa:=I.sa++ [aD]},bt,ab,(by rw [show n - (i+1)=n - i - 1 by omega]; exact Y.step ab aW<|by rw [xq bj]; exact yt aX),(by rw [bM,cm]; rfl),(by rw [← dH]; exact dX.Ai (x:=(ed F.kind<|M.getD 1 []).1) (vx:=aD) O b5 au ca aP bA),(dE.oH b2 aS aP),(⟨by simp only [bM,e9]; omega,aN.sl,aN.row,aN.kd,by intro l ai; rw [← dH] at ai; rcases jF.1 ai with ai | ai; exact Z.al l ai; rw [j5.1 ai]; exact b8⟩),(bQ.trans<|Mw.of aP (TF.eq (dA aS) az) fun k hk=>hk ▸ O.lo.1),aa,aa,aa,aa⟩
 refine ext<|te _<|te _<|be<|jO<|f0 aa ?_
 rw [show n - i=0 by omega] at Y
 exact ⟨aa,_,rows',aK,Ov ak am Y.done,⟨I,R',a1,av.congr aa (fun _=>rfl),Z⟩,a3⟩
end Go.Hb.lU
end
