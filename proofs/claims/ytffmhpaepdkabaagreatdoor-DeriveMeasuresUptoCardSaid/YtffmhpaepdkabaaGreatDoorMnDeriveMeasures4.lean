/-
  Walks and plain laws that the law rests on, laid together. No conditions but those that each theorem names.
-/
import Derived.Test.YtffmhpaepdkabaaGreatDoorMnDeriveMeasures3
set_option linter.unusedVariables false
set_option maxRecDepth 20000
set_option maxHeartbeats 1000000
open Array renaming getElem?_eq_some_iff→cU
open Bool renaming eq_iff_iff→tT,noConfusion→ee
open Classical renaming not_not→jk
open Go.Proofs.Tryz renaming prog→ay
open Go.Value renaming bool→bQ,int→je,oneCell'→gB,slice→bR,tuple→gz
open Go.Value.slice renaming injEq→mQ
open Go.World renaming ownsRow→bq,ownsRow_nil→dz
open List renaming append_assoc→dD,append_nil→eh,count_eq_zero→q6,count_le_length→uc,count_pos_iff→zB,drop_drop→sh,drop_eq_nil_of_le→gU,drop_succ_cons→wm,drop_take→si,drop_zero→wo,eq_nil_of_length_eq_zero→fW,flatMap_append→nw,flatMap_singleton→o0,getD_cons_zero→lT,getD_eq_getElem?_getD→cR,getElem?_eq_getElem→cC,idxOf_lt_length_iff→wv,length→jz,length_append→bL,length_cons→cO,length_drop→fT,length_map→fM,length_nil→gC,length_replicate→oo,length_singleton→fA,length_take→dR,map_append→iu,map_take→Ew,mem_append→jD,mem_singleton→j5,replicate→kp,take→sn,take_of_length_le→eM,take_succ_cons→p9,take_zero→ou,toArray→bf
open Nat renaming add_le_add_left→zM,le_refl→cA,le_trans→gk,lt_or_ge→fi,mul_one→o7,zero_add→gV
open UInt8 renaming toNat_inj→k8,toNat_lt→iT
open Go.Proofs.Tryz
open Go.Hb.dT Go.Proofs Go.Hb.fj

namespace Go.Hb.gX
theorem tD {w:World} {B e n cp i:Nat} {a:Option Addr} {d:Array Nat} (h:w.ownsRow B e 1 (.slice a n cp) n (LE bg d)):aJ w.heap (gq a cp i 1) ((LE bg d).drop i):=by
 have :=(a7 h).2.drop (cap:=cp) (k:=i) (size:=1)<|by rw [vc]; have h1:=fP h; have h2:=(a7 h).1; omega
 rwa [o7] at this
theorem VA (l:List Nat):l.map bg=LE bg l.toArray:=by simp [LE]
theorem sH (l:List Nat):(l.map bg).all gB=true :=by
 rw [List.all_eq_true]; intro v a; obtain ⟨x,_,rfl⟩:=List.mem_map.1 a; rfl
theorem YC (d:Array Nat) (k:Nat):(LE bg d).take k=(d.toList.take k).map bg:=by simp [LE,Ew]
theorem oQ (b:UInt8):jb b=decide ((b.toNat:Int) > 32∧(b.toNat:Int) < 127∧(b.toNat:Int)≠47∧(b.toNat:Int)≠44∧(b.toNat:Int)≠35):=by
 unfold jb; exact decide_eq_decide.2 ab
theorem Ws {w:World} {B e size n cp:Nat} {a:Option Addr} {xs:List Value} (h:w.ownsRow B e size (.slice a n cp) n xs) (hn:0 < n):a≠none:=by
 rintro rfl
 rcases h.2 with ⟨_,h5⟩ | ⟨g,cap,cur,h4,_⟩
 · omega
 · simp at h4
theorem sP (a:Option Addr) (n c:Nat) (xs:List Value) (w:World) (M:aJ w.heap a xs) (ae:xs.length=n*1) (V:a=none→n=0) (h1:xs.all gB=true) (hn:n≤1048576):
 bm ay 51 (bf [.slice a n c]) w (fun v w'=>bq w' w.heap.size 51 1 v n xs∧Wk w w'):=by
 refine enter func51 aa ntmps51 aa<|ag fun E=>aw<|E<|aB fun G=>ag fun I=>ak (.slice a n c)<|p (sW oR aa aa)<|nl<|I<|cb aa (fun A=> ?_) fun A=> ?_
 have Y:a=none:=by simpa using A
 refine ag fun i=>aw<|i<|rt<|tr<|aV aa ?_
 have Z:=V Y
 subst Z
 obtain rfl :=fW (show xs.length=0 by omega)
 exact ⟨dz _ _ _ _,Md.refl _ _⟩
 refine aM<|G<|ag fun i=>e<|m4 yZ fun al aq am q J=> ?_
 have C:=J w.heap.size ab
 refine ak (.slice a n c)<|e<|ap yZ (C) aa (by have :=q.size; omega) aa (M.wk q.md) (ae) (h1) ab ab fun ai aj ac U ao an=> ?_
 have O:=Wk.own q.md C U<|cA _
 refine aw<|i<|rt<|aV aa ?_
 have ah:bq aj w.heap.size 51 1 ai n xs:=by simpa using ac
 exact ⟨ah,O⟩
theorem Rm (d:Array Nat) (B n cp:Nat) (a:Option Addr) (w:World) (G:w.ownsRow B 51 1 (.slice a n cp) n (LE bg d)) (bp:n≤1048576):
 bm ay 247 (bf [.slice a n cp]) w (fun v w'=> ∃ k,v= .slice a k cp∧k=(iD d.toList).length∧bq w' B 51 1 (.slice a k cp) k ((iD d.toList).map bg)∧Md (fun q=>(bR a n cp).ownBlock=some q) w w'):=by
 have bo:=fP G
 have bk:=(a7 G).1
 refine enter func247 aa ntmps247 aa<|ag fun ax=>aw<|ax<|aB fun aK=>ag fun aL=>ak (.slice a n cp)<|p (bK oR aa aa)<|p (lt aa aa)<|nl<|aL<|cd aa (fun a0=> ?_) fun a0=> ?_
 refine ag fun an=>ak (.slice a n cp)<|p (cJ (.slice a n cp) aa)<|nl<|an<|rt<|tr<|aV aa ?_
 have al:iD d.toList=d.toList:=by
  have aq:d.toList.length < 2:=by rw [tF]; omega
  revert aq
  generalize d.toList=l
  intro aq
  match l,aq with
  | [],_=>rfl
  | [x],_=>rfl
 exact ⟨n,aa,by rw [al,tF]; omega,by rw [al]; exact G,Md.refl _ _⟩
 refine aM<|aK<|aB fun an=>ag fun aN=>aw<|aN<|aH<|lp (fun V ar ac=> ∃ (i:Nat),(1≤i∧i≤n∧2≤n)∧(iD (d.toList.take i)=d.toList.take i)∧(Wk w ac)∧(ar 0= .slice a n cp)∧(ar 3=au i)∧(n - i=V)) _ ⟨1,ab,(by have h1:=y3 (d:=d) (i:=0) ab; rw [h1]; rfl),(Md.refl _ _),aa,aa,aa⟩ ?_
 rintro V ar ac ⟨i,hi,Y,J,a9,bb,rfl⟩
 refine fx 0 a9<|fx 3 bb<|aB fun aP=>ag fun aQ=>ak (au i)<|ak (.slice a n cp)<|p (bK oR aa aa)<|p (lt aa aa)<|nl<|aQ<|cd aa (fun aU=> ?_) fun aU=> ?_
 refine aM<|aP<|aB fun ao=>aH<|aB fun aR=> ?_
 have C:(fun w'=>Wk ac w') ac.drew:=(Md.refl _ _).drew
 refine bI (fun w'=>Wk ac w') aa wide C<|bF 0 aa (.slice a n cp) C<|bF 1 aa (au i) C<|aC 2 aa (fun _ _=>a8 bY aa aa ab<|aJ.ok ((a7 G).2)<|cy ab) C<|aC 3 aa (fun w' M=>ld cV aa<|Wk.aO M<|dG (i:=i) (a7<|aW G J).2 ab) C<|bF 4 aa (.slice a n cp) C<|bF 5 aa (au i) C<|aC 6 aa (fun _ _=>dK ((i - 1:Nat):Int) aa aa<|bj ab ab) C<|aC 7 aa (fun _ _=>a8 bY aa aa ab<|aJ.ok ((a7 G).2)<|cy ab) C<|aC 8 aa (fun w' M=>ld cV aa<|Wk.aO M<|dG (i:=i - 1) (a7<|aW G J).2 ab) C<|aC 9 aa (fun _ _=>bJ aa aa) C<|hn aj<|aR<|cd aa (fun aX=> ?_) fun aX=> ?_
 have heq:d[i - 1]! =d[i]! :=ab
 refine ag fun az=>ak (.slice a n cp)<|ak (au i)<|p (vF bY aa aa ab)<|aw<|az<|aB fun aD=>ag fun aE=>aw<|aE<|aH<|lp (fun V ae U=> ∃ (k i2:Nat) (E:Array Nat),(1≤k∧k < i+i2∧1≤i2∧i2≤n - i)∧(E.toList.drop k=d.toList.drop k)∧(E.toList.take k=iD (d.toList.take<|i+i2))∧(U.ownsRow B 51 1 (.slice a n cp) n<|LE bg E)∧(Md (fun q=>(bR a n cp).ownBlock=some q) w U)∧(ae 0= .slice a n cp)∧(ae 3=au k)∧(ae 4= .slice (gq a cp i 1) (n - i) (cp - i))∧(ae 5=au i2)∧(n - i2=V)) _ ⟨i,1,d,ab,aa,(by rw [xC ab ab,if_pos heq,Y]),(aW G<|Md.trans J (Md.refl _ _).drew),((Md.trans J (Md.refl _ _).drew).mono fun _ _ h=>h.elim),aa,aa,aa,aa,aa⟩ ?_
 rintro V ae U ⟨k,i2,E,hk,O,Z,I,ap,bc,bd,bh,bi,rfl⟩
 refine fx 0 bc<|fx 3 bd<|fx 4 bh<|fx 5 bi ?_
 have bl:=fP I
 refine aB fun aF=>ag fun aG=>ak (au i2)<|ak (.slice (gq a cp i 1) (n - i)<|cp - i)<|p (bK oR aa aa)<|p (lt aa aa)<|nl<|aG<|cd aa (fun aY=> ?_) fun aY=> ?_
 refine aM<|aF<|aB fun ah=>aH<|aB fun am=> ?_
 have A:(fun w'=>Wk U w') U.drew:=(Md.refl _ _).drew
 refine bI (fun w'=>Wk U w') aa wide A<|bF 0 aa (.slice (gq a cp i 1) (n - i)<|cp - i) A<|bF 1 aa (au i2) A<|aC 2 aa (fun _ _=>a8 bY aa aa ab<|aJ.ok (tD I)<|Cv ab) A<|aC 3 aa (fun w' M=>ld cV aa<|Wk.aO M<|Cu (j:=i2) (tD I) ab) A<|bF 4 aa (.slice (gq a cp i 1) (n - i)<|cp - i) A<|bF 5 aa (au i2) A<|aC 6 aa (fun _ _=>dK ((i2 - 1:Nat):Int) aa aa<|bj ab ab) A<|aC 7 aa (fun _ _=>a8 bY aa aa ab<|aJ.ok (tD I)<|Cv ab) A<|aC 8 aa (fun w' M=>ld cV aa<|Wk.aO M<|Cu (j:=i2 - 1) (tD I) ab) A<|aC 9 aa (fun _ _=>db aa aa) A<|hn aj<|am<|cd aa (fun aZ=> ?_) fun aZ=> ?_
 have ai:=aW I A
 have g1:=xF O (show k≤i+i2 by omega)
 have g2:=xF O (show k≤i+(i2 - 1) by omega)
 have a3:¬d[i+i2 - 1]! =d[i+i2]! :=by rw [show i+i2 - 1=i+(i2 - 1) by omega,← g1,← g2]; omega
 exact ag fun aI=>ak (.slice a n cp)<|ak (au k)<|ak (.slice (gq a cp i 1) (n - i)<|cp - i)<|ak (au i2)<|p (a8 bY aa aa ab<|aJ.ok (tD ai)<|Cv ab)<|p (ld cV aa<|Cu (j:=i2) (tD ai) ab)<|p (a8 bY aa aa ab<|aJ.ok ((a7 ai).2)<|cy ab)<|e<|gx (u:=E[i+i2]!) (k) ai gp aa aa aa ab fun bs aS a5=>nl<|aI<|rg aa<|ak (au k)<|p (bE ((k+1:Nat):Int) aa aa<|bj ab ab)<|p aA<|nl<|bn<|ah<|rg aa<|ak (au i2)<|p (bE ((i2+1:Nat):Int) aa aa<|bj ab ab)<|p aA<|nl<|tn<|⟨_,ab,k+1,i2+1,E.setIfInBounds k E[i+i2]!,ab,(by rw [set_drop ab]; have h3:=congrArg (List.drop 1) O; rwa [sh,sh] at h3),(by rw [Dn ab,Z,show i+(i2+1)=i+i2+1 from aa,xC ab ab,if_neg a3,g1]),a5,(Md.trans ap<|Md.trans (A.mono fun _ _ h=>h.elim) aS),aa,aa,aa,aa,aa⟩
 have g1:=xF O (show k≤i+i2 by omega)
 have g2:=xF O (show k≤i+(i2 - 1) by omega)
 have a1:d[i+i2 - 1]! =d[i+i2]! :=by rw [show i+i2 - 1=i+(i2 - 1) by omega,← g1,← g2]; omega
 exact aM<|bn<|ah<|rg aa<|ak (au i2)<|p (bE ((i2+1:Nat):Int) aa aa<|bj ab ab)<|p aA<|nl<|tn<|⟨_,ab,k,i2+1,E,ab,O,(by rw [Z,show i+(i2+1)=i+i2+1 from aa,xC ab ab,if_pos a1]),(aW I (Md.refl _ _).drew),ap.drew,aa,aa,aa,aa,aa⟩
 refine ext<|ba<|ba<|be<|aD<|ag fun ah=>ak (.slice a n cp)<|ak (au k)<|p (vF bY aa aa ab)<|e<|Q2 (k:=k) oR ZI aa I aa aa ab fun bt aT a6=>nl<|ah<|ag fun am=>ak (.slice a n cp)<|ak (au k)<|p (vE bY aa aa ab)<|aw<|am<|rt<|br<|tr<|tr<|br<|tr<|aV aa ?_
 have al:d.toList.take (i+i2)=d.toList:=eM<|by rw [tF]; omega
 rw [al] at Z
 have a2:k=(iD d.toList).length:=by rw [← Z,dR,tF]; omega
 refine ⟨k,aa,a2,?_,Md.trans ap aT⟩
 have av:=Ka a6 (show k≤n by omega)<|Ws G ab
 rw [o7,List.take_append,eM (l:=(LE bg E).take k) (by rw [dR]; omega),dR,vc,show k - min k E.size=0 by omega,ou,eh,YC,Z] at av
 exact av
 have a4:¬d[i - 1]! =d[i]! :=ab
 exact aM<|bn<|ao<|rg aa<|ak (au i)<|p (ad aa aa<|bX ab)<|p aA<|nl<|tn<|⟨_,ab,i+1,ab,(by rw [xC ab ab,if_neg a4,Y,y3 ab]),(Md.trans J (Md.refl _ _).drew),aa,aa,aa⟩
 refine ext<|ba<|ba<|be<|an<|ag fun ao=>ak (.slice a n cp)<|p (cJ (.slice a n cp) aa)<|nl<|ao<|rt<|aV aa ?_
 rw [show d.toList.take i=d.toList from eM (by rw [tF]; omega)] at Y
 exact ⟨n,aa,by rw [Y,tF]; omega,by rw [Y]; exact aW G J,J.mono fun _ _ h=>h.elim⟩
theorem vo (l:List Nat) (a:Option Addr) (c:Nat) (w:World) (O:aJ w.heap a (l.map bg)) (ai:a=none→l.length=0) (aj:l.length≤255):
 bm ay 205 (bf [.slice a l.length c]) w (fun v w'=>bq w' w.heap.size 51 1 v (km l).length ((km l).map bg)∧Wk w w'):=by
 refine enter func205 aa ntmps205 aa<|ag fun G=>aw<|G<|ag fun I=>ak (.slice a l.length c)<|e<|cl rA (sP a l.length c (l.map bg) _ O (by simp) ai (sH l) ab) aa fun v5 ap ac=> ?_
 obtain ⟨A,U⟩:=ac
 obtain ⟨i,q,rfl⟩:=cB A
 rw [VA] at A
 refine aw<|I<|ag fun J=>ak (.slice i l.length q)<|e<|cl PE (X4 l.toArray w.heap.size l.length q i _ A aj) aa fun ao aq ae=> ?_
 obtain ⟨d1,rfl,al,am,C,Y⟩:=ae
 refine nl<|J<|ag fun M=>ak (.slice i l.length q)<|e<|cl PF (Rm d1 w.heap.size l.length q i _ C ab) aa fun v9 an ah=> ?_
 obtain ⟨k,rfl,hk,E,Z⟩:=ah
 have V:Wk w an:=Wk.own (Wk.own U A Y<|cA _) C Z<|cA _
 refine aw<|M<|rt<|aV aa ?_
 rw [X3 al am] at hk E
 exact ⟨by rw [← hk]; exact E,V⟩
theorem Dq (b:UInt8) (w:World):
 bm ay 266 (bf [.int .u8 b.toNat]) w (fun v w'=>v= .bool (jb b)∧Wk w w'):=by
 refine enter func266 aa ntmps266 aa<|ag fun i=>aw<|i<|ag fun a=>ak (.int .u8 b.toNat)<|p (gt aa aa)<|p mv<|gs (t:=5) aa (fun C=> ?_) fun C=> ?_
 refine aI aa (aT (.int .u8 b.toNat) aa)<|aI aa (lt aa aa)<|p (bB aa)<|p mv<|gs (t:=9) aa (fun E=> ?_) fun E=> ?_
 refine aI aa (aT (.int .u8 b.toNat) aa)<|aI aa (db aa aa)<|p (bB aa)<|p mv<|gs (t:=13) aa (fun q=> ?_) fun q=> ?_
 refine aI aa (aT (.int .u8 b.toNat) aa)<|aI aa (db aa aa)<|p (bB aa)<|p mv<|gs (t:=17) aa (fun A=> ?_) fun A=> ?_
 exact aI aa (aT (.int .u8 b.toNat) aa)<|aI aa (db aa aa)<|p (bB aa)<|aw<|a<|rt<|aV aa<|⟨by show bQ (decide _)=_; rw [oQ]; exact bv (by constructor <;> intro h <;> first | exact ⟨ab,ab,ab,ab,h⟩ | exact h.2.2.2.2),Md.refl _ _⟩
 exact aE aa<|aE aa<|p (bp aa)<|aw<|a<|rt<|aV aa<|⟨by show bQ false =_; rw [oQ,decide_eq_false ab],Md.refl _ _⟩
 exact aE aa<|aE aa<|p (bp aa)<|p mv<|aE aa<|aE aa<|p (bp aa)<|p aA<|nl<|a<|rt<|aV aa<|⟨by show bQ false =_; rw [oQ,decide_eq_false ab],Md.refl _ _⟩
 exact aE aa<|aE aa<|p (bp aa)<|p mv<|aE aa<|aE aa<|p (bp aa)<|p mv<|aE aa<|aE aa<|p (bp aa)<|aw<|a<|rt<|aV aa<|⟨by show bQ false =_; rw [oQ,decide_eq_false ab],Md.refl _ _⟩
 exact aE aa<|aE aa<|p (bp aa)<|p mv<|aE aa<|aE aa<|p (bp aa)<|p mv<|aE aa<|aE aa<|p (bp aa)<|p mv<|aE aa<|aE aa<|p (bp aa)<|p aA<|nl<|a<|rt<|aV aa<|⟨by show bQ false =_; rw [oQ,decide_eq_false ab],Md.refl _ _⟩
theorem Jb (k:Nat) (w:World):
 bm ay 242 (bf [au k]) w (fun v w'=>v= .bool (decide (1≤k∧k≤3))∧Wk w w'):=by
 refine enter func242 aa ntmps242 aa<|ag fun i=>aw<|i<|ag fun a=>ak (au k)<|p (ge aa aa)<|p mv<|gs (t:=5) aa (fun q=> ?_) fun q=> ?_
 exact aI aa (aT (au k) aa)<|aI aa (le aa aa)<|p (bB aa)<|aw<|a<|rt<|aV aa<|⟨by show bQ (decide _)=_; exact bv ab,Md.refl _ _⟩
 exact aE aa<|aE aa<|p (bp aa)<|aw<|a<|rt<|aV aa<|⟨by show bQ false =_; rw [decide_eq_false ab],Md.refl _ _⟩
end Go.Hb.gX
section
namespace Go.Hb
open Go.Hb.gX
theorem HJ {kind:Nat} {s:List UInt8} (h:kind=1∧s.length=1∧jb (s.getD 0 0)=true):eH kind s=(s.getD 0 0).toNat:=by unfold eH; rw [if_pos h.1,if_pos h.2]
theorem HK {kind:Nat} {s:List UInt8} (h:kind=2∧s.length=2∧jb (s.getD 0 0)=true∧jb (s.getD 1 0)=true):eH kind s=256 *(s.getD 0 0).toNat+(s.getD 1 0).toNat:=by unfold eH; rw [if_neg ab,if_pos h.1,if_pos h.2]
theorem Bz {kind:Nat} {s:List UInt8} (h:kind=3):eH kind s=(dZ s 65535).1:=by unfold eH; rw [if_neg ab,if_neg ab]
theorem sY {kind:Nat} {s:List UInt8} (h:kind=1∨kind=2) (h1:¬(kind=1∧s.length=1∧jb (s.getD 0 0)=true)) (h2:¬(kind=2∧s.length=2∧jb (s.getD 0 0)=true∧jb (s.getD 1 0)=true)):eH kind s=0:=by
 unfold eH
 rcases h with h | h
 · rw [if_pos h,if_neg (fun h3=>h1 ⟨h,h3⟩)]
 · rw [if_neg ab,if_pos h,if_neg (fun h3=>h2 ⟨h,h3⟩)]
theorem UU {c:UInt8} {l:List UInt8} (h:0 < l.count c):¬e9 c l < 0:=by
 intro h1
 exact I3 h1<|wv.2<|zB.1 h
theorem W5 (n:Nat) (x:List UInt8):kp n (str x)=(kp n x).map str:=by rw [List.map_replicate]
theorem KO {a:List (List UInt8)} {m:Nat} {x:List UInt8} (h:0 < m):((a++kp m []).map str).set a.length (str x)=((a++ [x])++kp (m - 1) []).map str:=by
 obtain ⟨m,rfl⟩:∃ k,m=k+1:=⟨m - 1,ab⟩
 rw [← List.map_set,List.set_append_right _ _ (cA _),Nat.sub_self,List.replicate_succ,List.set_cons_zero,Nat.add_sub_cancel,dD]; rfl
theorem Bp {kind:Nat} {ps:List (List UInt8)} {i:Nat} (h:i < ps.length) (h1:¬∃ x∈ps.take i,eH kind x=0) (h2:eH kind (ps.getD i [])≠0):¬∃ x∈ps.take (i+1),eH kind x=0:=by
 rw [fK ps i [] h]
 rintro ⟨x,a,h3⟩
 rcases jD.1 a with a | a
 · exact h1 ⟨x,a,h3⟩
 · rw [j5] at a; subst a; exact h2 h3
theorem yf {α:Type} {l:List α} {i:Nat} {d:α} (h:i < l.length):l.getD i d∈l:=by
 rw [cR,cC h]; exact List.getElem_mem h
theorem HL (kind:Nat) (s:List UInt8) (w:World) (hk:kind=1∨kind=2∨kind=3) (hs:s.length≤1048576):
 bm ay 244 (bf [au kind,str s]) w (fun v w'=>v=bg (eH kind s)∧Wk w w'):=by
 refine enter func244 aa ntmps244 aa<|ag fun ai=>aw<|ai<|aB fun al=>aH ?_
 refine ed (fun E ah=> ∃ (J:Bool),(J=decide (kind=1∧s.length=1∧jb (s.getD 0 0)=true))∧(Wk w ah)∧(E 0=au kind)∧(E 1=str s)∧(E 7= .bool J)) ?_ ?_
 refine rg aa<|ak (au kind)<|p (bJ aa aa)<|p mv<|gs (t:=10) aa (fun aF=> ?_) fun aF=> ?_
 refine aI aa (aT (str s) aa)<|aI aa (cz u9 aa aa)<|aI aa (bJ aa aa)<|p (bB aa)<|p mv<|gs (t:=15) aa (fun aG=> ?_) fun aG=> ?_
 refine aI aa (aT (str s) aa)<|aI aa (iY 0 u9 aa aa ab)<|eg aa aa aa<|cl AI (Dq (s.getD 0 0) _) aa fun aU aZ aq=> ?_
 obtain ⟨rfl,an⟩:=aq
 exact p (bB aa)<|p aA<|nl<|tn<|⟨jb (s.getD 0 0),(by rw [tT,decide_eq_true_iff]; exact ⟨fun h=>⟨ab,ab,h⟩,fun h=>h.2.2⟩),an,aa,aa,aa⟩
 exact aE aa<|aE aa<|aE aa<|p (bp aa)<|p aA<|nl<|tn<|⟨false,((decide_eq_false fun h=>by omega).symm),(Md.refl _ _),aa,aa,aa⟩
 exact aE aa<|aE aa<|aE aa<|p (bp aa)<|p mv<|aE aa<|aE aa<|aE aa<|p (bp aa)<|p aA<|nl<|tn<|⟨false,((decide_eq_false fun h=>by omega).symm),(Md.refl _ _),aa,aa,aa⟩
 rintro E ah ⟨J,ac,i,aL,aN,aO⟩
 refine fx 0 aL<|fx 1 aN<|fx 7 aO<|cb aa (fun U=> ?_) fun U=> ?_
 have V:kind=1∧s.length=1∧jb (s.getD 0 0)=true :=of_decide_eq_true<|ac ▸ U
 exact ag fun q=>ak (str s)<|p (iY 0 u9 aa aa ab)<|p (lN y8 pV aa<|tN<|by have :=iT (s.getD 0 0); omega)<|aw<|q<|rt<|br<|tr<|aV aa<|⟨by rw [HJ V]; rfl,i⟩
 have V:¬(kind=1∧s.length=1∧jb (s.getD 0 0)=true):=of_decide_eq_false<|ac ▸ U
 refine ed (fun G A=> ∃ (M:Bool),(M=decide (kind=2∧s.length=2∧jb (s.getD 0 0)=true∧jb (s.getD 1 0)=true))∧(Wk w A)∧(G 0=au kind)∧(G 1=str s)∧(G 23= .bool M)) ?_ ?_
 refine rg aa<|ak (au kind)<|p (bJ aa aa)<|p mv<|gs (t:=26) aa (fun aJ=> ?_) fun aJ=> ?_
 refine aI aa (aT (str s) aa)<|aI aa (cz u9 aa aa)<|aI aa (bJ aa aa)<|p (bB aa)<|p mv<|gs (t:=31) aa (fun aK=> ?_) fun aK=> ?_
 refine aI aa (aT (str s) aa)<|aI aa (iY 0 u9 aa aa ab)<|eg aa aa aa<|cl AI (Dq (s.getD 0 0) _) aa fun aW a0 ar=> ?_
 obtain ⟨rfl,Z⟩:=ar
 refine p (bB aa)<|p mv<|gb (t:=36) aa (fun C=> ?_) fun C=> ?_
 refine aI aa (aT (str s) aa)<|aI aa (iY 1 u9 aa aa ab)<|eg aa aa aa<|cl AI (Dq (s.getD 1 0) _) aa fun aX a1 av=> ?_
 obtain ⟨rfl,ao⟩:=av
 exact p (bB aa)<|p aA<|nl<|tn<|⟨jb (s.getD 1 0),(by rw [tT,decide_eq_true_iff]; exact ⟨fun h=>⟨ab,ab,C,h⟩,fun h=>h.2.2.2⟩),(Md.trans i<|Md.trans Z ao),aa,aa,aa⟩
 exact aE aa<|aE aa<|aE aa<|p (bp aa)<|p aA<|nl<|tn<|⟨false,((decide_eq_false fun h=>by rw [h.2.2.1] at C; cases C).symm),(Md.trans i Z),aa,aa,aa⟩
 exact aE aa<|aE aa<|aE aa<|p (bp aa)<|p mv<|aE aa<|aE aa<|aE aa<|p (bp aa)<|p aA<|nl<|tn<|⟨false,((decide_eq_false fun h=>by omega).symm),i,aa,aa,aa⟩
 exact aE aa<|aE aa<|aE aa<|p (bp aa)<|p mv<|aE aa<|aE aa<|aE aa<|p (bp aa)<|p mv<|aE aa<|aE aa<|aE aa<|p (bp aa)<|p aA<|nl<|tn<|⟨false,((decide_eq_false fun h=>by omega).symm),i,aa,aa,aa⟩
 rintro G A ⟨M,ae,i,aP,aQ,aR⟩
 refine fx 0 aP<|fx 1 aQ<|fx 23 aR<|cb aa (fun O=> ?_) fun O=> ?_
 have Y:kind=2∧s.length=2∧jb (s.getD 0 0)=true∧jb (s.getD 1 0)=true :=of_decide_eq_true<|ae ▸ O
 have g0:=iT<|s.getD 0 0
 have g1:=iT<|s.getD 1 0
 refine aB fun q=> ?_
 have a:(fun w'=>Wk A w') A.drew:=(Md.refl _ _).drew
 exact bI (fun w'=>Wk A w') aa wide a<|bF 0 aa (str s) a<|aC 1 aa (fun _ _=>iY 0 u9 aa aa ab) a<|aC 2 aa (fun _ _=>lN y8 pV aa<|tN ab) a<|aC 3 aa (fun _ _=>shl aa aa az<|XL g0) a<|bF 4 aa (str s) a<|aC 5 aa (fun _ _=>iY 1 u9 aa aa ab) a<|aC 6 aa (fun _ _=>lN y8 pV aa<|tN ab) a<|aC 7 aa (fun _ _=>Fk aa aa<|Wo g0 g1) a<|aC 8 aa (fun _ _=>aA) a<|hn aj<|q<|rt<|br<|tr<|aV aa<|⟨by rw [HK Y]; rfl,i.drew⟩
 have Y:¬(kind=2∧s.length=2∧jb (s.getD 0 0)=true∧jb (s.getD 1 0)=true):=of_decide_eq_false<|ae ▸ O
 refine ag fun q=>ak (au kind)<|p (bJ aa aa)<|aw<|q<|cd aa (fun aD=> ?_) fun aD=> ?_
 refine ag fun I=>ak (str s)<|e<|cl xn (yC s 65535 _ hs az) aa fun aY a2 ax=> ?_
 obtain ⟨rfl,ap⟩:=ax
 have aS:=JP s
 exact p mv<|p (xt aa aa)<|p (xt aa aa)<|p aA<|aw<|I<|aB fun am=>rg aa<|p mv<|p (lN y8 qT aa<|tN ab)<|aw<|am<|rt<|br<|tr<|aV aa<|⟨by rw [Bz ab]; rfl,Md.trans i ap⟩
 exact aM<|bn<|al<|ag fun I=>aw<|I<|rt<|aV aa<|⟨by rw [sY ab V Y]; rfl,i⟩
theorem Wj (kind:Nat) (s:List UInt8) (w:World) (hk:kind=1∨kind=2∨kind=3) (hs:s.length≤1048576):
 bm ay 239 (bf [au kind,str s]) w (fun v w'=>v= .tuple #[bg (gN kind s).1,au ((gN kind s).2)]∧Wk w w'):=by
 refine enter func239 aa ntmps239 aa<|ag fun A=>p aA<|aw<|A<|aB fun C=>aB fun E=>rg aa<|ak (au kind)<|e<|cl FZ (Jb kind _) aa fun V Z O=> ?_
 obtain ⟨rfl,q⟩:=O
 refine p (no aa)<|nl<|E<|cf (by rw [decide_eq_true ab]; rfl)<|aM<|C<|ag fun G=>ak (au kind)<|ak (str s)<|e<|cl F1 (HL kind s _ hk hs) aa fun v12 Y M=> ?_
 obtain ⟨rfl,i⟩:=M
 refine aw<|G<|aB fun I=>ag fun J=>p mv<|p (bJ aa aa)<|nl<|J<|cd aa (fun U=> ?_) fun U=> ?_
 exact ag fun a=>p aA<|aw<|a<|rt<|tr<|f2 aa aa aa<|⟨by unfold gN; rw [if_pos (show eH kind s=0 by omega)]; rfl,Md.trans q i⟩
 exact aM<|I<|ag fun a=>p mv<|p aA<|p aA<|nl<|a<|rt<|f2 aa aa aa<|⟨by unfold gN; rw [if_neg (show ¬eH kind s=0 by omega)]; rfl,Md.trans q i⟩
theorem Ru (s:List UInt8) (c:UInt8) (w:World):
 bm ay 297 (bf [str s,str [c]]) w (fun v w'=>v=au (s.count c)∧Wk w w'):=by
 refine enter func297 aa ntmps297 aa<|ag fun a=>aw<|a<|aB fun i=>ag fun q=>ak (str [c])<|p (cz u9 aa aa)<|p (bJ aa aa)<|nl<|q<|cd aa (fun h=>absurd h<|by simp) fun I=>aM<|i<|aB fun E=>ag fun A=>ak (str [c])<|p (cz u9 aa aa)<|p (bJ aa aa)<|nl<|A<|cd aa (fun G=> ?_) fun h=>absurd aa h
 exact ag fun C=>ak (str s)<|ak (str [c])<|p (iY 0 u9 aa aa<|by simp)<|p (Gy (Rk s c _) aa)<|p aA<|nl<|C<|rt<|tr<|aV aa<|⟨aa,Md.refl _ _⟩
theorem TG (s:List UInt8) (w:World) (hs:s.length≤1048576):
 bm ay 279 (bf [str s,str [44],.int .i64 0,.int .i64 (-1)]) w (fun v w'=>bq w' w.heap.size 9 1 (v) (fJ 44 [] s).length ((fJ 44 [] s).map str)∧Wk w w'):=by
 have bg:=uc (a:=(44:UInt8)) (l:=s)
 have a4:=Dv 44 s []
 refine enter func279 aa ntmps279 aa<|ag fun ah=>aw<|ah<|aB fun ar=>ag fun av=>ak (.int .i64<|-1)<|p (bJ aa aa)<|nl<|av<|cd aa (fun h=>absurd h az) fun bb=>aM<|ar<|aB fun ax=>ag fun aC=>ak (str [44])<|p (dV aa aa)<|nl<|aC<|cd aa (fun h=>absurd h<|by simp) fun bc=> ?_
 refine aM<|ax<|aB fun aD=>ag fun aE=>ak (.int .i64<|-1)<|p (lt aa aa)<|nl<|aE<|cd aa (fun bd=> ?_) fun h=>absurd az h
 refine rg aa<|ak (str s)<|ak (str [44])<|e<|cl P2 (Ru s 44 _) aa fun bl bp aP=> ?_
 obtain ⟨rfl,Y⟩:=aP
 refine p (bE ((s.count 44 +1:Nat):Int) aa aa<|bj ab ab)<|aw<|aD<|ag fun aF=>p mv<|ak (str s)<|p (cz u9 aa aa)<|p (bE ((s.length+1:Nat):Int) aa aa<|bj ab ab)<|p (mn aa aa)<|aw<|aF<|ag fun aG=>p mv<|e<|VR (n:=s.count 44 +1) (zv:=str []) fQ ZD aa (show je .i64 (min ((s.count 44 +1:Nat):Int) ((s.length+1:Nat):Int))=_ from iv ab) (show je .i64 (min ((s.count 44 +1:Nat):Int) ((s.length+1:Nat):Int))=_ from iv ab) ab (by unfold maxLen; omega) fun E br a9 aO aU=> ?_
 have Z:=aU w.heap.size<|by have :=Y.size; omega
 rw [W5] at Z
 refine aw<|aG<|ag fun ai=>p mv<|p (dK ((s.count 44:Nat):Int) aa aa<|bj ab ab)<|p aA<|nl<|ai<|ag fun aj=>aw<|aj<|aB fun al=>aH<|lp (fun U q O=> ∃ (i:Nat) (A:List (List UInt8)) (r:List UInt8),(A.length=i)∧(r.count 44 +i=s.count 44∧r.length≤s.length)∧(A++fJ 44 [] r=fJ 44 [] s)∧(bq O w.heap.size 9 1 (.slice (some ⟨E,0,none⟩) (s.count 44 +1)<|s.count 44 +1) (s.count 44 +1)<|(A++kp (s.count 44 +1 - i) []).map str)∧(Wk w O)∧(q 0=str r)∧(q 1=str [44])∧(q 2= .int .i64 0)∧(q 3=au (s.count 44))∧(q 9= .slice (some ⟨E,0,none⟩) (s.count 44 +1) (s.count 44 +1))∧(q 10=au i)∧(r.length=U)) _ ⟨0,[],s,aa,(ab),aa,Z,(Md.trans Y aO.md),aa,aa,aa,aa,aa,aa,aa⟩ ?_
 rintro U q O ⟨i,A,r,hi,bi,hd,C,V,aY,aZ,a1,a2,a3,a0,rfl⟩
 refine fx 0 aY<|fx 1 aZ<|fx 2 a1<|fx 3 a2<|fx 9 a3<|fx 10 a0 ?_
 have bk:=uc (a:=(44:UInt8)) (l:=r)
 refine aB fun am=>ag fun an=>ak (au i)<|ak (au<|s.count 44)<|p (lt aa aa)<|nl<|an<|cd aa (fun aR=> ?_) fun aR=> ?_
 refine aM<|am<|aH<|ag fun I=>ak (str r)<|ak (str [44])<|e<|cl P3 (UI r 44 _) aa fun bo bs aQ=> ?_
 obtain ⟨rfl,G⟩:=aQ
 refine aw<|I<|aB fun J=>ag fun ao=>p mv<|p (lt aa aa)<|nl<|ao<|cd aa (fun h=>absurd h<|UU ab) fun aS=>aM<|J<|aB fun ap=> ?_
 have ac:=rI (c:=(44:UInt8)) (l:=r) aS
 have bh:[(44:UInt8)].length=1:=rfl
 refine rg aa<|ak (.slice (some ⟨E,0,none⟩) (s.count 44 +1)<|s.count 44 +1)<|ak (au i)<|ak (str r)<|p mv<|ak (.int .i64 0)<|p (bE ((r.idxOf 44:Nat):Int) aa aa<|bj ab ab)<|p (rW u9 aa aa ab)<|p (a8 cH aa aa ab<|aJ.ok ((a7<|aW C G).2)<|bS<|by rw [bL,oo]; omega)<|e<|tC (j:=i) (u:=str<|r.take<|r.idxOf 44) (aW C G) kS aa aa aa ab ab fun a5 aL ae=> ?_
 have aI:Wk w a5:=Wk.own (Md.trans V G) (aW C G) aL<|cA _
 rw [← hi,KO ab,hi] at ae
 exact nl<|ap<|ag fun aq=>ak (str r)<|p mv<|ak (str [44])<|p (cz u9 aa aa)<|p (bE ((r.idxOf 44 +1:Nat):Int) aa aa<|bj ab ab)<|p (mg u9 aa aa ab)<|aw<|aq<|rg aa<|ak (au i)<|p (bE ((i+1:Nat):Int) aa aa<|bj ab ab)<|p aA<|nl<|bn<|tn<|⟨_,by rw [fT]; omega,i+1,A++ [r.take (r.idxOf 44)],r.drop (r.idxOf 44 +1),(by rw [bL,hi]; rfl),(by have :=RI ac.2; rw [fT]; omega),(by rw [dD,← hd,Ld 44 r [] ac.2]; rfl),(by rw [show s.count 44 +1 - (i+1)=s.count 44 +1 - i - 1 by omega]; exact ae),aI,aa,aa,aa,aa,aa,aa,aa⟩
 refine ext<|ba<|ba<|be<|al<|ag fun I=>ak (.slice (some ⟨E,0,none⟩) (s.count 44 +1)<|s.count 44 +1)<|ak (au i)<|ak (str r)<|p (a8 cH aa aa ab<|aJ.ok ((a7 C).2)<|bS<|by rw [bL,oo]; omega)<|e<|tC (j:=i) (u:=str r) C kS aa aa aa ab ab fun a6 aN M=> ?_
 have aK:Wk w a6:=Wk.own V C aN<|cA _
 rw [← hi,KO ab,hi] at M
 refine nl<|I<|ag fun J=>ak (.slice (some ⟨E,0,none⟩) (s.count 44 +1)<|s.count 44 +1)<|ak (au i)<|p (bE ((i+1:Nat):Int) aa aa<|bj ab ab)<|p (vE cH aa aa ab)<|aw<|J<|rt<|aV aa ?_
 have aX:¬(44:UInt8)∈r:=fun h=>by have :=zB.2 h; omega
 have aT:A++ [r]=fJ 44 [] s:=by rw [← hd,Ya 44 r [] aX]; rfl
 rw [show s.count 44 +1 - i - 1=0 by omega,List.replicate_zero,eh,aT] at M
 exact ⟨by rw [a4,show s.count 44 +1=i+1 by omega] at*; exact M,aK⟩
theorem Yq (s:List UInt8) (w:World) (hs:s.length≤1048576):
 bm ay 265 (bf [str s,str [44]]) w (fun v w'=>bq w' w.heap.size 9 1 (v) (fJ 44 [] s).length ((fJ 44 [] s).map str)∧Wk w w'):=by
 exact enter func265 aa ntmps265 aa<|ag fun a=>aw<|a<|ag fun i=>ak (str s)<|ak (str [44])<|e<|cl PQ (TG s _ hs) aa fun A C q=>aw<|i<|rt<|aV aa<|q
theorem WJ (kind:Nat) (s:List UInt8) (w:World) (hk:kind=1∨kind=2∨kind=3) (hs:s.length≤1048576):
 bm ay 243 (bf [au kind,str s]) w (fun v w'=>bq w' w.heap.size 9 1 (v) (dF kind s).length ((dF kind s).map str)∧Wk w w'):=by
 refine enter func243 aa ntmps243 aa<|ag fun Y=>aw<|Y<|aB fun Z=>ag fun ac=>ak (au kind)<|p (bJ aa aa)<|nl<|ac<|cd aa (fun ar=> ?_) fun ar=> ?_
 refine ag fun C=>ak (str s)<|e<|cl PL (Yq s _ hs) aa fun v10 aP ao=>aw<|C<|rt<|tr<|aV aa ?_
 unfold dF; rw [if_pos ab]; exact ao
 refine aM<|Z<|ag fun C=>aw<|C<|aB fun ae=>ag fun ah=>aw<|ah<|aH<|lp (fun M A J=> ∃ (i:Nat) (a:List (List UInt8)) (q:Value),(i≤s.length+kind∧a.length≤i)∧(a++chunks kind (s.drop i)=chunks kind s)∧(bq J w.heap.size 9 1 (q) (a).length<|(a).map str)∧(Wk w J)∧(A 0=au kind)∧(A 1=str s)∧(A 5=q)∧(A 6=au i)∧(s.length - i=M)) _ ⟨0,[],.slice none 0 0,(by simp),aa,(dz _ _ _ _),(Md.refl _ _),aa,aa,aa,aa,aa⟩ ?_
 rintro M A J ⟨i,a,q,hi,hd,I,O,aC,aD,aE,aF,rfl⟩
 refine fx 0 aC<|fx 1 aD<|fx 5 aE<|fx 6 aF<|aB fun ai=>ag fun aj=>ak (au i)<|ak (str s)<|p (cz u9 aa aa)<|p (lt aa aa)<|nl<|aj<|cd aa (fun aq=> ?_) fun aq=> ?_
 have ax:s.drop i≠[]:=fun h=>by have :=congrArg jz h; rw [fT,gC] at this; omega
 refine aM<|ai<|aB fun E=>aH<|rg aa<|ak (q)<|ak (str s)<|ak (au i)<|ak (au i)<|ak (au kind)<|p (bE ((i+kind:Nat):Int) aa aa<|bj ab ab)<|ak (str s)<|p (cz u9 aa aa)<|p (mn aa aa)<|p (me u9 aa aa aa ab)<|e<|fZ fQ aa aa fun aK aI aL G al=> ?_
 have U:Wk w aI:=Md.trans O G.md
 refine e<|ap fQ (aW I G.md) aa (by have :=U.size; omega) aa (aJ.dX al) (aa) (aa) ab ab fun aG aQ V an aO aN=> ?_
 have am:=Wk.own U (aW I G.md) an<|cA _
 rw [QJ] at V
 have az:=mH V
 exact p aA<|nl<|bn<|E<|rg aa<|ak (au i)<|ak (au kind)<|p (bE ((i+kind:Nat):Int) aa aa<|bj ab ab)<|p aA<|nl<|tn<|⟨_,ab,i+kind,a++ [(s.drop i).take kind],aG,(by rw [bL,fA]; omega),(by rw [← hd,xr (k:=kind) ab ax,dD,sh]; rfl),az,am,aa,aa,aa,aa,aa⟩
 refine ext<|ba<|ba<|be<|ae<|ag fun E=>ak (q)<|p (cJ (q) aa)<|nl<|E<|rt<|aV aa ?_
 have av:a=dF kind s:=by unfold dF; rw [if_neg ab,← hd,gU ab,xu,eh]
 exact ⟨by rw [← av]; exact I,O⟩
theorem Ij (kind:Nat) (s:List UInt8) (w:World) (hk:kind=1∨kind=2∨kind=3) (hs:s.length≤1048576):
 bm ay 200 (bf [au kind,str s]) w (fun v w'=>(∃ a,v= .tuple #[a,au ((dY kind s).2)]∧bq w' w.heap.size 51 1 a (dY kind s).1.length ((dY kind s).1.map bg))∧Wk w w'):=by
 refine enter func200 aa ntmps200 aa<|ag fun aC=>p aA<|aw<|aC<|aB fun aI=>aB fun aK=>rg aa<|ak (au kind)<|e<|cl FZ (Jb kind _) aa fun v11 bC aZ=> ?_
 obtain ⟨rfl,ao⟩:=aZ
 refine p (no aa)<|nl<|aK<|cf (by rw [decide_eq_true ab]; rfl)<|aM<|aI<|aB fun aL=>aB fun aN=>rg aa<|ak (str s)<|p (dV aa aa)<|nl<|aN<|cd aa (fun E=> ?_) fun E=> ?_
 exact ag fun ah=>p aA<|aw<|ah<|rt<|tr<|f2 aa aa aa<|⟨⟨.slice none 0 0,by unfold dY; rw [if_pos E]; rfl,by unfold dY; rw [if_pos E]; exact dz _ _ _ _⟩,ao⟩
 refine aM<|aL<|ag fun ah=>aw<|ah<|aB fun aO=>ag fun aP=>ak (au kind)<|ak (str s)<|e<|cl PC (WJ kind s _ hk hs) aa fun bA M a0=> ?_
 obtain ⟨av,aU⟩:=a0
 obtain ⟨aR,aS,rfl⟩:=cB av
 have ar:=(a7 av).2
 have bx:=Kg (kind:=kind) (s:=s) ab
 have V:Wk w M:=Md.trans ao aU
 refine p (bK eV aa aa)<|p mv<|nl<|aP<|aH<|lp (fun an C am=> ∃ (i:Nat) (U:Value),(i≤(dF kind s).length)∧(¬∃ x∈(dF kind s).take i,eH kind x=0)∧(bq am M.heap.size 51 1 U (((dF kind s).take i).map<|eH kind).length<|(((dF kind s).take i).map<|eH kind).map bg)∧(Wk M am)∧(C 0=au kind)∧(C 1=str s)∧(C 6=U)∧(C 17= .slice aR (dF kind s).length aS)∧(C 18=au ((dF kind s).length))∧(C 19=au i)∧((dF kind s).length - i=an)) _ ⟨0,.slice none 0 0,ab,(by rintro ⟨x,bo,_⟩; simp at bo),(dz _ _ _ _),(Md.refl _ _),aa,aa,aa,aa,aa,aa,aa⟩ ?_
 rintro an C am ⟨i,U,hi,I,J,A,bc,bd,bk,bh,bi,bj,rfl⟩
 refine fx 0 bc<|fx 1 bd<|fx 6 bk<|fx 17 bh<|fx 18 bi<|fx 19 bj ?_
 have bw:(((dF kind s).take i).map<|eH kind).length≤i:=by rw [fM,dR]; omega
 refine ag fun aQ=>p (lt aa aa)<|nl<|aQ<|aB fun aD=>cd aa (fun a4=> ?_) fun a4=> ?_
 refine aM<|aD<|aB fun ac=>aH<|ag fun ae=>p (a8 cH aa aa ab<|aJ.ok (ar.wk A)<|bS ab)<|p (ld bT aa<|ca.get (i:=i) (ar.wk A) ab)<|aw<|ae<|ag fun G=>ak (au kind)<|p mv<|e<|cl F1 (HL kind ((dF kind s).getD i []) _ hk<|by have :=Kh (kind:=kind) ab (yf (d:= []) (show i < (dF kind s).length by omega)); omega) aa fun bB bD a1=> ?_
 obtain ⟨rfl,Y⟩:=a1
 refine aw<|G<|aB fun aE=>ag fun aF=>p mv<|p (bJ aa aa)<|nl<|aF<|cd aa (fun a5=> ?_) fun a5=> ?_
 refine ag fun aG=>p aA<|aw<|aG<|rt<|tr<|br<|tr<|tr<|br<|tr<|f2 aa aa aa ?_
 have q:dY kind s=([],31):=by unfold dY; rw [if_neg E,if_pos ⟨_,yf (d:= []) (show i < (dF kind s).length by omega),ab⟩]
 exact ⟨⟨.slice none 0 0,by rw [q]; rfl,by rw [q]; exact dz _ _ _ _⟩,Md.trans V<|Md.trans A Y⟩
 refine aM<|aE<|rg aa<|ak (U)<|p mv<|e<|fZ yZ aa aa fun bt bp bu aj aT=> ?_
 have aq:Wk M bp:=Md.trans (Md.trans A Y) aj.md
 refine e<|ap yZ (aW (aW J Y) aj.md) aa (by have :=aq.size; omega) aa (aJ.dX aT) (aa) (aa) ab ab fun v31 bs a9 aY bz bv=> ?_
 have aV:=Wk.own aq (aW (aW J Y) aj.md) aY<|cA _
 have bb:bq bs M.heap.size 51 1 v31 (((dF kind s).take<|i+1).map<|eH kind).length ((((dF kind s).take<|i+1).map<|eH kind).map bg):=by
  rw [fK _ i [] ab,iu,bL,iu]; exact a9
 exact p aA<|nl<|bn<|ac<|rg aa<|p (ad aa aa<|bX ab)<|p mv<|nl<|tn<|⟨_,ab,i+1,v31,ab,(Bp ab I ab),bb,aV,aa,aa,aa,aa,aa,aa,aa⟩
 refine ext<|ba<|ba<|be<|aO<|aB fun ac=>aB fun ae=> ?_
 obtain ⟨O,ai,rfl⟩:=cB J
 have bl:(((dF kind s).take i).map<|eH kind).length=(dF kind s).length:=by rw [fM,dR]; omega
 have Z:(dF kind s).take i=(dF kind s):=eM ab
 have a6:O=none→(((dF kind s).take i).map<|eH kind).length=0:=fun h=>by obtain ⟨a2,c2,az,_,_,h3⟩:=Rd.jM J; simp only [mQ] at az; exact h3<|az.1 ▸ h
 refine rg aa<|ak (.slice O (((dF kind s).take i).map<|eH kind).length ai)<|p (bK oR aa aa)<|p (gt aa aa)<|nl<|ae<|cd aa (fun al=> ?_) fun al=> ?_
 refine ag fun G=>p aA<|aw<|G<|rt<|tr<|f2 aa aa aa ?_
 rw [Z] at I bl
 have q:dY kind s=([],32):=by unfold dY; rw [if_neg E,if_neg I,if_pos (by rw [Z,fM] at al; omega)]
 exact ⟨⟨.slice none 0 0,by rw [q]; rfl,by rw [q]; exact dz _ _ _ _⟩,Md.trans V A⟩
 refine aM<|ac<|ag fun G=>ak (.slice O (((dF kind s).take i).map<|eH kind).length ai)<|e<|cl FV (vo (((dF kind s).take i).map<|eH kind) O ai _ (a7 J).2 a6<|by rw [fM,dR] at*; omega) aa fun v37 bE a3=> ?_
 obtain ⟨ax,aX⟩:=a3
 refine p aA<|aw<|G<|rt<|f2 aa aa aa ?_
 rw [Z] at I ax
 have q:dY kind s=(km ((dF kind s).map<|eH kind),0):=by unfold dY; rw [if_neg E,if_neg I,if_neg (by rw [Z,fM] at al; omega)]
 exact ⟨⟨v37,by rw [q]; rfl,by rw [q]; exact ez ax<|by have :=V.size; have :=A.size; omega⟩,Md.trans V<|Md.trans A aX⟩
end Go.Hb
end
namespace Go.Hb.ka
theorem Wc {b:UInt8} (h:¬(b.toNat:Int)=10):b≠10:=by rintro rfl; exact h rfl
theorem UR {b:UInt8} (h:(b.toNat:Int)=10):b=10:=k8.1 (by have :(10:UInt8).toNat=10:=rfl; omega)
theorem US {b:UInt8} (h:(b.toNat:Int)=13):b=13:=k8.1 (by have :(13:UInt8).toNat=13:=rfl; omega)
theorem Wd {b:UInt8} (h:¬(b.toNat:Int)=13):b≠13:=by rintro rfl; exact h rfl
theorem B7 (b:UInt8) (w:World):
 bm ay 191 (bf [.int .u8 b.toNat]) w (fun v w'=>v= .bool (nd b)∧Wk w w'):=by
 refine enter func191 aa ntmps191 aa<|ag fun i=>aw<|i<|ag fun a=>ak (.int .u8 b.toNat)<|p (bJ aa aa)<|p mv<|gs (t:=5) aa (fun q=> ?_) fun q=> ?_
 exact aE aa<|aE aa<|p (bB aa)<|aw<|a<|rt<|aV aa<|⟨by show bQ true =_; rw [qz,decide_eq_true (.inl ab)],Md.refl _ _⟩
 exact aI aa (aT (.int .u8 b.toNat) aa)<|aI aa (bJ aa aa)<|p (bp aa)<|aw<|a<|rt<|aV aa<|⟨by show bQ (decide ((b.toNat:Int)=9))=_; rw [qz]; exact congrArg bQ (decide_eq_decide.2 ab),Md.refl _ _⟩
theorem SY (l:List UInt8) (w:World) (br:l.length≤1048576):
 bm ay 127 (bf [str l]) w (fun v w'=>bq w' w.heap.size 9 1 v (cE [] l).length ((cE [] l).map str)∧Wk w w'):=by
 refine enter func127 aa ntmps127 aa<|ag fun aD=>aw<|aD<|ag fun aF=>p aA<|nl<|aF<|ag fun aG=>aw<|aG<|aB fun aK=>ag fun aL=>ak (str l)<|p (cz u9 aa aa)<|p mv<|nl<|aL<|aH<|lp (fun ax M au=> ∃ (i:Nat) (a:Int) (O:List UInt8) (q:List (List UInt8)) (v:Value),(i≤l.length)∧(k9 l i a O)∧(q++cE O (l.drop i)=(cE [] l))∧(Wk w au)∧(bq au w.heap.size 9 1 v (q).length<|(q).map str)∧(M 0=str l)∧(M 3=v)∧(M 4= .int .i64 a)∧(M 7= .int .i64 l.length)∧(M 8= .int .i64 i)∧(l.length - i=ax)) _ ⟨0,-1,[],[],.slice none 0 0,ab,k9.no,aa,(Md.refl _ _),(dz _ _ _ _),aa,aa,aa,aa,aa,aa⟩ ?_
 rintro ax M au ⟨i,a,O,q,v,hi,I,hd,Y,ai,a6,a7,a8,a9,bb,rfl⟩
 refine fx 0 a6<|fx 3 a7<|fx 4 a8<|fx 7 a9<|fx 8 bb ?_
 have bk:q.length≤l.length+1:=by have h1:=congrArg jz hd; have h2:=uN l []; rw [bL] at h1; omega
 refine ag fun aN=>p (lt aa aa)<|nl<|aN<|aB fun aO=>cd aa (fun a1=> ?_) fun a1=> ?_
 refine aM<|aO<|aB fun A=>aH<|ag fun am=>ak (.int .i64 i)<|p (cJ (.int .i64 i) aa)<|nl<|am<|aH<|ag fun J=>ak (str l)<|ak (.int .i64 i)<|p (eQ u9 aa aa ab)<|e<|cl Aw (B7 (l.getD i 0) _) aa fun bv bd aY=> ?_
 obtain ⟨rfl,az⟩:=aY
 have Z:Wk w bd:=Md.trans Y az
 have bs:=Z.size
 have aj:=aW ai az
 refine p mv<|gb (t:=16) aa (fun E=> ?_) fun E=> ?_
 refine aI aa (aT (.int .i64 a) aa)<|aI aa (ge aa aa)<|p (bB aa)<|aw<|J<|cd aa (fun aZ=> ?_) fun aZ=> ?_
 obtain ⟨aC,V,ar⟩:=I.pos ab
 refine ag fun G=>ak (v)<|ak (str l)<|ak (.int .i64 a)<|ak (.int .i64 i)<|p (me u9 aa aa aa ab)<|e<|fZ fQ aa aa fun bg bw bi ae aP=>e<|ap fQ (aW aj ae.md) aa (by have :=ae.size; omega) aa (aJ.dX aP) (aa) (aa) ab ab fun bc bx a2 aU bt bl=> ?_
 have aR:=Wk.own (Md.trans Z ae.md) (aW aj ae.md) aU<|cA _
 have a3:=mH a2
 exact aw<|G<|rg aa<|p aA<|nl<|bn<|bn<|A<|rg aa<|p (ad aa aa<|bX ab)<|p mv<|nl<|tn<|⟨_,ab,i+1,-1,[],q++ [(l.take i).drop a.toNat],bc,ab,k9.no,(by rw [drop_cons 0 ab,HU E ar,V] at hd; rw [dD]; exact hd),aR,a3,aa,aa,aa,aa,aa,aa⟩
 refine ag fun G=>ak (str l)<|ak (.int .i64 i)<|p (eQ u9 aa aa ab)<|e<|cl Aw (B7 (l.getD i 0) _) aa fun v31 av an=> ?_
 obtain ⟨rfl,U⟩:=an
 have ac:Wk w av:=Md.trans Z U
 have al:=aW aj U
 refine p (no aa)<|p mv<|gb (t:=33) aa (fun C=> ?_) fun C=> ?_
 refine aI aa (aT (.int .i64 a) aa)<|aI aa (lt aa aa)<|p (bB aa)<|aw<|G<|cd aa (fun ao=> ?_) fun ao=> ?_
 refine rg aa<|ak (.int .i64 i)<|p (cJ (.int .i64 i) aa)<|nl<|bn<|bn<|A<|rg aa<|p (ad aa aa<|bX ab)<|p mv<|nl<|tn ?_
 rw [E] at C; cases C
 refine aM<|bn<|bn<|A<|rg aa<|p (ad aa aa<|bX ab)<|p mv<|nl<|tn ?_
 rw [E] at C; cases C
 exact aE aa<|aE aa<|p (bp aa)<|aw<|G<|cf aa<|aM<|bn<|bn<|A<|rg aa<|p (ad aa aa<|bX ab)<|p mv<|nl<|tn<|⟨_,ab,i+1,a,O,q,v,ab,(by obtain ⟨h1,h2⟩:=I.neg ab; subst h1 h2; exact k9.no),(by obtain ⟨h1,h2⟩:=I.neg ab; subst h2; rw [drop_cons 0 ab,xX E] at hd; exact hd),ac,al,aa,aa,aa,aa,aa,aa⟩
 refine aE aa<|aE aa<|p (bp aa)<|aw<|J<|cf aa<|aB fun G=>rg aa<|ak (str l)<|ak (.int .i64 i)<|p (eQ u9 aa aa ab)<|e<|cl Aw (B7 (l.getD i 0) _) aa fun v31 av an=> ?_
 obtain ⟨rfl,U⟩:=an
 have ac:Wk w av:=Md.trans Z U
 have al:=aW aj U
 refine p (no aa)<|p mv<|gb (t:=33) aa (fun C=> ?_) fun C=> ?_
 refine aI aa (aT (.int .i64 a) aa)<|aI aa (lt aa aa)<|p (bB aa)<|aw<|G<|cd aa (fun ao=> ?_) fun ao=> ?_
 exact rg aa<|ak (.int .i64 i)<|p (cJ (.int .i64 i) aa)<|nl<|bn<|bn<|A<|rg aa<|p (ad aa aa<|bX ab)<|p mv<|nl<|tn<|⟨_,ab,i+1,i,[l.getD i 0],q,v,ab,(k9.begin ab),(by obtain ⟨h1,h2⟩:=I.neg ab; subst h2; rw [drop_cons 0 ab,BE E] at hd; exact hd),ac,al,aa,aa,aa,aa,aa,aa⟩
 exact aM<|bn<|bn<|A<|rg aa<|p (ad aa aa<|bX ab)<|p mv<|nl<|tn<|⟨_,ab,i+1,a,O++ [l.getD i 0],q,v,ab,(I.more ab ab),(by rw [drop_cons 0 ab,BE E] at hd; exact hd),ac,al,aa,aa,aa,aa,aa,aa⟩
 refine aE aa<|aE aa<|p (bp aa)<|aw<|G<|cf aa<|aM<|bn<|bn<|A<|rg aa<|p (ad aa aa<|bX ab)<|p mv<|nl<|tn ?_
 rw [E] at C; cases C
 refine ext<|ba<|ba<|be<|aK<|aB fun A=>ag fun am=>ak (.int .i64 a)<|p (ge aa aa)<|nl<|am<|cd aa (fun a0=> ?_) fun a0=> ?_
 obtain ⟨aC,V,ar⟩:=I.pos ab
 refine rg aa<|ak (v)<|ak (str l)<|ak (.int .i64 a)<|p (mg u9 aa aa ab)<|e<|fZ fQ aa aa fun bh bz bj ah aQ=>e<|ap fQ (aW ai ah.md) aa (by have :=ah.size; have :=Y.size; omega) aa (aJ.dX aQ) (aa) (aa) ab ab fun v46 bA a4 aX bu bo=> ?_
 have aS:=Wk.own (Md.trans Y ah.md) (aW ai ah.md) aX<|cA _
 have a5:=mH a4
 refine aw<|A<|ag fun J=>p mv<|p aA<|nl<|J<|rt<|aV aa ?_
 have aq:q++ [l.drop a.toNat]=(cE [] l):=by rw [← hd,show l.drop i= [] from gU ab,HV ar,V,eM ab]
 exact ⟨by rw [← aq]; exact a5,aS⟩
 obtain ⟨aC,V⟩:=I.neg ab
 refine aM<|A<|ag fun J=>ak (v)<|p (cJ (v) aa)<|nl<|J<|rt<|aV aa ?_
 have aq:q=(cE [] l):=by rw [← hd,gU ab,V,BG,eh]
 exact ⟨by rw [← aq]; exact ai,Y⟩
theorem Xd (l:List UInt8) (w:World) (bc:l.length≤1048576):
 bm ay 170 (bf [str l]) w (fun v w'=>bq w' w.heap.size 9 1 v (cE [] l).length ((cE [] l).map str)∧Wk w w'):=by
 refine enter func170 aa ntmps170 aa<|ag fun aK=>aw<|aK<|ag fun aN=>p aA<|nl<|aN<|ag fun aO=>aw<|aO<|aB fun aP=>aH<|lp (fun M am al=> ∃ (i:Nat) (q:List (List UInt8)) (v:Value),(i≤l.length)∧(q++cE [] (l.drop i)=(cE [] l))∧(Wk w al)∧(bq al w.heap.size 9 1 v (q).length<|(q).map str)∧(am 0=str l)∧(am 3=v)∧(am 4= .int .i64 i)∧(l.length - i=M)) _ ⟨0,[],.slice none 0 0,ab,aa,(Md.refl _ _),(dz _ _ _ _),aa,aa,aa,aa⟩ ?_
 rintro M am al ⟨i,q,v,hi,hd,C,E,a2,a3,a4,rfl⟩
 refine fx 0 a2<|fx 3 a3<|fx 4 a4 ?_
 have a9:q.length≤l.length+1:=by have h1:=congrArg jz hd; have h2:=uN l []; rw [bL] at h1; omega
 refine aB fun aQ=>ag fun aR=>ak (.int .i64 i)<|ak (str l)<|p (cz u9 aa aa)<|p (lt aa aa)<|nl<|aR<|cd aa (fun aY=> ?_) fun aY=> ?_
 refine aM<|aQ<|aH<|aB fun aq=>ag fun au=>ak (str l)<|ak (.int .i64 i)<|p (eQ u9 aa aa ab)<|p (bJ aa aa)<|p mv<|gs (t:=14) aa (fun aZ=> ?_) fun aZ=> ?_
 exact aE aa<|aE aa<|aE aa<|aE aa<|p (bB aa)<|nl<|au<|ct aa<|ag fun J=>ak (.int .i64 i)<|p (ad aa aa<|bX ab)<|aw<|J<|ext<|ba<|be<|tn<|⟨_,ab,i+1,q,v,ab,(by rw [drop_cons 0 ab,xX (by rw [qz]; exact decide_eq_true<|.inl ab)] at hd; exact hd),C,E,aa,aa,aa,aa⟩
 refine aI aa (aT (str l) aa)<|aI aa (aT (.int .i64 i) aa)<|aI aa (eQ u9 aa aa ab)<|aI aa (bJ aa aa)<|p (bp aa)<|nl<|au<|cd aa (fun aU=> ?_) fun aU=> ?_
 exact ag fun J=>ak (.int .i64 i)<|p (ad aa aa<|bX ab)<|aw<|J<|ext<|ba<|be<|tn<|⟨_,ab,i+1,q,v,ab,(by rw [drop_cons 0 ab,xX (by rw [qz]; exact decide_eq_true<|.inr ab)] at hd; exact hd),C,E,aa,aa,aa,aa⟩
 have ar:nd (l.getD i 0)=false :=by rw [qz]; exact decide_eq_false ab
 refine aM<|aq<|ag fun J=>ak (.int .i64 i)<|p (cJ (.int .i64 i) aa)<|nl<|J<|aB fun an=>aH<|lp (fun M aj aG=> ∃ (j:Nat),(i≤j∧j≤l.length)∧(aG=al)∧(q++cE ((l.take j).drop i) (l.drop j)=(cE [] l))∧(aj 0=str l)∧(aj 3=v)∧(aj 4= .int .i64 i)∧(aj 5= .int .i64 j)∧(l.length - j=M)) _ ⟨i,ab,aa,(by rw [gU (by rw [dR]; omega)]; exact hd),aa,aa,aa,aa,aa⟩ ?_
 rintro M aj aG ⟨j,bb,aS,A,a5,a6,a7,a8,rfl⟩
 refine fx 0 a5<|fx 3 a6<|fx 4 a7<|fx 5 a8 ?_
 subst aS
 refine aB fun aL=>ag fun ao=>ak (.int .i64 j)<|ak (str l)<|p (cz u9 aa aa)<|p (lt aa aa)<|p mv<|gs (t:=27) aa (fun a0=> ?_) fun a0=> ?_
 refine aI aa (aT (str l) aa)<|aI aa (aT (.int .i64 j) aa)<|aI aa (eQ u9 aa aa ab)<|aI aa (db aa aa)<|p (bB aa)<|p mv<|gs (t:=33) aa (fun a1=> ?_) fun a1=> ?_
 refine aI aa (aT (str l) aa)<|aI aa (aT (.int .i64 j) aa)<|aI aa (eQ u9 aa aa ab)<|aI aa (db aa aa)<|p (bB aa)<|nl<|ao<|cd aa (fun aX=> ?_) fun aX=> ?_
 exact aM<|aL<|aH<|rg aa<|ak (.int .i64 j)<|p (ad aa aa<|bX ab)<|p aA<|nl<|bn<|tn<|⟨_,ab,j+1,ab,aa,(by rw [drop_cons (l:=l) (i:=j) 0 ab,BE (by rw [qz]; exact decide_eq_false ab),← vD 0 ab ab] at A; exact A),aa,aa,aa,aa,aa⟩
 have G:l.length≤j∨nd (l.getD j 0)=true := .inr<|by rw [qz]; exact decide_eq_true<|.inr ab
 have Z:¬j=i:=by
  rintro rfl
  rcases G with h | h
  omega
  rw [ar] at h; cases h
 have ac:(l.take j).drop i≠[]:=fun O=>Z<|by have h1:=congrArg jz O; simp only [fT,dR,gC] at h1; omega
 rw [BC (i:=j) ac G] at A
 refine ext<|ba<|ba<|be<|an<|ag fun I=>ak (v)<|ak (str l)<|ak (.int .i64 i)<|ak (.int .i64 j)<|p (me u9 aa aa aa ab)<|e<|fZ fQ aa aa fun av aD ax a U=>e<|ap fQ (aW E a.md) aa (by have :=a.size; have :=C.size; omega) aa (aJ.dX U) (aa) (aa) ab ab fun ai aF ae Y aC az=> ?_
 have V:=Wk.own (Md.trans C a.md) (aW E a.md) Y<|cA _
 have ah:=mH ae
 exact aw<|I<|rg aa<|ak (.int .i64 j)<|p (cJ (.int .i64 j) aa)<|nl<|bn<|tn<|⟨_,ab,j,q++ [(l.take j).drop i],ai,ab,(by rw [dD]; exact A),V,ah,aa,aa,aa,aa⟩
 have G:l.length≤j∨nd (l.getD j 0)=true := .inr<|by rw [qz]; exact decide_eq_true<|.inl ab
 have Z:¬j=i:=by
  rintro rfl
  rcases G with h | h
  omega
  rw [ar] at h; cases h
 have ac:(l.take j).drop i≠[]:=fun O=>Z<|by have h1:=congrArg jz O; simp only [fT,dR,gC] at h1; omega
 rw [BC (i:=j) ac G] at A
 refine aE aa<|aE aa<|aE aa<|aE aa<|p (bp aa)<|nl<|ao<|cf aa<|ext<|ba<|ba<|be<|an<|ag fun I=>ak (v)<|ak (str l)<|ak (.int .i64 i)<|ak (.int .i64 j)<|p (me u9 aa aa aa ab)<|e<|fZ fQ aa aa fun av aD ax a U=>e<|ap fQ (aW E a.md) aa (by have :=a.size; have :=C.size; omega) aa (aJ.dX U) (aa) (aa) ab ab fun ai aF ae Y aC az=> ?_
 have V:=Wk.own (Md.trans C a.md) (aW E a.md) Y<|cA _
 have ah:=mH ae
 exact aw<|I<|rg aa<|ak (.int .i64 j)<|p (cJ (.int .i64 j) aa)<|nl<|bn<|tn<|⟨_,ab,j,q++ [(l.take j).drop i],ai,ab,(by rw [dD]; exact A),V,ah,aa,aa,aa,aa⟩
 have G:l.length≤j∨nd (l.getD j 0)=true := .inl ab
 have Z:¬j=i:=by
  rintro rfl
  rcases G with h | h
  omega
  rw [ar] at h; cases h
 have ac:(l.take j).drop i≠[]:=fun O=>Z<|by have h1:=congrArg jz O; simp only [fT,dR,gC] at h1; omega
 rw [BC (i:=j) ac G] at A
 refine aE aa<|aE aa<|aE aa<|aE aa<|p (bp aa)<|p mv<|aE aa<|aE aa<|aE aa<|aE aa<|p (bp aa)<|nl<|ao<|cf aa<|ext<|ba<|ba<|be<|an<|ag fun I=>ak (v)<|ak (str l)<|ak (.int .i64 i)<|ak (.int .i64 j)<|p (me u9 aa aa aa ab)<|e<|fZ fQ aa aa fun av aD ax a U=>e<|ap fQ (aW E a.md) aa (by have :=a.size; have :=C.size; omega) aa (aJ.dX U) (aa) (aa) ab ab fun ai aF ae Y aC az=> ?_
 have V:=Wk.own (Md.trans C a.md) (aW E a.md) Y<|cA _
 have ah:=mH ae
 exact aw<|I<|rg aa<|ak (.int .i64 j)<|p (cJ (.int .i64 j) aa)<|nl<|bn<|tn<|⟨_,ab,j,q++ [(l.take j).drop i],ai,ab,(by rw [dD]; exact A),V,ah,aa,aa,aa,aa⟩
 refine ext<|ba<|ba<|be<|aP<|ag fun aq=>ak (v)<|p (cJ (v) aa)<|nl<|aq<|rt<|aV aa ?_
 have A:q=(cE [] l):=by rw [← hd,gU ab,BG,eh]
 exact ⟨by rw [← A]; exact E,C⟩
theorem CD (s:List UInt8) (w:World):
 bm ay 171 (bf [str s]) w (fun v w'=>v= .bool (tq s)∧Wk w w'):=by
 refine enter func171 aa ntmps171 aa<|ag fun i=>aw<|i<|ag fun a=>ak (str s)<|p (cz u9 aa aa)<|p (ge aa aa)<|p mv<|gs (t:=6) aa (fun C=> ?_) fun C=> ?_
 refine aI aa (aT (str s) aa)<|aI aa (iY 0 u9 aa aa ab)<|aI aa (bJ aa aa)<|p (bB aa)<|p mv<|gs (t:=11) aa (fun q=> ?_) fun q=> ?_
 refine aI aa (aT (str s) aa)<|aI aa (iY 1 u9 aa aa ab)<|aI aa (bJ aa aa)<|p (bB aa)<|p mv<|gs (t:=16) aa (fun A=> ?_) fun A=> ?_
 exact aI aa (aT (str s) aa)<|aI aa (iY 2 u9 aa aa ab)<|aI aa (bJ aa aa)<|p (bB aa)<|aw<|a<|rt<|aV aa<|⟨by show bQ (decide (((s.getD 2 0).toNat:Int)=191))=_; rw [yw]; exact congrArg bQ (decide_eq_decide.2 ab),Md.refl _ _⟩
 exact aE aa<|aE aa<|aE aa<|p (bp aa)<|aw<|a<|rt<|aV aa<|⟨by show bQ false =_; rw [yw,decide_eq_false ab],Md.refl _ _⟩
 exact aE aa<|aE aa<|aE aa<|p (bp aa)<|p mv<|aE aa<|aE aa<|aE aa<|p (bp aa)<|aw<|a<|rt<|aV aa<|⟨by show bQ false =_; rw [yw,decide_eq_false ab],Md.refl _ _⟩
 exact aE aa<|aE aa<|aE aa<|p (bp aa)<|p mv<|aE aa<|aE aa<|aE aa<|p (bp aa)<|p mv<|aE aa<|aE aa<|aE aa<|p (bp aa)<|p aA<|nl<|a<|rt<|aV aa<|⟨by show bQ false =_; rw [yw,decide_eq_false ab],Md.refl _ _⟩
theorem Hc (l:List UInt8) (a:Option Addr) (c:Nat) (w:World) (q:aJ w.heap a (U8 l)) (O:l.length≤1048576) (M:l.length≤c):
 bm ay 172 (bf [.slice a l.length c]) w (fun v w'=>v=str (jJ l)∧Wk w w'):=by
 refine enter func172 aa ntmps172 aa<|ag fun E=>aw<|E<|ag fun G=>ak (.slice a l.length c)<|p (bK mP aa aa)<|aw<|G<|aB fun A=>ag fun C=>p mv<|p (gt aa aa)<|p mv<|gs (t:=8) aa (fun J=> ?_) fun J=> ?_
 refine aI aa (aT (.slice a l.length c) aa)<|aI aa mv<|aI aa (sb aa aa<|bX ab)<|aI aa (a8 l5 aa aa ab<|aJ.ok (q)<|pU ab)<|aI aa (ld pw aa<|(show _=some (je .u8 (l.getD (l.length - 1) 0).toNat) from by rw [show ((l.length:Int) - 1).toNat=l.length - 1 from by omega]; exact pT q ab))<|aI aa (bJ aa aa)<|p (bB aa)<|nl<|C<|cd aa (fun I=> ?_) fun I=> ?_
 exact ag fun i=>ak (.slice a l.length c)<|p mv<|p (sb aa aa<|bX ab)<|p (vE l5 aa aa ab)<|p (m8 m5 aa (YV q ((l.length:Int) - 1).toNat)<|by rw [dR]; omega)<|p aA<|nl<|i<|rt<|tr<|aV aa<|⟨by show str (l.take ((l.length:Int) - 1).toNat)=_; rw [Ha ab (US ab),show ((l.length:Int) - 1).toNat=l.length - 1 from by omega],Md.refl _ _⟩
 exact aM<|A<|ag fun i=>ak (.slice a l.length c)<|p (m8 m5 aa (q)<|aa)<|p aA<|nl<|i<|rt<|aV aa<|⟨by show str l=_; rw [Bi (fun h=>Wd ab h.2)],Md.refl _ _⟩
 refine aE aa<|aE aa<|aE aa<|aE aa<|aE aa<|aE aa<|p (bp aa)<|nl<|C<|cf aa<|aM<|A<|ag fun i=>ak (.slice a l.length c)<|p (m8 m5 aa (q)<|aa) ?_
 exact aw<|i<|rt<|aV aa<|⟨by show str l=_; rw [Bi ab],Md.refl _ _⟩
end Go.Hb.ka
section
namespace Go.Hb
open Go.Hb.gX Go.Hb.ka
theorem Uz {l:List Tx} {x:Tx} :∀ {i:Nat},i < l.length→(∀ j,j < i→l.getD j []≠x)→l.getD i []=x→l.idxOf x=i:=by
 induction l with
 | nil=>intro i h; simp at h
 | cons a l E=>
   intro i hi C q
   cases i with
   | zero=>simp only [lT] at q; rw [q,List.idxOf_cons_self]
   | succ i=>
     have A:=C 0 ab
     simp only [lT] at A
     rw [List.idxOf_cons,show (a==x)=false from by simpa using A,cond_false,E (i:=i) (by simpa using hi) (fun j G=>by have :=C (j+1) ab; simpa using this) (by simpa using q)]
theorem SM {a b:List Tx} (h:a.length≠b.length):a≠b:=fun h2=>h<|by rw [h2]
theorem TK {a b:List Tx} {i:Nat} (h:a.getD i []≠b.getD i []):a≠b:=fun h2=>h<|by rw [h2]
theorem TI {a b:List Tx} (q:a.length=b.length) (h:∀ i,i < a.length→a.getD i []=b.getD i []):a=b:=by
 apply List.ext_getElem q
 intro i h1 h2
 have :=h i h1
 rw [cR,cR,cC h1,cC h2] at this
 exact this
theorem YB {s:Tx} {i:Nat} (h:i < s.length):(s.drop i).take 1= [s.getD i 0]:=by
 rw [drop_cons 0 h]; rfl
theorem LR (b:UInt8):pW [b]=iP b:=by
 unfold pW gv
 cases h:iP b <;> simp [h]
theorem KS {s:Tx} {i:Nat} (h:i < s.length):(s.take<|i+1).drop i= [s.getD i 0]:=by
 rw [si,show i+1 - i=1 from by omega,YB h]
theorem xR {s:Tx} (h:s= []∨gv s=false):gF s=21:=if_pos h
theorem HB {s:Tx} (h:s≠[]) (h1:gv s=true) (h2:32 < s.length):gF s=22:=by unfold gF; rw [if_neg (by rw [h1]; simp [h]),if_pos h2]
theorem HC {s:Tx} (h:s≠[]) (h1:gv s=true) (h2:¬32 < s.length):gF s=0:=by unfold gF; rw [if_neg (by rw [h1]; simp [h]),if_neg h2]
theorem Ke {s:Tx} (h:s= [48]):eA true s= .ok []:=by unfold eA; rw [if_pos ⟨rfl,h⟩]
theorem C2 {s:Tx} (h:s≠[48]):eA true s=eA false s:=by unfold eA; simp [h]
theorem CY {s:Tx} (h:(bA s).2.2.2≠0):eA false s= .error (bA s).2.2.2:=by unfold eA; rw [if_neg (fun h2=>by cases h2.1),if_pos h]
theorem CZ {s:Tx} (h:(bA s).2.2.2=0) (h1:(bA s).2.2.1=true):eA false s= .error 114:=by unfold eA; rw [if_neg (fun h2=>by cases h2.1),if_neg (fun h2=>h2 h),if_pos h1]
theorem C0 {s:Tx} (h:(bA s).2.2.2=0) (h1:(bA s).2.2.1=false) (h2:gF (bA s).1≠0):eA false s= .error (gF (bA s).1):=by unfold eA; rw [if_neg (fun h2=>by cases h2.1),if_neg (fun h2=>h2 h),if_neg (by rw [h1]; simp),if_pos h2]
theorem C1 {s:Tx} (h:(bA s).2.2.2=0) (h1:(bA s).2.2.1=false) (h2:gF (bA s).1=0):eA false s= .ok (bA s).1:=by unfold eA; rw [if_neg (fun h2=>by cases h2.1),if_neg (fun h2=>h2 h),if_neg (by rw [h1]; simp),if_neg (fun h3=>h3 h2)]
theorem nW {s:Tx} {most:Int} (h:(dZ s most).2=0):eX s most= .ok (dZ s most).1:=by unfold eX; rw [if_neg (fun h2=>h2 h)]
theorem pO {s:Tx} {most:Int} (h:(dZ s most).2≠0):eX s most= .error 13∧(dZ s most).2=13:=by
 refine ⟨by unfold eX; rw [if_pos h],?_⟩
 rcases JQ s most with h1 | ⟨h1,_⟩
 · rw [h1]
 · rw [h1] at h; exact absurd rfl h
theorem IZ (l:List Tx) (a:Option Addr) (c:Nat) (x:Tx) (w:World) (I:ca w.heap a l) (aq:l.length≤1048576):
 bm ay 192 (bf [.slice a l.length c,str x]) w (fun v w'=>v= .int .i64 (if x∈l then (l.idxOf x:Nat) else -1:Int)∧w'=w):=by
 refine enter func192 aa ntmps192 aa<|ag fun O=>aw<|O<|aB fun U=>ag fun V=>ak (.slice a l.length c)<|p (bK eV aa aa)<|p mv<|nl<|V<|aH<|lp (fun G q M=> ∃ (i:Nat),(i≤l.length)∧(∀ j,j < i→l.getD j []≠x)∧(M=w)∧(q 0= .slice a l.length c)∧(q 1=str x)∧(q 7=au (l.length))∧(q 8=au i)∧(l.length - i=G)) _ ⟨0,ab,(fun j J=>by omega),aa,aa,aa,aa,aa,aa⟩ ?_
 rintro G q M ⟨i,hi,E,ai,al,am,an,ao,rfl⟩
 refine fx 0 al<|fx 1 am<|fx 7 an<|fx 8 ao ?_
 subst ai
 refine ag fun Y=>p (lt aa aa)<|nl<|Y<|aB fun Z=>cd aa (fun aj=> ?_) fun aj=> ?_
 refine aM<|Z<|aB fun C=>aH<|ag fun ac=>ak (au i)<|p (cJ (au i) aa)<|nl<|ac<|ag fun ae=>ak (str x)<|ak (.slice a l.length c)<|ak (au i)<|p (a8 cH aa aa ab<|aJ.ok (I)<|bS ab)<|p (ld bT aa<|ca.get (i:=i) I ab)<|p (dV aa aa)<|nl<|ae<|cd aa (fun A=> ?_) fun A=> ?_
 exact ag fun ah=>ak (au i)<|p (cJ (au i) aa)<|nl<|ah<|rt<|br<|tr<|tr<|br<|tr<|aV aa<|⟨by rw [if_pos (by rw [A]; exact dU ab),Uz ab E A.symm]; rfl,aa⟩
 exact aM<|bn<|C<|rg aa<|p (ad aa aa<|bX ab)<|p mv<|nl<|tn<|⟨_,ab,i+1,ab,(fun j J=>by rcases fi j i with h | h <;> first | exact E j h | (rw [show j=i by omega]; exact fun h2=>A h2.symm)),aa,aa,aa,aa,aa,aa⟩
 exact ext<|ba<|ba<|be<|U<|ag fun C=>p aA<|nl<|C<|rt<|aV aa<|⟨by rw [if_neg (fun h=>by obtain ⟨j,J,ap⟩:=nU [] h; exact E j ab ap)]; rfl,aa⟩
theorem SN (l m:List Tx) (A E:Nat) (a b:Option Addr) (c d:Nat) (w:World) (Y:ca w.heap a l) (Z:ca w.heap b m) (aK:l.length=A) (aL:m.length=E) (aI:A≤1048576):
 bm ay 240 (bf [.slice a A c,.slice b E d]) w (fun v w'=>v= .bool (decide (l=m))∧Wk w w'):=by
 refine enter func240 aa ntmps240 aa<|ag fun ah=>aw<|ah<|aB fun am=>ag fun an=>ak (.slice a A c)<|p (bK eV aa aa)<|ak (.slice b E d)<|p (bK eV aa aa)<|p (db aa aa)<|nl<|an<|cd aa (fun av=> ?_) fun av=> ?_
 exact ag fun J=>aw<|J<|rt<|tr<|aV aa<|⟨by show bQ false =_; rw [decide_eq_false (SM ab)],Md.refl _ _⟩
 have az:l.length=m.length:=ab
 refine aM<|am<|aB fun J=>ag fun ao=>ak (.slice a A c)<|p (bK eV aa aa)<|p mv<|nl<|ao<|aH<|lp (fun V I G=> ∃ (i:Nat),(i≤A)∧(∀ j,j < i→l.getD j []=m.getD j [])∧(Wk w G)∧(I 0= .slice a A c)∧(I 1= .slice b E d)∧(I 12=au A)∧(I 13=au i)∧(A - i=V)) _ ⟨0,ab,(fun j ac=>by omega),(Md.refl _ _),aa,aa,aa,aa,aa⟩ ?_
 rintro V I G ⟨i,hi,ae,C,aD,aE,aF,aG,rfl⟩
 refine fx 0 aD<|fx 1 aE<|fx 12 aF<|fx 13 aG<|ag fun ap=>p (lt aa aa)<|nl<|ap<|aB fun aq=>cd aa (fun ax=> ?_) fun ax=> ?_
 refine aM<|aq<|aB fun M=>aH<|ag fun ar=>ak (au i)<|p (cJ (au i) aa)<|nl<|ar<|aB fun ai=> ?_
 have q:(fun w'=>Wk G w') G.drew:=(Md.refl _ _).drew
 refine bI (fun w'=>Wk G w') aa wide q<|bF 0 aa (.slice a A c) q<|bF 1 aa (au i) q<|aC 2 aa (fun _ _=>a8 cH aa aa ab<|aJ.ok (Y.wk C)<|bS ab) q<|aC 3 aa (fun w' O=>ld bT aa<|Wk.aO O<|ca.get (i:=i) (Y.wk C) ab) q<|bF 4 aa (.slice b E d) q<|bF 5 aa (au i) q<|aC 6 aa (fun _ _=>a8 cH aa aa ab<|aJ.ok (Z.wk C)<|bS ab) q<|aC 7 aa (fun w' O=>ld bT aa<|Wk.aO O<|ca.get (i:=i) (Z.wk C) ab) q<|aC 8 aa (fun _ _=>oO aa aa) q<|hn aj<|ai<|cd aa (fun U=> ?_) fun U=> ?_
 exact ag fun al=>aw<|al<|rt<|br<|tr<|tr<|br<|tr<|aV aa<|⟨by show bQ false =_; rw [decide_eq_false (TK U)],C.drew⟩
 exact aM<|bn<|M<|rg aa<|p (ad aa aa<|bX ab)<|p mv<|nl<|tn<|⟨_,ab,i+1,ab,(fun j ac=>by rcases fi j i with h | h <;> first | exact ae j h | (rw [show j=i by omega]; exact jk.1 U)),C.drew,aa,aa,aa,aa,aa⟩
 exact ext<|ba<|ba<|be<|J<|ag fun M=>p aA<|nl<|M<|rt<|aV aa<|⟨by show bQ true =_; rw [decide_eq_true (TI az fun j ac=>ae j ab)],C⟩
theorem oN (rb ln:Nat) (e:Int) (w:World) (q:Hb.aO w.heap rb 2=some (.int .i64 (ln:Nat))):
 fD ay 136 (bf [.pointer (some ⟨rb,0,none⟩),.int .i64 e]) w (fun v w'=>v=gz #[]∧e=0∧w'=w) (fun c w'=>c=jh 47 ln e∧e≠0∧w'=w):=by
 refine kf func136 aa ntmps136 aa<|sq fun A a=>rg aa<|p (aT (.int .i64 e) aa)<|p (db aa aa)<|nl<|tn<|a _ _<|cd aa (fun i=> ?_) fun i=> ?_
 exact rg aa<|p (aT (.pointer<|some ⟨rb,0,none⟩) aa)<|p (nc aa)<|p (fa uV aa)<|p (ld bu aa<|q)<|p (aT (.int .i64 e) aa)<|p (cQ (ps:= [(0,.int .i64 1),(1,.int .i64 (ln:Nat)),(2,.int .i64 e)]) (L:= [.int .i64 1,.int .i64 (ln:Nat),.int .i64 e]) tB aa<|aa)<|p (VQ CG aa)<|WL aa fun E C=>⟨aa,ab,aa⟩
 refine aM<|jL<|f0 aa ?_
 exact ⟨aa,ab,aa⟩
theorem iJ (rb ln:Nat) (b:Bool) (e:Int) (w:World) (C:Hb.aO w.heap rb 2=some (.int .i64 (ln:Nat))) (he:e≠0):
 fD ay 85 (bf [.pointer (some ⟨rb,0,none⟩),.bool b,.int .i64 e]) w (fun v w'=>v=gz #[]∧b=true∧w'=w) (fun c w'=>c=jh 47 ln e∧b=false∧w'=w):=by
 refine kf func85 aa ntmps85 aa<|sq fun E q=>rg aa<|p (aT (.bool b) aa)<|p (no aa)<|nl<|tn<|q _ _<|cb aa (fun a=> ?_) fun a=> ?_
 refine rg aa<|p (aT (.pointer<|some ⟨rb,0,none⟩) aa)<|p (aT (.int .i64 e) aa)<|eP aa (dQ oC (oN rb ln e w C) aa fun v10 I A=> ?_) fun c w' i J G=>⟨i.1,by simpa using a,i.2.2⟩
 exact absurd A.2.1 he
 refine aM<|jL<|f0 aa ?_
 exact ⟨aa,by simpa using a,aa⟩
theorem Lu (B:Nat) (H:dm) (F:aR) (R:gW) (n:Nat) (r:List Tx) (rest:List Rw) (ln:Nat) (seen:List Tx) (w:World) (A:du w B H F R ((n,r)::rest) ln seen):
 bm ay 84 (bf [aQ H.rb]) w (fun v w'=>(∃ R',du w' B H F R' rest n seen)∧Tg w' B 9 r.length v (r.map str)∧Md (fun k=>k=H.rb) w w'):=by
 obtain ⟨vr,vs,vn⟩:=R
 obtain ⟨a,cp,aD⟩:=A.rws.slice
 obtain rfl :vr= .slice a (rest.length+1) cp:=aD
 obtain ⟨q,vs,rfl⟩:∃ q I,vs=q::I:=by
  cases vs with
  | nil=>exact absurd A.rt.1<|by simp
  | cons q I=>exact ⟨q,I,rfl⟩
 obtain ⟨E,aE⟩:=q
 obtain ⟨aC,Z⟩:=A.rt.2 0 (E,aE) (n,r) rfl rfl
 obtain rfl :E=n:=aC
 obtain ⟨an,ao,rfl⟩:=Z.slice
 have ac:rest.length+1≤cp∧aJ w.heap a (kL ((E,.slice an r.length ao)::vs)):=A.rws.cells
 have C:=A.cells
 have aK:H.rb < w.heap.size:=(cU.1 C).1
 refine enter func84 aa ntmps84 aa<|ag fun ae=>aw<|ae<|ag fun ah=>ak (aQ H.rb)<|p (nc aa)<|p (fa uU aa)<|p (ld sA aa<|(aX C).trans aa)<|p (a8 sX aa aa ab<|aJ.ok (ac.2)<|lQ<|by simp)<|p (da xd aa (aa)<|lR (i:=0) ac.2 aa)<|e<|al Mj fun aG aL aI U aq=> ?_
 have aB:=U.md.aH C
 refine e<|cW GO aa aa aa aa (aq) (by simp) fun aN J ap=> ?_
 have Y:=J.aH aB fun h=>by omega
 refine nl<|ah<|ag fun ai=>ak (aQ H.rb)<|ak (aQ H.rb)<|p (nc aa)<|p (fa uU aa)<|p (ld sA aa<|(aX Y).trans aa)<|p (vF sX aa aa ab)<|p (nc aa)<|p (fa uU aa)<|e<|cw GN aa aa (v:= .slice (gq a cp 1 2) rest.length<|cp - 1) aa Y (by show _ < 7; decide) fun aM M ar=> ?_
 have V:=M.B ap fun h=>by omega
 refine nl<|ai<|ag fun aj=>ak (aQ H.rb)<|p (fa x5 aa)<|p (ld bu aa<|(V.aO 0).trans aa)<|p (nc aa)<|p (fa uV aa)<|e<|cw eZ aa aa (v:=au E) aa ar (by show _ < 7; decide) fun aF O av=> ?_
 have ax:=O.B V fun h=>by omega
 refine nl<|aj<|ag fun am=>p (fa uW aa)<|p (ld jR aa<|(ax.aO 1).trans aa)<|p aA<|nl<|am<|rt<|aV aa ?_
 have G:Md (fun k=>k=H.rb) w aF:=(((U.md.mono fun _ _ h=>h.elim).trans' J fun k hk h=>by omega).trans' M fun _ _ h=>h).trans' O fun _ _ h=>h
 exact ⟨⟨⟨.slice (gq a cp 1 2) rest.length (cp - 1),vs,vn⟩,A.dy (R':=⟨.slice (gq a cp 1 2) rest.length (cp - 1),vs,vn⟩) G av aa (A.rws.pF (m:=2)<|(KH _).trans<|by have :=A.rt.1; simp at this; simp [this])<|gZ.tl A.rt⟩,Z.md G (fu C az),G⟩
theorem Co (B:Nat) (H:dm) (F:aR) (R:gW) (rows:List Rw) (ln:Nat) (seen:List Tx) (hd:List Tx) (ak A:Nat) (E:Option Addr) (G:Nat) (w:World) (M:du w B H F R rows ln seen) (ap:Tg w ak 9 A (.slice E A G) (hd.map str)) (O:hd.length=A) (aY:A≤1000) (aH:∀ q∈rows,q.2.length≤70000):
 fD ay 197 (bf [.pointer (some ⟨H.rb,0,none⟩),.slice E A G]) w (fun v w'=> ∃ n r rest,rows=(n,r)::rest∧r.take hd.length=hd∧(∃ R',du w' B H F R' rest n seen)∧Tg w' B 9 r.length v (r.map str)∧Md (fun k=>k=H.rb) w w') (fun c w'=>((rows= []∧c=jh 47 H.eof 116)∨(∃ n r rest,rows=(n,r)::rest∧r.take hd.length≠hd∧c=jh 47 n 116))∧Md (fun k=>k=H.rb) w w'):=by
 obtain ⟨a,cp,aI⟩:=M.rws.slice
 have Z:=M.cells
 have ac:=M.cells
 unfold vw at Z
 rw [aI] at Z
 refine kf func197 aa ntmps197 aa<|sq fun aQ av=>rg aa<|p aA<|nl<|tn<|av _ _<|sq fun aS aw=>sq fun aU ax=>rg aa<|p (aT (.pointer<|some ⟨H.rb,0,none⟩) aa)<|p (nc aa)<|p (fa uU aa)<|p (ld sA aa<|(aX Z).trans aa)<|p (bK y5 aa aa)<|p (bJ aa aa)<|nl<|tn<|ax _ _<|cd aa (fun ai=> ?_) fun ai=> ?_
 obtain rfl :rows= []:=fW ab
 refine sq fun al U=>rg aa<|p (aT (.pointer<|some ⟨H.rb,0,none⟩) aa)<|p (aT (.pointer<|some ⟨H.rb,0,none⟩) aa)<|p (nc aa)<|p (fa Tm aa)<|p (ld bu aa<|(aX ac).trans aa)<|p (nc aa)<|p (fa uV aa)<|e<|cw eZ aa aa (v:= .int .i64 (H.eof:Nat)) aa ac (by show _ < 7; decide) fun aP aB ao=>nl<|tn<|U _ _<|rg aa<|p (aT (.pointer<|some ⟨H.rb,0,none⟩) aa)<|eP aa (dQ oC (oN H.rb H.eof 116 aP<|(aX ao).trans aa) aa fun v20 a2 aC=> ?_) fun c w' i aj ag=>⟨.inl ⟨aa,i.1⟩,i.2.2 ▸ aB⟩
 exact absurd aC.2.1 az
 obtain ⟨q,rest,rfl⟩:∃ q rest,rows=q::rest:=by
  cases rows with
  | nil=>exact absurd rfl ai
  | cons q rest=>exact ⟨q,rest,rfl⟩
 obtain ⟨n,r⟩:=q
 refine aM<|tn<|aw _ _<|sq fun al U=>rg aa<|p (aT (.pointer<|some ⟨H.rb,0,none⟩) aa)<|e<|cl Gj (Lu B H F R n r rest ln seen _ M) aa fun a0 aK aD=> ?_
 obtain ⟨⟨an,J⟩,hT,I⟩:=aD
 obtain ⟨ar,cr,rfl⟩:=hT.slice
 have aF:=hT.cI
 have aZ:r.length≤70000:=aH (n,r)<|by simp
 have aq:=ap.md I<|fu ac az
 have au:=aq.cI
 have aW:=J.dj
 refine p aA<|nl<|tn<|U _ _<|sq fun aV ah=>rg aa<|p (aT (.pointer<|some ⟨H.rb,0,none⟩) aa)<|p mv<|p (bK eV aa aa)<|p (aT (.slice E A G) aa)<|p (bK eV aa aa)<|p (ge aa aa)<|p mv<|gs (t:=29) aa (fun aG=> ?_) fun aG=> ?_
 refine pg aa aa aa mv<|pg aa aa aa (aT (.slice E A G) aa)<|pg aa aa aa (bK eV aa aa)<|pg aa aa aa (vE cH aa aa ab)<|pg aa aa aa (aT (.slice E A G) aa)<|eg aa aa aa<|cl PB (SN (r.take A) hd _ _ ar E cr G _ (by have :=aJ.take aF.2 A; unfold ca; rw [Ew]; exact this) au.2 (by rw [dR]; omega) O ab) aa fun a1 aL aE=> ?_
 obtain ⟨rfl,C⟩:=aE
 refine p (bB aa)<|eP aa (dQ iy (iJ H.rb n _ 116 aL (by first | exact J.dj | exact Wk.aO C J.dj) az) aa fun v37 aN Y=> ?_) fun c w' i aj ag=>⟨.inr ⟨n,r,rest,aa,(by rw [O]; first | exact of_decide_eq_false i.2.1 | exact fun h=>by have :=congrArg jz h; rw [dR] at this; omega),i.1⟩,by rw [i.2.2]; first | exact I.trans' C (fun _ _ h=>h.elim) | exact I⟩
 obtain ⟨rfl,ae,rfl⟩:=Y
 exact nl<|tn<|ah _ _<|sq fun am V=>rg aa<|p mv<|p aA<|nl<|tn<|V _ _<|rt<|jL<|f1 aa aa<|⟨n,r,rest,aa,(by rw [O]; exact of_decide_eq_true ae),⟨an,J.wk C⟩,hT.wk C,I.trans' C fun _ _ h=>h.elim⟩
 refine sk aa aa aa aa<|sk aa aa aa aa<|sk aa aa aa aa<|sk aa aa aa aa<|sk aa aa aa aa<|sk aa aa aa aa<|p (bp aa)<|eP aa (dQ iy (iJ H.rb n _ 116 aK (by first | exact J.dj | exact Wk.aO C J.dj) az) aa fun v37 aN Y=> ?_) fun c w' i aj ag=>⟨.inr ⟨n,r,rest,aa,(by rw [O]; first | exact of_decide_eq_false i.2.1 | exact fun h=>by have :=congrArg jz h; rw [dR] at this; omega),i.1⟩,by rw [i.2.2]; first | exact I.trans' C (fun _ _ h=>h.elim) | exact I⟩
 obtain ⟨rfl,ae,rfl⟩:=Y
 exact nl<|tn<|ah _ _<|sq fun am V=>rg aa<|p mv<|p aA<|nl<|tn<|V _ _<|rt<|jL<|f1 aa aa<|absurd ae az
theorem yI (rb ln:Nat) (s:Tx) (most:Int) (w:World) (M:Hb.aO w.heap rb 2=some (.int .i64 (ln:Nat))) (hs:s.length≤1048576) (hm: -9223372036854775808≤most∧most≤9223372036854775807):
 fD ay 196 (bf [.pointer (some ⟨rb,0,none⟩),str s,.int .i64 most]) w (fun v w'=> ∃ a,eX s most= .ok a∧v= .int .i64 (a:Nat)∧Wk w w') (fun c w'=> ∃ e,eX s most= .error e∧c=jh 47 ln e∧Wk w w'):=by
 refine kf func196 aa ntmps196 aa<|sq fun V A=>rg aa<|p aA<|nl<|tn<|A _ _<|sq fun Y C=>rg aa<|p (aT (str s) aa)<|p (aT (.int .i64 most) aa)<|e<|cl xn (yC s most _ hs hm) aa fun v12 U I=> ?_
 obtain ⟨rfl,q⟩:=I
 refine p mv<|p (xt aa aa)<|p (xt aa aa)<|p aA<|p aA<|nl<|tn<|C _ _<|sq fun Z E=>rg aa<|p (aT (.pointer<|some ⟨rb,0,none⟩) aa)<|p mv<|eP aa (dQ oC (oN rb ln (dZ s most).2 U<|Wk.aO q M) aa fun ae ag J=> ?_) fun c w' i ah ac=>⟨13,(pO i.2.1).1,(by rw [i.1,(pO i.2.1).2]; rfl),by rw [i.2.2]; exact q⟩
 obtain ⟨rfl,O,rfl⟩:=J
 exact nl<|tn<|E _ _<|sq fun ab G=>rg aa<|p mv<|p aA<|nl<|tn<|G _ _<|rt<|jL<|f1 aa aa<|⟨_,nW O,aa,q⟩
theorem C3 (rb ln:Nat) (s:Tx) (w:World) (ah:Hb.aO w.heap rb 2=some (.int .i64 (ln:Nat))) (hs:s.length≤1048576):
 fD ay 193 (bf [.pointer (some ⟨rb,0,none⟩),str s]) w (fun v w'=>v= .tuple #[]∧gv s=true∧Wk w w') (fun c w'=>c=jh 47 ln 21∧gv s=false∧Wk w w'):=by
 refine kf func193 aa ntmps193 aa<|sq fun an O=>rg aa<|p (aT (str s) aa)<|p (cz u9 aa aa)<|p mv<|nl<|tn<|O _ _<|aH<|lp (fun E a M=> ∃ (i:Nat),(i≤s.length)∧(∀ j,j < i→iP (s.getD j 0)=true)∧(Wk w M)∧(a 0= .pointer (some ⟨rb,0,none⟩))∧(a 1=str s)∧(a 6= .int .i64 (s.length:Nat))∧(a 7= .int .i64 (i:Nat))∧(s.length - i=E)) _ ⟨0,ab,(fun j G=>by omega),(Md.refl _ _),aa,aa,aa,aa,aa⟩ ?_
 rintro E a M ⟨i,hi,I,q,ai,aj,ak,al,rfl⟩
 refine fx 0 ai<|fx 1 aj<|fx 6 ak<|fx 7 al<|sq fun ao U=>rg aa<|p (lt aa aa)<|nl<|tn<|U _ _<|sq fun ap V=>cd aa (fun ag=> ?_) fun ag=> ?_
 refine aM<|tn<|V _ _<|sq fun aq Y=>aH<|sq fun ar Z=>rg aa<|p (aT (.int .i64 (i:Nat)) aa)<|p (cJ (.int .i64 (i:Nat)) aa)<|nl<|tn<|Z _ _<|rg aa<|p (aT (.pointer<|some ⟨rb,0,none⟩) aa)<|p (aT (str s) aa)<|p (aT (.int .i64 (i:Nat)) aa)<|p (aT (.int .i64 (i:Nat)) aa)<|p (bE ((i+1:Nat):Int) aa aa<|bj ab ab)<|p (me u9 aa aa aa ab)<|e<|cl FC (LU ((s.take<|i+1).drop i) _<|by rw [fT,dR]; omega) aa fun av am ac=> ?_
 obtain ⟨rfl,A⟩:=ac
 refine eP aa (dQ iy (iJ rb ln _ 21 am (Wk.aO (q.trans A) ah) az) aa fun aw ax ae=> ?_) fun c w' C aA au=>⟨C.1,sN (i:=i) ab (by have h:=C.2.1; rw [KS (by omega :i < s.length),LR] at h; exact h),by rw [C.2.2]; exact q.trans A⟩
 obtain ⟨rfl,J,rfl⟩:=ae
 rw [KS (by omega :i < s.length),LR] at J
 exact nl<|bn<|tn<|Y _ _<|rg aa<|p (ad aa aa<|bX ab)<|p mv<|nl<|tn<|⟨_,ab,i+1,ab,(fun j G=>by rcases fi j i with h | h <;> first | exact I j h | (rw [show j=i by omega]; exact J)),(q.trans A),aa,aa,aa,aa,aa⟩
 refine ext<|te _<|te _<|be<|jL<|f0 aa ?_
 exact ⟨aa,uA (fun j G=>I j ab),q⟩
theorem Kp (rb ln:Nat) (s:Tx) (w:World) (A:Hb.aO w.heap rb 2=some (.int .i64 (ln:Nat))) (hs:s.length≤1048576):
 fD ay 241 (bf [.pointer (some ⟨rb,0,none⟩),str s]) w (fun v w'=>v=str s∧gF s=0∧Wk w w') (fun c w'=>c=jh 47 ln (gF s:Nat)∧gF s≠0∧Wk w w'):=by
 refine kf func241 aa ntmps241 aa<|sq fun ah J=>rg aa<|p aA<|nl<|tn<|J _ _<|sq fun ai M=>rg aa<|p (aT (.pointer<|some ⟨rb,0,none⟩) aa)<|p (aT (str s) aa)<|eP aa (dQ Ax (C3 rb ln s w A hs) aa fun ao ag ac=> ?_) (fun c w' a I C=>by have h:gF s=21:=xR (.inr a.2.1); exact ⟨by rw [h]; exact a.1,by rw [h]; decide,a.2.2⟩)
 obtain ⟨rfl,G,i⟩:=ac
 refine nl<|tn<|M _ _<|sq fun aj O=>rg aa<|p (aT (.pointer<|some ⟨rb,0,none⟩) aa)<|p (aT (str s) aa)<|p (oO aa aa)<|eP aa (dQ iy (iJ rb ln _ 21 ag (Wk.aO i A) az) aa fun v11 ae Y=> ?_) (fun c w' a I C=>by have h:gF s=21:=xR (.inl<|jk.1<|of_decide_eq_false a.2.1); exact ⟨by rw [h]; exact a.1,by rw [h]; decide,by rw [a.2.2]; exact i⟩)
 obtain ⟨rfl,q,rfl⟩:=Y
 have q:s≠[]:=of_decide_eq_true q
 refine nl<|tn<|O _ _<|sq fun ak U=>rg aa<|p (aT (.pointer<|some ⟨rb,0,none⟩) aa)<|p (aT (str s) aa)<|p (cz u9 aa aa)<|p (le aa aa)<|eP aa (dQ iy (iJ rb ln _ 22 ae (Wk.aO i A) az) aa fun an ap Z=> ?_) (fun c w' a I C=>by have am:=of_decide_eq_false a.2.1; have h:gF s=22:=HB q G ab; exact ⟨by rw [h]; exact a.1,by rw [h]; decide,by rw [a.2.2]; exact i⟩)
 obtain ⟨rfl,E,rfl⟩:=Z
 have E:=of_decide_eq_true E
 exact nl<|tn<|U _ _<|sq fun al V=>rg aa<|p (aT (str s) aa)<|p (cJ (str s) aa)<|nl<|tn<|V _ _<|rt<|jL<|f1 aa aa<|⟨aa,HC q G ab,i⟩
theorem Kf (rb ln:Nat) (s:Tx) (w:World) (E:Hb.aO w.heap rb 2=some (.int .i64 (ln:Nat))) (hs:s.length≤1048576):
 fD ay 198 (bf [.pointer (some ⟨rb,0,none⟩),str s]) w (fun v w'=> ∃ a,eA false s= .ok a∧v=str a∧Wk w w') (fun c w'=> ∃ e,eA false s= .error e∧c=jh 47 ln e∧Wk w w'):=by
 refine kf func198 aa ntmps198 aa<|sq fun al M=>rg aa<|p aA<|nl<|tn<|M _ _<|sq fun am O=>rg aa<|p (aT (str s) aa)<|e<|cl Aq (DT s _ hs) aa fun v11 ai Z=> ?_
 obtain ⟨rfl,q⟩:=Z
 have aq:=r4 s
 refine p mv<|p (xt aa aa)<|p (xt aa aa)<|p (xt aa aa)<|p (xt aa aa)<|p aA<|p aA<|p aA<|p aA<|nl<|tn<|O _ _<|sq fun an U=>rg aa<|p (aT (.pointer<|some ⟨rb,0,none⟩) aa)<|p mv<|eP aa (dQ oC (oN rb ln ((bA s).2.2.2:Nat) ai<|Wk.aO q E) aa fun ar aj ac=> ?_) fun c w' i I G=>⟨_,CY (by have :=i.2.1; omega),i.1,by rw [i.2.2]; exact q⟩
 obtain ⟨rfl,A,rfl⟩:=ac
 have A:(bA s).2.2.2=0:=ab
 refine nl<|tn<|U _ _<|sq fun ao V=>rg aa<|p (aT (.pointer<|some ⟨rb,0,none⟩) aa)<|p mv<|p (no aa)<|eP aa (dQ iy (iJ rb ln _ 114 aj (Wk.aO q E) az) aa fun au ak ae=> ?_) fun c w' i I G=>⟨_,CZ A (by simpa using i.2.1),i.1,by rw [i.2.2]; exact q⟩
 obtain ⟨rfl,C,rfl⟩:=ae
 have C:(bA s).2.2.1=false :=by simpa using C
 refine nl<|tn<|V _ _<|sq fun ap Y=>rg aa<|p (aT (.pointer<|some ⟨rb,0,none⟩) aa)<|p mv<|eP aa (dQ FY (Kp rb ln (bA s).1 ak (Wk.aO q E) ab) aa fun av aw ag=> ?_) fun c w' i I G=>⟨_,C0 A C i.2.1,i.1,q.trans i.2.2⟩
 obtain ⟨rfl,ah,J⟩:=ag
 exact p aA<|nl<|tn<|Y _ _<|rt<|jL<|f1 aa aa<|⟨_,C1 A C ah,aa,q.trans J⟩
theorem Kc (rb ln:Nat) (s:Tx) (w:World) (U:Hb.aO w.heap rb 2=some (.int .i64 (ln:Nat))) (hs:s.length≤1048576):
 fD ay 199 (bf [.pointer (some ⟨rb,0,none⟩),str s]) w (fun v w'=> ∃ a,eA true s= .ok a∧v=str a∧Wk w w') (fun c w'=> ∃ e,eA true s= .error e∧c=jh 47 ln e∧Wk w w'):=by
 refine kf func199 aa ntmps199 aa<|sq fun V E=>rg aa<|p aA<|nl<|tn<|E _ _<|sq fun Y G=>sq fun Z I=>rg aa<|p (aT (str s) aa)<|p (dV aa aa)<|nl<|tn<|I _ _<|cd aa (fun i=> ?_) fun i=> ?_
 exact sq fun A q=>rg aa<|p aA<|nl<|tn<|q _ _<|rt<|tr<|jL<|f1 aa aa<|⟨[],Ke i,aa,Md.refl _ _⟩
 refine aM<|tn<|G _ _<|sq fun A q=>rg aa<|p (aT (.pointer<|some ⟨rb,0,none⟩) aa)<|p (aT (str s) aa)<|eP aa (dQ FP (Kf rb ln s w U hs) aa fun v9 ac M=> ?_) fun c w' J ae ab=>by obtain ⟨e,he,h⟩:=J; exact ⟨e,by rw [C2 i]; exact he,h⟩
 obtain ⟨a,O,rfl,C⟩:=M
 exact p aA<|nl<|tn<|q _ _<|rt<|jL<|f1 aa aa<|⟨a,by rw [C2 i]; exact O,aa,C⟩
end Go.Hb
end
section
namespace Go.Hb
open Go.Hb.gX Go.Hb.ka
theorem Ic {kind:Nat} {s:Tx} (h:(gN kind s).2=0):(gN kind s).1≠0:=by
 unfold gN at h ⊢
 split
 · rename_i a; rw [if_pos a] at h; cases h
 · rename_i a; exact a
theorem Il {F:aR} {s:Tx} (h:(gN F.kind s).2≠0):gH F s= .error (gN F.kind s).2:=if_pos h
theorem Im {F:aR} {s:Tx} (h:(gN F.kind s).2=0) (h1:eG F (gN F.kind s).1=true):gH F s= .error 115:=by unfold gH; rw [if_neg (fun h2=>h2 h),if_pos h1]
theorem Io {F:aR} {s:Tx} (h:(gN F.kind s).2=0) (h1:eG F (gN F.kind s).1=false):gH F s= .ok (gN F.kind s).1:=by unfold gH; rw [if_neg (fun h2=>h2 h),if_neg (by rw [h1]; exact ee)]
theorem Lb {F:aR} {rows:List Rw} {ln e:Nat} {r:List Tx} (h:gH F (r.getD 1 [])= .error e):ko F rows ln r= .error (ln,e):=by unfold ko; rw [h]
theorem Lc {F:aR} {rows:List Rw} {ln x:Nat} {r:List Tx} (h:gH F (r.getD 1 [])= .ok x):ko F rows ln r= .ok ({F with sp:=F.sp.set (ea.idxOf<|r.getD 0 []) x},rows):=by unfold ko; rw [h]
def lB:List Tx:= [kj,kG,kV,lu,lP,eI,fH,di]
theorem CV (hs:List Tx):ordered hs=true↔∀ k∈lB,k∉hs:=by
 unfold ordered
 rw [Bool.not_eq_true',List.any_eq_false]
 have hm:∀ k,k∈lB↔(k∈ea∨k=eI∨k=fH∨k=di):=by
  intro k
  simp only [lB,ea,List.mem_cons,List.not_mem_nil,or_false,or_assoc]
 constructor
 · intro h k hk a
   have :=h k a
   rw [decide_eq_true_iff] at this
   exact this<|(hm k).1 hk
 · intro h x i hd
   rw [decide_eq_true_iff] at hd
   exact h x ((hm x).2 hd) i
theorem KM {F:aR} {rows:List Rw} {ln:Nat} {r:List Tx} (h:gv (r.getD 1 [])=false):mK F rows ln r= .error (ln,21):=if_pos h
theorem KN {F:aR} {rows:List Rw} {ln:Nat} {r:List Tx} (h:gv (r.getD 1 [])=true):mK F rows ln r= .ok ({F with rB:=r.getD 1 []},rows):=if_neg<|by rw [h]; exact ee
theorem LB {F:aR} {rows:List Rw} {ln:Nat} {r:List Tx} (h:(letE<|r.getD 1 []).2≠0):mO F rows ln r= .error (ln,(letE<|r.getD 1 []).2):=if_pos h
theorem LC {F:aR} {rows:List Rw} {ln:Nat} {r:List Tx} (h:(letE<|r.getD 1 []).2=0):mO F rows ln r= .ok ({F with tr:=(letE<|r.getD 1 []).1},rows):=if_neg fun h2=>h2 h
theorem JB {F:aR} {rows:List Rw} {ln e:Nat} {r:List Tx} (h:eX (r.getD 1 []) 64= .error e):kX F rows ln r= .error (ln,e):=by unfold kX; rw [h]
theorem JC {F:aR} {rows:List Rw} {ln n:Nat} {r:List Tx} (h:eX (r.getD 1 []) 64= .ok n) (a:n=0):kX F rows ln r= .error (ln,13):=by unfold kX; rw [h]; exact if_pos a
theorem JD {F:aR} {rows:List Rw} {ln n:Nat} {r:List Tx} (h:eX (r.getD 1 []) 64= .ok n) (a:n≠0):kX F rows ln r= .ok ({F with least:=n},rows):=by unfold kX; rw [h]; exact if_neg a
theorem u7 {F:aR} {seen:List Tx} {rows:List Rw} {ln:Nat} {r:List Tx} {k:Tx} (hk:k∈lB) (h:k∈seen):kH F seen rows ln r= .error (ln,113):=by
 unfold kH
 rw [if_pos]
 cases ho:ordered seen with
 | false =>rfl
 | true =>exact absurd h<|(CV seen).1 ho k hk
theorem Ja {F:aR} {seen:List Tx} {rows:List Rw} {ln:Nat} {r:List Tx} (h:ordered seen=true) (a:jw (r.getD 1 [])=0):kH F seen rows ln r= .error (ln,114):=by unfold kH; rw [if_neg (by rw [h]; exact ee),if_pos a]
theorem yt {F:aR} {seen:List Tx} {rows:List Rw} {ln:Nat} {r:List Tx} (h:ordered seen=true) (a:jw (r.getD 1 [])≠0):kH F seen rows ln r= .ok ({F with kind:=jw<|r.getD 1 []},rows):=by unfold kH; rw [if_neg (by rw [h]; exact ee),if_neg a]
def kinds:List Tx:= [rK,tp,vb]
theorem Vc (s:Tx):((if s∈kinds then (kinds.idxOf s:Nat) else -1:Int))=(jw s:Nat) - 1:=by
 unfold jw kinds
 by_cases h1:s=rK
 · subst h1; decide
 · by_cases h2:s=tp
   · subst h2; decide
   · by_cases h3:s=vb
     · subst h3; decide
     · rw [if_neg (by simp [h1,h2,h3]),if_neg h1,if_neg h2,if_neg h3]; rfl
theorem Vd (s:Tx):jw s≤3:=by
 unfold jw
 split
 · omega
 · split
   · omega
   · split <;> omega
theorem B4 (B:Nat) (H:dm) (F:aR) (V:e6) (R:gW) (rows:List Rw) (ln:Nat) (seen:List Tx) (s:Tx) (w:World) (E:dS w B H.fb H.mc F V) (q:du w B H F R rows ln seen) (hk:F.kind=1∨F.kind=2∨F.kind=3) (hs:s.length≤1048576):
 fD ay 195 (bf [.pointer (some ⟨H.rb,0,none⟩),str s]) w (fun v w'=> ∃ x,gH F s= .ok x∧x≠0∧v=bg x∧eG F x=false∧Wk w w') (fun c w'=> ∃ e,gH F s= .error e∧c=jh 47 ln (e:Nat)∧Wk w w'):=by
 obtain ⟨tf,ae,ag⟩:=q.tm
 refine kf func195 aa ntmps195 aa<|sq fun ak I=>rg aa<|p aA<|nl<|tn<|I _ _<|sq fun al J=>rg aa<|p (aT (.pointer<|some ⟨H.rb,0,none⟩) aa)<|p (nc aa)<|p (fa ij aa)<|p (ld gn aa<|(aX q.cells).trans aa)<|p (nc aa)<|p (fa gG aa)<|p (fa tg aa)<|p (ld bu aa<|(aX E.cells).trans aa)<|p (aT (str s) aa)<|e<|cl PA (Wj F.kind s _ hk hs) aa fun ap ah Y=> ?_
 obtain ⟨rfl,a⟩:=Y
 refine p mv<|p (xt aa aa)<|p (xt aa aa)<|p aA<|p aA<|nl<|tn<|J _ _<|sq fun am M=>rg aa<|p (aT (.pointer<|some ⟨H.rb,0,none⟩) aa)<|p mv<|eP aa (dQ oC (oN H.rb ln ((gN F.kind s).2:Nat) ah<|Wk.aO a q.dj) aa fun aq ai Z=> ?_) fun c w' i aj E=>⟨_,Il (by have :=i.2.1; omega),i.1,by rw [i.2.2]; exact a⟩
 obtain ⟨rfl,C,rfl⟩:=Z
 have C:(gN F.kind s).2=0:=ab
 have G:=Ic C
 refine nl<|tn<|M _ _<|sq fun an O=>rg aa<|p (aT (.pointer<|some ⟨H.rb,0,none⟩) aa)<|p (aT (.pointer<|some ⟨H.rb,0,none⟩) aa)<|p (nc aa)<|p (fa BN aa)<|p (ld ur aa<|Wk.aO a<|(aX q.cells).trans aa)<|p mv<|p (oL rY oW rJ (ae.wk a) aa aa (⟨_,aa⟩)<|ag _ G)<|p (bJ aa aa)<|eP aa (dQ iy (iJ H.rb ln _ 115 ai (Wk.aO a q.dj) az) aa fun v31 ar ac=> ?_) fun c w' i aj E=>⟨115,Im C (by have h:=i.2.1; rw [GZ] at h; simpa using h),i.1,by rw [i.2.2]; exact a⟩
 obtain ⟨rfl,A,rfl⟩:=ac
 rw [GZ] at A
 have A:eG F (gN F.kind s).1=false :=by simpa using A
 exact nl<|tn<|O _ _<|sq fun ao U=>rg aa<|p mv<|p aA<|nl<|tn<|U _ _<|rt<|jL<|f1 aa aa<|⟨_,Io C A,G,aa,A,a⟩
theorem vH (B:Nat) (H:dm) (F:aR) (rows:List Rw) (ln:Nat) (seen:List Tx) (r:List Tx) (aD:Nat) (ar:Option Addr) (cr:Nat) (w:World) (M:St w B H F rows ln seen) (ae:Tg w aD 9 r.length (.slice ar r.length cr) (r.map str)) (a5:r.length=2) (aV:∀ x∈r,x.length≤70000) (av:r.getD 0 []∈ea) (aW:F.sp.getD (ea.idxOf<|r.getD 0 []) 0=0):
 fD ay 131 (bf [.pointer (some ⟨H.rb,0,none⟩),.slice ar r.length cr]) w (jq B H seen (ko F rows ln r) w) (jo B H (ko F rows ln r) w):=by
 obtain ⟨V,R,A,E,C⟩:=M
 have ao:=ae.cI
 have aq:¬(H.rb=H.fb):=fun h=>by have h1:=E.cells; rw [h,A.cells] at h1; cases h1
 have a6:(r.getD 1 []).length≤70000:=aV _<|dU ab
 have au:¬(bk ar=H.fb):=Tg.vk ae (bS ab) A.cells az
 obtain ⟨tf,ag,aw⟩:=E.tm
 obtain ⟨ba,a7,a9⟩:=E.sm
 have ap:ea.idxOf (r.getD 0 []) < 5:=wv.2 av
 refine kf func131 aa ntmps131 aa<|sq fun a2 aI=>rg aa<|p (aT (.pointer<|some ⟨H.rb,0,none⟩) aa)<|p (aT (.slice ar r.length cr) aa)<|p (a8 cH aa aa ab<|aJ.ok (ao.2)<|bS ab)<|p (ld bT aa<|ca.get (i:=1) ao.2 ab)<|eP aa (dQ Ay (B4 B H F V R rows ln seen (r.getD 1 []) w A E C.kd ab) aa fun v9 bc J=> ?_) fun c w' aL bd A=>by obtain ⟨e,he,h,h2⟩:=aL; exact ⟨ln,e,Lb he,h,Wk.mw h2⟩
 obtain ⟨x,aY,aZ,rfl,aB,q⟩:=J
 have aG:=A.wk q
 have J:=E.wk q
 refine p aA<|nl<|tn<|aI _ _<|sq fun a3 aK=>rg aa<|p (aT (.pointer<|some ⟨H.rb,0,none⟩) aa)<|p (nc aa)<|p (fa BN aa)<|p (ld ur aa<|Wk.aO q<|(aX E.cells).trans aa)<|p mv<|p (oL rY oW rJ (ag.wk q) aa aa (⟨_,aa⟩) (show _=je .i64 0 from (aw x aZ).trans<|by rw [aB]; rfl))<|p (bE ((1:Nat):Int) aa aa<|bj ab ab)<|e<|tJ rY rJ (ag.wk q) aa aa aa (⟨_,aa⟩) fun G U aM=> ?_
 have ak:=J.vj (F':= {F with sp:=F.sp.set (ea.idxOf<|r.getD 0 []) x}) U aM rfl (Lv aB aw<|R5 (by rw [A.fR]; exact ap) aW)
 have O:=aG.vj J U
 have aS:=(ae.wk q).md U fun k hk cur z aU=>by subst hk; exact (ag.wk q).pN aU
 have an:=aS.cI
 refine nl<|tn<|aK _ _ ?_
 have a:(fun w'=>Md (fun k=>k=H.fb) G w') G.drew:=(Md.refl _ _).drew
 refine bI (fun w'=>Md (fun k=>k=H.fb) G w') aa wide a<|hp 0 aa aj (fun _ _=>aT (.pointer<|some ⟨H.rb,0,none⟩) aa) a<|hp 1 aa aj (fun _ _=>nc aa) a<|hp 2 aa aj (fun _ _=>fa ij aa) a<|hp 3 aa aj (fun w' M=>ld gn aa<|Md.aO M ((aX ak.cells).trans aa)<|by first | exact aq | exact au) a<|hp 5 aa aj (fun _ _=>aT (.slice ar r.length cr) aa) a<|hp 6 aa aj (fun _ _=>a8 cH aa aa ab<|aJ.ok (an.2)<|bS ab) a<|hp 7 aa aj (fun w' M=>ld bT aa<|Md.aO M (ca.get (i:=0) an.2 ab)<|by first | exact aq | exact au) a<|hp 9 aa aj (fun _ _=>mv) a<|hp 10 aa aj (fun _ _=>nc aa) a<|hp 11 aa aj (fun _ _=>fa gG aa) a<|hp 12 aa aj (fun _ _=>fa x8 aa) a<|he 4 aa aj<|sL (L:=ea.map str) fQ aa aa aa aa fun ah aC a4 Z aE=> ?_
 have aP:ca aC.heap (some ⟨ah,0,none⟩) ea:=aJ.dX ⟨_,aE⟩
 have I:=iq Z.md
 have am:(fun w'=>Md (fun k=>k=H.fb) G w') aC:=a.trans' Z.md fun _ _ h=>h.elim
 refine ⟨am,?_⟩
 refine he 8 aa aj<|cl FO (IZ ea (some ⟨ah,0,none⟩) 5 (r.getD 0 []) _ aP az) aa fun bb a0 aN=> ?_
 obtain ⟨ax,rfl⟩:=aN
 rw [if_pos av] at ax
 subst ax
 have ac:(fun w'=>Md (fun k=>k=H.fb) G w') a0:=am
 refine ⟨ac,?_⟩
 refine hp 13 aa aj (fun _ _=>kh uy aa aa ab) ac<|he 14 aa aj<|cw gp aa aa (v:=bg x) aa (Z.md.aH O.cells) (by show _ < 14; omega) fun a1 Y ai=> ?_
 rw [S7 (i:=ea.idxOf<|r.getD 0 []) A.fR ap ab] at ai
 have aQ:(fun w'=>Md (fun k=>k=H.fb) G w') a1:=ac.trans' Y fun _ _ h=>h
 refine ⟨aQ,?_⟩
 refine hn aj<|jL<|f0 aa ?_
 have aF:=(O.wk I).put (F':= {F with sp:=F.sp.set (ea.idxOf<|r.getD 0 []) x}) Y ai rfl rfl rfl rfl (by rw [List.length_set]; exact A.fR)
 exact ⟨aa,_,rows,ln,Lc aY,⟨V,R,aF,(ak.wk I).fb (O.wk I) Y,⟨C.len,C.sl,C.row,C.kd,C.al⟩⟩,((Wk.mw q).trans<|fC.mt J U).trans<|(Wk.mw I).trans<|fC.fb (O.wk I) Y⟩
theorem QD (B:Nat) (H:dm) (F:aR) (rows:List Rw) (ln:Nat) (seen:List Tx) (r:List Tx) (ah:Nat) (ar:Option Addr) (cr:Nat) (w:World) (G:St w B H F rows ln seen) (Y:Tg w ah 9 r.length (.slice ar r.length cr) (r.map str)) (av:r.length=2) (ao:∀ x∈r,x.length≤70000):
 fD ay 129 (bf [.pointer (some ⟨H.rb,0,none⟩),.slice ar r.length cr]) w (jq B H seen (mK F rows ln r) w) (jo B H (mK F rows ln r) w):=by
 obtain ⟨V,R,C,E,A⟩:=G
 have ac:=Y.cI
 have ae:¬(H.rb=H.fb):=fun h=>by have h1:=E.cells; rw [h,C.cells] at h1; cases h1
 have aw:(r.getD 1 []).length≤70000:=ao _<|dU ab
 have ag:¬(bk ar=H.fb):=Tg.vk Y (bS ab) C.cells az
 obtain ⟨tf,aB,aC⟩:=E.tm
 obtain ⟨aD,ax,aA⟩:=E.sm
 refine kf func129 aa ntmps129 aa<|sq fun au am=>rg aa<|p (aT (.pointer<|some ⟨H.rb,0,none⟩) aa)<|p (aT (.slice ar r.length cr) aa)<|p (a8 cH aa aa ab<|aJ.ok (ac.2)<|bS ab)<|p (ld bT aa<|ca.get (i:=1) ac.2 ab)<|eP aa (dQ Ax (C3 H.rb ln (r.getD 1 []) w E.dj ab) aa fun aE O M=> ?_) fun c w' U aF C=>⟨ln,21,KM U.2.1,U.1,Wk.mw U.2.2⟩
 obtain ⟨rfl,ap,I⟩:=M
 have J:=C.wk I
 have M:=E.wk I
 have Z:=(Y.wk I).cI
 refine nl<|tn<|am _ _ ?_
 have a:(fun w'=>Md (fun k=>k=H.fb) O w') O.drew:=(Md.refl _ _).drew
 refine bI (fun w'=>Md (fun k=>k=H.fb) O w') aa wide a<|hp 0 aa aj (fun _ _=>aT (.pointer<|some ⟨H.rb,0,none⟩) aa) a<|hp 1 aa aj (fun _ _=>nc aa) a<|hp 2 aa aj (fun _ _=>fa ij aa) a<|hp 3 aa aj (fun w' G=>ld gn aa<|Md.aO G ((aX M.cells).trans aa)<|by first | exact ae | exact ag) a<|hp 4 aa aj (fun _ _=>aT (.slice ar r.length cr) aa) a<|hp 5 aa aj (fun _ _=>a8 cH aa aa ab<|aJ.ok (Z.2)<|bS ab) a<|hp 6 aa aj (fun w' G=>ld bT aa<|Md.aO G (ca.get (i:=1) Z.2 ab)<|by first | exact ae | exact ag) a<|hp 7 aa aj (fun _ _=>nc aa) a<|hp 8 aa aj (fun _ _=>fa gG aa) a<|hp 9 aa aj (fun _ _=>fa Tr aa) a<|he 10 aa aj<|cw kS aa aa (v:=str<|r.getD 1 []) aa J.cells (by show _ < 14; omega) fun aq q ai=> ?_
 have q:=iq q
 have an:(fun w'=>Md (fun k=>k=H.fb) O w') aq:=q
 refine ⟨an,?_⟩
 refine hn aj<|jL<|f0 aa ?_
 have ak:=J.put (F':= {F with rB:=r.getD 1 []}) q ai rfl rfl rfl rfl C.fR
 exact ⟨aa,_,rows,ln,KN ap,⟨V,R,ak,(M.fb J q).congr aa (fun _=>rfl),⟨A.len,A.sl,A.row,A.kd,A.al⟩⟩,(Wk.mw I).trans<|fC.fb J q⟩
theorem YR (B:Nat) (H:dm) (F:aR) (rows:List Rw) (ln:Nat) (seen:List Tx) (r:List Tx) (Y:Nat) (ar:Option Addr) (cr:Nat) (w:World) (aj:St w B H F rows ln seen) (M:Tg w Y 9 r.length (.slice ar r.length cr) (r.map str)) (au:r.length=2) (ak:∀ x∈r,x.length≤70000):
 fD ay 130 (bf [.pointer (some ⟨H.rb,0,none⟩),.slice ar r.length cr]) w (jq B H seen (mO F rows ln r) w) (jo B H (mO F rows ln r) w):=by
 obtain ⟨V,R,q,E,a⟩:=aj
 have O:=M.cI
 have ap:¬(H.rb=H.fb):=fun h=>by have h1:=E.cells; rw [h,q.cells] at h1; cases h1
 have av:(r.getD 1 []).length≤70000:=ak _<|dU ab
 have aq:¬(bk ar=H.fb):=Tg.vk M (bS ab) q.cells az
 obtain ⟨tf,aB,aC⟩:=E.tm
 obtain ⟨aD,aw,ax⟩:=E.sm
 refine kf func130 aa ntmps130 aa<|sq fun an ae=>rg aa<|p (aT (.slice ar r.length cr) aa)<|p (a8 cH aa aa ab<|aJ.ok (O.2)<|bS ab)<|p (ld bT aa<|ca.get (i:=1) O.2 ab)<|e<|cl Pk (Vm (r.getD 1 []) _ ab) aa fun v10 am ah=> ?_
 obtain ⟨rfl,A⟩:=ah
 have C:=q.wk A
 have J:=E.wk A
 refine p mv<|p (xt aa aa)<|p (xt aa aa)<|p aA<|p aA<|nl<|tn<|ae _ _<|sq fun ao ag=>rg aa<|p (aT (.pointer<|some ⟨H.rb,0,none⟩) aa)<|p mv<|eP aa (dQ oC (oN H.rb ln ((letE<|r.getD 1 []).2:Nat) am J.dj) aa fun aE aF ai=> ?_) fun c w' I aH q=>⟨ln,_,LB (by have :=I.2.1; omega),I.1,by rw [I.2.2]; exact Wk.mw A⟩
 obtain ⟨rfl,U,rfl⟩:=ai
 have U:(letE<|r.getD 1 []).2=0:=ab
 refine nl<|tn<|ag _ _<|rg aa<|p (aT (.pointer<|some ⟨H.rb,0,none⟩) aa)<|p (nc aa)<|p (fa ij aa)<|p (ld gn aa<|(aX J.cells).trans aa)<|p mv<|p (nc aa)<|p (fa gG aa)<|p (fa Ts aa)<|e<|cw kS aa aa (v:=str (letE<|r.getD 1 []).1) aa C.cells (by show _ < 14; omega) fun aG G Z=>nl<|jL<|f0 aa ?_
 have ac:=C.put (F':= {F with tr:=(letE<|r.getD 1 []).1}) G Z rfl rfl rfl rfl q.fR
 exact ⟨aa,_,rows,ln,LC U,⟨V,R,ac,(J.fb C G).congr aa (fun _=>rfl),⟨a.len,a.sl,a.row,a.kd,a.al⟩⟩,(Wk.mw A).trans<|fC.fb C G⟩
theorem Vi (B:Nat) (H:dm) (F:aR) (rows:List Rw) (ln:Nat) (seen:List Tx) (r:List Tx) (am:Nat) (ar:Option Addr) (cr:Nat) (w:World) (M:St w B H F rows ln seen) (Z:Tg w am 9 r.length (.slice ar r.length cr) (r.map str)) (aD:r.length=2) (aw:∀ x∈r,x.length≤70000):
 fD ay 132 (bf [.pointer (some ⟨H.rb,0,none⟩),.slice ar r.length cr]) w (jq B H seen (kX F rows ln r) w) (jo B H (kX F rows ln r) w):=by
 obtain ⟨V,R,A,C,E⟩:=M
 have ac:=Z.cI
 have ae:¬(H.rb=H.fb):=fun h=>by have h1:=C.cells; rw [h,A.cells] at h1; cases h1
 have aE:(r.getD 1 []).length≤70000:=aw _<|dU ab
 have ag:¬(bk ar=H.fb):=Tg.vk Z (bS ab) A.cells az
 obtain ⟨tf,aH,aI⟩:=C.tm
 obtain ⟨aK,aF,aG⟩:=C.sm
 refine kf func132 aa ntmps132 aa<|sq fun aB ao=> ?_
 have a:(fun w'=>Md (fun k=>k=H.fb) w w') w.drew:=(Md.refl _ _).drew
 refine bI (fun w'=>Md (fun k=>k=H.fb) w w') aa wide a<|hp 0 aa aj (fun _ _=>aT (.pointer<|some ⟨H.rb,0,none⟩) aa) a<|hp 1 aa aj (fun _ _=>nc aa) a<|hp 2 aa aj (fun _ _=>fa ij aa) a<|hp 3 aa aj (fun w' M=>ld gn aa<|Md.aO M ((aX C.cells).trans aa)<|by first | exact ae | exact ag) a<|hp 4 aa aj (fun _ _=>aT (.pointer<|some ⟨H.rb,0,none⟩) aa) a<|hp 5 aa aj (fun _ _=>aT (.slice ar r.length cr) aa) a<|hp 6 aa aj (fun _ _=>a8 cH aa aa ab<|aJ.ok (ac.2)<|bS ab) a<|hp 7 aa aj (fun w' M=>ld bT aa<|Md.aO M (ca.get (i:=1) ac.2 ab)<|by first | exact ae | exact ag) a<|tj 8 aa aj aa (dQ xp (yI H.rb ln (r.getD 1 []) 64 w.drew C.dj ab ab) aa fun v12 ax ap=> ?_) fun c w' J aA A=>by obtain ⟨e,he,h,h2⟩:=J; exact ⟨ln,e,JB he,h,Wk.mw<|iq h2⟩
 obtain ⟨n,ah,rfl,q⟩:=ap
 have q:=iq q
 have G:=A.wk q
 have au:=C.wk q
 have O:(fun w'=>Md (fun k=>k=H.fb) w w') ax:=Md.mono q fun _ _ h=>h.elim
 refine ⟨O,?_⟩
 refine hp 9 aa aj (fun _ _=>nc aa) O<|hp 10 aa aj (fun _ _=>fa gG aa) O<|hp 11 aa aj (fun _ _=>fa BV aa) O<|he 12 aa aj<|cw eZ aa aa (v:= .int .i64 (n:Nat)) aa G.cells (by show _ < 14; omega) fun ak I Y=> ?_
 have U:=au.fb G I
 have av:(fun w'=>Md (fun k=>k=H.fb) w w') ak:=O.trans' I fun _ _ h=>h
 refine ⟨av,?_⟩
 refine hn aj<|tn<|ao _ _<|rg aa<|p (aT (.pointer<|some ⟨H.rb,0,none⟩) aa)<|p (aT (.pointer<|some ⟨H.rb,0,none⟩) aa)<|p (nc aa)<|p (fa ij aa)<|p (ld gn aa<|(aX U.cells).trans aa)<|p (nc aa)<|p (fa gG aa)<|p (fa BV aa)<|p (ld bu aa<|(aX Y).trans aa)<|p (gt aa aa)<|eP aa (dQ iy (iJ H.rb ln _ 13 ak U.dj az) aa fun aL aM aq=> ?_) fun c w' J aA A=>by have aC:=of_decide_eq_false J.2.1; exact ⟨ln,13,JC ah ab,J.1,by rw [J.2.2]; exact (Wk.mw q).trans<|fC.fb G I⟩
 obtain ⟨rfl,ai,rfl⟩:=aq
 have ai:=of_decide_eq_true ai
 refine nl<|jL<|f0 aa ?_
 have an:=G.put (F':= {F with least:=n}) I Y rfl rfl rfl rfl A.fR
 exact ⟨aa,_,rows,ln,JD ah ab,⟨V,R,an,U.congr aa (fun _=>rfl),⟨E.len,E.sl,E.row,E.kd,E.al⟩⟩,(Wk.mw q).trans<|fC.fb G I⟩
theorem Ve (B:Nat) (H:dm) (F:aR) (rows:List Rw) (ln:Nat) (seen:List Tx) (r:List Tx) (aP:Nat) (ar:Option Addr) (cr:Nat) (w:World) (J:St w B H F rows ln seen) (ah:Tg w aP 9 r.length (.slice ar r.length cr) (r.map str)) (bF:r.length=2) (bb:∀ x∈r,x.length≤70000):
 fD ay 128 (bf [.pointer (some ⟨H.rb,0,none⟩),.slice ar r.length cr]) w (jq B H seen (kH F seen rows ln r) w) (jo B H (kH F seen rows ln r) w):=by
 obtain ⟨V,R,E,Y,M⟩:=J
 have bz:=ah.cI
 have aD:¬(H.rb=H.fb):=fun h=>by have h1:=Y.cells; rw [h,E.cells] at h1; cases h1
 have bG:(r.getD 1 []).length≤70000:=bb _<|dU ab
 have aE:¬(bk ar=H.fb):=Tg.vk ah (bS ab) E.cells az
 obtain ⟨tf,bH,bL⟩:=Y.tm
 obtain ⟨bM,bl,bm⟩:=Y.sm
 refine kf func128 aa ntmps128 aa<|sq fun br aY=>sq fun bs aZ=>rg aa<|e<|sL (L:=lB.map str) fQ aa aa aa aa fun an ak bB a3 aU=> ?_
 have ax:ca ak.heap (some ⟨an,0,none⟩) lB:=aJ.dX ⟨_,aU⟩
 have C:Wk w ak:=a3.md
 have aq:=E.wk C
 have Z:=Y.wk C
 have aB:=(ah.wk C).cI
 have bo:=bl.wk C
 have bD:lB.length=8:=rfl
 refine p (bK eV aa aa)<|p mv<|nl<|tn<|aZ _ _<|aH<|lp (fun ao I q=> ∃ (i:Nat),(i≤8)∧(∀ j,j < i→lB.getD j []∉seen)∧(q=ak)∧(I 0= .pointer (some ⟨H.rb,0,none⟩))∧(I 1= .slice ar r.length cr)∧(I 6= .slice (some ⟨an,0,none⟩) 8 8)∧(I 7= .int .i64 (8:Nat))∧(I 8= .int .i64 (i:Nat))∧(8 - i=ao)) _ ⟨0,ab,(fun j aC=>by omega),aa,aa,aa,aa,aa,aa,aa⟩ ?_
 rintro ao I q ⟨i,hi,aF,aV,bc,bd,bg,bh,bi,rfl⟩
 refine fx 0 bc<|fx 1 bd<|fx 6 bg<|fx 7 bh<|fx 8 bi ?_
 subst aV
 refine sq fun bt a0=>rg aa<|p (lt aa aa)<|nl<|tn<|a0 _ _<|sq fun bv a1=>cd aa (fun ba=> ?_) fun ba=> ?_
 refine aM<|tn<|a1 _ _<|sq fun aQ ae=>aH<|sq fun bw a2=>rg aa<|p (a8 cH aa aa ab<|aJ.ok (ax)<|bS ab)<|p (ld bT aa<|ca.get (i:=i) ax ab)<|p aA<|nl<|tn<|a2 _ _<|rg aa<|p (aT (.pointer<|some ⟨H.rb,0,none⟩) aa)<|p (aT (.pointer<|some ⟨H.rb,0,none⟩) aa)<|p (nc aa)<|p (fa s8 aa)<|p (ld sB aa<|(aX Z.cells).trans aa)<|p mv<|p (oL qR oW iZ (bo) aa aa (⟨_,aa⟩)<|bm _)<|p (bJ aa aa)<|eP aa (dQ iy (iJ H.rb ln _ 113 q Z.dj az) aa fun v20 bO a4=> ?_) fun c w' A bq E=>⟨ln,113,u7 (k:=lB.getD i []) (dU ab) (by have h:=of_decide_eq_false A.2.1; exact jk.1 fun h2=>h<|by have :=q6.2 h2; omega),A.1,by rw [A.2.2]; exact Wk.mw C⟩
 obtain ⟨rfl,ai,rfl⟩:=a4
 have ai:lB.getD i []∉seen:=q6.1<|by have :=of_decide_eq_true ai; omega
 exact nl<|bn<|tn<|ae _ _<|rg aa<|p (ad aa aa<|bX ab)<|p mv<|nl<|tn<|⟨_,ab,i+1,ab,(fun j aC=>by rcases fi j i with h | h <;> first | exact aF j h | (rw [show j=i by omega]; exact ai)),aa,aa,aa,aa,aa,aa,aa⟩
 refine ext<|te _<|te _<|be<|tn<|aY _ _<|sq fun aQ ae=> ?_
 have aG:ordered seen=true :=(CV seen).2 fun k hk=>by obtain ⟨j,aC,rfl⟩:=nU [] hk; exact aF j ab
 have a:(fun w'=>Md (fun k=>k=H.fb) q w') q.drew:=(Md.refl _ _).drew
 refine bI (fun w'=>Md (fun k=>k=H.fb) q w') aa wide a<|hp 0 aa aj (fun _ _=>aT (.pointer<|some ⟨H.rb,0,none⟩) aa) a<|hp 1 aa aj (fun _ _=>nc aa) a<|hp 2 aa aj (fun _ _=>fa ij aa) a<|hp 3 aa aj (fun w' J=>ld gn aa<|Md.aO J ((aX Z.cells).trans aa)<|by first | exact aD | exact aE) a<|hp 5 aa aj (fun _ _=>aT (.slice ar r.length cr) aa) a<|hp 6 aa aj (fun _ _=>a8 cH aa aa ab<|aJ.ok (aB.2)<|bS ab) a<|hp 7 aa aj (fun w' J=>ld bT aa<|Md.aO J (ca.get (i:=1) aB.2 ab)<|by first | exact aD | exact aE) a<|he 4 aa aj<|sL (L:=kinds.map str) fQ aa aa aa aa fun am aL bA av aS=> ?_
 have a7:ca aL.heap (some ⟨am,0,none⟩) kinds:=aJ.dX ⟨_,aS⟩
 have O:=iq av.md
 have aw:(fun w'=>Md (fun k=>k=H.fb) q w') aL:=a.trans' av.md fun _ _ h=>h.elim
 refine ⟨aw,?_⟩
 refine he 8 aa aj<|cl FO (IZ kinds (some ⟨am,0,none⟩) 3 (r.getD 1 []) _ a7 az) aa fun v30 bp a5=> ?_
 obtain ⟨aI,rfl⟩:=a5
 rw [Vc] at aI
 subst aI
 have bC:=Vd<|r.getD 1 []
 have G:(fun w'=>Md (fun k=>k=H.fb) q w') bp:=aw
 refine ⟨G,?_⟩
 refine hp 9 aa aj (fun _ _=>bE ((jw (r.getD 1 []):Nat):Int) aa aa<|bj ab ab) G<|hp 10 aa aj (fun _ _=>nc aa) G<|hp 11 aa aj (fun _ _=>fa gG aa) G<|hp 12 aa aj (fun _ _=>fa tg aa) G<|he 13 aa aj<|cw eZ aa aa (v:= .int .i64 (jw (r.getD 1 []):Nat)) aa ((aq.wk O).cells) (by show _ < 14; omega) fun aN U ap=> ?_
 have ac:=aq.wk O
 have ag:=(Z.wk O).fb ac U
 have au:=((Wk.mw C).trans<|Wk.mw O).trans<|fC.fb ac U
 have a9:(fun w'=>Md (fun k=>k=H.fb) q w') aN:=G.trans' U fun _ _ h=>h
 refine ⟨a9,?_⟩
 refine hn aj<|tn<|ae _ _<|rg aa<|p (aT (.pointer<|some ⟨H.rb,0,none⟩) aa)<|p (aT (.pointer<|some ⟨H.rb,0,none⟩) aa)<|p (nc aa)<|p (fa ij aa)<|p (ld gn aa<|(aX ag.cells).trans aa)<|p (nc aa)<|p (fa gG aa)<|p (fa tg aa)<|p (ld bu aa<|(aX ap).trans aa)<|p (gt aa aa)<|eP aa (dQ iy (iJ H.rb ln _ 114 aN ag.dj az) aa fun bN bP a6=> ?_) fun c w' A bq E=>by have bx:=of_decide_eq_false A.2.1; exact ⟨ln,114,Ja aG ab,A.1,by rw [A.2.2]; exact au⟩
 obtain ⟨rfl,aK,rfl⟩:=a6
 have aK:=of_decide_eq_true aK
 refine nl<|jL<|f0 aa ?_
 have aW:=ac.put (F':= {F with kind:=jw<|r.getD 1 []}) U ap rfl rfl rfl rfl E.fR
 exact ⟨aa,_,rows,ln,yt aG ab,⟨V,R,aW,ag.congr aa (fun _=>rfl),⟨M.len,M.sl,M.row,(by show jw (r.getD 1 [])=1∨jw (r.getD 1 [])=2∨jw (r.getD 1 [])=3; omega),M.al⟩⟩,au⟩
end Go.Hb
end
namespace Go.Hb.ow
theorem Gx {h:Array Obj} {b:Nat} {f:UInt8→Bool} (a:bO h b (eK f)) (c:UInt8):Hb.aO h b (0 +((c.toNat / 64:Nat):Int).toNat*1)=some (.int .u64<|e5 f<|c.toNat / 64):=by
 have i:=iT c
 rw [a.aO,show 0 +((c.toNat / 64:Nat):Int).toNat*1=c.toNat / 64 from by omega]; exact A2 f ab
theorem Rf {h:Array Obj} {b:Nat} {f:UInt8→Bool} {c:UInt8} (a:bO h b ((eK f).set (0 +((c.toNat / 64:Nat):Int).toNat*1)<|.int .u64 ((e5 f (c.toNat / 64) ||| 2 ^ (c.toNat % 64):Nat):Int))):bO h b (eK (fun x=>f x || decide (x=c))):=by
 rw [show 0 +((c.toNat / 64:Nat):Int).toNat*1=c.toNat / 64 from by omega,Q9] at a; exact a
theorem Rb {f g:UInt8→Bool} (h:∀ b,f b=g b):eK f=eK g:=by rw [show f=g from funext h]
theorem UD {l:List UInt8} {i:Nat} (h:i < l.length) (x:UInt8):(decide (x∈l.take i) || decide (x=l.getD i 0))=decide (x∈l.take (i+1)):=by
 rw [fK l i 0 h,← Bool.decide_or]
 exact decide_eq_decide.2<|by rw [jD,j5]
theorem CX {w:World} {B e n cp i:Nat} {a:Option Addr} {l:List UInt8} (h:w.ownsRow B e 1 (.slice a n cp) n (U8 l)) (hi:i≤n) (hn:0 < n):w.ownsRow B e 1 (.slice a i cp) i (U8<|l.take i):=by
 have q:a≠none:=by
  rintro rfl
  rcases h.2 with ⟨_,h5⟩ | ⟨g,cap,cur,h4,_⟩
  · omega
  · simp at h4
 have :=Ka h hi q
 rw [o7] at this
 unfold U8 at*
 rwa [Ew]
theorem Wu {w:World} {B e n cp:Nat} {a:Option Addr} {xs:List Value} (h:w.ownsRow B e 1 (.slice a n cp) n xs) (hn:0 < n):∃ i,a=some ⟨i,0,none⟩:=by
 rcases h.2 with ⟨_,h5⟩ | ⟨g,cap,cur,h4,_⟩
 · omega
 · simp only [mQ] at h4; exact ⟨g,h4.1⟩
theorem YU {w:World} {B e n cp j:Nat} {a:Option Addr} {l:List UInt8} (h:w.ownsRow B e 1 (.slice a n cp) n (U8 l)):aJ w.heap (gq a cp j 1) (U8<|l.drop j):=by
 have h2:=(a7 h).2.drop (cap:=cp) (k:=j) (size:=1)<|by have h1:=h.1; have h3:=(a7 h).1; omega
 rw [o7] at h2
 unfold U8 at*
 rwa [List.map_drop]
theorem DI {w:World} {B e n:Nat} {v:Value} {l:List UInt8} (h:w.ownsRow B e 1 v n (U8 l)):l.length=n:=by have :=h.1; rw [wY] at this; omega
theorem Kl (b:Nat) (c:UInt8) (f:UInt8→Bool) (w:World) (i:bO w.heap b (eK f)):
 bm ay 209 (bf [aQ b,.int .u8 c.toNat]) w (fun v w'=>v= .tuple #[]∧bO w'.heap b (eK (fun x=>f x || decide (x=c)))∧Md (fun q=>q=b) w w'):=by
 have I:=iT c
 refine enter func209 aa ntmps209 aa ?_
 have a:(fun w'=>Wk w w') w.drew:=(Md.refl _ _).drew
 refine eS (fun w'=>Wk w w') 12 aa wide a<|bC 0 aa (aQ b) a<|bC 1 aa (.int .u8 c.toNat) a<|bz 2 aa (fun _=>shr aa aa az<|KP c) (fun _=>a)<|bz 3 aa (fun _=>nc aa) (fun _=>a)<|bz 4 aa (fun _=>kh rr aa aa ab) (fun _=>a)<|dI 5 aa (fun w' G=>ld sy aa<|Wk.aO G<|Gx i c) a<|bC 6 aa (.int .u8 c.toNat) a<|bz 7 aa (fun _=>fF aa aa<|Fa c) (fun _=>a)<|bz 8 aa (fun _=>shl aa aa ab<|XK ab) (fun _=>a)<|bz 9 aa (fun _=>Fk aa aa<|Wn (tL _ _)<|Nat.pow_lt_pow_right az ab) (fun _=>a)<|bz 10 aa (fun _=>nc aa) (fun _=>a)<|bz 11 aa (fun _=>kh rr aa aa ab) (fun _=>a)<|dH 12 aa aj aj<|st RM aa aa (aa) (a.B i) (by rw [xw]; omega) fun J E C=> ?_
 have A:=Rf C
 refine eR aj<|f0 aa ?_
 exact ⟨aa,A,Md.trans (Md.refl _ _).drew E⟩
theorem IH (f:UInt8→Bool) (c:UInt8) (w:World):
 bm ay 251 (bf [.agg (eK<|f).toArray,.int .u8 c.toNat]) w (fun v w'=>v= .bool (f c)∧Wk w w'):=by
 have G:=iT c
 exact enter func251 aa ntmps251 aa<|ag fun a=>e<|jt aa fun C I E A q=>aw<|a<|ag fun i=>ak (.int .u8 c.toNat)<|p (shr aa aa az<|KP c)<|p (kh rr aa aa ab)<|p (ld sy aa<|Gx q c)<|ak (.int .u8 c.toNat)<|p (fF aa aa<|Fa c)<|p (shr aa aa ab<|XT _ ab)<|p (fF aa aa<|Of<|Nat.lt_of_le_of_lt (Nat.div_le_self _ _)<|tL _ _)<|p (bJ aa aa)<|aw<|i<|rt<|aV aa<|⟨congrArg bQ (Zj f c),A.md⟩
theorem CW (f:UInt8→Bool) (w:World):
 bm ay 208 (bf [.agg (eK<|f).toArray]) w (fun v w'=>v= .agg (eK fun x=> !f x).toArray∧Wk w w'):=by
 exact enter func208 aa ntmps208 aa<|ag fun A=>e<|jt aa fun J Y O q i=>e<|al r6 fun M Z U a E=>nl<|A<|ag fun C=>p (kh rr aa aa ab)<|p (ld sy aa<|(a.md.B i).aO 0)<|p (xx aa)<|p (kh rr aa aa ab)<|p (ld sy aa<|(a.md.B i).aO 1)<|p (xx aa)<|p (kh rr aa aa ab)<|p (ld sy aa<|(a.md.B i).aO 2)<|p (xx aa)<|p (kh rr aa aa ab)<|p (ld sy aa<|(a.md.B i).aO 3)<|p (xx aa)<|p (Fj (ps:= [(0,.int .u64 (e5 (fun x=> !f x) 0:Nat)),(1,.int .u64 (e5 (fun x=> !f x) 1:Nat)),(2,.int .u64 (e5 (fun x=> !f x) 2:Nat)),(3,.int .u64 (e5 (fun x=> !f x) 3:Nat))]) (L:= [.int .u64 (e5 (fun x=> !f x) 0:Nat),.int .u64 (e5 (fun x=> !f x) 1:Nat),.int .u64 (e5 (fun x=> !f x) 2:Nat),.int .u64 (e5 (fun x=> !f x) 3:Nat)]) Ff aa<|aa)<|e<|cW pD aa (vs:=eK fun x=> !f x) aa aa aa E az fun ac I G=>nl<|C<|rt<|uK aa (dN aa kP aa fun j V=>by rw [gV]; exact G.aO j)<|⟨aa,Md.trans' (Md.trans q.md a.md) I fun k hk h=>by have :=q.md.size; omega⟩
theorem II (f:UInt8→Bool) (c:UInt8) (ci:Int) (w:World) (a:(c.toNat:Int)=ci):bm ay 251 (bf [.agg (eK<|f).toArray,.int .u8 ci]) w (fun v w'=>v= .bool (f c)∧Wk w w'):=by
 subst a; exact IH f c w
theorem Ft (f:UInt8→Bool) (w:World):
 bm ay 280 (bf [.agg (eK<|f).toArray]) w (fun v w'=>bq w' w.heap.size 5 1 (v) (bytesOf f).length (U8<|bytesOf f)∧Wk w w'):=by
 refine enter func280 aa ntmps280 aa<|ag fun Z=>e<|jt aa fun an U aP M ao=>aw<|Z<|ag fun ac=>aw<|ac<|aB fun ae=>ag fun ah=>p mv<|nl<|ah<|aH<|lp (fun V J I=> ∃ (i:Nat) (a:Value),(i≤256)∧(bq I U.heap.size 5 1 (a) (lY f i).length<|U8<|lY f i)∧(Wk U I)∧(J 1=aQ an)∧(J 3=a)∧(J 5=au i)∧(256 - i=V)) _ ⟨0,.slice none 0 0,ab,(dz _ _ _ _),(Md.refl _ _),aa,aa,aa,aa⟩ ?_
 rintro V J I ⟨i,a,hi,G,A,aE,aF,aG,rfl⟩
 refine fx 1 aE<|fx 3 aF<|fx 5 aG ?_
 have aN:Wk w I:=Md.trans M.md A
 have aS:=ql f i
 have aX:=A.size
 refine ag fun ai=>p (lt aa aa)<|nl<|ai<|aB fun aj=>cd aa (fun az=> ?_) fun az=> ?_
 refine aM<|aj<|aB fun C=>aH<|ag fun al=>ak (au i)<|p (cJ (au i) aa)<|nl<|al<|ag fun am=>p (da kP aa (aa) fun j aU=>by rw [gV]; exact (A.B ao).aO j)<|ak (au i)<|p (lN u5 qT aa<|tO ab)<|e<|cl AG (II f (UInt8.ofNat i) _ _<|zb i ab) aa fun v11 aZ ax=> ?_
 obtain ⟨rfl,q⟩:=ax
 refine nl<|am<|cb aa (fun O=> ?_) fun O=> ?_
 refine rg aa<|ak (a)<|ak (au i)<|p (lN u5 qT aa<|tO ab)<|e<|fZ im aa aa fun aL a0 aR E aq=>e<|ap im (aW (aW G q) E.md) aa (by have :=q.size; have :=E.md.size; omega) aa (aJ.dX aq) (aa) (aa) ab ab fun aI aK Y av aY aT=> ?_
 rw [← zb i ab] at Y
 have aD:=qL Y
 have ar:Wk U aK:=Wk.own (Md.trans (Md.trans A q) E.md) (aW (aW G q) E.md) av<|cA _
 exact p aA<|nl<|bn<|C<|rg aa<|p (ad aa aa<|bX ab)<|p mv<|nl<|tn<|⟨_,ab,i+1,aI,ab,(by rw [sM,if_pos O]; exact aD),ar,aa,aa,aa,aa⟩
 exact aM<|bn<|C<|rg aa<|p (ad aa aa<|bX ab)<|p mv<|nl<|tn<|⟨_,ab,i+1,a,ab,(by rw [sM,if_neg (by rw [O]; exact ee),eh]; exact aW G q),(Md.trans A q),aa,aa,aa,aa⟩
 refine ext<|ba<|ba<|be<|ae<|ag fun C=>ak (a)<|p (cJ (a) aa)<|nl<|C<|rt<|aV aa ?_
 have aC:i=256:=ab
 subst aC
 exact ⟨ez G M.md.size,Md.trans M.md A⟩
theorem Rl (s:List UInt8) (w:World) (hs:s.length≤1048576):
 bm ay 250 (bf [str s]) w (fun v w'=>v= .agg (eK fun x=>decide (x∈s)).toArray∧Wk w w'):=by
 refine enter func250 aa ntmps250 aa<|ag fun Z=>e<|al r6 fun E aS aL V I=>nl<|Z<|ag fun ac=>e<|al r6 fun q aK aP Y ao=> ?_
 have ap:bO aK.heap q (eK fun x=>decide (x∈s.take 0)):=by rw [show (fun x=>decide (x∈s.take 0))=(fun _:UInt8=>false) from funext fun x=>by simp,A3]; exact ao
 refine nl<|ac<|aB fun ae=>ag fun ah=>ak (str s)<|p (cz u9 aa aa)<|p mv<|nl<|ah<|aH ?_
 have aN:=I.lt
 refine lp (fun G a A=> ∃ (i:Nat),(i≤s.length)∧(bO A.heap q<|eK fun x=>decide (x∈s.take i))∧(bO A.heap E [.int .u64 0,.int .u64 0,.int .u64 0,.int .u64 0])∧(Wk w A)∧(a 0=str s)∧(a 2=aQ E)∧(a 3=aQ q)∧(a 6=au (s.length))∧(a 7=au i)∧(s.length - i=G)) _ ⟨0,ab,ap,(Y.md.B I),(Md.trans V.md Y.md),aa,aa,aa,aa,aa,aa⟩ ?_
 rintro G a A ⟨i,hi,J,M,O,aC,aD,aE,aF,aG,rfl⟩
 refine fx 0 aC<|fx 2 aD<|fx 3 aE<|fx 6 aF<|fx 7 aG<|ag fun ai=>p (lt aa aa)<|nl<|ai<|aB fun aj=>cd aa (fun ax=> ?_) fun ax=> ?_
 refine aM<|aj<|aB fun C=>aH<|ag fun am=>ak (au i)<|p (cJ (au i) aa)<|nl<|am<|rg aa<|ak (str s)<|ak (au i)<|p (eQ u9 aa aa ab)<|e<|cl FW (Kl q (s.getD i 0) _ _ J) aa fun aR aJ aw=> ?_
 obtain ⟨rfl,an,U⟩:=aw
 have ar:Wk w aJ:=Md.trans' O U fun k hk h=>by have :=V.md.size; omega
 exact nl<|bn<|C<|rg aa<|p (ad aa aa<|bX ab)<|p mv<|nl<|tn<|⟨_,ab,i+1,ab,(by rw [Rb (fun x=>(UD (show i < s.length by omega) x).symm)]; exact an),(U.B M fun h=>by omega),ar,aa,aa,aa,aa,aa,aa⟩
 refine ext<|ba<|ba<|be<|ae<|ag fun C=>p (da kP aa (aa) fun j aA=>by rw [gV]; exact (J).aO j)<|e<|cW pD aa (vs:=eK fun x=>decide (x∈s.take i)) aa aa aa M az fun aT av aq=>nl<|C<|rt<|uK aa (dN aa kP aa fun j aA=>by rw [gV]; exact aq.aO j) ?_
 have aI:s.take i=s:=eM ab
 rw [aI]
 exact ⟨aa,Md.trans' O av fun k hk h=>by omega⟩
theorem UF (s:List UInt8) (c:UInt8) (w:World):
 bm ay 248 (bf [str s,.int .u8 c.toNat]) w (fun v w'=>v= .int .i64 (e9 c s)∧Wk w w'):=by
 exact enter func248 aa ntmps248 aa<|ag fun a=>aw<|a<|ag fun i=>ak (str s)<|ak (.int .u8 c.toNat)<|e<|cl F8 (IY s c _) aa fun A C q=>aw<|i<|rt<|aV aa<|q
theorem RE (s pr:List UInt8) (w:World) (hs:s.length≤1099511627776) (J:pr.length≤1099511627776):
 bm ay 270 (bf [str s,str pr]) w (fun v w'=>v= .tuple #[str (gy s pr),.bool (decide (s.take pr.length=pr))]∧Wk w w'):=by
 refine enter func270 aa ntmps270 aa<|ag fun C=>p aA<|aw<|C<|aB fun E=>aB fun G=>rg aa<|ak (str s)<|ak (str pr)<|e<|cl AE (Cj s pr _ hs J) aa fun O U I=> ?_
 obtain ⟨rfl,A⟩:=I
 refine p (no aa)<|nl<|G<|cb aa (fun q=> ?_) fun q=> ?_
 have a:¬s.take pr.length=pr:=by simpa using q
 exact ag fun i=>ak (str s)<|p (cJ (str s) aa)<|aw<|i<|rt<|tr<|f2 aa aa aa<|⟨by unfold gy; rw [if_neg a,decide_eq_false a]; rfl,A⟩
 have a:s.take pr.length=pr:=by simpa using q
 have M:=C6 a
 exact aM<|E<|ag fun i=>ak (str s)<|ak (str pr)<|p (cz u9 aa aa)<|p (mg u9 aa aa ab)<|p aA<|aw<|i<|rt<|f2 aa aa aa<|⟨by unfold gy; rw [if_pos a,decide_eq_true a]; rfl,A⟩
theorem RF (s pr:List UInt8) (w:World) (hs:s.length≤1099511627776) (C:pr.length≤1099511627776):
 bm ay 249 (bf [str s,str pr]) w (fun v w'=>v= .tuple #[str (gy s pr),.bool (decide (s.take pr.length=pr))]∧Wk w w'):=by
 refine enter func249 aa ntmps249 aa<|ag fun a=>p aA<|aw<|a<|ag fun i=>ak (str s)<|ak (str pr)<|e<|cl PN (RE s pr _ hs C) aa fun E G A=> ?_
 obtain ⟨rfl,q⟩:=A
 exact p (xt aa aa)<|p (xt aa aa)<|p aA<|aw<|i<|rt<|f2 aa aa aa<|⟨aa,q⟩
theorem YL (s pr:List UInt8):(gy s pr).length≤s.length:=by unfold gy; split <;> simp
def jg (s:List UInt8) (k:Nat):List UInt8:=(s.drop k).take<|(s.drop k).idxOf 93
theorem Oz (s:List UInt8) (k:Nat):(jg s k).length≤s.length:=by unfold jg; rw [dR,fT]; omega
theorem Oy (s:List UInt8) (k:Nat):(s.take<|k+(s.drop k).idxOf 93).drop k=jg s k:=by
 rw [si,Nat.add_sub_cancel_left]; rfl
def qk (s:List UInt8) (k:Nat):UInt8→Bool:=fun x=>if (jg s k).take 1= [94] then !decide (x∈gy (jg s k) [94]) else decide (x∈gy (jg s k) [94])
theorem OC {s:List UInt8} {k:Nat} (h:(jg s k).take [(94:UInt8)].length= [94]):qk s k=fun x=> !decide (x∈gy (jg s k) [94]):=by
 funext x; exact if_pos h
theorem OD {s:List UInt8} {k:Nat} (h:¬(jg s k).take [(94:UInt8)].length= [94]):qk s k=fun x=>decide (x∈gy (jg s k) [94]):=by
 funext x; exact if_neg h
theorem OA (s:List UInt8) (k:Nat) (w:World) (hs:s.length≤1048576) (hk:k≤s.length):
 bm ay 207 (bf [str s,au k]) w (fun v w'=>(∃ f,v= .tuple #[.agg (eK f).toArray,.int .i64 (if e9 93 (s.drop k) < 0 then 0 else ((k+(s.drop k).idxOf 93 +1:Nat):Int)),.bool (!decide (e9 93 (s.drop k) < 0) && decide (gy (jg s k) [94]≠[]))]∧(¬e9 93 (s.drop k) < 0→f=qk s k))∧Wk w w'):=by
 refine enter func207 aa ntmps207 aa<|ag fun aq=>e<|al r6 fun ac bq a7 G E=>p aA<|aw<|aq<|aB fun ar=>rg aa<|ak (str s)<|ak (au k)<|p (mg u9 aa aa ab)<|e<|cl PG (UF (s.drop k) 93 _) aa fun bd bk aT=> ?_
 obtain ⟨rfl,a⟩:=aT
 have ba:(s.drop k).length=s.length - k:=fT
 refine aw<|ar<|aB fun av=>ag fun ax=>p mv<|p (lt aa aa)<|nl<|ax<|cd aa (fun i=> ?_) fun i=> ?_
 refine ag fun J=>p (Fj (ps:= []) (L:= [.int .u64 0,.int .u64 0,.int .u64 0,.int .u64 0]) Ff aa<|aa)<|e<|cW pD aa (vs:=eK fun _=>false) (by rw [A3]; rfl) aa aa (a.B E) az fun bo aR aE=>p aA<|aw<|J<|rt<|tr<|Hs aa (dN aa kP aa fun j Y=>by rw [gV]; exact aE.aO j) eb eb ?_
 refine ⟨⟨fun _=>false,by rw [if_pos i,decide_eq_true i]; rfl,fun h=>absurd i h⟩,Md.trans' (Md.trans G.md a) aR fun k hk h=>by omega⟩
 have bb:=rI (c:=93) (l:=s.drop k) i
 have a9:(jg s k).length≤s.length:=Oz s k
 refine aM<|av<|aB fun J=> ?_
 have ap:=Oy s k
 refine rg aa<|ak (str s)<|ak (au k)<|ak (au k)<|p mv<|p (bE ((k+(s.drop k).idxOf 93:Nat):Int) aa aa<|bj ab ab)<|p (me u9 aa aa aa ab)<|e<|cl PH (RF ((s.take<|k+(s.drop k).idxOf 93).drop k) [94] _ (by rw [ap]; omega) az) aa fun bg bl ao=> ?_
 rw [ap] at ao
 obtain ⟨rfl,A⟩:=ao
 have bc:=YL (jg s k) [94]
 refine p mv<|p (xt aa aa)<|p (xt aa aa)<|p aA<|aw<|J<|aB fun aC=>rg aa<|p mv<|e<|cl PI (Rl (gy (jg s k) [94]) _ ab) aa fun bh bn aU=> ?_
 obtain ⟨rfl,C⟩:=aU
 refine e<|al r6 fun Z a2 a6 an aD=> ?_
 have aK:Wk w a2:=Md.trans G.md<|Md.trans a<|Md.trans A<|Md.trans C an.md
 have ae:=an.md.B<|C.B<|A.B<|a.B E
 have a8:=ae.lt
 refine e<|cW pD aa (vs:=eK fun x=>decide (x∈gy (jg s k) [94])) aa aa aa aD az fun a3 aj O=> ?_
 have ai:Wk w a3:=Md.trans' aK aj fun k hk h=>by have :=G.md.size; have :=a.size; have :=A.size; have :=C.size; omega
 have ah:=aj.B ae fun h=>by have :=E.lt; have :=a.size; have :=A.size; have :=C.size; omega
 refine nl<|aC ?_
 refine ed (fun q I=>(bO I.heap Z<|eK<|qk s k)∧(bO I.heap ac [.int .u64 0,.int .u64 0,.int .u64 0,.int .u64 0])∧(Wk w I)∧(q 0=str s)∧(q 1=au k)∧(q 4=aQ ac)∧(q 7= .int .i64 (e9 93<|s.drop k))∧(q 8=str (gy (jg s k) [94]))∧(q 10=aQ Z)) ?_ ?_
 refine ag fun M=>p mv<|nl<|M<|cb aa (fun V=> ?_) fun V=> ?_
 refine rg aa<|p (da kP aa (aa) fun j Y=>by rw [gV]; exact (O).aO j)<|e<|cl AB (CW (fun x=>decide (x∈gy (jg s k) [94])) _) aa fun bi bp aV=> ?_
 obtain ⟨rfl,U⟩:=aV
 refine e<|cW pD aa (vs:=eK fun x=> !decide (x∈gy (jg s k) [94])) aa aa aa (U.B O) (cA 4) fun a4 am aG=> ?_
 have aL:Wk w a4:=Md.trans' (Md.trans ai U) am fun k hk h=>by have :=G.md.size; have :=a.size; have :=A.size; have :=C.size; omega
 have aF:=am.B (U.B ah) fun h=>by have :=E.lt; have :=a.size; have :=A.size; have :=C.size; omega
 exact nl<|tn<|⟨(by rw [OC (by simpa using V)]; exact aG),aF,aL,aa,aa,aa,aa,aa,aa⟩
 exact aM<|tn<|⟨(by rw [OD (by simpa using V)]; exact O),ah,ai,aa,aa,aa,aa,aa,aa⟩
 rintro q I ⟨aI,aJ,aP,aW,aX,aZ,a0,a1,aY⟩
 refine fx 0 aW<|fx 1 aX<|fx 4 aZ<|fx 7 a0<|fx 8 a1<|fx 10 aY<|ag fun M=>p (da kP aa (aa) fun j Y=>by rw [gV]; exact (aI).aO j)<|ak (au k)<|ak (.int .i64<|e9 93<|s.drop k)<|p (bE ((k+(s.drop k).idxOf 93:Nat):Int) aa aa<|bj ab ab)<|p (bE ((k+(s.drop k).idxOf 93 +1:Nat):Int) aa aa<|bj ab ab)<|ak (str<|gy (jg s k) [94])<|p (oO aa aa)<|e<|cW pD aa (vs:=eK<|qk s k) aa aa aa aJ az fun a5 aS aH=> ?_
 have aN:Wk w a5:=Md.trans' aP aS fun k hk h=>by omega
 refine p aA<|aw<|M<|rt<|Hs aa (dN aa kP aa fun j Y=>by rw [gV]; exact aH.aO j) eb eb ?_
 refine ⟨⟨qk s k,by rw [if_neg i,decide_eq_false i]; rfl,fun _=>rfl⟩,aN⟩
theorem UE (l:List UInt8) (a:Option Addr) (n c:Nat) (x:UInt8) (w:World) (G:aJ w.heap a (U8 l)) (hn:l.length=n) (aq:n≤1048576):
 bm ay 281 (bf [.slice a n c,.int .u8 x.toNat]) w (fun v w'=>v= .int .i64 (e9 x l)∧Wk w w'):=by
 refine enter func281 aa ntmps281 aa<|ag fun O=>aw<|O<|aB fun U=>ag fun V=>ak (.slice a n c)<|p (bK mP aa aa)<|p mv<|nl<|V<|aH<|lp (fun E q M=> ∃ (i:Nat),(i≤n)∧(∀ j,j < i→l.getD j 0≠x)∧(M=w)∧(q 0= .slice a n c)∧(q 1= .int .u8 x.toNat)∧(q 7=au n)∧(q 8=au i)∧(n - i=E)) _ ⟨0,ab,(fun j J=>by omega),aa,aa,aa,aa,aa,aa⟩ ?_
 rintro E q M ⟨i,hi,C,ai,al,am,an,ao,rfl⟩
 refine fx 0 al<|fx 1 am<|fx 7 an<|fx 8 ao ?_
 subst ai
 refine ag fun Y=>p (lt aa aa)<|nl<|Y<|aB fun Z=>cd aa (fun aj=> ?_) fun aj=> ?_
 refine aM<|Z<|aB fun A=>aH<|ag fun ac=>ak (au i)<|p (cJ (au i) aa)<|nl<|ac<|ag fun ae=>ak (.int .u8 x.toNat)<|ak (.slice a n c)<|ak (au i)<|p (a8 l5 aa aa ab<|aJ.ok (G)<|pU ab)<|p (ld pw aa<|pT (i:=i) G ab)<|p (bJ aa aa)<|nl<|ae<|cd aa (fun I=> ?_) fun I=> ?_
 have ap:l.getD i 0=x:=k8.1 ab
 exact ag fun ah=>ak (au i)<|p (cJ (au i) aa)<|nl<|ah<|rt<|br<|tr<|tr<|br<|tr<|aV aa<|⟨by rw [I4 (show i < l.length by omega) C ap]; rfl,Md.refl _ _⟩
 exact aM<|bn<|A<|rg aa<|p (ad aa aa<|bX ab)<|p mv<|nl<|tn<|⟨_,ab,i+1,ab,(fun j J=>by rcases fi j i with h | h <;> first | exact C j h | (rw [show j=i by omega]; exact fun h2=>I<|by rw [h2])),aa,aa,aa,aa,aa,aa⟩
 exact ext<|ba<|ba<|be<|U<|ag fun A=>p aA<|nl<|A<|rt<|aV aa<|⟨by rw [I5 (fun j J=>C j ab)]; rfl,Md.refl _ _⟩
theorem R6 (l:List UInt8) (i j:Nat) (B n cp a:Nat) (w:World) (C:bq w B 5 1 (.slice (some ⟨a,0,none⟩) n cp) n (U8 l)) (al:i < j∧j≤n) (an:n≤1048576):
 bm ay 282 (bf [.slice (some ⟨a,0,none⟩) n cp,au i,au j]) w (fun v w'=>v= .slice (some ⟨a,0,none⟩) (i+(n - j)) cp∧bq w' B 5 1 (.slice (some ⟨a,0,none⟩) (i+(n - j)) cp) (i+(n - j)) (U8<|l.take i++l.drop j)∧Md (fun q=>q=a) w w'):=by
 have am:=DI C
 have ai:=(a7 C).1
 refine enter func282 aa ntmps282 aa<|ag fun E=>aw<|E<|ag fun G=>ak (.slice (some ⟨a,0,none⟩) n cp)<|ak (au i)<|ak (au j)<|ak (.slice (some ⟨a,0,none⟩) n cp)<|p (bK mP aa aa)<|p (XX l5 aa aa aa aa ab)<|nl<|G<|aB fun I=>ag fun J=>ak (au i)<|ak (au j)<|p (bJ aa aa)<|nl<|J<|cd aa (fun h=>absurd h ab) fun ah=>aM<|I<|ag fun M=>ak (.slice (some ⟨a,0,none⟩) n cp)<|p (bK mP aa aa)<|p aA<|nl<|M<|aB fun O=> ?_
 have A:(fun w'=>Wk w w') w.drew:=(Md.refl _ _).drew
 refine eS (fun w'=>Wk w w') 6 aa wide A<|bC 0 aa (.slice (some ⟨a,0,none⟩) n cp) A<|bC 1 aa (au i) A<|bz 2 aa (fun _=>vE l5 aa aa ab) (fun _=>A)<|bC 3 aa (.slice (some ⟨a,0,none⟩) n cp) A<|bC 4 aa (au j) A<|bz 5 aa (fun _=>vF l5 aa aa ab) (fun _=>A)<|dH 6 aa aj aj<|Oi (B:=B) (xs:=U8<|l.take i) (news:=U8<|l.drop j) (n:=i) (m:=n - j) im (CX (aW C A) ab ab) aa aa (show aJ _ (gq (some ⟨a,0,none⟩) cp j 1) (U8<|l.drop j) from YU<|aW C A) (by unfold gq; split <;> simp) (by rw [wY,fT]; omega) (NW _) ab fun ao Y ac=>bz 7 aa (fun _=>aA) (fun h=>ee<|(show true =_ from by kernel_rfl).trans h)<|eR aj<|O<|ag fun U=>ak (.slice (some ⟨a,0,none⟩) (i+(n - j)) cp)<|ak (.slice (some ⟨a,0,none⟩) (i+(n - j)) cp)<|p (bK mP aa aa)<|p mv<|p (XY l5 aa aa aa ab) ?_
 exact e<|Q3 mP ZH aa ac (by simp) aa ab fun ap Z ae=>nl<|U<|ag fun V=>ak (.slice (some ⟨a,0,none⟩) (i+(n - j)) cp)<|p (cJ (.slice (some ⟨a,0,none⟩) (i+(n - j)) cp) aa)<|nl<|V<|rt<|aV aa<|⟨aa,by rw [wX]; exact ae,Md.trans (A.mono fun _ _ h=>h.elim)<|Md.trans Y<|Z.mono fun q _ h=>by simpa [Value.ownBlock] using h.symm⟩
end Go.Hb.ow
section
namespace Go.Hb
open Go.Hb.ow
theorem Fl {s:List UInt8} {k:Nat} (h:(s.drop k).idxOf 93 < (s.drop k).length):gy (jg s k) [94]≠[]↔(s.drop k).idxOf 93≠0∧¬((s.drop k).idxOf 93=1∧(s.drop k).getD 0 0=94):=by
 unfold jg gy
 generalize i:s.drop k=l at*
 cases l with
 | nil=>simp at h
 | cons b r=>
   generalize hm:(b::r).idxOf 93=m at*
   cases m with
   | zero=>simp
   | succ m=>
     simp only [cO] at h
     simp only [p9,fA,ou,lT,wm,wo]
     by_cases a:b=94
     · subst a
       rw [if_pos rfl]
       cases m with
       | zero=>simp
       | succ m=>
         cases r with
         | nil=>simp at h
         | cons x r=>simp
     · rw [if_neg (by simpa using a)]
       simp [a]
theorem OE {s:List UInt8} {k:Nat} (h:(s.drop k).idxOf 93 < (s.drop k).length) (A:(s.drop k).idxOf 93≠0):qk s k=cD (91::(s.drop k).take ((s.drop k).idxOf 93 +1)):=by
 funext x
 unfold qk jg gy cD
 generalize E:s.drop k=l at*
 cases l with
 | nil=>simp at h
 | cons b r=>
   generalize hm:(b::r).idxOf 93=m at*
   cases m with
   | zero=>exact absurd rfl A
   | succ m=>
     simp only [cO] at h
     have C:(91::sn (m+1 +1) (b::r)).length=m+3:=by simp only [cO,dR]; omega
     rw [C,if_neg (show ¬m+3=1 by omega)]
     have i:(91::sn (m+1 +1) (b::r)).getD 1 0=b:=rfl
     have q:sn (m+3 - 1) (91::sn (m+1 +1) (b::r))=91::sn (m+1) (b::r):=by
      show sn (m+2) (91::sn (m+2) (b::r))=_
      rw [p9,List.take_take,Nat.min_eq_left ab]
     rw [i,q]
     simp only [p9,ou,wm,wo,fA]
     by_cases a:b=94
     · subst a; simp
     · simp [a]
theorem Sm:(fun x:UInt8=> !(fun _:UInt8=>false) x)=cD [46]:=by funext x; simp [cD]
theorem Wh {c:UInt8} (h:c≠46):(fun x:UInt8=>(fun _:UInt8=>false) x || decide (x=c))=cD [c]:=by
 funext x
 simp only [cD,fA,if_true,Bool.false_or,lT]
 exact decide_eq_decide.2 ⟨fun h1=> .inr h1.symm,fun h1=>(h1.resolve_left h).symm⟩
theorem Gu {ps:List (List UInt8)} (h:0 < ps.length):lk ps≠[]:=BB (f:=fun t=>eK<|cD t) (m:=4) (fun _=>rfl) az h
theorem Gt {h:Array Obj} {a:Option Addr} {ps:List (List UInt8)} {i:Nat} (q:aJ h a (lk ps)) (hi:i < ps.length):∀ j,j < 4→Hb.aO h (bk a) (fo a+i*4 +j)=(eK<|cD<|ps.getD i [])[j]? :=by
 have :=fG (f:=fun t=>eK<|cD t) (m:=4) (fun _=>rfl) q<|cC hi
 rw [cR,cC hi]; exact this
theorem yo {b:UInt8} (h:(b.toNat:Int)=91):b=91:=k8.1 (by have :(91:UInt8).toNat=91:=rfl; omega)
theorem vm {b:UInt8} (h:¬(b.toNat:Int)=91):b≠91:=by rintro rfl; exact h rfl
theorem Cp {b:UInt8} (h:(b.toNat:Int)=46):b=46:=k8.1 (by have :(46:UInt8).toNat=46:=rfl; omega)
theorem CO {b:UInt8} (h:¬(b.toNat:Int)=46):b≠46:=by rintro rfl; exact h rfl
theorem J0 {w:World} {B:Nat} {v:Value} {l:List (List UInt8)} {x:List UInt8} (h:w.ownsRow B 325 4 v (l.length+1) (lk l++eK (cD x))):w.ownsRow B 325 4 v (l++ [x]).length (lk<|l++ [x]):=by
 rw [bL,Q8]; simpa [lk] using h
theorem R7 (l:List UInt8) (i j:Nat) (A C:Int) (B n cp a:Nat) (w:World) (E:bq w B 5 1 (.slice (some ⟨a,0,none⟩) n cp) n (U8 l)) (G:i < j∧j≤n) (J:n≤1048576) (hi:A=(i:Nat)) (I:C=(j:Nat)):
 bm ay 282 (bf [.slice (some ⟨a,0,none⟩) n cp,.int .i64 A,.int .i64 C]) w (fun v w'=>v= .slice (some ⟨a,0,none⟩) (i+(n - j)) cp∧bq w' B 5 1 (.slice (some ⟨a,0,none⟩) (i+(n - j)) cp) (i+(n - j)) (U8<|l.take i++l.drop j)∧Md (fun q=>q=a) w w'):=by
 subst hi I; exact R6 l i j B n cp a w E G J
theorem XO (f:UInt8→Bool) (w:World):
 bm ay 267 (bf [.agg (eK<|f).toArray]) w (fun v w'=>v=str (gQ f)∧Wk w w'):=by
 have bQ:(bytesOf f).length≤256:=ql f 256
 have bS:(bytesOf fun x=> !f x).length≤256:=ql _ 256
 refine enter func267 aa ntmps267 aa<|ag fun a0=>e<|jt aa fun a6 ax am Y aD=>aw<|a0<|ag fun a1=>p (da kP aa (aa) fun j aP=>by rw [gV]; exact (aD).aO j)<|e<|cl F9 (Ft f _) aa fun v6 aX bt=> ?_
 obtain ⟨ae,al⟩:=bt
 obtain ⟨q,a,rfl⟩:=cB ae
 have E:=(a7 ae).2
 have V:Wk w aX:=Md.trans Y.md al
 have aF:=al.B aD
 refine aw<|a1<|aB fun a3=>aH<|ag fun a4=>ak (.slice q (bytesOf f).length a)<|p (bK mP aa aa)<|p (bJ aa aa)<|aw<|a4<|cd aa (fun bv=> ?_) fun bv=> ?_
 exact ag fun G=>aw<|G<|rt<|br<|tr<|aV aa<|⟨by unfold gQ; rw [if_pos (show (bytesOf f).length=256 by omega)]; rfl,V⟩
 refine ed (fun ai aY=> ∃ (aj:Bool),(aj=decide ((bytesOf f).length=1∧(bytesOf f).getD 0 0≠46∧(bytesOf f).getD 0 0≠91))∧(aY=aX)∧(ai 1=aQ a6)∧(ai 3= .slice q (bytesOf f).length a)∧(ai 11= .bool aj)) ?_ ?_
 refine rg aa<|ak (.slice q (bytesOf f).length a)<|p (bK mP aa aa)<|p (bJ aa aa)<|p mv<|gs (t:=15) aa (fun bw=> ?_) fun bw=> ?_
 refine aI aa (aT (.slice q (bytesOf f).length a) aa)<|aI aa (a8 l5 aa aa ab<|aJ.ok (E)<|pU ab)<|aI aa (ld pw aa<|pT (i:=0) E ab)<|aI aa (db aa aa)<|p (bB aa)<|p mv<|gs (t:=21) aa (fun aN=> ?_) fun aN=> ?_
 exact aI aa (aT (.slice q (bytesOf f).length a) aa)<|aI aa (a8 l5 aa aa ab<|aJ.ok (E)<|pU ab)<|aI aa (ld pw aa<|pT (i:=0) E ab)<|aI aa (db aa aa)<|p (bB aa)<|p aA<|nl<|tn<|⟨_,(by first | exact decide_eq_decide.2 ⟨fun h=>⟨ab,by first | exact CO ab | exact fun h=>by omega,by first | exact vm ab | exact fun h=>by omega⟩,fun h=>by have h1:=h.2.2; exact fun h2=>h1<|yo h2⟩ | rfl),aa,aa,aa,aa⟩
 exact aE aa<|aE aa<|aE aa<|aE aa<|p (bp aa)<|p aA<|nl<|tn<|⟨false,((decide_eq_false fun h=>h.2.1<|Cp<|Decidable.of_not_not aN).symm),aa,aa,aa,aa⟩
 exact aE aa<|aE aa<|aE aa<|aE aa<|p (bp aa)<|p mv<|aE aa<|aE aa<|aE aa<|aE aa<|p (bp aa)<|p aA<|nl<|tn<|⟨false,((decide_eq_false fun h=>by omega).symm),aa,aa,aa,aa⟩
 rintro ai aY ⟨aj,am,bh,bC,bE,bD⟩
 refine fx 1 bC<|fx 3 bE<|fx 11 bD ?_
 subst bh
 refine cb aa (fun an=> ?_) fun an=> ?_
 have ah:(bytesOf f).length=1∧(bytesOf f).getD 0 0≠46∧(bytesOf f).getD 0 0≠91:=of_decide_eq_true<|am ▸ an
 exact ag fun G=>ak (.slice q (bytesOf f).length a)<|p (m8 m5 aa (E)<|by simp)<|aw<|G<|rt<|br<|tr<|aV aa<|⟨by unfold gQ; rw [if_neg (show ¬(bytesOf f).length=256 by omega),if_pos ah]; rfl,V⟩
 have ah:¬((bytesOf f).length=1∧(bytesOf f).getD 0 0≠46∧(bytesOf f).getD 0 0≠91):=of_decide_eq_false<|am ▸ an
 refine ag fun G=>p (da kP aa (aa) fun j aP=>by rw [gV]; exact (aF).aO j)<|e<|cl AG (II f 93 _ _ rfl) aa fun v31 b0 bj=> ?_
 obtain ⟨rfl,A⟩:=bj
 refine aw<|G<|cb aa (fun ao=> ?_) fun ao=> ?_
 refine ag fun I=>p (da kP aa (aa) fun j aP=>by rw [gV]; exact (A.B aF).aO j)<|e<|cl AB (CW f _) aa fun bV b1 bk=> ?_
 obtain ⟨rfl,ba⟩:=bk
 refine e<|cl F9 (Ft (fun x=> !f x) _) aa fun bW b2 bl=> ?_
 obtain ⟨aS,bb⟩:=bl
 obtain ⟨bM,bO,rfl⟩:=cB aS
 exact p (m8 m5 aa ((a7 aS).2)<|aa)<|p (cc aa aa<|by simp only [cO,gC]; omega)<|p (cc aa aa<|by simp only [cO,gC,bL]; omega)<|aw<|I<|rt<|br<|tr<|aV aa<|⟨by unfold gQ; rw [if_neg (show ¬(bytesOf f).length=256 by omega),if_neg ah,if_pos ao]; rfl,Md.trans V<|Md.trans A<|Md.trans ba bb⟩
 refine aM<|bn<|a3 ?_
 refine ed (fun aZ aC=> ∃ (J:Option Addr) (C M:Nat),(((bytesOf f).filter (fun b=>decide (b≠94))++(if 94∈(bytesOf f) then [94] else [])).length=C)∧(bq aC ax.heap.size 5 1 (.slice J C M) C<|U8<|(bytesOf f).filter (fun b=>decide (b≠94))++(if 94∈(bytesOf f) then [94] else []))∧(Wk w aC)∧(C≤300)∧(aZ 3= .slice J C M)) ?_ ?_
 refine ag fun I=>ak (.slice q (bytesOf f).length a)<|e<|cl PR (UE (bytesOf f) q _ a 94 _ (E.wk A) aa ab) aa fun bY bG bo=> ?_
 obtain ⟨rfl,U⟩:=bo
 have aG:Wk w bG:=Md.trans V<|Md.trans A U
 refine aw<|I<|ag fun a5=>p mv<|p (ge aa aa)<|nl<|a5<|cd aa (fun bu=> ?_) fun bu=> ?_
 have aq:=rI (c:=94) (l:=bytesOf f) ab
 have ar:=aW (aW ae A) U
 obtain ⟨O,rfl⟩:=Wu ar ab
 refine rg aa<|ak (.slice (some ⟨O,0,none⟩) (bytesOf f).length a)<|p mv<|p mv<|p (ad aa aa<|bX ab)<|e<|cl PS (R7 (bytesOf f) ((bytesOf f).idxOf 94) ((bytesOf f).idxOf 94 +1) _ _ ax.heap.size _ a O _ ar ab ab ab ab) aa fun v46 bH bs=> ?_
 obtain ⟨rfl,au,aL⟩:=bs
 have bc:Wk w bH:=Md.trans' aG aL fun k hk h=>by have :=dM ar (show (bR (some ⟨O,0,none⟩) _ a).ownBlock=some O from rfl); have :=Y.md.size; omega
 have bx:=DI au
 refine e<|fZ im aa aa fun bN b3 bP Z a9=>e<|ap im (aW au Z.md) aa (by have :=Y.md.size; have :=al.size; have :=A.size; have :=U.size; have :=aL.size; have :=Z.md.size; omega) aa (aJ.dX a9) (aa) (aa) ab ab fun bZ bI av bi bU bT=> ?_
 have bd:=Wk.own (Md.trans bc Z.md) (aW au Z.md) bi Y.md.size
 rw [UA (OJ f) aq.2] at bx av
 obtain ⟨a2,c2,rfl⟩:=cB av
 have aU:bq bI ax.heap.size 5 1 (.slice a2 (((bytesOf f).idxOf 94 +((bytesOf f).length - ((bytesOf f).idxOf 94 +1)))+1) c2) (((bytesOf f).idxOf 94 +((bytesOf f).length - ((bytesOf f).idxOf 94 +1)))+1) (U8<|(bytesOf f).filter (fun b=>decide (b≠94))++ [94]):=by rw [wX]; exact av
 exact p aA<|nl<|tn<|⟨a2,_,c2,(by have :=DI aU; rw [if_pos (wv.1 aq.2)]; exact this),(by rw [if_pos (wv.1 aq.2)]; exact aU),bd,(ab),aa⟩
 have ac:¬(94:UInt8)∈bytesOf f:=fun h=>by have h1:e9 94 (bytesOf f)=(bytesOf f).idxOf 94:=if_pos (wv.2 h); omega
 exact aM<|tn<|⟨q,(bytesOf f).length,a,(by rw [if_neg ac,JO ac,eh]),(by rw [if_neg ac,JO ac,eh]; exact aW (aW ae A) U),aG,(ab),aa⟩
 rintro aZ aC ⟨J,C,M,aR,bA,bg,bz,bF⟩
 refine fx 3 bF ?_
 have aK:((bytesOf f).filter (fun b=>decide (b≠94))++(if 94∈(bytesOf f) then [94] else [])).length≤300:=by rw [aR]; exact bz
 exact ag fun I=>ak (.slice J C M)<|p (m8 m5 aa ((a7 bA).2)<|aR)<|p (cc aa aa<|gk (zM aK _) az)<|p (cc aa aa<|by rw [bL]; exact gk (Nat.add_le_add_right (zM aK _) _) az)<|p aA<|nl<|I<|rt<|aV aa<|⟨by unfold gQ; rw [if_neg (show ¬(bytesOf f).length=256 by omega),if_neg ah,if_neg (show ¬f 93=true from by rw [ao]; exact ee)]; rfl,bg⟩
theorem GH (s:List UInt8) (w:World) (hs:s.length≤1048576):
 bm ay 144 (bf [str s]) w (fun v w'=>(∃ a,v= .tuple #[.agg [a].toArray,au ((c8 s).2)]∧bq w' w.heap.size 325 4 (a) ((c8 s).1).length (lk<|(c8 s).1))∧Wk w w'):=by
 refine enter func144 aa ntmps144 aa<|ag fun b3=>e<|fk zj fun aF dT dA ae aq=>aw<|b3<|aB fun b8=>aB fun bv=>rg aa<|ak (str s)<|p (dV aa aa)<|p mv<|gs (t:=10) aa (fun U=> ?_) fun U=> ?_
 refine aE aa<|aE aa<|aE aa<|p (bB aa)<|nl<|bv<|ct aa<|aB fun am=>rg aa<|p (cQ (ps:= []) (L:= [.slice none 0 0]) vI aa<|aa)<|e<|gj qo aa (vs:= [.slice none 0 0]) aa aa aa aq az fun G A C=> ?_
 have E:Wk w G:=Md.trans' ae.md A fun k hk h=>by omega
 exact aw<|am<|rt<|tr<|ew aa (dN (cs:= [.slice none 0 0]) aa mY aa fun j I=>by cases j with | zero=>exact (aX C).trans aa | succ j=>omega) eb<|⟨⟨.slice none 0 0,by unfold c8; rw [if_pos (.inl U)]; rfl,by unfold c8; rw [if_pos (.inl U)]; exact dz _ _ _ _⟩,E⟩
 refine aI aa (aT (str s) aa)<|aI aa (cz u9 aa aa)<|aI aa (gt aa aa)<|p (bp aa)<|nl<|bv<|cd aa (fun cY=> ?_) fun cY=> ?_
 refine ag fun am=>p (cQ (ps:= []) (L:= [.slice none 0 0]) vI aa<|aa)<|e<|gj qo aa (vs:= [.slice none 0 0]) aa aa aa aq az fun G A C=> ?_
 have E:Wk w G:=Md.trans' ae.md A fun k hk h=>by omega
 exact aw<|am<|rt<|tr<|ew aa (dN (cs:= [.slice none 0 0]) aa mY aa fun j I=>by cases j with | zero=>exact (aX C).trans aa | succ j=>omega) eb<|⟨⟨.slice none 0 0,by unfold c8; rw [if_pos (.inr ab)]; rfl,by unfold c8; rw [if_pos (.inr ab)]; exact dz _ _ _ _⟩,E⟩
 refine aM<|b8<|aB fun am=>ag fun b9=>ak (str s)<|p (dV aa aa)<|nl<|b9<|cd aa (fun ah=> ?_) fun ah=> ?_
 refine ag fun a7=>p (cQ (ps:= []) (L:= [.slice none 0 0]) vI aa<|aa)<|e<|gj qo aa (vs:= [.slice none 0 0]) aa aa aa aq az fun G A C=> ?_
 have E:Wk w G:=Md.trans' ae.md A fun k hk h=>by omega
 refine aw<|a7<|rt<|tr<|ew aa (dN (cs:= [.slice none 0 0]) aa mY aa fun j I=>by cases j with | zero=>exact (aX C).trans aa | succ j=>omega) eb ?_
 have bV:¬(s= []∨512 < s.length):=fun h=>h.elim U fun h=>by omega
 exact ⟨⟨.slice none 0 0,by unfold c8; rw [if_neg bV,if_pos ah]; rfl,by unfold c8; rw [if_neg bV,if_pos ah]; exact dz _ _ _ _⟩,E⟩
 refine aM<|am<|ag fun a7=>e<|fk zj fun an dw dD bS co=> ?_
 have cO:Wk w dw:=Md.trans ae.md bS.md
 have dB:=(cU.1 aq).1
 have cn:=bS.md.aH aq
 have hs:=hs
 refine nl<|a7<|aB fun ca=>ag fun cc=>aw<|cc<|aH<|lp (fun bw aD Y=> ∃ (i:Nat) (q:List (List UInt8)) (aC:Value),(i≤s.length∧q.length≤i)∧(kq s i q)∧(Y.heap[an]? =some (.cells [aC].toArray 270 (0,0)))∧(Y.heap[aF]? =some (.cells [.slice none 0 0].toArray 270 (0,0)))∧(bq Y w.heap.size 325 4 (aC) (q).length<|lk<|q)∧(Wk w Y)∧(aD 0=str s)∧(aD 2=aQ aF)∧(aD 4=aQ an)∧(aD 5=au i)∧(s.length - i=bw)) _ ⟨0,[],.slice none 0 0,(by simp),(kq.start s),co,cn,(dz _ _ _ _),cO,aa,aa,aa,(by first | rfl | exact iv<|if_neg ax),aa⟩ ?_
 rintro bw aD Y ⟨i,q,aC,hi,aZ,aK,ar,V,Z,c9,db,dc,dd,rfl⟩
 refine fx 0 c9<|fx 2 db<|fx 4 dc<|fx 5 dd<|aB fun ce=>ag fun b4=>ak (au i)<|ak (str s)<|p (cz u9 aa aa)<|p (lt aa aa)<|nl<|b4<|cd aa (fun cZ=> ?_) fun cZ=> ?_
 refine aM<|ce<|aH<|ag fun a3=>e<|al r6 fun ao b2 bT aU cv=> ?_
 have aG:bO b2.heap ao (eK fun _=>false):=by rw [A3]; exact cv
 have bd:Wk w b2:=Md.trans Z aU.md
 have bb:=aU.md.aH aK
 have bc:=aU.md.aH ar
 have bt:=aW V aU.md
 have bT:ao=Y.heap.size:=bT
 have dy:=(cU.1 aK).1
 have dx:=(cU.1 ar).1
 have bo:=drop_cons (l:=s) (i:=i) 0 ab
 refine nl<|a3<|ag fun a4=>aw<|a4 ?_
 refine ed (fun aj ai=>(s.getD i 0≠91)∧(bO ai.heap ao<|eK<|cD [s.getD i 0])∧(ai.heap[an]? =some (.cells [aC].toArray 270 (0,0)))∧(ai.heap[aF]? =some (.cells [.slice none 0 0].toArray 270 (0,0)))∧(bq ai w.heap.size 325 4 (aC) (q).length<|lk<|q)∧(Wk w ai)∧(aj 0=str s)∧(aj 2=aQ aF)∧(aj 4=aQ an)∧(aj 5=au i)∧(aj 6=aQ ao)) ?_ ?_
 refine ag fun M=>ak (str s)<|ak (au i)<|p (eQ u9 aa aa ab)<|nl<|M<|aH<|ag fun b5=>p (bJ aa aa)<|aw<|b5<|cd aa (fun aV=> ?_) fun aV=> ?_
 refine aB fun a5=>ag fun b6=>ak (str s)<|ak (au i)<|p (bE ((i+1:Nat):Int) aa aa<|bj ab ab)<|e<|cl Pp (OA s (i+1) _ hs ab) aa fun dR dv cV=> ?_
 obtain ⟨⟨ch,rfl,c1⟩,hE36⟩:=cV
 have cN:Wk w dv:=Md.trans bd hE36
 have bU:=yo aV
 refine p mv<|p (xt aa aa)<|p (xt aa aa)<|p (xt aa aa)<|e<|cW pD aa (vs:=eK ch) aa aa aa (hE36.B aG) az fun dp aL bx=> ?_
 have bN:Wk w dp:=Md.trans' cN aL fun k hk h=>by have :=Z.size; omega
 have dK:=hE36.size
 have bz:=aL.aH (hE36.aH bb) fun h=>by omega
 have bH:=aL.aH (hE36.aH bc) fun h=>by omega
 have c3:=dq (aW bt hE36) aL fun k hk h=>by have :=dM V hk; omega
 have dG:(s.drop<|i+1).length=s.length - (i+1):=fT
 refine p aA<|aw<|b6<|ag fun b7=>p mv<|p (no aa)<|nl<|b7<|cb aa (fun O=> ?_) fun O=> ?_
 have av:iz (s.drop i)=none:=by
  rw [bo,bU]
  refine xv aa fun h=> ?_
  have dj:¬e9 93 (s.drop<|i+1) < 0:=by rw [show e9 93 (s.drop<|i+1)=(s.drop<|i+1).idxOf 93 from if_pos h.1]; omega
  have dk:=(Fl (s:=s) (k:=i+1) h.1).2 h.2
  rw [decide_eq_false dj,decide_eq_true dk] at O; cases O
 have aY:=aZ.bad ab av
 refine ag fun a6=>p (cQ (ps:= []) (L:= [.slice none 0 0]) vI aa<|aa)<|e<|gj qo aa (vs:= [.slice none 0 0]) aa aa aa bH az fun G A C=> ?_
 have E:Wk w G:=Md.trans' bN A fun k hk h=>by omega
 refine aw<|a6<|rt<|tr<|br<|tr<|br<|tr<|br<|tr<|ew aa (dN (cs:= [.slice none 0 0]) aa mY aa fun j I=>by cases j with | zero=>exact (aX C).trans aa | succ j=>omega) eb ?_
 have J:c8 s=([],41):=by unfold c8; rw [if_neg (fun h=>h.elim U fun h=>by omega),if_neg ah,aY]
 exact ⟨⟨.slice none 0 0,by rw [J]; rfl,by rw [J]; exact dz _ _ _ _⟩,E⟩
 have ax:¬e9 93 (s.drop<|i+1) < 0:=fun h=>by rw [decide_eq_true h] at O; cases O
 have dl:gy (jg s<|i+1) [94]≠[]:=fun h=>by rw [h] at O; simp at O
 have a0:=rI ax
 have bu:=(Fl (s:=s) (k:=i+1) a0.2).1 dl
 obtain rfl :=c1 ax
 rw [OE a0.2 bu.1] at bx
 have av:iz (s.drop i)=some (91::(s.drop<|i+1).take ((s.drop<|i+1).idxOf 93 +1),(s.drop<|i+1).drop ((s.drop<|i+1).idxOf 93 +1)):=by rw [bo,bU]; exact AX rfl a0.2 bu.1 bu.2
 have bs:=aZ.step (j:=i+1 +(s.drop<|i+1).idxOf 93 +1) av<|by rw [sh]; rfl
 have dJ:(s.drop<|i+1).idxOf 93 < s.length - (i+1):=by have :=a0.2; omega
 refine aM<|a5<|ag fun a6=>p (fa mz aa)<|p (ld nC aa<|(aX bz).trans aa)<|p (da kP aa (aa) fun j I=>by rw [gV]; exact (bx).aO j)<|e<|kQ yT aa aa aa fun cf b0 dE aR cp=> ?_
 have cq:bO b0.heap cf (eK<|cD (91::(s.drop<|i+1).take ((s.drop<|i+1).idxOf 93 +1))):=cp
 have bP:Wk w b0:=Md.trans bN aR.md
 have a1:=aW c3 aR.md
 have bA:=aR.md.aH bz
 have bI:=aR.md.aH bH
 refine e<|ap yT (a1) aa (by have :=bP.size; omega) aa (aJ.dX cq) (aa) (Gv _) ab ab fun dm dU bW bi dO dH=> ?_
 have bX:=J0 bW
 have bC:=bi.aH bA fun h=>dC a1 bA az h
 have cG:=bi.aH bI fun h=>dC a1 bI az h
 have cP:=Wk.own bP a1 bi<|cA _
 refine p (fa mz aa)<|e<|cw GP aa aa (eU bW) bC (by simp) fun dr bg ci=> ?_
 have cJ:Wk w dr:=Md.trans' cP bg fun k hk h=>by have :=ae.md.size; omega
 exact nl<|a6<|ext<|nE az<|ba<|be<|tn<|⟨_,ab,i+1 +(s.drop<|i+1).idxOf 93 +1,q++ [91::(s.drop<|i+1).take ((s.drop<|i+1).idxOf 93 +1)],dm,(by rw [bL,fA]; omega),bs,ci,(bg.aH cG fun h=>by omega),(dq bX bg fun k hk h=>dC bX bC az<|h ▸ hk),cJ,aa,aa,aa,(by first | rfl | exact iv<|if_neg ax),aa⟩
 refine ag fun a5=>p (bJ aa aa)<|aw<|a5<|cd aa (fun bl=> ?_) fun bl=> ?_
 refine rg aa<|p (da kP aa (aa) fun j I=>by rw [gV]; exact (aG).aO j)<|e<|cl AB (CW (fun _=>false) _) aa fun dS dW cX=> ?_
 obtain ⟨rfl,ac⟩:=cX
 refine e<|cW pD aa (vs:=eK fun x=> !(fun _:UInt8=>false) x) aa aa aa (ac.B aG) az fun ds aN cj=> ?_
 have dL:=ac.size
 have cK:Wk w ds:=Md.trans' (Md.trans bd ac) aN fun k hk h=>by have :=Z.size; omega
 have cy:=aN.aH (ac.aH bb) fun h=>by omega
 have cE:=aN.aH (ac.aH bc) fun h=>by omega
 have c4:=dq (aW bt ac) aN fun k hk h=>by have :=dM V hk; omega
 exact nl<|bn<|tn<|⟨(vm aV),(by rw [Cp bl,← Sm]; exact cj),cy,cE,c4,cK,aa,aa,aa,aa,aa⟩
 refine rg aa<|ak (str s)<|ak (au i)<|p (eQ u9 aa aa ab)<|e<|cl FW (Kl ao (s.getD i 0) _ _ aG) aa fun dQ du cT=> ?_
 obtain ⟨rfl,cm,aP⟩:=cT
 have cM:Wk w du:=Md.trans' bd aP fun k hk h=>by have :=Z.size; omega
 have cC:=aP.aH bb fun h=>by omega
 have cF:=aP.aH bc fun h=>by omega
 have c5:=dq bt aP fun k hk h=>by have :=dM V hk; omega
 exact nl<|bn<|tn<|⟨(vm aV),(by rw [← Wh (CO bl)]; exact cm),cC,cF,c5,cM,aa,aa,aa,aa,aa⟩
 rintro aj ai ⟨c2,cx,bG,cI,c7,cS,de,df,dg,dh,di⟩
 refine fx 0 de<|fx 2 df<|fx 4 dg<|fx 5 dh<|fx 6 di<|ag fun M=>p (fa mz aa)<|p (ld nC aa<|(aX bG).trans aa)<|p (da kP aa (aa) fun j I=>by rw [gV]; exact (cx).aO j)<|e<|kQ yT aa aa aa fun cg b1 dF aS cr=> ?_
 have cu:bO b1.heap cg (eK<|cD [s.getD i 0]):=cr
 have bQ:Wk w b1:=Md.trans cS aS.md
 have a2:=aW c7 aS.md
 have bD:=aS.md.aH bG
 have bM:=aS.md.aH cI
 refine e<|ap yT (a2) aa (by have :=bQ.size; omega) aa (aJ.dX cu) (aa) (Gv _) ab ab fun dn dY bY bk dP dI=> ?_
 have bZ:=J0 bY
 have bF:=bk.aH bD fun h=>dC a2 bD az h
 have cH:=bk.aH bM fun h=>dC a2 bM az h
 have cR:=Wk.own bQ a2 bk<|cA _
 have av:iz (s.drop i)=some ([s.getD i 0],s.drop (i+1)):=by rw [bo]; exact Gp c2
 have bs:=aZ.step (j:=i+1) av rfl
 refine p (fa mz aa)<|e<|cw GP aa aa (eU bY) bF (by simp) fun dt bh ck=> ?_
 have cL:Wk w dt:=Md.trans' cR bh fun k hk h=>by have :=ae.md.size; omega
 exact nl<|M<|rg aa<|ak (au i)<|p (bE ((i+1:Nat):Int) aa aa<|bj ab ab)<|p aA<|nl<|bn<|tn<|⟨_,ab,i+1,q++ [[s.getD i 0]],dn,(by rw [bL,fA]; omega),bs,ck,(bh.aH cH fun h=>by omega),(dq bZ bh fun k hk h=>dC bZ bF az<|h ▸ hk),cL,aa,aa,aa,(by first | rfl | exact iv<|if_neg ax),aa⟩
 refine ext<|ba<|ba<|be<|ca<|aB fun a3=>aB fun a4=> ?_
 obtain ⟨a8,a9,rfl⟩:=cB V
 have aY:=aZ.done ab
 refine rg aa<|p (fa mz aa)<|p (ld nC aa<|(aX aK).trans aa)<|p (bK qS aa aa)<|p (gt aa aa)<|nl<|a4<|cd aa (fun c0=> ?_) fun c0=> ?_
 refine ag fun M=>p (cQ (ps:= []) (L:= [.slice none 0 0]) vI aa<|aa)<|e<|gj qo aa (vs:= [.slice none 0 0]) aa aa aa ar az fun G A C=> ?_
 have E:Wk w G:=Md.trans' Z A fun k hk h=>by omega
 refine aw<|M<|rt<|tr<|ew aa (dN (cs:= [.slice none 0 0]) aa mY aa fun j I=>by cases j with | zero=>exact (aX C).trans aa | succ j=>omega) eb ?_
 have J:c8 s=([],42):=by unfold c8; rw [if_neg (fun h=>h.elim U fun h=>by omega),if_neg ah,aY]; exact if_pos ab
 exact ⟨⟨.slice none 0 0,by rw [J]; rfl,by rw [J]; exact dz _ _ _ _⟩,E⟩
 refine aM<|a3<|ag fun M=>p (da mY aa (aa) (show ∀ j,j < 1→Hb.aO Y.heap an (0 +j)= [bR a8 q.length a9][j]? from fun j I=>by cases j with | zero=>exact (aX aK).trans aa | succ j=>omega))<|e<|gj qo aa (vs:= [.slice a8 q.length a9]) aa aa aa ar az fun G A C=> ?_
 have E:Wk w G:=Md.trans' Z A fun k hk h=>by omega
 have c6:=dq V A fun k hk h=>dC V ar az<|h ▸ hk
 refine aw<|M<|rt<|ew aa (dN (cs:= [.slice a8 q.length a9]) aa mY aa fun j I=>by cases j with | zero=>exact (aX C).trans aa | succ j=>omega) eb ?_
 have J:c8 s=(q,0):=by unfold c8; rw [if_neg (fun h=>h.elim U fun h=>by omega),if_neg ah,aY]; exact if_neg ab
 exact ⟨⟨_,by rw [J]; rfl,by rw [J]; exact c6⟩,E⟩
theorem WN (ps:List (List UInt8)) (a:Option Addr) (c:Nat) (w:World) (U:aJ w.heap a (lk ps)) (hn:ps.length≤4096):
 bm ay 245 (bf [.agg [.slice a ps.length c].toArray]) w (fun v w'=>v=str (ma ps)∧Wk w w'):=by
 refine enter func245 aa ntmps245 aa<|ag fun Y=>e<|jt aa fun aK V aN C O=>aw<|Y<|aB fun ac=>aB fun ae=>rg aa<|p (fa mz aa)<|p (ld nC aa<|O.aO 0)<|p (bK qS aa aa)<|p (bJ aa aa)<|nl<|ae<|cd aa (fun I=> ?_) fun I=> ?_
 exact ag fun E=>aw<|E<|rt<|tr<|aV aa<|⟨by unfold ma; rw [if_pos (fW ab)]; rfl,C.md⟩
 refine aM<|ac<|ag fun E=>aw<|E<|aB fun ah=>ag fun ai=>p (fa mz aa)<|p (ld nC aa<|O.aO 0)<|p (bK qS aa aa)<|p mv<|nl<|ai<|aH<|lp (fun M A J=> ∃ (i:Nat),(i≤ps.length)∧(Wk V J)∧(((ps.take i).flatMap fun t=>gQ<|cD t).length≤i*300)∧(A 3=str ((ps.take i).flatMap fun t=>gQ<|cD t))∧(A 11= .slice a ps.length c)∧(A 12=au (ps.length))∧(A 13=au i)∧(ps.length - i=M)) _ ⟨0,ab,(Md.refl _ _),(by simp),(by first | rfl | (rw [fK ps i [] ab,nw,o0]; rfl)),aa,aa,aa,aa⟩ ?_
 rintro M A J ⟨i,hi,q,hlen,aG,aD,aE,aF,rfl⟩
 refine fx 3 aG<|fx 11 aD<|fx 12 aE<|fx 13 aF<|ag fun aj=>p (lt aa aa)<|nl<|aj<|aB fun am=>cd aa (fun aC=> ?_) fun aC=> ?_
 refine aM<|am<|aB fun G=>aH<|ag fun Z=>p (a8 Hm aa aa ab<|aJ.ok (U.wk<|Md.trans C.md q)<|Gu ab)<|p (da kP aa (aa) (show ∀ j,j < 4→Hb.aO J.heap (bk a) (fo a+i*4 +j)=(eK<|cD<|ps.getD i [])[j]? from Gt (U.wk<|Md.trans C.md q) ab))<|e<|al r6 fun aL aU aP av an=>e<|cW pD aa (vs:=eK<|cD<|ps.getD i []) aa aa aa an az fun aI ar ao=> ?_
 have aq:Wk V aI:=Md.trans' (Md.trans q av.md) ar fun k hk h=>by have :=q.size; omega
 refine nl<|Z<|rg aa<|ak (str<|(ps.take i).flatMap fun t=>gQ<|cD t)<|p (da kP aa (aa) fun j aQ=>by rw [gV]; exact (ao).aO j)<|e<|cl PM (XO (cD<|ps.getD i []) _) aa fun aS aT ax=> ?_
 obtain ⟨rfl,ap⟩:=ax
 have aR:=Dp<|cD<|ps.getD i []
 exact p (cc aa aa ab)<|p aA<|nl<|bn<|G<|rg aa<|p (ad aa aa<|bX ab)<|p mv<|nl<|tn<|⟨_,ab,i+1,ab,(Md.trans aq ap),(by rw [fK ps i [] ab,nw,o0,bL]; omega),(by first | rfl | (rw [fK ps i [] ab,nw,o0]; rfl)),aa,aa,aa,aa⟩
 exact ext<|ba<|ba<|be<|ah<|ag fun G=>ak (str<|(ps.take i).flatMap fun t=>gQ<|cD t)<|p (cJ (str<|(ps.take i).flatMap fun t=>gQ<|cD t) aa)<|nl<|G<|rt<|aV aa<|⟨by unfold ma; rw [if_neg (fun h=>by rw [h] at I; exact I aa),show ps.take i=ps from eM ab]; rfl,Md.trans C.md q⟩
end Go.Hb
end
section
namespace Go.Hb.fX
open Go.Hb.gX Go.Hb.ow Go.Hb.ka
theorem xW {kind:Nat} {al:List (List Nat)} {s:Tx} (h:al= []):fV kind al s=kU kind s:=if_pos h
theorem HM {kind:Nat} {al:List (List Nat)} {s:Tx} {e:Nat} (h:al≠[]) (h1:eX s al.length= .error e):fV kind al s= .error 13:=by unfold fV; rw [if_neg h,h1]
theorem HQ {kind:Nat} {al:List (List Nat)} {s:Tx} (h:al≠[]) (h1:eX s al.length= .ok 0):fV kind al s= .error 13:=by unfold fV; rw [if_neg h,h1]; rfl
theorem HP {kind n:Nat} {al:List (List Nat)} {s:Tx} (h:al≠[]) (h1:eX s al.length= .ok n) (a:n≠0):fV kind al s= .ok (al.getD (n - 1) []):=by unfold fV; rw [if_neg h,h1]; exact if_neg a
theorem yb {kind:Nat} {s:Tx} (h:(dY kind s).2=0):kU kind s= .ok (dY kind s).1:=if_neg fun h2=>h2 h
theorem ya {kind:Nat} {s:Tx} (h:(dY kind s).2≠0):kU kind s= .error (dY kind s).2:=if_pos h
theorem Dk {kind ln:Nat} {al:List (List Nat)} {c:cX} {r:List Tx} (h:r.length≠4) (h1:r.length≠5):fI kind al c ln r= .error 111:=by unfold fI; rw [if_pos ⟨h,h1⟩]
theorem mJ {kind ln:Nat} {al:List (List Nat)} {c:cX} {r:List Tx} (h:r.length=4∨r.length=5):fI kind al c ln r=(match eA true (r.getD 2 []) with
 | .error e=> .error e
 | .ok st=>match jH (bA<|r.getD 3 []) with
   | .error e=> .error e
   | .ok ad=>match kY kind al c.kind (bA<|r.getD 3 []) with
     | .error e=> .error e
     | .ok nx=>match kR r with
       | .error e=> .error e
       | .ok cd=> .ok ⟨c.kind,c.flag,c.ek,st,ad,cd,nx,ln⟩):=by unfold fI; rw [if_neg ab]; rfl
theorem EI {r:lJ} (h:r.2.2.2≠0):jH r= .error r.2.2.2:=if_pos h
theorem EL {r:lJ} (h:r.2.2.2=0) (h1:r.1= [48]):jH r= .ok []:=by unfold jH; rw [if_neg (fun h2=>h2 h),if_pos h1]
theorem EJ {r:lJ} (h:r.2.2.2=0) (h1:r.1≠[48]) (h2:gF r.1≠0):jH r= .error (gF r.1):=by unfold jH; rw [if_neg (fun h2=>h2 h),if_neg h1,if_pos h2]
theorem EK {r:lJ} (h:r.2.2.2=0) (h1:r.1≠[48]) (h2:gF r.1=0):jH r= .ok r.1:=by unfold jH; rw [if_neg (fun h2=>h2 h),if_neg h1,if_neg (fun h3=>h3 h2)]
theorem JI {kind a:Nat} {al:List (List Nat)} {r:lJ} (h:r.2.2.1=false):kY kind al a r= .ok []:=by unfold kY; rw [if_neg (by rw [h]; exact ee)]
theorem JH {kind a:Nat} {al:List (List Nat)} {r:lJ} (h:r.2.2.1=true) (h1:a=1):kY kind al a r= .error 118:=by unfold kY; rw [if_pos h,if_pos h1]
theorem yz {kind a:Nat} {al:List (List Nat)} {r:lJ} (h:r.2.2.1=true) (h1:a≠1):kY kind al a r=fV kind al r.2.1:=by unfold kY; rw [if_pos h,if_neg h1]
theorem GC {r:List Tx} (h:r.length≠5):kR r= .ok [46]:=if_neg h
theorem Gz {r:List Tx} (h:r.length=5) (h1:gv (r.getD 4 [])=false):kR r= .error 21:=by unfold kR; rw [if_pos h,if_pos h1]
theorem GA {r:List Tx} (h:r.length=5) (h1:gv (r.getD 4 [])=true) (h2:(c8<|r.getD 4 []).2≠0):kR r= .error (c8<|r.getD 4 []).2:=by unfold kR; rw [if_pos h,if_neg (by rw [h1]; exact ee),if_pos h2]
theorem GB {r:List Tx} (h:r.length=5) (h1:gv (r.getD 4 [])=true) (h2:(c8<|r.getD 4 []).2=0):kR r= .ok (ma (c8<|r.getD 4 []).1):=by unfold kR; rw [if_pos h,if_neg (by rw [h1]; exact ee),if_neg (fun h3=>h3 h2)]
theorem GG (s:Tx):(c8 s).1.length≤16:=by
 unfold c8
 split
 · simp
 · split
   · simp
   · split
     · simp
     · split
       · simp
       · rename_i h; exact Nat.le_of_not_lt h
theorem Hv (B fb mc:Nat) (F:aR) (V:e6) (s:Tx) (w:World) (C:dS w B fb mc F V) (hk:F.kind=1∨F.kind=2∨F.kind=3) (aF:∀ l∈F.aliases,l.length≤64∧l.Pairwise (· < ·)) (aN:F.aliases.length≤70000) (hs:s.length≤1048576):
 bm ay 141 (bf [aQ fb,str s]) w (fun v w'=>((∃ a l,v= .tuple #[a,.int .i64 0]∧fV F.kind F.aliases s= .ok l∧bq w' w.heap.size 51 1 a l.length (l.map bg))∨(∃ a e,v= .tuple #[a,au e]∧e≠0∧fV F.kind F.aliases s= .error e))∧Wk w w'):=by
 obtain ⟨aq,ar,ah⟩:=cB C.eT
 have O:=C.eT
 rw [ah] at O
 have J:Hb.aO w.heap fb 10=some (.slice aq F.aliases.length ar):=by rw [← ah]; exact (aX C.cells).trans rfl
 refine enter func141 aa ntmps141 aa<|ag fun ai=>p aA<|aw<|ai<|aB fun aj=>aB fun am=>rg aa<|ak (aQ fb)<|p (kT vM aa aa)<|nl<|am<|cf (aa)<|aM<|aj<|aB fun an=>ag fun ao=>ak (aQ fb)<|p (nc aa)<|p (fa gG aa)<|p (fa pK aa)<|p (ld rq aa<|J)<|p (bK y9 aa aa)<|p (bJ aa aa)<|nl<|ao<|cd aa (fun M=> ?_) fun M=> ?_
 have q:F.aliases= []:=fW ab
 refine ag fun G=>ak (aQ fb)<|p (nc aa)<|p (fa gG aa)<|p (fa tg aa)<|p (ld bu aa<|(aX C.cells).trans aa)<|ak (str s)<|e<|cl FR (Ij F.kind s _ hk hs) aa fun aS aV ax=> ?_
 obtain ⟨⟨Z,rfl,aL⟩,hE23⟩:=ax
 refine p (xt aa aa)<|p (xt aa aa)<|p aA<|aw<|G<|rt<|tr<|f2 aa aa aa ?_
 refine ⟨?_,hE23⟩
 by_cases h:(dY F.kind s).2=0
 exact .inl ⟨Z,_,by rw [h]; rfl,by rw [xW q]; exact yb h,aL⟩
 exact .inr ⟨Z,_,aa,h,by rw [xW q]; exact ya h⟩
 have q:F.aliases≠[]:=fun h=>by rw [h] at M; exact M rfl
 refine aM<|an<|ag fun G=>ak (str s)<|ak (aQ fb)<|p (nc aa)<|p (fa gG aa)<|p (fa pK aa)<|p (ld rq aa<|J)<|p (bK y9 aa aa)<|e<|cl xn (yC s (F.aliases.length:Nat) _ hs ab) aa fun aT aY aC=> ?_
 obtain ⟨rfl,i⟩:=aC
 refine p mv<|p (xt aa aa)<|p (xt aa aa)<|p aA<|aw<|G<|aB fun ap=>ag fun Y=>p mv<|p (db aa aa)<|p mv<|gs (t:=39) aa (fun aK=> ?_) fun aK=> ?_
 exact aE aa<|aE aa<|p (bB aa)<|nl<|Y<|ct aa<|ag fun A=>p aA<|aw<|A<|rt<|tr<|f2 aa aa aa<|⟨.inr ⟨.slice none 0 0,13,aa,az,HM q (pO ab).1⟩,i⟩
 refine aI aa mv<|aI aa (bJ aa aa)<|p (bp aa)<|nl<|Y<|cd aa (fun aH=> ?_) fun aH=> ?_
 refine ag fun A=>p aA<|aw<|A<|rt<|tr<|f2 aa aa aa ?_
 have E:=nW (by omega :(dZ s (F.aliases.length:Nat)).2=0)
 rw [show (dZ s (F.aliases.length:Nat)).1=0 from by omega] at E
 exact ⟨.inr ⟨.slice none 0 0,13,aa,az,HQ q E⟩,i⟩
 refine aM<|ap<|aB fun A=> ?_
 have E:=nW (by omega :(dZ s (F.aliases.length:Nat)).2=0)
 have aP:=qJ s (F.aliases.length:Nat) ab
 have ac:(dZ s (F.aliases.length:Nat)).1 - 1 < F.aliases.length:=ab
 obtain ⟨v51,U,I⟩:=eu.get (C.al.wk i) ac
 obtain ⟨a51,rA,rfl⟩:=I.slice
 have aG:=aF _<|dU (d:= []) ac
 refine rg aa<|ak (aQ fb)<|p (nc aa)<|p (fa gG aa)<|p (fa pK aa)<|p (ld rq aa<|Wk.aO i J)<|p mv<|p (dK (((dZ s (F.aliases.length:Nat)).1 - 1:Nat):Int) aa aa<|bj ab ab)<|p (a8 Bl aa aa ab<|aJ.ok ((a7<|aW O i).2) fun h=>by rw [h] at U; cases U)<|p (ld mZ aa<|aJ.gK (a7<|aW O i).2 U)<|e<|cl FV (vo (F.aliases.getD ((dZ s (F.aliases.length:Nat)).1 - 1) []) _ _ _ I.cI.2 (fun h=>Tg.tt I (by simp) h) ab) aa fun aU aZ aD=> ?_
 obtain ⟨ae,av⟩:=aD
 rw [Wg aG.2] at ae
 exact p aA<|aw<|A<|rt<|f2 aa aa aa<|⟨.inl ⟨_,_,aa,HP q E ab,ez ae i.size⟩,i.trans av⟩
theorem yM (B:Nat) (H:dm) (F:aR) (V:e6) (R:gW) (rows:List Rw) (ln:Nat) (seen:List Tx) (c:cX) (r:List Tx) (b3:Nat) (ar:Option Addr) (cr:Nat) (w:World) (E:dS w B H.fb H.mc F V) (C:du w B H F R rows ln seen) (aY:kM F rows seen) (d3:c.kind=1∨c.kind=2) (aq:Tg w b3 9 r.length (.slice ar r.length cr) (r.map str)) (bi:r.length≤70000∧∀ x∈r,x.length≤70000):
 fD ay 201 (bf [.pointer (some ⟨H.rb,0,none⟩),.agg (nI c).toArray,.slice ar r.length cr]) w (fun v w'=> ∃ q,fI F.kind F.aliases c ln r= .ok q∧q.line=ln∧(∃ vn,v= .agg (fz (q,vn)).toArray∧Tg w' B 51 q.next.length vn (q.next.map bg))∧Wk w w') (fun aj w'=> ∃ e,fI F.kind F.aliases c ln r= .error e∧aj=jh 47 ln (e:Nat)∧Wk w w'):=by
 have dY:=aq.cI
 have d8:=(cU.1 C.cells).1
 have d4:=C.lo.1
 refine kf func201 aa ntmps201 aa<|sq fun dK cy=>rg aa<|e<|jt aa fun aW eB d0 bw cj=>e<|al r7 fun Z aU d1 aK ck=> ?_
 have aE:Wk w aU:=bw.md.trans aK.md
 have bR:=Wk.aO aE C.dj
 have ee:=bw.size
 have eg:=aK.size
 refine nl<|tn<|cy _ _ ?_
 refine ed (fun aB b0=>(r.length=4∨r.length=5)∧(b0=aU)∧(aB 0= .pointer (some ⟨H.rb,0,none⟩))∧(aB 2= .slice ar r.length cr)∧(aB 4= .pointer (some ⟨aW,0,none⟩))∧(aB 6= .pointer (some ⟨Z,0,none⟩))) ?_ ?_
 refine rg aa<|p (aT (.pointer<|some ⟨H.rb,0,none⟩) aa)<|p (aT (.slice ar r.length cr) aa)<|p (bK eV aa aa)<|p (bJ aa aa)<|p mv<|gs (t:=20) aa (fun c6=> ?_) fun c6=> ?_
 refine sk aa aa aa aa<|sk aa aa aa aa<|sk aa aa aa aa<|p (bB aa)<|eP aa (dQ iy (iJ H.rb ln _ 111 aU bR az) aa fun dA dD bb=> ?_) fun c w' A O E=>by first | exact absurd A.2.1 az | exact ⟨111,Dk ab (by have :=of_decide_eq_false A.2.1; omega),A.1,by rw [A.2.2]; exact aE⟩
 obtain ⟨rfl,bU,rfl⟩:=bb
 exact nl<|tn<|⟨(.inl ab),aa,aa,aa,aa,aa⟩
 refine pg aa aa aa (aT (.slice ar r.length cr) aa)<|pg aa aa aa (bK eV aa aa)<|pg aa aa aa (bJ aa aa)<|p (bp aa)<|eP aa (dQ iy (iJ H.rb ln _ 111 aU bR az) aa fun dA dD bb=> ?_) fun c w' A O E=>by first | exact absurd A.2.1 az | exact ⟨111,Dk ab (by have :=of_decide_eq_false A.2.1; omega),A.1,by rw [A.2.2]; exact aE⟩
 obtain ⟨rfl,bU,rfl⟩:=bb
 exact nl<|tn<|⟨(.inr<|by have :=of_decide_eq_true bU; omega),aa,aa,aa,aa,aa⟩
 rintro aB b0 ⟨hlen,cu,c9,db,dc,dd⟩
 refine fx 0 c9<|fx 2 db<|fx 4 dc<|fx 6 dd ?_
 subst cu
 have aQ:=aK.md.B cj
 refine sq fun dL cz=>rg aa<|p (fa uO aa)<|p (ld bu aa<|(aQ.aO 1).trans aa)<|p (fa BH aa)<|p (ld cV aa<|(aQ.aO 0).trans aa)<|p (fa HY aa)<|p (ld kt aa<|(aQ.aO 2).trans aa)<|p (cQ (ps:= [(0,.int .i64 (c.kind:Nat)),(1,bg c.flag),(2,.bool c.ek),(5,str [46])]) (L:= [.int .i64 (c.kind:Nat),bg c.flag,.bool c.ek,.string ⟨⟨[]⟩⟩,.string ⟨⟨[]⟩⟩,str [46],.slice none 0 0]) Dz aa<|aa)<|e<|al r7 fun G eD d2 aL cm=> ?_
 have ej:=aL.size
 refine e<|cW pE aa aa aa aa (cm) (by simp) fun b1 aG ch=> ?_
 have aF:Wk w b1:=(aE.trans aL.md).trans' aG fun k hk h=>by omega
 have cY:=aG.B (aL.md.B aQ) fun h=>by omega
 have c0:=aG.B (aL.md.B ck) fun h=>by omega
 have el:=aG.size
 have bz:=(aq.wk aF).cI
 have d5:(r.getD 2 []).length≤70000:=bi.2 _<|dU ab
 have d6:(r.getD 3 []).length≤70000:=bi.2 _<|dU ab
 refine nl<|tn<|cz _ _<|sq fun dO cC=>rg aa<|p (aT (.pointer<|some ⟨H.rb,0,none⟩) aa)<|p (aT (.slice ar r.length cr) aa)<|p (a8 cH aa aa ab<|aJ.ok (bz.2)<|bS ab)<|p (ld bT aa<|ca.get (i:=2) bz.2 ab)<|eP aa (dQ FQ (Kc H.rb ln (r.getD 2 []) b1 (Wk.aO aF C.dj) ab) aa fun v37 eA cG=> ?_) fun c w' A O E=>by obtain ⟨e,he,h,h2⟩:=A; exact ⟨e,by rw [mJ hlen,he],h,aF.trans h2⟩
 obtain ⟨stx,bI,rfl,am⟩:=cG
 refine p (fa ti aa)<|e<|st kS aa aa (aa) (am.B ch) (by simp) fun b2 aH ci=> ?_
 have bo:bO b2.heap G [.int .i64 (c.kind:Nat),bg c.flag,.bool c.ek,str stx,str [],str [46],.slice none 0 0]:=ci
 have br:Wk w b2:=(aF.trans am).trans' aH fun k hk h=>by omega
 have ec:=am.size
 have bH:=aH.B (am.B cY) fun h=>by omega
 have bL:=aH.B (am.B c0) fun h=>by omega
 have bx:=(aq.wk br).cI
 have eb:=aH.size
 refine nl<|tn<|cC _ _<|sq fun dP cD=>rg aa<|p (aT (.slice ar r.length cr) aa)<|p (a8 cH aa aa ab<|aJ.ok (bx.2)<|bS ab)<|p (ld bT aa<|ca.get (i:=3) bx.2 ab)<|e<|cl Aq (DT (r.getD 3 []) _ ab) aa fun er dE cJ=> ?_
 obtain ⟨rfl,I⟩:=cJ
 have ae:=br.trans I
 have d9:=r4<|r.getD 3 []
 refine p mv<|p (xt aa aa)<|p (xt aa aa)<|p (xt aa aa)<|p (xt aa aa)<|p aA<|p aA<|p aA<|p aA<|nl<|tn<|cD _ _<|sq fun dR cE=>rg aa<|p (aT (.pointer<|some ⟨H.rb,0,none⟩) aa)<|p mv<|eP aa (dQ oC (oN H.rb ln ((bA<|r.getD 3 []).2.2.2:Nat) dE<|Wk.aO ae C.dj) aa fun es dF cK=> ?_) fun c w' A O E=>⟨_,by rw [mJ hlen,bI,EI (show (bA<|r.getD 3 []).2.2.2≠0 by have :=A.2.1; omega)],A.1,by rw [A.2.2]; exact ae⟩
 obtain ⟨rfl,aS,rfl⟩:=cK
 have aS:(bA<|r.getD 3 []).2.2.2=0:=ab
 refine nl<|tn<|cE _ _ ?_
 refine ed (fun U ai=> ∃ (Y:Tx),(jH (bA<|r.getD 3 [])= .ok Y)∧(bO ai.heap G [.int .i64 (c.kind:Nat),bg c.flag,.bool c.ek,str stx,str Y,str [46],.slice none 0 0])∧(bO ai.heap aW<|nI c)∧(∃ L,L.length=7∧bO ai.heap Z L)∧(Wk w ai)∧(U 0= .pointer (some ⟨H.rb,0,none⟩))∧(U 2= .slice ar r.length cr)∧(U 4= .pointer (some ⟨aW,0,none⟩))∧(U 6= .pointer (some ⟨Z,0,none⟩))∧(U 7= .pointer (some ⟨G,0,none⟩))∧(U 9=str (bA<|r.getD 3 []).2.1)∧(U 10= .bool (bA<|r.getD 3 []).2.2.1)) ?_ ?_
 refine sq fun aV ac=>rg aa<|p mv<|p (oO aa aa)<|nl<|tn<|ac _ _<|cd aa (fun aP=> ?_) fun aP=> ?_
 refine rg aa<|p (aT (.pointer<|some ⟨H.rb,0,none⟩) aa)<|p mv<|eP aa (dQ FY (Kp H.rb ln (bA<|r.getD 3 []).1 dF (Wk.aO ae C.dj) ab) aa fun et eC cL=> ?_) fun c w' A O E=>⟨_,by rw [mJ hlen,bI,EJ aS aP A.2.1],A.1,ae.trans A.2.2⟩
 obtain ⟨rfl,dx,an⟩:=cL
 refine p (fa BZ aa)<|e<|st kS aa aa (aa) (Wk.B (I.trans an) bo) (by simp) fun dJ ba cn=> ?_
 have cv:Wk w dJ:=(ae.trans an).trans' ba fun k hk h=>by omega
 have ef:=(I.trans an).size
 exact nl<|tn<|⟨(bA<|r.getD 3 []).1,(EK aS aP dx),cn,(ba.B (Wk.B (I.trans an) bH) fun h=>by omega),(⟨_,aa,ba.B (Wk.B (I.trans an) bL) fun h=>by omega⟩),cv,aa,aa,aa,aa,aa,aa,aa⟩
 exact aM<|tn<|⟨[],(EL aS<|jk.1 aP),(I.B bo),(I.B bH),(⟨_,aa,I.B bL⟩),ae,aa,aa,aa,aa,aa,aa,aa⟩
 rintro U ai ⟨Y,au,aD,cZ,bM,J,de,dg,dh,di,dk,dl,df⟩
 refine fx 0 de<|fx 2 dg<|fx 4 dh<|fx 6 di<|fx 7 dk<|fx 9 dl<|fx 10 df ?_
 skip
 refine ed (fun aC M=> ∃ (nx:List Nat) (vn:Value),(kY F.kind F.aliases c.kind (bA<|r.getD 3 [])= .ok nx)∧(bO M.heap G [.int .i64 (c.kind:Nat),bg c.flag,.bool c.ek,str stx,str Y,str [46],vn])∧(Tg M (G+1) 51 nx.length vn<|nx.map bg)∧(∃ L,L.length=7∧bO M.heap Z L)∧(Wk w M)∧(aC 0= .pointer (some ⟨H.rb,0,none⟩))∧(aC 2= .slice ar r.length cr)∧(aC 6= .pointer (some ⟨Z,0,none⟩))∧(aC 7= .pointer (some ⟨G,0,none⟩))) ?_ ?_
 refine sq fun aV ac=>rg aa<|p (aT (.bool (bA<|r.getD 3 []).2.2.1) aa)<|nl<|tn<|ac _ _<|cb aa (fun av=> ?_) fun av=> ?_
 skip
 refine sq fun b4 a2=>rg aa<|p (aT (.pointer<|some ⟨H.rb,0,none⟩) aa)<|p (fa uO aa)<|p (ld bu aa<|(cZ.aO 1).trans aa)<|p (bJ aa aa)<|eP aa (dQ iy (iJ H.rb ln _ 118 ai (Wk.aO J C.dj) az) aa fun eu bY cM=> ?_) fun aj w' A O E=>by have dX:=of_decide_eq_false A.2.1; exact ⟨118,by rw [mJ hlen,bI]; simp only; rw [au]; simp only; rw [JH av ab],A.1,by rw [A.2.2]; exact J⟩
 obtain ⟨rfl,bV,rfl⟩:=cM
 have bV:=of_decide_eq_true bV
 refine nl<|tn<|a2 _ _<|sq fun b5 a3=>rg aa<|p (aT (.pointer<|some ⟨H.rb,0,none⟩) aa)<|p (nc aa)<|p (fa ij aa)<|p (ld gn aa<|Wk.aO J<|(aX C.cells).trans aa)<|p (aT (str (bA<|r.getD 3 []).2.1) aa)<|e<|cl FD (Hv B H.fb H.mc F V (bA<|r.getD 3 []).2.1 _ (E.wk J) aY.kd aY.al (by have :=aY.len; omega)<|by have :=r4 (r.getD 3 []); omega) aa fun dB bZ cN=> ?_
 obtain ⟨c4,ag⟩:=cN
 obtain ⟨bm,bn,rfl,bP⟩:∃ a,∃ e:Nat,dB= .tuple #[a,.int .i64 (e:Nat)]∧((e=0∧∃ l,fV F.kind F.aliases (bA<|r.getD 3 []).2.1= .ok l∧bq bZ bY.heap.size 51 1 a l.length (l.map bg))∨(e≠0∧fV F.kind F.aliases (bA<|r.getD 3 []).2.1= .error e)):=by
  rcases c4 with ⟨a,l,h1,h2,h3⟩ | ⟨a,e,h1,h2,h3⟩
  exact ⟨a,0,h1,.inl ⟨aa,l,h2,h3⟩⟩
  exact ⟨a,e,h1,.inr ⟨h2,h3⟩⟩
 refine p mv<|p (xt aa aa)<|p (xt aa aa)<|p aA<|p aA<|nl<|tn<|a3 _ _<|sq fun b6 a4=>rg aa<|p (aT (.pointer<|some ⟨H.rb,0,none⟩) aa)<|p mv ?_
 refine eP aa (dQ oC (oN H.rb ln (bn:Nat) bZ<|Wk.aO (J.trans ag) C.dj) aa fun ev dG cO=> ?_) (fun aj w' A O E=>by
  rcases bP with ⟨h,_⟩ | ⟨h,h1⟩
  exact absurd ab A.2.1
  exact ⟨bn,by rw [mJ hlen,bI]; simp only; rw [au]; simp only; rw [yz av ab,h1],A.1,by rw [A.2.2]; exact J.trans ag⟩)
 obtain ⟨rfl,ea,rfl⟩:=cO
 obtain ⟨nx,aw,bc⟩:∃ l,fV F.kind F.aliases (bA<|r.getD 3 []).2.1= .ok l∧bq dG bY.heap.size 51 1 bm l.length (l.map bg):=by
  rcases bP with ⟨_,h⟩ | ⟨h,_⟩
  exact h
  exact absurd ab h
 refine nl<|tn<|a4 _ _<|rg aa<|p mv<|p (fa qw aa)<|e<|st sS aa aa (eU bc) (ag.B aD) (by simp) fun dH a6 b9=> ?_
 have cp:Wk w dH:=(J.trans ag).trans' a6 fun k hk h=>by omega
 have ei:=ag.size
 exact nl<|tn<|⟨nx,bm,(by rw [yz av ab]; exact aw),b9,((Tg.jM<|dq bc a6 fun k hk h=>by have :=dM bc hk; have :=aD.lt; omega).mono aD.lt),(by obtain ⟨L,a5,aN⟩:=bM; exact ⟨L,a5,a6.B (ag.B aN) fun h=>by omega⟩),cp,aa,aa,aa,aa⟩
 exact aM<|tn<|⟨[],.slice none 0 0,(JI<|by simpa using av),aD,(⟨none,0,aa,cA _,.inl aa⟩),bM,J,aa,aa,aa,aa⟩
 rintro aC M ⟨nx,vn,aw,aZ,bF,bN,ap,dn,dp,dr,ds⟩
 refine fx 0 dn<|fx 2 dp<|fx 6 dr<|fx 7 ds ?_
 refine ed (fun bl ax=> ∃ (ak:Tx),(kR r= .ok ak)∧(bO ax.heap G [.int .i64 (c.kind:Nat),bg c.flag,.bool c.ek,str stx,str Y,str ak,vn])∧(Tg ax (G+1) 51 nx.length vn<|nx.map bg)∧(∃ L,L.length=7∧bO ax.heap Z L)∧(Wk w ax)∧(bl 6= .pointer (some ⟨Z,0,none⟩))∧(bl 7= .pointer (some ⟨G,0,none⟩))) ?_ ?_
 refine sq fun aV ac=>rg aa<|p (aT (.slice ar r.length cr) aa)<|p (bK eV aa aa)<|p (bJ aa aa)<|nl<|tn<|ac _ _<|cd aa (fun c3=> ?_) fun c3=> ?_
 have bh:r.length=5:=ab
 have d7:(r.getD 4 []).length≤70000:=bi.2 _<|dU ab
 have bC:=(aq.wk ap).cI
 refine sq fun b4 a2=>rg aa<|p (aT (.pointer<|some ⟨H.rb,0,none⟩) aa)<|p (aT (.slice ar r.length cr) aa)<|p (a8 cH aa aa ab<|aJ.ok (bC.2)<|bS ab)<|p (ld bT aa<|ca.get (i:=4) bC.2 ab)<|eP aa (dQ Ax (C3 H.rb ln (r.getD 4 []) M (Wk.aO ap C.dj) ab) aa fun ew eE cP=> ?_) fun aj w' A O E=>⟨21,by rw [mJ hlen,bI]; simp only; rw [au]; simp only; rw [aw]; simp only; rw [Gz bh A.2.1],A.1,ap.trans A.2.2⟩
 obtain ⟨rfl,bW,a1⟩:=cP
 have bs:=ap.trans a1
 have bD:=(aq.wk bs).cI
 refine nl<|tn<|a2 _ _<|sq fun b5 a3=>rg aa<|p (aT (.slice ar r.length cr) aa)<|p (a8 cH aa aa ab<|aJ.ok (bD.2)<|bS ab)<|p (ld bT aa<|ca.get (i:=4) bD.2 ab)<|e<|cl FE (GH (r.getD 4 []) _ ab) aa fun ex eF cR=> ?_
 obtain ⟨⟨dV,rfl,bd⟩,hE89⟩:=cR
 obtain ⟨dy,dz,rfl⟩:=cB bd
 have bt:=bs.trans hE89
 refine p mv<|p (xt aa aa)<|p (xt aa aa)<|e<|al zj fun dW dC dZ aI cc=> ?_
 have cq:=bt.trans aI.md
 refine e<|cW qo aa aa aa aa (cc) (by simp) fun bk ah ce=> ?_
 have a0:Wk w bk:=cq.trans' ah fun k hk h=>by have :=bt.size; omega
 have bj:Wk M dC:=(a1.trans hE89).trans aI.md
 have en:=a1.size
 have eo:=hE89.size
 have ep:=aI.size
 have eq:=ah.size
 have dw:Wk M bk:=bj.trans' ah fun k hk h=>by omega
 refine p aA<|nl<|tn<|a3 _ _<|sq fun b6 a4=>rg aa<|p (aT (.pointer<|some ⟨H.rb,0,none⟩) aa)<|p mv<|eP aa (dQ oC (oN H.rb ln ((c8<|r.getD 4 []).2:Nat) bk<|Wk.aO a0 C.dj) aa fun ey eG cS=> ?_) fun aj w' A O E=>⟨_,by rw [mJ hlen,bI]; simp only; rw [au]; simp only; rw [aw]; simp only; rw [GA bh bW (by have :=A.2.1; omega)],A.1,by rw [A.2.2]; exact a0⟩
 obtain ⟨rfl,bX,rfl⟩:=cS
 have bX:(c8<|r.getD 4 []).2=0:=ab
 refine nl<|tn<|a4 _ _<|rg aa<|p (da mY aa (aa) fun j bQ=>ce.bG j)<|e<|cl PD (WN (c8<|r.getD 4 []).1 dy dz _ (aJ.md (aJ.wk (a7 bd).2 aI.md) ah fun c7 h=>by have :=Wq bd c7; omega)<|by have :=GG (r.getD 4 []); omega) aa fun ez eH cT=> ?_
 obtain ⟨rfl,ao⟩:=cT
 have cw:=a0.trans ao
 have em:=ao.size
 refine p (fa Ib aa)<|e<|st kS aa aa (aa) (ao.B<|ah.B (bj.B aZ) fun h=>by have :=aZ.lt; omega) (by simp) fun dI a9 cf=> ?_
 have ct:Wk w dI:=cw.trans' a9 fun k hk h=>by omega
 exact nl<|tn<|⟨ma (c8<|r.getD 4 []).1,(GB bh bW bX),cf,(Tg.Ju (Tg.wk bF<|dw.trans ao) a9 fun k hk=>by omega),(by obtain ⟨L,a5,aN⟩:=bN; exact ⟨L,a5,a9.B (ao.B<|ah.B (bj.B aN) fun h=>by have :=aN.lt; omega) fun h=>by omega⟩),ct,aa,aa⟩
 exact aM<|tn<|⟨[46],(GC ab),aZ,bF,bN,ap,aa,aa⟩
 rintro bl ax ⟨ak,c5,co,bE,c1,cx,dt,dv⟩
 refine fx 6 dt<|fx 7 dv ?_
 obtain ⟨dT,cF,c2⟩:=c1
 obtain ⟨b7,b8,rfl⟩:=bE.slice
 exact sq fun aV ac=>rg aa<|p (da m3 aa (aa) fun j bQ=>co.bG j)<|e<|cW pE aa aa aa aa (c2) (by rw [cF]; decide) fun eI bv cg=>nl<|tn<|ac _ _<|rt<|jL<|uK aa (dN (cs:=fz (⟨c.kind,c.flag,c.ek,stx,Y,ak,nx,ln⟩,.slice b7 nx.length b8)) aa m3 aa fun j bQ=>by rw [cg.bG j,gU ab,eh]; rfl)<|⟨⟨c.kind,c.flag,c.ek,stx,Y,ak,nx,ln⟩,by rw [mJ hlen,bI]; simp only; rw [au]; simp only; rw [aw]; simp only; rw [c5],aa,⟨_,aa,(Tg.Ju bE bv fun k hk=>by have :=aK.size; omega).mono ab⟩,cx.trans' bv fun k hk h=>by omega⟩
end Go.Hb.fX
end
section
namespace Go.Hb.lU
open Go.Hb.fX Go.Hb.gX Go.Hb.ow Go.Hb.ka
theorem dS.Aa {w A G:World} {B fb mc:Nat} {F:aR} {V:e6} {v:Value} {x:Tx×Tx} (h:dS w B fb mc F V) (hm:Md (fun k=>V.v9.ownBlock=some k) w A) (M:bq A B 128 2 v (F.dd++ [x]).length (kZ<|F.dd++ [x])) (a:Md (fun k=>k=fb) A G) (O:G.heap[fb]? =some (.cells (oF {F with dd:=F.dd++ [x]} {V with v9:=v} mc).toArray 125 (0,0))):dS G B fb mc {F with dd:=F.dd++ [x]} {V with v9:=v} :=by
 have i:TF w [130] (fun k=>V.v9.ownBlock=some k):=TF.own h.o9 az
 have E:=hm.gL i h.cells az
 have C:TF A [127] (fun k=>k=fb):=TF.eq (dt E) az
 have I:∀ k,V.v9.ownBlock=some k→∀ cur z,w.heap[k]?≠some (.cells cur 51 z):=il h.o9 az
 have J:∀ k,k=fb→∀ cur z,A.heap[k]?≠some (.cells cur 51 z):=fu E az
 obtain ⟨f,q,U⟩:=h.cm
 have Y:=eD<|q.md hm<|i.no (eD q) az
 exact ⟨O,dq M a (fun k hk q=>dC M E az<|q ▸ hk),cj (cj h.eT hm i az) a C az,(h.al.md hm I).md a J,cj (cj h.ep hm i az) a C az,cj (cj h.dB hm i az) a C az,(h.nx.md hm I).md a J,⟨f,(q.md hm<|i.no (eD q) az).md a (C.no Y az),U⟩,h.lo,h.fR⟩
theorem dS.z7 {w A J:World} {B fb mc:Nat} {F:aR} {V:e6} {v:Value} {x:List Nat} {vx:Value} (h:dS w B fb mc F V) (Z:Tg w B 51 x.length vx (x.map bg)) (hm:Md (fun k=>V.v10.ownBlock=some k) w A) (M:bq A B 70 1 v (F.aliases++ [x]).length (V.sa++ [vx])) (a:Md (fun k=>k=fb) A J) (O:J.heap[fb]? =some (.cells (oF {F with aliases:=F.aliases++ [x]} {V with v10:=v,sa:=V.sa++ [vx]} mc).toArray 125 (0,0))):dS J B fb mc {F with aliases:=F.aliases++ [x]} {V with v10:=v,sa:=V.sa++ [vx]} :=by
 have i:TF w [72] (fun k=>V.v10.ownBlock=some k):=TF.own h.eT az
 have E:=hm.gL i h.cells az
 have C:TF A [127] (fun k=>k=fb):=TF.eq (dt E) az
 have G:∀ k,V.v10.ownBlock=some k→∀ cur z,w.heap[k]?≠some (.cells cur 51 z):=il h.eT az
 have I:∀ k,k=fb→∀ cur z,A.heap[k]?≠some (.cells cur 51 z):=fu E az
 obtain ⟨f,q,U⟩:=h.cm
 have Y:=eD<|q.md hm<|i.no (eD q) az
 exact ⟨O,cj (cj h.o9 hm i az) a C az,dq M a (fun k hk q=>dC M E az<|q ▸ hk),((h.al.md hm G).md a I).snoc ((Z.md hm G).md a I),cj (cj h.ep hm i az) a C az,cj (cj h.dB hm i az) a C az,(h.nx.md hm G).md a I,⟨f,(q.md hm<|i.no (eD q) az).md a (C.no Y az),U⟩,h.lo,h.fR⟩
theorem dS.xi {w A J:World} {B fb mc:Nat} {F:aR} {V:e6} {v:Value} {x:c7} {vx:Value} (h:dS w B fb mc F V) (Z:Tg w B 51 x.next.length vx (x.next.map bg)) (hm:Md (fun k=>V.v12.ownBlock=some k) w A) (M:bq A B 77 7 v (F.rules++ [x]).length (iS<|(F.rules++ [x]).zip<|V.rn++ [vx])) (a:Md (fun k=>k=fb) A J) (O:J.heap[fb]? =some (.cells (oF {F with rules:=F.rules++ [x]} {V with v12:=v,rn:=V.rn++ [vx]} mc).toArray 125 (0,0))):dS J B fb mc {F with rules:=F.rules++ [x]} {V with v12:=v,rn:=V.rn++ [vx]} :=by
 have i:TF w [79] (fun k=>V.v12.ownBlock=some k):=TF.own h.dB az
 have E:=hm.gL i h.cells az
 have C:TF A [127] (fun k=>k=fb):=TF.eq (dt E) az
 have G:∀ k,V.v12.ownBlock=some k→∀ cur z,w.heap[k]?≠some (.cells cur 51 z):=il h.dB az
 have I:∀ k,k=fb→∀ cur z,A.heap[k]?≠some (.cells cur 51 z):=fu E az
 obtain ⟨f,q,U⟩:=h.cm
 have Y:=eD<|q.md hm<|i.no (eD q) az
 exact ⟨O,cj (cj h.o9 hm i az) a C az,cj (cj h.eT hm i az) a C az,(h.al.md hm G).md a I,cj (cj h.ep hm i az) a C az,dq M a (fun k hk q=>dC M E az<|q ▸ hk),(by rw [iu]; exact ((h.nx.md hm G).md a I).snoc<|(Z.md hm G).md a I),⟨f,(q.md hm<|i.no (eD q) az).md a (C.no Y az),U⟩,h.lo,h.fR⟩
theorem du.own {w w':World} {B:Nat} {H:dm} {F:aR} {R:gW} {rows:List Rw} {ln:Nat} {seen:List Tx} {B' e s n:Nat} {v:Value} {xs:List Value} (h:du w B H F R rows ln seen) (C:bq w B' e s v n xs) (hm:Md (fun k=>v.ownBlock=some k) w w') (i:([e+2].contains 197 || [e+2].contains 211 || [e+2].contains 11 || [e+2].contains 5)=false):du w' B H F R rows ln seen:=by
 have a:TF w [e+2] (fun k=>v.ownBlock=some k):=TF.own C<|by simp
 obtain ⟨f,q,_⟩:=h.sm
 obtain ⟨g,A,_⟩:=h.tm
 exact h.md hm a i (a.no (eD q)<|by simp)<|a.no (eD A)<|by simp
theorem du.oE {w w':World} {B:Nat} {H:dm} {F:aR} {R:gW} {rows:List Rw} {ln:Nat} {seen:List Tx} {cs:Array Value} {z:Nat×Nat} (h:du w B H F R rows ln seen) (i:w.heap[H.fb]? =some (.cells cs 125 z)) (hm:Md (fun k=>k=H.fb) w w'):du w' B H F R rows ln seen:=by
 have a:TF w [127] (fun k=>k=H.fb):=TF.eq (dt i) az
 obtain ⟨f,q,C⟩:=h.sm
 obtain ⟨g,A,E⟩:=h.tm
 exact h.md hm a az (a.no (eD q) az)<|a.no (eD A) az
theorem Tg.CS {w:World} {b e n:Nat} {L:List Value} {z:Nat×Nat} (h:w.heap[b]? =some (.cells L.toArray e z)) (hn:n=L.length):Tg w b e n (.slice (some ⟨b,0,none⟩) n n) L:=⟨_,_,rfl,cA _,.inr ⟨b,_,_,rfl,cA _,h,fun j u hu=>by simpa using hu⟩⟩
theorem kM.pF {F:aR} {q:Rw} {rest:List Rw} {seen:List Tx} (h:kM F (q::rest) seen):kM F rest seen:=⟨by have :=h.len; simp only [cO] at this; omega,by have :=h.sl; simp only [cO] at this; omega,fun a h2=>h.row a (List.mem_cons_of_mem _ h2),h.kd,h.al⟩
theorem Kx {eof ln e:Nat} {F:aR} {rows:List Rw} {r:List Tx} (h:eX (r.getD 1 []) 256= .error e):kn eof F rows ln r= .error (ln,e):=by unfold kn; rw [h]
theorem vA {eof ln n:Nat} {F:aR} {rows:List Rw} {r:List Tx} {e:Nat×Nat} (h:eX (r.getD 1 []) 256= .ok n) (h1:group [ff] kJ eof n rows= .error e):kn eof F rows ln r= .error e:=by unfold kn; rw [h]; simp only; rw [h1]
theorem W6 {eof ln n:Nat} {F:aR} {rows:List Rw} {r:List Tx} {q:List (Tx×Tx)×List Rw} (h:eX (r.getD 1 []) 256= .ok n) (h1:group [ff] kJ eof n rows= .ok q):kn eof F rows ln r= .ok ({F with dd:=F.dd++q.1},q.2):=by unfold kn; rw [h]; simp only; rw [h1]
theorem CM {s:Tx} {most:Int} {n:Nat} (h:eX s most= .ok n):(n:Int)≤most:=by
 unfold eX at h
 split at h
 · cases h
 · rename_i a; cases h; exact qJ s most<|jk.1 a
theorem zZ {eof ln:Nat} {F:aR} {hs:List Tx} {rows:List Rw} {r:List Tx} (h:fH∈hs∨di∈hs):jS eof F hs rows ln r= .error (ln,113):=if_pos h
theorem E2 {eof ln e:Nat} {F:aR} {hs:List Tx} {rows:List Rw} {r:List Tx} (a:¬(fH∈hs∨di∈hs)) (h:eX (r.getD 1 []) 1024= .error e):jS eof F hs rows ln r= .error (ln,e):=by unfold jS; rw [if_neg a,h]
theorem xh {eof ln n:Nat} {F:aR} {hs:List Tx} {rows:List Rw} {r:List Tx} {e:Nat×Nat} (a:¬(fH∈hs∨di∈hs)) (h:eX (r.getD 1 []) 1024= .ok n) (h1:group [eI] (ku F.kind) eof n rows= .error e):jS eof F hs rows ln r= .error e:=by unfold jS; rw [if_neg a,h]; simp only; rw [h1]
theorem N7 {eof ln n:Nat} {F:aR} {hs:List Tx} {rows:List Rw} {r:List Tx} {q:List (List Nat)×List Rw} (a:¬(fH∈hs∨di∈hs)) (h:eX (r.getD 1 []) 1024= .ok n) (h1:group [eI] (ku F.kind) eof n rows= .ok q):jS eof F hs rows ln r= .ok ({F with aliases:=F.aliases++q.1},q.2):=by unfold jS; rw [if_neg a,h]; simp only; rw [h1]
theorem E1 {kind ln:Nat} {r:List Tx} (h:r.length≠2):ku kind ln r= .error 111:=if_pos h
theorem xg {kind ln:Nat} {r:List Tx} (h:r.length=2):ku kind ln r=kU kind (r.getD 1 []):=if_neg ab
theorem Ie {kind:Nat} {s:Tx} (h:(dY kind s).2=0):(dY kind s).1.length≤64∧(dY kind s).1.Pairwise (· < ·):=by
 unfold dY at h ⊢
 split
 · simp
 · split
   · simp
   · split
     · simp
     · rename_i h3
       exact ⟨by have :=Wf ((dF kind s).map<|eH kind); rw [fM] at this; exact gk this ab,CQ _⟩
theorem Kt {ln:Nat} {r:List Tx} (h:r.length≠3):kJ ln r= .error 111:=if_pos h
theorem Ku {ln e:Nat} {r:List Tx} (h:r.length=3) (h1:eA false (r.getD 1 [])= .error e):kJ ln r= .error e:=by unfold kJ; rw [if_neg ab,h1]
theorem Kv {ln e:Nat} {r:List Tx} {a:Tx} (h:r.length=3) (h1:eA false (r.getD 1 [])= .ok a) (h2:eA true (r.getD 2 [])= .error e):kJ ln r= .error e:=by unfold kJ; rw [if_neg ab,h1]; simp only; rw [h2]
theorem Kw {ln:Nat} {r:List Tx} {a b:Tx} (h:r.length=3) (h1:eA false (r.getD 1 [])= .ok a) (h2:eA true (r.getD 2 [])= .ok b):kJ ln r= .ok (a,b):=by unfold kJ; rw [if_neg ab,h1]; simp only; rw [h2]
theorem W8 (B:Nat) (H:dm) (F:aR) (rows:List Rw) (ln:Nat) (seen:List Tx) (r:List Tx) (bc:Nat) (ar:Option Addr) (cr:Nat) (w:World) (G:St w B H F rows ln seen) (bD:Tg w bc 9 r.length (.slice ar r.length cr) (r.map str)) (ck:r.length=2) (bN:∀ x∈r,x.length≤70000):
 fD ay 133 (bf [.pointer (some ⟨H.rb,0,none⟩),.slice ar r.length cr]) w (jq B H seen (kn H.eof F rows ln r) w) (jo B H (kn H.eof F rows ln r) w):=by
 obtain ⟨V,R,ac,aI,aU⟩:=G
 have a5:=bD.cI
 have cl:(r.getD 1 []).length≤70000:=bN _<|dU ab
 have ci:=aI.lo
 have ce:=aU.len
 refine kf func133 aa ntmps133 aa<|sq fun b0 bl=>rg aa<|p (aT (.pointer<|some ⟨H.rb,0,none⟩) aa)<|p (aT (.slice ar r.length cr) aa)<|p (a8 cH aa aa ab<|aJ.ok (a5.2)<|bS ab)<|p (ld bT aa<|ca.get (i:=1) a5.2 ab)<|eP aa (dQ xp (yI H.rb ln (r.getD 1 []) 256 w aI.dj ab ab) aa fun v10 cq bw=> ?_) fun c w' C aB ac=>by obtain ⟨e,he,h,h2⟩:=C; exact ⟨ln,e,Kx he,h,Wk.mw h2⟩
 obtain ⟨n,U,rfl,aD⟩:=bw
 have cj:=CM U
 refine p mv<|nl<|tn<|bl _ _<|aH<|lp (fun aS aC an=> ∃ (i:Nat) (xs:List (Tx×Tx)) (rows':List Rw) (ax:Nat) (A:e6) (R':gW),(i≤n)∧(iU [ff] kJ H.eof (group [ff] kJ H.eof n rows) xs (n - i) rows')∧(xs.length=i)∧(dS an B H.fb H.mc {F with dd:=F.dd++xs} A)∧(du an B H F R' rows' ax seen)∧(kM {F with dd:=F.dd++xs} rows' seen)∧(fC B H w an)∧(aC 0= .pointer (some ⟨H.rb,0,none⟩))∧(aC 10= .int .i64 (n:Nat))∧(aC 11= .int .i64 (i:Nat))∧(n - i=aS)) _ ⟨0,[],rows,ln,V,R,ab,iU.start,aa,(by rw [eh]; exact ac.wk aD),(aI.wk aD),(by rw [eh]; exact aU),(Wk.mw aD),aa,aa,aa,aa⟩ ?_
 rintro aS aC an ⟨i,xs,rows',ax,A,R',hi,I,bU,aV,ak,ah,aW,bO,bP,bQ,rfl⟩
 refine fx 0 bO<|fx 10 bP<|fx 11 bQ<|sq fun b1 bm=>rg aa<|p (lt aa aa)<|nl<|tn<|bm _ _<|sq fun b2 bo=>cd aa (fun bF=> ?_) fun bF=> ?_
 refine aM<|tn<|bo _ _<|sq fun b3 bp=>aH<|sq fun b4 br=>rg aa<|p (aT (.pointer<|some ⟨H.rb,0,none⟩) aa)<|e<|sL (L:= [str ff]) fQ aa aa aa aa fun bg ba cb bv bh=> ?_
 have Z:Wk an ba:=bv.md
 have aY:=aW.trans<|Wk.mw Z
 refine eP aa (dQ Az (Co B H F R' rows' ax seen [ff] bg 1 _ _ ba (ak.wk Z) (Tg.CS bh aa) aa az fun q bM=>(ah.row q bM).2.1) aa fun cn bV bx=> ?_) (fun c w' C aB ac=>by
  obtain ⟨h1,h2⟩:=C
  have hm:=aY.trans<|fC.rb (ak.wk Z) h2
  rcases h1 with ⟨rfl,h3⟩ | ⟨ag,O,rest,rfl,h4,h3⟩
  exact ⟨_,_,vA U (I.ends ab),h3,hm⟩
  exact ⟨_,_,vA U (I.other ab h4),h3,hm⟩)
 obtain ⟨ag,O,rest,rfl,aw,⟨bd,aK⟩,hT15,hM15⟩:=bx
 obtain ⟨b7,b9,rfl⟩:=hT15.slice
 have bk:=(aV.wk Z).rb (ak.wk Z) hM15
 have aG:=aY.trans<|fC.rb (ak.wk Z) hM15
 have a9:O≠[]∧O.length≤70000∧∀ x∈O,x.length≤70000:=ah.row (ag,O)<|by simp
 have ao:=kM.pF ah
 have a3:=hT15.cI
 have bE:=ah.len
 simp only [cO,bL] at bE
 refine p aA<|nl<|tn<|br _ _<|sq fun b5 bs=>rg aa<|p (aT (.pointer<|some ⟨H.rb,0,none⟩) aa)<|p mv<|p (bK eV aa aa)<|p (bJ aa aa)<|eP aa (dQ iy (iJ H.rb ag _ 111 bV aK.dj az) aa fun v20 bW bz=> ?_) fun c w' C aB ac=>⟨_,_,vA U (I.bad ab aw<|Kt<|by have :=of_decide_eq_false C.2.1; omega),C.1,by rw [C.2.2]; exact aG⟩
 obtain ⟨rfl,bR,rfl⟩:=bz
 have aQ:O.length=3:=by have :=of_decide_eq_true bR; omega
 have cg:=a9.2.2 _<|dU (d:= []) (i:=1) ab
 have ch:=a9.2.2 _<|dU (d:= []) (i:=2) ab
 refine nl<|tn<|bs _ _<|sq fun b6 bt=>rg aa<|p (aT (.pointer<|some ⟨H.rb,0,none⟩) aa)<|p mv<|p (a8 cH aa aa ab<|aJ.ok (a3.2)<|bS ab)<|p (ld bT aa<|ca.get (i:=1) a3.2 ab)<|eP aa (dQ FP (Kf H.rb ag (O.getD 1 []) bW aK.dj ab) aa fun co Y bA=> ?_) fun c w' C aB ac=>by obtain ⟨e,he,h,h2⟩:=C; exact ⟨_,_,vA U (I.bad ab aw<|Ku aQ he),h,aG.trans<|Wk.mw h2⟩
 obtain ⟨J,a7,rfl,aq⟩:=bA
 have ae:=bk.wk aq
 have am:=aK.wk aq
 have a4:=hT15.wk aq
 have aZ:=aG.trans<|Wk.mw aq
 have aP:¬(A.v9.ownBlock=some H.rb):=dC ae.o9 am.cells az
 have bG:¬(A.v9.ownBlock=some H.fb):=dC ae.o9 ae.cells az
 refine p aA<|nl<|tn<|bt _ _ ?_
 have a:(fun w'=>Md (fun k=>A.v9.ownBlock=some k) Y w') Y.drew:=(Md.refl _ _).drew
 refine eS (fun w'=>Md (fun k=>A.v9.ownBlock=some k) Y w') 24 aa wide a<|dx 0 aa aj (fun _=>aT (.pointer<|some ⟨H.rb,0,none⟩) aa) (fun _=>a)<|dx 1 aa aj (fun _=>nc aa) (fun _=>a)<|dx 2 aa aj (fun _=>fa ij aa) (fun _=>a)<|kI 3 aa aj (fun w' G=>ld gn aa<|Md.aO G ((aX am.cells).trans aa) aP) a<|dx 4 aa aj (fun _=>aT (.pointer<|some ⟨H.rb,0,none⟩) aa) (fun _=>a)<|dx 5 aa aj (fun _=>nc aa) (fun _=>a)<|dx 6 aa aj (fun _=>fa ij aa) (fun _=>a)<|kI 7 aa aj (fun w' G=>ld gn aa<|Md.aO G ((aX am.cells).trans aa) aP) a<|dx 8 aa aj (fun _=>nc aa) (fun _=>a)<|dx 9 aa aj (fun _=>fa gG aa) (fun _=>a)<|dx 10 aa aj (fun _=>fa x9 aa) (fun _=>a)<|kI 11 aa aj (fun w' G=>ld EZ aa<|Md.aO G ((aX ae.cells).trans aa) bG) a<|dx 12 aa aj (fun _=>mv) (fun _=>a)<|dx 13 aa aj (fun _=>aT (.pointer<|some ⟨H.rb,0,none⟩) aa) (fun _=>a)<|dx 14 aa aj (fun _=>mv) (fun _=>a) ?_
 refine dx 15 aa aj (fun _=>a8 cH aa aa ab<|aJ.ok (a4.cI.2)<|bS ab) (fun _=>a)<|kI 16 aa aj (fun w' G=>ld bT aa<|ca.get (i:=2) (a4.md G<|il ae.o9 az).cI.2 ab) a<|Jh 17 aa aj aa (dQ FQ (Kc H.rb ag (O.getD 2 []) Y.drew (Md.aO a am.dj aP) ab) aa fun cp bY bB=> ?_) fun c w' C aB ac=>by obtain ⟨e,he,h,h2⟩:=C; exact ⟨_,_,vA U (I.bad ab aw<|Kv aQ a7 he),h,aZ.trans<|Wk.mw<|iq h2⟩
 obtain ⟨M,bI,rfl,au⟩:=bB
 have au:=iq au
 have aL:(fun w'=>Md (fun k=>A.v9.ownBlock=some k) Y w') bY:=Md.mono au fun _ _ h=>h.elim
 refine ⟨aL,?_⟩
 refine dx 18 aa aj (fun _=>cQ (ps:= [(0,str J),(1,str M)]) (L:= [str J,str M]) Yf aa<|aa) (fun _=>aL)<|gP 19 aa aj<|kQ yU aa aa aa fun b8 bZ cc a0 bi=> ?_
 have aE:=au.trans a0.md
 have E:=ae.wk aE
 have a1:=am.wk aE
 have a2:(fun w'=>Md (fun k=>A.v9.ownBlock=some k) Y w') bZ:=aL.trans' a0.md fun _ _ h=>h.elim
 refine ⟨a2,?_⟩
 refine gP 20 aa aj<|ap yU (E.o9) aa (by have :=(cU.1 a1.cells).1; omega) aa (aJ.dX bi) (aa) (aa) (by simp only [bL]; omega) (by simp only [bL]; omega) fun v46 bb a6 ai cm cf=> ?_
 have bu:=(aZ.trans<|Wk.mw aE).trans<|Mw.of ai (TF.own E.o9 az) fun k hk=>(dM E.o9 hk).1
 have bC:=du.own a1 E.o9 ai az
 have aN:=ai.aH E.cells<|dC E.o9 E.cells az
 have bH:bq bb B 128 2 v46 ((F.dd++xs)++ [(J,M)]).length (kZ<|(F.dd++xs)++ [(J,M)]):=by rw [show kZ ((F.dd++xs)++ [(J,M)])=kZ (F.dd++xs)++ [str J,str M] from by simp [kZ],bL]; exact a6
 have av:(fun w'=>Md (fun k=>A.v9.ownBlock=some k) Y w') bb:=a2.trans' ai fun _ _ h=>h
 refine ⟨av,?_⟩
 exact dx 21 aa aj (fun _=>nc aa) (fun _=>av)<|dx 22 aa aj (fun _=>fa gG aa) (fun _=>av)<|dx 23 aa aj (fun _=>fa x9 aa) (fun _=>av)<|dH 24 aa aj aj<|cw GQ aa aa (v:=v46) (eU a6) aN (by show _ < 14; omega) fun cs aF bj=>eR aj<|bn<|tn<|bp _ _<|rg aa<|p (ad aa aa<|bX ab)<|p mv<|nl<|tn<|⟨_,ab,i+1,xs++ [(J,M)],rest,ag,{A with v9:=v46},bd,ab,(by rw [show n - (i+1)=n - i - 1 by omega]; exact I.step ab aw<|Kw aQ a7 bI),(by rw [bL,bU]; rfl),(by rw [← dD]; exact dS.Aa (x:=(J,M)) E ai bH aF bj),(du.oE bC aN aF),(⟨by simp only [bL,fA]; omega,ao.sl,ao.row,ao.kd,ao.al⟩),(bu.trans<|Mw.of aF (TF.eq (dt aN) az) fun k hk=>hk ▸ E.lo.1),aa,aa,aa,aa⟩
 refine ext<|te _<|te _<|be<|jL<|f0 aa ?_
 rw [show n - i=0 by omega] at I
 exact ⟨aa,_,rows',ax,W6 U I.done,⟨A,R',aV,ak.congr aa (fun _=>rfl),ah⟩,aW⟩
theorem N6 (B:Nat) (H:dm) (F:aR) (rows:List Rw) (ln:Nat) (seen:List Tx) (r:List Tx) (bt:Nat) (ar:Option Addr) (cr:Nat) (w:World) (A:St w B H F rows ln seen) (bc:Tg w bt 9 r.length (.slice ar r.length cr) (r.map str)) (cR:r.length=2) (ce:∀ x∈r,x.length≤70000):
 fD ay 134 (bf [.pointer (some ⟨H.rb,0,none⟩),.slice ar r.length cr]) w (jq B H seen (jS H.eof F seen rows ln r) w) (jo B H (jS H.eof F seen rows ln r) w):=by
 obtain ⟨V,R,ag,U,aF⟩:=A
 have cE:=bc.cI
 have cS:(r.getD 1 []).length≤70000:=ce _<|dU ab
 have cP:=U.lo
 have cJ:=aF.len
 obtain ⟨cW,bl,bm⟩:=U.sm
 have cK:=uc (a:=fH) (l:=seen)
 have cL:=uc (a:=di) (l:=seen)
 have cT:=aF.sl
 refine kf func134 aa ntmps134 aa<|sq fun cp bC=> ?_
 have C:(fun w'=>Wk w w') w.drew:=(Md.refl _ _).drew
 refine bI (fun w'=>Wk w w') aa wide C<|hp 0 aa aj (fun _ _=>aT (.pointer<|some ⟨H.rb,0,none⟩) aa) C<|hp 1 aa aj (fun _ _=>aT (.pointer<|some ⟨H.rb,0,none⟩) aa) C<|hp 2 aa aj (fun _ _=>nc aa) C<|hp 3 aa aj (fun _ _=>fa s8 aa) C<|hp 4 aa aj (fun w' A=>ld sB aa<|Wk.aO A<|(aX U.cells).trans aa) C<|hp 5 aa aj (fun w' A=>oL qR oW iZ (dp.md (bl) A id) aa aa (⟨_,aa⟩)<|bm fH) C<|hp 6 aa aj (fun _ _=>aT (.pointer<|some ⟨H.rb,0,none⟩) aa) C<|hp 7 aa aj (fun _ _=>nc aa) C<|hp 8 aa aj (fun _ _=>fa s8 aa) C<|hp 9 aa aj (fun w' A=>ld sB aa<|Wk.aO A<|(aX U.cells).trans aa) C<|hp 10 aa aj (fun w' A=>oL qR oW iZ (dp.md (bl) A id) aa aa (⟨_,aa⟩)<|bm di) C<|hp 11 aa aj (fun _ _=>bE ((seen.count fH+seen.count di:Nat):Int) aa aa<|bj ab ab) C<|hp 12 aa aj (fun _ _=>bJ aa aa) C ?_
 refine tj 13 aa aj aa (dQ iy (iJ H.rb ln _ 113 w.drew (Wk.aO C U.dj) az) aa fun v20 a1 bY=> ?_) (fun c w' E aN ag=>⟨ln,113,zZ (Classical.byContradiction fun h2=>by
  have h1:=q6.2 fun h=>h2<|Or.inl h
  have h3:=q6.2 fun h=>h2<|Or.inr h
  exact of_decide_eq_false E.2.1 ab),E.1,by rw [E.2.2]; exact Wk.mw C⟩)
 obtain ⟨rfl,cj,bo⟩:=bY
 have aG:Wk w a1:=by rw [bo]; exact (Md.refl _ _).drew
 have ak:¬(fH∈seen∨di∈seen):=by
  have cD:=of_decide_eq_true cj
  rintro (h | h)
  have :=zB.2 h; omega
  have :=zB.2 h; omega
 have bV:=U.wk aG
 have bd:=(bc.wk aG).cI
 have b4:(fun w'=>Wk w w') a1:=by rw [bo]; exact C
 refine ⟨b4,?_⟩
 refine hn aj<|tn<|bC _ _<|sq fun cq bD=>rg aa<|p (aT (.pointer<|some ⟨H.rb,0,none⟩) aa)<|p (aT (.slice ar r.length cr) aa)<|p (a8 cH aa aa ab<|aJ.ok (bd.2)<|bS ab)<|p (ld bT aa<|ca.get (i:=1) bd.2 ab)<|eP aa (dQ xp (yI H.rb ln (r.getD 1 []) 1024 a1 bV.dj ab ab) aa fun cY c1 bZ=> ?_) fun c w' E aN ag=>by obtain ⟨e,he,h,h2⟩:=E; exact ⟨ln,e,E2 ak he,h,Wk.mw<|aG.trans h2⟩
 obtain ⟨n,am,rfl,an⟩:=bZ
 have cQ:=CM am
 have an:=aG.trans an
 refine p mv<|nl<|tn<|bD _ _<|aH<|lp (fun a2 aP aD=> ∃ (i:Nat) (xs:List (List Nat)) (rows':List Rw) (aL:Nat) (I:e6) (R':gW),(i≤n)∧(iU [eI] (ku F.kind) H.eof (group [eI] (ku F.kind) H.eof n rows) xs (n - i) rows')∧(xs.length=i)∧(dS aD B H.fb H.mc {F with aliases:=F.aliases++xs} I)∧(du aD B H F R' rows' aL seen)∧(kM {F with aliases:=F.aliases++xs} rows' seen)∧(fC B H w aD)∧(aP 0= .pointer (some ⟨H.rb,0,none⟩))∧(aP 25= .int .i64 (n:Nat))∧(aP 26= .int .i64 (i:Nat))∧(n - i=a2)) _ ⟨0,[],rows,ln,V,R,ab,iU.start,aa,(by rw [eh]; exact ag.wk an),(U.wk an),(by rw [eh]; exact aF),(Wk.mw an),aa,aa,aa,aa⟩ ?_
 rintro a2 aP aD ⟨i,xs,rows',aL,I,R',hi,Y,cm,a3,av,Z,a5,cg,ch,ci,rfl⟩
 refine fx 0 cg<|fx 25 ch<|fx 26 ci<|sq fun cs bF=>rg aa<|p (lt aa aa)<|nl<|tn<|bF _ _<|sq fun ct bG=>cd aa (fun b7=> ?_) fun b7=> ?_
 refine aM<|tn<|bG _ _<|sq fun cu bH=>aH<|sq fun cv bM=>rg aa<|p (aT (.pointer<|some ⟨H.rb,0,none⟩) aa)<|e<|sL (L:= [str eI]) fQ aa aa aa aa fun bw bp cF bR bx=> ?_
 have ac:Wk aD bp:=bR.md
 have a6:=a5.trans<|Wk.mw ac
 refine eP aa (dQ Az (Co B H F R' rows' aL seen [eI] bw 1 _ _ bp (av.wk ac) (Tg.CS bx aa) aa az fun q cc=>(Z.row q cc).2.1) aa fun cX cn bW=> ?_) (fun c w' E aN ag=>by
  obtain ⟨h1,h2⟩:=E
  have hm:=a6.trans<|fC.rb (av.wk ac) h2
  rcases h1 with ⟨rfl,h3⟩ | ⟨ax,M,rest,rfl,h4,h3⟩
  exact ⟨_,_,xh ak am (Y.ends ab),h3,hm⟩
  exact ⟨_,_,xh ak am (Y.other ab h4),h3,hm⟩)
 obtain ⟨ax,M,rest,rfl,aY,⟨bv,aI⟩,hT15,hM15⟩:=bW
 obtain ⟨cA,cC,rfl⟩:=hT15.slice
 have a4:=(a3.wk ac).rb (av.wk ac) hM15
 have a7:=a6.trans<|fC.rb (av.wk ac) hM15
 have cf:M≠[]∧M.length≤70000∧∀ x∈M,x.length≤70000:=Z.row (ax,M)<|by simp
 have aQ:=kM.pF Z
 have bg:=hT15.cI
 have b6:=Z.len
 simp only [cO,bL] at b6
 refine p aA<|nl<|tn<|bM _ _<|sq fun cx bN=>rg aa<|p (aT (.pointer<|some ⟨H.rb,0,none⟩) aa)<|p mv<|p (bK eV aa aa)<|p (bJ aa aa)<|eP aa (dQ iy (iJ H.rb ax _ 111 cn aI.dj az) aa fun cZ aB b0=> ?_) fun c w' E aN ag=>⟨_,_,xh ak am (Y.bad ab aY<|E1<|by have :=of_decide_eq_false E.2.1; omega),E.1,by rw [E.2.2]; exact a7⟩
 obtain ⟨rfl,ck,rfl⟩:=b0
 have bk:M.length=2:=by have :=of_decide_eq_true ck; omega
 have cN:=cf.2.2 _<|dU (d:= []) (i:=1) ab
 refine nl<|tn<|bN _ _<|sq fun cy bO=> ?_
 have J:(fun w'=>Wk aB w') aB.drew:=(Md.refl _ _).drew
 refine bI (fun w'=>Wk aB w') aa wide J<|hp 0 aa aj (fun _ _=>aT (.pointer<|some ⟨H.rb,0,none⟩) aa) J<|hp 1 aa aj (fun _ _=>nc aa) J<|hp 2 aa aj (fun _ _=>fa ij aa) J<|hp 3 aa aj (fun w' A=>ld gn aa<|Wk.aO A<|(aX aI.cells).trans aa) J<|hp 4 aa aj (fun _ _=>nc aa) J<|hp 5 aa aj (fun _ _=>fa gG aa) J<|hp 6 aa aj (fun _ _=>fa tg aa) J<|hp 7 aa aj (fun w' A=>ld bu aa<|Wk.aO A<|(aX a4.cells).trans aa) J<|hp 8 aa aj (fun _ _=>mv) J<|hp 9 aa aj (fun _ _=>a8 cH aa aa ab<|aJ.ok (bg.2)<|bS ab) J<|hp 10 aa aj (fun w' A=>ld bT aa<|Wk.aO A<|ca.get (i:=1) bg.2 ab) J<|he 11 aa aj<|cl FR (Ij F.kind (M.getD 1 []) _ aF.kd ab) aa fun c0 br b1=> ?_
 obtain ⟨⟨aE,rfl,aV⟩,ae⟩:=b1
 have ae:=iq ae
 have aq:=a4.wk ae
 have aw:=aI.wk ae
 have a9:=a7.trans<|Wk.mw ae
 have bh:¬(I.v10.ownBlock=some H.rb):=dC aq.eT aw.cells az
 have b9:¬(I.v10.ownBlock=some H.fb):=dC aq.eT aq.cells az
 have bB:B≤aB.heap.size:=by have :=(cU.1 aI.cells).1; omega
 have ah:(fun w'=>Wk aB w') br:=ae
 refine ⟨ah,?_⟩
 refine hp 12 aa aj (fun _ _=>mv) ah<|hp 13 aa aj (fun _ _=>xt aa aa) ah<|hp 14 aa aj (fun _ _=>xt aa aa) ah<|hp 15 aa aj (fun _ _=>aA) ah<|hp 16 aa aj (fun _ _=>aA) ah<|hn aj<|tn<|bO _ _<|sq fun cz bP=>rg aa<|p (aT (.pointer<|some ⟨H.rb,0,none⟩) aa)<|p mv<|eP aa (dQ oC (oN H.rb ax ((dY F.kind<|M.getD 1 []).2:Nat) br aw.dj) aa fun v53 aC b3=> ?_) fun c w' E aN ag=>⟨_,_,xh ak am (Y.bad ab aY<|by rw [xg bk]; exact ya<|by have :=E.2.1; omega),E.1,by rw [E.2.2]; exact a9⟩
 obtain ⟨rfl,aZ,rfl⟩:=b3
 have aZ:(dY F.kind<|M.getD 1 []).2=0:=ab
 have b8:=Ie aZ
 refine nl<|tn<|bP _ _ ?_
 have G:(fun w'=>Md (fun k=>I.v10.ownBlock=some k) aC w') aC.drew:=(Md.refl _ _).drew
 refine eS (fun w'=>Md (fun k=>I.v10.ownBlock=some k) aC w') 18 aa wide G<|dx 0 aa aj (fun _=>aT (.pointer<|some ⟨H.rb,0,none⟩) aa) (fun _=>G)<|dx 1 aa aj (fun _=>nc aa) (fun _=>G)<|dx 2 aa aj (fun _=>fa ij aa) (fun _=>G)<|kI 3 aa aj (fun w' A=>ld gn aa<|Md.aO A ((aX aw.cells).trans aa) bh) G<|dx 4 aa aj (fun _=>aT (.pointer<|some ⟨H.rb,0,none⟩) aa) (fun _=>G)<|dx 5 aa aj (fun _=>nc aa) (fun _=>G)<|dx 6 aa aj (fun _=>fa ij aa) (fun _=>G)<|kI 7 aa aj (fun w' A=>ld gn aa<|Md.aO A ((aX aw.cells).trans aa) bh) G<|dx 8 aa aj (fun _=>nc aa) (fun _=>G)<|dx 9 aa aj (fun _=>fa gG aa) (fun _=>G)<|dx 10 aa aj (fun _=>fa pK aa) (fun _=>G)<|kI 11 aa aj (fun w' A=>ld rq aa<|Md.aO A ((aX aq.cells).trans aa) b9) G<|dx 12 aa aj (fun _=>mv) (fun _=>G)<|gP 13 aa aj<|fZ yV aa (eU aV) fun cB co cG bU bz=> ?_
 have ao:=iq bU.md
 have O:=aq.wk ao
 have ba:=aw.wk ao
 have b5:=(Tg.jM<|aW aV ao).mono bB
 have bb:(fun w'=>Md (fun k=>I.v10.ownBlock=some k) aC w') co:=Md.mono ao fun _ _ h=>h.elim
 refine ⟨bb,?_⟩
 refine gP 14 aa aj<|ap yV (O.eT) aa (by have :=(cU.1 ba.cells).1; omega) aa (aJ.dX bz) (aa) (by show List.all [aE] gB=true; simp only [List.all_cons,List.all_nil,eU aV,Bool.and_self]) (by simp only [bL]; omega) (by simp only [bL]; omega) fun a0 bs bi au cV cM=> ?_
 have bQ:=(a9.trans<|Wk.mw ao).trans<|Mw.of au (TF.own O.eT az) fun k hk=>(dM O.eT hk).1
 have b2:=du.own ba O.eT au az
 have aU:=au.aH O.cells<|dC O.eT O.cells az
 have cb:bq bs B 70 1 a0 ((F.aliases++xs)++ [(dY F.kind<|M.getD 1 []).1]).length (I.sa++ [aE]):=by rw [bL]; exact bi
 have aK:(fun w'=>Md (fun k=>I.v10.ownBlock=some k) aC w') bs:=bb.trans' au fun _ _ h=>h
 refine ⟨aK,?_⟩
 exact dx 15 aa aj (fun _=>nc aa) (fun _=>aK)<|dx 16 aa aj (fun _=>fa gG aa) (fun _=>aK)<|dx 17 aa aj (fun _=>fa pK aa) (fun _=>aK)<|dH 18 aa aj aj<|cw GR aa aa (v:=a0) (eU bi) aU (by show _ < 14; omega) fun c2 aS bA=>eR aj<|bn<|tn<|bH _ _<|rg aa<|p (ad aa aa<|bX ab)<|p mv<|nl<|tn<|⟨_,ab,i+1,xs++ [(dY F.kind<|M.getD 1 []).1],rest,ax,{I with v10:=a0,sa:=I.sa++ [aE]},bv,ab,(by rw [show n - (i+1)=n - i - 1 by omega]; exact Y.step ab aY<|by rw [xg bk]; exact yb aZ),(by rw [bL,cm]; rfl),(by rw [← dD]; exact dS.z7 (x:=(dY F.kind<|M.getD 1 []).1) (vx:=aE) O b5 au cb aS bA),(du.oE b2 aU aS),(⟨by simp only [bL,fA]; omega,aQ.sl,aQ.row,aQ.kd,by intro l ai; rw [← dD] at ai; rcases jD.1 ai with ai | ai; exact Z.al l ai; rw [j5.1 ai]; exact b8⟩),(bQ.trans<|Mw.of aS (TF.eq (dt aU) az) fun k hk=>hk ▸ O.lo.1),aa,aa,aa,aa⟩
 refine ext<|te _<|te _<|be<|jL<|f0 aa ?_
 rw [show n - i=0 by omega] at Y
 exact ⟨aa,_,rows',aL,N7 ak am Y.done,⟨I,R',a3,av.congr aa (fun _=>rfl),Z⟩,a5⟩
end Go.Hb.lU
end
