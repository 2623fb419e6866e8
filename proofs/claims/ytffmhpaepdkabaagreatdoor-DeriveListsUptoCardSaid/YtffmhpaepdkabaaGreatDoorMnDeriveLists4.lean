/-
  Walks and plain laws that the law rests on, laid together. No conditions but those that each theorem names.
-/
import Derived.Test.YtffmhpaepdkabaaGreatDoorMnDeriveLists3
set_option linter.unusedVariables false
open Array renaming getElem?_eq_some_iff→dm
open Bool renaming eq_iff_iff→tZ,noConfusion→eb
open Classical renaming not_not→jn
open Go.Proofs.Tryz renaming prog→ay
open Go.Value renaming bool→bQ,int→jh,oneCell'→gz,slice→bO,tuple→gx
open Go.Value.slice renaming injEq→mR
open Go.World renaming ownsRow→bo,ownsRow_nil→du
open List renaming append_assoc→dC,append_nil→ed,count_eq_zero→q9,count_le_length→ui,count_pos_iff→zU,drop_drop→ss,drop_eq_nil_of_le→gP,drop_succ_cons→wP,drop_take→su,drop_zero→wS,eq_nil_of_length_eq_zero→fO,flatMap_append→ny,flatMap_singleton→o0,getD_cons_zero→lP,getD_eq_getElem?_getD→cQ,getElem?_eq_getElem→cz,idxOf_lt_length_iff→wV,length→jy,length_append→bI,length_cons→cM,length_drop→fK,length_map→fE,length_nil→fP,length_replicate→om,length_singleton→eW,length_take→dO,map_append→ig,map_take→EE,mem_append→jz,mem_singleton→jY,replicate→kj,take→sw,take_of_length_le→eI,take_succ_cons→qc,take_zero→oq,toArray→ba
open Nat renaming add_le_add_left→z6,le_refl→cj,le_trans→fW,lt_or_ge→e8,mul_one→o7,zero_add→gQ
open UInt8 renaming toNat_inj→kY,toNat_lt→iS
open Go.Proofs.Tryz
section
set_option maxRecDepth 20000
set_option maxHeartbeats 1000000
namespace Go.Hb.iM
open Go.Hb.dT
open Go.Proofs
open Go.Hb.kn Go.Hb.ji Go.Hb.rq Go.Hb.xm Go.Hb.Ac
theorem tJ {w:World} {B e n cp i:Nat} {a:Option Addr} {d:Array Nat} (h:w.ownsRow B e 1 (.slice a n cp) n (LE bc d)):aI w.heap (gh a cp i 1) ((LE bc d).drop i):=by
 have :=(aX h).2.drop (cap:=cp) (k:=i) (size:=1)<|by rw [vu]; have h1:=fG h; have h2:=(aX h).1; omega
 rwa [o7] at this
theorem VS (l:List Nat):l.map bc=LE bc l.toArray:=by simp [LE]
theorem sQ (l:List Nat):(l.map bc).all gz=true :=by
 rw [List.all_eq_true]; intro v a; obtain ⟨x,_,rfl⟩:=List.mem_map.1 a; rfl
theorem YN (d:Array Nat) (k:Nat):(LE bc d).take k=(d.toList.take k).map bc:=by simp [LE,EE]
theorem oP (b:UInt8):jd b=decide ((b.toNat:Int) > 32∧(b.toNat:Int) < 127∧(b.toNat:Int)≠47∧(b.toNat:Int)≠44∧(b.toNat:Int)≠35):=by
 unfold jd; exact decide_eq_decide.2 ab
theorem WD {w:World} {B e size n cp:Nat} {a:Option Addr} {xs:List Value} (h:w.ownsRow B e size (.slice a n cp) n xs) (hn:0 < n):a≠none:=by
 rintro rfl
 rcases h.2 with ⟨_,h5⟩ | ⟨g,cap,cur,h4,_⟩
 · omega
 · simp at h4
theorem sY (a:Option Addr) (n c:Nat) (xs:List Value) (w:World) (J:aI w.heap a xs) (ac:xs.length=n*1) (U:a=none→n=0) (h1:xs.all gz=true) (hn:n≤1048576):
 bh ay 51 (ba [.slice a n c]) w (fun v w'=>bo w' w.heap.size 51 1 v n xs∧Wk w w'):=by
 refine enter func51 aa ntmps51 aa<|aj fun _ C=>aw<|C _ _<|sq fun _ E=>aj fun _ G=>ak (.slice a n c)<|p (ta oQ aa aa)<|aE<|G _ _<|cb aa (fun q=> ?_) fun q=> ?_
 have V:a=none:=by simpa using q
 refine aj fun _ i=>aw<|i _ _<|rt<|tr<|f1 aa aa ?_
 have Y:=U V
 subst Y
 obtain rfl :=fO (show xs.length=0 by omega)
 exact ⟨du _ _ _ _,Md.refl _ _⟩
 refine aM<|tn<|E _ _<|aj fun _ i=>e<|m5 zg fun ai ao al j I=> ?_
 have A:=I w.heap.size ab
 refine ak (.slice a n c)<|e<|ap zg (A) aa (by have :=j.size; omega) aa (J.wk j.md) (ac) (h1) ab ab fun ag ah Z O an am=> ?_
 have M:=Wk.own j.md A O<|cj _
 refine aw<|i _ _<|rt<|f1 aa aa ?_
 have ae:bo ah w.heap.size 51 1 ag n xs:=by simpa using Z
 exact ⟨ae,M⟩
theorem RD (d:Array Nat) (B n cp:Nat) (a:Option Addr) (w:World) (G:w.ownsRow B 51 1 (.slice a n cp) n (LE bc d)) (bm:n≤1048576):
 bh ay 247 (ba [.slice a n cp]) w (fun v w'=> ∃ k,v= .slice a k cp∧k=(iq d.toList).length∧bo w' B 51 1 (.slice a k cp) k ((iq d.toList).map bc)∧Md (fun q=>(bO a n cp).ownBlock=some q) w w'):=by
 have bl:=fG G
 have bi:=(aX G).1
 refine enter func247 aa ntmps247 aa<|aj fun _ ax=>aw<|ax _ _<|sq fun _ aK=>aj fun _ aL=>ak (.slice a n cp)<|p (bF oQ aa aa)<|p (lt aa aa)<|aE<|aL _ _<|cd aa (fun a0=> ?_) fun a0=> ?_
 refine aj fun _ an=>ak (.slice a n cp)<|p (cH (.slice a n cp) aa)<|aE<|an _ _<|rt<|tr<|f1 aa aa ?_
 have al:iq d.toList=d.toList:=by
  have aq:d.toList.length < 2:=by rw [tL]; omega
  revert aq
  generalize d.toList=l
  intro aq
  match l,aq with
  | [],_=>rfl
  | [x],_=>rfl
 exact ⟨n,aa,by rw [al,tL]; omega,by rw [al]; exact G,Md.refl _ _⟩
 refine aM<|tn<|aK _ _<|sq fun _ an=>aj fun _ aN=>aw<|aN _ _<|aJ<|lp (fun V ar ac=> ∃ (i:Nat),(1≤i∧i≤n∧2≤n)∧(iq (d.toList.take i)=d.toList.take i)∧(Wk w ac)∧(ar 0= .slice a n cp)∧(ar 3=au i)∧(n - i=V)) _ ⟨1,ab,(by have h1:=zm (d:=d) (i:=0) ab; rw [h1]; rfl),(Md.refl _ _),aa,aa,aa⟩ ?_
 rintro V ar ac ⟨i,hi,Y,J,a8,a9,rfl⟩
 refine fx 0 a8<|fx 3 a9<|sq fun _ aP=>aj fun _ aQ=>ak (au i)<|ak (.slice a n cp)<|p (bF oQ aa aa)<|p (lt aa aa)<|aE<|aQ _ _<|cd aa (fun aV=> ?_) fun aV=> ?_
 refine aM<|tn<|aP _ _<|sq fun _ ao=>aJ<|sq fun _ aR=> ?_
 have C:(fun w'=>Wk ac w') ac.drew:=(Md.refl _ _).drew
 refine bJ (fun w'=>Wk ac w') aa wide C<|bC 0 aa (.slice a n cp) C<|bC 1 aa (au i) C<|aH 2 aa (fun _ _=>a7 bV aa aa ab<|aI.ok ((aX G).2)<|ca ab) C<|aH 3 aa (fun w' M=>ld cU aa<|Wk.aO M<|dF (i:=i) (aX<|aU G J).2 ab) C<|bC 4 aa (.slice a n cp) C<|bC 5 aa (au i) C<|aH 6 aa (fun _ _=>dJ ((i - 1:Nat):Int) aa aa<|bj ab ab) C<|aH 7 aa (fun _ _=>a7 bV aa aa ab<|aI.ok ((aX G).2)<|ca ab) C<|aH 8 aa (fun w' M=>ld cU aa<|Wk.aO M<|dF (i:=i - 1) (aX<|aU G J).2 ab) C<|aH 9 aa (fun _ _=>bH aa aa) C<|hn ag<|tn<|aR _ _<|cd aa (fun aW=> ?_) fun aW=> ?_
 have heq:d[i - 1]! =d[i]! :=ab
 refine aj fun _ az=>ak (.slice a n cp)<|ak (au i)<|p (vQ bV aa aa ab)<|aw<|az _ _<|sq fun _ aA=>aj fun _ aC=>aw<|aC _ _<|aJ<|lp (fun V ae U=> ∃ (k i2:Nat) (E:Array Nat),(1≤k∧k < i+i2∧1≤i2∧i2≤n - i)∧(E.toList.drop k=d.toList.drop k)∧(E.toList.take k=iq (d.toList.take<|i+i2))∧(U.ownsRow B 51 1 (.slice a n cp) n<|LE bc E)∧(Md (fun q=>(bO a n cp).ownBlock=some q) w U)∧(ae 0= .slice a n cp)∧(ae 3=au k)∧(ae 4= .slice (gh a cp i 1) (n - i) (cp - i))∧(ae 5=au i2)∧(n - i2=V)) _ ⟨i,1,d,ab,aa,(by rw [xN ab ab,if_pos heq,Y]),(aU G<|Md.trans J (Md.refl _ _).drew),((Md.trans J (Md.refl _ _).drew).mono fun _ _ h=>h.elim),aa,aa,aa,aa,aa⟩ ?_
 rintro V ae U ⟨k,i2,E,hk,O,Z,I,ap,bb,bd,bf,bg,rfl⟩
 refine fx 0 bb<|fx 3 bd<|fx 4 bf<|fx 5 bg ?_
 have bk:=fG I
 refine sq fun _ aD=>aj fun _ aF=>ak (au i2)<|ak (.slice (gh a cp i 1) (n - i)<|cp - i)<|p (bF oQ aa aa)<|p (lt aa aa)<|nl<|tn<|aF _ _<|cd aa (fun aY=> ?_) fun aY=> ?_
 refine aM<|tn<|aD _ _<|sq fun _ ah=>aJ<|sq fun _ am=> ?_
 have A:(fun w'=>Wk U w') U.drew:=(Md.refl _ _).drew
 refine bJ (fun w'=>Wk U w') aa wide A<|bC 0 aa (.slice (gh a cp i 1) (n - i)<|cp - i) A<|bC 1 aa (au i2) A<|aH 2 aa (fun _ _=>a7 bV aa aa ab<|aI.ok (tJ I)<|CG ab) A<|aH 3 aa (fun w' M=>ld cU aa<|Wk.aO M<|CF (j:=i2) (tJ I) ab) A<|bC 4 aa (.slice (gh a cp i 1) (n - i)<|cp - i) A<|bC 5 aa (au i2) A<|aH 6 aa (fun _ _=>dJ ((i2 - 1:Nat):Int) aa aa<|bj ab ab) A<|aH 7 aa (fun _ _=>a7 bV aa aa ab<|aI.ok (tJ I)<|CG ab) A<|aH 8 aa (fun w' M=>ld cU aa<|Wk.aO M<|CF (j:=i2 - 1) (tJ I) ab) A<|aH 9 aa (fun _ _=>cX aa aa) A<|hn ag<|tn<|am _ _<|cd aa (fun aZ=> ?_) fun aZ=> ?_
 have ai:=aU I A
 have g1:=xQ O (show k≤i+i2 by omega)
 have g2:=xQ O (show k≤i+(i2 - 1) by omega)
 have a3:¬d[i+i2 - 1]! =d[i+i2]! :=by rw [show i+i2 - 1=i+(i2 - 1) by omega,← g1,← g2]; omega
 exact aj fun _ aG=>ak (.slice a n cp)<|ak (au k)<|ak (.slice (gh a cp i 1) (n - i)<|cp - i)<|ak (au i2)<|p (a7 bV aa aa ab<|aI.ok (tJ ai)<|CG ab)<|p (ld cU aa<|CF (j:=i2) (tJ ai) ab)<|p (a7 bV aa aa ab<|aI.ok ((aX ai).2)<|ca ab)<|e<|gu (u:=E[i+i2]!) (k) ai gd aa aa aa ab fun bp aS a5=>aE<|aG _ _<|rg aa<|ak (au k)<|p (bE ((k+1:Nat):Int) aa aa<|bj ab ab)<|p aB<|nl<|bn<|tn<|ah _ _<|rg aa<|ak (au i2)<|p (bE ((i2+1:Nat):Int) aa aa<|bj ab ab)<|p aB<|nl<|tn<|⟨_,ab,k+1,i2+1,E.setIfInBounds k E[i+i2]!,ab,(by rw [set_drop ab]; have h3:=congrArg (List.drop 1) O; rwa [ss,ss] at h3),(by rw [Dv ab,Z,show i+(i2+1)=i+i2+1 from aa,xN ab ab,if_neg a3,g1]),a5,(Md.trans ap<|Md.trans (A.mono fun _ _ h=>h.elim) aS),aa,aa,aa,aa,aa⟩
 have g1:=xQ O (show k≤i+i2 by omega)
 have g2:=xQ O (show k≤i+(i2 - 1) by omega)
 have a1:d[i+i2 - 1]! =d[i+i2]! :=by rw [show i+i2 - 1=i+(i2 - 1) by omega,← g1,← g2]; omega
 exact aM<|bn<|tn<|ah _ _<|rg aa<|ak (au i2)<|p (bE ((i2+1:Nat):Int) aa aa<|bj ab ab)<|p aB<|nl<|tn<|⟨_,ab,k,i2+1,E,ab,O,(by rw [Z,show i+(i2+1)=i+i2+1 from aa,xN ab ab,if_pos a1]),(aU I (Md.refl _ _).drew),ap.drew,aa,aa,aa,aa,aa⟩
 refine ext<|te _<|te _<|be<|tn<|aA _ _<|aj fun _ ah=>ak (.slice a n cp)<|ak (au k)<|p (vQ bV aa aa ab)<|e<|Ri (k:=k) oQ ZV aa I aa aa ab fun bq aT a6=>aE<|ah _ _<|aj fun _ am=>ak (.slice a n cp)<|ak (au k)<|p (vP bV aa aa ab)<|aw<|am _ _<|rt<|br<|tr<|tr<|br<|tr<|f1 aa aa ?_
 have al:d.toList.take (i+i2)=d.toList:=eI<|by rw [tL]; omega
 rw [al] at Z
 have a2:k=(iq d.toList).length:=by rw [← Z,dO,tL]; omega
 refine ⟨k,aa,a2,?_,Md.trans ap aT⟩
 have av:=Kt a6 (show k≤n by omega)<|WD G ab
 rw [o7,List.take_append,eI (l:=(LE bc E).take k) (by rw [dO]; omega),dO,vu,show k - min k E.size=0 by omega,oq,ed,YN,Z] at av
 exact av
 have a4:¬d[i - 1]! =d[i]! :=ab
 exact aM<|bn<|tn<|ao _ _<|rg aa<|ak (au i)<|p (ad aa aa<|bT ab)<|p aB<|nl<|tn<|⟨_,ab,i+1,ab,(by rw [xN ab ab,if_neg a4,Y,zm ab]),(Md.trans J (Md.refl _ _).drew),aa,aa,aa⟩
 refine ext<|te _<|te _<|be<|tn<|an _ _<|aj fun _ ao=>ak (.slice a n cp)<|p (cH (.slice a n cp) aa)<|aE<|ao _ _<|rt<|f1 aa aa ?_
 rw [show d.toList.take i=d.toList from eI (by rw [tL]; omega)] at Y
 exact ⟨n,aa,by rw [Y,tL]; omega,by rw [Y]; exact aU G J,J.mono fun _ _ h=>h.elim⟩
theorem yS (l:List Nat) (a:Option Addr) (c:Nat) (w:World) (M:aI w.heap a (l.map bc)) (ag:a=none→l.length=0) (ah:l.length≤255):
 bh ay 205 (ba [.slice a l.length c]) w (fun v w'=>bo w' w.heap.size 51 1 v (kf l).length ((kf l).map bc)∧Wk w w'):=by
 refine enter func205 aa ntmps205 aa<|aj fun _ E=>aw<|E _ _<|aj fun _ G=>ak (.slice a l.length c)<|e<|cl rD (sY a l.length c (l.map bc) _ M (by simp) ag (sQ l) ab) aa fun v5 ao Z=> ?_
 obtain ⟨q,O⟩:=Z
 obtain ⟨i,j,rfl⟩:=cw q
 rw [VS] at q
 refine aw<|G _ _<|aj fun _ I=>ak (.slice i l.length j)<|e<|cl PU (Yh l.toArray w.heap.size l.length j i _ q ah) aa fun an ap ac=> ?_
 obtain ⟨d1,rfl,ai,al,A,V⟩:=ac
 refine aE<|I _ _<|aj fun _ J=>ak (.slice i l.length j)<|e<|cl PV (RD d1 w.heap.size l.length j i _ A ab) aa fun v9 am ae=> ?_
 obtain ⟨k,rfl,hk,C,Y⟩:=ae
 have U:Wk w am:=Wk.own (Wk.own O q V<|cj _) A Y<|cj _
 refine aw<|J _ _<|rt<|f1 aa aa ?_
 rw [Yg ai al] at hk C
 exact ⟨by rw [← hk]; exact C,U⟩
theorem Dx (b:UInt8) (w:World):
 bh ay 266 (ba [.int .u8 b.toNat]) w (fun v w'=>v= .bool (jd b)∧Wk w w'):=by
 refine enter func266 aa ntmps266 aa<|aj fun _ i=>aw<|i _ _<|aj fun _ a=>ak (.int .u8 b.toNat)<|p (gt aa aa)<|p mv<|gs (t:=5) aa (fun A=> ?_) fun A=> ?_
 refine pg aa aa aa (aT (.int .u8 b.toNat) aa)<|pg aa aa aa (lt aa aa)<|p (bw aa)<|p mv<|gs (t:=9) aa (fun C=> ?_) fun C=> ?_
 refine pg aa aa aa (aT (.int .u8 b.toNat) aa)<|pg aa aa aa (cX aa aa)<|p (bw aa)<|p mv<|gs (t:=13) aa (fun j=> ?_) fun j=> ?_
 refine pg aa aa aa (aT (.int .u8 b.toNat) aa)<|pg aa aa aa (cX aa aa)<|p (bw aa)<|p mv<|gs (t:=17) aa (fun q=> ?_) fun q=> ?_
 exact pg aa aa aa (aT (.int .u8 b.toNat) aa)<|pg aa aa aa (cX aa aa)<|p (bw aa)<|aw<|a _ _<|rt<|f1 aa aa<|⟨by show bQ (decide _)=_; rw [oP]; exact bv (by constructor <;> intro h <;> first | exact ⟨ab,ab,ab,ab,h⟩ | exact h.2.2.2.2),Md.refl _ _⟩
 exact sk aa aa aa aa<|sk aa aa aa aa<|p (bm aa)<|aw<|a _ _<|rt<|f1 aa aa<|⟨by show bQ false =_; rw [oP,decide_eq_false ab],Md.refl _ _⟩
 exact sk aa aa aa aa<|sk aa aa aa aa<|p (bm aa)<|p mv<|sk aa aa aa aa<|sk aa aa aa aa<|p (bm aa)<|p aB<|aE<|a _ _<|rt<|f1 aa aa<|⟨by show bQ false =_; rw [oP,decide_eq_false ab],Md.refl _ _⟩
 exact sk aa aa aa aa<|sk aa aa aa aa<|p (bm aa)<|p mv<|sk aa aa aa aa<|sk aa aa aa aa<|p (bm aa)<|p mv<|sk aa aa aa aa<|sk aa aa aa aa<|p (bm aa)<|aw<|a _ _<|rt<|f1 aa aa<|⟨by show bQ false =_; rw [oP,decide_eq_false ab],Md.refl _ _⟩
 exact sk aa aa aa aa<|sk aa aa aa aa<|p (bm aa)<|p mv<|sk aa aa aa aa<|sk aa aa aa aa<|p (bm aa)<|p mv<|sk aa aa aa aa<|sk aa aa aa aa<|p (bm aa)<|p mv<|sk aa aa aa aa<|sk aa aa aa aa<|p (bm aa)<|p aB<|aE<|a _ _<|rt<|f1 aa aa<|⟨by show bQ false =_; rw [oP,decide_eq_false ab],Md.refl _ _⟩
theorem Jq (k:Nat) (w:World):
 bh ay 242 (ba [au k]) w (fun v w'=>v= .bool (decide (1≤k∧k≤3))∧Wk w w'):=by
 refine enter func242 aa ntmps242 aa<|aj fun _ i=>aw<|i _ _<|aj fun _ a=>ak (au k)<|p (ge aa aa)<|p mv<|gs (t:=5) aa (fun j=> ?_) fun j=> ?_
 exact pg aa aa aa (aT (au k) aa)<|pg aa aa aa (le aa aa)<|p (bw aa)<|aw<|a _ _<|rt<|f1 aa aa<|⟨by show bQ (decide _)=_; exact bv ab,Md.refl _ _⟩
 exact sk aa aa aa aa<|sk aa aa aa aa<|p (bm aa)<|aw<|a _ _<|rt<|f1 aa aa<|⟨by show bQ false =_; rw [decide_eq_false ab],Md.refl _ _⟩
end Go.Hb.iM
end
section
set_option maxRecDepth 20000
set_option maxHeartbeats 1000000
namespace Go.Hb.qf
open Go.Hb.dT
open Go.Proofs
open Go.Hb.kn Go.Hb.ji Go.Hb.rq Go.Hb.xm Go.Hb.Ac Go.Hb.iM
theorem HZ {kind:Nat} {s:List UInt8} (h:kind=1∧s.length=1∧jd (s.getD 0 0)=true):eD kind s=(s.getD 0 0).toNat:=by unfold eD; rw [if_pos h.1,if_pos h.2]
theorem H0 {kind:Nat} {s:List UInt8} (h:kind=2∧s.length=2∧jd (s.getD 0 0)=true∧jd (s.getD 1 0)=true):eD kind s=256 *(s.getD 0 0).toNat+(s.getD 1 0).toNat:=by unfold eD; rw [if_neg ab,if_pos h.1,if_pos h.2]
theorem BN {kind:Nat} {s:List UInt8} (h:kind=3):eD kind s=(dY s 65535).1:=by unfold eD; rw [if_neg ab,if_neg ab]
theorem td {kind:Nat} {s:List UInt8} (h:kind=1∨kind=2) (h1:¬(kind=1∧s.length=1∧jd (s.getD 0 0)=true)) (h2:¬(kind=2∧s.length=2∧jd (s.getD 0 0)=true∧jd (s.getD 1 0)=true)):eD kind s=0:=by
 unfold eD
 rcases h with h | h
 · rw [if_pos h,if_neg (fun h3=>h1 ⟨h,h3⟩)]
 · rw [if_neg ab,if_pos h,if_neg (fun h3=>h2 ⟨h,h3⟩)]
theorem Va {c:UInt8} {l:List UInt8} (h:0 < l.count c):¬eZ c l < 0:=by
 intro h1
 exact Jj h1<|wV.2<|zU.1 h
theorem Xg (n:Nat) (x:List UInt8):kj n (str x)=(kj n x).map str:=by rw [List.map_replicate]
theorem Lj {a:List (List UInt8)} {m:Nat} {x:List UInt8} (h:0 < m):((a++kj m []).map str).set a.length (str x)=((a++ [x])++kj (m - 1) []).map str:=by
 obtain ⟨m,rfl⟩:∃ k,m=k+1:=⟨m - 1,ab⟩
 rw [← List.map_set,List.set_append_right _ _ (cj _),Nat.sub_self,List.replicate_succ,List.set_cons_zero,Nat.add_sub_cancel,dC]; rfl
theorem BD {kind:Nat} {ps:List (List UInt8)} {i:Nat} (h:i < ps.length) (h1:¬∃ x∈ps.take i,eD kind x=0) (h2:eD kind (ps.getD i [])≠0):¬∃ x∈ps.take (i+1),eD kind x=0:=by
 rw [fD ps i [] h]
 rintro ⟨x,a,h3⟩
 rcases jz.1 a with a | a
 · exact h1 ⟨x,a,h3⟩
 · rw [jY] at a; subst a; exact h2 h3
theorem yz {α:Type} {l:List α} {i:Nat} {d:α} (h:i < l.length):l.getD i d∈l:=by
 rw [cQ,cz h]; exact List.getElem_mem h
theorem H2 (kind:Nat) (s:List UInt8) (w:World) (hk:kind=1∨kind=2∨kind=3) (hs:s.length≤1048576):
 bh ay 244 (ba [au kind,str s]) w (fun v w'=>v=bc (eD kind s)∧Wk w w'):=by
 refine enter func244 aa ntmps244 aa<|aj fun _ ah=>aw<|ah _ _<|sq fun _ ai=>aJ ?_
 refine ec (fun C ae=> ∃ (I:Bool),(I=decide (kind=1∧s.length=1∧jd (s.getD 0 0)=true))∧(Wk w ae)∧(C 0=au kind)∧(C 1=str s)∧(C 7= .bool I)) ?_ ?_
 refine rg aa<|ak (au kind)<|p (bH aa aa)<|p mv<|gs (t:=10) aa (fun aA=> ?_) fun aA=> ?_
 refine pg aa aa aa (aT (str s) aa)<|pg aa aa aa (cg u9 aa aa)<|pg aa aa aa (bH aa aa)<|p (bw aa)<|p mv<|gs (t:=15) aa (fun aC=> ?_) fun aC=> ?_
 refine pg aa aa aa (aT (str s) aa)<|pg aa aa aa (ja 0 u9 aa aa ab)<|eg aa aa aa<|cl AW (Dx (s.getD 0 0) _) aa fun aP aU ap=> ?_
 obtain ⟨rfl,am⟩:=ap
 exact p (bw aa)<|aw<|⟨jd (s.getD 0 0),(by rw [tZ,decide_eq_true_iff]; exact ⟨fun h=>⟨ab,ab,h⟩,fun h=>h.2.2⟩),am,aa,aa,aa⟩
 exact sk aa aa aa aa<|sk aa aa aa aa<|sk aa aa aa aa<|p (bm aa)<|aw<|⟨false,((decide_eq_false fun h=>by omega).symm),(Md.refl _ _),aa,aa,aa⟩
 exact sk aa aa aa aa<|sk aa aa aa aa<|sk aa aa aa aa<|p (bm aa)<|p mv<|sk aa aa aa aa<|sk aa aa aa aa<|sk aa aa aa aa<|p (bm aa)<|aw<|⟨false,((decide_eq_false fun h=>by omega).symm),(Md.refl _ _),aa,aa,aa⟩
 rintro C ae ⟨I,Z,i,aF,aG,aI⟩
 refine fx 0 aF<|fx 1 aG<|fx 7 aI<|cb aa (fun O=> ?_) fun O=> ?_
 have U:kind=1∧s.length=1∧jd (s.getD 0 0)=true :=of_decide_eq_true<|Z ▸ O
 exact aj fun _ j=>ak (str s)<|p (ja 0 u9 aa aa ab)<|p (lH zr pW aa<|tT<|by have :=iS (s.getD 0 0); omega)<|aw<|j _ _<|rt<|br<|tr<|f1 aa aa<|⟨by rw [HZ U]; rfl,i⟩
 have U:¬(kind=1∧s.length=1∧jd (s.getD 0 0)=true):=of_decide_eq_false<|Z ▸ O
 refine ec (fun E q=> ∃ (J:Bool),(J=decide (kind=2∧s.length=2∧jd (s.getD 0 0)=true∧jd (s.getD 1 0)=true))∧(Wk w q)∧(E 0=au kind)∧(E 1=str s)∧(E 23= .bool J)) ?_ ?_
 refine rg aa<|ak (au kind)<|p (bH aa aa)<|p mv<|gs (t:=26) aa (fun aD=> ?_) fun aD=> ?_
 refine pg aa aa aa (aT (str s) aa)<|pg aa aa aa (cg u9 aa aa)<|pg aa aa aa (bH aa aa)<|p (bw aa)<|p mv<|gs (t:=31) aa (fun aE=> ?_) fun aE=> ?_
 refine pg aa aa aa (aT (str s) aa)<|pg aa aa aa (ja 0 u9 aa aa ab)<|eg aa aa aa<|cl AW (Dx (s.getD 0 0) _) aa fun aQ aV aq=> ?_
 obtain ⟨rfl,Y⟩:=aq
 refine p (bw aa)<|p mv<|gb (t:=36) aa (fun A=> ?_) fun A=> ?_
 refine pg aa aa aa (aT (str s) aa)<|pg aa aa aa (ja 1 u9 aa aa ab)<|eg aa aa aa<|cl AW (Dx (s.getD 1 0) _) aa fun aR aW ar=> ?_
 obtain ⟨rfl,an⟩:=ar
 exact p (bw aa)<|aw<|⟨jd (s.getD 1 0),(by rw [tZ,decide_eq_true_iff]; exact ⟨fun h=>⟨ab,ab,A,h⟩,fun h=>h.2.2.2⟩),(Md.trans i<|Md.trans Y an),aa,aa,aa⟩
 exact sk aa aa aa aa<|sk aa aa aa aa<|sk aa aa aa aa<|p (bm aa)<|aw<|⟨false,((decide_eq_false fun h=>by rw [h.2.2.1] at A; cases A).symm),(Md.trans i Y),aa,aa,aa⟩
 exact sk aa aa aa aa<|sk aa aa aa aa<|sk aa aa aa aa<|p (bm aa)<|p mv<|sk aa aa aa aa<|sk aa aa aa aa<|sk aa aa aa aa<|p (bm aa)<|aw<|⟨false,((decide_eq_false fun h=>by omega).symm),i,aa,aa,aa⟩
 exact sk aa aa aa aa<|sk aa aa aa aa<|sk aa aa aa aa<|p (bm aa)<|p mv<|sk aa aa aa aa<|sk aa aa aa aa<|sk aa aa aa aa<|p (bm aa)<|p mv<|sk aa aa aa aa<|sk aa aa aa aa<|sk aa aa aa aa<|p (bm aa)<|p aB<|nl<|tn<|⟨false,((decide_eq_false fun h=>by omega).symm),i,aa,aa,aa⟩
 rintro E q ⟨J,ac,i,aK,aL,aN⟩
 refine fx 0 aK<|fx 1 aL<|fx 23 aN<|cb aa (fun M=> ?_) fun M=> ?_
 have V:kind=2∧s.length=2∧jd (s.getD 0 0)=true∧jd (s.getD 1 0)=true :=of_decide_eq_true<|ac ▸ M
 have g0:=iS<|s.getD 0 0
 have g1:=iS<|s.getD 1 0
 refine sq fun _ j=> ?_
 have a:(fun w'=>Wk q w') q.drew:=(Md.refl _ _).drew
 exact bJ (fun w'=>Wk q w') aa wide a<|bC 0 aa (str s) a<|aH 1 aa (fun _ _=>ja 0 u9 aa aa ab) a<|aH 2 aa (fun _ _=>lH zr pW aa<|tT ab) a<|aH 3 aa (fun _ _=>shl aa aa az<|XY g0) a<|bC 4 aa (str s) a<|aH 5 aa (fun _ _=>ja 1 u9 aa aa ab) a<|aH 6 aa (fun _ _=>lH zr pW aa<|tT ab) a<|aH 7 aa (fun _ _=>FA aa aa<|WA g0 g1) a<|aH 8 aa (fun _ _=>aB) a<|hn ag<|tn<|j _ _<|rt<|br<|tr<|f1 aa aa<|⟨by rw [H0 V]; rfl,i.drew⟩
 have V:¬(kind=2∧s.length=2∧jd (s.getD 0 0)=true∧jd (s.getD 1 0)=true):=of_decide_eq_false<|ac ▸ M
 refine aj fun _ j=>ak (au kind)<|p (bH aa aa)<|aw<|j _ _<|cd aa (fun ax=> ?_) fun ax=> ?_
 refine aj fun _ G=>ak (str s)<|e<|cl xB (yQ s 65535 _ hs az) aa fun aS aX av=> ?_
 obtain ⟨rfl,ao⟩:=av
 have aO:=Ki s
 exact p mv<|p (xt aa aa)<|p (xt aa aa)<|p aB<|aw<|G _ _<|sq fun _ al=>rg aa<|p mv<|p (lH zr qW aa<|tT ab)<|aw<|al _ _<|rt<|br<|tr<|f1 aa aa<|⟨by rw [BN ab]; rfl,Md.trans i ao⟩
 exact aM<|bn<|tn<|ai _ _<|aj fun _ G=>aw<|G _ _<|rt<|f1 aa aa<|⟨by rw [td ab U V]; rfl,i⟩
theorem Ww (kind:Nat) (s:List UInt8) (w:World) (hk:kind=1∨kind=2∨kind=3) (hs:s.length≤1048576):
 bh ay 239 (ba [au kind,str s]) w (fun v w'=>v= .tuple #[bc (gI kind s).1,au ((gI kind s).2)]∧Wk w w'):=by
 refine enter func239 aa ntmps239 aa<|aj fun _ q=>p aB<|aw<|q _ _<|sq fun _ A=>sq fun _ C=>rg aa<|ak (au kind)<|e<|cl Gh (Jq kind _) aa fun U Y M=> ?_
 obtain ⟨rfl,j⟩:=M
 refine p (no aa)<|aE<|C _ _<|cf (by rw [decide_eq_true ab]; rfl)<|aM<|tn<|A _ _<|aj fun _ E=>ak (au kind)<|ak (str s)<|e<|cl Gi (H2 kind s _ hk hs) aa fun v12 V J=> ?_
 obtain ⟨rfl,i⟩:=J
 refine aw<|E _ _<|sq fun _ G=>aj fun _ I=>p mv<|p (bH aa aa)<|aE<|I _ _<|cd aa (fun O=> ?_) fun O=> ?_
 exact aj fun _ a=>p aB<|aw<|a _ _<|rt<|tr<|f2 aa aa aa<|⟨by unfold gI; rw [if_pos (show eD kind s=0 by omega)]; rfl,Md.trans j i⟩
 exact aM<|tn<|G _ _<|aj fun _ a=>p mv<|p aB<|p aB<|nl<|tn<|a _ _<|rt<|f2 aa aa aa<|⟨by unfold gI; rw [if_neg (show ¬eD kind s=0 by omega)]; rfl,Md.trans j i⟩
theorem RK (s:List UInt8) (c:UInt8) (w:World):
 bh ay 297 (ba [str s,str [c]]) w (fun v w'=>v=au (s.count c)∧Wk w w'):=by
 refine enter func297 aa ntmps297 aa<|aj fun _ a=>aw<|a _ _<|sq fun _ i=>aj fun _ j=>ak (str [c])<|p (cg u9 aa aa)<|p (bH aa aa)<|aE<|j _ _<|cd aa (fun h=>absurd h<|by simp) fun G=>aM<|tn<|i _ _<|sq fun _ C=>aj fun _ q=>ak (str [c])<|p (cg u9 aa aa)<|p (bH aa aa)<|aE<|q _ _<|cd aa (fun E=> ?_) fun h=>absurd aa h
 exact aj fun _ A=>ak (str s)<|ak (str [c])<|p (ja 0 u9 aa aa<|by simp)<|p (GN (RB s c _) aa)<|p aB<|nl<|tn<|A _ _<|rt<|tr<|f1 aa aa<|⟨aa,Md.refl _ _⟩
theorem TU (s:List UInt8) (w:World) (hs:s.length≤1048576):
 bh ay 279 (ba [str s,str [44],.int .i64 0,.int .i64 (-1)]) w (fun v w'=>bo w' w.heap.size 9 1 (v) (fC 44 [] s).length ((fC 44 [] s).map str)∧Wk w w'):=by
 have bd:=ui (a:=(44:UInt8)) (l:=s)
 have a4:=DC 44 s []
 refine enter func279 aa ntmps279 aa<|aj fun _ ag=>aw<|ag _ _<|sq fun _ ar=>aj fun _ av=>ak (.int .i64<|-1)<|p (bH aa aa)<|aE<|av _ _<|cd aa (fun h=>absurd h az) fun a9=>aM<|tn<|ar _ _<|sq fun _ ax=>aj fun _ aA=>ak (str [44])<|p (dR aa aa)<|nl<|tn<|aA _ _<|cd aa (fun h=>absurd h<|by simp) fun bb=>aM<|tn<|ax _ _<|sq fun _ aC=>aj fun _ aD=>ak (.int .i64<|-1)<|p (lt aa aa)<|nl<|tn<|aD _ _<|cd aa (fun bc=> ?_) fun h=>absurd az h
 refine rg aa<|ak (str s)<|ak (str [44])<|e<|cl Qh (RK s 44 _) aa fun bk bm aP=> ?_
 obtain ⟨rfl,Y⟩:=aP
 refine p (bE ((s.count 44 +1:Nat):Int) aa aa<|bj ab ab)<|aw<|aC _ _<|aj fun _ aF=>p mv<|ak (str s)<|p (cg u9 aa aa)<|p (bE ((s.length+1:Nat):Int) aa aa<|bj ab ab)<|p (mn aa aa)<|aw<|aF _ _<|aj fun _ aG=>p mv<|e<|V6 (n:=s.count 44 +1) (zv:=str []) fH ZQ aa (show jh .i64 (min ((s.count 44 +1:Nat):Int) ((s.length+1:Nat):Int))=_ from iv ab) (show jh .i64 (min ((s.count 44 +1:Nat):Int) ((s.length+1:Nat):Int))=_ from iv ab) ab (by unfold maxLen; omega) fun E bp a8 aO aV=> ?_
 have Z:=aV w.heap.size<|by have :=Y.size; omega
 rw [Xg] at Z
 refine aw<|aG _ _<|aj fun _ ah=>p mv<|p (dJ ((s.count 44:Nat):Int) aa aa<|bj ab ab)<|p aB<|aE<|ah _ _<|aj fun _ ai=>aw<|ai _ _<|sq fun _ al=>aJ<|lp (fun U q O=> ∃ (i:Nat) (A:List (List UInt8)) (r:List UInt8),(A.length=i)∧(r.count 44 +i=s.count 44∧r.length≤s.length)∧(A++fC 44 [] r=fC 44 [] s)∧(bo O w.heap.size 9 1 (.slice (some ⟨E,0,none⟩) (s.count 44 +1)<|s.count 44 +1) (s.count 44 +1)<|(A++kj (s.count 44 +1 - i) []).map str)∧(Wk w O)∧(q 0=str r)∧(q 1=str [44])∧(q 2= .int .i64 0)∧(q 3=au (s.count 44))∧(q 9= .slice (some ⟨E,0,none⟩) (s.count 44 +1) (s.count 44 +1))∧(q 10=au i)∧(r.length=U)) _ ⟨0,[],s,aa,(ab),aa,Z,(Md.trans Y aO.md),aa,aa,aa,aa,aa,aa,aa⟩ ?_
 rintro U q O ⟨i,A,r,hi,bg,hd,C,V,aY,aZ,a1,a2,a3,a0,rfl⟩
 refine fx 0 aY<|fx 1 aZ<|fx 2 a1<|fx 3 a2<|fx 9 a3<|fx 10 a0 ?_
 have bi:=ui (a:=(44:UInt8)) (l:=r)
 refine sq fun _ am=>aj fun _ an=>ak (au i)<|ak (au<|s.count 44)<|p (lt aa aa)<|aE<|an _ _<|cd aa (fun aR=> ?_) fun aR=> ?_
 refine aM<|tn<|am _ _<|aJ<|aj fun _ I=>ak (str r)<|ak (str [44])<|e<|cl Qi (UX r 44 _) aa fun bl bq aQ=> ?_
 obtain ⟨rfl,G⟩:=aQ
 refine aw<|I _ _<|sq fun _ J=>aj fun _ ao=>p mv<|p (lt aa aa)<|aE<|ao _ _<|cd aa (fun h=>absurd h<|Va ab) fun aS=>aM<|tn<|J _ _<|sq fun _ ap=> ?_
 have ac:=rM (c:=(44:UInt8)) (l:=r) aS
 have bf:[(44:UInt8)].length=1:=rfl
 refine rg aa<|ak (.slice (some ⟨E,0,none⟩) (s.count 44 +1)<|s.count 44 +1)<|ak (au i)<|ak (str r)<|p mv<|ak (.int .i64 0)<|p (bE ((r.idxOf 44:Nat):Int) aa aa<|bj ab ab)<|p (r5 u9 aa aa ab)<|p (a7 cE aa aa ab<|aI.ok ((aX<|aU C G).2)<|bP<|by rw [bI,om]; omega)<|e<|tI (j:=i) (u:=str<|r.take<|r.idxOf 44) (aU C G) kN aa aa aa ab ab fun a5 aL ae=> ?_
 have aH:Wk w a5:=Wk.own (Md.trans V G) (aU C G) aL<|cj _
 rw [← hi,Lj ab,hi] at ae
 exact aE<|ap _ _<|aj fun _ aq=>ak (str r)<|p mv<|ak (str [44])<|p (cg u9 aa aa)<|p (bE ((r.idxOf 44 +1:Nat):Int) aa aa<|bj ab ab)<|p (l8 u9 aa aa ab)<|aw<|aq _ _<|rg aa<|ak (au i)<|p (bE ((i+1:Nat):Int) aa aa<|bj ab ab)<|p aB<|nl<|bn<|tn<|⟨_,by rw [fK]; omega,i+1,A++ [r.take (r.idxOf 44)],r.drop (r.idxOf 44 +1),(by rw [bI,hi]; rfl),(by have :=RX ac.2; rw [fK]; omega),(by rw [dC,← hd,Lx 44 r [] ac.2]; rfl),(by rw [show s.count 44 +1 - (i+1)=s.count 44 +1 - i - 1 by omega]; exact ae),aH,aa,aa,aa,aa,aa,aa,aa⟩
 refine ext<|te _<|te _<|be<|tn<|al _ _<|aj fun _ I=>ak (.slice (some ⟨E,0,none⟩) (s.count 44 +1)<|s.count 44 +1)<|ak (au i)<|ak (str r)<|p (a7 cE aa aa ab<|aI.ok ((aX C).2)<|bP<|by rw [bI,om]; omega)<|e<|tI (j:=i) (u:=str r) C kN aa aa aa ab ab fun a6 aN M=> ?_
 have aK:Wk w a6:=Wk.own V C aN<|cj _
 rw [← hi,Lj ab,hi] at M
 refine aE<|I _ _<|aj fun _ J=>ak (.slice (some ⟨E,0,none⟩) (s.count 44 +1)<|s.count 44 +1)<|ak (au i)<|p (bE ((i+1:Nat):Int) aa aa<|bj ab ab)<|p (vP cE aa aa ab)<|aw<|J _ _<|rt<|f1 aa aa ?_
 have aW:¬(44:UInt8)∈r:=fun h=>by have :=zU.2 h; omega
 have aT:A++ [r]=fC 44 [] s:=by rw [← hd,Yn 44 r [] aW]; rfl
 rw [show s.count 44 +1 - i - 1=0 by omega,List.replicate_zero,ed,aT] at M
 exact ⟨by rw [a4,show s.count 44 +1=i+1 by omega] at*; exact M,aK⟩
theorem YC (s:List UInt8) (w:World) (hs:s.length≤1048576):
 bh ay 265 (ba [str s,str [44]]) w (fun v w'=>bo w' w.heap.size 9 1 (v) (fC 44 [] s).length ((fC 44 [] s).map str)∧Wk w w'):=by
 exact enter func265 aa ntmps265 aa<|aj fun _ a=>aw<|a _ _<|aj fun _ i=>ak (str s)<|ak (str [44])<|e<|cl P5 (TU s _ hs) aa fun q A j=>aw<|i _ _<|rt<|f1 aa aa<|j
theorem WV (kind:Nat) (s:List UInt8) (w:World) (hk:kind=1∨kind=2∨kind=3) (hs:s.length≤1048576):
 bh ay 243 (ba [au kind,str s]) w (fun v w'=>bo w' w.heap.size 9 1 (v) (dE kind s).length ((dE kind s).map str)∧Wk w w'):=by
 refine enter func243 aa ntmps243 aa<|aj fun _ V=>aw<|V _ _<|sq fun _ Y=>aj fun _ Z=>ak (au kind)<|p (bH aa aa)<|aE<|Z _ _<|cd aa (fun aq=> ?_) fun aq=> ?_
 refine aj fun _ A=>ak (str s)<|e<|cl P1 (YC s _ hs) aa fun v10 aO an=>aw<|A _ _<|rt<|tr<|f1 aa aa ?_
 unfold dE; rw [if_pos ab]; exact an
 refine aM<|tn<|Y _ _<|aj fun _ A=>aw<|A _ _<|sq fun _ ac=>aj fun _ ae=>aw<|ae _ _<|aJ<|lp (fun J q I=> ∃ (i:Nat) (a:List (List UInt8)) (j:Value),(i≤s.length+kind∧a.length≤i)∧(a++chunks kind (s.drop i)=chunks kind s)∧(bo I w.heap.size 9 1 (j) (a).length<|(a).map str)∧(Wk w I)∧(q 0=au kind)∧(q 1=str s)∧(q 5=j)∧(q 6=au i)∧(s.length - i=J)) _ ⟨0,[],.slice none 0 0,(by simp),aa,(du _ _ _ _),(Md.refl _ _),aa,aa,aa,aa,aa⟩ ?_
 rintro J q I ⟨i,a,j,hi,hd,G,M,az,aA,aC,aD,rfl⟩
 refine fx 0 az<|fx 1 aA<|fx 5 aC<|fx 6 aD<|sq fun _ ag=>aj fun _ ah=>ak (au i)<|ak (str s)<|p (cg u9 aa aa)<|p (lt aa aa)<|aE<|ah _ _<|cd aa (fun ao=> ?_) fun ao=> ?_
 have av:s.drop i≠[]:=fun h=>by have :=congrArg jy h; rw [fK,fP] at this; omega
 refine aM<|tn<|ag _ _<|sq fun _ C=>aJ<|rg aa<|ak (j)<|ak (str s)<|ak (au i)<|ak (au i)<|ak (au kind)<|p (bE ((i+kind:Nat):Int) aa aa<|bj ab ab)<|ak (str s)<|p (cg u9 aa aa)<|p (mn aa aa)<|p (l7 u9 aa aa aa ab)<|e<|fR fH aa aa fun aH aG aK E ai=> ?_
 have O:Wk w aG:=Md.trans M E.md
 refine e<|ap fH (aU G E.md) aa (by have :=O.size; omega) aa (aI.dS ai) (aa) (aa) ab ab fun aF aP U am aN aL=> ?_
 have al:=Wk.own O (aU G E.md) am<|cj _
 rw [QY] at U
 have ax:=mH U
 exact p aB<|nl<|bn<|tn<|C _ _<|rg aa<|ak (au i)<|ak (au kind)<|p (bE ((i+kind:Nat):Int) aa aa<|bj ab ab)<|aw<|⟨_,ab,i+kind,a++ [(s.drop i).take kind],aF,(by rw [bI,eW]; omega),(by rw [← hd,xF (k:=kind) ab av,dC,ss]; rfl),ax,al,aa,aa,aa,aa,aa⟩
 refine ext<|te _<|te _<|be<|tn<|ac _ _<|aj fun _ C=>ak (j)<|p (cH (j) aa)<|aE<|C _ _<|rt<|f1 aa aa ?_
 have ar:a=dE kind s:=by unfold dE; rw [if_neg ab,← hd,gP ab,xG,ed]
 exact ⟨by rw [← ar]; exact G,M⟩
theorem IA (kind:Nat) (s:List UInt8) (w:World) (hk:kind=1∨kind=2∨kind=3) (hs:s.length≤1048576):
 bh ay 200 (ba [au kind,str s]) w (fun v w'=>(∃ a,v= .tuple #[a,au ((dX kind s).2)]∧bo w' w.heap.size 51 1 a (dX kind s).1.length ((dX kind s).1.map bc))∧Wk w w'):=by
 refine enter func200 aa ntmps200 aa<|aj fun _ az=>p aB<|aw<|az _ _<|sq fun _ aG=>sq fun _ aH=>rg aa<|ak (au kind)<|e<|cl Gh (Jq kind _) aa fun v11 bA aZ=> ?_
 obtain ⟨rfl,an⟩:=aZ
 refine p (no aa)<|aE<|aH _ _<|cf (by rw [decide_eq_true ab]; rfl)<|aM<|tn<|aG _ _<|sq fun _ aK=>sq fun _ aL=>rg aa<|ak (str s)<|p (dR aa aa)<|aE<|aL _ _<|cd aa (fun C=> ?_) fun C=> ?_
 exact aj fun _ ae=>p aB<|aw<|ae _ _<|rt<|tr<|f2 aa aa aa<|⟨⟨.slice none 0 0,by unfold dX; rw [if_pos C]; rfl,by unfold dX; rw [if_pos C]; exact du _ _ _ _⟩,an⟩
 refine aM<|tn<|aK _ _<|aj fun _ ae=>aw<|ae _ _<|sq fun _ aN=>aj fun _ aO=>ak (au kind)<|ak (str s)<|e<|cl PS (WV kind s _ hk hs) aa fun bx J a0=> ?_
 obtain ⟨ar,aT⟩:=a0
 obtain ⟨aQ,aR,rfl⟩:=cw ar
 have aq:=(aX ar).2
 have bv:=Kz (kind:=kind) (s:=s) ab
 have U:Wk w J:=Md.trans an aT
 refine p (bF eQ aa aa)<|p mv<|aE<|aO _ _<|aJ<|lp (fun am A al=> ∃ (i:Nat) (O:Value),(i≤(dE kind s).length)∧(¬∃ x∈(dE kind s).take i,eD kind x=0)∧(bo al J.heap.size 51 1 O (((dE kind s).take i).map<|eD kind).length<|(((dE kind s).take i).map<|eD kind).map bc)∧(Wk J al)∧(A 0=au kind)∧(A 1=str s)∧(A 6=O)∧(A 17= .slice aQ (dE kind s).length aR)∧(A 18=au ((dE kind s).length))∧(A 19=au i)∧((dE kind s).length - i=am)) _ ⟨0,.slice none 0 0,ab,(by rintro ⟨x,bl,_⟩; simp at bl),(du _ _ _ _),(Md.refl _ _),aa,aa,aa,aa,aa,aa,aa⟩ ?_
 rintro am A al ⟨i,O,hi,G,I,q,bb,bd,bj,bf,bg,bi,rfl⟩
 refine fx 0 bb<|fx 1 bd<|fx 6 bj<|fx 17 bf<|fx 18 bg<|fx 19 bi ?_
 have bu:(((dE kind s).take i).map<|eD kind).length≤i:=by rw [fE,dO]; omega
 refine aj fun _ aP=>p (lt aa aa)<|aE<|aP _ _<|sq fun _ aA=>cd aa (fun a4=> ?_) fun a4=> ?_
 refine aM<|tn<|aA _ _<|sq fun _ Z=>aJ<|aj fun _ ac=>p (a7 cE aa aa ab<|aI.ok (aq.wk q)<|bP ab)<|p (ld bR aa<|bX.get (i:=i) (aq.wk q) ab)<|aw<|ac _ _<|aj fun _ E=>ak (au kind)<|p mv<|e<|cl Gi (H2 kind ((dE kind s).getD i []) _ hk<|by have :=KA (kind:=kind) ab (yz (d:= []) (show i < (dE kind s).length by omega)); omega) aa fun bz bB a1=> ?_
 obtain ⟨rfl,V⟩:=a1
 refine aw<|E _ _<|sq fun _ aC=>aj fun _ aD=>p mv<|p (bH aa aa)<|aE<|aD _ _<|cd aa (fun a5=> ?_) fun a5=> ?_
 refine aj fun _ aF=>p aB<|aw<|aF _ _<|rt<|tr<|br<|tr<|tr<|br<|tr<|f2 aa aa aa ?_
 have j:dX kind s=([],31):=by unfold dX; rw [if_neg C,if_pos ⟨_,yz (d:= []) (show i < (dE kind s).length by omega),ab⟩]
 exact ⟨⟨.slice none 0 0,by rw [j]; rfl,by rw [j]; exact du _ _ _ _⟩,Md.trans U<|Md.trans q V⟩
 refine aM<|tn<|aC _ _<|rg aa<|ak (O)<|p mv<|e<|fR zg aa aa fun bq bm bs ah aS=> ?_
 have ao:Wk J bm:=Md.trans (Md.trans q V) ah.md
 refine e<|ap zg (aU (aU I V) ah.md) aa (by have :=ao.size; omega) aa (aI.dS aS) (aa) (aa) ab ab fun v31 bp a8 aY bw bt=> ?_
 have aV:=Wk.own ao (aU (aU I V) ah.md) aY<|cj _
 have a9:bo bp J.heap.size 51 1 v31 (((dE kind s).take<|i+1).map<|eD kind).length ((((dE kind s).take<|i+1).map<|eD kind).map bc):=by
  rw [fD _ i [] ab,ig,bI,ig]; exact a8
 exact p aB<|nl<|bn<|tn<|Z _ _<|rg aa<|p (ad aa aa<|bT ab)<|p mv<|nl<|tn<|⟨_,ab,i+1,v31,ab,(BD ab G ab),a9,aV,aa,aa,aa,aa,aa,aa,aa⟩
 refine ext<|te _<|te _<|be<|tn<|aN _ _<|sq fun _ Z=>sq fun _ ac=> ?_
 obtain ⟨M,ag,rfl⟩:=cw I
 have bk:(((dE kind s).take i).map<|eD kind).length=(dE kind s).length:=by rw [fE,dO]; omega
 have Y:(dE kind s).take i=(dE kind s):=eI ab
 have a6:M=none→(((dE kind s).take i).map<|eD kind).length=0:=fun h=>by obtain ⟨a2,c2,ax,_,_,h3⟩:=Rd.jN I; simp only [mR] at ax; exact h3<|ax.1 ▸ h
 refine rg aa<|ak (.slice M (((dE kind s).take i).map<|eD kind).length ag)<|p (bF oQ aa aa)<|p (gt aa aa)<|aE<|ac _ _<|cd aa (fun ai=> ?_) fun ai=> ?_
 refine aj fun _ E=>p aB<|aw<|E _ _<|rt<|tr<|f2 aa aa aa ?_
 rw [Y] at G bk
 have j:dX kind s=([],32):=by unfold dX; rw [if_neg C,if_neg G,if_pos (by rw [Y,fE] at ai; omega)]
 exact ⟨⟨.slice none 0 0,by rw [j]; rfl,by rw [j]; exact du _ _ _ _⟩,Md.trans U q⟩
 refine aM<|tn<|Z _ _<|aj fun _ E=>ak (.slice M (((dE kind s).take i).map<|eD kind).length ag)<|e<|cl Gd (yS (((dE kind s).take i).map<|eD kind) M ag _ (aX I).2 a6<|by rw [fE,dO] at*; omega) aa fun v37 bC a3=> ?_
 obtain ⟨av,aW⟩:=a3
 refine p aB<|aw<|E _ _<|rt<|f2 aa aa aa ?_
 rw [Y] at G av
 have j:dX kind s=(kf ((dE kind s).map<|eD kind),0):=by unfold dX; rw [if_neg C,if_neg G,if_neg (by rw [Y,fE] at ai; omega)]
 exact ⟨⟨v37,by rw [j]; rfl,by rw [j]; exact ep av<|by have :=U.size; have :=q.size; omega⟩,Md.trans U<|Md.trans q aW⟩
end Go.Hb.qf
end
section
set_option maxRecDepth 20000
set_option maxHeartbeats 1000000
namespace Go.Hb.j5
open Go.Hb.dT
open Go.Proofs
theorem Wo {b:UInt8} (h:¬(b.toNat:Int)=10):b≠10:=by rintro rfl; exact h rfl
theorem U6 {b:UInt8} (h:(b.toNat:Int)=10):b=10:=kY.1 (by have :(10:UInt8).toNat=10:=rfl; omega)
theorem U7 {b:UInt8} (h:(b.toNat:Int)=13):b=13:=kY.1 (by have :(13:UInt8).toNat=13:=rfl; omega)
theorem Wp {b:UInt8} (h:¬(b.toNat:Int)=13):b≠13:=by rintro rfl; exact h rfl
theorem Ci (b:UInt8) (w:World):
 bh ay 191 (ba [.int .u8 b.toNat]) w (fun v w'=>v= .bool (nd b)∧Wk w w'):=by
 refine enter func191 aa ntmps191 aa<|aj fun _ i=>aw<|i _ _<|aj fun _ a=>ak (.int .u8 b.toNat)<|p (bH aa aa)<|p mv<|gs (t:=5) aa (fun j=> ?_) fun j=> ?_
 exact sk aa aa aa aa<|sk aa aa aa aa<|p (bw aa)<|aw<|a _ _<|rt<|f1 aa aa<|⟨by show bQ true =_; rw [qE,decide_eq_true (.inl ab)],Md.refl _ _⟩
 exact pg aa aa aa (aT (.int .u8 b.toNat) aa)<|pg aa aa aa (bH aa aa)<|p (bm aa)<|aw<|a _ _<|rt<|f1 aa aa<|⟨by show bQ (decide ((b.toNat:Int)=9))=_; rw [qE]; exact congrArg bQ (decide_eq_decide.2 ab),Md.refl _ _⟩
theorem Te (l:List UInt8) (w:World) (bj:l.length≤1048576):
 bh ay 127 (ba [str l]) w (fun v w'=>bo w' w.heap.size 9 1 v (cD [] l).length ((cD [] l).map str)∧Wk w w'):=by
 refine enter func127 aa ntmps127 aa<|aj fun _ az=>aw<|az _ _<|aj fun _ aA=>p aB<|aE<|aA _ _<|aj fun _ aC=>aw<|aC _ _<|sq fun _ aD=>aj fun _ aF=>ak (str l)<|p (cg u9 aa aa)<|p mv<|aE<|aF _ _<|aJ<|lp (fun av J ar=> ∃ (i:Nat) (a:Int) (M:List UInt8) (j:List (List UInt8)) (v:Value),(i≤l.length)∧(kZ l i a M)∧(j++cD M (l.drop i)=(cD [] l))∧(Wk w ar)∧(bo ar w.heap.size 9 1 v (j).length<|(j).map str)∧(J 0=str l)∧(J 3=v)∧(J 4= .int .i64 a)∧(J 7= .int .i64 l.length)∧(J 8= .int .i64 i)∧(l.length - i=av)) _ ⟨0,-1,[],[],.slice none 0 0,ab,kZ.no,aa,(Md.refl _ _),(du _ _ _ _),aa,aa,aa,aa,aa,aa⟩ ?_
 rintro av J ar ⟨i,a,M,j,v,hi,G,hd,V,ag,a2,a3,a4,a5,a6,rfl⟩
 refine fx 0 a2<|fx 3 a3<|fx 4 a4<|fx 7 a5<|fx 8 a6 ?_
 have bf:j.length≤l.length+1:=by have h1:=congrArg jy hd; have h2:=uY l []; rw [bI] at h1; omega
 refine aj fun _ aG=>p (lt aa aa)<|aE<|aG _ _<|sq fun _ aK=>cd aa (fun aX=> ?_) fun aX=> ?_
 refine aM<|tn<|aK _ _<|sq fun _ q=>aJ<|aj fun _ al=>ak (.int .i64 i)<|p (cH (.int .i64 i) aa)<|aE<|al _ _<|aJ<|aj fun _ I=>ak (str l)<|ak (.int .i64 i)<|p (eK u9 aa aa ab)<|e<|cl AL (Ci (l.getD i 0) _) aa fun bq a8 aS=> ?_
 obtain ⟨rfl,ax⟩:=aS
 have Y:Wk w a8:=Md.trans V ax
 have bk:=Y.size
 have ah:=aU ag ax
 refine p mv<|gb (t:=16) aa (fun C=> ?_) fun C=> ?_
 refine pg aa aa aa (aT (.int .i64 a) aa)<|pg aa aa aa (ge aa aa)<|p (bw aa)<|aw<|I _ _<|cd aa (fun aV=> ?_) fun aV=> ?_
 obtain ⟨aH,U,aq⟩:=G.pos ab
 refine aj fun _ E=>ak (v)<|ak (str l)<|ak (.int .i64 a)<|ak (.int .i64 i)<|p (l7 u9 aa aa aa ab)<|e<|fR fH aa aa fun a9 br bc ac aL=>e<|ap fH (aU ah ac.md) aa (by have :=ac.size; omega) aa (aI.dS aL) (aa) (aa) ab ab fun a7 bs aY aQ bl bg=> ?_
 have aO:=Wk.own (Md.trans Y ac.md) (aU ah ac.md) aQ<|cj _
 have aZ:=mH aY
 exact aw<|E _ _<|rg aa<|p aB<|nl<|bn<|bn<|tn<|q _ _<|rg aa<|p (ad aa aa<|bT ab)<|p mv<|aE<|⟨_,ab,i+1,-1,[],j++ [(l.take i).drop a.toNat],a7,ab,kZ.no,(by rw [drop_cons 0 ab,Ib C aq,U] at hd; rw [dC]; exact hd),aO,aZ,aa,aa,aa,aa,aa,aa⟩
 refine aj fun _ E=>ak (str l)<|ak (.int .i64 i)<|p (eK u9 aa aa ab)<|e<|cl AL (Ci (l.getD i 0) _) aa fun v31 au am=> ?_
 obtain ⟨rfl,O⟩:=am
 have Z:Wk w au:=Md.trans Y O
 have ai:=aU ah O
 refine p (no aa)<|p mv<|gb (t:=33) aa (fun A=> ?_) fun A=> ?_
 refine pg aa aa aa (aT (.int .i64 a) aa)<|pg aa aa aa (lt aa aa)<|p (bw aa)<|aw<|E _ _<|cd aa (fun an=> ?_) fun an=> ?_
 refine rg aa<|ak (.int .i64 i)<|p (cH (.int .i64 i) aa)<|nl<|bn<|bn<|tn<|q _ _<|rg aa<|p (ad aa aa<|bT ab)<|p mv<|nl<|tn ?_
 rw [C] at A; cases A
 refine aM<|bn<|bn<|tn<|q _ _<|rg aa<|p (ad aa aa<|bT ab)<|p mv<|nl<|tn ?_
 rw [C] at A; cases A
 exact sk aa aa aa aa<|sk aa aa aa aa<|p (bm aa)<|aw<|E _ _<|cf aa<|aM<|bn<|bn<|tn<|q _ _<|rg aa<|p (ad aa aa<|bT ab)<|p mv<|nl<|tn<|⟨_,ab,i+1,a,M,j,v,ab,(by obtain ⟨h1,h2⟩:=G.neg ab; subst h1 h2; exact kZ.no),(by obtain ⟨h1,h2⟩:=G.neg ab; subst h2; rw [drop_cons 0 ab,yb C] at hd; exact hd),Z,ai,aa,aa,aa,aa,aa,aa⟩
 refine sk aa aa aa aa<|sk aa aa aa aa<|p (bm aa)<|aw<|I _ _<|cf aa<|sq fun _ E=>rg aa<|ak (str l)<|ak (.int .i64 i)<|p (eK u9 aa aa ab)<|e<|cl AL (Ci (l.getD i 0) _) aa fun v31 au am=> ?_
 obtain ⟨rfl,O⟩:=am
 have Z:Wk w au:=Md.trans Y O
 have ai:=aU ah O
 refine p (no aa)<|p mv<|gb (t:=33) aa (fun A=> ?_) fun A=> ?_
 refine pg aa aa aa (aT (.int .i64 a) aa)<|pg aa aa aa (lt aa aa)<|p (bw aa)<|aw<|E _ _<|cd aa (fun an=> ?_) fun an=> ?_
 exact rg aa<|ak (.int .i64 i)<|p (cH (.int .i64 i) aa)<|nl<|bn<|bn<|tn<|q _ _<|rg aa<|p (ad aa aa<|bT ab)<|p mv<|aE<|⟨_,ab,i+1,i,[l.getD i 0],j,v,ab,(kZ.begin ab),(by obtain ⟨h1,h2⟩:=G.neg ab; subst h2; rw [drop_cons 0 ab,BT C] at hd; exact hd),Z,ai,aa,aa,aa,aa,aa,aa⟩
 exact aM<|bn<|bn<|tn<|q _ _<|rg aa<|p (ad aa aa<|bT ab)<|p mv<|nl<|tn<|⟨_,ab,i+1,a,M++ [l.getD i 0],j,v,ab,(G.more ab ab),(by rw [drop_cons 0 ab,BT C] at hd; exact hd),Z,ai,aa,aa,aa,aa,aa,aa⟩
 refine sk aa aa aa aa<|sk aa aa aa aa<|p (bm aa)<|aw<|E _ _<|cf aa<|aM<|bn<|bn<|tn<|q _ _<|rg aa<|p (ad aa aa<|bT ab)<|p mv<|nl<|tn ?_
 rw [C] at A; cases A
 refine ext<|te _<|te _<|be<|tn<|aD _ _<|sq fun _ q=>aj fun _ al=>ak (.int .i64 a)<|p (ge aa aa)<|aE<|al _ _<|cd aa (fun aW=> ?_) fun aW=> ?_
 obtain ⟨aH,U,aq⟩:=G.pos ab
 refine rg aa<|ak (v)<|ak (str l)<|ak (.int .i64 a)<|p (l8 u9 aa aa ab)<|e<|fR fH aa aa fun bb bt bd ae aN=>e<|ap fH (aU ag ae.md) aa (by have :=ae.size; have :=V.size; omega) aa (aI.dS aN) (aa) (aa) ab ab fun v46 bu a0 aR bp bi=> ?_
 have aP:=Wk.own (Md.trans V ae.md) (aU ag ae.md) aR<|cj _
 have a1:=mH a0
 refine aw<|q _ _<|aj fun _ I=>p mv<|p aB<|nl<|tn<|I _ _<|rt<|f1 aa aa ?_
 have ao:j++ [l.drop a.toNat]=(cD [] l):=by rw [← hd,show l.drop i= [] from gP ab,Ic aq,U,eI ab]
 exact ⟨by rw [← ao]; exact a1,aP⟩
 obtain ⟨aH,U⟩:=G.neg ab
 refine aM<|tn<|q _ _<|aj fun _ I=>ak (v)<|p (cH (v) aa)<|aE<|I _ _<|rt<|f1 aa aa ?_
 have ao:j=(cD [] l):=by rw [← hd,gP ab,U,BU,ed]
 exact ⟨by rw [← ao]; exact ag,V⟩
theorem Xo (l:List UInt8) (w:World) (a8:l.length≤1048576):
 bh ay 170 (ba [str l]) w (fun v w'=>bo w' w.heap.size 9 1 v (cD [] l).length ((cD [] l).map str)∧Wk w w'):=by
 refine enter func170 aa ntmps170 aa<|aj fun _ aG=>aw<|aG _ _<|aj fun _ aK=>p aB<|aE<|aK _ _<|aj fun _ aL=>aw<|aL _ _<|sq fun _ aN=>aJ<|lp (fun M am al=> ∃ (i:Nat) (q:List (List UInt8)) (v:Value),(i≤l.length)∧(q++cD [] (l.drop i)=(cD [] l))∧(Wk w al)∧(bo al w.heap.size 9 1 v (q).length<|(q).map str)∧(am 0=str l)∧(am 3=v)∧(am 4= .int .i64 i)∧(l.length - i=M)) _ ⟨0,[],.slice none 0 0,ab,aa,(Md.refl _ _),(du _ _ _ _),aa,aa,aa,aa⟩ ?_
 rintro M am al ⟨i,q,v,hi,hd,C,E,aZ,a0,a1,rfl⟩
 refine fx 0 aZ<|fx 3 a0<|fx 4 a1 ?_
 have a6:q.length≤l.length+1:=by have h1:=congrArg jy hd; have h2:=uY l []; rw [bI] at h1; omega
 refine sq fun _ aO=>aj fun _ aP=>ak (.int .i64 i)<|ak (str l)<|p (cg u9 aa aa)<|p (lt aa aa)<|nl<|tn<|aP _ _<|cd aa (fun aV=> ?_) fun aV=> ?_
 refine aM<|tn<|aO _ _<|aJ<|sq fun _ aq=>aj fun _ au=>ak (str l)<|ak (.int .i64 i)<|p (eK u9 aa aa ab)<|p (bH aa aa)<|p mv<|gs (t:=14) aa (fun aW=> ?_) fun aW=> ?_
 exact sk aa aa aa aa<|sk aa aa aa aa<|sk aa aa aa aa<|sk aa aa aa aa<|p (bw aa)<|aE<|au _ _<|ct aa<|aj fun _ J=>ak (.int .i64 i)<|p (ad aa aa<|bT ab)<|aw<|J _ _<|ext<|te _<|be<|tn<|⟨_,ab,i+1,q,v,ab,(by rw [drop_cons 0 ab,yb (by rw [qE]; exact decide_eq_true<|.inl ab)] at hd; exact hd),C,E,aa,aa,aa,aa⟩
 refine pg aa aa aa (aT (str l) aa)<|pg aa aa aa (aT (.int .i64 i) aa)<|pg aa aa aa (eK u9 aa aa ab)<|pg aa aa aa (bH aa aa)<|p (bm aa)<|aE<|au _ _<|cd aa (fun aR=> ?_) fun aR=> ?_
 exact aj fun _ J=>ak (.int .i64 i)<|p (ad aa aa<|bT ab)<|aw<|J _ _<|ext<|te _<|be<|tn<|⟨_,ab,i+1,q,v,ab,(by rw [drop_cons 0 ab,yb (by rw [qE]; exact decide_eq_true<|.inr ab)] at hd; exact hd),C,E,aa,aa,aa,aa⟩
 have ar:nd (l.getD i 0)=false :=by rw [qE]; exact decide_eq_false ab
 refine aM<|tn<|aq _ _<|aj fun _ J=>ak (.int .i64 i)<|p (cH (.int .i64 i) aa)<|aE<|J _ _<|sq fun _ an=>aJ<|lp (fun M ai aF=> ∃ (j:Nat),(i≤j∧j≤l.length)∧(aF=al)∧(q++cD ((l.take j).drop i) (l.drop j)=(cD [] l))∧(ai 0=str l)∧(ai 3=v)∧(ai 4= .int .i64 i)∧(ai 5= .int .i64 j)∧(l.length - j=M)) _ ⟨i,ab,aa,(by rw [gP (by rw [dO]; omega)]; exact hd),aa,aa,aa,aa,aa⟩ ?_
 rintro M ai aF ⟨j,a7,aQ,A,a2,a3,a4,a5,rfl⟩
 refine fx 0 a2<|fx 3 a3<|fx 4 a4<|fx 5 a5 ?_
 subst aQ
 refine sq fun _ aH=>aj fun _ ao=>ak (.int .i64 j)<|ak (str l)<|p (cg u9 aa aa)<|p (lt aa aa)<|p mv<|gs (t:=27) aa (fun aX=> ?_) fun aX=> ?_
 refine pg aa aa aa (aT (str l) aa)<|pg aa aa aa (aT (.int .i64 j) aa)<|pg aa aa aa (eK u9 aa aa ab)<|pg aa aa aa (cX aa aa)<|p (bw aa)<|p mv<|gs (t:=33) aa (fun aY=> ?_) fun aY=> ?_
 refine pg aa aa aa (aT (str l) aa)<|pg aa aa aa (aT (.int .i64 j) aa)<|pg aa aa aa (eK u9 aa aa ab)<|pg aa aa aa (cX aa aa)<|p (bw aa)<|aE<|ao _ _<|cd aa (fun aS=> ?_) fun aS=> ?_
 exact aM<|tn<|aH _ _<|aJ<|rg aa<|ak (.int .i64 j)<|p (ad aa aa<|bT ab)<|p aB<|nl<|bn<|tn<|⟨_,ab,j+1,ab,aa,(by rw [drop_cons (l:=l) (i:=j) 0 ab,BT (by rw [qE]; exact decide_eq_false ab),← vO 0 ab ab] at A; exact A),aa,aa,aa,aa,aa⟩
 have G:l.length≤j∨nd (l.getD j 0)=true := .inr<|by rw [qE]; exact decide_eq_true<|.inr ab
 have Z:¬j=i:=by
  rintro rfl
  rcases G with h | h
  omega
  rw [ar] at h; cases h
 have ac:(l.take j).drop i≠[]:=fun O=>Z<|by have h1:=congrArg jy O; simp only [fK,dO,fP] at h1; omega
 rw [BR (i:=j) ac G] at A
 refine ext<|te _<|te _<|be<|tn<|an _ _<|aj fun _ I=>ak (v)<|ak (str l)<|ak (.int .i64 i)<|ak (.int .i64 j)<|p (l7 u9 aa aa aa ab)<|e<|fR fH aa aa fun av aC ax a U=>e<|ap fH (aU E a.md) aa (by have :=a.size; have :=C.size; omega) aa (aI.dS U) (aa) (aa) ab ab fun ah aD ae Y aA az=> ?_
 have V:=Wk.own (Md.trans C a.md) (aU E a.md) Y<|cj _
 have ag:=mH ae
 exact aw<|I _ _<|rg aa<|ak (.int .i64 j)<|p (cH (.int .i64 j) aa)<|nl<|bn<|tn<|⟨_,ab,j,q++ [(l.take j).drop i],ah,ab,(by rw [dC]; exact A),V,ag,aa,aa,aa,aa⟩
 have G:l.length≤j∨nd (l.getD j 0)=true := .inr<|by rw [qE]; exact decide_eq_true<|.inl ab
 have Z:¬j=i:=by
  rintro rfl
  rcases G with h | h
  omega
  rw [ar] at h; cases h
 have ac:(l.take j).drop i≠[]:=fun O=>Z<|by have h1:=congrArg jy O; simp only [fK,dO,fP] at h1; omega
 rw [BR (i:=j) ac G] at A
 refine sk aa aa aa aa<|sk aa aa aa aa<|sk aa aa aa aa<|sk aa aa aa aa<|p (bm aa)<|aE<|ao _ _<|cf aa<|ext<|te _<|te _<|be<|tn<|an _ _<|aj fun _ I=>ak (v)<|ak (str l)<|ak (.int .i64 i)<|ak (.int .i64 j)<|p (l7 u9 aa aa aa ab)<|e<|fR fH aa aa fun av aC ax a U=>e<|ap fH (aU E a.md) aa (by have :=a.size; have :=C.size; omega) aa (aI.dS U) (aa) (aa) ab ab fun ah aD ae Y aA az=> ?_
 have V:=Wk.own (Md.trans C a.md) (aU E a.md) Y<|cj _
 have ag:=mH ae
 exact aw<|I _ _<|rg aa<|ak (.int .i64 j)<|p (cH (.int .i64 j) aa)<|nl<|bn<|tn<|⟨_,ab,j,q++ [(l.take j).drop i],ah,ab,(by rw [dC]; exact A),V,ag,aa,aa,aa,aa⟩
 have G:l.length≤j∨nd (l.getD j 0)=true := .inl ab
 have Z:¬j=i:=by
  rintro rfl
  rcases G with h | h
  omega
  rw [ar] at h; cases h
 have ac:(l.take j).drop i≠[]:=fun O=>Z<|by have h1:=congrArg jy O; simp only [fK,dO,fP] at h1; omega
 rw [BR (i:=j) ac G] at A
 refine sk aa aa aa aa<|sk aa aa aa aa<|sk aa aa aa aa<|sk aa aa aa aa<|p (bm aa)<|p mv<|sk aa aa aa aa<|sk aa aa aa aa<|sk aa aa aa aa<|sk aa aa aa aa<|p (bm aa)<|aE<|ao _ _<|cf aa<|ext<|te _<|te _<|be<|tn<|an _ _<|aj fun _ I=>ak (v)<|ak (str l)<|ak (.int .i64 i)<|ak (.int .i64 j)<|p (l7 u9 aa aa aa ab)<|e<|fR fH aa aa fun av aC ax a U=>e<|ap fH (aU E a.md) aa (by have :=a.size; have :=C.size; omega) aa (aI.dS U) (aa) (aa) ab ab fun ah aD ae Y aA az=> ?_
 have V:=Wk.own (Md.trans C a.md) (aU E a.md) Y<|cj _
 have ag:=mH ae
 exact aw<|I _ _<|rg aa<|ak (.int .i64 j)<|p (cH (.int .i64 j) aa)<|nl<|bn<|tn<|⟨_,ab,j,q++ [(l.take j).drop i],ah,ab,(by rw [dC]; exact A),V,ag,aa,aa,aa,aa⟩
 refine ext<|te _<|te _<|be<|tn<|aN _ _<|aj fun _ aq=>ak (v)<|p (cH (v) aa)<|aE<|aq _ _<|rt<|f1 aa aa ?_
 have A:q=(cD [] l):=by rw [← hd,gP ab,BU,ed]
 exact ⟨by rw [← A]; exact E,C⟩
theorem CN (s:List UInt8) (w:World):
 bh ay 171 (ba [str s]) w (fun v w'=>v= .bool (tA s)∧Wk w w'):=by
 refine enter func171 aa ntmps171 aa<|aj fun _ i=>aw<|i _ _<|aj fun _ a=>ak (str s)<|p (cg u9 aa aa)<|p (ge aa aa)<|p mv<|gs (t:=6) aa (fun A=> ?_) fun A=> ?_
 refine pg aa aa aa (aT (str s) aa)<|pg aa aa aa (ja 0 u9 aa aa ab)<|pg aa aa aa (bH aa aa)<|p (bw aa)<|p mv<|gs (t:=11) aa (fun j=> ?_) fun j=> ?_
 refine pg aa aa aa (aT (str s) aa)<|pg aa aa aa (ja 1 u9 aa aa ab)<|pg aa aa aa (bH aa aa)<|p (bw aa)<|p mv<|gs (t:=16) aa (fun q=> ?_) fun q=> ?_
 exact pg aa aa aa (aT (str s) aa)<|pg aa aa aa (ja 2 u9 aa aa ab)<|pg aa aa aa (bH aa aa)<|p (bw aa)<|aw<|a _ _<|rt<|f1 aa aa<|⟨by show bQ (decide (((s.getD 2 0).toNat:Int)=191))=_; rw [yL]; exact congrArg bQ (decide_eq_decide.2 ab),Md.refl _ _⟩
 exact sk aa aa aa aa<|sk aa aa aa aa<|sk aa aa aa aa<|p (bm aa)<|aw<|a _ _<|rt<|f1 aa aa<|⟨by show bQ false =_; rw [yL,decide_eq_false ab],Md.refl _ _⟩
 exact sk aa aa aa aa<|sk aa aa aa aa<|sk aa aa aa aa<|p (bm aa)<|p mv<|sk aa aa aa aa<|sk aa aa aa aa<|sk aa aa aa aa<|p (bm aa)<|aw<|a _ _<|rt<|f1 aa aa<|⟨by show bQ false =_; rw [yL,decide_eq_false ab],Md.refl _ _⟩
 exact sk aa aa aa aa<|sk aa aa aa aa<|sk aa aa aa aa<|p (bm aa)<|p mv<|sk aa aa aa aa<|sk aa aa aa aa<|sk aa aa aa aa<|p (bm aa)<|p mv<|sk aa aa aa aa<|sk aa aa aa aa<|sk aa aa aa aa<|p (bm aa)<|p aB<|nl<|tn<|a _ _<|rt<|f1 aa aa<|⟨by show bQ false =_; rw [yL,decide_eq_false ab],Md.refl _ _⟩
theorem Hs (l:List UInt8) (a:Option Addr) (c:Nat) (w:World) (j:aI w.heap a (U8 l)) (M:l.length≤1048576) (J:l.length≤c):
 bh ay 172 (ba [.slice a l.length c]) w (fun v w'=>v=str (jK l)∧Wk w w'):=by
 refine enter func172 aa ntmps172 aa<|aj fun _ C=>aw<|C _ _<|aj fun _ E=>ak (.slice a l.length c)<|p (bF mQ aa aa)<|aw<|E _ _<|sq fun _ q=>aj fun _ A=>p mv<|p (gt aa aa)<|p mv<|gs (t:=8) aa (fun I=> ?_) fun I=> ?_
 refine pg aa aa aa (aT (.slice a l.length c) aa)<|pg aa aa aa mv<|pg aa aa aa (sb aa aa<|bT ab)<|pg aa aa aa (a7 lZ aa aa ab<|aI.ok (j)<|pV ab)<|pg aa aa aa (ld pB aa<|(show _=some (jh .u8 (l.getD (l.length - 1) 0).toNat) from by rw [show ((l.length:Int) - 1).toNat=l.length - 1 from by omega]; exact pU j ab))<|pg aa aa aa (bH aa aa)<|p (bw aa)<|nl<|tn<|A _ _<|cd aa (fun G=> ?_) fun G=> ?_
 exact aj fun _ i=>ak (.slice a l.length c)<|p mv<|p (sb aa aa<|bT ab)<|p (vP lZ aa aa ab)<|p (m8 m6 aa (Y7 j ((l.length:Int) - 1).toNat)<|by rw [dO]; omega)<|p aB<|aE<|i _ _<|rt<|tr<|f1 aa aa<|⟨by show str (l.take ((l.length:Int) - 1).toNat)=_; rw [Hr ab (U7 ab),show ((l.length:Int) - 1).toNat=l.length - 1 from by omega],Md.refl _ _⟩
 exact aM<|tn<|q _ _<|aj fun _ i=>ak (.slice a l.length c)<|p (m8 m6 aa (j)<|aa)<|p aB<|nl<|tn<|i _ _<|rt<|f1 aa aa<|⟨by show str l=_; rw [By (fun h=>Wp ab h.2)],Md.refl _ _⟩
 exact sk aa aa aa aa<|sk aa aa aa aa<|sk aa aa aa aa<|sk aa aa aa aa<|sk aa aa aa aa<|sk aa aa aa aa<|p (bm aa)<|nl<|tn<|A _ _<|cf aa<|aM<|tn<|q _ _<|aj fun _ i=>ak (.slice a l.length c)<|p (m8 m6 aa (j)<|aa)<|aw<|i _ _<|rt<|f1 aa aa<|⟨by show str l=_; rw [By ab],Md.refl _ _⟩
end Go.Hb.j5
end
section
set_option maxRecDepth 20000
set_option maxHeartbeats 1000000
namespace Go.Hb.fQ
open Go.Hb.dT
open Go.Proofs
open Go.Hb.fq Go.Hb.oy Go.Hb.kn Go.Hb.qf Go.Hb.iM Go.Hb.j5 Go.Hb.ji
theorem UN {l:List Tx} {x:Tx} :∀ {i:Nat},i < l.length→(∀ j,j < i→l.getD j []≠x)→l.getD i []=x→l.idxOf x=i:=by
 induction l with
 | nil=>intro i h; simp at h
 | cons a l E=>
   intro i hi C q
   cases i with
   | zero=>simp only [lP] at q; rw [q,List.idxOf_cons_self]
   | succ i=>
     have A:=C 0 ab
     simp only [lP] at A
     rw [List.idxOf_cons,show (a==x)=false from by simpa using A,cond_false,E (i:=i) (by simpa using hi) (fun j G=>by have :=C (j+1) ab; simpa using this) (by simpa using q)]
theorem S3 {a b:List Tx} (h:a.length≠b.length):a≠b:=fun h2=>h<|by rw [h2]
theorem TY {a b:List Tx} {i:Nat} (h:a.getD i []≠b.getD i []):a≠b:=fun h2=>h<|by rw [h2]
theorem TW {a b:List Tx} (j:a.length=b.length) (h:∀ i,i < a.length→a.getD i []=b.getD i []):a=b:=by
 apply List.ext_getElem j
 intro i h1 h2
 have :=h i h1
 rw [cQ,cQ,cz h1,cz h2] at this
 exact this
theorem YM {s:Tx} {i:Nat} (h:i < s.length):(s.drop i).take 1= [s.getD i 0]:=by
 rw [drop_cons 0 h]; rfl
theorem Mf (b:UInt8):pX [b]=iN b:=by
 unfold pX gq
 cases h:iN b <;> simp [h]
theorem Ln {s:Tx} {i:Nat} (h:i < s.length):(s.take<|i+1).drop i= [s.getD i 0]:=by
 rw [su,show i+1 - i=1 from by omega,YM h]
theorem x5 {s:Tx} (h:s= []∨gq s=false):gB s=21:=if_pos h
theorem HR {s:Tx} (h:s≠[]) (h1:gq s=true) (h2:32 < s.length):gB s=22:=by unfold gB; rw [if_neg (by rw [h1]; simp [h]),if_pos h2]
theorem HS {s:Tx} (h:s≠[]) (h1:gq s=true) (h2:¬32 < s.length):gB s=0:=by unfold gB; rw [if_neg (by rw [h1]; simp [h]),if_neg h2]
theorem Kx {s:Tx} (h:s= [48]):et true s= .ok []:=by unfold et; rw [if_pos ⟨rfl,h⟩]
theorem Db {s:Tx} (h:s≠[48]):et true s=et false s:=by unfold et; simp [h]
theorem C7 {s:Tx} (h:(bu s).2.2.2≠0):et false s= .error (bu s).2.2.2:=by unfold et; rw [if_neg (fun h2=>by cases h2.1),if_pos h]
theorem C8 {s:Tx} (h:(bu s).2.2.2=0) (h1:(bu s).2.2.1=true):et false s= .error 114:=by unfold et; rw [if_neg (fun h2=>by cases h2.1),if_neg (fun h2=>h2 h),if_pos h1]
theorem C9 {s:Tx} (h:(bu s).2.2.2=0) (h1:(bu s).2.2.1=false) (h2:gB (bu s).1≠0):et false s= .error (gB (bu s).1):=by unfold et; rw [if_neg (fun h2=>by cases h2.1),if_neg (fun h2=>h2 h),if_neg (by rw [h1]; simp),if_pos h2]
theorem Da {s:Tx} (h:(bu s).2.2.2=0) (h1:(bu s).2.2.1=false) (h2:gB (bu s).1=0):et false s= .ok (bu s).1:=by unfold et; rw [if_neg (fun h2=>by cases h2.1),if_neg (fun h2=>h2 h),if_neg (by rw [h1]; simp),if_neg (fun h3=>h3 h2)]
theorem nW {s:Tx} {most:Int} (h:(dY s most).2=0):eS s most= .ok (dY s most).1:=by unfold eS; rw [if_neg (fun h2=>h2 h)]
theorem pQ {s:Tx} {most:Int} (h:(dY s most).2≠0):eS s most= .error 13∧(dY s most).2=13:=by
 refine ⟨by unfold eS; rw [if_pos h],?_⟩
 rcases Kj s most with h1 | ⟨h1,_⟩
 · rw [h1]
 · rw [h1] at h; exact absurd rfl h
theorem Jf (l:List Tx) (a:Option Addr) (c:Nat) (x:Tx) (w:World) (I:bX w.heap a l) (aq:l.length≤1048576):
 bh ay 192 (ba [.slice a l.length c,str x]) w (fun v w'=>v= .int .i64 (if x∈l then (l.idxOf x:Nat) else -1:Int)∧w'=w):=by
 refine enter func192 aa ntmps192 aa<|aj fun _ O=>aw<|O _ _<|sq fun _ U=>aj fun _ V=>ak (.slice a l.length c)<|p (bF eQ aa aa)<|p mv<|aE<|V _ _<|aJ<|lp (fun G q M=> ∃ (i:Nat),(i≤l.length)∧(∀ j,j < i→l.getD j []≠x)∧(M=w)∧(q 0= .slice a l.length c)∧(q 1=str x)∧(q 7=au (l.length))∧(q 8=au i)∧(l.length - i=G)) _ ⟨0,ab,(fun j J=>by omega),aa,aa,aa,aa,aa,aa⟩ ?_
 rintro G q M ⟨i,hi,E,ah,al,am,an,ao,rfl⟩
 refine fx 0 al<|fx 1 am<|fx 7 an<|fx 8 ao ?_
 subst ah
 refine aj fun _ Y=>p (lt aa aa)<|aE<|Y _ _<|sq fun _ Z=>cd aa (fun ai=> ?_) fun ai=> ?_
 refine aM<|tn<|Z _ _<|sq fun _ C=>aJ<|aj fun _ ac=>ak (au i)<|p (cH (au i) aa)<|aE<|ac _ _<|aj fun _ ae=>ak (str x)<|ak (.slice a l.length c)<|ak (au i)<|p (a7 cE aa aa ab<|aI.ok (I)<|bP ab)<|p (ld bR aa<|bX.get (i:=i) I ab)<|p (dR aa aa)<|aE<|ae _ _<|cd aa (fun A=> ?_) fun A=> ?_
 exact aj fun _ ag=>ak (au i)<|p (cH (au i) aa)<|aE<|ag _ _<|rt<|br<|tr<|tr<|br<|tr<|f1 aa aa<|⟨by rw [if_pos (by rw [A]; exact dQ ab),UN ab E A.symm]; rfl,aa⟩
 exact aM<|bn<|tn<|C _ _<|rg aa<|p (ad aa aa<|bT ab)<|p mv<|nl<|tn<|⟨_,ab,i+1,ab,(fun j J=>by rcases e8 j i with h | h <;> first | exact E j h | (rw [show j=i by omega]; exact fun h2=>A h2.symm)),aa,aa,aa,aa,aa,aa⟩
 exact ext<|te _<|te _<|be<|tn<|U _ _<|aj fun _ C=>p aB<|aE<|C _ _<|rt<|f1 aa aa<|⟨by rw [if_neg (fun h=>by obtain ⟨j,J,ap⟩:=nU [] h; exact E j ab ap)]; rfl,aa⟩
theorem S4 (l m:List Tx) (A E:Nat) (a b:Option Addr) (c d:Nat) (w:World) (Y:bX w.heap a l) (Z:bX w.heap b m) (aK:l.length=A) (aL:m.length=E) (aG:A≤1048576):
 bh ay 240 (ba [.slice a A c,.slice b E d]) w (fun v w'=>v= .bool (decide (l=m))∧Wk w w'):=by
 refine enter func240 aa ntmps240 aa<|aj fun _ ah=>aw<|ah _ _<|sq fun _ am=>aj fun _ an=>ak (.slice a A c)<|p (bF eQ aa aa)<|ak (.slice b E d)<|p (bF eQ aa aa)<|p (cX aa aa)<|aE<|an _ _<|cd aa (fun av=> ?_) fun av=> ?_
 exact aj fun _ J=>aw<|J _ _<|rt<|tr<|f1 aa aa<|⟨by show bQ false =_; rw [decide_eq_false (S3 ab)],Md.refl _ _⟩
 have az:l.length=m.length:=ab
 refine aM<|tn<|am _ _<|sq fun _ J=>aj fun _ ao=>ak (.slice a A c)<|p (bF eQ aa aa)<|p mv<|aE<|ao _ _<|aJ<|lp (fun V I G=> ∃ (i:Nat),(i≤A)∧(∀ j,j < i→l.getD j []=m.getD j [])∧(Wk w G)∧(I 0= .slice a A c)∧(I 1= .slice b E d)∧(I 12=au A)∧(I 13=au i)∧(A - i=V)) _ ⟨0,ab,(fun j ac=>by omega),(Md.refl _ _),aa,aa,aa,aa,aa⟩ ?_
 rintro V I G ⟨i,hi,ae,C,aA,aC,aD,aF,rfl⟩
 refine fx 0 aA<|fx 1 aC<|fx 12 aD<|fx 13 aF<|aj fun _ ap=>p (lt aa aa)<|aE<|ap _ _<|sq fun _ aq=>cd aa (fun ax=> ?_) fun ax=> ?_
 refine aM<|tn<|aq _ _<|sq fun _ M=>aJ<|aj fun _ ar=>ak (au i)<|p (cH (au i) aa)<|aE<|ar _ _<|sq fun _ ai=> ?_
 have q:(fun w'=>Wk G w') G.drew:=(Md.refl _ _).drew
 refine bJ (fun w'=>Wk G w') aa wide q<|bC 0 aa (.slice a A c) q<|bC 1 aa (au i) q<|aH 2 aa (fun _ _=>a7 cE aa aa ab<|aI.ok (Y.wk C)<|bP ab) q<|aH 3 aa (fun w' O=>ld bR aa<|Wk.aO O<|bX.get (i:=i) (Y.wk C) ab) q<|bC 4 aa (.slice b E d) q<|bC 5 aa (au i) q<|aH 6 aa (fun _ _=>a7 cE aa aa ab<|aI.ok (Z.wk C)<|bP ab) q<|aH 7 aa (fun w' O=>ld bR aa<|Wk.aO O<|bX.get (i:=i) (Z.wk C) ab) q<|aH 8 aa (fun _ _=>oN aa aa) q<|hn ag<|tn<|ai _ _<|cd aa (fun U=> ?_) fun U=> ?_
 exact aj fun _ al=>aw<|al _ _<|rt<|br<|tr<|tr<|br<|tr<|f1 aa aa<|⟨by show bQ false =_; rw [decide_eq_false (TY U)],C.drew⟩
 exact aM<|bn<|tn<|M _ _<|rg aa<|p (ad aa aa<|bT ab)<|p mv<|nl<|tn<|⟨_,ab,i+1,ab,(fun j ac=>by rcases e8 j i with h | h <;> first | exact ae j h | (rw [show j=i by omega]; exact jn.1 U)),C.drew,aa,aa,aa,aa,aa⟩
 exact ext<|te _<|te _<|be<|tn<|J _ _<|aj fun _ M=>p aB<|aE<|M _ _<|rt<|f1 aa aa<|⟨by show bQ true =_; rw [decide_eq_true (TW az fun j ac=>ae j ab)],C⟩
theorem oM (rb ln:Nat) (e:Int) (w:World) (j:Hb.aO w.heap rb 2=some (.int .i64 (ln:Nat))):
 fw ay 136 (ba [.pointer (some ⟨rb,0,none⟩),.int .i64 e]) w (fun v w'=>v=gx #[]∧e=0∧w'=w) (fun c w'=>c=jk 47 ln e∧e≠0∧w'=w):=by
 refine j8 func136 aa ntmps136 aa<|sq fun q a=>rg aa<|p (aT (.int .i64 e) aa)<|p (cX aa aa)<|nl<|tn<|a _ _<|cd aa (fun i=> ?_) fun i=> ?_
 exact rg aa<|p (aT (.pointer<|some ⟨rb,0,none⟩) aa)<|p (nc aa)<|p (fa vd aa)<|p (ld bA aa<|j)<|p (aT (.int .i64 e) aa)<|p (cO (ps:= [(0,.int .i64 1),(1,.int .i64 (ln:Nat)),(2,.int .i64 e)]) (L:= [.int .i64 1,.int .i64 (ln:Nat),.int .i64 e]) tH aa<|aa)<|p (V5 CP aa)<|WX aa fun C A=>⟨aa,ab,aa⟩
 refine aM<|jM<|f0 aa ?_
 exact ⟨aa,ab,aa⟩
theorem iz (rb ln:Nat) (b:Bool) (e:Int) (w:World) (A:Hb.aO w.heap rb 2=some (.int .i64 (ln:Nat))) (he:e≠0):
 fw ay 85 (ba [.pointer (some ⟨rb,0,none⟩),.bool b,.int .i64 e]) w (fun v w'=>v=gx #[]∧b=true∧w'=w) (fun c w'=>c=jk 47 ln e∧b=false∧w'=w):=by
 refine j8 func85 aa ntmps85 aa<|sq fun C j=>rg aa<|p (aT (.bool b) aa)<|p (no aa)<|nl<|tn<|j _ _<|cb aa (fun a=> ?_) fun a=> ?_
 refine rg aa<|p (aT (.pointer<|some ⟨rb,0,none⟩) aa)<|p (aT (.int .i64 e) aa)<|eP aa (dN oD (oM rb ln e w A) aa fun v10 G q=> ?_) fun c w' i I E=>⟨i.1,by simpa using a,i.2.2⟩
 exact absurd q.2.1 he
 refine aM<|jM<|f0 aa ?_
 exact ⟨aa,by simpa using a,aa⟩
theorem LP (B:Nat) (H:dp) (F:aR) (R:gR) (n:Nat) (r:List Tx) (rest:List Rw) (ln:Nat) (seen:List Tx) (w:World) (j:dx w B H F R ((n,r)::rest) ln seen):
 bh ay 84 (ba [aQ H.rb]) w (fun v w'=>(∃ R',dx w' B H F R' rest n seen)∧Tg w' B 9 r.length v (r.map str)∧Md (fun k=>k=H.rb) w w'):=by
 obtain ⟨vr,vs,vn⟩:=R
 obtain ⟨a,cp,aC⟩:=j.rws.slice
 obtain rfl :vr= .slice a (rest.length+1) cp:=aC
 obtain ⟨q,vs,rfl⟩:∃ q G,vs=q::G:=by
  cases vs with
  | nil=>exact absurd j.rt.1<|by simp
  | cons q G=>exact ⟨q,G,rfl⟩
 obtain ⟨C,aD⟩:=q
 obtain ⟨aA,Y⟩:=j.rt.2 0 (C,aD) (n,r) rfl rfl
 obtain rfl :C=n:=aA
 obtain ⟨am,an,rfl⟩:=Y.slice
 have Z:rest.length+1≤cp∧aI w.heap a (kF ((C,.slice am r.length an)::vs)):=j.rws.cells
 have A:=j.cells
 have aK:H.rb < w.heap.size:=(dm.1 A).1
 refine enter func84 aa ntmps84 aa<|aj fun _ ac=>aw<|ac _ _<|aj fun _ ae=>ak (aQ H.rb)<|p (nc aa)<|p (fa vc aa)<|p (ld sL aa<|(a6 A).trans aa)<|p (a7 tc aa aa ab<|aI.ok (Z.2)<|lM<|by simp)<|p (cT xu aa (aa)<|lN (i:=0) Z.2 aa)<|e<|al MD fun aG aL aH O ap=> ?_
 have ax:=O.md.aJ A
 refine e<|cW G4 aa aa aa aa (ap) (by simp) fun aN I ao=> ?_
 have V:=I.aJ ax fun h=>by omega
 refine aE<|ae _ _<|aj fun _ ag=>ak (aQ H.rb)<|ak (aQ H.rb)<|p (nc aa)<|p (fa vc aa)<|p (ld sL aa<|(a6 V).trans aa)<|p (vQ tc aa aa ab)<|p (nc aa)<|p (fa vc aa)<|e<|cV G3 aa aa (v:= .slice (gh a cp 1 2) rest.length<|cp - 1) aa V (by show _ < 7; decide) fun aM J aq=> ?_
 have U:=J.B ao fun h=>by omega
 refine aE<|ag _ _<|aj fun _ ah=>ak (aQ H.rb)<|p (fa yi aa)<|p (ld bA aa<|(U.aO 0).trans aa)<|p (nc aa)<|p (fa vd aa)<|e<|cV gX aa aa (v:=au C) aa aq (by show _ < 7; decide) fun aF M ar=> ?_
 have av:=M.B U fun h=>by omega
 refine aE<|ah _ _<|aj fun _ ai=>p (fa vf aa)<|p (ld jR aa<|(av.aO 1).trans aa)<|p aB<|nl<|tn<|ai _ _<|rt<|f1 aa aa ?_
 have E:Md (fun k=>k=H.rb) w aF:=(((O.md.mono fun _ _ h=>h.elim).trans' I fun k hk h=>by omega).trans' J fun _ _ h=>h).trans' M fun _ _ h=>h
 exact ⟨⟨⟨.slice (gh a cp 1 2) rest.length (cp - 1),vs,vn⟩,j.dD (R':=⟨.slice (gh a cp 1 2) rest.length (cp - 1),vs,vn⟩) E ar aa (j.rws.pH (m:=2)<|(Lc _).trans<|by have :=j.rt.1; simp at this; simp [this])<|gT.tl j.rt⟩,Y.md E (fg A az),E⟩
theorem Cz (B:Nat) (H:dp) (F:aR) (R:gR) (rows:List Rw) (ln:Nat) (seen:List Tx) (hd:List Tx) (aj j:Nat) (C:Option Addr) (E:Nat) (w:World) (J:dx w B H F R rows ln seen) (ao:Tg w aj 9 j (.slice C j E) (hd.map str)) (M:hd.length=j) (aW:j≤1000) (aG:∀ q∈rows,q.2.length≤70000):
 fw ay 197 (ba [.pointer (some ⟨H.rb,0,none⟩),.slice C j E]) w (fun v w'=> ∃ n r rest,rows=(n,r)::rest∧r.take hd.length=hd∧(∃ R',dx w' B H F R' rest n seen)∧Tg w' B 9 r.length v (r.map str)∧Md (fun k=>k=H.rb) w w') (fun c w'=>((rows= []∧c=jk 47 H.eof 116)∨(∃ n r rest,rows=(n,r)::rest∧r.take hd.length≠hd∧c=jk 47 n 116))∧Md (fun k=>k=H.rb) w w'):=by
 obtain ⟨a,cp,aH⟩:=J.rws.slice
 have Y:=J.cells
 have Z:=J.cells
 unfold vI at Y
 rw [aH] at Y
 refine j8 func197 aa ntmps197 aa<|sq fun aP au=>rg aa<|p aB<|nl<|tn<|au _ _<|sq fun aQ av=>sq fun aS aw=>rg aa<|p (aT (.pointer<|some ⟨H.rb,0,none⟩) aa)<|p (nc aa)<|p (fa vc aa)<|p (ld sL aa<|(a6 Y).trans aa)<|p (bF zo aa aa)<|p (bH aa aa)<|nl<|tn<|aw _ _<|cd aa (fun ah=> ?_) fun ah=> ?_
 obtain rfl :rows= []:=fO ab
 refine sq fun ak O=>rg aa<|p (aT (.pointer<|some ⟨H.rb,0,none⟩) aa)<|p (aT (.pointer<|some ⟨H.rb,0,none⟩) aa)<|p (nc aa)<|p (fa TD aa)<|p (ld bA aa<|(a6 Z).trans aa)<|p (nc aa)<|p (fa vd aa)<|e<|cV gX aa aa (v:= .int .i64 (H.eof:Nat)) aa Z (by show _ < 7; decide) fun aN ax an=>nl<|tn<|O _ _<|rg aa<|p (aT (.pointer<|some ⟨H.rb,0,none⟩) aa)<|eP aa (dN oD (oM H.rb H.eof 116 aN<|(a6 an).trans aa) aa fun v20 a0 aA=> ?_) fun c w' i ai ae=>⟨.inl ⟨aa,i.1⟩,i.2.2 ▸ ax⟩
 exact absurd aA.2.1 az
 obtain ⟨q,rest,rfl⟩:∃ q rest,rows=q::rest:=by
  cases rows with
  | nil=>exact absurd rfl ah
  | cons q rest=>exact ⟨q,rest,rfl⟩
 obtain ⟨n,r⟩:=q
 refine aM<|tn<|av _ _<|sq fun ak O=>rg aa<|p (aT (.pointer<|some ⟨H.rb,0,none⟩) aa)<|e<|cl Gz (LP B H F R n r rest ln seen _ J) aa fun aY aJ aC=> ?_
 obtain ⟨⟨am,I⟩,hT,G⟩:=aC
 obtain ⟨ar,cr,rfl⟩:=hT.slice
 have aE:=hT.cI
 have aX:r.length≤70000:=aG (n,r)<|by simp
 have ap:=ao.md G<|fg Z az
 have aq:=ap.cI
 have aV:=I.dj
 refine p aB<|nl<|tn<|O _ _<|sq fun aU ag=>rg aa<|p (aT (.pointer<|some ⟨H.rb,0,none⟩) aa)<|p mv<|p (bF eQ aa aa)<|p (aT (.slice C j E) aa)<|p (bF eQ aa aa)<|p (ge aa aa)<|p mv<|gs (t:=29) aa (fun aF=> ?_) fun aF=> ?_
 refine pg aa aa aa mv<|pg aa aa aa (aT (.slice C j E) aa)<|pg aa aa aa (bF eQ aa aa)<|pg aa aa aa (vP cE aa aa ab)<|pg aa aa aa (aT (.slice C j E) aa)<|eg aa aa aa<|cl PR (S4 (r.take j) hd _ _ ar C cr E _ (by have :=aI.take aE.2 j; unfold bX; rw [EE]; exact this) aq.2 (by rw [dO]; omega) M ab) aa fun aZ aK aD=> ?_
 obtain ⟨rfl,A⟩:=aD
 refine p (bw aa)<|eP aa (dN il (iz H.rb n _ 116 aK (by first | exact I.dj | exact Wk.aO A I.dj) az) aa fun v37 aL V=> ?_) fun c w' i ai ae=>⟨.inr ⟨n,r,rest,aa,(by rw [M]; first | exact of_decide_eq_false i.2.1 | exact fun h=>by have :=congrArg jy h; rw [dO] at this; omega),i.1⟩,by rw [i.2.2]; first | exact G.trans' A (fun _ _ h=>h.elim) | exact G⟩
 obtain ⟨rfl,ac,rfl⟩:=V
 exact nl<|tn<|ag _ _<|sq fun al U=>rg aa<|p mv<|p aB<|nl<|tn<|U _ _<|rt<|jM<|f1 aa aa<|⟨n,r,rest,aa,(by rw [M]; exact of_decide_eq_true ac),⟨am,I.wk A⟩,hT.wk A,G.trans' A fun _ _ h=>h.elim⟩
 refine sk aa aa aa aa<|sk aa aa aa aa<|sk aa aa aa aa<|sk aa aa aa aa<|sk aa aa aa aa<|sk aa aa aa aa<|p (bm aa)<|eP aa (dN il (iz H.rb n _ 116 aJ (by first | exact I.dj | exact Wk.aO A I.dj) az) aa fun v37 aL V=> ?_) fun c w' i ai ae=>⟨.inr ⟨n,r,rest,aa,(by rw [M]; first | exact of_decide_eq_false i.2.1 | exact fun h=>by have :=congrArg jy h; rw [dO] at this; omega),i.1⟩,by rw [i.2.2]; first | exact G.trans' A (fun _ _ h=>h.elim) | exact G⟩
 obtain ⟨rfl,ac,rfl⟩:=V
 exact nl<|tn<|ag _ _<|sq fun al U=>rg aa<|p mv<|p aB<|nl<|tn<|U _ _<|rt<|jM<|f1 aa aa<|absurd ac az
theorem yX (rb ln:Nat) (s:Tx) (most:Int) (w:World) (J:Hb.aO w.heap rb 2=some (.int .i64 (ln:Nat))) (hs:s.length≤1048576) (hm: -9223372036854775808≤most∧most≤9223372036854775807):
 fw ay 196 (ba [.pointer (some ⟨rb,0,none⟩),str s,.int .i64 most]) w (fun v w'=> ∃ a,eS s most= .ok a∧v= .int .i64 (a:Nat)∧Wk w w') (fun c w'=> ∃ e,eS s most= .error e∧c=jk 47 ln e∧Wk w w'):=by
 refine j8 func196 aa ntmps196 aa<|sq fun U q=>rg aa<|p aB<|nl<|tn<|q _ _<|sq fun V A=>rg aa<|p (aT (str s) aa)<|p (aT (.int .i64 most) aa)<|e<|cl xB (yQ s most _ hs hm) aa fun v12 O G=> ?_
 obtain ⟨rfl,j⟩:=G
 refine p mv<|p (xt aa aa)<|p (xt aa aa)<|p aB<|p aB<|nl<|tn<|A _ _<|sq fun Y C=>rg aa<|p (aT (.pointer<|some ⟨rb,0,none⟩) aa)<|p mv<|eP aa (dN oD (oM rb ln (dY s most).2 O<|Wk.aO j J) aa fun ac ae I=> ?_) fun c w' i ag ab=>⟨13,(pQ i.2.1).1,(by rw [i.1,(pQ i.2.1).2]; rfl),by rw [i.2.2]; exact j⟩
 obtain ⟨rfl,M,rfl⟩:=I
 exact nl<|tn<|C _ _<|sq fun Z E=>rg aa<|p mv<|p aB<|nl<|tn<|E _ _<|rt<|jM<|f1 aa aa<|⟨_,nW M,aa,j⟩
theorem Dc (rb ln:Nat) (s:Tx) (w:World) (ah:Hb.aO w.heap rb 2=some (.int .i64 (ln:Nat))) (hs:s.length≤1048576):
 fw ay 193 (ba [.pointer (some ⟨rb,0,none⟩),str s]) w (fun v w'=>v= .tuple #[]∧gq s=true∧Wk w w') (fun c w'=>c=jk 47 ln 21∧gq s=false∧Wk w w'):=by
 refine j8 func193 aa ntmps193 aa<|sq fun an O=>rg aa<|p (aT (str s) aa)<|p (cg u9 aa aa)<|p mv<|nl<|tn<|O _ _<|aJ<|lp (fun E a M=> ∃ (i:Nat),(i≤s.length)∧(∀ j,j < i→iN (s.getD j 0)=true)∧(Wk w M)∧(a 0= .pointer (some ⟨rb,0,none⟩))∧(a 1=str s)∧(a 6= .int .i64 (s.length:Nat))∧(a 7= .int .i64 (i:Nat))∧(s.length - i=E)) _ ⟨0,ab,(fun j G=>by omega),(Md.refl _ _),aa,aa,aa,aa,aa⟩ ?_
 rintro E a M ⟨i,hi,I,q,ai,aj,ak,al,rfl⟩
 refine fx 0 ai<|fx 1 aj<|fx 6 ak<|fx 7 al<|sq fun ao U=>rg aa<|p (lt aa aa)<|nl<|tn<|U _ _<|sq fun ap V=>cd aa (fun ag=> ?_) fun ag=> ?_
 refine aM<|tn<|V _ _<|sq fun aq Y=>aJ<|sq fun ar Z=>rg aa<|p (aT (.int .i64 (i:Nat)) aa)<|p (cH (.int .i64 (i:Nat)) aa)<|nl<|tn<|Z _ _<|rg aa<|p (aT (.pointer<|some ⟨rb,0,none⟩) aa)<|p (aT (str s) aa)<|p (aT (.int .i64 (i:Nat)) aa)<|p (aT (.int .i64 (i:Nat)) aa)<|p (bE ((i+1:Nat):Int) aa aa<|bj ab ab)<|p (l7 u9 aa aa aa ab)<|e<|cl FR (Mh ((s.take<|i+1).drop i) _<|by rw [fK,dO]; omega) aa fun av am ac=> ?_
 obtain ⟨rfl,A⟩:=ac
 refine eP aa (dN il (iz rb ln _ 21 am (Wk.aO (q.trans A) ah) az) aa fun aw ax ae=> ?_) fun c w' C aA au=>⟨C.1,sW (i:=i) ab (by have h:=C.2.1; rw [Ln (by omega :i < s.length),Mf] at h; exact h),by rw [C.2.2]; exact q.trans A⟩
 obtain ⟨rfl,J,rfl⟩:=ae
 rw [Ln (by omega :i < s.length),Mf] at J
 exact nl<|bn<|tn<|Y _ _<|rg aa<|p (ad aa aa<|bT ab)<|p mv<|nl<|tn<|⟨_,ab,i+1,ab,(fun j G=>by rcases e8 j i with h | h <;> first | exact I j h | (rw [show j=i by omega]; exact J)),(q.trans A),aa,aa,aa,aa,aa⟩
 refine ext<|te _<|te _<|be<|jM<|f0 aa ?_
 exact ⟨aa,uJ (fun j G=>I j ab),q⟩
theorem KJ (rb ln:Nat) (s:Tx) (w:World) (q:Hb.aO w.heap rb 2=some (.int .i64 (ln:Nat))) (hs:s.length≤1048576):
 fw ay 241 (ba [.pointer (some ⟨rb,0,none⟩),str s]) w (fun v w'=>v=str s∧gB s=0∧Wk w w') (fun c w'=>c=jk 47 ln (gB s:Nat)∧gB s≠0∧Wk w w'):=by
 refine j8 func241 aa ntmps241 aa<|sq fun ag I=>rg aa<|p aB<|nl<|tn<|I _ _<|sq fun ah J=>rg aa<|p (aT (.pointer<|some ⟨rb,0,none⟩) aa)<|p (aT (str s) aa)<|eP aa (dN AM (Dc rb ln s w q hs) aa fun an ae Z=> ?_) (fun c w' a G A=>by have h:gB s=21:=x5 (.inr a.2.1); exact ⟨by rw [h]; exact a.1,by rw [h]; decide,a.2.2⟩)
 obtain ⟨rfl,E,i⟩:=Z
 refine nl<|tn<|J _ _<|sq fun ai M=>rg aa<|p (aT (.pointer<|some ⟨rb,0,none⟩) aa)<|p (aT (str s) aa)<|p (oN aa aa)<|eP aa (dN il (iz rb ln _ 21 ae (Wk.aO i q) az) aa fun v11 ac V=> ?_) (fun c w' a G A=>by have h:gB s=21:=x5 (.inl<|jn.1<|of_decide_eq_false a.2.1); exact ⟨by rw [h]; exact a.1,by rw [h]; decide,by rw [a.2.2]; exact i⟩)
 obtain ⟨rfl,j,rfl⟩:=V
 have j:s≠[]:=of_decide_eq_true j
 refine nl<|tn<|M _ _<|sq fun aj O=>rg aa<|p (aT (.pointer<|some ⟨rb,0,none⟩) aa)<|p (aT (str s) aa)<|p (cg u9 aa aa)<|p (le aa aa)<|eP aa (dN il (iz rb ln _ 22 ac (Wk.aO i q) az) aa fun am ao Y=> ?_) (fun c w' a G A=>by have al:=of_decide_eq_false a.2.1; have h:gB s=22:=HR j E ab; exact ⟨by rw [h]; exact a.1,by rw [h]; decide,by rw [a.2.2]; exact i⟩)
 obtain ⟨rfl,C,rfl⟩:=Y
 have C:=of_decide_eq_true C
 exact nl<|tn<|O _ _<|sq fun ak U=>rg aa<|p (aT (str s) aa)<|p (cH (str s) aa)<|nl<|tn<|U _ _<|rt<|jM<|f1 aa aa<|⟨aa,HS j E ab,i⟩
theorem Ky (rb ln:Nat) (s:Tx) (w:World) (C:Hb.aO w.heap rb 2=some (.int .i64 (ln:Nat))) (hs:s.length≤1048576):
 fw ay 198 (ba [.pointer (some ⟨rb,0,none⟩),str s]) w (fun v w'=> ∃ a,et false s= .ok a∧v=str a∧Wk w w') (fun c w'=> ∃ e,et false s= .error e∧c=jk 47 ln e∧Wk w w'):=by
 refine j8 func198 aa ntmps198 aa<|sq fun ak J=>rg aa<|p aB<|nl<|tn<|J _ _<|sq fun al M=>rg aa<|p (aT (str s) aa)<|e<|cl AH (D1 s _ hs) aa fun v11 ah Y=> ?_
 obtain ⟨rfl,j⟩:=Y
 have ap:=r9 s
 refine p mv<|p (xt aa aa)<|p (xt aa aa)<|p (xt aa aa)<|p (xt aa aa)<|p aB<|p aB<|p aB<|p aB<|nl<|tn<|M _ _<|sq fun am O=>rg aa<|p (aT (.pointer<|some ⟨rb,0,none⟩) aa)<|p mv<|eP aa (dN oD (oM rb ln ((bu s).2.2.2:Nat) ah<|Wk.aO j C) aa fun aq ai Z=> ?_) fun c w' i G E=>⟨_,C7 (by have :=i.2.1; omega),i.1,by rw [i.2.2]; exact j⟩
 obtain ⟨rfl,q,rfl⟩:=Z
 have q:(bu s).2.2.2=0:=ab
 refine nl<|tn<|O _ _<|sq fun an U=>rg aa<|p (aT (.pointer<|some ⟨rb,0,none⟩) aa)<|p mv<|p (no aa)<|eP aa (dN il (iz rb ln _ 114 ai (Wk.aO j C) az) aa fun ar aj ac=> ?_) fun c w' i G E=>⟨_,C8 q (by simpa using i.2.1),i.1,by rw [i.2.2]; exact j⟩
 obtain ⟨rfl,A,rfl⟩:=ac
 have A:(bu s).2.2.1=false :=by simpa using A
 refine nl<|tn<|U _ _<|sq fun ao V=>rg aa<|p (aT (.pointer<|some ⟨rb,0,none⟩) aa)<|p mv<|eP aa (dN Gg (KJ rb ln (bu s).1 aj (Wk.aO j C) ab) aa fun au av ae=> ?_) fun c w' i G E=>⟨_,C9 q A i.2.1,i.1,j.trans i.2.2⟩
 obtain ⟨rfl,ag,I⟩:=ae
 exact p aB<|nl<|tn<|V _ _<|rt<|jM<|f1 aa aa<|⟨_,Da q A ag,aa,j.trans I⟩
theorem Kv (rb ln:Nat) (s:Tx) (w:World) (O:Hb.aO w.heap rb 2=some (.int .i64 (ln:Nat))) (hs:s.length≤1048576):
 fw ay 199 (ba [.pointer (some ⟨rb,0,none⟩),str s]) w (fun v w'=> ∃ a,et true s= .ok a∧v=str a∧Wk w w') (fun c w'=> ∃ e,et true s= .error e∧c=jk 47 ln e∧Wk w w'):=by
 refine j8 func199 aa ntmps199 aa<|sq fun U C=>rg aa<|p aB<|nl<|tn<|C _ _<|sq fun V E=>sq fun Y G=>rg aa<|p (aT (str s) aa)<|p (dR aa aa)<|nl<|tn<|G _ _<|cd aa (fun i=> ?_) fun i=> ?_
 exact sq fun q j=>rg aa<|p aB<|nl<|tn<|j _ _<|rt<|tr<|jM<|f1 aa aa<|⟨[],Kx i,aa,Md.refl _ _⟩
 refine aM<|tn<|E _ _<|sq fun q j=>rg aa<|p (aT (.pointer<|some ⟨rb,0,none⟩) aa)<|p (aT (str s) aa)<|eP aa (dN F8 (Ky rb ln s w O hs) aa fun v9 ab J=> ?_) fun c w' I ac Z=>by obtain ⟨e,he,h⟩:=I; exact ⟨e,by rw [Db i]; exact he,h⟩
 obtain ⟨a,M,rfl,A⟩:=J
 exact p aB<|nl<|tn<|j _ _<|rt<|jM<|f1 aa aa<|⟨a,by rw [Db i]; exact M,aa,A⟩
end Go.Hb.fQ
end
section
set_option maxRecDepth 20000
set_option maxHeartbeats 1000000
namespace Go.Hb.mi
open Go.Hb.dT
open Go.Proofs
open Go.Hb.fq Go.Hb.fQ Go.Hb.oy Go.Hb.kn Go.Hb.qf Go.Hb.iM Go.Hb.j5 Go.Hb.ji
theorem Iu {kind:Nat} {s:Tx} (h:(gI kind s).2=0):(gI kind s).1≠0:=by
 unfold gI at h ⊢
 split
 · rename_i a; rw [if_pos a] at h; cases h
 · rename_i a; exact a
theorem IC {F:aR} {s:Tx} (h:(gI F.kind s).2≠0):gD F s= .error (gI F.kind s).2:=if_pos h
theorem ID {F:aR} {s:Tx} (h:(gI F.kind s).2=0) (h1:eB F (gI F.kind s).1=true):gD F s= .error 115:=by unfold gD; rw [if_neg (fun h2=>h2 h),if_pos h1]
theorem IE {F:aR} {s:Tx} (h:(gI F.kind s).2=0) (h1:eB F (gI F.kind s).1=false):gD F s= .ok (gI F.kind s).1:=by unfold gD; rw [if_neg (fun h2=>h2 h),if_neg (by rw [h1]; exact eb)]
theorem Lv {F:aR} {rows:List Rw} {ln e:Nat} {r:List Tx} (h:gD F (r.getD 1 [])= .error e):kh F rows ln r= .error (ln,e):=by unfold kh; rw [h]
theorem Lw {F:aR} {rows:List Rw} {ln x:Nat} {r:List Tx} (h:gD F (r.getD 1 [])= .ok x):kh F rows ln r= .ok ({F with sp:=F.sp.set (dZ.idxOf<|r.getD 0 []) x},rows):=by unfold kh; rw [h]
def lj:List Tx:= [ke,kA,kQ,la,lL,eE,fz,di]
theorem C4 (hs:List Tx):ordered hs=true↔∀ k∈lj,k∉hs:=by
 unfold ordered
 rw [Bool.not_eq_true',List.any_eq_false]
 have hm:∀ k,k∈lj↔(k∈dZ∨k=eE∨k=fz∨k=di):=by
  intro k
  simp only [lj,dZ,List.mem_cons,List.not_mem_nil,or_false,or_assoc]
 constructor
 · intro h k hk a
   have :=h k a
   rw [decide_eq_true_iff] at this
   exact this<|(hm k).1 hk
 · intro h x i hd
   rw [decide_eq_true_iff] at hd
   exact h x ((hm x).2 hd) i
theorem Lh {F:aR} {rows:List Rw} {ln:Nat} {r:List Tx} (h:gq (r.getD 1 [])=false):mK F rows ln r= .error (ln,21):=if_pos h
theorem Li {F:aR} {rows:List Rw} {ln:Nat} {r:List Tx} (h:gq (r.getD 1 [])=true):mK F rows ln r= .ok ({F with rE:=r.getD 1 []},rows):=if_neg<|by rw [h]; exact eb
theorem LX {F:aR} {rows:List Rw} {ln:Nat} {r:List Tx} (h:(letE<|r.getD 1 []).2≠0):mP F rows ln r= .error (ln,(letE<|r.getD 1 []).2):=if_pos h
theorem LY {F:aR} {rows:List Rw} {ln:Nat} {r:List Tx} (h:(letE<|r.getD 1 []).2=0):mP F rows ln r= .ok ({F with tr:=(letE<|r.getD 1 []).1},rows):=if_neg fun h2=>h2 h
theorem JT {F:aR} {rows:List Rw} {ln e:Nat} {r:List Tx} (h:eS (r.getD 1 []) 64= .error e):kS F rows ln r= .error (ln,e):=by unfold kS; rw [h]
theorem JU {F:aR} {rows:List Rw} {ln n:Nat} {r:List Tx} (h:eS (r.getD 1 []) 64= .ok n) (a:n=0):kS F rows ln r= .error (ln,13):=by unfold kS; rw [h]; exact if_pos a
theorem JV {F:aR} {rows:List Rw} {ln n:Nat} {r:List Tx} (h:eS (r.getD 1 []) 64= .ok n) (a:n≠0):kS F rows ln r= .ok ({F with least:=n},rows):=by unfold kS; rw [h]; exact if_neg a
theorem vq {F:aR} {seen:List Tx} {rows:List Rw} {ln:Nat} {r:List Tx} {k:Tx} (hk:k∈lj) (h:k∈seen):kB F seen rows ln r= .error (ln,113):=by
 unfold kB
 rw [if_pos]
 cases ho:ordered seen with
 | false =>rfl
 | true =>exact absurd h<|(C4 seen).1 ho k hk
theorem Jp {F:aR} {seen:List Tx} {rows:List Rw} {ln:Nat} {r:List Tx} (h:ordered seen=true) (a:jw (r.getD 1 [])=0):kB F seen rows ln r= .error (ln,114):=by unfold kB; rw [if_neg (by rw [h]; exact eb),if_pos a]
theorem yI {F:aR} {seen:List Tx} {rows:List Rw} {ln:Nat} {r:List Tx} (h:ordered seen=true) (a:jw (r.getD 1 [])≠0):kB F seen rows ln r= .ok ({F with kind:=jw<|r.getD 1 []},rows):=by unfold kB; rw [if_neg (by rw [h]; exact eb),if_neg a]
def kinds:List Tx:= [rO,tz,vt]
theorem Vq (s:Tx):((if s∈kinds then (kinds.idxOf s:Nat) else -1:Int))=(jw s:Nat) - 1:=by
 unfold jw kinds
 by_cases h1:s=rO
 · subst h1; decide
 · by_cases h2:s=tz
   · subst h2; decide
   · by_cases h3:s=vt
     · subst h3; decide
     · rw [if_neg (by simp [h1,h2,h3]),if_neg h1,if_neg h2,if_neg h3]; rfl
theorem Vr (s:Tx):jw s≤3:=by
 unfold jw
 split
 · omega
 · split
   · omega
   · split <;> omega
theorem Cf (B:Nat) (H:dp) (F:aR) (V:eX) (R:gR) (rows:List Rw) (ln:Nat) (seen:List Tx) (s:Tx) (w:World) (C:dP w B H.fb H.mc F V) (j:dx w B H F R rows ln seen) (hk:F.kind=1∨F.kind=2∨F.kind=3) (hs:s.length≤1048576):
 fw ay 195 (ba [.pointer (some ⟨H.rb,0,none⟩),str s]) w (fun v w'=> ∃ x,gD F s= .ok x∧x≠0∧v=bc x∧eB F x=false∧Wk w w') (fun c w'=> ∃ e,gD F s= .error e∧c=jk 47 ln (e:Nat)∧Wk w w'):=by
 obtain ⟨tf,ac,ae⟩:=j.tm
 refine j8 func195 aa ntmps195 aa<|sq fun aj G=>rg aa<|p aB<|nl<|tn<|G _ _<|sq fun ak I=>rg aa<|p (aT (.pointer<|some ⟨H.rb,0,none⟩) aa)<|p (nc aa)<|p (fa gY aa)<|p (ld fZ aa<|(a6 j.cells).trans aa)<|p (nc aa)<|p (fa gC aa)<|p (fa tu aa)<|p (ld bA aa<|(a6 C.cells).trans aa)<|p (aT (str s) aa)<|e<|cl PQ (Ww F.kind s _ hk hs) aa fun ao ag U=> ?_
 obtain ⟨rfl,a⟩:=U
 refine p mv<|p (xt aa aa)<|p (xt aa aa)<|p aB<|p aB<|nl<|tn<|I _ _<|sq fun al J=>rg aa<|p (aT (.pointer<|some ⟨H.rb,0,none⟩) aa)<|p mv<|eP aa (dN oD (oM H.rb ln ((gI F.kind s).2:Nat) ag<|Wk.aO a j.dj) aa fun ap ah Y=> ?_) fun c w' i ai C=>⟨_,IC (by have :=i.2.1; omega),i.1,by rw [i.2.2]; exact a⟩
 obtain ⟨rfl,A,rfl⟩:=Y
 have A:(gI F.kind s).2=0:=ab
 have E:=Iu A
 refine nl<|tn<|J _ _<|sq fun am M=>rg aa<|p (aT (.pointer<|some ⟨H.rb,0,none⟩) aa)<|p (aT (.pointer<|some ⟨H.rb,0,none⟩) aa)<|p (nc aa)<|p (fa B5 aa)<|p (ld uB aa<|Wk.aO a<|(a6 j.cells).trans aa)<|p mv<|p (oK r7 oV rN (ac.wk a) aa aa (⟨_,aa⟩)<|ae _ E)<|p (bH aa aa)<|eP aa (dN il (iz H.rb ln _ 115 ah (Wk.aO a j.dj) az) aa fun v31 aq Z=> ?_) fun c w' i ai C=>⟨115,ID A (by have h:=i.2.1; rw [Hg] at h; simpa using h),i.1,by rw [i.2.2]; exact a⟩
 obtain ⟨rfl,q,rfl⟩:=Z
 rw [Hg] at q
 have q:eB F (gI F.kind s).1=false :=by simpa using q
 exact nl<|tn<|M _ _<|sq fun an O=>rg aa<|p mv<|p aB<|nl<|tn<|O _ _<|rt<|jM<|f1 aa aa<|⟨_,IE A q,E,aa,q,a⟩
theorem vS (B:Nat) (H:dp) (F:aR) (rows:List Rw) (ln:Nat) (seen:List Tx) (r:List Tx) (aC:Nat) (ar:Option Addr) (cr:Nat) (w:World) (J:St w B H F rows ln seen) (ac:Tg w aC 9 r.length (.slice ar r.length cr) (r.map str)) (a3:r.length=2) (aU:∀ x∈r,x.length≤70000) (au:r.getD 0 []∈dZ) (aV:F.sp.getD (dZ.idxOf<|r.getD 0 []) 0=0):
 fw ay 131 (ba [.pointer (some ⟨H.rb,0,none⟩),.slice ar r.length cr]) w (js B H seen (kh F rows ln r) w) (jr B H (kh F rows ln r) w):=by
 obtain ⟨V,R,q,C,A⟩:=J
 have an:=ac.cI
 have ap:¬(H.rb=H.fb):=fun h=>by have h1:=C.cells; rw [h,q.cells] at h1; cases h1
 have a4:(r.getD 1 []).length≤70000:=aU _<|dQ ab
 have aq:¬(bk ar=H.fb):=Tg.vA ac (bP ab) q.cells az
 obtain ⟨tf,ae,av⟩:=C.tm
 obtain ⟨a9,a5,a8⟩:=C.sm
 have ao:dZ.idxOf (r.getD 0 []) < 5:=wV.2 au
 refine j8 func131 aa ntmps131 aa<|sq fun a0 aG=>rg aa<|p (aT (.pointer<|some ⟨H.rb,0,none⟩) aa)<|p (aT (.slice ar r.length cr) aa)<|p (a7 cE aa aa ab<|aI.ok (an.2)<|bP ab)<|p (ld bR aa<|bX.get (i:=1) an.2 ab)<|eP aa (dN AN (Cf B H F V R rows ln seen (r.getD 1 []) w q C A.kd ab) aa fun v9 bd I=> ?_) fun c w' aK bf q=>by obtain ⟨e,he,h,h2⟩:=aK; exact ⟨ln,e,Lv he,h,Wk.mw h2⟩
 obtain ⟨x,aW,aX,rfl,ax,j⟩:=I
 have aF:=q.wk j
 have I:=C.wk j
 refine p aB<|nl<|tn<|aG _ _<|sq fun a1 aH=>rg aa<|p (aT (.pointer<|some ⟨H.rb,0,none⟩) aa)<|p (nc aa)<|p (fa B5 aa)<|p (ld uB aa<|Wk.aO j<|(a6 C.cells).trans aa)<|p mv<|p (oK r7 oV rN (ae.wk j) aa aa (⟨_,aa⟩) (show _=jh .i64 0 from (av x aX).trans<|by rw [ax]; rfl))<|p (bE ((1:Nat):Int) aa aa<|bj ab ab)<|e<|tP r7 rN (ae.wk j) aa aa aa (⟨_,aa⟩) fun E O aL=> ?_
 have aj:=I.vz (F':= {F with sp:=F.sp.set (dZ.idxOf<|r.getD 0 []) x}) O aL rfl (LQ ax av<|Sk (by rw [q.fI]; exact ao) aV)
 have M:=aF.vz I O
 have aQ:=(ac.wk j).md O fun k hk cur z aS=>by subst hk; exact (ae.wk j).pP aS
 have am:=aQ.cI
 refine nl<|tn<|aH _ _ ?_
 have a:(fun w'=>Md (fun k=>k=H.fb) E w') E.drew:=(Md.refl _ _).drew
 refine bJ (fun w'=>Md (fun k=>k=H.fb) E w') aa wide a<|hp 0 aa ag (fun _ _=>aT (.pointer<|some ⟨H.rb,0,none⟩) aa) a<|hp 1 aa ag (fun _ _=>nc aa) a<|hp 2 aa ag (fun _ _=>fa gY aa) a<|hp 3 aa ag (fun w' J=>ld fZ aa<|Md.aO J ((a6 aj.cells).trans aa)<|by first | exact ap | exact aq) a<|hp 5 aa ag (fun _ _=>aT (.slice ar r.length cr) aa) a<|hp 6 aa ag (fun _ _=>a7 cE aa aa ab<|aI.ok (am.2)<|bP ab) a<|hp 7 aa ag (fun w' J=>ld bR aa<|Md.aO J (bX.get (i:=0) am.2 ab)<|by first | exact ap | exact aq) a<|hp 9 aa ag (fun _ _=>mv) a<|hp 10 aa ag (fun _ _=>nc aa) a<|hp 11 aa ag (fun _ _=>fa gC aa) a<|hp 12 aa ag (fun _ _=>fa yt aa) a<|he 4 aa ag<|sU (L:=dZ.map str) fH aa aa aa aa fun ah aA a2 Y aD=> ?_
 have aN:bX aA.heap (some ⟨ah,0,none⟩) dZ:=aI.dS ⟨_,aD⟩
 have G:=ib Y.md
 have ak:(fun w'=>Md (fun k=>k=H.fb) E w') aA:=a.trans' Y.md fun _ _ h=>h.elim
 refine ⟨ak,?_⟩
 refine he 8 aa ag<|cl F7 (Jf dZ (some ⟨ah,0,none⟩) 5 (r.getD 0 []) _ aN az) aa fun bb aY aM=> ?_
 obtain ⟨aw,rfl⟩:=aM
 rw [if_pos au] at aw
 subst aw
 have Z:(fun w'=>Md (fun k=>k=H.fb) E w') aY:=ak
 refine ⟨Z,?_⟩
 refine hp 13 aa ag (fun _ _=>ka uG aa aa ab) Z<|he 14 aa ag<|cV gd aa aa (v:=bc x) aa (Y.md.aJ M.cells) (by show _ < 14; omega) fun aZ U ai=> ?_
 rw [Tn (i:=dZ.idxOf<|r.getD 0 []) q.fI ao ab] at ai
 have aP:(fun w'=>Md (fun k=>k=H.fb) E w') aZ:=Z.trans' U fun _ _ h=>h
 refine ⟨aP,?_⟩
 refine hn ag<|jM<|f0 aa ?_
 have aE:=(M.wk G).put (F':= {F with sp:=F.sp.set (dZ.idxOf<|r.getD 0 []) x}) U ai rfl rfl rfl rfl (by rw [List.length_set]; exact q.fI)
 exact ⟨aa,_,rows,ln,Lw aW,⟨V,R,aE,(aj.wk G).fb (M.wk G) U,⟨A.len,A.sl,A.row,A.kd,A.al⟩⟩,((Wk.mw j).trans<|fu.mt I O).trans<|(Wk.mw G).trans<|fu.fb (M.wk G) U⟩
theorem QS (B:Nat) (H:dp) (F:aR) (rows:List Rw) (ln:Nat) (seen:List Tx) (r:List Tx) (ah:Nat) (ar:Option Addr) (cr:Nat) (w:World) (E:St w B H F rows ln seen) (U:Tg w ah 9 r.length (.slice ar r.length cr) (r.map str)) (au:r.length=2) (an:∀ x∈r,x.length≤70000):
 fw ay 129 (ba [.pointer (some ⟨H.rb,0,none⟩),.slice ar r.length cr]) w (js B H seen (mK F rows ln r) w) (jr B H (mK F rows ln r) w):=by
 obtain ⟨V,R,A,C,q⟩:=E
 have Z:=U.cI
 have ac:¬(H.rb=H.fb):=fun h=>by have h1:=C.cells; rw [h,A.cells] at h1; cases h1
 have av:(r.getD 1 []).length≤70000:=an _<|dQ ab
 have ae:¬(bk ar=H.fb):=Tg.vA U (bP ab) A.cells az
 obtain ⟨tf,aA,aB⟩:=C.tm
 obtain ⟨aC,aw,ax⟩:=C.sm
 refine j8 func129 aa ntmps129 aa<|sq fun aq ak=>rg aa<|p (aT (.pointer<|some ⟨H.rb,0,none⟩) aa)<|p (aT (.slice ar r.length cr) aa)<|p (a7 cE aa aa ab<|aI.ok (Z.2)<|bP ab)<|p (ld bR aa<|bX.get (i:=1) Z.2 ab)<|eP aa (dN AM (Dc H.rb ln (r.getD 1 []) w C.dj ab) aa fun aD M J=> ?_) fun c w' O aE A=>⟨ln,21,Lh O.2.1,O.1,Wk.mw O.2.2⟩
 obtain ⟨rfl,ao,G⟩:=J
 have I:=A.wk G
 have J:=C.wk G
 have Y:=(U.wk G).cI
 refine nl<|tn<|ak _ _ ?_
 have a:(fun w'=>Md (fun k=>k=H.fb) M w') M.drew:=(Md.refl _ _).drew
 refine bJ (fun w'=>Md (fun k=>k=H.fb) M w') aa wide a<|hp 0 aa ag (fun _ _=>aT (.pointer<|some ⟨H.rb,0,none⟩) aa) a<|hp 1 aa ag (fun _ _=>nc aa) a<|hp 2 aa ag (fun _ _=>fa gY aa) a<|hp 3 aa ag (fun w' E=>ld fZ aa<|Md.aO E ((a6 J.cells).trans aa)<|by first | exact ac | exact ae) a<|hp 4 aa ag (fun _ _=>aT (.slice ar r.length cr) aa) a<|hp 5 aa ag (fun _ _=>a7 cE aa aa ab<|aI.ok (Y.2)<|bP ab) a<|hp 6 aa ag (fun w' E=>ld bR aa<|Md.aO E (bX.get (i:=1) Y.2 ab)<|by first | exact ac | exact ae) a<|hp 7 aa ag (fun _ _=>nc aa) a<|hp 8 aa ag (fun _ _=>fa gC aa) a<|hp 9 aa ag (fun _ _=>fa TH aa) a<|he 10 aa ag<|cV kN aa aa (v:=str<|r.getD 1 []) aa I.cells (by show _ < 14; omega) fun ap j ai=> ?_
 have j:=ib j
 have am:(fun w'=>Md (fun k=>k=H.fb) M w') ap:=j
 refine ⟨am,?_⟩
 refine hn ag<|jM<|f0 aa ?_
 have aj:=I.put (F':= {F with rE:=r.getD 1 []}) j ai rfl rfl rfl rfl A.fI
 exact ⟨aa,_,rows,ln,Li ao,⟨V,R,aj,(J.fb I j).congr aa (fun _=>rfl),⟨q.len,q.sl,q.row,q.kd,q.al⟩⟩,(Wk.mw G).trans<|fu.fb I j⟩
theorem Y2 (B:Nat) (H:dp) (F:aR) (rows:List Rw) (ln:Nat) (seen:List Tx) (r:List Tx) (U:Nat) (ar:Option Addr) (cr:Nat) (w:World) (ai:St w B H F rows ln seen) (J:Tg w U 9 r.length (.slice ar r.length cr) (r.map str)) (aq:r.length=2) (aj:∀ x∈r,x.length≤70000):
 fw ay 130 (ba [.pointer (some ⟨H.rb,0,none⟩),.slice ar r.length cr]) w (js B H seen (mP F rows ln r) w) (jr B H (mP F rows ln r) w):=by
 obtain ⟨V,R,j,C,a⟩:=ai
 have M:=J.cI
 have ao:¬(H.rb=H.fb):=fun h=>by have h1:=C.cells; rw [h,j.cells] at h1; cases h1
 have au:(r.getD 1 []).length≤70000:=aj _<|dQ ab
 have ap:¬(bk ar=H.fb):=Tg.vA J (bP ab) j.cells az
 obtain ⟨tf,ax,aA⟩:=C.tm
 obtain ⟨aC,av,aw⟩:=C.sm
 refine j8 func130 aa ntmps130 aa<|sq fun am ac=>rg aa<|p (aT (.slice ar r.length cr) aa)<|p (a7 cE aa aa ab<|aI.ok (M.2)<|bP ab)<|p (ld bR aa<|bX.get (i:=1) M.2 ab)<|e<|cl PB (VA (r.getD 1 []) _ ab) aa fun v10 ak ag=> ?_
 obtain ⟨rfl,q⟩:=ag
 have A:=j.wk q
 have I:=C.wk q
 refine p mv<|p (xt aa aa)<|p (xt aa aa)<|p aB<|p aB<|nl<|tn<|ac _ _<|sq fun an ae=>rg aa<|p (aT (.pointer<|some ⟨H.rb,0,none⟩) aa)<|p mv<|eP aa (dN oD (oM H.rb ln ((letE<|r.getD 1 []).2:Nat) ak I.dj) aa fun aD aE ah=> ?_) fun c w' G aG j=>⟨ln,_,LX (by have :=G.2.1; omega),G.1,by rw [G.2.2]; exact Wk.mw q⟩
 obtain ⟨rfl,O,rfl⟩:=ah
 have O:(letE<|r.getD 1 []).2=0:=ab
 refine nl<|tn<|ae _ _<|rg aa<|p (aT (.pointer<|some ⟨H.rb,0,none⟩) aa)<|p (nc aa)<|p (fa gY aa)<|p (ld fZ aa<|(a6 I.cells).trans aa)<|p mv<|p (nc aa)<|p (fa gC aa)<|p (fa TI aa)<|e<|cV kN aa aa (v:=str (letE<|r.getD 1 []).1) aa A.cells (by show _ < 14; omega) fun aF E Y=>nl<|jM<|f0 aa ?_
 have Z:=A.put (F':= {F with tr:=(letE<|r.getD 1 []).1}) E Y rfl rfl rfl rfl j.fI
 exact ⟨aa,_,rows,ln,LY O,⟨V,R,Z,(I.fb A E).congr aa (fun _=>rfl),⟨a.len,a.sl,a.row,a.kd,a.al⟩⟩,(Wk.mw q).trans<|fu.fb A E⟩
theorem Vw (B:Nat) (H:dp) (F:aR) (rows:List Rw) (ln:Nat) (seen:List Tx) (r:List Tx) (ak:Nat) (ar:Option Addr) (cr:Nat) (w:World) (J:St w B H F rows ln seen) (Y:Tg w ak 9 r.length (.slice ar r.length cr) (r.map str)) (aC:r.length=2) (av:∀ x∈r,x.length≤70000):
 fw ay 132 (ba [.pointer (some ⟨H.rb,0,none⟩),.slice ar r.length cr]) w (js B H seen (kS F rows ln r) w) (jr B H (kS F rows ln r) w):=by
 obtain ⟨V,R,q,A,C⟩:=J
 have Z:=Y.cI
 have ac:¬(H.rb=H.fb):=fun h=>by have h1:=A.cells; rw [h,q.cells] at h1; cases h1
 have aD:(r.getD 1 []).length≤70000:=av _<|dQ ab
 have ae:¬(bk ar=H.fb):=Tg.vA Y (bP ab) q.cells az
 obtain ⟨tf,aG,aH⟩:=A.tm
 obtain ⟨aJ,aE,aF⟩:=A.sm
 refine j8 func132 aa ntmps132 aa<|sq fun aA an=> ?_
 have a:(fun w'=>Md (fun k=>k=H.fb) w w') w.drew:=(Md.refl _ _).drew
 refine bJ (fun w'=>Md (fun k=>k=H.fb) w w') aa wide a<|hp 0 aa ag (fun _ _=>aT (.pointer<|some ⟨H.rb,0,none⟩) aa) a<|hp 1 aa ag (fun _ _=>nc aa) a<|hp 2 aa ag (fun _ _=>fa gY aa) a<|hp 3 aa ag (fun w' J=>ld fZ aa<|Md.aO J ((a6 A.cells).trans aa)<|by first | exact ac | exact ae) a<|hp 4 aa ag (fun _ _=>aT (.pointer<|some ⟨H.rb,0,none⟩) aa) a<|hp 5 aa ag (fun _ _=>aT (.slice ar r.length cr) aa) a<|hp 6 aa ag (fun _ _=>a7 cE aa aa ab<|aI.ok (Z.2)<|bP ab) a<|hp 7 aa ag (fun w' J=>ld bR aa<|Md.aO J (bX.get (i:=1) Z.2 ab)<|by first | exact ac | exact ae) a<|tx 8 aa ag aa (dN xD (yX H.rb ln (r.getD 1 []) 64 w.drew A.dj ab ab) aa fun v12 aw ao=> ?_) fun c w' I ax q=>by obtain ⟨e,he,h,h2⟩:=I; exact ⟨ln,e,JT he,h,Wk.mw<|ib h2⟩
 obtain ⟨n,ah,rfl,j⟩:=ao
 have j:=ib j
 have E:=q.wk j
 have aq:=A.wk j
 have M:(fun w'=>Md (fun k=>k=H.fb) w w') aw:=Md.mono j fun _ _ h=>h.elim
 refine ⟨M,?_⟩
 refine hp 9 aa ag (fun _ _=>nc aa) M<|hp 10 aa ag (fun _ _=>fa gC aa) M<|hp 11 aa ag (fun _ _=>fa B9 aa) M<|he 12 aa ag<|cV gX aa aa (v:= .int .i64 (n:Nat)) aa E.cells (by show _ < 14; omega) fun aj G U=> ?_
 have O:=aq.fb E G
 have au:(fun w'=>Md (fun k=>k=H.fb) w w') aj:=M.trans' G fun _ _ h=>h
 refine ⟨au,?_⟩
 refine hn ag<|tn<|an _ _<|rg aa<|p (aT (.pointer<|some ⟨H.rb,0,none⟩) aa)<|p (aT (.pointer<|some ⟨H.rb,0,none⟩) aa)<|p (nc aa)<|p (fa gY aa)<|p (ld fZ aa<|(a6 O.cells).trans aa)<|p (nc aa)<|p (fa gC aa)<|p (fa B9 aa)<|p (ld bA aa<|(a6 U).trans aa)<|p (gt aa aa)<|eP aa (dN il (iz H.rb ln _ 13 aj O.dj az) aa fun aK aL ap=> ?_) fun c w' I ax q=>by have aB:=of_decide_eq_false I.2.1; exact ⟨ln,13,JU ah ab,I.1,by rw [I.2.2]; exact (Wk.mw j).trans<|fu.fb E G⟩
 obtain ⟨rfl,ai,rfl⟩:=ap
 have ai:=of_decide_eq_true ai
 refine nl<|jM<|f0 aa ?_
 have am:=E.put (F':= {F with least:=n}) G U rfl rfl rfl rfl q.fI
 exact ⟨aa,_,rows,ln,JV ah ab,⟨V,R,am,O.congr aa (fun _=>rfl),⟨C.len,C.sl,C.row,C.kd,C.al⟩⟩,(Wk.mw j).trans<|fu.fb E G⟩
theorem Vs (B:Nat) (H:dp) (F:aR) (rows:List Rw) (ln:Nat) (seen:List Tx) (r:List Tx) (aP:Nat) (ar:Option Addr) (cr:Nat) (w:World) (J:St w B H F rows ln seen) (ai:Tg w aP 9 r.length (.slice ar r.length cr) (r.map str)) (bG:r.length=2) (bc:∀ x∈r,x.length≤70000):
 fw ay 128 (ba [.pointer (some ⟨H.rb,0,none⟩),.slice ar r.length cr]) w (js B H seen (kB F seen rows ln r) w) (jr B H (kB F seen rows ln r) w):=by
 obtain ⟨V,R,E,Y,M⟩:=J
 have bx:=ai.cI
 have aD:¬(H.rb=H.fb):=fun h=>by have h1:=Y.cells; rw [h,E.cells] at h1; cases h1
 have bI:(r.getD 1 []).length≤70000:=bc _<|dQ ab
 have aE:¬(bk ar=H.fb):=Tg.vA ai (bP ab) E.cells az
 obtain ⟨tf,bK,bL⟩:=Y.tm
 obtain ⟨bM,bl,bm⟩:=Y.sm
 refine j8 func128 aa ntmps128 aa<|sq fun br aX=>sq fun bs aY=>rg aa<|e<|sU (L:=lj.map str) fH aa aa aa aa fun an ak bB a2 aU=> ?_
 have ax:bX ak.heap (some ⟨an,0,none⟩) lj:=aI.dS ⟨_,aU⟩
 have C:Wk w ak:=a2.md
 have aq:=E.wk C
 have Z:=Y.wk C
 have aA:=(ai.wk C).cI
 have bo:=bl.wk C
 have bD:lj.length=8:=rfl
 refine p (bF eQ aa aa)<|p mv<|nl<|tn<|aY _ _<|aJ<|lp (fun ao I q=> ∃ (i:Nat),(i≤8)∧(∀ j,j < i→lj.getD j []∉seen)∧(q=ak)∧(I 0= .pointer (some ⟨H.rb,0,none⟩))∧(I 1= .slice ar r.length cr)∧(I 6= .slice (some ⟨an,0,none⟩) 8 8)∧(I 7= .int .i64 (8:Nat))∧(I 8= .int .i64 (i:Nat))∧(8 - i=ao)) _ ⟨0,ab,(fun j aC=>by omega),aa,aa,aa,aa,aa,aa,aa⟩ ?_
 rintro ao I q ⟨i,hi,aF,aV,bd,bf,bg,bh,bi,rfl⟩
 refine fx 0 bd<|fx 1 bf<|fx 6 bg<|fx 7 bh<|fx 8 bi ?_
 subst aV
 refine sq fun bt aZ=>rg aa<|p (lt aa aa)<|nl<|tn<|aZ _ _<|sq fun bu a0=>cd aa (fun bb=> ?_) fun bb=> ?_
 refine aM<|tn<|a0 _ _<|sq fun aQ ae=>aJ<|sq fun bv a1=>rg aa<|p (a7 cE aa aa ab<|aI.ok (ax)<|bP ab)<|p (ld bR aa<|bX.get (i:=i) ax ab)<|p aB<|nl<|tn<|a1 _ _<|rg aa<|p (aT (.pointer<|some ⟨H.rb,0,none⟩) aa)<|p (aT (.pointer<|some ⟨H.rb,0,none⟩) aa)<|p (nc aa)<|p (fa tq aa)<|p (ld sM aa<|(a6 Z.cells).trans aa)<|p mv<|p (oK qU oV jb (bo) aa aa (⟨_,aa⟩)<|bm _)<|p (bH aa aa)<|eP aa (dN il (iz H.rb ln _ 113 q Z.dj az) aa fun v20 bO a3=> ?_) fun c w' A bq E=>⟨ln,113,vq (k:=lj.getD i []) (dQ ab) (by have h:=of_decide_eq_false A.2.1; exact jn.1 fun h2=>h<|by have :=q9.2 h2; omega),A.1,by rw [A.2.2]; exact Wk.mw C⟩
 obtain ⟨rfl,aj,rfl⟩:=a3
 have aj:lj.getD i []∉seen:=q9.1<|by have :=of_decide_eq_true aj; omega
 exact nl<|bn<|tn<|ae _ _<|rg aa<|p (ad aa aa<|bT ab)<|p mv<|nl<|tn<|⟨_,ab,i+1,ab,(fun j aC=>by rcases e8 j i with h | h <;> first | exact aF j h | (rw [show j=i by omega]; exact aj)),aa,aa,aa,aa,aa,aa,aa⟩
 refine ext<|te _<|te _<|be<|tn<|aX _ _<|sq fun aQ ae=> ?_
 have aG:ordered seen=true :=(C4 seen).2 fun k hk=>by obtain ⟨j,aC,rfl⟩:=nU [] hk; exact aF j ab
 have a:(fun w'=>Md (fun k=>k=H.fb) q w') q.drew:=(Md.refl _ _).drew
 refine bJ (fun w'=>Md (fun k=>k=H.fb) q w') aa wide a<|hp 0 aa ag (fun _ _=>aT (.pointer<|some ⟨H.rb,0,none⟩) aa) a<|hp 1 aa ag (fun _ _=>nc aa) a<|hp 2 aa ag (fun _ _=>fa gY aa) a<|hp 3 aa ag (fun w' J=>ld fZ aa<|Md.aO J ((a6 Z.cells).trans aa)<|by first | exact aD | exact aE) a<|hp 5 aa ag (fun _ _=>aT (.slice ar r.length cr) aa) a<|hp 6 aa ag (fun _ _=>a7 cE aa aa ab<|aI.ok (aA.2)<|bP ab) a<|hp 7 aa ag (fun w' J=>ld bR aa<|Md.aO J (bX.get (i:=1) aA.2 ab)<|by first | exact aD | exact aE) a<|he 4 aa ag<|sU (L:=kinds.map str) fH aa aa aa aa fun am aL bz av aS=> ?_
 have a8:bX aL.heap (some ⟨am,0,none⟩) kinds:=aI.dS ⟨_,aS⟩
 have O:=ib av.md
 have aw:(fun w'=>Md (fun k=>k=H.fb) q w') aL:=a.trans' av.md fun _ _ h=>h.elim
 refine ⟨aw,?_⟩
 refine he 8 aa ag<|cl F7 (Jf kinds (some ⟨am,0,none⟩) 3 (r.getD 1 []) _ a8 az) aa fun v30 bp a4=> ?_
 obtain ⟨aH,rfl⟩:=a4
 rw [Vq] at aH
 subst aH
 have bC:=Vr<|r.getD 1 []
 have G:(fun w'=>Md (fun k=>k=H.fb) q w') bp:=aw
 refine ⟨G,?_⟩
 refine hp 9 aa ag (fun _ _=>bE ((jw (r.getD 1 []):Nat):Int) aa aa<|bj ab ab) G<|hp 10 aa ag (fun _ _=>nc aa) G<|hp 11 aa ag (fun _ _=>fa gC aa) G<|hp 12 aa ag (fun _ _=>fa tu aa) G<|he 13 aa ag<|cV gX aa aa (v:= .int .i64 (jw (r.getD 1 []):Nat)) aa ((aq.wk O).cells) (by show _ < 14; omega) fun aN U ap=> ?_
 have ac:=aq.wk O
 have ah:=(Z.wk O).fb ac U
 have au:=((Wk.mw C).trans<|Wk.mw O).trans<|fu.fb ac U
 have a9:(fun w'=>Md (fun k=>k=H.fb) q w') aN:=G.trans' U fun _ _ h=>h
 refine ⟨a9,?_⟩
 refine hn ag<|tn<|ae _ _<|rg aa<|p (aT (.pointer<|some ⟨H.rb,0,none⟩) aa)<|p (aT (.pointer<|some ⟨H.rb,0,none⟩) aa)<|p (nc aa)<|p (fa gY aa)<|p (ld fZ aa<|(a6 ah.cells).trans aa)<|p (nc aa)<|p (fa gC aa)<|p (fa tu aa)<|p (ld bA aa<|(a6 ap).trans aa)<|p (gt aa aa)<|eP aa (dN il (iz H.rb ln _ 114 aN ah.dj az) aa fun bN bQ a5=> ?_) fun c w' A bq E=>by have bw:=of_decide_eq_false A.2.1; exact ⟨ln,114,Jp aG ab,A.1,by rw [A.2.2]; exact au⟩
 obtain ⟨rfl,aK,rfl⟩:=a5
 have aK:=of_decide_eq_true aK
 refine nl<|jM<|f0 aa ?_
 have aW:=ac.put (F':= {F with kind:=jw<|r.getD 1 []}) U ap rfl rfl rfl rfl E.fI
 exact ⟨aa,_,rows,ln,yI aG ab,⟨V,R,aW,ah.congr aa (fun _=>rfl),⟨M.len,M.sl,M.row,(by show jw (r.getD 1 [])=1∨jw (r.getD 1 [])=2∨jw (r.getD 1 [])=3; omega),M.al⟩⟩,au⟩
end Go.Hb.mi
end
section
set_option maxRecDepth 20000
set_option maxHeartbeats 1000000
namespace Go.Hb.ot
open Go.Hb.dT
open Go.Proofs
open Go.Hb.ji
theorem GM {h:Array Obj} {b:Nat} {f:UInt8→Bool} (a:bL h b (eG f)) (c:UInt8):Hb.aO h b (0 +((c.toNat / 64:Nat):Int).toNat*1)=some (.int .u64<|eV f<|c.toNat / 64):=by
 have i:=iS c
 rw [a.aO,show 0 +((c.toNat / 64:Nat):Int).toNat*1=c.toNat / 64 from by omega]; exact Bi f ab
theorem Rv {h:Array Obj} {b:Nat} {f:UInt8→Bool} {c:UInt8} (a:bL h b ((eG f).set (0 +((c.toNat / 64:Nat):Int).toNat*1)<|.int .u64 ((eV f (c.toNat / 64) ||| 2 ^ (c.toNat % 64):Nat):Int))):bL h b (eG (fun x=>f x || decide (x=c))):=by
 rw [show 0 +((c.toNat / 64:Nat):Int).toNat*1=c.toNat / 64 from by omega,Rq] at a; exact a
theorem Rs {f g:UInt8→Bool} (h:∀ b,f b=g b):eG f=eG g:=by rw [show f=g from funext h]
theorem UR {l:List UInt8} {i:Nat} (h:i < l.length) (x:UInt8):(decide (x∈l.take i) || decide (x=l.getD i 0))=decide (x∈l.take (i+1)):=by
 rw [fD l i 0 h,← Bool.decide_or]
 exact decide_eq_decide.2<|by rw [jz,jY]
theorem C6 {w:World} {B e n cp i:Nat} {a:Option Addr} {l:List UInt8} (h:w.ownsRow B e 1 (.slice a n cp) n (U8 l)) (hi:i≤n) (hn:0 < n):w.ownsRow B e 1 (.slice a i cp) i (U8<|l.take i):=by
 have j:a≠none:=by
  rintro rfl
  rcases h.2 with ⟨_,h5⟩ | ⟨g,cap,cur,h4,_⟩
  · omega
  · simp at h4
 have :=Kt h hi j
 rw [o7] at this
 unfold U8 at*
 rwa [EE]
theorem WG {w:World} {B e n cp:Nat} {a:Option Addr} {xs:List Value} (h:w.ownsRow B e 1 (.slice a n cp) n xs) (hn:0 < n):∃ i,a=some ⟨i,0,none⟩:=by
 rcases h.2 with ⟨_,h5⟩ | ⟨g,cap,cur,h4,_⟩
 · omega
 · simp only [mR] at h4; exact ⟨g,h4.1⟩
theorem Y6 {w:World} {B e n cp j:Nat} {a:Option Addr} {l:List UInt8} (h:w.ownsRow B e 1 (.slice a n cp) n (U8 l)):aI w.heap (gh a cp j 1) (U8<|l.drop j):=by
 have h2:=(aX h).2.drop (cap:=cp) (k:=j) (size:=1)<|by have h1:=h.1; have h3:=(aX h).1; omega
 rw [o7] at h2
 unfold U8 at*
 rwa [List.map_drop]
theorem DP {w:World} {B e n:Nat} {v:Value} {l:List UInt8} (h:w.ownsRow B e 1 v n (U8 l)):l.length=n:=by have :=h.1; rw [xp] at this; omega
theorem KF (b:Nat) (c:UInt8) (f:UInt8→Bool) (w:World) (i:bL w.heap b (eG f)):
 bh ay 209 (ba [aQ b,.int .u8 c.toNat]) w (fun v w'=>v= .tuple #[]∧bL w'.heap b (eG (fun x=>f x || decide (x=c)))∧Md (fun q=>q=b) w w'):=by
 have G:=iS c
 refine enter func209 aa ntmps209 aa ?_
 have a:(fun w'=>Wk w w') w.drew:=(Md.refl _ _).drew
 refine eM (fun w'=>Wk w w') 12 aa wide a<|bz 0 aa (aQ b) a<|bz 1 aa (.int .u8 c.toNat) a<|bq 2 aa (fun _=>shr aa aa az<|Lk c) (fun _=>a)<|bq 3 aa (fun _=>nc aa) (fun _=>a)<|bq 4 aa (fun _=>ka rB aa aa ab) (fun _=>a)<|dH 5 aa (fun w' E=>ld sK aa<|Wk.aO E<|GM i c) a<|bz 6 aa (.int .u8 c.toNat) a<|bq 7 aa (fun _=>fy aa aa<|Fp c) (fun _=>a)<|bq 8 aa (fun _=>shl aa aa ab<|XX ab) (fun _=>a)<|bq 9 aa (fun _=>FA aa aa<|Wz (tR _ _)<|Nat.pow_lt_pow_right az ab) (fun _=>a)<|bq 10 aa (fun _=>nc aa) (fun _=>a)<|bq 11 aa (fun _=>ka rB aa aa ab) (fun _=>a)<|dG 12 aa ag ag<|st R6 aa aa (aa) (a.B i) (by rw [xI]; omega) fun I C A=> ?_
 have j:=Rv A
 refine eL ag<|f0 aa ?_
 exact ⟨aa,j,Md.trans (Md.refl _ _).drew C⟩
theorem IZ (f:UInt8→Bool) (c:UInt8) (w:World):
 bh ay 251 (ba [.agg (eG<|f).toArray,.int .u8 c.toNat]) w (fun v w'=>v= .bool (f c)∧Wk w w'):=by
 have E:=iS c
 exact enter func251 aa ntmps251 aa<|aj fun _ a=>e<|iV aa fun A G C q j=>aw<|a _ _<|aj fun _ i=>ak (.int .u8 c.toNat)<|p (shr aa aa az<|Lk c)<|p (ka rB aa aa ab)<|p (ld sK aa<|GM j c)<|ak (.int .u8 c.toNat)<|p (fy aa aa<|Fp c)<|p (shr aa aa ab<|X7 _ ab)<|p (fy aa aa<|Oz<|Nat.lt_of_le_of_lt (Nat.div_le_self _ _)<|tR _ _)<|p (bH aa aa)<|aw<|i _ _<|rt<|f1 aa aa<|⟨congrArg bQ (Zw f c),q.md⟩
theorem C5 (f:UInt8→Bool) (w:World):
 bh ay 208 (ba [.agg (eG<|f).toArray]) w (fun v w'=>v= .agg (eG fun x=> !f x).toArray∧Wk w w'):=by
 exact enter func208 aa ntmps208 aa<|aj fun _ A=>e<|iV aa fun J Y O q i=>e<|al sd fun M Z U a E=>aE<|A _ _<|aj fun _ C=>p (ka rB aa aa ab)<|p (ld sK aa<|(a.md.B i).aO 0)<|p (xJ aa)<|p (ka rB aa aa ab)<|p (ld sK aa<|(a.md.B i).aO 1)<|p (xJ aa)<|p (ka rB aa aa ab)<|p (ld sK aa<|(a.md.B i).aO 2)<|p (xJ aa)<|p (ka rB aa aa ab)<|p (ld sK aa<|(a.md.B i).aO 3)<|p (xJ aa)<|p (Fz (ps:= [(0,.int .u64 (eV (fun x=> !f x) 0:Nat)),(1,.int .u64 (eV (fun x=> !f x) 1:Nat)),(2,.int .u64 (eV (fun x=> !f x) 2:Nat)),(3,.int .u64 (eV (fun x=> !f x) 3:Nat))]) (L:= [.int .u64 (eV (fun x=> !f x) 0:Nat),.int .u64 (eV (fun x=> !f x) 1:Nat),.int .u64 (eV (fun x=> !f x) 2:Nat),.int .u64 (eV (fun x=> !f x) 3:Nat)]) Fu aa<|aa)<|e<|cW pF aa (vs:=eG fun x=> !f x) aa aa aa E az fun ac I G=>aE<|C _ _<|rt<|uV aa (dK aa kL aa fun j V=>by rw [gQ]; exact G.aO j)<|⟨aa,Md.trans' (Md.trans q.md a.md) I fun k hk h=>by have :=q.md.size; omega⟩
theorem I0 (f:UInt8→Bool) (c:UInt8) (ci:Int) (w:World) (a:(c.toNat:Int)=ci):bh ay 251 (ba [.agg (eG<|f).toArray,.int .u8 ci]) w (fun v w'=>v= .bool (f c)∧Wk w w'):=by
 subst a; exact IZ f c w
theorem FJ (f:UInt8→Bool) (w:World):
 bh ay 280 (ba [.agg (eG<|f).toArray]) w (fun v w'=>bo w' w.heap.size 5 1 (v) (bytesOf f).length (U8<|bytesOf f)∧Wk w w'):=by
 refine enter func280 aa ntmps280 aa<|aj fun _ Z=>e<|iV aa fun an U aP M ao=>aw<|Z _ _<|aj fun _ ac=>aw<|ac _ _<|sq fun _ ae=>aj fun _ ag=>p mv<|nl<|tn<|ag _ _<|aJ<|lp (fun V J I=> ∃ (i:Nat) (a:Value),(i≤256)∧(bo I U.heap.size 5 1 (a) (lV f i).length<|U8<|lV f i)∧(Wk U I)∧(J 1=aQ an)∧(J 3=a)∧(J 5=au i)∧(256 - i=V)) _ ⟨0,.slice none 0 0,ab,(du _ _ _ _),(Md.refl _ _),aa,aa,aa,aa⟩ ?_
 rintro V J I ⟨i,a,hi,G,A,aD,aF,aG,rfl⟩
 refine fx 1 aD<|fx 3 aF<|fx 5 aG ?_
 have aN:Wk w I:=Md.trans M.md A
 have aS:=qs f i
 have aW:=A.size
 refine aj fun _ ah=>p (lt aa aa)<|aE<|ah _ _<|sq fun _ ai=>cd aa (fun az=> ?_) fun az=> ?_
 refine aM<|tn<|ai _ _<|sq fun _ C=>aJ<|aj fun _ al=>ak (au i)<|p (cH (au i) aa)<|aE<|al _ _<|aj fun _ am=>p (cT kL aa (aa) fun j aV=>by rw [gQ]; exact (A.B ao).aO j)<|ak (au i)<|p (lH u5 qW aa<|tU ab)<|e<|cl AU (I0 f (UInt8.ofNat i) _ _<|zw i ab) aa fun v11 aY ax=> ?_
 obtain ⟨rfl,q⟩:=ax
 refine aE<|am _ _<|cb aa (fun O=> ?_) fun O=> ?_
 refine rg aa<|ak (a)<|ak (au i)<|p (lH u5 qW aa<|tU ab)<|e<|fR hZ aa aa fun aL aZ aR E aq=>e<|ap hZ (aU (aU G q) E.md) aa (by have :=q.size; have :=E.md.size; omega) aa (aI.dS aq) (aa) (aa) ab ab fun aH aK Y av aX aT=> ?_
 rw [← zw i ab] at Y
 have aC:=qP Y
 have ar:Wk U aK:=Wk.own (Md.trans (Md.trans A q) E.md) (aU (aU G q) E.md) av<|cj _
 exact p aB<|nl<|bn<|tn<|C _ _<|rg aa<|p (ad aa aa<|bT ab)<|p mv<|nl<|tn<|⟨_,ab,i+1,aH,ab,(by rw [sV,if_pos O]; exact aC),ar,aa,aa,aa,aa⟩
 exact aM<|bn<|tn<|C _ _<|rg aa<|p (ad aa aa<|bT ab)<|p mv<|nl<|tn<|⟨_,ab,i+1,a,ab,(by rw [sV,if_neg (by rw [O]; exact eb),ed]; exact aU G q),(Md.trans A q),aa,aa,aa,aa⟩
 refine ext<|te _<|te _<|be<|tn<|ae _ _<|aj fun _ C=>ak (a)<|p (cH (a) aa)<|aE<|C _ _<|rt<|f1 aa aa ?_
 have aA:i=256:=ab
 subst aA
 exact ⟨ep G M.md.size,Md.trans M.md A⟩
theorem RC (s:List UInt8) (w:World) (hs:s.length≤1048576):
 bh ay 250 (ba [str s]) w (fun v w'=>v= .agg (eG fun x=>decide (x∈s)).toArray∧Wk w w'):=by
 refine enter func250 aa ntmps250 aa<|aj fun _ Z=>e<|al sd fun E aS aL V I=>aE<|Z _ _<|aj fun _ ac=>e<|al sd fun q aK aP Y ao=> ?_
 have ap:bL aK.heap q (eG fun x=>decide (x∈s.take 0)):=by rw [show (fun x=>decide (x∈s.take 0))=(fun _:UInt8=>false) from funext fun x=>by simp,Bj]; exact ao
 refine aE<|ac _ _<|sq fun _ ae=>aj fun _ ag=>ak (str s)<|p (cg u9 aa aa)<|p mv<|aE<|ag _ _<|aJ ?_
 have aN:=I.lt
 refine lp (fun G a A=> ∃ (i:Nat),(i≤s.length)∧(bL A.heap q<|eG fun x=>decide (x∈s.take i))∧(bL A.heap E [.int .u64 0,.int .u64 0,.int .u64 0,.int .u64 0])∧(Wk w A)∧(a 0=str s)∧(a 2=aQ E)∧(a 3=aQ q)∧(a 6=au (s.length))∧(a 7=au i)∧(s.length - i=G)) _ ⟨0,ab,ap,(Y.md.B I),(Md.trans V.md Y.md),aa,aa,aa,aa,aa,aa⟩ ?_
 rintro G a A ⟨i,hi,J,M,O,aB,aC,aD,aF,aG,rfl⟩
 refine fx 0 aB<|fx 2 aC<|fx 3 aD<|fx 6 aF<|fx 7 aG<|aj fun _ ah=>p (lt aa aa)<|aE<|ah _ _<|sq fun _ ai=>cd aa (fun ax=> ?_) fun ax=> ?_
 refine aM<|tn<|ai _ _<|sq fun _ C=>aJ<|aj fun _ am=>ak (au i)<|p (cH (au i) aa)<|aE<|am _ _<|rg aa<|ak (str s)<|ak (au i)<|p (eK u9 aa aa ab)<|e<|cl Ge (KF q (s.getD i 0) _ _ J) aa fun aR aI aw=> ?_
 obtain ⟨rfl,an,U⟩:=aw
 have ar:Wk w aI:=Md.trans' O U fun k hk h=>by have :=V.md.size; omega
 exact nl<|bn<|tn<|C _ _<|rg aa<|p (ad aa aa<|bT ab)<|p mv<|nl<|tn<|⟨_,ab,i+1,ab,(by rw [Rs (fun x=>(UR (show i < s.length by omega) x).symm)]; exact an),(U.B M fun h=>by omega),ar,aa,aa,aa,aa,aa,aa⟩
 refine ext<|te _<|te _<|be<|tn<|ae _ _<|aj fun _ C=>p (cT kL aa (aa) fun j aA=>by rw [gQ]; exact (J).aO j)<|e<|cW pF aa (vs:=eG fun x=>decide (x∈s.take i)) aa aa aa M az fun aT av aq=>aE<|C _ _<|rt<|uV aa (dK aa kL aa fun j aA=>by rw [gQ]; exact aq.aO j) ?_
 have aH:s.take i=s:=eI ab
 rw [aH]
 exact ⟨aa,Md.trans' O av fun k hk h=>by omega⟩
theorem UT (s:List UInt8) (c:UInt8) (w:World):
 bh ay 248 (ba [str s,.int .u8 c.toNat]) w (fun v w'=>v= .int .i64 (eZ c s)∧Wk w w'):=by
 exact enter func248 aa ntmps248 aa<|aj fun _ a=>aw<|a _ _<|aj fun _ i=>ak (str s)<|ak (.int .u8 c.toNat)<|e<|cl Gp (Je s c _) aa fun q A j=>aw<|i _ _<|rt<|f1 aa aa<|j
theorem RT (s pr:List UInt8) (w:World) (hs:s.length≤1099511627776) (I:pr.length≤1099511627776):
 bh ay 270 (ba [str s,str pr]) w (fun v w'=>v= .tuple #[str (gv s pr),.bool (decide (s.take pr.length=pr))]∧Wk w w'):=by
 refine enter func270 aa ntmps270 aa<|aj fun _ A=>p aB<|aw<|A _ _<|sq fun _ C=>sq fun _ E=>rg aa<|ak (str s)<|ak (str pr)<|e<|cl AS (Cu s pr _ hs I) aa fun M O G=> ?_
 obtain ⟨rfl,q⟩:=G
 refine p (no aa)<|aE<|E _ _<|cb aa (fun j=> ?_) fun j=> ?_
 have a:¬s.take pr.length=pr:=by simpa using j
 exact aj fun _ i=>ak (str s)<|p (cH (str s) aa)<|aw<|i _ _<|rt<|tr<|f2 aa aa aa<|⟨by unfold gv; rw [if_neg a,decide_eq_false a]; rfl,q⟩
 have a:s.take pr.length=pr:=by simpa using j
 have J:=De a
 exact aM<|tn<|C _ _<|aj fun _ i=>ak (str s)<|ak (str pr)<|p (cg u9 aa aa)<|p (l8 u9 aa aa ab)<|p aB<|aw<|i _ _<|rt<|f2 aa aa aa<|⟨by unfold gv; rw [if_pos a,decide_eq_true a]; rfl,q⟩
theorem RU (s pr:List UInt8) (w:World) (hs:s.length≤1099511627776) (A:pr.length≤1099511627776):
 bh ay 249 (ba [str s,str pr]) w (fun v w'=>v= .tuple #[str (gv s pr),.bool (decide (s.take pr.length=pr))]∧Wk w w'):=by
 refine enter func249 aa ntmps249 aa<|aj fun _ a=>p aB<|aw<|a _ _<|aj fun _ i=>ak (str s)<|ak (str pr)<|e<|cl P3 (RT s pr _ hs A) aa fun C E q=> ?_
 obtain ⟨rfl,j⟩:=q
 exact p (xt aa aa)<|p (xt aa aa)<|p aB<|aw<|i _ _<|rt<|f2 aa aa aa<|⟨aa,j⟩
theorem YW (s pr:List UInt8):(gv s pr).length≤s.length:=by unfold gv; split <;> simp
def jj (s:List UInt8) (k:Nat):List UInt8:=(s.drop k).take<|(s.drop k).idxOf 93
theorem OQ (s:List UInt8) (k:Nat):(jj s k).length≤s.length:=by unfold jj; rw [dO,fK]; omega
theorem OP (s:List UInt8) (k:Nat):(s.take<|k+(s.drop k).idxOf 93).drop k=jj s k:=by
 rw [su,Nat.add_sub_cancel_left]; rfl
def qq (s:List UInt8) (k:Nat):UInt8→Bool:=fun x=>if (jj s k).take 1= [94] then !decide (x∈gv (jj s k) [94]) else decide (x∈gv (jj s k) [94])
theorem OT {s:List UInt8} {k:Nat} (h:(jj s k).take [(94:UInt8)].length= [94]):qq s k=fun x=> !decide (x∈gv (jj s k) [94]):=by
 funext x; exact if_pos h
theorem OU {s:List UInt8} {k:Nat} (h:¬(jj s k).take [(94:UInt8)].length= [94]):qq s k=fun x=>decide (x∈gv (jj s k) [94]):=by
 funext x; exact if_neg h
theorem OR (s:List UInt8) (k:Nat) (w:World) (hs:s.length≤1048576) (hk:k≤s.length):
 bh ay 207 (ba [str s,au k]) w (fun v w'=>(∃ f,v= .tuple #[.agg (eG f).toArray,.int .i64 (if eZ 93 (s.drop k) < 0 then 0 else ((k+(s.drop k).idxOf 93 +1:Nat):Int)),.bool (!decide (eZ 93 (s.drop k) < 0) && decide (gv (jj s k) [94]≠[]))]∧(¬eZ 93 (s.drop k) < 0→f=qq s k))∧Wk w w'):=by
 refine enter func207 aa ntmps207 aa<|aj fun _ aq=>e<|al sd fun ac bq a7 G E=>p aB<|aw<|aq _ _<|sq fun _ ar=>rg aa<|ak (str s)<|ak (au k)<|p (l8 u9 aa aa ab)<|e<|cl PW (UT (s.drop k) 93 _) aa fun bf bl aT=> ?_
 obtain ⟨rfl,a⟩:=aT
 have bb:(s.drop k).length=s.length - k:=fK
 refine aw<|ar _ _<|sq fun _ av=>aj fun _ ax=>p mv<|p (lt aa aa)<|aE<|ax _ _<|cd aa (fun i=> ?_) fun i=> ?_
 refine aj fun _ J=>p (Fz (ps:= []) (L:= [.int .u64 0,.int .u64 0,.int .u64 0,.int .u64 0]) Fu aa<|aa)<|e<|cW pF aa (vs:=eG fun _=>false) (by rw [Bj]; rfl) aa aa (a.B E) az fun bo aR aD=>p aB<|aw<|J _ _<|rt<|tr<|HJ aa (dK aa kL aa fun j Y=>by rw [gQ]; exact aD.aO j) ea ea ?_
 refine ⟨⟨fun _=>false,by rw [if_pos i,decide_eq_true i]; rfl,fun h=>absurd i h⟩,Md.trans' (Md.trans G.md a) aR fun k hk h=>by omega⟩
 have bc:=rM (c:=93) (l:=s.drop k) i
 have a9:(jj s k).length≤s.length:=OQ s k
 refine aM<|tn<|av _ _<|sq fun _ J=> ?_
 have ap:=OP s k
 refine rg aa<|ak (str s)<|ak (au k)<|ak (au k)<|p mv<|p (bE ((k+(s.drop k).idxOf 93:Nat):Int) aa aa<|bj ab ab)<|p (l7 u9 aa aa aa ab)<|e<|cl PX (RU ((s.take<|k+(s.drop k).idxOf 93).drop k) [94] _ (by rw [ap]; omega) az) aa fun bg bm ao=> ?_
 rw [ap] at ao
 obtain ⟨rfl,A⟩:=ao
 have bd:=YW (jj s k) [94]
 refine p mv<|p (xt aa aa)<|p (xt aa aa)<|p aB<|aw<|J _ _<|sq fun _ aA=>rg aa<|p mv<|e<|cl PY (RC (gv (jj s k) [94]) _ ab) aa fun bi bn aU=> ?_
 obtain ⟨rfl,C⟩:=aU
 refine e<|al sd fun Z a2 a6 an aC=> ?_
 have aK:Wk w a2:=Md.trans G.md<|Md.trans a<|Md.trans A<|Md.trans C an.md
 have ae:=an.md.B<|C.B<|A.B<|a.B E
 have a8:=ae.lt
 refine e<|cW pF aa (vs:=eG fun x=>decide (x∈gv (jj s k) [94])) aa aa aa aC az fun a3 ai O=> ?_
 have ah:Wk w a3:=Md.trans' aK ai fun k hk h=>by have :=G.md.size; have :=a.size; have :=A.size; have :=C.size; omega
 have ag:=ai.B ae fun h=>by have :=E.lt; have :=a.size; have :=A.size; have :=C.size; omega
 refine aE<|aA _ _ ?_
 refine ec (fun q I=>(bL I.heap Z<|eG<|qq s k)∧(bL I.heap ac [.int .u64 0,.int .u64 0,.int .u64 0,.int .u64 0])∧(Wk w I)∧(q 0=str s)∧(q 1=au k)∧(q 4=aQ ac)∧(q 7= .int .i64 (eZ 93<|s.drop k))∧(q 8=str (gv (jj s k) [94]))∧(q 10=aQ Z)) ?_ ?_
 refine aj fun _ M=>p mv<|aE<|M _ _<|cb aa (fun V=> ?_) fun V=> ?_
 refine rg aa<|p (cT kL aa (aa) fun j Y=>by rw [gQ]; exact (O).aO j)<|e<|cl AQ (C5 (fun x=>decide (x∈gv (jj s k) [94])) _) aa fun bk bp aV=> ?_
 obtain ⟨rfl,U⟩:=aV
 refine e<|cW pF aa (vs:=eG fun x=> !decide (x∈gv (jj s k) [94])) aa aa aa (U.B O) (cj 4) fun a4 am aG=> ?_
 have aL:Wk w a4:=Md.trans' (Md.trans ah U) am fun k hk h=>by have :=G.md.size; have :=a.size; have :=A.size; have :=C.size; omega
 have aF:=am.B (U.B ag) fun h=>by have :=E.lt; have :=a.size; have :=A.size; have :=C.size; omega
 exact aE<|⟨(by rw [OT (by simpa using V)]; exact aG),aF,aL,aa,aa,aa,aa,aa,aa⟩
 exact aM<|tn<|⟨(by rw [OU (by simpa using V)]; exact O),ag,ah,aa,aa,aa,aa,aa,aa⟩
 rintro q I ⟨aI,aJ,aP,aW,aX,aZ,a0,a1,aY⟩
 refine fx 0 aW<|fx 1 aX<|fx 4 aZ<|fx 7 a0<|fx 8 a1<|fx 10 aY<|aj fun _ M=>p (cT kL aa (aa) fun j Y=>by rw [gQ]; exact (aI).aO j)<|ak (au k)<|ak (.int .i64<|eZ 93<|s.drop k)<|p (bE ((k+(s.drop k).idxOf 93:Nat):Int) aa aa<|bj ab ab)<|p (bE ((k+(s.drop k).idxOf 93 +1:Nat):Int) aa aa<|bj ab ab)<|ak (str<|gv (jj s k) [94])<|p (oN aa aa)<|e<|cW pF aa (vs:=eG<|qq s k) aa aa aa aJ az fun a5 aS aH=> ?_
 have aN:Wk w a5:=Md.trans' aP aS fun k hk h=>by omega
 refine p aB<|aw<|M _ _<|rt<|HJ aa (dK aa kL aa fun j Y=>by rw [gQ]; exact aH.aO j) ea ea ?_
 refine ⟨⟨qq s k,by rw [if_neg i,decide_eq_false i]; rfl,fun _=>rfl⟩,aN⟩
theorem US (l:List UInt8) (a:Option Addr) (n c:Nat) (x:UInt8) (w:World) (G:aI w.heap a (U8 l)) (hn:l.length=n) (aq:n≤1048576):
 bh ay 281 (ba [.slice a n c,.int .u8 x.toNat]) w (fun v w'=>v= .int .i64 (eZ x l)∧Wk w w'):=by
 refine enter func281 aa ntmps281 aa<|aj fun _ O=>aw<|O _ _<|sq fun _ U=>aj fun _ V=>ak (.slice a n c)<|p (bF mQ aa aa)<|p mv<|aE<|V _ _<|aJ<|lp (fun E q M=> ∃ (i:Nat),(i≤n)∧(∀ j,j < i→l.getD j 0≠x)∧(M=w)∧(q 0= .slice a n c)∧(q 1= .int .u8 x.toNat)∧(q 7=au n)∧(q 8=au i)∧(n - i=E)) _ ⟨0,ab,(fun j J=>by omega),aa,aa,aa,aa,aa,aa⟩ ?_
 rintro E q M ⟨i,hi,C,ah,al,am,an,ao,rfl⟩
 refine fx 0 al<|fx 1 am<|fx 7 an<|fx 8 ao ?_
 subst ah
 refine aj fun _ Y=>p (lt aa aa)<|aE<|Y _ _<|sq fun _ Z=>cd aa (fun ai=> ?_) fun ai=> ?_
 refine aM<|tn<|Z _ _<|sq fun _ A=>aJ<|aj fun _ ac=>ak (au i)<|p (cH (au i) aa)<|aE<|ac _ _<|aj fun _ ae=>ak (.int .u8 x.toNat)<|ak (.slice a n c)<|ak (au i)<|p (a7 lZ aa aa ab<|aI.ok (G)<|pV ab)<|p (ld pB aa<|pU (i:=i) G ab)<|p (bH aa aa)<|aE<|ae _ _<|cd aa (fun I=> ?_) fun I=> ?_
 have ap:l.getD i 0=x:=kY.1 ab
 exact aj fun _ ag=>ak (au i)<|p (cH (au i) aa)<|aE<|ag _ _<|rt<|br<|tr<|tr<|br<|tr<|f1 aa aa<|⟨by rw [Jk (show i < l.length by omega) C ap]; rfl,Md.refl _ _⟩
 exact aM<|bn<|tn<|A _ _<|rg aa<|p (ad aa aa<|bT ab)<|p mv<|nl<|tn<|⟨_,ab,i+1,ab,(fun j J=>by rcases e8 j i with h | h <;> first | exact C j h | (rw [show j=i by omega]; exact fun h2=>I<|by rw [h2])),aa,aa,aa,aa,aa,aa⟩
 exact ext<|te _<|te _<|be<|tn<|U _ _<|aj fun _ A=>p aB<|aE<|A _ _<|rt<|f1 aa aa<|⟨by rw [Jl (fun j J=>C j ab)]; rfl,Md.refl _ _⟩
theorem Sl (l:List UInt8) (i j:Nat) (B n cp a:Nat) (w:World) (C:bo w B 5 1 (.slice (some ⟨a,0,none⟩) n cp) n (U8 l)) (al:i < j∧j≤n) (an:n≤1048576):
 bh ay 282 (ba [.slice (some ⟨a,0,none⟩) n cp,au i,au j]) w (fun v w'=>v= .slice (some ⟨a,0,none⟩) (i+(n - j)) cp∧bo w' B 5 1 (.slice (some ⟨a,0,none⟩) (i+(n - j)) cp) (i+(n - j)) (U8<|l.take i++l.drop j)∧Md (fun q=>q=a) w w'):=by
 have am:=DP C
 have ai:=(aX C).1
 refine enter func282 aa ntmps282 aa<|aj fun _ E=>aw<|E _ _<|aj fun _ G=>ak (.slice (some ⟨a,0,none⟩) n cp)<|ak (au i)<|ak (au j)<|ak (.slice (some ⟨a,0,none⟩) n cp)<|p (bF mQ aa aa)<|p (Yb lZ aa aa aa aa ab)<|aE<|G _ _<|sq fun _ I=>aj fun _ J=>ak (au i)<|ak (au j)<|p (bH aa aa)<|aE<|J _ _<|cd aa (fun h=>absurd h ab) fun ah=>aM<|tn<|I _ _<|aj fun _ M=>ak (.slice (some ⟨a,0,none⟩) n cp)<|p (bF mQ aa aa)<|p aB<|nl<|tn<|M _ _<|sq fun _ O=> ?_
 have A:(fun w'=>Wk w w') w.drew:=(Md.refl _ _).drew
 refine eM (fun w'=>Wk w w') 6 aa wide A<|bz 0 aa (.slice (some ⟨a,0,none⟩) n cp) A<|bz 1 aa (au i) A<|bq 2 aa (fun _=>vP lZ aa aa ab) (fun _=>A)<|bz 3 aa (.slice (some ⟨a,0,none⟩) n cp) A<|bz 4 aa (au j) A<|bq 5 aa (fun _=>vQ lZ aa aa ab) (fun _=>A)<|dG 6 aa ag ag<|OC (B:=B) (xs:=U8<|l.take i) (news:=U8<|l.drop j) (n:=i) (m:=n - j) hZ (C6 (aU C A) ab ab) aa aa (show aI _ (gh (some ⟨a,0,none⟩) cp j 1) (U8<|l.drop j) from Y6<|aU C A) (by unfold gh; split <;> simp) (by rw [xp,fK]; omega) (Of _) ab fun ao Y ac=>bq 7 aa (fun _=>aB) (fun h=>eb<|(show true =_ from by kernel_rfl).trans h)<|eL ag<|tn<|O _ _<|aj fun _ U=>ak (.slice (some ⟨a,0,none⟩) (i+(n - j)) cp)<|ak (.slice (some ⟨a,0,none⟩) (i+(n - j)) cp)<|p (bF mQ aa aa)<|p mv<|p (Yd lZ aa aa aa ab) ?_
 exact e<|Rj mQ ZU aa ac (by simp) aa ab fun ap Z ae=>aE<|U _ _<|aj fun _ V=>ak (.slice (some ⟨a,0,none⟩) (i+(n - j)) cp)<|p (cH (.slice (some ⟨a,0,none⟩) (i+(n - j)) cp) aa)<|nl<|tn<|V _ _<|rt<|f1 aa aa<|⟨aa,by rw [xo]; exact ae,Md.trans (A.mono fun _ _ h=>h.elim)<|Md.trans Y<|Z.mono fun q _ h=>by simpa [Value.ownBlock] using h.symm⟩
end Go.Hb.ot
end
section
set_option maxRecDepth 20000
set_option maxHeartbeats 1000000
namespace Go.Hb.po
open Go.Hb.dT
open Go.Proofs
open Go.Hb.ji Go.Hb.ot
theorem FB {s:List UInt8} {k:Nat} (h:(s.drop k).idxOf 93 < (s.drop k).length):gv (jj s k) [94]≠[]↔(s.drop k).idxOf 93≠0∧¬((s.drop k).idxOf 93=1∧(s.drop k).getD 0 0=94):=by
 unfold jj gv
 generalize i:s.drop k=l at*
 cases l with
 | nil=>simp at h
 | cons b r=>
   generalize hm:(b::r).idxOf 93=m at*
   cases m with
   | zero=>simp
   | succ m=>
     simp only [cM] at h
     simp only [qc,eW,oq,lP,wP,wS]
     by_cases a:b=94
     · subst a
       rw [if_pos rfl]
       cases m with
       | zero=>simp
       | succ m=>
         cases r with
         | nil=>simp at h
         | cons x r=>simp
     · rw [if_neg (by simpa using a)]
       simp [a]
theorem OV {s:List UInt8} {k:Nat} (h:(s.drop k).idxOf 93 < (s.drop k).length) (q:(s.drop k).idxOf 93≠0):qq s k=cB (91::(s.drop k).take ((s.drop k).idxOf 93 +1)):=by
 funext x
 unfold qq jj gv cB
 generalize C:s.drop k=l at*
 cases l with
 | nil=>simp at h
 | cons b r=>
   generalize hm:(b::r).idxOf 93=m at*
   cases m with
   | zero=>exact absurd rfl q
   | succ m=>
     simp only [cM] at h
     have A:(91::sw (m+1 +1) (b::r)).length=m+3:=by simp only [cM,dO]; omega
     rw [A,if_neg (show ¬m+3=1 by omega)]
     have i:(91::sw (m+1 +1) (b::r)).getD 1 0=b:=rfl
     have j:sw (m+3 - 1) (91::sw (m+1 +1) (b::r))=91::sw (m+1) (b::r):=by
      show sw (m+2) (91::sw (m+2) (b::r))=_
      rw [qc,List.take_take,Nat.min_eq_left ab]
     rw [i,j]
     simp only [qc,oq,wP,wS,eW]
     by_cases a:b=94
     · subst a; simp
     · simp [a]
theorem SB:(fun x:UInt8=> !(fun _:UInt8=>false) x)=cB [46]:=by funext x; simp [cB]
theorem Wu {c:UInt8} (h:c≠46):(fun x:UInt8=>(fun _:UInt8=>false) x || decide (x=c))=cB [c]:=by
 funext x
 simp only [cB,eW,if_true,Bool.false_or,lP]
 exact decide_eq_decide.2 ⟨fun h1=> .inr h1.symm,fun h1=>(h1.resolve_left h).symm⟩
theorem GK {ps:List (List UInt8)} (h:0 < ps.length):k6 ps≠[]:=BQ (f:=fun t=>eG<|cB t) (m:=4) (fun _=>rfl) az h
theorem GJ {h:Array Obj} {a:Option Addr} {ps:List (List UInt8)} {i:Nat} (q:aI h a (k6 ps)) (hi:i < ps.length):∀ j,j < 4→Hb.aO h (bk a) (fo a+i*4 +j)=(eG<|cB<|ps.getD i [])[j]? :=by
 have :=e9 (f:=fun t=>eG<|cB t) (m:=4) (fun _=>rfl) q<|cz hi
 rw [cQ,cz hi]; exact this
theorem yF {b:UInt8} (h:(b.toNat:Int)=91):b=91:=kY.1 (by have :(91:UInt8).toNat=91:=rfl; omega)
theorem vC {b:UInt8} (h:¬(b.toNat:Int)=91):b≠91:=by rintro rfl; exact h rfl
theorem CA {b:UInt8} (h:(b.toNat:Int)=46):b=46:=kY.1 (by have :(46:UInt8).toNat=46:=rfl; omega)
theorem CX {b:UInt8} (h:¬(b.toNat:Int)=46):b≠46:=by rintro rfl; exact h rfl
theorem Ks {w:World} {B:Nat} {v:Value} {l:List (List UInt8)} {x:List UInt8} (h:w.ownsRow B 325 4 v (l.length+1) (k6 l++eG (cB x))):w.ownsRow B 325 4 v (l++ [x]).length (k6<|l++ [x]):=by
 rw [bI,Rp]; simpa [k6] using h
theorem Sm (l:List UInt8) (i j:Nat) (A C:Int) (B n cp a:Nat) (w:World) (E:bo w B 5 1 (.slice (some ⟨a,0,none⟩) n cp) n (U8 l)) (G:i < j∧j≤n) (J:n≤1048576) (hi:A=(i:Nat)) (I:C=(j:Nat)):
 bh ay 282 (ba [.slice (some ⟨a,0,none⟩) n cp,.int .i64 A,.int .i64 C]) w (fun v w'=>v= .slice (some ⟨a,0,none⟩) (i+(n - j)) cp∧bo w' B 5 1 (.slice (some ⟨a,0,none⟩) (i+(n - j)) cp) (i+(n - j)) (U8<|l.take i++l.drop j)∧Md (fun q=>q=a) w w'):=by
 subst hi I; exact Sl l i j B n cp a w E G J
theorem X3 (f:UInt8→Bool) (w:World):
 bh ay 267 (ba [.agg (eG<|f).toArray]) w (fun v w'=>v=str (gM f)∧Wk w w'):=by
 have bM:(bytesOf f).length≤256:=qs f 256
 have bN:(bytesOf fun x=> !f x).length≤256:=qs _ 256
 refine enter func267 aa ntmps267 aa<|aj fun _ aW=>e<|iV aa fun a3 ax am Y aC=>aw<|aW _ _<|aj fun _ aY=>p (cT kL aa (aa) fun j aK=>by rw [gQ]; exact (aC).aO j)<|e<|cl Gq (FJ f _) aa fun v6 aR bl=> ?_
 obtain ⟨ae,al⟩:=bl
 obtain ⟨q,a,rfl⟩:=cw ae
 have E:=(aX ae).2
 have V:Wk w aR:=Md.trans Y.md al
 have aD:=al.B aC
 refine aw<|aY _ _<|sq fun _ aZ=>aJ<|aj fun _ a0=>ak (.slice q (bytesOf f).length a)<|p (bF mQ aa aa)<|p (bH aa aa)<|aw<|a0 _ _<|cd aa (fun bq=> ?_) fun bq=> ?_
 exact aj fun _ G=>aw<|G _ _<|rt<|br<|tr<|f1 aa aa<|⟨by unfold gM; rw [if_pos (show (bytesOf f).length=256 by omega)]; rfl,V⟩
 refine ec (fun ah aS=> ∃ (ai:Bool),(ai=decide ((bytesOf f).length=1∧(bytesOf f).getD 0 0≠46∧(bytesOf f).getD 0 0≠91))∧(aS=aR)∧(ah 1=aQ a3)∧(ah 3= .slice q (bytesOf f).length a)∧(ah 11= .bool ai)) ?_ ?_
 refine rg aa<|ak (.slice q (bytesOf f).length a)<|p (bF mQ aa aa)<|p (bH aa aa)<|p mv<|gs (t:=15) aa (fun bs=> ?_) fun bs=> ?_
 refine pg aa aa aa (aT (.slice q (bytesOf f).length a) aa)<|pg aa aa aa (a7 lZ aa aa ab<|aI.ok (E)<|pV ab)<|pg aa aa aa (ld pB aa<|pU (i:=0) E ab)<|pg aa aa aa (cX aa aa)<|p (bw aa)<|p mv<|gs (t:=21) aa (fun aH=> ?_) fun aH=> ?_
 exact pg aa aa aa (aT (.slice q (bytesOf f).length a) aa)<|pg aa aa aa (a7 lZ aa aa ab<|aI.ok (E)<|pV ab)<|pg aa aa aa (ld pB aa<|pU (i:=0) E ab)<|pg aa aa aa (cX aa aa)<|p (bw aa)<|p aB<|nl<|tn<|⟨_,(by first | exact decide_eq_decide.2 ⟨fun h=>⟨ab,by first | exact CX ab | exact fun h=>by omega,by first | exact vC ab | exact fun h=>by omega⟩,fun h=>by have h1:=h.2.2; exact fun h2=>h1<|yF h2⟩ | rfl),aa,aa,aa,aa⟩
 exact sk aa aa aa aa<|sk aa aa aa aa<|sk aa aa aa aa<|sk aa aa aa aa<|p (bm aa)<|p aB<|nl<|tn<|⟨false,((decide_eq_false fun h=>h.2.1<|CA<|Decidable.of_not_not aH).symm),aa,aa,aa,aa⟩
 exact sk aa aa aa aa<|sk aa aa aa aa<|sk aa aa aa aa<|sk aa aa aa aa<|p (bm aa)<|p mv<|sk aa aa aa aa<|sk aa aa aa aa<|sk aa aa aa aa<|sk aa aa aa aa<|p (bm aa)<|aw<|⟨false,((decide_eq_false fun h=>by omega).symm),aa,aa,aa,aa⟩
 rintro ah aS ⟨ai,am,bc,bx,bA,bz⟩
 refine fx 1 bx<|fx 3 bA<|fx 11 bz ?_
 subst bc
 refine cb aa (fun an=> ?_) fun an=> ?_
 have ag:(bytesOf f).length=1∧(bytesOf f).getD 0 0≠46∧(bytesOf f).getD 0 0≠91:=of_decide_eq_true<|am ▸ an
 exact aj fun _ G=>ak (.slice q (bytesOf f).length a)<|p (m8 m6 aa (E)<|by simp)<|aw<|G _ _<|rt<|br<|tr<|f1 aa aa<|⟨by unfold gM; rw [if_neg (show ¬(bytesOf f).length=256 by omega),if_pos ag]; rfl,V⟩
 have ag:¬((bytesOf f).length=1∧(bytesOf f).getD 0 0≠46∧(bytesOf f).getD 0 0≠91):=of_decide_eq_false<|am ▸ an
 refine aj fun _ G=>p (cT kL aa (aa) fun j aK=>by rw [gQ]; exact (aD).aO j)<|e<|cl AU (I0 f 93 _ _ rfl) aa fun v31 bW bf=> ?_
 obtain ⟨rfl,A⟩:=bf
 refine aw<|G _ _<|cb aa (fun ao=> ?_) fun ao=> ?_
 refine aj fun _ I=>p (cT kL aa (aa) fun j aK=>by rw [gQ]; exact (A.B aD).aO j)<|e<|cl AQ (C5 f _) aa fun bR bX bg=> ?_
 obtain ⟨rfl,a5⟩:=bg
 refine e<|cl Gq (FJ (fun x=> !f x) _) aa fun bS bY bi=> ?_
 obtain ⟨aN,a6⟩:=bi
 obtain ⟨bG,bK,rfl⟩:=cw aN
 exact p (m8 m6 aa ((aX aN).2)<|aa)<|p (cc aa aa<|by simp only [cM,fP]; omega)<|p (cc aa aa<|by simp only [cM,fP,bI]; omega)<|aw<|I _ _<|rt<|br<|tr<|f1 aa aa<|⟨by unfold gM; rw [if_neg (show ¬(bytesOf f).length=256 by omega),if_neg ag,if_pos ao]; rfl,Md.trans V<|Md.trans A<|Md.trans a5 a6⟩
 refine aM<|bn<|tn<|aZ _ _ ?_
 refine ec (fun aV aA=> ∃ (J:Option Addr) (C M:Nat),(((bytesOf f).filter (fun b=>decide (b≠94))++(if 94∈(bytesOf f) then [94] else [])).length=C)∧(bo aA ax.heap.size 5 1 (.slice J C M) C<|U8<|(bytesOf f).filter (fun b=>decide (b≠94))++(if 94∈(bytesOf f) then [94] else []))∧(Wk w aA)∧(C≤300)∧(aV 3= .slice J C M)) ?_ ?_
 refine aj fun _ I=>ak (.slice q (bytesOf f).length a)<|e<|cl P6 (US (bytesOf f) q _ a 94 _ (E.wk A) aa ab) aa fun bU bC bj=> ?_
 obtain ⟨rfl,U⟩:=bj
 have aE:Wk w bC:=Md.trans V<|Md.trans A U
 refine aw<|I _ _<|aj fun _ a1=>p mv<|p (ge aa aa)<|nl<|tn<|a1 _ _<|cd aa (fun bp=> ?_) fun bp=> ?_
 have aq:=rM (c:=94) (l:=bytesOf f) ab
 have ar:=aU (aU ae A) U
 obtain ⟨O,rfl⟩:=WG ar ab
 refine rg aa<|ak (.slice (some ⟨O,0,none⟩) (bytesOf f).length a)<|p mv<|p mv<|p (ad aa aa<|bT ab)<|e<|cl P7 (Sm (bytesOf f) ((bytesOf f).idxOf 94) ((bytesOf f).idxOf 94 +1) _ _ ax.heap.size _ a O _ ar ab ab ab ab) aa fun v46 bD bk=> ?_
 obtain ⟨rfl,au,aG⟩:=bk
 have a8:Wk w bD:=Md.trans' aE aG fun k hk h=>by have :=dI ar (show (bO (some ⟨O,0,none⟩) _ a).ownBlock=some O from rfl); have :=Y.md.size; omega
 have bt:=DP au
 refine e<|fR hZ aa aa fun bJ bZ bL Z a4=>e<|ap hZ (aU au Z.md) aa (by have :=Y.md.size; have :=al.size; have :=A.size; have :=U.size; have :=aG.size; have :=Z.md.size; omega) aa (aI.dS a4) (aa) (aa) ab ab fun bV bE av bd bQ bP=> ?_
 have a9:=Wk.own (Md.trans a8 Z.md) (aU au Z.md) bd Y.md.size
 rw [UO (OZ f) aq.2] at bt av
 obtain ⟨a2,c2,rfl⟩:=cw av
 have aP:bo bE ax.heap.size 5 1 (.slice a2 (((bytesOf f).idxOf 94 +((bytesOf f).length - ((bytesOf f).idxOf 94 +1)))+1) c2) (((bytesOf f).idxOf 94 +((bytesOf f).length - ((bytesOf f).idxOf 94 +1)))+1) (U8<|(bytesOf f).filter (fun b=>decide (b≠94))++ [94]):=by rw [xo]; exact av
 exact aw<|⟨a2,_,c2,(by have :=DP aP; rw [if_pos (wV.1 aq.2)]; exact this),(by rw [if_pos (wV.1 aq.2)]; exact aP),a9,(ab),aa⟩
 have ac:¬(94:UInt8)∈bytesOf f:=fun h=>by have h1:eZ 94 (bytesOf f)=(bytesOf f).idxOf 94:=if_pos (wV.2 h); omega
 exact aM<|tn<|⟨q,(bytesOf f).length,a,(by rw [if_neg ac,Kh ac,ed]),(by rw [if_neg ac,Kh ac,ed]; exact aU (aU ae A) U),aE,(ab),aa⟩
 rintro aV aA ⟨J,C,M,aL,bv,bb,bu,bB⟩
 refine fx 3 bB ?_
 have aF:((bytesOf f).filter (fun b=>decide (b≠94))++(if 94∈(bytesOf f) then [94] else [])).length≤300:=by rw [aL]; exact bu
 exact aj fun _ I=>ak (.slice J C M)<|p (m8 m6 aa ((aX bv).2)<|aL)<|p (cc aa aa<|fW (z6 aF _) az)<|p (cc aa aa<|by rw [bI]; exact fW (Nat.add_le_add_right (z6 aF _) _) az)<|p aB<|nl<|tn<|I _ _<|rt<|f1 aa aa<|⟨by unfold gM; rw [if_neg (show ¬(bytesOf f).length=256 by omega),if_neg ag,if_neg (show ¬f 93=true from by rw [ao]; exact eb)]; rfl,bb⟩
theorem GX (s:List UInt8) (w:World) (hs:s.length≤1048576):
 bh ay 144 (ba [str s]) w (fun v w'=>(∃ a,v= .tuple #[.agg [a].toArray,au ((da s).2)]∧bo w' w.heap.size 325 4 (a) ((da s).1).length (k6<|(da s).1))∧Wk w w'):=by
 refine enter func144 aa ntmps144 aa<|aj fun _ b0=>e<|ga zD fun aD dQ dy ae aq=>aw<|b0 _ _<|sq fun _ b5=>sq fun _ bs=>rg aa<|ak (str s)<|p (dR aa aa)<|p mv<|gs (t:=10) aa (fun U=> ?_) fun U=> ?_
 refine sk aa aa aa aa<|sk aa aa aa aa<|sk aa aa aa aa<|p (bw aa)<|aE<|bs _ _<|ct aa<|sq fun _ am=>rg aa<|p (cO (ps:= []) (L:= [.slice none 0 0]) vT aa<|aa)<|e<|gi qv aa (vs:= [.slice none 0 0]) aa aa aa aq az fun G A C=> ?_
 have E:Wk w G:=Md.trans' ae.md A fun k hk h=>by omega
 exact aw<|am _ _<|rt<|tr<|eo aa (dK (cs:= [.slice none 0 0]) aa mX aa fun j I=>by cases j with | zero=>exact (a6 C).trans aa | succ j=>omega) ea<|⟨⟨.slice none 0 0,by unfold da; rw [if_pos (.inl U)]; rfl,by unfold da; rw [if_pos (.inl U)]; exact du _ _ _ _⟩,E⟩
 refine pg aa aa aa (aT (str s) aa)<|pg aa aa aa (cg u9 aa aa)<|pg aa aa aa (gt aa aa)<|p (bm aa)<|aE<|bs _ _<|cd aa (fun cS=> ?_) fun cS=> ?_
 refine aj fun _ am=>p (cO (ps:= []) (L:= [.slice none 0 0]) vT aa<|aa)<|e<|gi qv aa (vs:= [.slice none 0 0]) aa aa aa aq az fun G A C=> ?_
 have E:Wk w G:=Md.trans' ae.md A fun k hk h=>by omega
 exact aw<|am _ _<|rt<|tr<|eo aa (dK (cs:= [.slice none 0 0]) aa mX aa fun j I=>by cases j with | zero=>exact (a6 C).trans aa | succ j=>omega) ea<|⟨⟨.slice none 0 0,by unfold da; rw [if_pos (.inr ab)]; rfl,by unfold da; rw [if_pos (.inr ab)]; exact du _ _ _ _⟩,E⟩
 refine aM<|tn<|b5 _ _<|sq fun _ am=>aj fun _ b6=>ak (str s)<|p (dR aa aa)<|nl<|tn<|b6 _ _<|cd aa (fun ag=> ?_) fun ag=> ?_
 refine aj fun _ a4=>p (cO (ps:= []) (L:= [.slice none 0 0]) vT aa<|aa)<|e<|gi qv aa (vs:= [.slice none 0 0]) aa aa aa aq az fun G A C=> ?_
 have E:Wk w G:=Md.trans' ae.md A fun k hk h=>by omega
 refine aw<|a4 _ _<|rt<|tr<|eo aa (dK (cs:= [.slice none 0 0]) aa mX aa fun j I=>by cases j with | zero=>exact (a6 C).trans aa | succ j=>omega) ea ?_
 have bS:¬(s= []∨512 < s.length):=fun h=>h.elim U fun h=>by omega
 exact ⟨⟨.slice none 0 0,by unfold da; rw [if_neg bS,if_pos ag]; rfl,by unfold da; rw [if_neg bS,if_pos ag]; exact du _ _ _ _⟩,E⟩
 refine aM<|tn<|am _ _<|aj fun _ a4=>e<|ga zD fun an dt dA bP cn=> ?_
 have cK:Wk w dt:=Md.trans ae.md bP.md
 have dz:=(dm.1 aq).1
 have cm:=bP.md.aJ aq
 have hs:=hs
 refine aE<|a4 _ _<|sq fun _ b7=>aj fun _ b8=>aw<|b8 _ _<|aJ<|lp (fun bt aC Y=> ∃ (i:Nat) (q:List (List UInt8)) (aA:Value),(i≤s.length∧q.length≤i)∧(km s i q)∧(Y.heap[an]? =some (.cells [aA].toArray 270 (0,0)))∧(Y.heap[aD]? =some (.cells [.slice none 0 0].toArray 270 (0,0)))∧(bo Y w.heap.size 325 4 (aA) (q).length<|k6<|q)∧(Wk w Y)∧(aC 0=str s)∧(aC 2=aQ aD)∧(aC 4=aQ an)∧(aC 5=au i)∧(s.length - i=bt)) _ ⟨0,[],.slice none 0 0,(by simp),(km.start s),cn,cm,(du _ _ _ _),cK,aa,aa,aa,(by first | rfl | exact iv<|if_neg ax),aa⟩ ?_
 rintro bt aC Y ⟨i,q,aA,hi,aW,aG,ar,V,Z,c5,c6,c7,c8,rfl⟩
 refine fx 0 c5<|fx 2 c6<|fx 4 c7<|fx 5 c8<|sq fun _ b9=>aj fun _ b1=>ak (au i)<|ak (str s)<|p (cg u9 aa aa)<|p (lt aa aa)<|aE<|b1 _ _<|cd aa (fun cU=> ?_) fun cU=> ?_
 refine aM<|tn<|b9 _ _<|aJ<|aj fun _ a0=>e<|al sd fun ao bZ bQ aR cu=> ?_
 have aF:bL bZ.heap ao (eG fun _=>false):=by rw [Bj]; exact cu
 have bb:Wk w bZ:=Md.trans Z aR.md
 have a8:=aR.md.aJ aG
 have a9:=aR.md.aJ ar
 have bp:=aU V aR.md
 have bQ:ao=Y.heap.size:=bQ
 have dx:=(dm.1 aG).1
 have dv:=(dm.1 ar).1
 have bk:=drop_cons (l:=s) (i:=i) 0 ab
 refine aE<|a0 _ _<|aj fun _ a1=>aw<|a1 _ _ ?_
 refine ec (fun ai ah=>(s.getD i 0≠91)∧(bL ah.heap ao<|eG<|cB [s.getD i 0])∧(ah.heap[an]? =some (.cells [aA].toArray 270 (0,0)))∧(ah.heap[aD]? =some (.cells [.slice none 0 0].toArray 270 (0,0)))∧(bo ah w.heap.size 325 4 (aA) (q).length<|k6<|q)∧(Wk w ah)∧(ai 0=str s)∧(ai 2=aQ aD)∧(ai 4=aQ an)∧(ai 5=au i)∧(ai 6=aQ ao)) ?_ ?_
 refine aj fun _ M=>ak (str s)<|ak (au i)<|p (eK u9 aa aa ab)<|aE<|M _ _<|aJ<|aj fun _ b2=>p (bH aa aa)<|aw<|b2 _ _<|cd aa (fun aS=> ?_) fun aS=> ?_
 refine sq fun _ a2=>aj fun _ b3=>ak (str s)<|ak (au i)<|p (bE ((i+1:Nat):Int) aa aa<|bj ab ab)<|e<|cl PF (OR s (i+1) _ hs ab) aa fun dO ds cQ=> ?_
 obtain ⟨⟨ce,rfl,cY⟩,hE36⟩:=cQ
 have cJ:Wk w ds:=Md.trans bb hE36
 have bR:=yF aS
 refine p mv<|p (xt aa aa)<|p (xt aa aa)<|p (xt aa aa)<|e<|cW pF aa (vs:=eG ce) aa aa aa (hE36.B aF) az fun dl aH bu=> ?_
 have bK:Wk w dl:=Md.trans' cJ aH fun k hk h=>by have :=Z.size; omega
 have dH:=hE36.size
 have bv:=aH.aJ (hE36.aJ a8) fun h=>by omega
 have bD:=aH.aJ (hE36.aJ a9) fun h=>by omega
 have c0:=db (aU bp hE36) aH fun k hk h=>by have :=dI V hk; omega
 have dD:(s.drop<|i+1).length=s.length - (i+1):=fK
 refine p aB<|aw<|b3 _ _<|aj fun _ b4=>p mv<|p (no aa)<|aE<|b4 _ _<|cb aa (fun O=> ?_) fun O=> ?_
 have av:im (s.drop i)=none:=by
  rw [bk,bR]
  refine xH aa fun h=> ?_
  have dg:¬eZ 93 (s.drop<|i+1) < 0:=by rw [show eZ 93 (s.drop<|i+1)=(s.drop<|i+1).idxOf 93 from if_pos h.1]; omega
  have dh:=(FB (s:=s) (k:=i+1) h.1).2 h.2
  rw [decide_eq_false dg,decide_eq_true dh] at O; cases O
 have aV:=aW.bad ab av
 refine aj fun _ a3=>p (cO (ps:= []) (L:= [.slice none 0 0]) vT aa<|aa)<|e<|gi qv aa (vs:= [.slice none 0 0]) aa aa aa bD az fun G A C=> ?_
 have E:Wk w G:=Md.trans' bK A fun k hk h=>by omega
 refine aw<|a3 _ _<|rt<|tr<|br<|tr<|br<|tr<|br<|tr<|eo aa (dK (cs:= [.slice none 0 0]) aa mX aa fun j I=>by cases j with | zero=>exact (a6 C).trans aa | succ j=>omega) ea ?_
 have J:da s=([],41):=by unfold da; rw [if_neg (fun h=>h.elim U fun h=>by omega),if_neg ag,aV]
 exact ⟨⟨.slice none 0 0,by rw [J]; rfl,by rw [J]; exact du _ _ _ _⟩,E⟩
 have ax:¬eZ 93 (s.drop<|i+1) < 0:=fun h=>by rw [decide_eq_true h] at O; cases O
 have di:gv (jj s<|i+1) [94]≠[]:=fun h=>by rw [h] at O; simp at O
 have aX:=rM ax
 have bq:=(FB (s:=s) (k:=i+1) aX.2).1 di
 obtain rfl :=cY ax
 rw [OV aX.2 bq.1] at bu
 have av:im (s.drop i)=some (91::(s.drop<|i+1).take ((s.drop<|i+1).idxOf 93 +1),(s.drop<|i+1).drop ((s.drop<|i+1).idxOf 93 +1)):=by rw [bk,bR]; exact Bb rfl aX.2 bq.1 bq.2
 have bl:=aW.step (j:=i+1 +(s.drop<|i+1).idxOf 93 +1) av<|by rw [ss]; rfl
 have dG:(s.drop<|i+1).idxOf 93 < s.length - (i+1):=by have :=aX.2; omega
 refine aM<|tn<|a2 _ _<|aj fun _ a3=>p (fa my aa)<|p (ld nG aa<|(a6 bv).trans aa)<|p (cT kL aa (aa) fun j I=>by rw [gQ]; exact (bu).aO j)<|e<|kq y7 aa aa aa fun ca bX dB aN co=> ?_
 have cp:bL bX.heap ca (eG<|cB (91::(s.drop<|i+1).take ((s.drop<|i+1).idxOf 93 +1))):=co
 have bM:Wk w bX:=Md.trans bK aN.md
 have aY:=aU c0 aN.md
 have bx:=aN.md.aJ bv
 have bG:=aN.md.aJ bD
 refine e<|ap y7 (aY) aa (by have :=bM.size; omega) aa (aI.dS cp) (aa) (GL _) ab ab fun dj dT bT bf dL dE=> ?_
 have bU:=Ks bT
 have bz:=bf.aJ bx fun h=>dw aY bx az h
 have cC:=bf.aJ bG fun h=>dw aY bG az h
 have cL:=Wk.own bM aY bf<|cj _
 refine p (fa my aa)<|e<|cV G5 aa aa (eH bT) bz (by simp) fun dn bc cf=> ?_
 have cF:Wk w dn:=Md.trans' cL bc fun k hk h=>by have :=ae.md.size; omega
 exact aE<|a3 _ _<|ext<|m4 az<|te _<|be<|tn<|⟨_,ab,i+1 +(s.drop<|i+1).idxOf 93 +1,q++ [91::(s.drop<|i+1).take ((s.drop<|i+1).idxOf 93 +1)],dj,(by rw [bI,eW]; omega),bl,cf,(bc.aJ cC fun h=>by omega),(db bU bc fun k hk h=>dw bU bz az<|h ▸ hk),cF,aa,aa,aa,(by first | rfl | exact iv<|if_neg ax),aa⟩
 refine aj fun _ a2=>p (bH aa aa)<|aw<|a2 _ _<|cd aa (fun bi=> ?_) fun bi=> ?_
 refine rg aa<|p (cT kL aa (aa) fun j I=>by rw [gQ]; exact (aF).aO j)<|e<|cl AQ (C5 (fun _=>false) _) aa fun dP dU cR=> ?_
 obtain ⟨rfl,ac⟩:=cR
 refine e<|cW pF aa (vs:=eG fun x=> !(fun _:UInt8=>false) x) aa aa aa (ac.B aF) az fun dp aK ch=> ?_
 have dJ:=ac.size
 have cG:Wk w dp:=Md.trans' (Md.trans bb ac) aK fun k hk h=>by have :=Z.size; omega
 have cx:=aK.aJ (ac.aJ a8) fun h=>by omega
 have cz:=aK.aJ (ac.aJ a9) fun h=>by omega
 have c1:=db (aU bp ac) aK fun k hk h=>by have :=dI V hk; omega
 exact nl<|bn<|tn<|⟨(vC aS),(by rw [CA bi,← SB]; exact ch),cx,cz,c1,cG,aa,aa,aa,aa,aa⟩
 refine rg aa<|ak (str s)<|ak (au i)<|p (eK u9 aa aa ab)<|e<|cl Ge (KF ao (s.getD i 0) _ _ aF) aa fun dN dr cP=> ?_
 obtain ⟨rfl,ck,aL⟩:=cP
 have cI:Wk w dr:=Md.trans' bb aL fun k hk h=>by have :=Z.size; omega
 have cy:=aL.aJ a8 fun h=>by omega
 have cA:=aL.aJ a9 fun h=>by omega
 have c2:=db bp aL fun k hk h=>by have :=dI V hk; omega
 exact nl<|bn<|tn<|⟨(vC aS),(by rw [← Wu (CX bi)]; exact ck),cy,cA,c2,cI,aa,aa,aa,aa,aa⟩
 rintro ai ah ⟨cZ,cv,bC,cE,c4,cN,c9,dc,dd,de,df⟩
 refine fx 0 c9<|fx 2 dc<|fx 4 dd<|fx 5 de<|fx 6 df<|aj fun _ M=>p (fa my aa)<|p (ld nG aa<|(a6 bC).trans aa)<|p (cT kL aa (aa) fun j I=>by rw [gQ]; exact (cv).aO j)<|e<|kq y7 aa aa aa fun cc bY dC aP cq=> ?_
 have cr:bL bY.heap cc (eG<|cB [s.getD i 0]):=cq
 have bN:Wk w bY:=Md.trans cN aP.md
 have aZ:=aU c4 aP.md
 have bA:=aP.md.aJ bC
 have bJ:=aP.md.aJ cE
 refine e<|ap y7 (aZ) aa (by have :=bN.size; omega) aa (aI.dS cr) (aa) (GL _) ab ab fun dk dV bV bg dM dF=> ?_
 have bW:=Ks bV
 have bB:=bg.aJ bA fun h=>dw aZ bA az h
 have cD:=bg.aJ bJ fun h=>dw aZ bJ az h
 have cM:=Wk.own bN aZ bg<|cj _
 have av:im (s.drop i)=some ([s.getD i 0],s.drop (i+1)):=by rw [bk]; exact GF cZ
 have bl:=aW.step (j:=i+1) av rfl
 refine p (fa my aa)<|e<|cV G5 aa aa (eH bV) bB (by simp) fun dq bd ci=> ?_
 have cH:Wk w dq:=Md.trans' cM bd fun k hk h=>by have :=ae.md.size; omega
 exact aE<|M _ _<|rg aa<|ak (au i)<|p (bE ((i+1:Nat):Int) aa aa<|bj ab ab)<|p aB<|nl<|bn<|tn<|⟨_,ab,i+1,q++ [[s.getD i 0]],dk,(by rw [bI,eW]; omega),bl,ci,(bd.aJ cD fun h=>by omega),(db bW bd fun k hk h=>dw bW bB az<|h ▸ hk),cH,aa,aa,aa,(by first | rfl | exact iv<|if_neg ax),aa⟩
 refine ext<|te _<|te _<|be<|tn<|b7 _ _<|sq fun _ a0=>sq fun _ a1=> ?_
 obtain ⟨a5,a7,rfl⟩:=cw V
 have aV:=aW.done ab
 refine rg aa<|p (fa my aa)<|p (ld nG aa<|(a6 aG).trans aa)<|p (bF qV aa aa)<|p (gt aa aa)<|aE<|a1 _ _<|cd aa (fun cX=> ?_) fun cX=> ?_
 refine aj fun _ M=>p (cO (ps:= []) (L:= [.slice none 0 0]) vT aa<|aa)<|e<|gi qv aa (vs:= [.slice none 0 0]) aa aa aa ar az fun G A C=> ?_
 have E:Wk w G:=Md.trans' Z A fun k hk h=>by omega
 refine aw<|M _ _<|rt<|tr<|eo aa (dK (cs:= [.slice none 0 0]) aa mX aa fun j I=>by cases j with | zero=>exact (a6 C).trans aa | succ j=>omega) ea ?_
 have J:da s=([],42):=by unfold da; rw [if_neg (fun h=>h.elim U fun h=>by omega),if_neg ag,aV]; exact if_pos ab
 exact ⟨⟨.slice none 0 0,by rw [J]; rfl,by rw [J]; exact du _ _ _ _⟩,E⟩
 refine aM<|tn<|a0 _ _<|aj fun _ M=>p (cT mX aa (aa) (show ∀ j,j < 1→Hb.aO Y.heap an (0 +j)= [bO a5 q.length a7][j]? from fun j I=>by cases j with | zero=>exact (a6 aG).trans aa | succ j=>omega))<|e<|gi qv aa (vs:= [.slice a5 q.length a7]) aa aa aa ar az fun G A C=> ?_
 have E:Wk w G:=Md.trans' Z A fun k hk h=>by omega
 have c3:=db V A fun k hk h=>dw V ar az<|h ▸ hk
 refine aw<|M _ _<|rt<|eo aa (dK (cs:= [.slice a5 q.length a7]) aa mX aa fun j I=>by cases j with | zero=>exact (a6 C).trans aa | succ j=>omega) ea ?_
 have J:da s=(q,0):=by unfold da; rw [if_neg (fun h=>h.elim U fun h=>by omega),if_neg ag,aV]; exact if_neg ab
 exact ⟨⟨_,by rw [J]; rfl,by rw [J]; exact c3⟩,E⟩
theorem WZ (ps:List (List UInt8)) (a:Option Addr) (c:Nat) (w:World) (U:aI w.heap a (k6 ps)) (hn:ps.length≤4096):
 bh ay 245 (ba [.agg [.slice a ps.length c].toArray]) w (fun v w'=>v=str (l6 ps)∧Wk w w'):=by
 refine enter func245 aa ntmps245 aa<|aj fun _ Y=>e<|iV aa fun aK V aN C O=>aw<|Y _ _<|sq fun _ ac=>sq fun _ ae=>rg aa<|p (fa my aa)<|p (ld nG aa<|O.aO 0)<|p (bF qV aa aa)<|p (bH aa aa)<|aE<|ae _ _<|cd aa (fun I=> ?_) fun I=> ?_
 exact aj fun _ E=>aw<|E _ _<|rt<|tr<|f1 aa aa<|⟨by unfold l6; rw [if_pos (fO ab)]; rfl,C.md⟩
 refine aM<|tn<|ac _ _<|aj fun _ E=>aw<|E _ _<|sq fun _ ag=>aj fun _ ah=>p (fa my aa)<|p (ld nG aa<|O.aO 0)<|p (bF qV aa aa)<|p mv<|aE<|ah _ _<|aJ<|lp (fun M A J=> ∃ (i:Nat),(i≤ps.length)∧(Wk V J)∧(((ps.take i).flatMap fun t=>gM<|cB t).length≤i*300)∧(A 3=str ((ps.take i).flatMap fun t=>gM<|cB t))∧(A 11= .slice a ps.length c)∧(A 12=au (ps.length))∧(A 13=au i)∧(ps.length - i=M)) _ ⟨0,ab,(Md.refl _ _),(by simp),(by first | rfl | (rw [fD ps i [] ab,ny,o0]; rfl)),aa,aa,aa,aa⟩ ?_
 rintro M A J ⟨i,hi,q,hlen,aG,aC,aD,aF,rfl⟩
 refine fx 3 aG<|fx 11 aC<|fx 12 aD<|fx 13 aF<|aj fun _ ai=>p (lt aa aa)<|aE<|ai _ _<|sq fun _ am=>cd aa (fun aA=> ?_) fun aA=> ?_
 refine aM<|tn<|am _ _<|sq fun _ G=>aJ<|aj fun _ Z=>p (a7 HD aa aa ab<|aI.ok (U.wk<|Md.trans C.md q)<|GK ab)<|p (cT kL aa (aa) (show ∀ j,j < 4→Hb.aO J.heap (bk a) (fo a+i*4 +j)=(eG<|cB<|ps.getD i [])[j]? from GJ (U.wk<|Md.trans C.md q) ab))<|e<|al sd fun aL aU aP av an=>e<|cW pF aa (vs:=eG<|cB<|ps.getD i []) aa aa aa an az fun aH ar ao=> ?_
 have aq:Wk V aH:=Md.trans' (Md.trans q av.md) ar fun k hk h=>by have :=q.size; omega
 refine aE<|Z _ _<|rg aa<|ak (str<|(ps.take i).flatMap fun t=>gM<|cB t)<|p (cT kL aa (aa) fun j aQ=>by rw [gQ]; exact (ao).aO j)<|e<|cl P2 (X3 (cB<|ps.getD i []) _) aa fun aS aT ax=> ?_
 obtain ⟨rfl,ap⟩:=ax
 have aR:=Dw<|cB<|ps.getD i []
 exact p (cc aa aa ab)<|p aB<|nl<|bn<|tn<|G _ _<|rg aa<|p (ad aa aa<|bT ab)<|p mv<|aE<|⟨_,ab,i+1,ab,(Md.trans aq ap),(by rw [fD ps i [] ab,ny,o0,bI]; omega),(by first | rfl | (rw [fD ps i [] ab,ny,o0]; rfl)),aa,aa,aa,aa⟩
 exact ext<|te _<|te _<|be<|tn<|ag _ _<|aj fun _ G=>ak (str<|(ps.take i).flatMap fun t=>gM<|cB t)<|p (cH (str<|(ps.take i).flatMap fun t=>gM<|cB t) aa)<|aE<|G _ _<|rt<|f1 aa aa<|⟨by unfold l6; rw [if_neg (fun h=>by rw [h] at I; exact I aa),show ps.take i=ps from eI ab]; rfl,Md.trans C.md q⟩
end Go.Hb.po
end
section
set_option maxRecDepth 20000
set_option maxHeartbeats 1000000
namespace Go.Hb.gn
open Go.Hb.dT
open Go.Proofs
open Go.Hb.fq Go.Hb.fQ Go.Hb.mi Go.Hb.oy Go.Hb.kn Go.Hb.qf Go.Hb.iM Go.Hb.ot Go.Hb.po Go.Hb.j5 Go.Hb.ji
theorem ya {kind:Nat} {al:List (List Nat)} {s:Tx} (h:al= []):fN kind al s=kO kind s:=if_pos h
theorem H3 {kind:Nat} {al:List (List Nat)} {s:Tx} {e:Nat} (h:al≠[]) (h1:eS s al.length= .error e):fN kind al s= .error 13:=by unfold fN; rw [if_neg h,h1]
theorem H7 {kind:Nat} {al:List (List Nat)} {s:Tx} (h:al≠[]) (h1:eS s al.length= .ok 0):fN kind al s= .error 13:=by unfold fN; rw [if_neg h,h1]; rfl
theorem H6 {kind n:Nat} {al:List (List Nat)} {s:Tx} (h:al≠[]) (h1:eS s al.length= .ok n) (a:n≠0):fN kind al s= .ok (al.getD (n - 1) []):=by unfold fN; rw [if_neg h,h1]; exact if_neg a
theorem yw {kind:Nat} {s:Tx} (h:(dX kind s).2=0):kO kind s= .ok (dX kind s).1:=if_neg fun h2=>h2 h
theorem yv {kind:Nat} {s:Tx} (h:(dX kind s).2≠0):kO kind s= .error (dX kind s).2:=if_pos h
theorem Ds {kind ln:Nat} {al:List (List Nat)} {c:c7} {r:List Tx} (h:r.length≠4) (h1:r.length≠5):fA kind al c ln r= .error 111:=by unfold fA; rw [if_pos ⟨h,h1⟩]
theorem mJ {kind ln:Nat} {al:List (List Nat)} {c:c7} {r:List Tx} (h:r.length=4∨r.length=5):fA kind al c ln r=(match et true (r.getD 2 []) with
 | .error e=> .error e
 | .ok st=>match jJ (bu<|r.getD 3 []) with
   | .error e=> .error e
   | .ok ad=>match kT kind al c.kind (bu<|r.getD 3 []) with
     | .error e=> .error e
     | .ok nx=>match kM r with
       | .error e=> .error e
       | .ok cd=> .ok ⟨c.kind,c.flag,c.ei,st,ad,cd,nx,ln⟩):=by unfold fA; rw [if_neg ab]; rfl
theorem EY {r:lD} (h:r.2.2.2≠0):jJ r= .error r.2.2.2:=if_pos h
theorem E1 {r:lD} (h:r.2.2.2=0) (h1:r.1= [48]):jJ r= .ok []:=by unfold jJ; rw [if_neg (fun h2=>h2 h),if_pos h1]
theorem EZ {r:lD} (h:r.2.2.2=0) (h1:r.1≠[48]) (h2:gB r.1≠0):jJ r= .error (gB r.1):=by unfold jJ; rw [if_neg (fun h2=>h2 h),if_neg h1,if_pos h2]
theorem E0 {r:lD} (h:r.2.2.2=0) (h1:r.1≠[48]) (h2:gB r.1=0):jJ r= .ok r.1:=by unfold jJ; rw [if_neg (fun h2=>h2 h),if_neg h1,if_neg (fun h3=>h3 h2)]
theorem Kb {kind a:Nat} {al:List (List Nat)} {r:lD} (h:r.2.2.1=false):kT kind al a r= .ok []:=by unfold kT; rw [if_neg (by rw [h]; exact eb)]
theorem Ka {kind a:Nat} {al:List (List Nat)} {r:lD} (h:r.2.2.1=true) (h1:a=1):kT kind al a r= .error 118:=by unfold kT; rw [if_pos h,if_pos h1]
theorem yN {kind a:Nat} {al:List (List Nat)} {r:lD} (h:r.2.2.1=true) (h1:a≠1):kT kind al a r=fN kind al r.2.1:=by unfold kT; rw [if_pos h,if_neg h1]
theorem GR {r:List Tx} (h:r.length≠5):kM r= .ok [46]:=if_neg h
theorem GO {r:List Tx} (h:r.length=5) (h1:gq (r.getD 4 [])=false):kM r= .error 21:=by unfold kM; rw [if_pos h,if_pos h1]
theorem GP {r:List Tx} (h:r.length=5) (h1:gq (r.getD 4 [])=true) (h2:(da<|r.getD 4 []).2≠0):kM r= .error (da<|r.getD 4 []).2:=by unfold kM; rw [if_pos h,if_neg (by rw [h1]; exact eb),if_pos h2]
theorem GQ {r:List Tx} (h:r.length=5) (h1:gq (r.getD 4 [])=true) (h2:(da<|r.getD 4 []).2=0):kM r= .ok (l6 (da<|r.getD 4 []).1):=by unfold kM; rw [if_pos h,if_neg (by rw [h1]; exact eb),if_neg (fun h3=>h3 h2)]
theorem GW (s:Tx):(da s).1.length≤16:=by
 unfold da
 split
 · simp
 · split
   · simp
   · split
     · simp
     · split
       · simp
       · rename_i h; exact Nat.le_of_not_lt h
theorem HL (B fb mc:Nat) (F:aR) (V:eX) (s:Tx) (w:World) (A:dP w B fb mc F V) (hk:F.kind=1∨F.kind=2∨F.kind=3) (aC:∀ l∈F.aliases,l.length≤64∧l.Pairwise (· < ·)) (aJ:F.aliases.length≤70000) (hs:s.length≤1048576):
 bh ay 141 (ba [aQ fb,str s]) w (fun v w'=>((∃ a l,v= .tuple #[a,.int .i64 0]∧fN F.kind F.aliases s= .ok l∧bo w' w.heap.size 51 1 a l.length (l.map bc))∨(∃ a e,v= .tuple #[a,au e]∧e≠0∧fN F.kind F.aliases s= .error e))∧Wk w w'):=by
 obtain ⟨ap,aq,ae⟩:=cw A.eO
 have M:=A.eO
 rw [ae] at M
 have I:Hb.aO w.heap fb 10=some (.slice ap F.aliases.length aq):=by rw [← ae]; exact (a6 A.cells).trans rfl
 refine enter func141 aa ntmps141 aa<|aj fun _ ag=>p aB<|aw<|ag _ _<|sq fun _ ah=>sq fun _ ai=>rg aa<|ak (aQ fb)<|p (lY vY aa aa)<|aE<|ai _ _<|cf (aa)<|aM<|tn<|ah _ _<|sq fun _ am=>aj fun _ an=>ak (aQ fb)<|p (nc aa)<|p (fa gC aa)<|p (fa pM aa)<|p (ld rA aa<|I)<|p (bF zt aa aa)<|p (bH aa aa)<|aE<|an _ _<|cd aa (fun J=> ?_) fun J=> ?_
 have j:F.aliases= []:=fO ab
 refine aj fun _ E=>ak (aQ fb)<|p (nc aa)<|p (fa gC aa)<|p (fa tu aa)<|p (ld bA aa<|(a6 A.cells).trans aa)<|ak (str s)<|e<|cl Ga (IA F.kind s _ hk hs) aa fun aL aS av=> ?_
 obtain ⟨⟨Y,rfl,aH⟩,hE23⟩:=av
 refine p (xt aa aa)<|p (xt aa aa)<|p aB<|aw<|E _ _<|rt<|tr<|f2 aa aa aa ?_
 refine ⟨?_,hE23⟩
 by_cases h:(dX F.kind s).2=0
 exact .inl ⟨Y,_,by rw [h]; rfl,by rw [ya j]; exact yw h,aH⟩
 exact .inr ⟨Y,_,aa,h,by rw [ya j]; exact yv h⟩
 have j:F.aliases≠[]:=fun h=>by rw [h] at J; exact J rfl
 refine aM<|tn<|am _ _<|aj fun _ E=>ak (str s)<|ak (aQ fb)<|p (nc aa)<|p (fa gC aa)<|p (fa pM aa)<|p (ld rA aa<|I)<|p (bF zt aa aa)<|e<|cl xB (yQ s (F.aliases.length:Nat) _ hs ab) aa fun aN aT ax=> ?_
 obtain ⟨rfl,i⟩:=ax
 refine p mv<|p (xt aa aa)<|p (xt aa aa)<|p aB<|aw<|E _ _<|sq fun _ ao=>aj fun _ U=>p mv<|p (cX aa aa)<|p mv<|gs (t:=39) aa (fun aG=> ?_) fun aG=> ?_
 exact sk aa aa aa aa<|sk aa aa aa aa<|p (bw aa)<|aE<|U _ _<|ct aa<|aj fun _ q=>p aB<|aw<|q _ _<|rt<|tr<|f2 aa aa aa<|⟨.inr ⟨.slice none 0 0,13,aa,az,H3 j (pQ ab).1⟩,i⟩
 refine pg aa aa aa mv<|pg aa aa aa (bH aa aa)<|p (bm aa)<|aE<|U _ _<|cd aa (fun aF=> ?_) fun aF=> ?_
 refine aj fun _ q=>p aB<|aw<|q _ _<|rt<|tr<|f2 aa aa aa ?_
 have C:=nW (by omega :(dY s (F.aliases.length:Nat)).2=0)
 rw [show (dY s (F.aliases.length:Nat)).1=0 from by omega] at C
 exact ⟨.inr ⟨.slice none 0 0,13,aa,az,H7 j C⟩,i⟩
 refine aM<|tn<|ao _ _<|sq fun _ q=> ?_
 have C:=nW (by omega :(dY s (F.aliases.length:Nat)).2=0)
 have aK:=qM s (F.aliases.length:Nat) ab
 have Z:(dY s (F.aliases.length:Nat)).1 - 1 < F.aliases.length:=ab
 obtain ⟨v51,O,G⟩:=ek.get (A.al.wk i) Z
 obtain ⟨a51,rD,rfl⟩:=G.slice
 have aD:=aC _<|dQ (d:= []) Z
 refine rg aa<|ak (aQ fb)<|p (nc aa)<|p (fa gC aa)<|p (fa pM aa)<|p (ld rA aa<|Wk.aO i I)<|p mv<|p (dJ (((dY s (F.aliases.length:Nat)).1 - 1:Nat):Int) aa aa<|bj ab ab)<|p (a7 BA aa aa ab<|aI.ok ((aX<|aU M i).2) fun h=>by rw [h] at O; cases O)<|p (ld mZ aa<|aI.gG (aX<|aU M i).2 O)<|e<|cl Gd (yS (F.aliases.getD ((dY s (F.aliases.length:Nat)).1 - 1) []) _ _ _ G.cI.2 (fun h=>Tg.tB G (by simp) h) ab) aa fun aP aV aA=> ?_
 obtain ⟨ac,ar⟩:=aA
 rw [Wt aD.2] at ac
 exact p aB<|aw<|q _ _<|rt<|f2 aa aa aa<|⟨.inl ⟨_,_,aa,H6 j C ab,ep ac i.size⟩,i.trans ar⟩
theorem y1 (B:Nat) (H:dp) (F:aR) (V:eX) (R:gR) (rows:List Rw) (ln:Nat) (seen:List Tx) (c:c7) (r:List Tx) (b4:Nat) (ar:Option Addr) (cr:Nat) (w:World) (E:dP w B H.fb H.mc F V) (C:dx w B H F R rows ln seen) (aY:kI F rows seen) (d3:c.kind=1∨c.kind=2) (aq:Tg w b4 9 r.length (.slice ar r.length cr) (r.map str)) (bi:r.length≤70000∧∀ x∈r,x.length≤70000):
 fw ay 201 (ba [.pointer (some ⟨H.rb,0,none⟩),.agg (nK c).toArray,.slice ar r.length cr]) w (fun v w'=> ∃ q,fA F.kind F.aliases c ln r= .ok q∧q.line=ln∧(∃ vn,v= .agg (fk (q,vn)).toArray∧Tg w' B 51 q.next.length vn (q.next.map bc))∧Wk w w') (fun aj w'=> ∃ e,fA F.kind F.aliases c ln r= .error e∧aj=jk 47 ln (e:Nat)∧Wk w w'):=by
 have dY:=aq.cI
 have d8:=(dm.1 C.cells).1
 have d4:=C.lo.1
 refine j8 func201 aa ntmps201 aa<|sq fun dM cA=>rg aa<|e<|iV aa fun aW eB d0 bx ck=>e<|al se fun Z aU d1 aK cm=> ?_
 have aE:Wk w aU:=bx.md.trans aK.md
 have bT:=Wk.aO aE C.dj
 have ef:=bx.size
 have eh:=aK.size
 refine nl<|tn<|cA _ _ ?_
 refine ec (fun aA b1=>(r.length=4∨r.length=5)∧(b1=aU)∧(aA 0= .pointer (some ⟨H.rb,0,none⟩))∧(aA 2= .slice ar r.length cr)∧(aA 4= .pointer (some ⟨aW,0,none⟩))∧(aA 6= .pointer (some ⟨Z,0,none⟩))) ?_ ?_
 refine rg aa<|p (aT (.pointer<|some ⟨H.rb,0,none⟩) aa)<|p (aT (.slice ar r.length cr) aa)<|p (bF eQ aa aa)<|p (bH aa aa)<|p mv<|gs (t:=20) aa (fun c5=> ?_) fun c5=> ?_
 refine sk aa aa aa aa<|sk aa aa aa aa<|sk aa aa aa aa<|p (bw aa)<|eP aa (dN il (iz H.rb ln _ 111 aU bT az) aa fun dA dD bd=> ?_) fun c w' A O E=>by first | exact absurd A.2.1 az | exact ⟨111,Ds ab (by have :=of_decide_eq_false A.2.1; omega),A.1,by rw [A.2.2]; exact aE⟩
 obtain ⟨rfl,bU,rfl⟩:=bd
 exact nl<|tn<|⟨(.inl ab),aa,aa,aa,aa,aa⟩
 refine pg aa aa aa (aT (.slice ar r.length cr) aa)<|pg aa aa aa (bF eQ aa aa)<|pg aa aa aa (bH aa aa)<|p (bm aa)<|eP aa (dN il (iz H.rb ln _ 111 aU bT az) aa fun dA dD bd=> ?_) fun c w' A O E=>by first | exact absurd A.2.1 az | exact ⟨111,Ds ab (by have :=of_decide_eq_false A.2.1; omega),A.1,by rw [A.2.2]; exact aE⟩
 obtain ⟨rfl,bU,rfl⟩:=bd
 exact nl<|tn<|⟨(.inr<|by have :=of_decide_eq_true bU; omega),aa,aa,aa,aa,aa⟩
 rintro aA b1 ⟨hlen,cv,c8,c9,dc,dd⟩
 refine fx 0 c8<|fx 2 c9<|fx 4 dc<|fx 6 dd ?_
 subst cv
 have aQ:=aK.md.B ck
 refine sq fun dO cB=>rg aa<|p (fa uZ aa)<|p (ld bA aa<|(aQ.aO 1).trans aa)<|p (fa BW aa)<|p (ld cU aa<|(aQ.aO 0).trans aa)<|p (fa If aa)<|p (ld mY aa<|(aQ.aO 2).trans aa)<|p (cO (ps:= [(0,.int .i64 (c.kind:Nat)),(1,bc c.flag),(2,.bool c.ei),(5,str [46])]) (L:= [.int .i64 (c.kind:Nat),bc c.flag,.bool c.ei,.string ⟨⟨[]⟩⟩,.string ⟨⟨[]⟩⟩,str [46],.slice none 0 0]) DG aa<|aa)<|e<|al se fun G eD d2 aL cn=> ?_
 have ek:=aL.size
 refine e<|cW pG aa aa aa aa (cn) (by simp) fun b2 aG ch=> ?_
 have aF:Wk w b2:=(aE.trans aL.md).trans' aG fun k hk h=>by omega
 have cX:=aG.B (aL.md.B aQ) fun h=>by omega
 have cZ:=aG.B (aL.md.B cm) fun h=>by omega
 have el:=aG.size
 have bC:=(aq.wk aF).cI
 have d5:(r.getD 2 []).length≤70000:=bi.2 _<|dQ ab
 have d6:(r.getD 3 []).length≤70000:=bi.2 _<|dQ ab
 refine nl<|tn<|cB _ _<|sq fun dR cC=>rg aa<|p (aT (.pointer<|some ⟨H.rb,0,none⟩) aa)<|p (aT (.slice ar r.length cr) aa)<|p (a7 cE aa aa ab<|aI.ok (bC.2)<|bP ab)<|p (ld bR aa<|bX.get (i:=2) bC.2 ab)<|eP aa (dN F9 (Kv H.rb ln (r.getD 2 []) b2 (Wk.aO aF C.dj) ab) aa fun v37 eA cH=> ?_) fun c w' A O E=>by obtain ⟨e,he,h,h2⟩:=A; exact ⟨e,by rw [mJ hlen,he],h,aF.trans h2⟩
 obtain ⟨stx,bJ,rfl,am⟩:=cH
 refine p (fa tw aa)<|e<|st kN aa aa (aa) (am.B ch) (by simp) fun b3 aH ci=> ?_
 have bq:bL b3.heap G [.int .i64 (c.kind:Nat),bc c.flag,.bool c.ei,str stx,str [],str [46],.slice none 0 0]:=ci
 have br:Wk w b3:=(aF.trans am).trans' aH fun k hk h=>by omega
 have ee:=am.size
 have bK:=aH.B (am.B cX) fun h=>by omega
 have bM:=aH.B (am.B cZ) fun h=>by omega
 have bz:=(aq.wk br).cI
 have eb:=aH.size
 refine nl<|tn<|cC _ _<|sq fun dS cD=>rg aa<|p (aT (.slice ar r.length cr) aa)<|p (a7 cE aa aa ab<|aI.ok (bz.2)<|bP ab)<|p (ld bR aa<|bX.get (i:=3) bz.2 ab)<|e<|cl AH (D1 (r.getD 3 []) _ ab) aa fun er dE cJ=> ?_
 obtain ⟨rfl,I⟩:=cJ
 have ae:=br.trans I
 have d9:=r9<|r.getD 3 []
 refine p mv<|p (xt aa aa)<|p (xt aa aa)<|p (xt aa aa)<|p (xt aa aa)<|p aB<|p aB<|p aB<|p aB<|nl<|tn<|cD _ _<|sq fun dT cF=>rg aa<|p (aT (.pointer<|some ⟨H.rb,0,none⟩) aa)<|p mv<|eP aa (dN oD (oM H.rb ln ((bu<|r.getD 3 []).2.2.2:Nat) dE<|Wk.aO ae C.dj) aa fun es dF cK=> ?_) fun c w' A O E=>⟨_,by rw [mJ hlen,bJ,EY (show (bu<|r.getD 3 []).2.2.2≠0 by have :=A.2.1; omega)],A.1,by rw [A.2.2]; exact ae⟩
 obtain ⟨rfl,aS,rfl⟩:=cK
 have aS:(bu<|r.getD 3 []).2.2.2=0:=ab
 refine nl<|tn<|cF _ _ ?_
 refine ec (fun U ai=> ∃ (Y:Tx),(jJ (bu<|r.getD 3 [])= .ok Y)∧(bL ai.heap G [.int .i64 (c.kind:Nat),bc c.flag,.bool c.ei,str stx,str Y,str [46],.slice none 0 0])∧(bL ai.heap aW<|nK c)∧(∃ L,L.length=7∧bL ai.heap Z L)∧(Wk w ai)∧(U 0= .pointer (some ⟨H.rb,0,none⟩))∧(U 2= .slice ar r.length cr)∧(U 4= .pointer (some ⟨aW,0,none⟩))∧(U 6= .pointer (some ⟨Z,0,none⟩))∧(U 7= .pointer (some ⟨G,0,none⟩))∧(U 9=str (bu<|r.getD 3 []).2.1)∧(U 10= .bool (bu<|r.getD 3 []).2.2.1)) ?_ ?_
 refine sq fun aV ac=>rg aa<|p mv<|p (oN aa aa)<|nl<|tn<|ac _ _<|cd aa (fun aP=> ?_) fun aP=> ?_
 refine rg aa<|p (aT (.pointer<|some ⟨H.rb,0,none⟩) aa)<|p mv<|eP aa (dN Gg (KJ H.rb ln (bu<|r.getD 3 []).1 dF (Wk.aO ae C.dj) ab) aa fun et eC cL=> ?_) fun c w' A O E=>⟨_,by rw [mJ hlen,bJ,EZ aS aP A.2.1],A.1,ae.trans A.2.2⟩
 obtain ⟨rfl,dw,an⟩:=cL
 refine p (fa Cd aa)<|e<|st kN aa aa (aa) (Wk.B (I.trans an) bq) (by simp) fun dL bb co=> ?_
 have cx:Wk w dL:=(ae.trans an).trans' bb fun k hk h=>by omega
 have eg:=(I.trans an).size
 exact nl<|tn<|⟨(bu<|r.getD 3 []).1,(E0 aS aP dw),co,(bb.B (Wk.B (I.trans an) bK) fun h=>by omega),(⟨_,aa,bb.B (Wk.B (I.trans an) bM) fun h=>by omega⟩),cx,aa,aa,aa,aa,aa,aa,aa⟩
 exact aM<|tn<|⟨[],(E1 aS<|jn.1 aP),(I.B bq),(I.B bK),(⟨_,aa,I.B bM⟩),ae,aa,aa,aa,aa,aa,aa,aa⟩
 rintro U ai ⟨Y,au,aD,cY,bN,J,de,dg,dh,di,dk,dl,df⟩
 refine fx 0 de<|fx 2 dg<|fx 4 dh<|fx 6 di<|fx 7 dk<|fx 9 dl<|fx 10 df ?_
 skip
 refine ec (fun aC M=> ∃ (nx:List Nat) (vn:Value),(kT F.kind F.aliases c.kind (bu<|r.getD 3 [])= .ok nx)∧(bL M.heap G [.int .i64 (c.kind:Nat),bc c.flag,.bool c.ei,str stx,str Y,str [46],vn])∧(Tg M (G+1) 51 nx.length vn<|nx.map bc)∧(∃ L,L.length=7∧bL M.heap Z L)∧(Wk w M)∧(aC 0= .pointer (some ⟨H.rb,0,none⟩))∧(aC 2= .slice ar r.length cr)∧(aC 6= .pointer (some ⟨Z,0,none⟩))∧(aC 7= .pointer (some ⟨G,0,none⟩))) ?_ ?_
 refine sq fun aV ac=>rg aa<|p (aT (.bool (bu<|r.getD 3 []).2.2.1) aa)<|nl<|tn<|ac _ _<|cb aa (fun av=> ?_) fun av=> ?_
 skip
 refine sq fun b5 a2=>rg aa<|p (aT (.pointer<|some ⟨H.rb,0,none⟩) aa)<|p (fa uZ aa)<|p (ld bA aa<|(cY.aO 1).trans aa)<|p (bH aa aa)<|eP aa (dN il (iz H.rb ln _ 118 ai (Wk.aO J C.dj) az) aa fun eu bZ cM=> ?_) fun aj w' A O E=>by have dX:=of_decide_eq_false A.2.1; exact ⟨118,by rw [mJ hlen,bJ]; simp only; rw [au]; simp only; rw [Ka av ab],A.1,by rw [A.2.2]; exact J⟩
 obtain ⟨rfl,bV,rfl⟩:=cM
 have bV:=of_decide_eq_true bV
 refine nl<|tn<|a2 _ _<|sq fun b6 a3=>rg aa<|p (aT (.pointer<|some ⟨H.rb,0,none⟩) aa)<|p (nc aa)<|p (fa gY aa)<|p (ld fZ aa<|Wk.aO J<|(a6 C.cells).trans aa)<|p (aT (str (bu<|r.getD 3 []).2.1) aa)<|e<|cl FT (HL B H.fb H.mc F V (bu<|r.getD 3 []).2.1 _ (E.wk J) aY.kd aY.al (by have :=aY.len; omega)<|by have :=r9 (r.getD 3 []); omega) aa fun dB b0 cN=> ?_
 obtain ⟨c3,ag⟩:=cN
 obtain ⟨bn,bp,rfl,bQ⟩:∃ a,∃ e:Nat,dB= .tuple #[a,.int .i64 (e:Nat)]∧((e=0∧∃ l,fN F.kind F.aliases (bu<|r.getD 3 []).2.1= .ok l∧bo b0 bZ.heap.size 51 1 a l.length (l.map bc))∨(e≠0∧fN F.kind F.aliases (bu<|r.getD 3 []).2.1= .error e)):=by
  rcases c3 with ⟨a,l,h1,h2,h3⟩ | ⟨a,e,h1,h2,h3⟩
  exact ⟨a,0,h1,.inl ⟨aa,l,h2,h3⟩⟩
  exact ⟨a,e,h1,.inr ⟨h2,h3⟩⟩
 refine p mv<|p (xt aa aa)<|p (xt aa aa)<|p aB<|p aB<|nl<|tn<|a3 _ _<|sq fun b7 a4=>rg aa<|p (aT (.pointer<|some ⟨H.rb,0,none⟩) aa)<|p mv ?_
 refine eP aa (dN oD (oM H.rb ln (bp:Nat) b0<|Wk.aO (J.trans ag) C.dj) aa fun ev dG cP=> ?_) (fun aj w' A O E=>by
  rcases bQ with ⟨h,_⟩ | ⟨h,h1⟩
  exact absurd ab A.2.1
  exact ⟨bp,by rw [mJ hlen,bJ]; simp only; rw [au]; simp only; rw [yN av ab,h1],A.1,by rw [A.2.2]; exact J.trans ag⟩)
 obtain ⟨rfl,ea,rfl⟩:=cP
 obtain ⟨nx,aw,bf⟩:∃ l,fN F.kind F.aliases (bu<|r.getD 3 []).2.1= .ok l∧bo dG bZ.heap.size 51 1 bn l.length (l.map bc):=by
  rcases bQ with ⟨_,h⟩ | ⟨h,_⟩
  exact h
  exact absurd ab h
 refine nl<|tn<|a4 _ _<|rg aa<|p mv<|p (fa qC aa)<|e<|st s6 aa aa (eH bf) (ag.B aD) (by simp) fun dH a8 ca=> ?_
 have cq:Wk w dH:=(J.trans ag).trans' a8 fun k hk h=>by omega
 have ej:=ag.size
 exact nl<|tn<|⟨nx,bn,(by rw [yN av ab]; exact aw),ca,((Tg.jN<|db bf a8 fun k hk h=>by have :=dI bf hk; have :=aD.lt; omega).mono aD.lt),(by obtain ⟨L,a5,aN⟩:=bN; exact ⟨L,a5,a8.B (ag.B aN) fun h=>by omega⟩),cq,aa,aa,aa,aa⟩
 exact aM<|tn<|⟨[],.slice none 0 0,(Kb<|by simpa using av),aD,(⟨none,0,aa,cj _,.inl aa⟩),bN,J,aa,aa,aa,aa⟩
 rintro aC M ⟨nx,vn,aw,aZ,bI,bO,ap,dn,dq,dr,ds⟩
 refine fx 0 dn<|fx 2 dq<|fx 6 dr<|fx 7 ds ?_
 refine ec (fun bl ax=> ∃ (ak:Tx),(kM r= .ok ak)∧(bL ax.heap G [.int .i64 (c.kind:Nat),bc c.flag,.bool c.ei,str stx,str Y,str ak,vn])∧(Tg ax (G+1) 51 nx.length vn<|nx.map bc)∧(∃ L,L.length=7∧bL ax.heap Z L)∧(Wk w ax)∧(bl 6= .pointer (some ⟨Z,0,none⟩))∧(bl 7= .pointer (some ⟨G,0,none⟩))) ?_ ?_
 refine sq fun aV ac=>rg aa<|p (aT (.slice ar r.length cr) aa)<|p (bF eQ aa aa)<|p (bH aa aa)<|nl<|tn<|ac _ _<|cd aa (fun c2=> ?_) fun c2=> ?_
 have bh:r.length=5:=ab
 have d7:(r.getD 4 []).length≤70000:=bi.2 _<|dQ ab
 have bD:=(aq.wk ap).cI
 refine sq fun b5 a2=>rg aa<|p (aT (.pointer<|some ⟨H.rb,0,none⟩) aa)<|p (aT (.slice ar r.length cr) aa)<|p (a7 cE aa aa ab<|aI.ok (bD.2)<|bP ab)<|p (ld bR aa<|bX.get (i:=4) bD.2 ab)<|eP aa (dN AM (Dc H.rb ln (r.getD 4 []) M (Wk.aO ap C.dj) ab) aa fun ew eE cQ=> ?_) fun aj w' A O E=>⟨21,by rw [mJ hlen,bJ]; simp only; rw [au]; simp only; rw [aw]; simp only; rw [GO bh A.2.1],A.1,ap.trans A.2.2⟩
 obtain ⟨rfl,bW,a1⟩:=cQ
 have bs:=ap.trans a1
 have bE:=(aq.wk bs).cI
 refine nl<|tn<|a2 _ _<|sq fun b6 a3=>rg aa<|p (aT (.slice ar r.length cr) aa)<|p (a7 cE aa aa ab<|aI.ok (bE.2)<|bP ab)<|p (ld bR aa<|bX.get (i:=4) bE.2 ab)<|e<|cl FU (GX (r.getD 4 []) _ ab) aa fun ex eF cR=> ?_
 obtain ⟨⟨dV,rfl,bg⟩,hE89⟩:=cR
 obtain ⟨dy,dz,rfl⟩:=cw bg
 have bt:=bs.trans hE89
 refine p mv<|p (xt aa aa)<|p (xt aa aa)<|e<|al zD fun dW dC dZ aJ cc=> ?_
 have ct:=bt.trans aJ.md
 refine e<|cW qv aa aa aa aa (cc) (by simp) fun bk ah ce=> ?_
 have a0:Wk w bk:=ct.trans' ah fun k hk h=>by have :=bt.size; omega
 have bj:Wk M dC:=(a1.trans hE89).trans aJ.md
 have en:=a1.size
 have eo:=hE89.size
 have ep:=aJ.size
 have eq:=ah.size
 have dv:Wk M bk:=bj.trans' ah fun k hk h=>by omega
 refine p aB<|nl<|tn<|a3 _ _<|sq fun b7 a4=>rg aa<|p (aT (.pointer<|some ⟨H.rb,0,none⟩) aa)<|p mv<|eP aa (dN oD (oM H.rb ln ((da<|r.getD 4 []).2:Nat) bk<|Wk.aO a0 C.dj) aa fun ey eG cS=> ?_) fun aj w' A O E=>⟨_,by rw [mJ hlen,bJ]; simp only; rw [au]; simp only; rw [aw]; simp only; rw [GP bh bW (by have :=A.2.1; omega)],A.1,by rw [A.2.2]; exact a0⟩
 obtain ⟨rfl,bY,rfl⟩:=cS
 have bY:(da<|r.getD 4 []).2=0:=ab
 refine nl<|tn<|a4 _ _<|rg aa<|p (cT mX aa (aa) fun j bS=>ce.bB j)<|e<|cl PT (WZ (da<|r.getD 4 []).1 dy dz _ (aI.md (aI.wk (aX bg).2 aJ.md) ah fun c6 h=>by have :=WC bg c6; omega)<|by have :=GW (r.getD 4 []); omega) aa fun ez eI cV=> ?_
 obtain ⟨rfl,ao⟩:=cV
 have cy:=a0.trans ao
 have em:=ao.size
 refine p (fa It aa)<|e<|st kN aa aa (aa) (ao.B<|ah.B (bj.B aZ) fun h=>by have :=aZ.lt; omega) (by simp) fun dJ a9 cf=> ?_
 have cu:Wk w dJ:=cy.trans' a9 fun k hk h=>by omega
 exact nl<|tn<|⟨l6 (da<|r.getD 4 []).1,(GQ bh bW bY),cf,(Tg.JL (Tg.wk bI<|dv.trans ao) a9 fun k hk=>by omega),(by obtain ⟨L,a5,aN⟩:=bO; exact ⟨L,a5,a9.B (ao.B<|ah.B (bj.B aN) fun h=>by have :=aN.lt; omega) fun h=>by omega⟩),cu,aa,aa⟩
 exact aM<|tn<|⟨[46],(GR ab),aZ,bI,bO,ap,aa,aa⟩
 rintro bl ax ⟨ak,c4,cp,bG,c0,cz,dt,du⟩
 refine fx 6 dt<|fx 7 du ?_
 obtain ⟨dU,cG,c1⟩:=c0
 obtain ⟨b8,b9,rfl⟩:=bG.slice
 exact sq fun aV ac=>rg aa<|p (cT m3 aa (aa) fun j bS=>cp.bB j)<|e<|cW pG aa aa aa aa (c1) (by rw [cG]; decide) fun eJ bv cg=>nl<|tn<|ac _ _<|rt<|jM<|uV aa (dK (cs:=fk (⟨c.kind,c.flag,c.ei,stx,Y,ak,nx,ln⟩,.slice b8 nx.length b9)) aa m3 aa fun j bS=>by rw [cg.bB j,gP ab,ed]; rfl)<|⟨⟨c.kind,c.flag,c.ei,stx,Y,ak,nx,ln⟩,by rw [mJ hlen,bJ]; simp only; rw [au]; simp only; rw [aw]; simp only; rw [c4],aa,⟨_,aa,(Tg.JL bG bv fun k hk=>by have :=aK.size; omega).mono ab⟩,cz.trans' bv fun k hk h=>by omega⟩
end Go.Hb.gn
end
section
set_option maxRecDepth 20000
set_option maxHeartbeats 1000000
namespace Go.Hb.lQ
open Go.Hb.dT
open Go.Proofs
open Go.Hb.fq Go.Hb.fQ Go.Hb.mi Go.Hb.gn Go.Hb.oy Go.Hb.kn Go.Hb.qf Go.Hb.iM Go.Hb.ot Go.Hb.po Go.Hb.j5 Go.Hb.ji
theorem dP.Ar {w q E:World} {B fb mc:Nat} {F:aR} {V:eX} {v:Value} {x:Tx×Tx} (h:dP w B fb mc F V) (hm:Md (fun k=>V.v9.ownBlock=some k) w q) (J:bo q B 128 2 v (F.dd++ [x]).length (kU<|F.dd++ [x])) (a:Md (fun k=>k=fb) q E) (M:E.heap[fb]? =some (.cells (oG {F with dd:=F.dd++ [x]} {V with v9:=v} mc).toArray 125 (0,0))):dP E B fb mc {F with dd:=F.dd++ [x]} {V with v9:=v} :=by
 have i:TF w [130] (fun k=>V.v9.ownBlock=some k):=TF.own h.o9 az
 have C:=hm.gy i h.cells az
 have A:TF q [127] (fun k=>k=fb):=TF.eq (dt C) az
 have G:∀ k,V.v9.ownBlock=some k→∀ cur z,w.heap[k]?≠some (.cells cur 51 z):=hU h.o9 az
 have I:∀ k,k=fb→∀ cur z,q.heap[k]?≠some (.cells cur 51 z):=fg C az
 obtain ⟨f,j,O⟩:=h.cm
 have U:=ez<|j.md hm<|i.no (ez j) az
 exact ⟨M,db J a (fun k hk j=>dw J C az<|j ▸ hk),bZ (bZ h.eO hm i az) a A az,(h.al.md hm G).md a I,bZ (bZ h.ej hm i az) a A az,bZ (bZ h.dB hm i az) a A az,(h.nx.md hm G).md a I,⟨f,(j.md hm<|i.no (ez j) az).md a (A.no U az),O⟩,h.lo,h.fI⟩
theorem dP.Ap {w q I:World} {B fb mc:Nat} {F:aR} {V:eX} {v:Value} {x:List Nat} {vx:Value} (h:dP w B fb mc F V) (Y:Tg w B 51 x.length vx (x.map bc)) (hm:Md (fun k=>V.v10.ownBlock=some k) w q) (J:bo q B 70 1 v (F.aliases++ [x]).length (V.sa++ [vx])) (a:Md (fun k=>k=fb) q I) (M:I.heap[fb]? =some (.cells (oG {F with aliases:=F.aliases++ [x]} {V with v10:=v,sa:=V.sa++ [vx]} mc).toArray 125 (0,0))):dP I B fb mc {F with aliases:=F.aliases++ [x]} {V with v10:=v,sa:=V.sa++ [vx]} :=by
 have i:TF w [72] (fun k=>V.v10.ownBlock=some k):=TF.own h.eO az
 have C:=hm.gy i h.cells az
 have A:TF q [127] (fun k=>k=fb):=TF.eq (dt C) az
 have E:∀ k,V.v10.ownBlock=some k→∀ cur z,w.heap[k]?≠some (.cells cur 51 z):=hU h.eO az
 have G:∀ k,k=fb→∀ cur z,q.heap[k]?≠some (.cells cur 51 z):=fg C az
 obtain ⟨f,j,O⟩:=h.cm
 have U:=ez<|j.md hm<|i.no (ez j) az
 exact ⟨M,bZ (bZ h.o9 hm i az) a A az,db J a (fun k hk j=>dw J C az<|j ▸ hk),((h.al.md hm E).md a G).snoc ((Y.md hm E).md a G),bZ (bZ h.ej hm i az) a A az,bZ (bZ h.dB hm i az) a A az,(h.nx.md hm E).md a G,⟨f,(j.md hm<|i.no (ez j) az).md a (A.no U az),O⟩,h.lo,h.fI⟩
theorem dP.xy {w q I:World} {B fb mc:Nat} {F:aR} {V:eX} {v:Value} {x:c8} {vx:Value} (h:dP w B fb mc F V) (Y:Tg w B 51 x.next.length vx (x.next.map bc)) (hm:Md (fun k=>V.v12.ownBlock=some k) w q) (J:bo q B 77 7 v (F.rules++ [x]).length (iQ<|(F.rules++ [x]).zip<|V.rn++ [vx])) (a:Md (fun k=>k=fb) q I) (M:I.heap[fb]? =some (.cells (oG {F with rules:=F.rules++ [x]} {V with v12:=v,rn:=V.rn++ [vx]} mc).toArray 125 (0,0))):dP I B fb mc {F with rules:=F.rules++ [x]} {V with v12:=v,rn:=V.rn++ [vx]} :=by
 have i:TF w [79] (fun k=>V.v12.ownBlock=some k):=TF.own h.dB az
 have C:=hm.gy i h.cells az
 have A:TF q [127] (fun k=>k=fb):=TF.eq (dt C) az
 have E:∀ k,V.v12.ownBlock=some k→∀ cur z,w.heap[k]?≠some (.cells cur 51 z):=hU h.dB az
 have G:∀ k,k=fb→∀ cur z,q.heap[k]?≠some (.cells cur 51 z):=fg C az
 obtain ⟨f,j,O⟩:=h.cm
 have U:=ez<|j.md hm<|i.no (ez j) az
 exact ⟨M,bZ (bZ h.o9 hm i az) a A az,bZ (bZ h.eO hm i az) a A az,(h.al.md hm E).md a G,bZ (bZ h.ej hm i az) a A az,db J a (fun k hk j=>dw J C az<|j ▸ hk),(by rw [ig]; exact ((h.nx.md hm E).md a G).snoc<|(Y.md hm E).md a G),⟨f,(j.md hm<|i.no (ez j) az).md a (A.no U az),O⟩,h.lo,h.fI⟩
theorem dx.own {w w':World} {B:Nat} {H:dp} {F:aR} {R:gR} {rows:List Rw} {ln:Nat} {seen:List Tx} {B' e s n:Nat} {v:Value} {xs:List Value} (h:dx w B H F R rows ln seen) (A:bo w B' e s v n xs) (hm:Md (fun k=>v.ownBlock=some k) w w') (i:([e+2].contains 197 || [e+2].contains 211 || [e+2].contains 11 || [e+2].contains 5)=false):dx w' B H F R rows ln seen:=by
 have a:TF w [e+2] (fun k=>v.ownBlock=some k):=TF.own A<|by simp
 obtain ⟨f,j,_⟩:=h.sm
 obtain ⟨g,q,_⟩:=h.tm
 exact h.md hm a i (a.no (ez j)<|by simp)<|a.no (ez q)<|by simp
theorem dx.oF {w w':World} {B:Nat} {H:dp} {F:aR} {R:gR} {rows:List Rw} {ln:Nat} {seen:List Tx} {cs:Array Value} {z:Nat×Nat} (h:dx w B H F R rows ln seen) (i:w.heap[H.fb]? =some (.cells cs 125 z)) (hm:Md (fun k=>k=H.fb) w w'):dx w' B H F R rows ln seen:=by
 have a:TF w [127] (fun k=>k=H.fb):=TF.eq (dt i) az
 obtain ⟨f,j,A⟩:=h.sm
 obtain ⟨g,q,C⟩:=h.tm
 exact h.md hm a az (a.no (ez j) az)<|a.no (ez q) az
theorem Tg.C1 {w:World} {b e n:Nat} {L:List Value} {z:Nat×Nat} (h:w.heap[b]? =some (.cells L.toArray e z)) (hn:n=L.length):Tg w b e n (.slice (some ⟨b,0,none⟩) n n) L:=⟨_,_,rfl,cj _,.inr ⟨b,_,_,rfl,cj _,h,fun j u hu=>by simpa using hu⟩⟩
theorem kI.pH {F:aR} {q:Rw} {rest:List Rw} {seen:List Tx} (h:kI F (q::rest) seen):kI F rest seen:=⟨by have :=h.len; simp only [cM] at this; omega,by have :=h.sl; simp only [cM] at this; omega,fun a h2=>h.row a (List.mem_cons_of_mem _ h2),h.kd,h.al⟩
theorem KR {eof ln e:Nat} {F:aR} {rows:List Rw} {r:List Tx} (h:eS (r.getD 1 []) 256= .error e):kg eof F rows ln r= .error (ln,e):=by unfold kg; rw [h]
theorem vL {eof ln n:Nat} {F:aR} {rows:List Rw} {r:List Tx} {e:Nat×Nat} (h:eS (r.getD 1 []) 256= .ok n) (h1:group [e5] kE eof n rows= .error e):kg eof F rows ln r= .error e:=by unfold kg; rw [h]; simp only; rw [h1]
theorem Xh {eof ln n:Nat} {F:aR} {rows:List Rw} {r:List Tx} {q:List (Tx×Tx)×List Rw} (h:eS (r.getD 1 []) 256= .ok n) (h1:group [e5] kE eof n rows= .ok q):kg eof F rows ln r= .ok ({F with dd:=F.dd++q.1},q.2):=by unfold kg; rw [h]; simp only; rw [h1]
theorem CV {s:Tx} {most:Int} {n:Nat} (h:eS s most= .ok n):(n:Int)≤most:=by
 unfold eS at h
 split at h
 · cases h
 · rename_i a; cases h; exact qM s most<|jn.1 a
theorem An {eof ln:Nat} {F:aR} {hs:List Tx} {rows:List Rw} {r:List Tx} (h:fz∈hs∨di∈hs):jS eof F hs rows ln r= .error (ln,113):=if_pos h
theorem Fi {eof ln e:Nat} {F:aR} {hs:List Tx} {rows:List Rw} {r:List Tx} (a:¬(fz∈hs∨di∈hs)) (h:eS (r.getD 1 []) 1024= .error e):jS eof F hs rows ln r= .error (ln,e):=by unfold jS; rw [if_neg a,h]
theorem xx {eof ln n:Nat} {F:aR} {hs:List Tx} {rows:List Rw} {r:List Tx} {e:Nat×Nat} (a:¬(fz∈hs∨di∈hs)) (h:eS (r.getD 1 []) 1024= .ok n) (h1:group [eE] (kp F.kind) eof n rows= .error e):jS eof F hs rows ln r= .error e:=by unfold jS; rw [if_neg a,h]; simp only; rw [h1]
theorem Ov {eof ln n:Nat} {F:aR} {hs:List Tx} {rows:List Rw} {r:List Tx} {q:List (List Nat)×List Rw} (a:¬(fz∈hs∨di∈hs)) (h:eS (r.getD 1 []) 1024= .ok n) (h1:group [eE] (kp F.kind) eof n rows= .ok q):jS eof F hs rows ln r= .ok ({F with aliases:=F.aliases++q.1},q.2):=by unfold jS; rw [if_neg a,h]; simp only; rw [h1]
theorem Fh {kind ln:Nat} {r:List Tx} (h:r.length≠2):kp kind ln r= .error 111:=if_pos h
theorem xw {kind ln:Nat} {r:List Tx} (h:r.length=2):kp kind ln r=kO kind (r.getD 1 []):=if_neg ab
theorem Iv {kind:Nat} {s:Tx} (h:(dX kind s).2=0):(dX kind s).1.length≤64∧(dX kind s).1.Pairwise (· < ·):=by
 unfold dX at h ⊢
 split
 · simp
 · split
   · simp
   · split
     · simp
     · rename_i h3
       exact ⟨by have :=Ws ((dE kind s).map<|eD kind); rw [fE] at this; exact fW this ab,CZ _⟩
theorem KN {ln:Nat} {r:List Tx} (h:r.length≠3):kE ln r= .error 111:=if_pos h
theorem KO {ln e:Nat} {r:List Tx} (h:r.length=3) (h1:et false (r.getD 1 [])= .error e):kE ln r= .error e:=by unfold kE; rw [if_neg ab,h1]
theorem KP {ln e:Nat} {r:List Tx} {a:Tx} (h:r.length=3) (h1:et false (r.getD 1 [])= .ok a) (h2:et true (r.getD 2 [])= .error e):kE ln r= .error e:=by unfold kE; rw [if_neg ab,h1]; simp only; rw [h2]
theorem KQ {ln:Nat} {r:List Tx} {a b:Tx} (h:r.length=3) (h1:et false (r.getD 1 [])= .ok a) (h2:et true (r.getD 2 [])= .ok b):kE ln r= .ok (a,b):=by unfold kE; rw [if_neg ab,h1]; simp only; rw [h2]
theorem Xj (B:Nat) (H:dp) (F:aR) (rows:List Rw) (ln:Nat) (seen:List Tx) (r:List Tx) (bc:Nat) (ar:Option Addr) (cr:Nat) (w:World) (E:St w B H F rows ln seen) (bC:Tg w bc 9 r.length (.slice ar r.length cr) (r.map str)) (ci:r.length=2) (bM:∀ x∈r,x.length≤70000):
 fw ay 133 (ba [.pointer (some ⟨H.rb,0,none⟩),.slice ar r.length cr]) w (js B H seen (kg H.eof F rows ln r) w) (jr B H (kg H.eof F rows ln r) w):=by
 obtain ⟨V,R,Z,aG,aS⟩:=E
 have a3:=bC.cI
 have cj:(r.getD 1 []).length≤70000:=bM _<|dQ ab
 have cg:=aG.lo
 have cb:=aS.len
 refine j8 func133 aa ntmps133 aa<|sq fun b0 bk=>rg aa<|p (aT (.pointer<|some ⟨H.rb,0,none⟩) aa)<|p (aT (.slice ar r.length cr) aa)<|p (a7 cE aa aa ab<|aI.ok (a3.2)<|bP ab)<|p (ld bR aa<|bX.get (i:=1) a3.2 ab)<|eP aa (dN xD (yX H.rb ln (r.getD 1 []) 256 w aG.dj ab ab) aa fun v10 co bv=> ?_) fun c w' A ax Z=>by obtain ⟨e,he,h,h2⟩:=A; exact ⟨ln,e,KR he,h,Wk.mw h2⟩
 obtain ⟨n,O,rfl,aC⟩:=bv
 have ch:=CV O
 refine p mv<|nl<|tn<|bk _ _<|aJ<|lp (fun aQ aA am=> ∃ (i:Nat) (xs:List (Tx×Tx)) (rows':List Rw) (aw:Nat) (j:eX) (R':gR),(i≤n)∧(iT [e5] kE H.eof (group [e5] kE H.eof n rows) xs (n - i) rows')∧(xs.length=i)∧(dP am B H.fb H.mc {F with dd:=F.dd++xs} j)∧(dx am B H F R' rows' aw seen)∧(kI {F with dd:=F.dd++xs} rows' seen)∧(fu B H w am)∧(aA 0= .pointer (some ⟨H.rb,0,none⟩))∧(aA 10= .int .i64 (n:Nat))∧(aA 11= .int .i64 (i:Nat))∧(n - i=aQ)) _ ⟨0,[],rows,ln,V,R,ab,iT.start,aa,(by rw [ed]; exact Z.wk aC),(aG.wk aC),(by rw [ed]; exact aS),(Wk.mw aC),aa,aa,aa,aa⟩ ?_
 rintro aQ aA am ⟨i,xs,rows',aw,j,R',hi,G,bU,aU,aj,ah,aV,bN,bO,bQ,rfl⟩
 refine fx 0 bN<|fx 10 bO<|fx 11 bQ<|sq fun b1 bl=>rg aa<|p (lt aa aa)<|nl<|tn<|bl _ _<|sq fun b2 bm=>cd aa (fun bE=> ?_) fun bE=> ?_
 refine aM<|tn<|bm _ _<|sq fun b3 bp=>aJ<|sq fun b4 bq=>rg aa<|p (aT (.pointer<|some ⟨H.rb,0,none⟩) aa)<|e<|sU (L:= [str e5]) fH aa aa aa aa fun bf a9 b9 bu bg=> ?_
 have Y:Wk am a9:=bu.md
 have aW:=aV.trans<|Wk.mw Y
 refine eP aa (dN AO (Cz B H F R' rows' aw seen [e5] bf 1 _ _ a9 (aj.wk Y) (Tg.C1 bg aa) aa az fun q bL=>(ah.row q bL).2.1) aa fun cl bV bw=> ?_) (fun c w' A ax Z=>by
  obtain ⟨h1,h2⟩:=A
  have hm:=aW.trans<|fu.rb (aj.wk Y) h2
  rcases h1 with ⟨rfl,h3⟩ | ⟨ae,M,rest,rfl,h4,h3⟩
  exact ⟨_,_,vL O (G.ends ab),h3,hm⟩
  exact ⟨_,_,vL O (G.other ab h4),h3,hm⟩)
 obtain ⟨ae,M,rest,rfl,av,⟨bd,aH⟩,hT15,hM15⟩:=bw
 obtain ⟨b7,uL,rfl⟩:=hT15.slice
 have bj:=(aU.wk Y).rb (aj.wk Y) hM15
 have aF:=aW.trans<|fu.rb (aj.wk Y) hM15
 have a8:M≠[]∧M.length≤70000∧∀ x∈M,x.length≤70000:=ah.row (ae,M)<|by simp
 have an:=kI.pH ah
 have a1:=hT15.cI
 have bD:=ah.len
 simp only [cM,bI] at bD
 refine p aB<|nl<|tn<|bq _ _<|sq fun b5 br=>rg aa<|p (aT (.pointer<|some ⟨H.rb,0,none⟩) aa)<|p mv<|p (bF eQ aa aa)<|p (bH aa aa)<|eP aa (dN il (iz H.rb ae _ 111 bV aH.dj az) aa fun v20 bW bx=> ?_) fun c w' A ax Z=>⟨_,_,vL O (G.bad ab av<|KN<|by have :=of_decide_eq_false A.2.1; omega),A.1,by rw [A.2.2]; exact aF⟩
 obtain ⟨rfl,bS,rfl⟩:=bx
 have aP:M.length=3:=by have :=of_decide_eq_true bS; omega
 have ce:=a8.2.2 _<|dQ (d:= []) (i:=1) ab
 have cf:=a8.2.2 _<|dQ (d:= []) (i:=2) ab
 refine nl<|tn<|br _ _<|sq fun b6 bs=>rg aa<|p (aT (.pointer<|some ⟨H.rb,0,none⟩) aa)<|p mv<|p (a7 cE aa aa ab<|aI.ok (a1.2)<|bP ab)<|p (ld bR aa<|bX.get (i:=1) a1.2 ab)<|eP aa (dN F8 (Ky H.rb ae (M.getD 1 []) bW aH.dj ab) aa fun cm U bz=> ?_) fun c w' A ax Z=>by obtain ⟨e,he,h,h2⟩:=A; exact ⟨_,_,vL O (G.bad ab av<|KO aP he),h,aF.trans<|Wk.mw h2⟩
 obtain ⟨I,a5,rfl,ao⟩:=bz
 have ac:=bj.wk ao
 have ak:=aH.wk ao
 have a2:=hT15.wk ao
 have aX:=aF.trans<|Wk.mw ao
 have aN:¬(j.v9.ownBlock=some H.rb):=dw ac.o9 ak.cells az
 have bG:¬(j.v9.ownBlock=some H.fb):=dw ac.o9 ac.cells az
 refine p aB<|nl<|tn<|bs _ _ ?_
 have a:(fun w'=>Md (fun k=>j.v9.ownBlock=some k) U w') U.drew:=(Md.refl _ _).drew
 refine eM (fun w'=>Md (fun k=>j.v9.ownBlock=some k) U w') 24 aa wide a<|dz 0 aa ag (fun _=>aT (.pointer<|some ⟨H.rb,0,none⟩) aa) (fun _=>a)<|dz 1 aa ag (fun _=>nc aa) (fun _=>a)<|dz 2 aa ag (fun _=>fa gY aa) (fun _=>a)<|kD 3 aa ag (fun w' E=>ld fZ aa<|Md.aO E ((a6 ak.cells).trans aa) aN) a<|dz 4 aa ag (fun _=>aT (.pointer<|some ⟨H.rb,0,none⟩) aa) (fun _=>a)<|dz 5 aa ag (fun _=>nc aa) (fun _=>a)<|dz 6 aa ag (fun _=>fa gY aa) (fun _=>a)<|kD 7 aa ag (fun w' E=>ld fZ aa<|Md.aO E ((a6 ak.cells).trans aa) aN) a<|dz 8 aa ag (fun _=>nc aa) (fun _=>a)<|dz 9 aa ag (fun _=>fa gC aa) (fun _=>a)<|dz 10 aa ag (fun _=>fa yu aa) (fun _=>a)<|kD 11 aa ag (fun w' E=>ld Fg aa<|Md.aO E ((a6 ac.cells).trans aa) bG) a<|dz 12 aa ag (fun _=>mv) (fun _=>a)<|dz 13 aa ag (fun _=>aT (.pointer<|some ⟨H.rb,0,none⟩) aa) (fun _=>a)<|dz 14 aa ag (fun _=>mv) (fun _=>a) ?_
 refine dz 15 aa ag (fun _=>a7 cE aa aa ab<|aI.ok (a2.cI.2)<|bP ab) (fun _=>a)<|kD 16 aa ag (fun w' E=>ld bR aa<|bX.get (i:=2) (a2.md E<|hU ac.o9 az).cI.2 ab) a<|Jx 17 aa ag aa (dN F9 (Kv H.rb ae (M.getD 2 []) U.drew (Md.aO a ak.dj aN) ab) aa fun cn bY bA=> ?_) fun c w' A ax Z=>by obtain ⟨e,he,h,h2⟩:=A; exact ⟨_,_,vL O (G.bad ab av<|KP aP a5 he),h,aX.trans<|Wk.mw<|ib h2⟩
 obtain ⟨J,bK,rfl,aq⟩:=bA
 have aq:=ib aq
 have aK:(fun w'=>Md (fun k=>j.v9.ownBlock=some k) U w') bY:=Md.mono aq fun _ _ h=>h.elim
 refine ⟨aK,?_⟩
 refine dz 18 aa ag (fun _=>cO (ps:= [(0,str I),(1,str J)]) (L:= [str I,str J]) Yr aa<|aa) (fun _=>aK)<|gL 19 aa ag<|kq y9 aa aa aa fun b8 bZ ca aY bh=> ?_
 have aD:=aq.trans aY.md
 have C:=ac.wk aD
 have aZ:=ak.wk aD
 have a0:(fun w'=>Md (fun k=>j.v9.ownBlock=some k) U w') bZ:=aK.trans' aY.md fun _ _ h=>h.elim
 refine ⟨a0,?_⟩
 refine gL 20 aa ag<|ap y9 (C.o9) aa (by have :=(dm.1 aZ.cells).1; omega) aa (aI.dS bh) (aa) (aa) (by simp only [bI]; omega) (by simp only [bI]; omega) fun v46 bb a4 ai ck cc=> ?_
 have bt:=(aX.trans<|Wk.mw aD).trans<|Mw.of ai (TF.own C.o9 az) fun k hk=>(dI C.o9 hk).1
 have bB:=dx.own aZ C.o9 ai az
 have aL:=ai.aJ C.cells<|dw C.o9 C.cells az
 have bJ:bo bb B 128 2 v46 ((F.dd++xs)++ [(I,J)]).length (kU<|(F.dd++xs)++ [(I,J)]):=by rw [show kU ((F.dd++xs)++ [(I,J)])=kU (F.dd++xs)++ [str I,str J] from by simp [kU],bI]; exact a4
 have au:(fun w'=>Md (fun k=>j.v9.ownBlock=some k) U w') bb:=a0.trans' ai fun _ _ h=>h
 refine ⟨au,?_⟩
 exact dz 21 aa ag (fun _=>nc aa) (fun _=>au)<|dz 22 aa ag (fun _=>fa gC aa) (fun _=>au)<|dz 23 aa ag (fun _=>fa yu aa) (fun _=>au)<|dG 24 aa ag ag<|cV G8 aa aa (v:=v46) (eH a4) aL (by show _ < 14; omega) fun cp aE bi=>eL ag<|bn<|tn<|bp _ _<|rg aa<|p (ad aa aa<|bT ab)<|p mv<|nl<|tn<|⟨_,ab,i+1,xs++ [(I,J)],rest,ae,{j with v9:=v46},bd,ab,(by rw [show n - (i+1)=n - i - 1 by omega]; exact G.step ab av<|KQ aP a5 bK),(by rw [bI,bU]; rfl),(by rw [← dC]; exact dP.Ar (x:=(I,J)) C ai bJ aE bi),(dx.oF bB aL aE),(⟨by simp only [bI,eW]; omega,an.sl,an.row,an.kd,an.al⟩),(bt.trans<|Mw.of aE (TF.eq (dt aL) az) fun k hk=>hk ▸ C.lo.1),aa,aa,aa,aa⟩
 refine ext<|te _<|te _<|be<|jM<|f0 aa ?_
 rw [show n - i=0 by omega] at G
 exact ⟨aa,_,rows',aw,Xh O G.done,⟨j,R',aU,aj.congr aa (fun _=>rfl),ah⟩,aV⟩
theorem Ot (B:Nat) (H:dp) (F:aR) (rows:List Rw) (ln:Nat) (seen:List Tx) (r:List Tx) (bs:Nat) (ar:Option Addr) (cr:Nat) (w:World) (j:St w B H F rows ln seen) (bc:Tg w bs 9 r.length (.slice ar r.length cr) (r.map str)) (cO:r.length=2) (cc:∀ x∈r,x.length≤70000):
 fw ay 134 (ba [.pointer (some ⟨H.rb,0,none⟩),.slice ar r.length cr]) w (js B H seen (jS H.eof F seen rows ln r) w) (jr B H (jS H.eof F seen rows ln r) w):=by
 obtain ⟨V,R,ae,O,aE⟩:=j
 have cB:=bc.cI
 have cP:(r.getD 1 []).length≤70000:=cc _<|dQ ab
 have cL:=O.lo
 have cF:=aE.len
 obtain ⟨cS,bk,bl⟩:=O.sm
 have cG:=ui (a:=fz) (l:=seen)
 have cH:=ui (a:=di) (l:=seen)
 have cQ:=aE.sl
 refine j8 func134 aa ntmps134 aa<|sq fun co bB=> ?_
 have A:(fun w'=>Wk w w') w.drew:=(Md.refl _ _).drew
 refine bJ (fun w'=>Wk w w') aa wide A<|hp 0 aa ag (fun _ _=>aT (.pointer<|some ⟨H.rb,0,none⟩) aa) A<|hp 1 aa ag (fun _ _=>aT (.pointer<|some ⟨H.rb,0,none⟩) aa) A<|hp 2 aa ag (fun _ _=>nc aa) A<|hp 3 aa ag (fun _ _=>fa tq aa) A<|hp 4 aa ag (fun w' j=>ld sM aa<|Wk.aO j<|(a6 O.cells).trans aa) A<|hp 5 aa ag (fun w' j=>oK qU oV jb (dq.md (bk) j id) aa aa (⟨_,aa⟩)<|bl fz) A<|hp 6 aa ag (fun _ _=>aT (.pointer<|some ⟨H.rb,0,none⟩) aa) A<|hp 7 aa ag (fun _ _=>nc aa) A<|hp 8 aa ag (fun _ _=>fa tq aa) A<|hp 9 aa ag (fun w' j=>ld sM aa<|Wk.aO j<|(a6 O.cells).trans aa) A<|hp 10 aa ag (fun w' j=>oK qU oV jb (dq.md (bk) j id) aa aa (⟨_,aa⟩)<|bl di) A<|hp 11 aa ag (fun _ _=>bE ((seen.count fz+seen.count di:Nat):Int) aa aa<|bj ab ab) A<|hp 12 aa ag (fun _ _=>bH aa aa) A ?_
 refine tx 13 aa ag aa (dN il (iz H.rb ln _ 113 w.drew (Wk.aO A O.dj) az) aa fun v20 aZ bY=> ?_) (fun c w' C aL ae=>⟨ln,113,An (Classical.byContradiction fun h2=>by
  have h1:=q9.2 fun h=>h2<|Or.inl h
  have h3:=q9.2 fun h=>h2<|Or.inr h
  exact of_decide_eq_false C.2.1 ab),C.1,by rw [C.2.2]; exact Wk.mw A⟩)
 obtain ⟨rfl,ci,bm⟩:=bY
 have aF:Wk w aZ:=by rw [bm]; exact (Md.refl _ _).drew
 have aj:¬(fz∈seen∨di∈seen):=by
  have cA:=of_decide_eq_true ci
  rintro (h | h)
  have :=zU.2 h; omega
  have :=zU.2 h; omega
 have bV:=O.wk aF
 have bd:=(bc.wk aF).cI
 have b4:(fun w'=>Wk w w') aZ:=by rw [bm]; exact A
 refine ⟨b4,?_⟩
 refine hn ag<|tn<|bB _ _<|sq fun cp bC=>rg aa<|p (aT (.pointer<|some ⟨H.rb,0,none⟩) aa)<|p (aT (.slice ar r.length cr) aa)<|p (a7 cE aa aa ab<|aI.ok (bd.2)<|bP ab)<|p (ld bR aa<|bX.get (i:=1) bd.2 ab)<|eP aa (dN xD (yX H.rb ln (r.getD 1 []) 1024 aZ bV.dj ab ab) aa fun cU cY bZ=> ?_) fun c w' C aL ae=>by obtain ⟨e,he,h,h2⟩:=C; exact ⟨ln,e,Fi aj he,h,Wk.mw<|aF.trans h2⟩
 obtain ⟨n,ak,rfl,am⟩:=bZ
 have cN:=CV ak
 have am:=aF.trans am
 refine p mv<|nl<|tn<|bC _ _<|aJ<|lp (fun a0 aN aC=> ∃ (i:Nat) (xs:List (List Nat)) (rows':List Rw) (aK:Nat) (G:eX) (R':gR),(i≤n)∧(iT [eE] (kp F.kind) H.eof (group [eE] (kp F.kind) H.eof n rows) xs (n - i) rows')∧(xs.length=i)∧(dP aC B H.fb H.mc {F with aliases:=F.aliases++xs} G)∧(dx aC B H F R' rows' aK seen)∧(kI {F with aliases:=F.aliases++xs} rows' seen)∧(fu B H w aC)∧(aN 0= .pointer (some ⟨H.rb,0,none⟩))∧(aN 25= .int .i64 (n:Nat))∧(aN 26= .int .i64 (i:Nat))∧(n - i=a0)) _ ⟨0,[],rows,ln,V,R,ab,iT.start,aa,(by rw [ed]; exact ae.wk am),(O.wk am),(by rw [ed]; exact aE),(Wk.mw am),aa,aa,aa,aa⟩ ?_
 rintro a0 aN aC ⟨i,xs,rows',aK,G,R',hi,U,ck,a1,au,Y,a3,cf,cg,ch,rfl⟩
 refine fx 0 cf<|fx 25 cg<|fx 26 ch<|sq fun cq bD=>rg aa<|p (lt aa aa)<|nl<|tn<|bD _ _<|sq fun cs bG=>cd aa (fun b7=> ?_) fun b7=> ?_
 refine aM<|tn<|bG _ _<|sq fun ct bK=>aJ<|sq fun cu bL=>rg aa<|p (aT (.pointer<|some ⟨H.rb,0,none⟩) aa)<|e<|sU (L:= [str eE]) fH aa aa aa aa fun bu bp cC bS bv=> ?_
 have Z:Wk aC bp:=bS.md
 have a4:=a3.trans<|Wk.mw Z
 refine eP aa (dN AO (Cz B H F R' rows' aK seen [eE] bu 1 _ _ bp (au.wk Z) (Tg.C1 bv aa) aa az fun q cb=>(Y.row q cb).2.1) aa fun cT cm bW=> ?_) (fun c w' C aL ae=>by
  obtain ⟨h1,h2⟩:=C
  have hm:=a4.trans<|fu.rb (au.wk Z) h2
  rcases h1 with ⟨rfl,h3⟩ | ⟨aw,J,rest,rfl,h4,h3⟩
  exact ⟨_,_,xx aj ak (U.ends ab),h3,hm⟩
  exact ⟨_,_,xx aj ak (U.other ab h4),h3,hm⟩)
 obtain ⟨aw,J,rest,rfl,aW,⟨bt,aG⟩,hT15,hM15⟩:=bW
 obtain ⟨cy,uL,rfl⟩:=hT15.slice
 have a2:=(a1.wk Z).rb (au.wk Z) hM15
 have a5:=a4.trans<|fu.rb (au.wk Z) hM15
 have ce:J≠[]∧J.length≤70000∧∀ x∈J,x.length≤70000:=Y.row (aw,J)<|by simp
 have aP:=kI.pH Y
 have bf:=hT15.cI
 have b6:=Y.len
 simp only [cM,bI] at b6
 refine p aB<|nl<|tn<|bL _ _<|sq fun cv bM=>rg aa<|p (aT (.pointer<|some ⟨H.rb,0,none⟩) aa)<|p mv<|p (bF eQ aa aa)<|p (bH aa aa)<|eP aa (dN il (iz H.rb aw _ 111 cm aG.dj az) aa fun cW ax b0=> ?_) fun c w' C aL ae=>⟨_,_,xx aj ak (U.bad ab aW<|Fh<|by have :=of_decide_eq_false C.2.1; omega),C.1,by rw [C.2.2]; exact a5⟩
 obtain ⟨rfl,cj,rfl⟩:=b0
 have bi:J.length=2:=by have :=of_decide_eq_true cj; omega
 have cK:=ce.2.2 _<|dQ (d:= []) (i:=1) ab
 refine nl<|tn<|bM _ _<|sq fun cw bN=> ?_
 have I:(fun w'=>Wk ax w') ax.drew:=(Md.refl _ _).drew
 refine bJ (fun w'=>Wk ax w') aa wide I<|hp 0 aa ag (fun _ _=>aT (.pointer<|some ⟨H.rb,0,none⟩) aa) I<|hp 1 aa ag (fun _ _=>nc aa) I<|hp 2 aa ag (fun _ _=>fa gY aa) I<|hp 3 aa ag (fun w' j=>ld fZ aa<|Wk.aO j<|(a6 aG.cells).trans aa) I<|hp 4 aa ag (fun _ _=>nc aa) I<|hp 5 aa ag (fun _ _=>fa gC aa) I<|hp 6 aa ag (fun _ _=>fa tu aa) I<|hp 7 aa ag (fun w' j=>ld bA aa<|Wk.aO j<|(a6 a2.cells).trans aa) I<|hp 8 aa ag (fun _ _=>mv) I<|hp 9 aa ag (fun _ _=>a7 cE aa aa ab<|aI.ok (bf.2)<|bP ab) I<|hp 10 aa ag (fun w' j=>ld bR aa<|Wk.aO j<|bX.get (i:=1) bf.2 ab) I<|he 11 aa ag<|cl Ga (IA F.kind (J.getD 1 []) _ aE.kd ab) aa fun cX bq b1=> ?_
 obtain ⟨⟨aD,rfl,aV⟩,ac⟩:=b1
 have ac:=ib ac
 have ao:=a2.wk ac
 have av:=aG.wk ac
 have a8:=a5.trans<|Wk.mw ac
 have bg:¬(G.v10.ownBlock=some H.rb):=dw ao.eO av.cells az
 have b9:¬(G.v10.ownBlock=some H.fb):=dw ao.eO ao.cells az
 have bz:B≤ax.heap.size:=by have :=(dm.1 aG.cells).1; omega
 have ah:(fun w'=>Wk ax w') bq:=ac
 refine ⟨ah,?_⟩
 refine hp 12 aa ag (fun _ _=>mv) ah<|hp 13 aa ag (fun _ _=>xt aa aa) ah<|hp 14 aa ag (fun _ _=>xt aa aa) ah<|hp 15 aa ag (fun _ _=>aB) ah<|hp 16 aa ag (fun _ _=>aB) ah<|hn ag<|tn<|bN _ _<|sq fun cx bO=>rg aa<|p (aT (.pointer<|some ⟨H.rb,0,none⟩) aa)<|p mv<|eP aa (dN oD (oM H.rb aw ((dX F.kind<|J.getD 1 []).2:Nat) bq av.dj) aa fun v53 aA b3=> ?_) fun c w' C aL ae=>⟨_,_,xx aj ak (U.bad ab aW<|by rw [xw bi]; exact yv<|by have :=C.2.1; omega),C.1,by rw [C.2.2]; exact a8⟩
 obtain ⟨rfl,aX,rfl⟩:=b3
 have aX:(dX F.kind<|J.getD 1 []).2=0:=ab
 have b8:=Iv aX
 refine nl<|tn<|bO _ _ ?_
 have E:(fun w'=>Md (fun k=>G.v10.ownBlock=some k) aA w') aA.drew:=(Md.refl _ _).drew
 refine eM (fun w'=>Md (fun k=>G.v10.ownBlock=some k) aA w') 18 aa wide E<|dz 0 aa ag (fun _=>aT (.pointer<|some ⟨H.rb,0,none⟩) aa) (fun _=>E)<|dz 1 aa ag (fun _=>nc aa) (fun _=>E)<|dz 2 aa ag (fun _=>fa gY aa) (fun _=>E)<|kD 3 aa ag (fun w' j=>ld fZ aa<|Md.aO j ((a6 av.cells).trans aa) bg) E<|dz 4 aa ag (fun _=>aT (.pointer<|some ⟨H.rb,0,none⟩) aa) (fun _=>E)<|dz 5 aa ag (fun _=>nc aa) (fun _=>E)<|dz 6 aa ag (fun _=>fa gY aa) (fun _=>E)<|kD 7 aa ag (fun w' j=>ld fZ aa<|Md.aO j ((a6 av.cells).trans aa) bg) E<|dz 8 aa ag (fun _=>nc aa) (fun _=>E)<|dz 9 aa ag (fun _=>fa gC aa) (fun _=>E)<|dz 10 aa ag (fun _=>fa pM aa) (fun _=>E)<|kD 11 aa ag (fun w' j=>ld rA aa<|Md.aO j ((a6 ao.cells).trans aa) b9) E<|dz 12 aa ag (fun _=>mv) (fun _=>E)<|gL 13 aa ag<|fR zb aa (eH aV) fun cz cn cD bU bw=> ?_
 have an:=ib bU.md
 have M:=ao.wk an
 have a9:=av.wk an
 have b5:=(Tg.jN<|aU aV an).mono bz
 have bb:(fun w'=>Md (fun k=>G.v10.ownBlock=some k) aA w') cn:=Md.mono an fun _ _ h=>h.elim
 refine ⟨bb,?_⟩
 refine gL 14 aa ag<|ap zb (M.eO) aa (by have :=(dm.1 a9.cells).1; omega) aa (aI.dS bw) (aa) (by show List.all [aD] gz=true; simp only [List.all_cons,List.all_nil,eH aV,Bool.and_self]) (by simp only [bI]; omega) (by simp only [bI]; omega) fun aY br bh aq cR cJ=> ?_
 have bQ:=(a8.trans<|Wk.mw an).trans<|Mw.of aq (TF.own M.eO az) fun k hk=>(dI M.eO hk).1
 have b2:=dx.own a9 M.eO aq az
 have aS:=aq.aJ M.cells<|dw M.eO M.cells az
 have ca:bo br B 70 1 aY ((F.aliases++xs)++ [(dX F.kind<|J.getD 1 []).1]).length (G.sa++ [aD]):=by rw [bI]; exact bh
 have aH:(fun w'=>Md (fun k=>G.v10.ownBlock=some k) aA w') br:=bb.trans' aq fun _ _ h=>h
 refine ⟨aH,?_⟩
 exact dz 15 aa ag (fun _=>nc aa) (fun _=>aH)<|dz 16 aa ag (fun _=>fa gC aa) (fun _=>aH)<|dz 17 aa ag (fun _=>fa pM aa) (fun _=>aH)<|dG 18 aa ag ag<|cV G9 aa aa (v:=aY) (eH bh) aS (by show _ < 14; omega) fun cZ aQ bx=>eL ag<|bn<|tn<|bK _ _<|rg aa<|p (ad aa aa<|bT ab)<|p mv<|nl<|tn<|⟨_,ab,i+1,xs++ [(dX F.kind<|J.getD 1 []).1],rest,aw,{G with v10:=aY,sa:=G.sa++ [aD]},bt,ab,(by rw [show n - (i+1)=n - i - 1 by omega]; exact U.step ab aW<|by rw [xw bi]; exact yw aX),(by rw [bI,ck]; rfl),(by rw [← dC]; exact dP.Ap (x:=(dX F.kind<|J.getD 1 []).1) (vx:=aD) M b5 aq ca aQ bx),(dx.oF b2 aS aQ),(⟨by simp only [bI,eW]; omega,aP.sl,aP.row,aP.kd,by intro l ai; rw [← dC] at ai; rcases jz.1 ai with ai | ai; exact Y.al l ai; rw [jY.1 ai]; exact b8⟩),(bQ.trans<|Mw.of aQ (TF.eq (dt aS) az) fun k hk=>hk ▸ M.lo.1),aa,aa,aa,aa⟩
 refine ext<|te _<|te _<|be<|jM<|f0 aa ?_
 rw [show n - i=0 by omega] at U
 exact ⟨aa,_,rows',aK,Ov aj ak U.done,⟨G,R',a1,au.congr aa (fun _=>rfl),Y⟩,a3⟩
end Go.Hb.lQ
end
