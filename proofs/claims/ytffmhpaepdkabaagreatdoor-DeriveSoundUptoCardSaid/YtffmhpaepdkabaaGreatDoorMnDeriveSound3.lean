/-
  Walks and plain laws that the law rests on, laid together. No conditions but those that each theorem names.
-/
import Derived.Test.YtffmhpaepdkabaaGreatDoorMnDeriveSound2
set_option linter.unusedVariables false
set_option maxRecDepth 20000
set_option maxHeartbeats 1000000
open Bool renaming eq_iff_iff→qC,noConfusion→c7
open Go.IntKind renaming u64→dy
open Go.Proofs.Tryz renaming prog→ao
open Go.Sort renaming Below→zz,PermIn→l7,SortedIn→qI,heapBuild→F4,heapSort→F5,insInner→F6,insertionSort→F7,partLoop→zB,partialIns→od,partialInsertionSort→qJ,partition→og,partitionEqual→sM,permIn_refl→F8,permIn_trans→pk,reverseRange→zC,scanDown→l8,scanSorted→qK,scanUp→l9,shiftDown→vm,shiftUp→zD,siftDown→oh,swp→bN
open Go.Sort.Below renaming perm→zA
open Go.Value renaming bool→bQ,int→gG,oneCell'→eW,slice→bB,tuple→jc
open Go.World renaming ownsRow→bp,ownsRow_nil→dJ
open List renaming append_assoc→dK,append_nil→eb,count_le_length→qM,count_pos_iff→vv,drop_drop→zI,drop_eq_nil_of_le→k0,length→k3,length_append→bJ,length_drop→fU,length_map→eX,length_replicate→mh,length_singleton→iH,length_take→ec,map_append→iJ,replicate→iK,take_of_length_le→fq,take_zero→nG,toArray→a7
open Nat renaming le_refl→cw,lt_or_ge→gI
open UInt8 renaming toNat_lt→iS
open Go.Proofs.Tryz
open Go.Hb.dG Go.Proofs

namespace Go.Hb
theorem lk (b:UInt8):oL b=decide ((b.toNat:Int)=92∨(b.toNat:Int)=47∨(b.toNat:Int)=35):=by
 unfold oL; exact decide_eq_decide.2 ab
theorem B8 (b:UInt8):gQ b=decide (32 < (b.toNat:Int)∧(b.toNat:Int)≠127):=by
 unfold gQ; exact decide_eq_decide.2 ab
theorem Mc {b:UInt8} (h:¬(32 < (b.toNat:Int)∧(b.toNat:Int)≠127)):gQ b=false :=by rw [B8]; exact decide_eq_false h
theorem B9 (b:UInt8) (w:World):
 bd ao 204 (a7 [.int .u8 b.toNat]) w (fun v w'=>v= .bool (gQ b)∧Wk w w'):=by
 refine enter func204 aa ntmps204 aa<|ak fun c=>ay<|c<|ak fun a=>au (.int .u8 b.toNat)<|p (gt aa aa)<|p mv<|gs (t:=5) aa (fun i=> ?_) fun i=> ?_
 exact aU aa (aH (.int .u8 b.toNat) aa)<|aU aa (fR aa aa)<|p (bL aa)<|ay<|a<|rt<|ba aa<|⟨by show bQ (decide _)=_; rw [B8]; exact bv (by constructor <;> intro h <;> first | exact ⟨ab,h⟩ | exact h.2),Md.refl _ _⟩
 exact aK aa<|aK aa<|p (bC aa)<|ay<|a<|rt<|ba aa<|⟨by show bQ false =_; rw [Mc ab],Md.refl _ _⟩
theorem Oy (b:UInt8) (w:World):
 bd ao 202 (a7 [.int .u8 b.toNat]) w (fun v w'=>v= .bool (oL b)∧Wk w w'):=by
 refine enter func202 aa ntmps202 aa<|ak fun C=>ay<|C<|az fun q=>ak fun E=>au (.int .u8 b.toNat)<|nl<|E<|aB<|az fun A=>ak fun G=>p (bR aa aa)<|ay<|G<|cd aa (fun a=> ?_) fun a=> ?_
 refine aO<|A<|cd aa (fun a=> ?_) fun a=> ?_
 refine ak fun i=>ay<|i<|rt<|br<|tr<|ba aa ?_
 first | exact ⟨by show bQ true =_; rw [lk,decide_eq_true ab],Md.refl _ _⟩ | exact ⟨by show bQ false =_; rw [lk,decide_eq_false ab],Md.refl _ _⟩
 refine aO<|bn<|q<|ak fun i=>ay<|i<|rt<|ba aa ?_
 first | exact ⟨by show bQ true =_; rw [lk,decide_eq_true ab],Md.refl _ _⟩ | exact ⟨by show bQ false =_; rw [lk,decide_eq_false ab],Md.refl _ _⟩
 refine ak fun i=>p (bR aa aa)<|ay<|i<|cd aa (fun a=> ?_) fun a=> ?_
 refine aO<|A<|cd aa (fun a=> ?_) fun a=> ?_
 refine ak fun c=>ay<|c<|rt<|br<|tr<|ba aa ?_
 first | exact ⟨by show bQ true =_; rw [lk,decide_eq_true ab],Md.refl _ _⟩ | exact ⟨by show bQ false =_; rw [lk,decide_eq_false ab],Md.refl _ _⟩
 refine aO<|bn<|q<|ak fun c=>ay<|c<|rt<|ba aa ?_
 first | exact ⟨by show bQ true =_; rw [lk,decide_eq_true ab],Md.refl _ _⟩ | exact ⟨by show bQ false =_; rw [lk,decide_eq_false ab],Md.refl _ _⟩
 refine rg aa<|p (bR aa aa)<|ay<|A<|cd aa (fun a=> ?_) fun a=> ?_
 refine ak fun c=>ay<|c<|rt<|br<|tr<|ba aa ?_
 first | exact ⟨by show bQ true =_; rw [lk,decide_eq_true ab],Md.refl _ _⟩ | exact ⟨by show bQ false =_; rw [lk,decide_eq_false ab],Md.refl _ _⟩
 refine aO<|bn<|q<|ak fun c=>ay<|c<|rt<|ba aa ?_
 first | exact ⟨by show bQ true =_; rw [lk,decide_eq_true ab],Md.refl _ _⟩ | exact ⟨by show bQ false =_; rw [lk,decide_eq_false ab],Md.refl _ _⟩
theorem E5 (s:List UInt8) (w:World) (hs:s.length≤1048576):
 bd ao 140 (a7 [str s]) w (fun v w'=>v= .bool (np s)∧Wk w w'):=by
 refine enter func140 aa ntmps140 aa<|ak fun V=>ay<|V<|az fun ac=>ak fun I=>au (str s)<|p (iM aa aa)<|p mv<|gs (t:=6) aa (fun E=> ?_) fun E=> ?_
 exact aK aa<|aK aa<|aK aa<|p (bL aa)<|nl<|I<|ct aa<|az fun a=>rg aa<|ay<|a<|rt<|tr<|ba aa<|⟨by show bQ false =_; unfold np; rw [decide_eq_false (by rw [E]; simp)],Md.refl _ _⟩
 refine aU aa (aH (str s) aa)<|aU aa (dv u9 aa aa)<|aU aa (gt aa aa)<|p (bC aa)<|nl<|I<|cd aa (fun al=> ?_) fun al=> ?_
 exact ak fun a=>ay<|a<|rt<|tr<|ba aa<|⟨by show bQ false =_; unfold np; rw [decide_eq_false ab],Md.refl _ _⟩
 refine aO<|ac<|az fun a=>ak fun ae=>au (str s)<|p (dv u9 aa aa)<|p mv<|nl<|ae<|aB<|lp (fun J c U=> ∃ (i:Nat),(i≤s.length∧1≤s.length∧s.length≤64)∧(∀ j,j < i→gQ (s.getD j 0)=true)∧(Wk w U)∧(c 0=str s)∧(c 12= .int .i64 s.length)∧(c 13= .int .i64 i)∧(s.length - i=J)) _ ⟨0,(⟨ab,by rcases Nat.eq_zero_or_pos s.length with h | h <;> first | exact absurd (List.length_eq_zero_iff.1 h) E | exact h,ab⟩),(fun j O=>by omega),(Md.refl _ _),aa,aa,aa,aa⟩ ?_
 rintro J c U ⟨i,hi,hp,A,an,ap,aq,rfl⟩
 refine fx 0 an<|fx 12 ap<|fx 13 aq<|ak fun ag=>p (lt aa aa)<|nl<|ag<|az fun ah=>cd aa (fun am=> ?_) fun am=> ?_
 refine aO<|ah<|az fun q=>aB<|ak fun ai=>au (.int .i64 i)<|p (bZ (.int .i64 i) aa)<|nl<|ai<|ak fun Y=>au (str s)<|au (.int .i64 i)<|p (jm u9 aa aa ab)<|e<|cl AN (B9 (s.getD i 0) _) aa fun ar av aj=> ?_
 obtain ⟨rfl,M⟩:=aj
 refine p (no aa)<|nl<|Y<|cb aa (fun C=> ?_) fun C=> ?_
 have G:gQ (s.getD i 0)=false :=by simpa using C
 exact ak fun Z=>ay<|Z<|rt<|br<|tr<|tr<|br<|tr<|ba aa<|⟨by show bQ false =_; unfold np; rw [tw (i:=i) ab G,decide_eq_false (by simp)],Md.trans A M⟩
 have G:gQ (s.getD i 0)=true :=by simpa using C
 exact aO<|bn<|q<|rg aa<|p (ad aa aa<|cg ab)<|p mv<|nl<|tn<|⟨_,ab,i+1,ab,(fun j O=>by rcases gI j i with h | h <;> first | exact hp j h | (rw [show j=i by omega]; exact G)),(Md.trans A M),aa,aa,aa,aa⟩
 exact ext<|bj<|bj<|be<|a<|ak fun q=>p aA<|nl<|q<|rt<|ba aa<|⟨by show bQ true =_; unfold np; rw [tx (fun j O=>hp j ab),decide_eq_true ⟨hi.2.1,hi.2.2,aa⟩],A⟩
theorem y7 (s:List UInt8) (w:World) (hs:s.length≤1048576):
 bd ao 139 (a7 [str s]) w (fun v w'=>v=PM (bA s)∧Wk w w'):=by
 refine enter func139 aa ntmps139 aa<|ak fun am=>p aA<|p aA<|p aA<|ay<|am<|ak fun av=>e<|gx Ft fun a bp bc aR aI=>nl<|av<|az fun ax=>ak fun aC=>ay<|aC<|aB<|lp (fun aj I G=> ∃ (i:Nat) (acc:List UInt8) (c:Value),(i≤s.length∧acc.length≤i)∧(Bd 155 5 G a c acc)∧(Wk w G)∧(ik acc (s.drop i)=bA s)∧(I 0=str s)∧(I 6=aW a)∧(I 7= .int .i64 i)∧(s.length - i=aj)) _ ⟨0,[],.slice none 0 0,(by simp),(Bd.new aI),aR.md,aa,aa,aa,aa,aa⟩ ?_
 rintro aj I G ⟨i,acc,c,hi,q,A,hd,a4,a5,a6,rfl⟩
 refine fx 0 a4<|fx 6 a5<|fx 7 a6<|az fun aD=>ak fun aE=>au (.int .i64 i)<|au (str s)<|p (dv u9 aa aa)<|p (lt aa aa)<|nl<|aE<|cd aa (fun aZ=> ?_) fun aZ=> ?_
 refine aO<|aD<|az fun U=>aB<|ak fun aF=>au (str s)<|au (.int .i64 i)<|p (jm u9 aa aa ab)<|nl<|aF<|aB ?_
 refine eD (fun J ae=> ∃ (k:Nat),(k < s.length∧i≤k∧k≤i+1)∧(Bd 155 5 ae a c acc)∧(Wk w ae)∧(ik (acc++ [s.getD k 0]) (s.drop<|k+1)=bA s)∧(J 0=str s)∧(J 6=aW a)∧(J 7= .int .i64 k)) ?_ ?_
 refine aB<|az fun V=>aB<|az fun an=>aB<|az fun ap=>az fun aq=>az fun ar=>rg aa<|p (bR aa aa)<|ay<|ar<|cd aa (fun a0=> ?_) fun a0=> ?_
 have aY:(s.getD i 0).toNat=47:=ab
 refine ext<|bj<|bj<|be<|an<|az fun ah=>az fun M=> ?_
 have C:(fun w'=>True) G.drew:=trivial
 refine bM (fun w'=>True) aa wide C<|bH 1 aa (str s) C<|bH 2 aa (.int .i64 i) C<|aJ 3 aa (fun _ _=>bI ((i+1:Nat):Int) aa aa<|bf ab ab) C<|aJ 4 aa (fun _ _=>nn u9 aa aa ab) C<|he 0 aa ag<|cl wH (yX a c acc _ (q.md (Md.refl (fun _=>False) _).drew fun _ _ h=>h) ab) aa fun v21 bb aS=> ?_
 obtain ⟨rfl,aN⟩:=aS
 have E:(fun w'=>True) bb:=trivial
 refine ⟨E,?_⟩
 refine aJ 5 aa (fun _ _=>aA) E<|aJ 6 aa (fun _ _=>aA) E<|aJ 7 aa (fun _ _=>aA) E<|aJ 8 aa (fun _ _=>aA) E<|hn ag<|M<|rt<|tr<|br<|tr<|br<|tr<|br<|br<|tr<|tr<|br<|tr<|f4 aa aa aa aa aa ?_
 skip
 exact ⟨by rw [← hd,drop_cons 0 (by omega :i < s.length),Fk aY]; rfl,q.yU A (Md.trans (Md.refl _ _).drew aN) ab⟩
 refine aO<|aq<|ak fun ah=>p (bR aa aa)<|ay<|ah<|cd aa (fun a1=> ?_) fun a1=> ?_
 have Z:(s.getD i 0).toNat=92:=ab
 refine ext<|bj<|la aw<|bj<|be<|V<|ak fun M=>au (.int .i64 i)<|p (bI ((i+1:Nat):Int) aa aa<|bf ab ab)<|ay<|M<|ak fun ai=>p mv<|au (str s)<|p (dv u9 aa aa)<|p (bR aa aa)<|p mv<|gs (t:=32) aa (fun a3=> ?_) fun a3=> ?_
 refine aK aa<|aK aa<|aK aa<|aK aa<|aK aa<|p (bL aa)<|nl<|ai<|ct aa<|ak fun O=>p aA<|p aA<|p aA<|p aA<|nl<|O<|rt<|br<|tr<|br<|br<|tr<|tr ?_
 exact br<|tr<|f4 aa aa aa aa aa<|⟨by rw [← hd,drop_cons 0 (by omega :i < s.length),k0 ab,Fh Z]; rfl,A⟩
 refine aU aa (aH (str s) aa)<|aU aa mv<|aU aa (jm u9 aa aa ab)<|eg aa aa aa<|cl Ig (Oy (s.getD (i+1) 0) _) aa fun bh bl aT=> ?_
 obtain ⟨rfl,Y⟩:=aT
 refine aU aa (no aa)<|p (bC aa)<|nl<|ai<|cb aa (fun ac=> ?_) fun ac=> ?_
 exact ak fun O=>p aA<|p aA<|p aA<|ay<|O<|rt<|br<|tr<|br<|br<|tr<|tr<|br<|tr<|f4 aa aa aa aa aa<|⟨by rw [← hd,drop_cons 0 (by omega :i < s.length),drop_cons 0 (by omega :i+1 < s.length),Fi Z (by simpa using ac)]; rfl,Md.trans A Y⟩
 exact aO<|bn<|tn<|⟨i+1,ab,(q.md Y fun _ _ h=>h),(Md.trans A Y),(by rw [← hd,drop_cons 0 (by omega :i < s.length),drop_cons 0 (by omega :i+1 < s.length),Fg Z (by simpa using ac)]),aa,aa,aa⟩
 exact aO<|ap<|ext<|la aw<|bj<|la aw<|bj<|be<|tn<|⟨i,ab,q,A,(by rw [← hd,drop_cons 0 (by omega :i < s.length),Fj ab ab]),aa,aa,aa⟩
 rintro J ae ⟨k,hk,al,aM,a2,a8,a9,ba⟩
 refine fx 0 a8<|fx 6 a9<|fx 7 ba<|ak fun V=>au (str s)<|au (.int .i64 k)<|p (jm u9 aa aa ab)<|e<|cl AM (Fl a c (acc) (s.getD k 0) _ al ab) aa fun bi bm aV=> ?_
 obtain ⟨rfl,aG,aL,aP,bg⟩:=aV
 exact nl<|V<|ext<|be<|bn<|U<|rg aa<|au (.int .i64 k)<|p (ad aa aa<|cg ab)<|p aA<|nl<|tn<|⟨_,ab,k+1,acc++ [s.getD k 0],aG,(by rw [bJ,iH]; omega),aL,(al.step aM aP ab),a2,aa,aa,aa,aa⟩
 refine ext<|bj<|bj<|be<|ax<|ak fun U=>e<|cl wH (yX a c acc _ q ab) aa fun bk bo aX=> ?_
 obtain ⟨rfl,aQ⟩:=aX
 exact p aA<|p aA<|p aA<|ay<|U<|rt<|f4 aa aa aa aa aa<|⟨by rw [← hd,k0 ab,y6]; rfl,q.yU A aQ ab⟩
theorem Oa (s:List UInt8) (w:World) (hs:s.length≤1048576):
 bd ao 194 (a7 [str s]) w (fun v w'=>v= .tuple #[str (letE s).1,.int .i64 (letE s).2]∧Wk w w'):=by
 refine enter func194 aa ntmps194 aa<|ak fun ax=>p aA<|ay<|ax<|ak fun aG=>e<|al Sq fun U a9 bb G an=> ?_
 have aQ:bw a9.heap U (marksOf []):=by rw [OA]; exact an
 refine nl<|aG<|az fun aH=>ak fun aI=>au (str s)<|p (iM aa aa)<|nl<|aI<|cd aa (fun ai=> ?_) fun ai=> ?_
 exact ak fun O=>p aA<|ay<|O<|rt<|tr<|f2 aa aa aa<|⟨by show jc #[str [],.int .i64 21]=_; unfold letE; rw [if_pos (.inl ai)]; rfl,G.md⟩
 refine aO<|aH<|ak fun O=>e<|gx Ft fun E bq bf aw aR=>nl<|O<|az fun aJ=>ak fun aK=>au (str s)<|p (dv u9 aa aa)<|p mv<|nl<|aK<|aB ?_
 have bc:=an.lt
 refine lp (fun am a J=> ∃ (i:Nat) (c:Value),(i≤s.length)∧(∀ j,j < i→gQ (s.getD j 0)=true)∧(bw J.heap U<|marksOf<|lets<|s.take i)∧(Bd 155 5 J E c<|lets<|s.take i)∧(Wk w J)∧(a 0=str s)∧(a 4=aW U)∧(a 5=aW E)∧(a 10= .int .i64 s.length)∧(a 11= .int .i64 i)∧(s.length - i=am)) _ ⟨0,.slice none 0 0,ab,(fun j aj=>by omega),(aw.md.B aQ),(Bd.new aR),(Md.trans G.md aw.md),aa,aa,aa,aa,aa,aa⟩ ?_
 rintro am a J ⟨i,c,hi,hp,av,Y,ae,a2,a5,a6,a3,a4,rfl⟩
 refine fx 0 a2<|fx 4 a5<|fx 5 a6<|fx 10 a3<|fx 11 a4 ?_
 have a1:=De<|s.take i
 rw [ec] at a1
 have bg:=av.lt
 refine ak fun aL=>p (lt aa aa)<|nl<|aL<|az fun aM=>cd aa (fun a0=> ?_) fun a0=> ?_
 refine aO<|aM<|az fun C=>aB<|ak fun aC=>au (.int .i64 i)<|p (bZ (.int .i64 i) aa)<|nl<|aC<|az fun aD=>ak fun aE=>au (str s)<|au (.int .i64 i)<|p (jm u9 aa aa ab)<|e<|cl AN (B9 (s.getD i 0) _) aa fun bk a8 aX=> ?_
 obtain ⟨rfl,q⟩:=aX
 refine p (no aa)<|nl<|aE<|cb aa (fun ag=> ?_) fun ag=> ?_
 have I:gQ (s.getD i 0)=false :=by simpa using ag
 exact ak fun M=>p aA<|ay<|M<|rt<|tr<|br<|tr<|tr<|br<|tr<|f2 aa aa aa<|⟨by show jc #[str [],.int .i64 21]=_; unfold letE; rw [if_pos (.inr<|tw ab I)]; rfl,Md.trans ae q⟩
 have I:gQ (s.getD i 0)=true :=by simpa using ag
 have ap:Wk w a8:=Md.trans ae q
 have V:=q.B av
 have ac:=Y.md q fun _ _ h=>h
 have bi:=q.size
 refine aO<|aD<|ak fun M=>au (str s)<|au (.int .i64 i)<|p (jm u9 aa aa ab)<|p (kM Al aa aa<|by have :=iS (s.getD i 0); omega)<|p (ld oz aa<|OC V _)<|p (no aa)<|nl<|M<|cb aa (fun ah=> ?_) fun ah=> ?_
 have A:¬s.getD i 0∈lets (s.take i):=of_decide_eq_false<|by simpa using ah
 refine ak fun aF=>au (str s)<|au (.int .i64 i)<|p (jm u9 aa aa ab)<|p (kM Al aa aa<|by have :=iS (s.getD i 0); omega)<|e<|st Bt aa aa (aa) (V) (by rw [Dn]; have :=iS (s.getD i 0); omega) fun ba aq aP=> ?_
 have aV:=OD aP
 have aT:Wk w ba:=Md.trans' ap aq fun k hk h=>by omega
 have Z:=ac.md aq fun k hk h=>by have :=ac.gB hk; omega
 refine nl<|aF<|rg aa<|au (str s)<|au (.int .i64 i)<|p (jm u9 aa aa ab)<|e<|cl AM (Fl E c (lets<|s.take i) (s.getD i 0) _ Z ab) aa fun bl bo aY=> ?_
 obtain ⟨rfl,aN,aS,ar,bh⟩:=aY
 exact nl<|bn<|C<|rg aa<|p (ad aa aa<|cg ab)<|p mv<|nl<|tn<|⟨_,ab,i+1,aN,ab,(fun j aj=>by rcases gI j i with h | h <;> first | exact hp j h | (rw [show j=i by omega]; exact I)),(by rw [ud ab,if_neg A]; exact ar.B aV fun h=>by have :=Z.gB h; omega),(by rw [ud ab,if_neg A]; exact aS),(Z.step aT ar<|by have :=G.md.size; omega),aa,aa,aa,aa,aa,aa⟩
 have A:s.getD i 0∈lets (s.take i):=by simpa using ah
 exact aO<|bn<|C<|rg aa<|p (ad aa aa<|cg ab)<|p mv<|nl<|tn<|⟨_,ab,i+1,c,ab,(fun j aj=>by rcases gI j i with h | h <;> first | exact hp j h | (rw [show j=i by omega]; exact I)),(by rw [ud ab,if_pos A]; exact V),(by rw [ud ab,if_pos A]; exact ac),ap,aa,aa,aa,aa,aa,aa⟩
 refine ext<|bj<|bj<|be<|aJ<|ak fun C=>e<|cl wH (yX E c (lets<|s.take i) _ Y<|by have :=De (s.take i); rw [ec] at this; omega) aa fun bm bp aZ=> ?_
 obtain ⟨rfl,aU⟩:=aZ
 exact p aA<|ay<|C<|rt<|f2 aa aa aa<|⟨by show jc #[str (lets<|s.take i),.int .i64 0]=_; unfold letE; rw [if_neg (by rw [tx (fun j aj=>hp j ab)]; exact fun h=>h.elim ai c7),show s.take i=s from fq ab]; rfl,Y.yU ae aU<|by have :=G.md.size; omega⟩
theorem CQ {s:List UInt8} (h:¬s= []) (h1:¬(1 < s.length∧(s.getD 0 0).toNat=48)):¬oO s:=fun a=>a.elim h h1
theorem PG {s:List UInt8} (h:¬oO s):0 < s.length:=List.length_pos_iff.2 fun e=>h<|.inl e
theorem uk (s:List UInt8) (most:Int) (w:World) (hs:s.length≤1048576) (hm: -9223372036854775808≤most∧most≤9223372036854775807):
 bd ao 138 (a7 [str s,.int .i64 most]) w (fun v w'=>v= .tuple #[.int .i64 (eR s most).1,.int .i64 (eR s most).2]∧Wk w w'):=by
 refine enter func138 aa ntmps138 aa<|ak fun Z=>p aA<|ay<|Z ?_
 refine eD (fun M J=>(¬oO s)∧(J=w)∧(M 0=str s)∧(M 1= .int .i64 most)) ?_ ?_
 refine ak fun q=>au (str s)<|p (iM aa aa)<|p mv<|gs (t:=11) aa (fun E=> ?_) fun E=> ?_
 exact aK aa<|aK aa<|aK aa<|aK aa<|e7 aa<|e7 aa<|e7 aa<|aK aa<|p (bL aa)<|nl<|q<|ct aa<|ak fun A=>p aA<|p aA<|nl<|A<|rt<|tr<|f2 aa aa aa<|⟨by show jc #[.int .i64 0,.int .i64 13]=_; rw [DG (.inl E)]; rfl,Md.refl _ _⟩
 refine aU aa (aH (str s) aa)<|aU aa (dv u9 aa aa)<|aU aa (gt aa aa)<|aU aa mv<|gs (t:=15) aa (fun aw=> ?_) fun aw=> ?_
 refine aU aa (aH (str s) aa)<|aU aa (lW 0 u9 aa aa ab)<|aU aa (bR aa aa)<|aU aa (bL aa)<|p (bC aa)<|nl<|q<|cd aa (fun ap=> ?_) fun ap=> ?_
 exact ak fun A=>p aA<|ay<|A<|rt<|tr<|f2 aa aa aa<|⟨by show jc #[.int .i64 0,.int .i64 13]=_; rw [DG (.inr ⟨ab,ab⟩)]; rfl,Md.refl _ _⟩
 have G:=CQ (s:=s) E ab
 exact aO<|tn<|⟨G,aa,aa,aa⟩
 exact aK aa<|aK aa<|aK aa<|aU aa (bC aa)<|p (bC aa)<|nl<|q<|cf aa<|aO<|tn<|⟨(CQ (s:=s) E ab),aa,aa,aa⟩
 rintro M J ⟨G,am,aE,aF⟩
 refine fx 0 aE<|fx 1 aF ?_
 subst am
 have hp:=PG G
 refine ak fun q=>ay<|q<|az fun A=>ak fun ae=>au (str s)<|p (dv u9 aa aa)<|p mv<|nl<|ae<|aB<|lp (fun O c Y=> ∃ (i:Nat),(i≤s.length)∧(Y=J)∧((fi (s.take i):Int)≤max 0 most∧(0 < i→(fi (s.take i):Int)≤most))∧(∀ j,j < i→rr (s.getD j 0)=true)∧(c 0=str s)∧(c 1= .int .i64 most)∧(c 6=aj (fi<|s.take i))∧(c 22= .int .i64 s.length)∧(c 23= .int .i64 i)∧(s.length - i=O)) _ ⟨0,ab,aa,(by rw [nG]; show (0:Int)≤_∧_; omega),(fun j V=>by omega),aa,aa,(iv<|by first | rfl | (rw [rp ab])),aa,aa,aa⟩ ?_
 rintro O c Y ⟨i,hi,an,hn,U,aG,aI,aM,aJ,aL,rfl⟩
 refine fx 0 aG<|fx 1 aI<|fx 6 aM<|fx 22 aJ<|fx 23 aL ?_
 subst an
 have aN:=iS<|s.getD i 0
 refine ak fun ag=>p (lt aa aa)<|nl<|ag<|az fun ah=>cd aa (fun aq=> ?_) fun aq=> ?_
 refine aO<|ah<|az fun I=>aB<|ak fun ai=>au (.int .i64 i)<|p (bZ (.int .i64 i) aa)<|nl<|ai<|ak fun al=>au (str s)<|au (.int .i64 i)<|p (jm u9 aa aa ab)<|p (xa u3 sA aa<|cg ab)<|p (sb aa aa<|cg ab)<|ay<|al<|az fun ac=>ak fun C=>p mv<|p (lt aa aa)<|p mv<|gs (t:=33) aa (fun ax=> ?_) fun ax=> ?_
 refine aK aa<|aK aa<|p (bL aa)<|p mv<|aK aa<|aK aa<|aK aa<|p (bL aa)<|p mv<|aK aa<|aK aa<|aK aa<|aK aa<|aK aa<|aK aa<|p (bL aa)<|nl<|C<|ct aa<|ak fun a=>p aA<|p aA<|nl<|a<|rt<|tr<|br<|tr<|tr<|br<|tr ?_
 exact f2 aa aa aa<|⟨by show jc #[.int .i64 0,.int .i64 13]=_; rw [DF (i:=i) ab (BI ab)]; rfl,Md.refl _ _⟩
 refine aU aa mv<|aU aa (gt aa aa)<|p (bC aa)<|p mv<|gs (t:=37) aa (fun aC=> ?_) fun aC=> ?_
 exact aK aa<|aK aa<|aK aa<|p (bL aa)<|p mv<|aK aa<|aK aa<|aK aa<|aK aa<|aK aa<|aK aa<|p (bL aa)<|nl<|C<|ct aa<|az fun a=>rg aa<|p aA<|ay<|a<|rt<|tr<|br<|tr<|tr<|br<|tr<|f2 aa aa aa<|⟨by show jc #[.int .i64 0,.int .i64 13]=_; rw [DF (i:=i) ab (BI ab)]; rfl,Md.refl _ _⟩
 refine aU aa (aH (.int .i64 most) aa)<|aU aa mv<|aU aa (lt aa aa)<|p (bC aa)<|p mv<|gs (t:=42) aa (fun aD=> ?_) fun aD=> ?_
 refine aK aa<|aK aa<|aK aa<|aK aa<|aK aa<|aK aa<|p (bL aa)<|nl<|C<|ct aa<|ak fun a=>p aA<|ay<|a ?_
 exact rt<|tr<|br<|tr<|tr<|br<|tr<|f2 aa aa aa<|⟨by show jc #[.int .i64 0,.int .i64 13]=_; rw [DD (i+1) (by rw [rp ab]; omega)]; rfl,Md.refl _ _⟩
 have aP:((s.getD i 0).toNat:Int) - 48≤most:=ab
 refine aU aa (aH (aj<|fi<|s.take i) aa)<|aU aa (aH (.int .i64 most) aa)<|aU aa mv<|aU aa (sb aa aa<|cg ab)<|aU aa (nZ (((most - (((s.getD i 0).toNat:Int) - 48)).toNat / 10:Nat):Int) aa aa ab<|bf ab ab)<|aU aa (gt aa aa)<|p (bC aa)<|nl<|C<|cd aa (fun ar=> ?_) fun ar=> ?_
 exact ak fun a=>p aA<|ay<|a<|rt<|tr<|br<|tr<|tr<|br<|tr<|f2 aa aa aa<|⟨by show jc #[.int .i64 0,.int .i64 13]=_; rw [DD (i+1) (by rw [rp ab]; omega)]; rfl,Md.refl _ _⟩
 have av:rr (s.getD i 0)=true :=decide_eq_true ab
 exact aO<|ac<|rg aa<|au (aj<|fi<|s.take i)<|p (oU ((fi (s.take i)*10:Nat):Int) aa aa<|bf ab ab)<|p mv<|p (bI ((fi (s.take i)*10 +((s.getD i 0).toNat - 48):Nat):Int) aa aa<|bf ab ab)<|p aA<|nl<|bn<|I<|rg aa<|p (ad aa aa<|cg ab)<|p mv<|nl<|tn<|⟨_,ab,i+1,ab,aa,(by rw [rp ab]; omega),(fun j V=>by rcases gI j i with h | h <;> first | exact U j h | (rw [show j=i by omega]; exact av)),aa,aa,(iv<|by first | rfl | (rw [rp ab])),aa,aa,aa⟩
 exact ext<|bj<|bj<|be<|A<|ak fun I=>au (aj<|fi<|s.take i)<|p (bZ (aj<|fi<|s.take i) aa)<|ay<|I<|rt<|f2 aa aa aa<|⟨by show jc #[aj (fi<|s.take i),.int .i64 0]=_; rw [show s.take i=s from fq ab,DH G (fun j V=>U j ab) (by rw [show s.take i=s from fq ab] at hn; omega)],Md.refl _ _⟩
theorem yF {s pr:List UInt8} (h:s.take pr.length=pr):pr.length≤s.length:=by
 have :=congrArg k3 h
 rw [ec] at this; omega
theorem Rb {s:List UInt8} (h:decide (1≤s.length∧s.drop (s.length - 1)= [13])=true):iW s=s.take (s.length - 1):=by
 have h1:=of_decide_eq_true h
 rw [C6 ab] at h1
 exact Lr ab<|by simpa using h1.2
theorem Rc {s:List UInt8} (h:decide (1≤s.length∧s.drop (s.length - 1)= [13])=false):iW s=s:=by
 have h1:=of_decide_eq_false h
 refine Lq fun h2=>h1 ⟨ab,?_⟩
 rw [C6 ab,h2.2]
theorem NK (c:UInt8):dT c [c]=0:=by unfold dT; simp
theorem xU (s pr:List UInt8) (w:World) (hs:s.length≤1099511627776) (hp:pr.length≤1099511627776):
 bd ao 211 (a7 [str s,str pr]) w (fun v w'=>v= .bool (decide (s.take pr.length=pr))∧Wk w w'):=by
 refine enter func211 aa ntmps211 aa<|ak fun c=>ay<|c<|ak fun a=>au (str s)<|p (dv u9 aa aa)<|au (str pr)<|p (dv u9 aa aa)<|p (ge aa aa)<|p mv<|gs (t:=10) aa (fun i=> ?_) fun i=> ?_
 exact aU aa (aH (str s) aa)<|aU aa (aH (str pr) aa)<|aU aa (dv u9 aa aa)<|aU aa (sj u9 aa aa ab)<|aU aa (aH (str pr) aa)<|aU aa (iM aa aa)<|p (bL aa)<|p aA<|nl<|a<|rt<|ba aa<|⟨aa,Md.refl _ _⟩
 exact aK aa<|aK aa<|aK aa<|aK aa<|aK aa<|aK aa<|p (bC aa)<|p aA<|nl<|a<|rt<|ba aa<|⟨by show bQ false =_; rw [decide_eq_false (fun h=>by have :=yF h; omega)],Md.refl _ _⟩
theorem Rt (s pr:List UInt8) (w:World) (hs:s.length≤1099511627776) (hp:pr.length≤1099511627776):
 bd ao 150 (a7 [str s,str pr]) w (fun v w'=>v=str (eV s pr)∧Wk w w'):=by
 refine enter func150 aa ntmps150 aa<|ak fun A=>ay<|A<|az fun C=>ak fun E=>au (str s)<|au (str pr)<|e<|cl wm (xU s pr _ hs hp) aa fun J M G=> ?_
 obtain ⟨rfl,q⟩:=G
 refine nl<|E<|cb aa (fun i=> ?_) fun i=> ?_
 have a:=of_decide_eq_true i
 have I:=yF a
 exact ak fun c=>au (str s)<|au (str pr)<|p (dv u9 aa aa)<|p (nn u9 aa aa ab)<|p aA<|nl<|c<|rt<|tr<|ba aa<|⟨by show str (s.drop (pr.length:Int).toNat)=_; unfold eV; rw [if_pos a]; rfl,q⟩
 have a:=of_decide_eq_false i
 exact aO<|C<|ak fun c=>au (str s)<|p (bZ (str s) aa)<|nl<|c<|rt<|ba aa<|⟨by show str s=_; unfold eV; rw [if_neg a],q⟩
theorem EM (s pr:List UInt8) (w:World) (hs:s.length≤1099511627776) (hp:pr.length≤1099511627776):
 bd ao 96 (a7 [str s,str pr]) w (fun v w'=>v=str (eV s pr)∧Wk w w'):=by
 refine enter func96 aa ntmps96 aa<|ak fun a=>ay<|a<|ak fun c=>au (str s)<|au (str pr)<|e<|cl H9 (Rt s pr _ hs hp) aa fun A C q=> ?_
 obtain ⟨rfl,i⟩:=q
 exact ay<|c<|rt<|ba aa<|⟨aa,i⟩
theorem xV (s pr:List UInt8) (w:World) (hs:s.length≤1099511627776) (hp:pr.length≤1099511627776):
 bd ao 210 (a7 [str s,str pr]) w (fun v w'=>v= .bool (decide (pr.length≤s.length∧s.drop (s.length - pr.length)=pr))∧Wk w w'):=by
 refine enter func210 aa ntmps210 aa<|ak fun c=>ay<|c<|ak fun a=>au (str s)<|p (dv u9 aa aa)<|au (str pr)<|p (dv u9 aa aa)<|p (ge aa aa)<|p mv<|gs (t:=10) aa (fun i=> ?_) fun i=> ?_
 exact aU aa (aH (str s) aa)<|aU aa (aH (str s) aa)<|aU aa (dv u9 aa aa)<|aU aa (aH (str pr) aa)<|aU aa (dv u9 aa aa)<|aU aa (sb aa aa<|cg ab)<|aU aa (nn u9 aa aa ab)<|aU aa (aH (str pr) aa)<|aU aa (iM aa aa)<|p (bL aa)<|ay<|a<|rt<|ba aa<|⟨by show bQ (decide (s.drop ((s.length:Int) - (pr.length:Int)).toNat=pr))=_; rw [show ((s.length:Int) - (pr.length:Int)).toNat=s.length - pr.length from by omega]; exact bv (by constructor <;> intro h <;> first | exact ⟨ab,h⟩ | exact h.2),Md.refl _ _⟩
 exact aK aa<|aK aa<|aK aa<|aK aa<|aK aa<|aK aa<|aK aa<|aK aa<|aK aa<|p (bC aa)<|ay<|a<|rt<|ba aa<|⟨by show bQ false =_; rw [decide_eq_false ab],Md.refl _ _⟩
theorem Rx (s:List UInt8) (w:World) (hs:s.length≤1099511627776):
 bd ao 149 (a7 [str s,str [13]]) w (fun v w'=>v=str (iW s)∧Wk w w'):=by
 refine enter func149 aa ntmps149 aa<|ak fun q=>ay<|q<|az fun A=>ak fun C=>au (str s)<|au (str [13])<|e<|cl wj (xV s [13] _ hs aw) aa fun J M E=> ?_
 obtain ⟨rfl,i⟩:=E
 refine nl<|C<|cb aa (fun a=> ?_) fun a=> ?_
 have I:=(of_decide_eq_true a).1
 have G:([13]:List UInt8).length=1:=rfl
 exact ak fun c=>au (str s)<|au (str s)<|p (dv u9 aa aa)<|au (str [13])<|p (dv u9 aa aa)<|p (sb aa aa<|cg ab)<|p (sj u9 aa aa ab)<|ay<|c<|rt<|tr<|ba aa<|⟨by show str (s.take ((s.length:Int) - (([13]:List UInt8).length:Int)).toNat)=_; rw [Rb a,show ((s.length:Int) - (([13]:List UInt8).length:Int)).toNat=s.length - 1 from by simp only [iH]; omega],i⟩
 exact aO<|A<|ak fun c=>au (str s)<|p (bZ (str s) aa)<|nl<|c<|rt<|ba aa<|⟨by show str s=_; rw [Rc a],i⟩
theorem Ry (s:List UInt8) (w:World) (hs:s.length≤1099511627776):
 bd ao 95 (a7 [str s,str [13]]) w (fun v w'=>v=str (iW s)∧Wk w w'):=by
 refine enter func95 aa ntmps95 aa<|ak fun a=>ay<|a<|ak fun c=>au (str s)<|au (str [13])<|e<|cl AF (Rx s _ hs) aa fun A C q=> ?_
 obtain ⟨rfl,i⟩:=q
 exact ay<|c<|rt<|ba aa<|⟨aa,i⟩
theorem CV (s:List UInt8) (c:UInt8) (w:World):
 bd ao 269 (a7 [str s,.int .u8 c.toNat]) w (fun v w'=>v= .int .i64 (dT c s)∧Wk w w'):=by
 exact enter func269 aa ntmps269 aa<|ak fun a=>ay<|a<|ak fun i=>au (str s)<|au (.int .u8 c.toNat)<|p (Bk (NN s c _) aa)<|ay<|i<|rt<|ba aa<|⟨aa,Md.refl _ _⟩
theorem CU (s:List UInt8) (c:UInt8) (w:World):
 bd ao 264 (a7 [str s,str [c]]) w (fun v w'=>v= .int .i64 (dT c s)∧Wk w w'):=by
 refine enter func264 aa ntmps264 aa<|ak fun q=>ay<|q<|ak fun A=>au (str [c])<|p (dv u9 aa aa)<|ay<|A<|az fun J=>aB<|ak fun C=>p mv<|p (bR aa aa)<|p mv<|gs (t:=19) aa (fun h=>absurd h<|by simp) fun O=>aU aa (aH (str [c]) aa)<|aU aa (aH (str s) aa)<|aU aa (iM aa aa)<|p (bC aa)<|ay<|C<|cd aa (fun i=> ?_) fun i=> ?_
 exact ak fun a=>ay<|a<|rt<|br<|tr<|ba aa<|⟨by show gG .i64 0=_; rw [← i,NK],Md.refl _ _⟩
 refine ak fun a=>p mv<|p (bR aa aa)<|ay<|a<|cd aa (fun M=> ?_) fun h=>absurd aa h
 refine ak fun E=>au (str s)<|au (str [c])<|p (lW 0 u9 aa aa<|by simp)<|e<|cl AU (CV s c _) aa fun v30 U I=> ?_
 obtain ⟨rfl,G⟩:=I
 exact ay<|E<|rt<|br<|tr<|ba aa<|⟨aa,G⟩
theorem Nu (s:List UInt8) (c:UInt8) (w:World):
 bd ao 298 (a7 [str s,str [c]]) w (fun v w'=>v= .int .i64 (dT c s)∧Wk w w'):=by
 refine enter func298 aa ntmps298 aa<|ak fun a=>ay<|a<|ak fun i=>au (str s)<|au (str [c])<|e<|cl AT (CU s c _) aa fun C E A=> ?_
 obtain ⟨rfl,q⟩:=A
 exact ay<|i<|rt<|ba aa<|⟨aa,q⟩
theorem Ky (s:List UInt8) (c:UInt8) (w:World) (hs:s.length≤1099511627776):
 bd ao 238 (a7 [str s,str [c]]) w (fun v w'=>v= .tuple #[str (kK c s),str (lS c s),.bool (!decide (dT c s < 0))]∧Wk w w'):=by
 refine enter func238 aa ntmps238 aa<|ak fun C=>p aA<|p aA<|ay<|C<|az fun E=>ak fun G=>au (str s)<|au (str [c])<|e<|cl AT (CU s c _) aa fun v10 q J=> ?_
 obtain ⟨rfl,A⟩:=J
 refine ay<|G<|ak fun I=>p mv<|p (ge aa aa)<|nl<|I<|cd aa (fun M=> ?_) fun M=> ?_
 have O:=qa (c:=c) (l:=s) ab
 have U:[c].length=1:=rfl
 refine az fun i=> ?_
 have a:(fun w'=>Wk q w') q.drew:=(Md.refl _ _).drew
 exact bM (fun w'=>Wk q w') aa wide a<|bH 0 aa (str s) a<|aJ 1 aa (fun _ _=>mv) a<|aJ 2 aa (fun _ _=>sj u9 aa aa ab) a<|bH 3 aa (str s) a<|aJ 4 aa (fun _ _=>mv) a<|bH 5 aa (str [c]) a<|aJ 6 aa (fun _ _=>dv u9 aa aa) a<|aJ 7 aa (fun _ _=>bI ((s.idxOf c+1:Nat):Int) aa aa<|bf ab ab) a<|aJ 8 aa (fun _ _=>nn u9 aa aa ab) a<|aJ 9 aa (fun _ _=>aA) a<|aJ 10 aa (fun _ _=>aA) a<|aJ 11 aa (fun _ _=>aA) a<|hn ag<|i<|rt<|tr<|f3 aa aa aa aa<|⟨by show jc #[str (s.take (dT c s).toNat),str (s.drop<|s.idxOf c+1),.bool true]=_; unfold kK lS; rw [if_neg ab,if_neg ab,O.1,decide_eq_false ab]; rfl,Md.trans A (Md.refl _ _).drew⟩
 exact aO<|E<|ak fun i=>au (str s)<|p (bZ (str s) aa)<|p aA<|p aA<|nl<|i<|rt<|f3 aa aa aa aa<|⟨by show jc #[str s,str [],.bool false]=_; unfold kK lS; rw [if_pos ab,if_pos ab,decide_eq_true ab]; rfl,A⟩
theorem KC (s:List UInt8) (c:UInt8) (w:World) (hs:s.length≤1099511627776):
 bd ao 190 (a7 [str s,str [c]]) w (fun v w'=>v= .tuple #[str (kK c s),str (lS c s),.bool (!decide (dT c s < 0))]∧Wk w w'):=by
 refine enter func190 aa ntmps190 aa<|ak fun a=>p aA<|p aA<|ay<|a<|az fun i=>rg aa<|au (str s)<|au (str [c])<|e<|cl Ip (Ky s c _ hs) aa fun v9 C A=> ?_
 obtain ⟨rfl,q⟩:=A
 exact p (xt aa aa)<|p (xt aa aa)<|p (xt aa aa)<|p aA<|p aA<|ay<|i<|rt<|f3 aa aa aa aa<|⟨aa,q⟩
theorem NH (x:Nat) (w:World):
 bd ao 302 (a7 [aR x]) w (fun v w'=>v= .bool false∧Wk w w'):=by
 exact enter func302 aa ntmps302 aa<|ak fun a=>ay<|a<|ak fun c=>au (aR x)<|au (aR x)<|p (fR aa aa)<|ay<|c<|rt<|ba aa<|⟨congrArg bQ (decide_eq_false fun h=>h aa),Md.refl _ _⟩
theorem ks (x y:Nat) (w:World):
 bd ao 289 (a7 [aR x,aR y]) w (fun v w'=>v= .bool (bF x y)∧Wk w w'):=by
 refine enter func289 aa ntmps289 aa<|ak fun a=>ay<|a<|ak fun c=>au (aR x)<|e<|cl IT (NH x _) aa fun v6 A q=> ?_
 obtain ⟨rfl,i⟩:=q
 exact p mv<|aK aa<|aK aa<|aK aa<|p (bC aa)<|p mv<|aU aa (aH (aR x) aa)<|aU aa (aH (aR y) aa)<|aU aa (lt aa aa)<|p (bC aa)<|ay<|c<|rt<|ba aa<|⟨by show bQ (decide ((x:Int) < (y:Int)))=_; unfold bF; exact congrArg bQ (decide_eq_decide.2 ab),i⟩
theorem NG (d:Array Nat) (a b:Nat) (B n cp:Nat) (A:Option Addr) (w:World) (aq:w.ownsRow B 51 1 (.slice A n cp) n (LE aR d)) (a5:a≤b∧b≤n) (bc:n≤1099511627776):
 bd ao 283 (a7 [.slice A n cp,aj a,aj b]) w (fun v w'=>v= .tuple #[]∧w'.ownsRow B 51 1 (.slice A n cp) n (LE aR<|F7 bF d a b)∧Md (fun q=>(bB A n cp).ownBlock=some q) w w'):=by
 have ba:=ep aq
 refine enter func283 aa ntmps283 aa<|ak fun aw=>au (aj a)<|p (bI ((a+1:Nat):Int) aa aa<|bf ab ab)<|ay<|aw<|aB<|lp (fun Y ac al=> ∃ (i:Nat) (V:Array Nat),(a+1≤i∧i≤n+1)∧(Go.Sort.insOuter bF a b i V=F7 bF d a b)∧(al.ownsRow B 51 1 (.slice A n cp) n<|LE aR V)∧(Md (fun q=>(bB A n cp).ownBlock=some q) w al)∧(ac 0= .slice A n cp)∧(ac 1=aj a)∧(ac 2=aj b)∧(ac 6=aj i)∧(b - i=Y)) _ ⟨a+1,d,ab,aa,aq,(Md.refl _ _),aa,aa,aa,aa,aa⟩ ?_
 rintro Y ac al ⟨i,V,hi,ah,ar,ap,aU,aW,aY,aZ,rfl⟩
 refine fx 0 aU<|fx 1 aW<|fx 2 aY<|fx 6 aZ<|az fun ax=>ak fun aC=>au (aj i)<|au (aj b)<|p (lt aa aa)<|nl<|aC<|cd aa (fun aQ=> ?_) fun aQ=> ?_
 refine aO<|ax<|az fun am=>aB<|ak fun aD=>au (aj i)<|p (bZ (aj i) aa)<|nl<|aD<|aB<|lp (fun Y U M=> ∃ (j:Nat) (E:Array Nat),(a≤j∧j≤i)∧(F6 bF a j E=F6 bF a i V)∧(M.ownsRow B 51 1 (.slice A n cp) n<|LE aR E)∧(Md (fun q=>(bB A n cp).ownBlock=some q) w M)∧(U 0= .slice A n cp)∧(U 1=aj a)∧(U 2=aj b)∧(U 6=aj i)∧(U 7=aj j)∧(j=Y)) _ ⟨i,V,ab,aa,ar,ap,aa,aa,aa,aa,aa,aa⟩ ?_
 rintro Y U M ⟨j,E,bb,ai,I,ad,a0,a1,a2,a3,a4,rfl⟩
 refine fx 0 a0<|fx 1 a1<|fx 2 a2<|fx 6 a3<|fx 7 a4<|az fun aF=>az fun an=> ?_
 have a9:=ep I
 have c:(fun w'=>Wk M w') M.drew:=(Md.refl _ _).drew
 refine bM (fun w'=>Wk M w') aa wide c<|bH 0 aa (aj j) c<|bH 1 aa (aj a) c<|aJ 2 aa (fun _ _=>gt aa aa) c<|aJ 3 aa (fun _ _=>mv) c<|ir (t:=19) aa (fun aP=> ?_) fun aP=> ?_
 refine bg 4 aa (fun _ _=>aH (.slice A n cp) aa) c<|bg 5 aa (fun _ _=>aH (aj j) aa) c<|bg 6 aa (fun _ _=>a6 bE aa aa ab<|aE.ok ((aV I).2)<|bG ab) c<|bg 7 aa (fun w' G=>ld bP aa<|cA (i:=j) ((aV I).2.wk G) ab) c<|bg 8 aa (fun _ _=>aH (.slice A n cp) aa) c<|bg 9 aa (fun _ _=>aH (aj j) aa) c<|bg 10 aa (fun _ _=>c4 ((j - 1:Nat):Int) aa aa<|bf ab ab) c<|bg 11 aa (fun _ _=>a6 bE aa aa ab<|aE.ok ((aV I).2)<|bG ab) c<|bg 12 aa (fun w' G=>ld bP aa<|cA (i:=j - 1) ((aV I).2.wk G) ab) c<|kq 13 aa ag aa aa aa<|cl kj (ks E[j]! E[j - 1]! _) aa fun bh Z aN=> ?_
 obtain ⟨rfl,aI⟩:=aN
 have O:(fun w'=>Wk M w') Z:=Md.trans c aI
 refine ⟨O,?_⟩
 refine aJ 14 aa (fun _ _=>bL aa) O<|hn ag<|an<|cb aa (fun ae=> ?_) fun ae=> ?_
 refine aO<|aF<|az fun aG=>aB ?_
 have J:=aX I O
 have C:(fun w'=>Wk Z w') Z.drew:=(Md.refl _ _).drew
 refine eB (fun w'=>Wk Z w') 15 aa wide C<|bl 0 aa (.slice A n cp) C<|bl 1 aa (aj j) C<|bl 2 aa (.slice A n cp) C<|bl 3 aa (aj j) C<|bz 4 aa (fun _=>c4 ((j - 1:Nat):Int) aa aa<|bf ab ab) (fun _=>C)<|bl 5 aa (.slice A n cp) C<|bl 6 aa (aj j) C<|bz 7 aa (fun _=>c4 ((j - 1:Nat):Int) aa aa<|bf ab ab) (fun _=>C)<|bz 8 aa (fun _=>a6 bE aa aa ab<|aE.ok ((aV J).2)<|bG ab) (fun _=>C)<|dU 9 aa (fun w' G=>ld bP aa<|cA (i:=j - 1) ((aV J).2.wk G) ab) C<|bl 10 aa (.slice A n cp) C<|bl 11 aa (aj j) C<|bz 12 aa (fun _=>a6 bE aa aa ab<|aE.ok ((aV J).2)<|bG ab) (fun _=>C)<|dU 13 aa (fun w' G=>ld bP aa<|cA (i:=j) ((aV J).2.wk G) ab) C<|bz 14 aa (fun _=>a6 bE aa aa ab<|aE.ok ((aV J).2)<|bG ab) (fun _=>C) ?_
 refine c5 15 aa ag ag<|eT (u:=E[j - 1]!) (j) (aX J C) eJ aa aa aa ab fun bi aL aS=>bz 16 aa (fun _=>a6 bE aa aa ab<|aE.ok ((aV J).2)<|bG ab) (fun h=>c7<|(show true =_ from by kernel_rfl).trans h)<|c5 17 aa ag ag<|eT (u:=E[j]!) (j - 1) aS eJ aa aa aa ab fun av aM aT=> ?_
 have G:av.ownsRow B 51 1 (.slice A n cp) n (LE aR<|bN E (j)<|j - 1):=aT
 have aK:Md (fun q=>(bB A n cp).ownBlock=some q) Z av:=Md.trans (C.mono fun _ _ h=>h.elim)<|Md.trans aL aM
 exact eA ag<|bn<|aG<|rg aa<|au (aj j)<|p (c4 ((j - 1:Nat):Int) aa aa<|bf ab ab)<|p aA<|nl<|tn<|⟨_,ab,j - 1,bN E j (j - 1),ab,(by rw [← ai,NC (show a < j by omega) ae]),G,(Md.trans ad<|Md.trans (O.mono fun _ _ h=>h.elim) aK),aa,aa,aa,aa,aa,aa⟩
 exact ext<|bj<|bj<|be<|bn<|am<|rg aa<|au (aj i)<|p (bI ((i+1:Nat):Int) aa aa<|bf ab ab)<|p aA<|nl<|tn<|⟨_,ab,i+1,E,ab,(by rw [← ah,CY (show i < b by omega),← ai,ND (by simpa using ae)]),(aX I O),(Md.trans ad<|O.mono fun _ _ h=>h.elim),aa,aa,aa,aa,aa⟩
 exact a8 4 aa c<|a8 5 aa c<|a8 6 aa c<|a8 7 aa c<|a8 8 aa c<|a8 9 aa c<|a8 10 aa c<|a8 11 aa c<|a8 12 aa c<|a8 13 aa c<|aJ 14 aa (fun _ _=>bC aa) c<|hn ag<|an<|cf aa<|ext<|bj<|bj<|be<|bn<|am<|rg aa<|au (aj i)<|p (bI ((i+1:Nat):Int) aa aa<|bf ab ab)<|p aA<|nl<|tn<|⟨_,ab,i+1,E,ab,(by rw [← ah,CY (show i < b by omega),← ai,NF ab]),(aX I (Md.refl _ _).drew),ad.drew,aa,aa,aa,aa,aa⟩
 exact ext<|bj<|bj<|be<|f0 aa<|⟨aa,by rw [← ah,NB ab]; exact ar,ap⟩
theorem QC (d:Array Nat) (lo hi first :Nat) (B n cp:Nat) (C:Option Addr) (w:World) (aP:w.ownsRow B 51 1 (.slice C n cp) n (LE aR d)) (bh:lo≤hi∧first+hi≤n) (bk:n≤1099511627776):
 bd ao 299 (a7 [.slice C n cp,aj lo,aj hi,aj first]) w (fun v w'=>v= .tuple #[]∧w'.ownsRow B 51 1 (.slice C n cp) n (LE aR<|oh bF hi first lo d)∧Md (fun q=>(bB C n cp).ownBlock=some q) w w'):=by
 refine enter func299 aa ntmps299 aa<|ak fun ax=>au (aj lo)<|p (bZ (aj lo) aa)<|nl<|ax<|aB<|lp (fun ap ae V=> ∃ (r:Nat) (E:Array Nat),(r≤hi)∧(oh bF hi first r E=oh bF hi first lo d)∧(V.ownsRow B 51 1 (.slice C n cp) n<|LE aR E)∧(Md (fun q=>(bB C n cp).ownBlock=some q) w V)∧(ae 0= .slice C n cp)∧(ae 2=aj hi)∧(ae 3=aj first)∧(ae 8=aj r)∧(hi - r=ap)) _ ⟨lo,d,ab,aa,aP,(Md.refl _ _),aa,aa,aa,aa,aa⟩ ?_
 rintro ap ae V ⟨r,E,bm,an,J,ai,a0,a1,a2,a3,rfl⟩
 refine fx 0 a0<|fx 2 a1<|fx 3 a2<|fx 8 a3<|aB<|ak fun ay=>au (aj r)<|p (oU ((2 *r:Nat):Int) aa aa<|bf ab ab)<|p (bI ((2 *r+1:Nat):Int) aa aa<|bf ab ab)<|p aA<|nl<|ay<|az fun aC=>ak fun aD=>p mv<|au (aj hi)<|p (ge aa aa)<|nl<|aD<|cd aa (fun aT=> ?_) fun aT=> ?_
 exact ext<|bj<|la aw<|bj<|be<|f0 aa<|⟨aa,by rw [← an,QA ab]; exact J,ai⟩
 refine aO<|aC ?_
 refine eD (fun ac U=> ∃ (c:Nat),(r < c∧c < hi)∧(oh bF hi first r E=if (!bF E[first+r]! E[first+c]!)=true then E else oh bF hi first c (bN E (first+r)<|first+c))∧(U.ownsRow B 51 1 (.slice C n cp) n<|LE aR E)∧(Md (fun q=>(bB C n cp).ownBlock=some q) w U)∧(ac 0= .slice C n cp)∧(ac 2=aj hi)∧(ac 3=aj first)∧(ac 8=aj r)∧(ac 9=aj c)) ?_ ?_
 refine az fun ah=> ?_
 have aU:=ep J
 have a:(fun w'=>Wk V w') V.drew:=(Md.refl _ _).drew
 refine bM (fun w'=>Wk V w') aa wide a<|aJ 0 aa (fun _ _=>mv) a<|aJ 1 aa (fun _ _=>bI ((2 *r+1 +1:Nat):Int) aa aa<|bf ab ab) a<|bH 2 aa (aj hi) a<|aJ 3 aa (fun _ _=>lt aa aa) a<|aJ 4 aa (fun _ _=>mv) a<|ir (t:=21) aa (fun aW=> ?_) fun aW=> ?_
 refine bg 5 aa (fun _ _=>aH (.slice C n cp) aa) a<|bg 6 aa (fun _ _=>aH (aj first) aa) a<|bg 7 aa (fun _ _=>mv) a<|bg 8 aa (fun _ _=>bI ((first+(2 *r+1):Nat):Int) aa aa<|bf ab ab) a<|bg 9 aa (fun _ _=>a6 bE aa aa ab<|aE.ok ((aV J).2)<|bG ab) a<|bg 10 aa (fun w' I=>ld bP aa<|cA (i:=first+(2 *r+1)) ((aV J).2.wk I) ab) a<|bg 11 aa (fun _ _=>aH (.slice C n cp) aa) a<|bg 12 aa (fun _ _=>aH (aj first) aa) a<|bg 13 aa (fun _ _=>mv) a<|bg 14 aa (fun _ _=>bI ((first+(2 *r+1):Nat):Int) aa aa<|bf ab ab) a<|bg 15 aa (fun _ _=>bI ((first+(2 *r+1)+1:Nat):Int) aa aa<|bf ab ab) a<|bg 16 aa (fun _ _=>a6 bE aa aa ab<|aE.ok ((aV J).2)<|bG ab) a<|bg 17 aa (fun w' I=>ld bP aa<|cA (i:=first+(2 *r+1)+1) ((aV J).2.wk I) ab) a<|kq 18 aa ag aa aa aa<|cl kj (ks E[first+(2 *r+1)]! E[first+(2 *r+1)+1]! _) aa fun bo bc aQ=> ?_
 obtain ⟨rfl,aI⟩:=aQ
 have Y:(fun w'=>Wk V w') bc:=Md.trans a aI
 refine ⟨Y,?_⟩
 refine aJ 19 aa (fun _ _=>bL aa) Y<|hn ag<|ah<|cb aa (fun al=> ?_) fun al=> ?_
 exact rg aa<|p mv<|p (bI ((2 *r+2:Nat):Int) aa aa<|bf ab ab)<|p aA<|nl<|tn<|⟨2 *r+2,ab,(QB ab al),(aX J Y),(Md.trans ai<|Y.mono fun _ _ h=>h.elim),aa,aa,aa,aa,aa⟩
 exact aO<|tn<|⟨2 *r+1,ab,(Eo ab<|.inr al),(aX J Y),(Md.trans ai<|Y.mono fun _ _ h=>h.elim),aa,aa,aa,aa,aa⟩
 exact a8 5 aa a<|a8 6 aa a<|a8 7 aa a<|a8 8 aa a<|a8 9 aa a<|a8 10 aa a<|a8 11 aa a<|a8 12 aa a<|a8 13 aa a<|a8 14 aa a<|a8 15 aa a<|a8 16 aa a<|a8 17 aa a<|a8 18 aa a<|aJ 19 aa (fun _ _=>bC aa) a<|hn ag<|ah<|cf aa<|aO<|tn<|⟨2 *r+1,ab,(Eo ab<|.inl ab),(aX J (Md.refl _ _).drew),ai.drew,aa,aa,aa,aa,aa⟩
 rintro ac U ⟨c,bi,ar,O,aq,a4,a5,a9,ba,bb⟩
 refine fx 0 a4<|fx 2 a5<|fx 3 a9<|fx 8 ba<|fx 9 bb<|az fun ah=>az fun aF=> ?_
 have aU:=ep O
 have G:(fun w'=>Wk U w') U.drew:=(Md.refl _ _).drew
 refine bM (fun w'=>Wk U w') aa wide G<|bH 0 aa (.slice C n cp) G<|bH 1 aa (aj first) G<|bH 2 aa (aj r) G<|aJ 3 aa (fun _ _=>bI ((first+r:Nat):Int) aa aa<|bf ab ab) G<|aJ 4 aa (fun _ _=>a6 bE aa aa ab<|aE.ok ((aV O).2)<|bG ab) G<|aJ 5 aa (fun w' I=>ld bP aa<|cA (i:=first+r) ((aV O).2.wk I) ab) G<|bH 6 aa (.slice C n cp) G<|bH 7 aa (aj first) G<|bH 8 aa (aj c) G<|aJ 9 aa (fun _ _=>bI ((first+c:Nat):Int) aa aa<|bf ab ab) G<|aJ 10 aa (fun _ _=>a6 bE aa aa ab<|aE.ok ((aV O).2)<|bG ab) G<|aJ 11 aa (fun w' I=>ld bP aa<|cA (i:=first+c) ((aV O).2.wk I) ab) G<|he 12 aa ag<|cl kj (ks E[first+r]! E[first+c]! _) aa fun v51 ad aS=> ?_
 obtain ⟨rfl,aK⟩:=aS
 have Z:(fun w'=>Wk U w') ad:=Md.trans G aK
 refine ⟨Z,?_⟩
 refine aJ 13 aa (fun _ _=>no aa) Z<|hn ag<|aF<|cb aa (fun am=> ?_) fun am=> ?_
 exact rt<|tr<|br<|tr<|br<|tO aa<|⟨aa,by rw [← an,ar,if_pos am]; exact aX O Z,Md.trans aq<|Z.mono fun _ _ h=>h.elim⟩
 refine aO<|ah<|az fun aG=> ?_
 have M:=aX O Z
 have A:(fun w'=>Wk ad w') ad.drew:=(Md.refl _ _).drew
 refine eB (fun w'=>Wk ad w') 21 aa wide A<|bl 0 aa (.slice C n cp) A<|bl 1 aa (aj first) A<|bl 2 aa (aj r) A<|bz 3 aa (fun _=>bI ((first+r:Nat):Int) aa aa<|bf ab ab) (fun _=>A)<|bl 4 aa (.slice C n cp) A<|bl 5 aa (aj first) A<|bl 6 aa (aj c) A<|bz 7 aa (fun _=>bI ((first+c:Nat):Int) aa aa<|bf ab ab) (fun _=>A)<|bl 8 aa (.slice C n cp) A<|bl 9 aa (aj first) A<|bl 10 aa (aj c) A<|bz 11 aa (fun _=>bI ((first+c:Nat):Int) aa aa<|bf ab ab) (fun _=>A)<|bz 12 aa (fun _=>a6 bE aa aa ab<|aE.ok ((aV M).2)<|bG ab) (fun _=>A)<|dU 13 aa (fun w' I=>ld bP aa<|cA (i:=first+c) ((aV M).2.wk I) ab) A<|bl 14 aa (.slice C n cp) A<|bl 15 aa (aj first) A<|bl 16 aa (aj r) A<|bz 17 aa (fun _=>bI ((first+r:Nat):Int) aa aa<|bf ab ab) (fun _=>A)<|bz 18 aa (fun _=>a6 bE aa aa ab<|aE.ok ((aV M).2)<|bG ab) (fun _=>A)<|dU 19 aa (fun w' I=>ld bP aa<|cA (i:=first+r) ((aV M).2.wk I) ab) A<|bz 20 aa (fun _=>a6 bE aa aa ab<|aE.ok ((aV M).2)<|bG ab) (fun _=>A)<|c5 21 aa ag ag<|eT (u:=E[first+c]!) (first+r) (aX M A) eJ aa aa aa ab fun bp aM aY=> ?_
 refine bz 22 aa (fun _=>a6 bE aa aa ab<|aE.ok ((aV M).2)<|bG ab) (fun h=>c7<|(show true =_ from by kernel_rfl).trans h)<|c5 23 aa ag ag<|eT (u:=E[first+r]!) (first+c) aY eJ aa aa aa ab fun av aN aZ=> ?_
 have I:av.ownsRow B 51 1 (.slice C n cp) n (LE aR<|bN E (first+r)<|first+c):=aZ
 have aL:Md (fun q=>(bB C n cp).ownBlock=some q) ad av:=Md.trans (A.mono fun _ _ h=>h.elim)<|Md.trans aM aN
 exact eA ag<|aG<|rg aa<|au (aj c)<|p (bZ (aj c) aa)<|nl<|bn<|tn<|⟨_,ab,c,bN E (first+r) (first+c),ab,(by rw [← an,ar,if_neg (by rw [am]; exact c7)]),I,(Md.trans aq<|Md.trans (Z.mono fun _ _ h=>h.elim) aL),aa,aa,aa,aa,aa⟩
theorem Ep (d:Array Nat) (lo hi first :Nat) (i c:Int) (B n cp:Nat) (a:Option Addr) (w:World) (A:w.ownsRow B 51 1 (.slice a n cp) n (LE aR d)) (C:lo≤hi∧first+hi≤n) (G:i=(lo:Nat)) (E:c=(hi:Nat)) (I:n≤1099511627776):
 bd ao 299 (a7 [.slice a n cp,.int .i64 i,.int .i64 c,.int .i64 (first :Nat)]) w (fun v w'=>v= .tuple #[]∧w'.ownsRow B 51 1 (.slice a n cp) n (LE aR<|oh bF hi first lo d)∧Md (fun q=>(bB a n cp).ownBlock=some q) w w'):=by
 subst G E; exact QC d lo hi first B n cp a w A C I
theorem Ni (d:Array Nat) (a b:Nat) (B n cp:Nat) (c:Option Addr) (w:World) (aI:w.ownsRow B 51 1 (.slice c n cp) n (LE aR d)) (a5:a < b∧b≤n) (ac:n≤1099511627776):
 bd ao 284 (a7 [.slice c n cp,aj a,aj b]) w (fun v w'=>v= .tuple #[]∧w'.ownsRow B 51 1 (.slice c n cp) n (LE aR<|F5 bF d a b)∧Md (fun q=>(bB c n cp).ownBlock=some q) w w'):=by
 refine enter func284 aa ntmps284 aa<|ak fun ah=>au (aj a)<|p (bZ (aj a) aa)<|nl<|ah<|ak fun an=>ay<|an<|ak fun ap=>au (aj b)<|au (aj a)<|p (c4 ((b - a:Nat):Int) aa aa<|bf ab ab)<|ay<|ap<|az fun aq=>ak fun ar=>p mv<|p (c4 ((b - a - 1:Nat):Int) aa aa<|bf ab ab)<|p (nZ (((b - a - 1) / 2:Nat):Int) aa aa ab<|bf ab ab)<|ay<|ar<|aB<|lp (fun M I Z=> ∃ (k:Nat) (C:Array Nat),(k≤b - a)∧(F4 bF (b - a) a k C=F4 bF (b - a) a ((b - a - 1) / 2 +1) d)∧(Z.ownsRow B 51 1 (.slice c n cp) n<|LE aR C)∧(Md (fun q=>(bB c n cp).ownBlock=some q) w Z)∧(I 0= .slice c n cp)∧(I 6=aj a)∧(I 7= .int .i64 0)∧(I 8=aj (b - a))∧(I 9= .int .i64 ((k:Nat) - 1:Int))∧(k=M)) _ ⟨(b - a - 1) / 2 +1,d,ab,aa,aI,(Md.refl _ _),aa,aa,aa,aa,(iv ab),aa⟩ ?_
 rintro M I Z ⟨k,C,hk,Y,E,O,aT,aU,aW,aY,aZ,rfl⟩
 refine fx 0 aT<|fx 6 aU<|fx 7 aW<|fx 8 aY<|fx 9 aZ<|az fun av=>ak fun aw=>au (.int .i64 ((k:Nat) - 1:Int))<|p (ge aa aa)<|nl<|aw<|cd aa (fun aN=> ?_) fun aN=> ?_
 refine aO<|av<|az fun V=>aB<|rg aa<|au (.slice c n cp)<|au (.int .i64 ((k:Nat) - 1:Int))<|au (aj<|b - a)<|au (aj a)<|e<|cl AW (Ep C (k - 1) (b - a) a _ _ B n cp c _ E ab ab aa ac) aa fun ba bc aL=> ?_
 obtain ⟨rfl,aJ,aC⟩:=aL
 exact nl<|bn<|V<|rg aa<|au (.int .i64 ((k:Nat) - 1:Int))<|p (sb aa aa<|cg ab)<|p aA<|nl<|tn<|⟨_,ab,k - 1,oh bF (b - a) a (k - 1) C,ab,(by rw [← Y,MX (show 0 < k by omega)]),aJ,(Md.trans O aC),aa,aa,aa,aa,(iv ab),aa⟩
 refine ext<|bj<|bj<|be<|aq<|ak fun V=>au (aj<|b - a)<|p (c4 ((b - a - 1:Nat):Int) aa aa<|bf ab ab)<|ay<|V<|aB<|lp (fun M J G=> ∃ (k:Nat) (C:Array Nat),(k≤b - a)∧(Go.Sort.heapPop bF a k C=F5 bF d a b)∧(G.ownsRow B 51 1 (.slice c n cp) n<|LE aR C)∧(Md (fun q=>(bB c n cp).ownBlock=some q) w G)∧(J 0= .slice c n cp)∧(J 6=aj a)∧(J 7= .int .i64 0)∧(J 8=aj (b - a))∧(J 10= .int .i64 ((k:Nat) - 1:Int))∧(k=M)) _ ⟨b - a,C,ab,(by rw [show k=0 by omega,MY] at Y; rw [Y]; rfl),E,O,aa,aa,aa,aa,(iv ab),aa⟩ ?_
 rintro M J G ⟨k,C,a9,ad,E,O,a0,a2,a3,a4,a1,rfl⟩
 refine fx 0 a0<|fx 6 a2<|fx 7 a3<|fx 8 a4<|fx 10 a1<|az fun ax=>ak fun ai=>au (.int .i64 ((k:Nat) - 1:Int))<|p (ge aa aa)<|nl<|ai<|cd aa (fun aP=> ?_) fun aP=> ?_
 refine aO<|ax<|az fun al=>aB<|az fun am=> ?_
 have a8:=ep E
 have A:(fun w'=>Wk G w') G.drew:=(Md.refl _ _).drew
 refine eB (fun w'=>Wk G w') 17 aa wide A<|bl 0 aa (.slice c n cp) A<|bl 1 aa (aj a) A<|bl 2 aa (.slice c n cp) A<|bl 3 aa (aj a) A<|bl 4 aa (.int .i64 ((k:Nat) - 1:Int)) A<|bz 5 aa (fun _=>bI ((a+(k - 1):Nat):Int) aa aa<|bf ab ab) (fun _=>A)<|bl 6 aa (.slice c n cp) A<|bl 7 aa (aj a) A<|bl 8 aa (.int .i64 ((k:Nat) - 1:Int)) A<|bz 9 aa (fun _=>bI ((a+(k - 1):Nat):Int) aa aa<|bf ab ab) (fun _=>A)<|bz 10 aa (fun _=>a6 bE aa aa ab<|aE.ok ((aV E).2)<|bG ab) (fun _=>A)<|dU 11 aa (fun w' U=>ld bP aa<|cA (i:=a+(k - 1)) ((aV E).2.wk U) ab) A<|bl 12 aa (.slice c n cp) A<|bl 13 aa (aj a) A<|bz 14 aa (fun _=>a6 bE aa aa ab<|aE.ok ((aV E).2)<|bG ab) (fun _=>A) ?_
 refine dU 15 aa (fun w' U=>ld bP aa<|cA (i:=a) ((aV E).2.wk U) ab) A<|bz 16 aa (fun _=>a6 bE aa aa ab<|aE.ok ((aV E).2)<|bG ab) (fun _=>A)<|c5 17 aa ag ag<|eT (u:=C[a+(k - 1)]!) (a) (aX E A) eJ aa aa aa ab fun bh aG aQ=>bz 18 aa (fun _=>a6 bE aa aa ab<|aE.ok ((aV E).2)<|bG ab) (fun h=>c7<|(show true =_ from by kernel_rfl).trans h)<|c5 19 aa ag ag<|eT (u:=C[a]!) (a+(k - 1)) aQ eJ aa aa aa ab fun ae aH aS=> ?_
 have U:ae.ownsRow B 51 1 (.slice c n cp) n (LE aR<|bN C (a)<|a+(k - 1)):=aS
 have aF:Md (fun q=>(bB c n cp).ownBlock=some q) G ae:=Md.trans (A.mono fun _ _ h=>h.elim)<|Md.trans aG aH
 refine eA ag<|am<|rg aa<|au (.slice c n cp)<|au (.int .i64 0)<|au (.int .i64 ((k:Nat) - 1:Int))<|au (aj a)<|e<|cl AW (Ep (bN C a<|a+(k - 1)) 0 (k - 1) a _ _ B n cp c _ U ab aa ab ac) aa fun bb bg aM=> ?_
 obtain ⟨rfl,aK,aD⟩:=aM
 exact nl<|bn<|al<|rg aa<|au (.int .i64 ((k:Nat) - 1:Int))<|p (sb aa aa<|cg ab)<|p aA<|nl<|tn<|⟨_,ab,k - 1,oh bF (k - 1) a 0 (bN C a<|a+(k - 1)),ab,(by rw [← ad,Nk (show 0 < k by omega)]),aK,(Md.trans O<|Md.trans aF aD),aa,aa,aa,aa,(iv ab),aa⟩
 exact ext<|bj<|bj<|be<|f0 aa<|⟨aa,by rw [← ad,show k=0 by omega]; exact E,O⟩
theorem P8 (d:Array Nat) (a b:Nat) (B n cp:Nat) (A:Option Addr) (w:World) (an:w.ownsRow B 51 1 (.slice A n cp) n (LE aR d)) (aC:a < b∧b≤n) (aF:n≤1099511627776):
 bd ao 287 (a7 [.slice A n cp,aj a,aj b]) w (fun v w'=>v= .tuple #[]∧w'.ownsRow B 51 1 (.slice A n cp) n (LE aR<|zC d a b)∧Md (fun q=>(bB A n cp).ownBlock=some q) w w'):=by
 refine enter func287 aa ntmps287 aa<|ak fun Y=>au (aj a)<|p (bZ (aj a) aa)<|nl<|Y<|ak fun Z=>au (aj b)<|p (c4 ((b - 1:Nat):Int) aa aa<|bf ab ab)<|ay<|Z<|aB<|lp (fun M J G=> ∃ (i j:Nat) (E:Array Nat),(i≤n∧j < n)∧(Go.Sort.reverseLoop i j E=zC d a b)∧(G.ownsRow B 51 1 (.slice A n cp) n<|LE aR E)∧(Md (fun q=>(bB A n cp).ownBlock=some q) w G)∧(J 0= .slice A n cp)∧(J 6=aj i)∧(J 7=aj j)∧(j - i=M)) _ ⟨a,b - 1,d,ab,aa,an,(Md.refl _ _),aa,aa,aa,aa⟩ ?_
 rintro M J G ⟨i,j,E,hi,U,C,O,av,aw,ax,rfl⟩
 refine fx 0 av<|fx 6 aw<|fx 7 ax<|az fun ac=>ak fun ad=>au (aj i)<|au (aj j)<|p (lt aa aa)<|nl<|ad<|cd aa (fun ap=> ?_) fun ap=> ?_
 refine aO<|ac<|aB<|az fun ae=> ?_
 have aD:=ep C
 have c:(fun w'=>Wk G w') G.drew:=(Md.refl _ _).drew
 refine eB (fun w'=>Wk G w') 13 aa wide c<|bl 0 aa (.slice A n cp) c<|bl 1 aa (aj i) c<|bl 2 aa (.slice A n cp) c<|bl 3 aa (aj j) c<|bl 4 aa (.slice A n cp) c<|bl 5 aa (aj j) c<|bz 6 aa (fun _=>a6 bE aa aa ab<|aE.ok ((aV C).2)<|bG ab) (fun _=>c)<|dU 7 aa (fun w' I=>ld bP aa<|cA (i:=j) ((aV C).2.wk I) ab) c<|bl 8 aa (.slice A n cp) c<|bl 9 aa (aj i) c<|bz 10 aa (fun _=>a6 bE aa aa ab<|aE.ok ((aV C).2)<|bG ab) (fun _=>c)<|dU 11 aa (fun w' I=>ld bP aa<|cA (i:=i) ((aV C).2.wk I) ab) c<|bz 12 aa (fun _=>a6 bE aa aa ab<|aE.ok ((aV C).2)<|bG ab) (fun _=>c)<|c5 13 aa ag ag<|eT (u:=E[j]!) (i) (aX C c) eJ aa aa aa ab fun aG al aq=> ?_
 refine bz 14 aa (fun _=>a6 bE aa aa ab<|aE.ok ((aV C).2)<|bG ab) (fun h=>c7<|(show true =_ from by kernel_rfl).trans h)<|c5 15 aa ag ag<|eT (u:=E[i]!) (j) aq eJ aa aa aa ab fun V am ar=> ?_
 have I:V.ownsRow B 51 1 (.slice A n cp) n (LE aR<|bN E (i)<|j):=ar
 have ai:Md (fun q=>(bB A n cp).ownBlock=some q) G V:=Md.trans (c.mono fun _ _ h=>h.elim)<|Md.trans al am
 refine eA ag<|ae<|ak fun ah=>au (aj i)<|p (bI ((i+1:Nat):Int) aa aa<|bf ab ab)<|ay<|ah ?_
 exact rg aa<|au (aj j)<|p (c4 ((j - 1:Nat):Int) aa aa<|bf ab ab)<|p aA<|nl<|bn<|tn<|⟨_,ab,i+1,j - 1,bN E i j,ab,(by rw [← U,P6 (show i < j by omega)]),I,(Md.trans O ai),aa,aa,aa,aa⟩
 exact ext<|bj<|bj<|be<|f0 aa<|⟨aa,by rw [← U,P7 ab]; exact C,O⟩
theorem RG {n:Nat} {l:List UInt8} (h:n < 256) (a:∀ k:Fin 256,(l.getD k.val 0).toNat=jo k.val):IntKind.i64.wrap ((l.getD n 0).toNat:Int)=(jo n:Int):=by
 rw [a ⟨n,h⟩]; have :=uc h; exact cg<|by simp only; omega
theorem Qw {k:Nat} (h:k≤8):dy.wrap ((1:Int)*2 ^ min ((k:Nat):Int).toNat dy.bits)=((2 ^ k:Nat):Int):=by
 have h2:(dy.bits:Nat)=64:=rfl
 rw [Int.toNat_natCast,h2,Nat.min_eq_left ab,Int.one_mul]
 have h3:(2:Nat) ^ k≤2 ^ 8:=Nat.pow_le_pow_right aw h
 have h4:((2:Int) ^ k)=((2 ^ k:Nat):Int):=by simp
 rw [h4]
 obtain ⟨m,hm⟩:∃ m:Nat,2 ^ k=m:=⟨_,rfl⟩
 rw [hm] at h3 ⊢; exact mQ ab
theorem Pt {d d1 d2:Array Nat} {a b i j:Nat} (h:l7 a b d d1) (hi:a≤i∧i < b) (c:a≤j∧j < b) (q:b≤d1.size) (h2:d2=bN d1 i j):l7 a b d d2:=by
 subst h2; exact pk _ _ _ a b h<|Go.Sort.swp_permIn d1 a b i j hi.1 hi.2 c.1 c.2 q
theorem yz (d:Array Nat) (i j s lo hi E:Nat) (B n cp:Nat) (C:Option Addr) (w:World) (c:w.ownsRow B 51 1 (.slice C n cp) n (LE aR d)) (O:bw w.heap E [aj s]) (am:(bB C n cp).ownBlock≠some E) (av:lo≤i∧i < hi∧lo≤j∧j < hi∧hi≤n) (hs:s≤1000) (ar:n≤1099511627776):
 bd ao 308 (a7 [.slice C n cp,aj i,aj j,aW E]) w (fun v w'=> ∃ J M s1:Nat,v= .tuple #[aj J,aj M]∧(lo≤J∧J < hi)∧(lo≤M∧M < hi)∧s1≤s+1∧bw w'.heap E [aj s1]∧w'.ownsRow B 51 1 (.slice C n cp) n (LE aR d)∧Md (fun q=>q=E) w w'):=by
 refine enter func308 aa ntmps308 aa<|ak fun Y=>p aA<|ay<|Y<|az fun Z=>az fun ac=> ?_
 have aq:=ep c
 have a:(fun w'=>Wk w w') w.drew:=(Md.refl _ _).drew
 refine bM (fun w'=>Wk w w') aa wide a<|bH 0 aa (.slice C n cp) a<|bH 1 aa (aj j) a<|aJ 2 aa (fun _ _=>a6 bE aa aa ab<|aE.ok ((aV c).2)<|bG ab) a<|aJ 3 aa (fun w' I=>ld bP aa<|cA (i:=j) ((aV c).2.wk I) ab) a<|bH 4 aa (.slice C n cp) a<|bH 5 aa (aj i) a<|aJ 6 aa (fun _ _=>a6 bE aa aa ab<|aE.ok ((aV c).2)<|bG ab) a<|aJ 7 aa (fun w' I=>ld bP aa<|cA (i:=i) ((aV c).2.wk I) ab) a<|he 8 aa ag<|cl kj (ks d[j]! d[i]! _) aa fun aw ap al=> ?_
 obtain ⟨rfl,ah⟩:=al
 have A:(fun w'=>Wk w w') ap:=Md.trans a ah
 refine ⟨A,?_⟩
 refine hn ag<|ac<|cb aa (fun an=> ?_) fun an=> ?_
 have U:=A.B O
 have ai:=aX c A
 exact ak fun G=>au (aW E)<|p (nc aa)<|p (ld bK aa<|U.aI 0)<|p (bI ((s+1:Nat):Int) aa aa<|bf ab ab)<|p (nc aa)<|e<|st lj aa aa (aa) (U) (by simp) fun ax V ae=>nl<|G<|ak fun ad=>au (aj j)<|au (aj i)<|p (bZ (aj j) aa)<|p (bZ (aj i) aa)<|nl<|ad<|rt<|tr<|f2 aa aa aa<|⟨j,i,s+1,aa,ab,ab,ab,ae,cx ai V (fun k hk h=>am<|h ▸ hk),Md.trans (A.mono fun _ _ h=>h.elim) V⟩
 exact aO<|Z<|ak fun G=>au (aj i)<|au (aj j)<|p (bZ (aj i) aa)<|p (bZ (aj j) aa)<|nl<|G<|rt<|f2 aa aa aa<|⟨i,j,s,aa,ab,ab,ab,A.B O,aX c A,A.mono fun _ _ h=>h.elim⟩
theorem Dr (d:Array Nat) (i j k s lo hi a:Nat) (B n cp:Nat) (c:Option Addr) (w:World) (ag:w.ownsRow B 51 1 (.slice c n cp) n (LE aR d)) (U:bw w.heap a [aj s]) (A:(bB c n cp).ownBlock≠some a) (aG:(lo≤i∧i < hi)∧(lo≤j∧j < hi)∧(lo≤k∧k < hi)∧hi≤n) (hs:s≤900) (C:n≤1099511627776):
 bd ao 301 (a7 [.slice c n cp,aj i,aj j,aj k,aW a]) w (fun v w'=> ∃ E s1:Nat,v=aj E∧(lo≤E∧E < hi)∧s1≤s+3∧bw w'.heap a [aj s1]∧w'.ownsRow B 51 1 (.slice c n cp) n (LE aR d)∧Md (fun q=>q=a) w w'):=by
 refine enter func301 aa ntmps301 aa<|ak fun G=>ay<|G<|ak fun I=>au (.slice c n cp)<|au (aj i)<|au (aj j)<|au (aW a)<|e<|cl wy (yz d i j s lo hi a B n cp c _ ag U A ab ab C) aa fun aL aN am=> ?_
 obtain ⟨i1,ar,s1,rfl,aB,aD,aH,V,ah,ac⟩:=am
 refine p mv<|p (xt aa aa)<|p (xt aa aa)<|p aA<|ay<|I<|az fun J=>rg aa<|au (.slice c n cp)<|p mv<|au (aj k)<|au (aW a)<|e<|cl wy (yz d ar k s1 lo hi a B n cp c _ ah V A ab ab C) aa fun v24 aO an=> ?_
 obtain ⟨av,aK,s2,rfl,aE,aF,aI,Y,ai,ad⟩:=an
 refine p mv<|p (xt aa aa)<|p (xt aa aa)<|p aA<|ay<|J<|az fun M=>rg aa<|au (.slice c n cp)<|p mv<|p mv<|au (aW a)<|e<|cl wy (yz d i1 av s2 lo hi a B n cp c _ ai Y A ab ab C) aa fun aM aP ap=> ?_
 obtain ⟨i3,aw,ax,rfl,aC,aq,aJ,Z,al,ae⟩:=ap
 exact p mv<|p (xt aa aa)<|p (xt aa aa)<|p aA<|ay<|M<|az fun O=>rg aa<|p mv<|ay<|O<|rt<|ba aa<|⟨aw,ax,aa,aq,ab,Z,al,Md.trans ac<|Md.trans ad ae⟩
theorem yd (d:Array Nat) (i s lo hi a:Nat) (B n cp:Nat) (c:Option Addr) (w:World) (I:w.ownsRow B 51 1 (.slice c n cp) n (LE aR d)) (G:bw w.heap a [aj s]) (M:(bB c n cp).ownBlock≠some a) (U:lo+1≤i∧i+1 < hi∧hi≤n) (hs:s≤900) (O:n≤1099511627776):
 bd ao 300 (a7 [.slice c n cp,aj i,aW a]) w (fun v w'=> ∃ A s1:Nat,v=aj A∧(lo≤A∧A < hi)∧s1≤s+3∧bw w'.heap a [aj s1]∧w'.ownsRow B 51 1 (.slice c n cp) n (LE aR d)∧Md (fun q=>q=a) w w'):=by
 exact enter func300 aa ntmps300 aa<|ak fun C=>ay<|C<|ak fun E=>au (.slice c n cp)<|au (aj i)<|p (c4 ((i - 1:Nat):Int) aa aa<|bf ab ab)<|au (aj i)<|au (aj i)<|p (bI ((i+1:Nat):Int) aa aa<|bf ab ab)<|au (aW a)<|e<|cl AX (Dr d (i - 1) i (i+1) s lo hi a B n cp c _ I G M ab ab O) aa fun V Y J=>p aA<|nl<|E<|rt<|ba aa<|J
theorem Jp (d:Array Nat) (a b:Nat) (B n cp:Nat) (c:Option Addr) (w:World) (am:w.ownsRow B 51 1 (.slice c n cp) n (LE aR d)) (bo:a+12 < b∧b≤n) (J:n≤1099511627776):
 bd ao 286 (a7 [.slice c n cp,aj a,aj b]) w (fun v w'=> ∃ (ah:Nat) (bj:Int),v= .tuple #[aj ah,.int .i64 bj]∧(a≤ah∧ah < b)∧w'.ownsRow B 51 1 (.slice c n cp) n (LE aR d)∧Wk w w'):=by
 refine enter func286 aa ntmps286 aa<|ak fun ap=>p aA<|ay<|ap<|ak fun aq=>au (aj b)<|au (aj a)<|p (c4 ((b - a:Nat):Int) aa aa<|bf ab ab)<|ay<|aq<|ak fun ar=>e<|al Sj fun q bL bp ac ai=> ?_
 have an:=aX am ac.md
 have I:(bB c n cp).ownBlock≠some q:=fun h=>by have :=dd am h; omega
 refine nl<|ar<|ak fun av=>au (aj a)<|p mv<|p (nZ (((b - a) / 4:Nat):Int) aa aa ab<|bf ab ab)<|p (oU (((b - a) / 4:Nat):Int) aa aa<|bf ab ab)<|p (bI ((a+(b - a) / 4:Nat):Int) aa aa<|bf ab ab)<|ay<|av<|ak fun aw=>au (aj a)<|p mv<|p (nZ (((b - a) / 4:Nat):Int) aa aa ab<|bf ab ab)<|p (oU (((b - a) / 4 *2:Nat):Int) aa aa<|bf ab ab)<|p (bI ((a+(b - a) / 4 *2:Nat):Int) aa aa<|bf ab ab)<|ay<|aw<|ak fun ax=>au (aj a)<|p mv<|p (nZ (((b - a) / 4:Nat):Int) aa aa ab<|bf ab ab)<|p (oU (((b - a) / 4 *3:Nat):Int) aa aa<|bf ab ab)<|p (bI ((a+(b - a) / 4 *3:Nat):Int) aa aa<|bf ab ab)<|ay<|ax ?_
 refine az fun aC=>ak fun aD=>p mv<|p (ge aa aa)<|nl<|aD<|cd aa (fun bq=> ?_) fun h=>absurd ab h
 refine eD (fun i O=> ∃ (A C E M:Nat),(a≤A∧A < b)∧(a≤C∧C < b)∧(a≤E∧E < b)∧(M≤9)∧(bw O.heap q [aj M])∧(O.ownsRow B 51 1 (.slice c n cp) n<|LE aR d)∧(Wk w O)∧(i 0= .slice c n cp)∧(i 1=aj a)∧(i 2=aj b)∧(i 8=aj (b - a))∧(i 9=aW q)∧(i 10=aj A)∧(i 11=aj C)∧(i 12=aj E)) ?_ ?_
 refine ak fun Y=>p mv<|p (ge aa aa)<|nl<|Y<|cd aa (fun a1=> ?_) fun a1=> ?_
 refine ak fun U=>au (.slice c n cp)<|p mv<|e<|cl wx (yd d (a+(b - a) / 4) 0 a b q B n cp c _ an ai I ab ab J) aa fun v37 bG aV=> ?_
 obtain ⟨i1,s1,rfl,a4,bv,aE,aQ,aL⟩:=aV
 refine ay<|U<|ak fun G=>au (.slice c n cp)<|p mv<|e<|cl wx (yd d (a+(b - a) / 4 *2) s1 a b q B n cp c _ aQ aE I ab ab J) aa fun v40 bH aY=> ?_
 obtain ⟨bk,s2,rfl,a5,bx,aF,aS,aM⟩:=aY
 refine ay<|G<|rg aa<|au (.slice c n cp)<|p mv<|e<|cl wx (yd d (a+(b - a) / 4 *3) s2 a b q B n cp c _ aS aF I ab ab J) aa fun bE bJ aZ=> ?_
 obtain ⟨bl,bm,rfl,a6,bz,aG,aT,aN⟩:=aZ
 exact p aA<|nl<|tn<|⟨i1,bk,bl,bm,a4,a5,a6,ab,aG,aT,(Md.trans' ac.md (Md.trans aL<|Md.trans aM aN) fun k hk h=>by omega),aa,aa,aa,aa,aa,aa,aa,aa⟩
 exact aO<|tn<|⟨a+(b - a) / 4,a+(b - a) / 4 *2,a+(b - a) / 4 *3,0,ab,ab,ab,ab,ai,an,ac.md,aa,aa,aa,aa,aa,aa,aa,aa⟩
 rintro i O ⟨A,C,E,M,bs,bt,bu,bC,aJ,aU,aK,a8,a9,bg,bh,bi,ba,bb,bc⟩
 refine fx 0 a8<|fx 1 a9<|fx 2 bg<|fx 8 bh<|fx 9 bi<|fx 10 ba<|fx 11 bb<|fx 12 bc<|rg aa<|au (.slice c n cp)<|au (aj A)<|au (aj C)<|au (aj E)<|e<|cl AX (Dr d A C E M a b q B n cp c _ aU aJ I ab ab J) aa fun bF bn a0=> ?_
 obtain ⟨ag,bD,rfl,ae,bA,aH,ad,aP⟩:=a0
 have Z:Wk w bn:=Md.trans' aK aP fun k hk h=>by omega
 refine ay<|aC<|ak fun Y=>p (ld bK aa<|aH.aI 0)<|nl<|Y<|aB<|ak fun U=>p (bR aa aa)<|ay<|U<|cd aa (fun a2=> ?_) fun a2=> ?_
 exact ak fun G=>p mv<|p aA<|ay<|G<|rt<|br<|f2 aa aa aa<|⟨ag,_,aa,ae,ad,Z⟩
 refine ak fun G=>p (bR aa aa)<|ay<|G<|cd aa (fun a3=> ?_) fun a3=> ?_
 exact ak fun V=>p mv<|p aA<|ay<|V<|rt<|br<|f2 aa aa aa<|⟨ag,_,aa,ae,ad,Z⟩
 exact ak fun V=>p mv<|p aA<|ay<|V<|rt<|br<|f2 aa aa aa<|⟨ag,_,aa,ae,ad,Z⟩
theorem OU (a:Nat) (r:Int) (w:World) (G:bw w.heap a [.int .u64 r]):
 bd ao 228 (a7 [aW a]) w (fun v w'=> ∃ E:Int,v= .int .u64 E∧0≤E∧E < 18446744073709551616∧bw w'.heap a [.int .u64 E]∧Md (fun q=>q=a) w w'):=by
 refine enter func228 aa ntmps228 aa<|ak fun V=>ay<|V<|az fun Y=> ?_
 have i:(fun w'=>Wk w w') w.drew:=(Md.refl _ _).drew
 refine eB (fun w'=>Wk w w') 9 aa wide i<|lq 0 aa ag (fun _ _=>aH (aW a) aa) i<|lq 1 aa ag (fun _ _=>nc aa) i<|lq 2 aa ag (fun w' c=>ld oy aa<|Wk.aI c<|G.aI 0) i<|lq 3 aa ag (fun _ _=>aH (aW a) aa) i<|lq 4 aa ag (fun _ _=>nc aa) i<|lq 5 aa ag (fun w' c=>ld oy aa<|Wk.aI c<|G.aI 0) i<|lq 6 aa ag (fun _ _=>shl aa aa aw aa) i<|lq 7 aa ag (fun _ _=>vS aa aa aa) i<|lq 8 aa ag (fun _ _=>nc aa) i<|c5 9 aa ag ag<|st tE aa aa (aa) (i.B G) (by simp) fun M ad I=>eA ag<|Y<|az fun Z=> ?_
 have A:(fun w'=>Wk M w') M.drew:=(Md.refl _ _).drew
 refine eB (fun w'=>Wk M w') 9 aa wide A<|lq 0 aa ag (fun _ _=>aH (aW a) aa) A<|lq 1 aa ag (fun _ _=>nc aa) A<|lq 2 aa ag (fun w' c=>ld oy aa<|Wk.aI c<|I.aI 0) A<|lq 3 aa ag (fun _ _=>aH (aW a) aa) A<|lq 4 aa ag (fun _ _=>nc aa) A<|lq 5 aa ag (fun w' c=>ld oy aa<|Wk.aI c<|I.aI 0) A<|lq 6 aa ag (fun _ _=>shr aa aa aw aa) A<|lq 7 aa ag (fun _ _=>vS aa aa aa) A<|lq 8 aa ag (fun _ _=>nc aa) A<|c5 9 aa ag ag<|st tE aa aa (aa) (A.B I) (by simp) fun O ae J=>eA ag<|Z<|az fun ab=> ?_
 have C:(fun w'=>Wk O w') O.drew:=(Md.refl _ _).drew
 refine eB (fun w'=>Wk O w') 9 aa wide C<|lq 0 aa ag (fun _ _=>aH (aW a) aa) C<|lq 1 aa ag (fun _ _=>nc aa) C<|lq 2 aa ag (fun w' c=>ld oy aa<|Wk.aI c<|J.aI 0) C<|lq 3 aa ag (fun _ _=>aH (aW a) aa) C<|lq 4 aa ag (fun _ _=>nc aa) C<|lq 5 aa ag (fun w' c=>ld oy aa<|Wk.aI c<|J.aI 0) C<|lq 6 aa ag (fun _ _=>shl aa aa aw aa) C<|lq 7 aa ag (fun _ _=>vS aa aa aa) C<|lq 8 aa ag (fun _ _=>nc aa) C<|c5 9 aa ag ag<|st tE aa aa (aa) (C.B J) (by simp) fun ai ah U=>eA ag<|ab<|ak fun ac=>au (aW a)<|p (nc aa)<|p (ld oy aa<|U.aI 0)<|p aA<|nl ?_
 refine ac<|rt<|ba aa ?_
 refine ⟨_,aa,(EX _).1,(EX _).2,U,?_⟩
 exact Md.trans (Md.refl _ _).drew<|Md.trans ad<|Md.trans (Md.refl _ _).drew<|Md.trans ae<|Md.trans (Md.refl _ _).drew ah
theorem N7 (n:Nat) (w:World) (hn:n < 256):
 bd ao 169 (a7 [.int .u64 (n:Nat)]) w (fun v w'=>v=aj (jo n)∧Wk w w'):=by
 have O:=uc hn
 refine enter func169 aa ntmps169 aa<|ak fun a=>ay<|a<|az fun c=>ak fun i=>au (.int .u64 (n:Nat))<|p (ge aa aa)<|nl<|i<|cd aa (fun h=>absurd h ab) fun J=>aO<|c<|az fun q=>ak fun A=>au (.int .u64 (n:Nat))<|p (ge aa aa)<|nl<|A<|cd aa (fun h=>absurd h ab) fun M=> ?_
 refine aO<|q<|az fun C=>ak fun E=>au (.int .u64 (n:Nat))<|p (ge aa aa)<|nl<|E<|cd aa (fun h=>absurd h ab) fun I=> ?_
 exact aO<|C<|ak fun G=>au (.int .i64 0)<|au (.int .u64 (n:Nat))<|p (xa u5 RJ aa<|y8 ab)<|p (jm u9 aa aa (by have :n < 256:=hn; simpa using this))<|p (mA u3 sA aa<|RG hn<|by decide+kernel)<|p (bI ((jo n:Nat):Int) aa aa<|bf ab ab)<|ay<|G<|rt<|ba aa<|⟨aa,Md.refl _ _⟩
theorem Dd (n:Nat) (w:World) (hn:n < 256):
 bd ao 111 (a7 [.int .u64 (n:Nat)]) w (fun v w'=>v=aj (jo n)∧Wk w w'):=by
 refine enter func111 aa ntmps111 aa<|ak fun a=>ay<|a<|az fun c=>cf aa<|aO<|c<|ak fun i=>au (.int .u64 (n:Nat))<|e<|cl Ib (N7 n _ hn) aa fun A C q=>ay<|i ?_
 exact rt<|ba aa<|q
theorem OV (n:Nat) (w:World) (hn:n < 256):
 bd ao 227 (a7 [aj n]) w (fun v w'=>v= .int .u64 (2 ^ jo n:Nat)∧Wk w w'):=by
 refine enter func227 aa ntmps227 aa<|ak fun a=>ay<|a<|ak fun c=>au (aj n)<|p (mA EU qt aa<|mQ ab)<|e<|cl Ax (Dd n _ hn) aa fun v5 C q=> ?_
 obtain ⟨rfl,i⟩:=q
 have A:=uc hn
 exact p (shl aa aa ab<|Qw A)<|ay<|c<|rt<|ba aa<|⟨aa,i⟩
theorem HL (d:Array Nat) (a b:Nat) (B n cp:Nat) (A:Option Addr) (w:World) (ar:w.ownsRow B 51 1 (.slice A n cp) n (LE aR d)) (bt:a+12 < b∧b≤n) (bD:n≤255):
 bd ao 285 (a7 [.slice A n cp,aj a,aj b]) w (fun v w'=> ∃ d1,v= .tuple #[]∧l7 a b d d1∧w'.ownsRow B 51 1 (.slice A n cp) n (LE aR d1)∧Md (fun q=>(bB A n cp).ownBlock=some q) w w'):=by
 refine enter func285 aa ntmps285 aa<|ak fun aw=>au (aj b)<|au (aj a)<|p (c4 ((b - a:Nat):Int) aa aa<|bf ab ab)<|ay<|aw<|ak fun aC=>p mv<|p (ge aa aa)<|nl<|aC<|cd aa (fun bv=> ?_) fun h=>absurd ab h
 refine ak fun aD=>p mv<|p (mA RD qt aa<|mQ ab)<|e<|al Sk fun U bS bu aZ aN=>e<|st tE aa aa (aa) (aN) (by simp) fun bs aS aM=> ?_
 have ap:Wk w bs:=Md.trans' aZ.md aS fun k hk h=>by omega
 refine nl<|aD<|ak fun aF=>p mv<|e<|cl Im (OV (b - a) _ ab) aa fun bM bQ a0=> ?_
 obtain ⟨rfl,ad⟩:=a0
 have bC:=N8 (n:=b - a) ab ab
 refine ay<|aF<|ak fun aG=>au (aj a)<|p mv<|p (nZ (((b - a) / 4:Nat):Int) aa aa ab<|bf ab ab)<|p (oU (((b - a) / 4 *2:Nat):Int) aa aa<|bf ab ab)<|p (bI ((a+(b - a) / 4 *2:Nat):Int) aa aa<|bf ab ab)<|p (c4 ((a+(b - a) / 4 *2 - 1:Nat):Int) aa aa<|bf ab ab)<|ay<|aG<|aB ?_
 have Y:(bB A n cp).ownBlock≠some U:=fun h=>by have :=dd ar h; omega
 refine lp (fun am O ac=> ∃ (C:Nat) (r:Int) (G:Array Nat),(a+(b - a) / 4 *2 - 1≤C∧C≤a+(b - a) / 4 *2 +2)∧(l7 a b d G)∧(bw ac.heap U [.int .u64 r])∧(ac.ownsRow B 51 1 (.slice A n cp) n<|LE aR G)∧(Md (fun q=>(bB A n cp).ownBlock=some q) w ac)∧(O 0= .slice A n cp)∧(O 1=aj a)∧(O 6=aj (b - a))∧(O 7=aW U)∧(O 8= .int .u64 (2 ^ jo (b - a):Nat))∧(O 9=aj C)∧(a+(b - a) / 4 *2 +3 - C=am)) _ ⟨a+(b - a) / 4 *2 - 1,(b - a:Nat),d,ab,(F8 d a b),(ad.B aM),(aX (aX ar ap) ad),((Md.trans ap ad).mono fun _ _ h=>h.elim),aa,aa,aa,aa,aa,aa,aa⟩ ?_
 rintro am O ac ⟨C,r,G,bA,aJ,aQ,ah,ae,a9,ba,bb,bc,bg,bh,rfl⟩
 refine fx 0 a9<|fx 1 ba<|fx 6 bb<|fx 7 bc<|fx 8 bg<|fx 9 bh<|az fun aH=>ak fun aI=>au (aj C)<|au (aj a)<|au (aj<|b - a)<|p (nZ (((b - a) / 4:Nat):Int) aa aa ab<|bf ab ab)<|p (oU (((b - a) / 4 *2:Nat):Int) aa aa<|bf ab ab)<|p (bI ((a+(b - a) / 4 *2:Nat):Int) aa aa<|bf ab ab)<|p (bI ((a+(b - a) / 4 *2 +1:Nat):Int) aa aa<|bf ab ab)<|p (le aa aa)<|nl<|aI<|cd aa (fun a2=> ?_) fun a2=> ?_
 refine aO<|aH<|az fun aK=>aB<|ak fun aL=>e<|cl Io (OU U r _ aQ) aa fun bO bR a1=> ?_
 obtain ⟨ai,rfl,bK,bL,an,Z⟩:=a1
 obtain ⟨o,bH,a8⟩:=Hn ai (2 ^ jo (b - a)) ab
 have bF:=Y
 refine au (.int .u64 (2 ^ jo (b - a):Nat))<|p (sb aa aa<|mQ ab)<|p (eh aa aa a8)<|p (xa u3 RK aa<|cg ab)<|ay<|aL ?_
 refine eD (fun M J=> ∃ (E:Nat),(E < b - a)∧(bw J.heap U [.int .u64 ai])∧(J.ownsRow B 51 1 (.slice A n cp) n<|LE aR G)∧(Md (fun q=>(bB A n cp).ownBlock=some q) w J)∧(M 0= .slice A n cp)∧(M 1=aj a)∧(M 6=aj (b - a))∧(M 7=aW U)∧(M 8= .int .u64 (2 ^ jo (b - a):Nat))∧(M 9=aj C)∧(M 10=aj E)) ?_ ?_
 refine ak fun ax=>p mv<|au (aj<|b - a)<|p (ge aa aa)<|nl<|ax<|cd aa (fun a3=> ?_) fun a3=> ?_
 exact rg aa<|p mv<|au (aj<|b - a)<|p (c4 ((o - (b - a):Nat):Int) aa aa<|bf ab ab)<|p aA<|nl<|tn<|⟨o - (b - a),ab,an,(cx ah Z fun k hk h=>Y<|h ▸ hk),(Md.trans' ae Z fun k hk h=>by omega),aa,aa,aa,aa,aa,aa,aa⟩
 exact aO<|tn<|⟨o,ab,an,(cx ah Z fun k hk h=>Y<|h ▸ hk),(Md.trans' ae Z fun k hk h=>by omega),aa,aa,aa,aa,aa,aa,aa⟩
 rintro M J ⟨E,bJ,aP,I,aY,bi,bk,bo,bp,bq,br,bm⟩
 refine fx 0 bi<|fx 1 bk<|fx 6 bo<|fx 7 bp<|fx 8 bq<|fx 9 br<|fx 10 bm ?_
 have bx:=ep I
 have c:(fun w'=>Wk J w') J.drew:=(Md.refl _ _).drew
 refine eB (fun w'=>Wk J w') 17 aa wide c<|bl 0 aa (.slice A n cp) c<|bl 1 aa (aj C) c<|bl 2 aa (.slice A n cp) c<|bl 3 aa (aj a) c<|bl 4 aa (aj E) c<|bz 5 aa (fun _=>bI ((a+E:Nat):Int) aa aa<|bf ab ab) (fun _=>c)<|bl 6 aa (.slice A n cp) c<|bl 7 aa (aj a) c<|bl 8 aa (aj E) c<|bz 9 aa (fun _=>bI ((a+E:Nat):Int) aa aa<|bf ab ab) (fun _=>c)<|bz 10 aa (fun _=>a6 bE aa aa ab<|aE.ok ((aV I).2)<|bG ab) (fun _=>c)<|dU 11 aa (fun w' V=>ld bP aa<|cA (i:=a+E) ((aV I).2.wk V) ab) c<|bl 12 aa (.slice A n cp) c<|bl 13 aa (aj C) c<|bz 14 aa (fun _=>a6 bE aa aa ab<|aE.ok ((aV I).2)<|bG ab) (fun _=>c)<|dU 15 aa (fun w' V=>ld bP aa<|cA (i:=C) ((aV I).2.wk V) ab) c<|bz 16 aa (fun _=>a6 bE aa aa ab<|aE.ok ((aV I).2)<|bG ab) (fun _=>c)<|c5 17 aa ag ag<|eT (u:=G[a+E]!) (C) (aX I c) eJ aa aa aa ab fun bT aT a4=> ?_
 refine bz 18 aa (fun _=>a6 bE aa aa ab<|aE.ok ((aV I).2)<|bG ab) (fun h=>c7<|(show true =_ from by kernel_rfl).trans h)<|c5 19 aa ag ag<|eT (u:=G[C]!) (a+E) a4 eJ aa aa aa ab fun av aU a5=> ?_
 have V:av.ownsRow B 51 1 (.slice A n cp) n (LE aR<|bN G (C)<|a+E):=a5
 have aq:Md (fun q=>(bB A n cp).ownBlock=some q) J av:=Md.trans (c.mono fun _ _ h=>h.elim)<|Md.trans aT aU
 exact eA ag<|bn<|aK<|rg aa<|au (aj C)<|p (bI ((C+1:Nat):Int) aa aa<|bf ab ab)<|p aA<|nl<|tn<|⟨_,ab,C+1,ai,bN G C (a+E),ab,(Pt aJ ab ab ab aa),(aq.B aP fun h=>Y h),V,(Md.trans aY aq),aa,aa,aa,aa,aa,aa,aa⟩
 exact ext<|bj<|bj<|be<|f0 aa<|⟨G,aa,aJ,ah,ae⟩
theorem Pl {d:Array Nat} {a b c i j:Nat} (h1:l9 (fun x=>bF x (bN d a c)[a]!) (bN d a c) (b - 1) (a+1)=i) (h2:l8 (fun x=> !bF x (bN d a c)[a]!) (bN d a c) i (b - 1)=j) (h:i > j):
 og bF d a b c=(j,true,bN (bN d a c) j a):=by
 unfold og; simp only [h1,h2,if_pos h]
theorem part_go {d:Array Nat} {a b c i j q:Nat} {A:Array Nat} (h1:l9 (fun x=>bF x (bN d a c)[a]!) (bN d a c) (b - 1) (a+1)=i) (h2:l8 (fun x=> !bF x (bN d a c)[a]!) (bN d a c) i (b - 1)=j) (h:¬i > j)
 (h3:zB bF a (i+1) (j - 1) (bN (bN d a c) i j)=(q,A)):
 og bF d a b c=(q,false,bN A q a):=by
 unfold og; simp only [h1,h2,if_neg h,h3]
theorem Pm (d:Array Nat) (a b A:Nat) (B n cp:Nat) (c:Option Addr) (w:World) (ax:w.ownsRow B 51 1 (.slice c n cp) n (LE aR d)) (dx:a≤A∧A < b∧b≤n) (dB:n≤1099511627776):
 bd ao 291 (a7 [.slice c n cp,aj a,aj b,aj A]) w (fun v w'=>v= .tuple #[aj ((og bF d a b A).1),.bool (og bF d a b A).2.1]∧w'.ownsRow B 51 1 (.slice c n cp) n (LE aR (og bF d a b A).2.2)∧Md (fun q=>(bB c n cp).ownBlock=some q) w w'):=by
 refine enter func291 aa ntmps291 aa<|ak fun bT=>p aA<|ay<|bT<|az fun bU=> ?_
 have dy:=ep ax
 have ad:(fun w'=>Wk w w') w.drew:=(Md.refl _ _).drew
 refine eB (fun w'=>Wk w w') 13 aa wide ad<|bl 0 aa (.slice c n cp) ad<|bl 1 aa (aj a) ad<|bl 2 aa (.slice c n cp) ad<|bl 3 aa (aj A) ad<|bl 4 aa (.slice c n cp) ad<|bl 5 aa (aj A) ad<|bz 6 aa (fun _=>a6 bE aa aa ab<|aE.ok ((aV ax).2)<|bG ab) (fun _=>ad)<|dU 7 aa (fun w' E=>ld bP aa<|cA (i:=A) ((aV ax).2.wk E) ab) ad<|bl 8 aa (.slice c n cp) ad<|bl 9 aa (aj a) ad<|bz 10 aa (fun _=>a6 bE aa aa ab<|aE.ok ((aV ax).2)<|bG ab) (fun _=>ad)<|dU 11 aa (fun w' E=>ld bP aa<|cA (i:=a) ((aV ax).2.wk E) ab) ad<|bz 12 aa (fun _=>a6 bE aa aa ab<|aE.ok ((aV ax).2)<|bG ab) (fun _=>ad)<|c5 13 aa ag ag<|eT (u:=d[A]!) (a) (aX ax ad) eJ aa aa aa ab fun dF b5 cF=> ?_
 refine bz 14 aa (fun _=>a6 bE aa aa ab<|aE.ok ((aV ax).2)<|bG ab) (fun h=>c7<|(show true =_ from by kernel_rfl).trans h)<|c5 15 aa ag ag<|eT (u:=d[a]!) (A) cF eJ aa aa aa ab fun bK b6 cG=> ?_
 have co:bK.ownsRow B 51 1 (.slice c n cp) n (LE aR<|bN d (a)<|A):=cG
 have b4:Md (fun q=>(bB c n cp).ownBlock=some q) w bK:=Md.trans (ad.mono fun _ _ h=>h.elim)<|Md.trans b5 b6
 refine eA ag<|bU<|ak fun bV=>au (aj a)<|p (bI ((a+1:Nat):Int) aa aa<|bf ab ab)<|au (aj b)<|p (c4 ((b - 1:Nat):Int) aa aa<|bf ab ab)<|p aA ?_
 refine ay<|bV ?_
 refine eD (fun aY bs=> ∃ (J:Nat),(a+1≤J∧(J=a+1∨J≤b - 1 +1))∧(l9 (fun x=>bF x (bN d a A)[a]!) (bN d a A) (b - 1) (a+1)=J)∧(bs.ownsRow B 51 1 (.slice c n cp) n<|LE aR<|bN d a A)∧(Md (fun q=>(bB c n cp).ownBlock=some q) w bs)∧(aY 0= .slice c n cp)∧(aY 1=aj a)∧(aY 10=aj J)∧(aY 11=aj (b - 1))) ?_ ?_
 refine aB<|lp (fun ap aZ aK=> ∃ (q:Nat),(a+1≤q∧(q=a+1∨q≤b - 1 +1))∧(l9 (fun x=>bF x (bN d a A)[a]!) (bN d a A) (b - 1) (q)=l9 (fun x=>bF x (bN d a A)[a]!) (bN d a A) (b - 1) (a+1))∧(aK.ownsRow B 51 1 (.slice c n cp) n<|LE aR<|bN d a A)∧(Md (fun q=>(bB c n cp).ownBlock=some q) w aK)∧(aZ 0= .slice c n cp)∧(aZ 1=aj a)∧(aZ 10=aj q)∧(aZ 11=aj (b - 1))∧(b - 1 +1 - q=ap)) _ ⟨a+1,ab,aa,co,b4,aa,aa,aa,aa,aa⟩ ?_
 rintro ap aZ aK ⟨q,aq,an,C,am,cT,cU,cV,cW,rfl⟩
 refine fx 0 cT<|fx 1 cU<|fx 10 cV<|fx 11 cW<|az fun aT=>az fun aD=> ?_
 have aI:=ep C
 have Y:(fun w'=>Wk aK w') aK.drew:=(Md.refl _ _).drew
 refine bM (fun w'=>Wk aK w') aa wide Y<|bH 0 aa (aj q) Y<|bH 1 aa (aj<|b - 1) Y<|aJ 2 aa (fun _ _=>le aa aa) Y<|aJ 3 aa (fun _ _=>mv) Y<|ir (t:=33) aa (fun cD=> ?_) fun cD=> ?_
 refine bg 4 aa (fun _ _=>aH (.slice c n cp) aa) Y<|bg 5 aa (fun _ _=>aH (aj q) aa) Y<|bg 6 aa (fun _ _=>a6 bE aa aa ab<|aE.ok ((aV C).2)<|bG ab) Y<|bg 7 aa (fun w' E=>ld bP aa<|cA (i:=q) ((aV C).2.wk E) ab) Y<|bg 8 aa (fun _ _=>aH (.slice c n cp) aa) Y<|bg 9 aa (fun _ _=>aH (aj a) aa) Y<|bg 10 aa (fun _ _=>a6 bE aa aa ab<|aE.ok ((aV C).2)<|bG ab) Y<|bg 11 aa (fun w' E=>ld bP aa<|cA (i:=a) ((aV C).2.wk E) ab) Y<|kq 12 aa ag aa aa aa<|cl kj (ks (bN d a A)[q]! (bN d a A)[a]! _) aa fun dD dv cw=> ?_
 obtain ⟨rfl,b1⟩:=cw
 have aQ:(fun w'=>Wk aK w') dv:=Md.trans Y b1
 refine ⟨aQ,?_⟩
 refine aJ 13 aa (fun _ _=>bL aa) aQ<|hn ag<|aD<|cb aa (fun bp=> ?_) fun bp=> ?_
 exact aO<|aT<|aB<|rg aa<|au (aj q)<|p (bI ((q+1:Nat):Int) aa aa<|bf ab ab)<|p aA<|nl<|bn<|tn<|⟨_,ab,q+1,ab,(by rw [← an,y3 (show q≤b - 1 by omega) (by simpa using bp)]),(aX C aQ),(Md.trans am<|aQ.mono fun _ _ h=>h.elim),aa,aa,aa,aa,aa⟩
 exact ext<|bj<|bj<|be<|tn<|⟨q,aq,(by rw [← an,qq (.inr<|by simpa using bp)]),(aX C aQ),(Md.trans am<|aQ.mono fun _ _ h=>h.elim),aa,aa,aa,aa⟩
 exact a8 4 aa Y<|a8 5 aa Y<|a8 6 aa Y<|a8 7 aa Y<|a8 8 aa Y<|a8 9 aa Y<|a8 10 aa Y<|a8 11 aa Y<|a8 12 aa Y<|aJ 13 aa (fun _ _=>bC aa) Y<|hn ag<|aD<|cf aa<|ext<|bj<|bj<|be<|tn<|⟨q,aq,(by rw [← an,qq (.inl ab)]),(aX C (Md.refl _ _).drew),am.drew,aa,aa,aa,aa⟩
 rintro aY bs ⟨J,dz,bD,bk,bi,cP,cQ,cR,cS⟩
 refine fx 0 cP<|fx 1 cQ<|fx 10 cR<|fx 11 cS ?_
 refine eD (fun a0 ar=> ∃ (M:Nat),(a≤M∧M≤b - 1)∧(l8 (fun x=> !bF x (bN d a A)[a]!) (bN d a A) (J) (b - 1)=M)∧(ar.ownsRow B 51 1 (.slice c n cp) n<|LE aR<|bN d a A)∧(Md (fun q=>(bB c n cp).ownBlock=some q) w ar)∧(a0 0= .slice c n cp)∧(a0 1=aj a)∧(a0 10=aj J)∧(a0 11=aj M)) ?_ ?_
 refine aB<|lp (fun ap a1 aM=> ∃ (q:Nat),(a≤q∧q≤b - 1)∧(l8 (fun x=> !bF x (bN d a A)[a]!) (bN d a A) (J) (q)=l8 (fun x=> !bF x (bN d a A)[a]!) (bN d a A) (J) (b - 1))∧(aM.ownsRow B 51 1 (.slice c n cp) n<|LE aR<|bN d a A)∧(Md (fun q=>(bB c n cp).ownBlock=some q) w aM)∧(a1 0= .slice c n cp)∧(a1 1=aj a)∧(a1 10=aj J)∧(a1 11=aj q)∧(q=ap)) _ ⟨b - 1,ab,aa,bk,bi,aa,aa,aa,aa,aa⟩ ?_
 rintro ap a1 aM ⟨q,aq,an,C,am,c1,c2,c3,c6,rfl⟩
 refine fx 0 c1<|fx 1 c2<|fx 10 c3<|fx 11 c6<|az fun aT=>az fun aD=> ?_
 have aI:=ep C
 have U:(fun w'=>Wk aM w') aM.drew:=(Md.refl _ _).drew
 refine bM (fun w'=>Wk aM w') aa wide U<|bH 0 aa (aj J) U<|bH 1 aa (aj q) U<|aJ 2 aa (fun _ _=>le aa aa) U<|aJ 3 aa (fun _ _=>mv) U<|ir (t:=49) aa (fun cE=> ?_) fun cE=> ?_
 refine bg 4 aa (fun _ _=>aH (.slice c n cp) aa) U<|bg 5 aa (fun _ _=>aH (aj q) aa) U<|bg 6 aa (fun _ _=>a6 bE aa aa ab<|aE.ok ((aV C).2)<|bG ab) U<|bg 7 aa (fun w' E=>ld bP aa<|cA (i:=q) ((aV C).2.wk E) ab) U<|bg 8 aa (fun _ _=>aH (.slice c n cp) aa) U<|bg 9 aa (fun _ _=>aH (aj a) aa) U<|bg 10 aa (fun _ _=>a6 bE aa aa ab<|aE.ok ((aV C).2)<|bG ab) U<|bg 11 aa (fun w' E=>ld bP aa<|cA (i:=a) ((aV C).2.wk E) ab) U<|kq 12 aa ag aa aa aa<|cl kj (ks (bN d a A)[q]! (bN d a A)[a]! _) aa fun dE dw cx=> ?_
 obtain ⟨rfl,b2⟩:=cx
 have aG:(fun w'=>Wk aM w') dw:=Md.trans U b2
 refine ⟨aG,?_⟩
 refine bg 13 aa (fun _ _=>no aa) aG<|aJ 14 aa (fun _ _=>bL aa) aG<|hn ag<|aD<|cb aa (fun bq=> ?_) fun bq=> ?_
 exact aO<|aT<|aB<|rg aa<|au (aj q)<|p (c4 ((q - 1:Nat):Int) aa aa<|bf ab ab)<|p aA<|nl<|bn<|tn<|⟨_,ab,q - 1,ab,(by rw [← an,xf (show 0 < q by omega) (show J≤q by omega) (by simpa using bq)]),(aX C aG),(Md.trans am<|aG.mono fun _ _ h=>h.elim),aa,aa,aa,aa,aa⟩
 exact ext<|bj<|bj<|be<|tn<|⟨q,aq,(by rw [← an,pS (.inr<|by simpa using bq)]),(aX C aG),(Md.trans am<|aG.mono fun _ _ h=>h.elim),aa,aa,aa,aa⟩
 exact a8 4 aa U<|a8 5 aa U<|a8 6 aa U<|a8 7 aa U<|a8 8 aa U<|a8 9 aa U<|a8 10 aa U<|a8 11 aa U<|a8 12 aa U<|a8 13 aa U<|aJ 14 aa (fun _ _=>bC aa) U<|hn ag<|aD<|cf aa<|ext<|bj<|bj<|be<|tn<|⟨q,aq,(by rw [← an,pS (.inl ab)]),(aX C (Md.refl _ _).drew),am.drew,aa,aa,aa,aa⟩
 rintro a0 ar ⟨M,dA,bu,G,aU,cX,cY,cZ,c0⟩
 refine fx 0 cX<|fx 1 cY<|fx 10 cZ<|fx 11 c0<|az fun aT=>ak fun aD=>au (aj J)<|au (aj M)<|p (gt aa aa)<|nl<|aD<|cd aa (fun cz=> ?_) fun cz=> ?_
 refine az fun bc=> ?_
 have aI:=ep G
 have al:(fun w'=>Wk ar w') ar.drew:=(Md.refl _ _).drew
 refine eB (fun w'=>Wk ar w') 13 aa wide al<|bl 0 aa (.slice c n cp) al<|bl 1 aa (aj M) al<|bl 2 aa (.slice c n cp) al<|bl 3 aa (aj a) al<|bl 4 aa (.slice c n cp) al<|bl 5 aa (aj a) al<|bz 6 aa (fun _=>a6 bE aa aa ab<|aE.ok ((aV G).2)<|bG ab) (fun _=>al)<|dU 7 aa (fun w' E=>ld bP aa<|cA (i:=a) ((aV G).2.wk E) ab) al<|bl 8 aa (.slice c n cp) al<|bl 9 aa (aj M) al<|bz 10 aa (fun _=>a6 bE aa aa ab<|aE.ok ((aV G).2)<|bG ab) (fun _=>al)<|dU 11 aa (fun w' E=>ld bP aa<|cA (i:=M) ((aV G).2.wk E) ab) al<|bz 12 aa (fun _=>a6 bE aa aa ab<|aE.ok ((aV G).2)<|bG ab) (fun _=>al)<|c5 13 aa ag ag<|eT (u:=(bN d a A)[a]!) (M) (aX G al) eJ aa aa aa ab fun dG b8 cH=> ?_
 refine bz 14 aa (fun _=>a6 bE aa aa ab<|aE.ok ((aV G).2)<|bG ab) (fun h=>c7<|(show true =_ from by kernel_rfl).trans h)<|c5 15 aa ag ag<|eT (u:=(bN d a A)[M]!) (a) cH eJ aa aa aa ab fun bO b9 cI=> ?_
 have cq:bO.ownsRow B 51 1 (.slice c n cp) n (LE aR<|bN (bN d a A) (M)<|a):=cI
 have b7:Md (fun q=>(bB c n cp).ownBlock=some q) ar bO:=Md.trans (al.mono fun _ _ h=>h.elim)<|Md.trans b8 b9
 refine eA ag<|bc<|ak fun bh=>au (aj M)<|p (bZ (aj M) aa)<|ay<|bh ?_
 refine rt<|tr<|f2 aa aa aa ?_
 have aW:=Pl bD bu ab
 exact ⟨by rw [aW]; rfl,by rw [aW]; exact cq,Md.trans aU b7⟩
 refine aO<|aT<|az fun bc=> ?_
 have aI:=ep G
 have ae:(fun w'=>Wk ar w') ar.drew:=(Md.refl _ _).drew
 refine eB (fun w'=>Wk ar w') 13 aa wide ae<|bl 0 aa (.slice c n cp) ae<|bl 1 aa (aj J) ae<|bl 2 aa (.slice c n cp) ae<|bl 3 aa (aj M) ae<|bl 4 aa (.slice c n cp) ae<|bl 5 aa (aj M) ae<|bz 6 aa (fun _=>a6 bE aa aa ab<|aE.ok ((aV G).2)<|bG ab) (fun _=>ae)<|dU 7 aa (fun w' E=>ld bP aa<|cA (i:=M) ((aV G).2.wk E) ab) ae<|bl 8 aa (.slice c n cp) ae<|bl 9 aa (aj J) ae<|bz 10 aa (fun _=>a6 bE aa aa ab<|aE.ok ((aV G).2)<|bG ab) (fun _=>ae)<|dU 11 aa (fun w' E=>ld bP aa<|cA (i:=J) ((aV G).2.wk E) ab) ae<|bz 12 aa (fun _=>a6 bE aa aa ab<|aE.ok ((aV G).2)<|bG ab) (fun _=>ae)<|c5 13 aa ag ag<|eT (u:=(bN d a A)[M]!) (J) (aX G ae) eJ aa aa aa ab fun dH cc cJ=> ?_
 refine bz 14 aa (fun _=>a6 bE aa aa ab<|aE.ok ((aV G).2)<|bG ab) (fun h=>c7<|(show true =_ from by kernel_rfl).trans h)<|c5 15 aa ag ag<|eT (u:=(bN d a A)[J]!) (M) cJ eJ aa aa aa ab fun bQ ce cK=> ?_
 have cr:bQ.ownsRow B 51 1 (.slice c n cp) n (LE aR<|bN (bN d a A) (J)<|M):=cK
 have ca:Md (fun q=>(bB c n cp).ownBlock=some q) ar bQ:=Md.trans (ae.mono fun _ _ h=>h.elim)<|Md.trans cc ce
 refine eA ag<|bc<|ak fun bh=>au (aj J)<|p (bI ((J+1:Nat):Int) aa aa<|bf ab ab)<|ay<|bh ?_
 refine ak fun bW=>au (aj M)<|p (c4 ((M - 1:Nat):Int) aa aa<|bf ab ab)<|ay<|bW<|az fun bX=>aB<|lp (fun ap a2 br=> ∃ (i j:Nat) (I:Array Nat),(a+2≤i∧i≤b∧a≤j∧j < b∧i≤j+2)∧(zB bF a i j I=zB bF a (J+1) (M - 1) (bN (bN d a A) J M))∧(br.ownsRow B 51 1 (.slice c n cp) n<|LE aR I)∧(Md (fun q=>(bB c n cp).ownBlock=some q) w br)∧(a2 0= .slice c n cp)∧(a2 1=aj a)∧(a2 10=aj i)∧(a2 11=aj j)∧(j+1 - i=ap)) _ ⟨J+1,M - 1,bN (bN d a A) J M,ab,aa,cr,(Md.trans aU ca),aa,aa,aa,aa,aa⟩ ?_
 rintro ap a2 br ⟨i,j,I,hi,bA,cn,b3,c8,c9,da,db,rfl⟩
 refine fx 0 c8<|fx 1 c9<|fx 10 da<|fx 11 db<|aB ?_
 refine eD (fun a3 bt=> ∃ (Z:Nat),(i≤Z∧(Z=i∨Z≤j+1))∧(l9 (fun x=>bF x I[a]!) I (j) (i)=Z)∧(bt.ownsRow B 51 1 (.slice c n cp) n<|LE aR I)∧(Md (fun q=>(bB c n cp).ownBlock=some q) w bt)∧(a3 0= .slice c n cp)∧(a3 1=aj a)∧(a3 10=aj Z)∧(a3 11=aj j)) ?_ ?_
 refine aB<|lp (fun ap a4 aL=> ∃ (q:Nat),(i≤q∧(q=i∨q≤j+1))∧(l9 (fun x=>bF x I[a]!) I (j) (q)=l9 (fun x=>bF x I[a]!) I (j) (i))∧(aL.ownsRow B 51 1 (.slice c n cp) n<|LE aR I)∧(Md (fun q=>(bB c n cp).ownBlock=some q) w aL)∧(a4 0= .slice c n cp)∧(a4 1=aj a)∧(a4 10=aj q)∧(a4 11=aj j)∧(j+1 - q=ap)) _ ⟨i,ab,aa,cn,b3,aa,aa,aa,aa,aa⟩ ?_
 rintro ap a4 aL ⟨q,aq,an,C,am,dg,dh,di,dj,rfl⟩
 refine fx 0 dg<|fx 1 dh<|fx 10 di<|fx 11 dj<|az fun aS=>az fun aC=> ?_
 have aI:=ep C
 have V:(fun w'=>Wk aL w') aL.drew:=(Md.refl _ _).drew
 refine bM (fun w'=>Wk aL w') aa wide V<|bH 0 aa (aj q) V<|bH 1 aa (aj j) V<|aJ 2 aa (fun _ _=>le aa aa) V<|aJ 3 aa (fun _ _=>mv) V<|ir (t:=102) aa (fun cB=> ?_) fun cB=> ?_
 refine bg 4 aa (fun _ _=>aH (.slice c n cp) aa) V<|bg 5 aa (fun _ _=>aH (aj q) aa) V<|bg 6 aa (fun _ _=>a6 bE aa aa ab<|aE.ok ((aV C).2)<|bG ab) V<|bg 7 aa (fun w' E=>ld bP aa<|cA (i:=q) ((aV C).2.wk E) ab) V<|bg 8 aa (fun _ _=>aH (.slice c n cp) aa) V<|bg 9 aa (fun _ _=>aH (aj a) aa) V<|bg 10 aa (fun _ _=>a6 bE aa aa ab<|aE.ok ((aV C).2)<|bG ab) V<|bg 11 aa (fun w' E=>ld bP aa<|cA (i:=a) ((aV C).2.wk E) ab) V<|kq 12 aa ag aa aa aa<|cl kj (ks I[q]! I[a]! _) aa fun dC dt cu=> ?_
 obtain ⟨rfl,bY⟩:=cu
 have aP:(fun w'=>Wk aL w') dt:=Md.trans V bY
 refine ⟨aP,?_⟩
 refine aJ 13 aa (fun _ _=>bL aa) aP<|hn ag<|aC<|cb aa (fun bm=> ?_) fun bm=> ?_
 exact aO<|aS<|aB<|rg aa<|au (aj q)<|p (bI ((q+1:Nat):Int) aa aa<|bf ab ab)<|p aA<|nl<|bn<|tn<|⟨_,ab,q+1,ab,(by rw [← an,y3 (show q≤j by omega) (by simpa using bm)]),(aX C aP),(Md.trans am<|aP.mono fun _ _ h=>h.elim),aa,aa,aa,aa,aa⟩
 exact ext<|bj<|bj<|be<|tn<|⟨q,aq,(by rw [← an,qq (.inr<|by simpa using bm)]),(aX C aP),(Md.trans am<|aP.mono fun _ _ h=>h.elim),aa,aa,aa,aa⟩
 exact a8 4 aa V<|a8 5 aa V<|a8 6 aa V<|a8 7 aa V<|a8 8 aa V<|a8 9 aa V<|a8 10 aa V<|a8 11 aa V<|a8 12 aa V<|aJ 13 aa (fun _ _=>bC aa) V<|hn ag<|aC<|cf aa<|ext<|bj<|bj<|be<|tn<|⟨q,aq,(by rw [← an,qq (.inl ab)]),(aX C (Md.refl _ _).drew),am.drew,aa,aa,aa,aa⟩
 rintro a3 bt ⟨Z,bw,bJ,bk,bi,dc,dd,de,df⟩
 refine fx 0 dc<|fx 1 dd<|fx 10 de<|fx 11 df ?_
 refine eD (fun a5 av=> ∃ (ac:Nat),(a≤ac∧ac≤j)∧(l8 (fun x=> !bF x I[a]!) I (Z) (j)=ac)∧(av.ownsRow B 51 1 (.slice c n cp) n<|LE aR I)∧(Md (fun q=>(bB c n cp).ownBlock=some q) w av)∧(a5 0= .slice c n cp)∧(a5 1=aj a)∧(a5 10=aj Z)∧(a5 11=aj ac)) ?_ ?_
 refine aB<|lp (fun ap a9 aN=> ∃ (q:Nat),(a≤q∧q≤j)∧(l8 (fun x=> !bF x I[a]!) I (Z) (q)=l8 (fun x=> !bF x I[a]!) I (Z) (j))∧(aN.ownsRow B 51 1 (.slice c n cp) n<|LE aR I)∧(Md (fun q=>(bB c n cp).ownBlock=some q) w aN)∧(a9 0= .slice c n cp)∧(a9 1=aj a)∧(a9 10=aj Z)∧(a9 11=aj q)∧(q=ap)) _ ⟨j,ab,aa,bk,bi,aa,aa,aa,aa,aa⟩ ?_
 rintro ap a9 aN ⟨q,aq,an,C,am,dp,dq,dr,ds,rfl⟩
 refine fx 0 dp<|fx 1 dq<|fx 10 dr<|fx 11 ds<|az fun aS=>az fun aC=> ?_
 have aI:=ep C
 have O:(fun w'=>Wk aN w') aN.drew:=(Md.refl _ _).drew
 refine bM (fun w'=>Wk aN w') aa wide O<|bH 0 aa (aj Z) O<|bH 1 aa (aj q) O<|aJ 2 aa (fun _ _=>le aa aa) O<|aJ 3 aa (fun _ _=>mv) O<|ir (t:=118) aa (fun cC=> ?_) fun cC=> ?_
 refine bg 4 aa (fun _ _=>aH (.slice c n cp) aa) O<|bg 5 aa (fun _ _=>aH (aj q) aa) O<|bg 6 aa (fun _ _=>a6 bE aa aa ab<|aE.ok ((aV C).2)<|bG ab) O<|bg 7 aa (fun w' E=>ld bP aa<|cA (i:=q) ((aV C).2.wk E) ab) O<|bg 8 aa (fun _ _=>aH (.slice c n cp) aa) O<|bg 9 aa (fun _ _=>aH (aj a) aa) O<|bg 10 aa (fun _ _=>a6 bE aa aa ab<|aE.ok ((aV C).2)<|bG ab) O<|bg 11 aa (fun w' E=>ld bP aa<|cA (i:=a) ((aV C).2.wk E) ab) O<|kq 12 aa ag aa aa aa<|cl kj (ks I[q]! I[a]! _) aa fun v127 du cv=> ?_
 obtain ⟨rfl,b0⟩:=cv
 have aF:(fun w'=>Wk aN w') du:=Md.trans O b0
 refine ⟨aF,?_⟩
 refine bg 13 aa (fun _ _=>no aa) aF<|aJ 14 aa (fun _ _=>bL aa) aF<|hn ag<|aC<|cb aa (fun bo=> ?_) fun bo=> ?_
 exact aO<|aS<|aB<|rg aa<|au (aj q)<|p (c4 ((q - 1:Nat):Int) aa aa<|bf ab ab)<|p aA<|nl<|bn<|tn<|⟨_,ab,q - 1,ab,(by rw [← an,xf (show 0 < q by omega) (show Z≤q by omega) (by simpa using bo)]),(aX C aF),(Md.trans am<|aF.mono fun _ _ h=>h.elim),aa,aa,aa,aa,aa⟩
 exact ext<|bj<|bj<|be<|tn<|⟨q,aq,(by rw [← an,pS (.inr<|by simpa using bo)]),(aX C aF),(Md.trans am<|aF.mono fun _ _ h=>h.elim),aa,aa,aa,aa⟩
 exact a8 4 aa O<|a8 5 aa O<|a8 6 aa O<|a8 7 aa O<|a8 8 aa O<|a8 9 aa O<|a8 10 aa O<|a8 11 aa O<|a8 12 aa O<|a8 13 aa O<|aJ 14 aa (fun _ _=>bC aa) O<|hn ag<|aC<|cf aa<|ext<|bj<|bj<|be<|tn<|⟨q,aq,(by rw [← an,pS (.inl ab)]),(aX C (Md.refl _ _).drew),am.drew,aa,aa,aa,aa⟩
 rintro a5 av ⟨ac,bx,bv,G,aU,dk,dl,dm,dn⟩
 refine fx 0 dk<|fx 1 dl<|fx 10 dm<|fx 11 dn<|az fun aS=>ak fun aC=>au (aj Z)<|au (aj ac)<|p (gt aa aa)<|nl<|aC<|cd aa (fun cy=> ?_) fun cy=> ?_
 refine ext<|bj<|la aw<|bj<|be<|bX<|az fun ba=> ?_
 have aI:=ep G
 have ai:(fun w'=>Wk av w') av.drew:=(Md.refl _ _).drew
 refine eB (fun w'=>Wk av w') 13 aa wide ai<|bl 0 aa (.slice c n cp) ai<|bl 1 aa (aj ac) ai<|bl 2 aa (.slice c n cp) ai<|bl 3 aa (aj a) ai<|bl 4 aa (.slice c n cp) ai<|bl 5 aa (aj a) ai<|bz 6 aa (fun _=>a6 bE aa aa ab<|aE.ok ((aV G).2)<|bG ab) (fun _=>ai)<|dU 7 aa (fun w' E=>ld bP aa<|cA (i:=a) ((aV G).2.wk E) ab) ai<|bl 8 aa (.slice c n cp) ai<|bl 9 aa (aj ac) ai<|bz 10 aa (fun _=>a6 bE aa aa ab<|aE.ok ((aV G).2)<|bG ab) (fun _=>ai)<|dU 11 aa (fun w' E=>ld bP aa<|cA (i:=ac) ((aV G).2.wk E) ab) ai<|bz 12 aa (fun _=>a6 bE aa aa ab<|aE.ok ((aV G).2)<|bG ab) (fun _=>ai)<|c5 13 aa ag ag<|eT (u:=I[a]!) (ac) (aX G ai) eJ aa aa aa ab fun dJ ck cN=> ?_
 refine bz 14 aa (fun _=>a6 bE aa aa ab<|aE.ok ((aV G).2)<|bG ab) (fun h=>c7<|(show true =_ from by kernel_rfl).trans h)<|c5 15 aa ag ag<|eT (u:=I[ac]!) (a) cN eJ aa aa aa ab fun bS cm cO=> ?_
 have ct:bS.ownsRow B 51 1 (.slice c n cp) n (LE aR<|bN I (ac)<|a):=cO
 have cj:Md (fun q=>(bB c n cp).ownBlock=some q) av bS:=Md.trans (ai.mono fun _ _ h=>h.elim)<|Md.trans ck cm
 refine eA ag<|ba<|ak fun bb=>au (aj ac)<|p (bZ (aj ac) aa)<|ay<|bb ?_
 refine rt<|f2 aa aa aa ?_
 have aW:=part_go bD bu ab<|bA.symm.trans<|by rw [DV bJ bv bw.1 bx.2,if_pos ab]
 exact ⟨by rw [aW]; rfl,by rw [aW]; exact ct,Md.trans aU cj⟩
 refine aO<|aS<|az fun ba=> ?_
 have aI:=ep G
 have ah:(fun w'=>Wk av w') av.drew:=(Md.refl _ _).drew
 refine eB (fun w'=>Wk av w') 13 aa wide ah<|bl 0 aa (.slice c n cp) ah<|bl 1 aa (aj Z) ah<|bl 2 aa (.slice c n cp) ah<|bl 3 aa (aj ac) ah<|bl 4 aa (.slice c n cp) ah<|bl 5 aa (aj ac) ah<|bz 6 aa (fun _=>a6 bE aa aa ab<|aE.ok ((aV G).2)<|bG ab) (fun _=>ah)<|dU 7 aa (fun w' E=>ld bP aa<|cA (i:=ac) ((aV G).2.wk E) ab) ah<|bl 8 aa (.slice c n cp) ah<|bl 9 aa (aj Z) ah<|bz 10 aa (fun _=>a6 bE aa aa ab<|aE.ok ((aV G).2)<|bG ab) (fun _=>ah)<|dU 11 aa (fun w' E=>ld bP aa<|cA (i:=Z) ((aV G).2.wk E) ab) ah<|bz 12 aa (fun _=>a6 bE aa aa ab<|aE.ok ((aV G).2)<|bG ab) (fun _=>ah)<|c5 13 aa ag ag<|eT (u:=I[ac]!) (Z) (aX G ah) eJ aa aa aa ab fun dI ch cL=> ?_
 refine bz 14 aa (fun _=>a6 bE aa aa ab<|aE.ok ((aV G).2)<|bG ab) (fun h=>c7<|(show true =_ from by kernel_rfl).trans h)<|c5 15 aa ag ag<|eT (u:=I[Z]!) (ac) cL eJ aa aa aa ab fun bR ci cM=> ?_
 have cs:bR.ownsRow B 51 1 (.slice c n cp) n (LE aR<|bN I (Z)<|ac):=cM
 have cg:Md (fun q=>(bB c n cp).ownBlock=some q) av bR:=Md.trans (ah.mono fun _ _ h=>h.elim)<|Md.trans ch ci
 refine eA ag<|ba<|ak fun bb=>au (aj Z)<|p (bI ((Z+1:Nat):Int) aa aa<|bf ab ab)<|ay<|bb ?_
 exact rg aa<|au (aj ac)<|p (c4 ((ac - 1:Nat):Int) aa aa<|bf ab ab)<|p aA<|nl<|bn<|tn<|⟨_,ab,Z+1,ac - 1,bN I Z ac,ab,(by rw [← bA,DV bJ bv bw.1 bx.2,if_neg ab,if_pos ab]),cs,(Md.trans aU cg),aa,aa,aa,aa,aa⟩
theorem Pp (d:Array Nat) (a b V:Nat) (B n cp:Nat) (c:Option Addr) (w:World) (ac:w.ownsRow B 51 1 (.slice c n cp) n (LE aR d)) (ce:a≤V∧V < b∧b≤n) (cj:n≤1099511627776):
 bd ao 290 (a7 [.slice c n cp,aj a,aj b,aj V]) w (fun v w'=>v=aj ((sM bF d a b V).1)∧w'.ownsRow B 51 1 (.slice c n cp) n (LE aR (sM bF d a b V).2)∧Md (fun q=>(bB c n cp).ownBlock=some q) w w'):=by
 refine enter func290 aa ntmps290 aa<|ak fun aZ=>ay<|aZ<|az fun a0=> ?_
 have cg:=ep ac
 have J:(fun w'=>Wk w w') w.drew:=(Md.refl _ _).drew
 refine eB (fun w'=>Wk w w') 13 aa wide J<|bl 0 aa (.slice c n cp) J<|bl 1 aa (aj a) J<|bl 2 aa (.slice c n cp) J<|bl 3 aa (aj V) J<|bl 4 aa (.slice c n cp) J<|bl 5 aa (aj V) J<|bz 6 aa (fun _=>a6 bE aa aa ab<|aE.ok ((aV ac).2)<|bG ab) (fun _=>J)<|dU 7 aa (fun w' U=>ld bP aa<|cA (i:=V) ((aV ac).2.wk U) ab) J<|bl 8 aa (.slice c n cp) J<|bl 9 aa (aj a) J<|bz 10 aa (fun _=>a6 bE aa aa ab<|aE.ok ((aV ac).2)<|bG ab) (fun _=>J)<|dU 11 aa (fun w' U=>ld bP aa<|cA (i:=a) ((aV ac).2.wk U) ab) J<|bz 12 aa (fun _=>a6 bE aa aa ab<|aE.ok ((aV ac).2)<|bG ab) (fun _=>J)<|c5 13 aa ag ag<|eT (u:=d[V]!) (a) (aX ac J) eJ aa aa aa ab fun cn bc bA=> ?_
 refine bz 14 aa (fun _=>a6 bE aa aa ab<|aE.ok ((aV ac).2)<|bG ab) (fun h=>c7<|(show true =_ from by kernel_rfl).trans h)<|c5 15 aa ag ag<|eT (u:=d[a]!) (V) bA eJ aa aa aa ab fun aW bh bD=> ?_
 have br:aW.ownsRow B 51 1 (.slice c n cp) n (LE aR<|bN d (a)<|V):=bD
 have bb:Md (fun q=>(bB c n cp).ownBlock=some q) w aW:=Md.trans (J.mono fun _ _ h=>h.elim)<|Md.trans bc bh
 refine eA ag<|a0<|ak fun a1=>au (aj a)<|p (bI ((a+1:Nat):Int) aa aa<|bf ab ab)<|au (aj b)<|p (c4 ((b - 1:Nat):Int) aa aa<|bf ab ab)<|p aA ?_
 refine ay<|a1<|az fun a2=>aB<|lp (fun Z av aL=> ∃ (i j:Nat) (A:Array Nat),(a+1≤i∧i≤b∧a≤j∧j < b∧i≤j+2)∧(Go.Sort.partEqLoop bF a i j A=sM bF d a b V)∧(aL.ownsRow B 51 1 (.slice c n cp) n<|LE aR A)∧(Md (fun q=>(bB c n cp).ownBlock=some q) w aL)∧(av 0= .slice c n cp)∧(av 1=aj a)∧(av 9=aj i)∧(av 10=aj j)∧(j+1 - i=Z)) _ ⟨a+1,b - 1,(bN d a V),ab,aa,br,bb,aa,aa,aa,aa,aa⟩ ?_
 rintro Z av aL ⟨i,j,A,hi,aS,bp,a9,bO,bQ,bS,bR,rfl⟩
 refine fx 0 bO<|fx 1 bQ<|fx 9 bS<|fx 10 bR<|aB ?_
 refine eD (fun ax aM=> ∃ (C:Nat),(i≤C∧(C=i∨C≤j+1))∧(l9 (fun x=> !bF A[a]! x) A (j) (i)=C)∧(aM.ownsRow B 51 1 (.slice c n cp) n<|LE aR A)∧(Md (fun q=>(bB c n cp).ownBlock=some q) w aM)∧(ax 0= .slice c n cp)∧(ax 1=aj a)∧(ax 9=aj C)∧(ax 10=aj j)) ?_ ?_
 refine aB<|lp (fun Z aC al=> ∃ (q:Nat),(i≤q∧(q=i∨q≤j+1))∧(l9 (fun x=> !bF A[a]! x) A (j) (q)=l9 (fun x=> !bF A[a]! x) A (j) (i))∧(al.ownsRow B 51 1 (.slice c n cp) n<|LE aR A)∧(Md (fun q=>(bB c n cp).ownBlock=some q) w al)∧(aC 0= .slice c n cp)∧(aC 1=aj a)∧(aC 9=aj q)∧(aC 10=aj j)∧(j+1 - q=Z)) _ ⟨i,ab,aa,bp,a9,aa,aa,aa,aa,aa⟩ ?_
 rintro Z aC al ⟨q,ar,ai,I,ae,bX,bY,b1,b0,rfl⟩
 refine fx 0 bX<|fx 1 bY<|fx 9 b1<|fx 10 b0<|az fun aq=>az fun ad=> ?_
 have aP:=ep I
 have E:(fun w'=>Wk al w') al.drew:=(Md.refl _ _).drew
 refine bM (fun w'=>Wk al w') aa wide E<|bH 0 aa (aj q) E<|bH 1 aa (aj j) E<|aJ 2 aa (fun _ _=>le aa aa) E<|aJ 3 aa (fun _ _=>mv) E<|ir (t:=32) aa (fun bw=> ?_) fun bw=> ?_
 refine bg 4 aa (fun _ _=>aH (.slice c n cp) aa) E<|bg 5 aa (fun _ _=>aH (aj a) aa) E<|bg 6 aa (fun _ _=>a6 bE aa aa ab<|aE.ok ((aV I).2)<|bG ab) E<|bg 7 aa (fun w' U=>ld bP aa<|cA (i:=a) ((aV I).2.wk U) ab) E<|bg 8 aa (fun _ _=>aH (.slice c n cp) aa) E<|bg 9 aa (fun _ _=>aH (aj q) aa) E<|bg 10 aa (fun _ _=>a6 bE aa aa ab<|aE.ok ((aV I).2)<|bG ab) E<|bg 11 aa (fun w' U=>ld bP aa<|cA (i:=q) ((aV I).2.wk U) ab) E<|kq 12 aa ag aa aa aa<|cl kj (ks A[a]! A[q]! _) aa fun ck ca bt=> ?_
 obtain ⟨rfl,a4⟩:=bt
 have ah:(fun w'=>Wk al w') ca:=Md.trans E a4
 refine ⟨ah,?_⟩
 refine bg 13 aa (fun _ _=>no aa) ah<|aJ 14 aa (fun _ _=>bL aa) ah<|hn ag<|ad<|cb aa (fun aI=> ?_) fun aI=> ?_
 exact aO<|aq<|aB<|rg aa<|au (aj q)<|p (bI ((q+1:Nat):Int) aa aa<|bf ab ab)<|p aA<|nl<|bn<|tn<|⟨_,ab,q+1,ab,(by rw [← ai,y3 (show q≤j by omega) (by simpa using aI)]),(aX I ah),(Md.trans ae<|ah.mono fun _ _ h=>h.elim),aa,aa,aa,aa,aa⟩
 exact ext<|bj<|bj<|be<|tn<|⟨q,ar,(by rw [← ai,qq (.inr<|by simpa using aI)]),(aX I ah),(Md.trans ae<|ah.mono fun _ _ h=>h.elim),aa,aa,aa,aa⟩
 exact a8 4 aa E<|a8 5 aa E<|a8 6 aa E<|a8 7 aa E<|a8 8 aa E<|a8 9 aa E<|a8 10 aa E<|a8 11 aa E<|a8 12 aa E<|a8 13 aa E<|aJ 14 aa (fun _ _=>bC aa) E<|hn ag<|ad<|cf aa<|ext<|bj<|bj<|be<|tn<|⟨q,ar,(by rw [← ai,qq (.inl ab)]),(aX I (Md.refl _ _).drew),ae.drew,aa,aa,aa,aa⟩
 rintro ax aM ⟨C,ch,aT,bq,bo,bT,bU,bW,bV⟩
 refine fx 0 bT<|fx 1 bU<|fx 9 bW<|fx 10 bV ?_
 refine eD (fun aD an=> ∃ (O:Nat),(a≤O∧O≤j)∧(l8 (fun x=>bF A[a]! x) A (C) (j)=O)∧(an.ownsRow B 51 1 (.slice c n cp) n<|LE aR A)∧(Md (fun q=>(bB c n cp).ownBlock=some q) w an)∧(aD 0= .slice c n cp)∧(aD 1=aj a)∧(aD 9=aj C)∧(aD 10=aj O)) ?_ ?_
 refine aB<|lp (fun Z aF am=> ∃ (q:Nat),(a≤q∧q≤j)∧(l8 (fun x=>bF A[a]! x) A (C) (q)=l8 (fun x=>bF A[a]! x) A (C) (j))∧(am.ownsRow B 51 1 (.slice c n cp) n<|LE aR A)∧(Md (fun q=>(bB c n cp).ownBlock=some q) w am)∧(aF 0= .slice c n cp)∧(aF 1=aj a)∧(aF 9=aj C)∧(aF 10=aj q)∧(q=Z)) _ ⟨j,ab,aa,bq,bo,aa,aa,aa,aa,aa⟩ ?_
 rintro Z aF am ⟨q,ar,ai,I,ae,b6,b7,b9,b8,rfl⟩
 refine fx 0 b6<|fx 1 b7<|fx 9 b9<|fx 10 b8<|az fun aq=>az fun ad=> ?_
 have aP:=ep I
 have G:(fun w'=>Wk am w') am.drew:=(Md.refl _ _).drew
 refine bM (fun w'=>Wk am w') aa wide G<|bH 0 aa (aj C) G<|bH 1 aa (aj q) G<|aJ 2 aa (fun _ _=>le aa aa) G<|aJ 3 aa (fun _ _=>mv) G<|ir (t:=49) aa (fun bx=> ?_) fun bx=> ?_
 refine bg 4 aa (fun _ _=>aH (.slice c n cp) aa) G<|bg 5 aa (fun _ _=>aH (aj a) aa) G<|bg 6 aa (fun _ _=>a6 bE aa aa ab<|aE.ok ((aV I).2)<|bG ab) G<|bg 7 aa (fun w' U=>ld bP aa<|cA (i:=a) ((aV I).2.wk U) ab) G<|bg 8 aa (fun _ _=>aH (.slice c n cp) aa) G<|bg 9 aa (fun _ _=>aH (aj q) aa) G<|bg 10 aa (fun _ _=>a6 bE aa aa ab<|aE.ok ((aV I).2)<|bG ab) G<|bg 11 aa (fun w' U=>ld bP aa<|cA (i:=q) ((aV I).2.wk U) ab) G<|kq 12 aa ag aa aa aa<|cl kj (ks A[a]! A[q]! _) aa fun cm cc bu=> ?_
 obtain ⟨rfl,a5⟩:=bu
 have ap:(fun w'=>Wk am w') cc:=Md.trans G a5
 refine ⟨ap,?_⟩
 refine aJ 13 aa (fun _ _=>bL aa) ap<|hn ag<|ad<|cb aa (fun aK=> ?_) fun aK=> ?_
 exact aO<|aq<|aB<|rg aa<|au (aj q)<|p (c4 ((q - 1:Nat):Int) aa aa<|bf ab ab)<|p aA<|nl<|bn<|tn<|⟨_,ab,q - 1,ab,(by rw [← ai,xf (show 0 < q by omega) (show C≤q by omega) (by simpa using aK)]),(aX I ap),(Md.trans ae<|ap.mono fun _ _ h=>h.elim),aa,aa,aa,aa,aa⟩
 exact ext<|bj<|bj<|be<|tn<|⟨q,ar,(by rw [← ai,pS (.inr<|by simpa using aK)]),(aX I ap),(Md.trans ae<|ap.mono fun _ _ h=>h.elim),aa,aa,aa,aa⟩
 exact a8 4 aa G<|a8 5 aa G<|a8 6 aa G<|a8 7 aa G<|a8 8 aa G<|a8 9 aa G<|a8 10 aa G<|a8 11 aa G<|a8 12 aa G<|aJ 13 aa (fun _ _=>bC aa) G<|hn ag<|ad<|cf aa<|ext<|bj<|bj<|be<|tn<|⟨q,ar,(by rw [← ai,pS (.inl ab)]),(aX I (Md.refl _ _).drew),ae.drew,aa,aa,aa,aa⟩
 rintro aD an ⟨O,ci,aQ,Y,aN,b2,b3,b5,b4⟩
 refine fx 0 b2<|fx 1 b3<|fx 9 b5<|fx 10 b4<|az fun aq=>ak fun ad=>au (aj C)<|au (aj O)<|p (gt aa aa)<|nl<|ad<|cd aa (fun bv=> ?_) fun bv=> ?_
 refine ext<|bj<|la aw<|bj<|be<|a2<|ak fun aG=>au (aj C)<|p (bZ (aj C) aa)<|nl<|aG<|rt<|ba aa ?_
 have aU:sM bF d a b V=(C,A):=by rw [← aS,DR aT aQ,if_pos ab]
 exact ⟨by rw [aU]; rfl,by rw [aU]; exact Y,aN⟩
 refine aO<|aq<|az fun aG=> ?_
 have aP:=ep Y
 have M:(fun w'=>Wk an w') an.drew:=(Md.refl _ _).drew
 refine eB (fun w'=>Wk an w') 13 aa wide M<|bl 0 aa (.slice c n cp) M<|bl 1 aa (aj C) M<|bl 2 aa (.slice c n cp) M<|bl 3 aa (aj O) M<|bl 4 aa (.slice c n cp) M<|bl 5 aa (aj O) M<|bz 6 aa (fun _=>a6 bE aa aa ab<|aE.ok ((aV Y).2)<|bG ab) (fun _=>M)<|dU 7 aa (fun w' U=>ld bP aa<|cA (i:=O) ((aV Y).2.wk U) ab) M<|bl 8 aa (.slice c n cp) M<|bl 9 aa (aj C) M<|bz 10 aa (fun _=>a6 bE aa aa ab<|aE.ok ((aV Y).2)<|bG ab) (fun _=>M)<|dU 11 aa (fun w' U=>ld bP aa<|cA (i:=C) ((aV Y).2.wk U) ab) M<|bz 12 aa (fun _=>a6 bE aa aa ab<|aE.ok ((aV Y).2)<|bG ab) (fun _=>M)<|c5 13 aa ag ag<|eT (u:=A[O]!) (C) (aX Y M) eJ aa aa aa ab fun co bk bJ=> ?_
 refine bz 14 aa (fun _=>a6 bE aa aa ab<|aE.ok ((aV Y).2)<|bG ab) (fun h=>c7<|(show true =_ from by kernel_rfl).trans h)<|c5 15 aa ag ag<|eT (u:=A[C]!) (O) bJ eJ aa aa aa ab fun aY bm bK=> ?_
 have bs:aY.ownsRow B 51 1 (.slice c n cp) n (LE aR<|bN A (C)<|O):=bK
 have bi:Md (fun q=>(bB c n cp).ownBlock=some q) an aY:=Md.trans (M.mono fun _ _ h=>h.elim)<|Md.trans bk bm
 refine eA ag<|aG<|ak fun a3=>au (aj C)<|p (bI ((C+1:Nat):Int) aa aa<|bf ab ab)<|ay<|a3 ?_
 exact rg aa<|au (aj O)<|p (c4 ((O - 1:Nat):Int) aa aa<|bf ab ab)<|p aA<|nl<|bn<|tn<|⟨_,ab,C+1,O - 1,bN A C O,ab,(by rw [← aS,DR aT aQ,if_neg ab,if_pos ab]),bs,(Md.trans aN bi),aa,aa,aa,aa,aa⟩
theorem Pu {d:Array Nat} {a b s i i2:Nat} (c:0 < s) (h:qK bF d b i=i2) (h1:i2=b):od bF a b s i d=(d,true):=by
 cases s with
 | zero=>omega
 | succ s=>rw [od]; simp only [h,if_pos h1]
theorem pi_short {d:Array Nat} {a b s i i2:Nat} (c:0 < s) (h:qK bF d b i=i2) (h1:¬i2=b) (h2:b - a < 50):od bF a b s i d=(d,false):=by
 cases s with
 | zero=>omega
 | succ s=>rw [od]; simp only [h,if_neg h1,if_pos h2]
theorem pi_go {d c q:Array Nat} {a b s i i2:Nat} (E:0 < s) (h:qK bF d b i=i2) (h1:¬i2=b) (h2:¬b - a < 50)
 (A:c=if i2 - a≥2 then vm bF (i2 - 1) (bN d i2<|i2 - 1) else bN d i2 (i2 - 1)) (C:q=if b - i2≥2 then zD bF b (i2+1) c else c):
 od bF a b s i d=od bF a b (s - 1) i2 q:=by
 cases s with
 | zero=>omega
 | succ s=>rw [od]; simp only [h,if_neg h1,if_neg h2]; rw [← A,← C]; rfl
theorem PE (d:Array Nat) (a b:Nat) (B n cp:Nat) (c:Option Addr) (w:World) (ce:w.ownsRow B 51 1 (.slice c n cp) n (LE aR d)) (dd:a < b∧b≤n) (dh:n≤1099511627776):
 bd ao 288 (a7 [.slice c n cp,aj a,aj b]) w (fun v w'=>v= .bool (qJ bF d a b).2∧w'.ownsRow B 51 1 (.slice c n cp) n (LE aR (qJ bF d a b).1)∧Md (fun q=>(bB c n cp).ownBlock=some q) w w'):=by
 refine enter func288 aa ntmps288 aa<|ak fun bU=>ay<|bU<|ak fun bW=>au (aj a)<|p (bI ((a+1:Nat):Int) aa aa<|bf ab ab)<|ay<|bW<|az fun bX=>ak fun bY=>p aA<|nl<|bY<|aB<|lp (fun U aI bv=> ∃ (s i:Nat) (E:Array Nat),(a+1≤i∧i≤b∧s≤5)∧(od bF a b (5 - s) i E=(qJ bF d a b))∧(bv.ownsRow B 51 1 (.slice c n cp) n<|LE aR E)∧(Md (fun q=>(bB c n cp).ownBlock=some q) w bv)∧(aI 0= .slice c n cp)∧(aI 1=aj a)∧(aI 2=aj b)∧(aI 7=aj i)∧(aI 8=aj s)∧(5 - s=U)) _ ⟨0,a+1,d,ab,aa,ce,(Md.refl _ _),aa,aa,aa,aa,aa,aa⟩ ?_
 rintro U aI bv ⟨s,i,E,hi,aG,bD,bw,cD,cE,cF,cG,cH,rfl⟩
 refine fx 0 cD<|fx 1 cE<|fx 2 cF<|fx 7 cG<|fx 8 cH<|az fun bZ=>ak fun b0=>au (aj s)<|p (lt aa aa)<|nl<|b0<|cd aa (fun cn=> ?_) fun cn=> ?_
 refine aO<|bZ<|az fun aN=>aB ?_
 refine eD (fun aK ap=> ∃ (i2:Nat),(i≤i2∧i2≤b)∧(qK bF E b i=i2)∧(ap.ownsRow B 51 1 (.slice c n cp) n<|LE aR E)∧(Md (fun q=>(bB c n cp).ownBlock=some q) w ap)∧(aK 0= .slice c n cp)∧(aK 1=aj a)∧(aK 2=aj b)∧(aK 7=aj i2)∧(aK 8=aj s)) ?_ ?_
 refine aB<|lp (fun U aL av=> ∃ (q:Nat),(i≤q∧q≤b)∧(qK bF E b q=qK bF E b i)∧(av.ownsRow B 51 1 (.slice c n cp) n<|LE aR E)∧(Md (fun q=>(bB c n cp).ownBlock=some q) w av)∧(aL 0= .slice c n cp)∧(aL 1=aj a)∧(aL 2=aj b)∧(aL 7=aj q)∧(aL 8=aj s)∧(b - q=U)) _ ⟨i,ab,aa,bD,bw,aa,aa,aa,aa,aa,aa⟩ ?_
 rintro U aL av ⟨q,bO,bq,ac,bc,cN,cO,cP,cQ,cR,rfl⟩
 refine fx 0 cN<|fx 1 cO<|fx 2 cP<|fx 7 cQ<|fx 8 cR<|az fun a9=>az fun aT=> ?_
 have cu:=ep ac
 have A:(fun w'=>Wk av w') av.drew:=(Md.refl _ _).drew
 refine bM (fun w'=>Wk av w') aa wide A<|bH 0 aa (aj q) A<|bH 1 aa (aj b) A<|aJ 2 aa (fun _ _=>lt aa aa) A<|aJ 3 aa (fun _ _=>mv) A<|ir (t:=20) aa (fun cv=> ?_) fun cv=> ?_
 refine bg 4 aa (fun _ _=>aH (.slice c n cp) aa) A<|bg 5 aa (fun _ _=>aH (aj q) aa) A<|bg 6 aa (fun _ _=>a6 bE aa aa ab<|aE.ok ((aV ac).2)<|bG ab) A<|bg 7 aa (fun w' C=>ld bP aa<|cA (i:=q) ((aV ac).2.wk C) ab) A<|bg 8 aa (fun _ _=>aH (.slice c n cp) aa) A<|bg 9 aa (fun _ _=>aH (aj q) aa) A<|bg 10 aa (fun _ _=>c4 ((q - 1:Nat):Int) aa aa<|bf ab ab) A<|bg 11 aa (fun _ _=>a6 bE aa aa ab<|aE.ok ((aV ac).2)<|bG ab) A<|bg 12 aa (fun w' C=>ld bP aa<|cA (i:=q - 1) ((aV ac).2.wk C) ab) A<|kq 13 aa ag aa aa aa<|cl kj (ks E[q]! E[q - 1]! _) aa fun v30 dc cj=> ?_
 obtain ⟨rfl,b2⟩:=cj
 have an:(fun w'=>Wk av w') dc:=Md.trans A b2
 refine ⟨an,?_⟩
 refine bg 14 aa (fun _ _=>no aa) an<|aJ 15 aa (fun _ _=>bL aa) an<|hn ag<|aT<|cb aa (fun bm=> ?_) fun bm=> ?_
 exact aO<|a9<|aB<|rg aa<|au (aj q)<|p (bI ((q+1:Nat):Int) aa aa<|bf ab ab)<|p aA<|nl<|bn<|tn<|⟨_,ab,q+1,ab,(by rw [← bq,QU (show q < b by omega) (by simpa using bm)]),(aX ac an),(Md.trans bc<|an.mono fun _ _ h=>h.elim),aa,aa,aa,aa,aa,aa⟩
 exact ext<|bj<|bj<|be<|tn<|⟨q,ab,(by rw [← bq,Ev (.inr<|by simpa using bm)]),(aX ac an),(Md.trans bc<|an.mono fun _ _ h=>h.elim),aa,aa,aa,aa,aa⟩
 exact a8 4 aa A<|a8 5 aa A<|a8 6 aa A<|a8 7 aa A<|a8 8 aa A<|a8 9 aa A<|a8 10 aa A<|a8 11 aa A<|a8 12 aa A<|a8 13 aa A<|a8 14 aa A<|aJ 15 aa (fun _ _=>bC aa) A<|hn ag<|aT<|cf aa<|ext<|bj<|bj<|be<|tn<|⟨q,ab,(by rw [← bq,Ev (.inl ab)]),(aX ac (Md.refl _ _).drew),bc.drew,aa,aa,aa,aa,aa⟩
 rintro aK ap ⟨i2,dg,aP,Z,aU,cI,cJ,cK,cL,cM⟩
 refine fx 0 cI<|fx 1 cJ<|fx 2 cK<|fx 7 cL<|fx 8 cM<|az fun a9=>ak fun aT=>au (aj i2)<|au (aj b)<|p (bR aa aa)<|nl<|aT<|cd aa (fun co=> ?_) fun co=> ?_
 refine ak fun aW=>ay<|aW<|rt<|tr<|br<|tr<|tr<|br<|tr<|ba aa ?_
 have ah:(qJ bF d a b)=(E,true):=by rw [← aG,Pu (show 0 < 5 - s by omega) aP ab]
 exact ⟨by rw [ah]; rfl,by rw [ah]; exact Z,aU⟩
 have bb:¬i2=b:=ab
 refine aO<|a9<|az fun aW=>ak fun bV=>au (aj b)<|au (aj a)<|p (c4 ((b - a:Nat):Int) aa aa<|bf ab ab)<|p (lt aa aa)<|nl<|bV<|cd aa (fun cq=> ?_) fun cq=> ?_
 refine ak fun aY=>ay<|aY<|rt<|tr<|br<|tr<|tr<|br<|tr<|ba aa ?_
 have ah:(qJ bF d a b)=(E,false):=by rw [← aG,pi_short (show 0 < 5 - s by omega) aP ab ab]
 exact ⟨by rw [ah]; rfl,by rw [ah]; exact Z,aU⟩
 refine aO<|aW<|az fun aY=> ?_
 have cu:=ep Z
 have G:(fun w'=>Wk ap w') ap.drew:=(Md.refl _ _).drew
 refine eB (fun w'=>Wk ap w') 15 aa wide G<|bl 0 aa (.slice c n cp) G<|bl 1 aa (aj i2) G<|bl 2 aa (.slice c n cp) G<|bl 3 aa (aj i2) G<|bz 4 aa (fun _=>c4 ((i2 - 1:Nat):Int) aa aa<|bf ab ab) (fun _=>G)<|bl 5 aa (.slice c n cp) G<|bl 6 aa (aj i2) G<|bz 7 aa (fun _=>c4 ((i2 - 1:Nat):Int) aa aa<|bf ab ab) (fun _=>G)<|bz 8 aa (fun _=>a6 bE aa aa ab<|aE.ok ((aV Z).2)<|bG ab) (fun _=>G)<|dU 9 aa (fun w' C=>ld bP aa<|cA (i:=i2 - 1) ((aV Z).2.wk C) ab) G<|bl 10 aa (.slice c n cp) G<|bl 11 aa (aj i2) G<|bz 12 aa (fun _=>a6 bE aa aa ab<|aE.ok ((aV Z).2)<|bG ab) (fun _=>G)<|dU 13 aa (fun w' C=>ld bP aa<|cA (i:=i2) ((aV Z).2.wk C) ab) G<|bz 14 aa (fun _=>a6 bE aa aa ab<|aE.ok ((aV Z).2)<|bG ab) (fun _=>G) ?_
 refine c5 15 aa ag ag<|eT (u:=E[i2 - 1]!) (i2) (aX Z G) eJ aa aa aa ab fun dk b4 cw=>bz 16 aa (fun _=>a6 bE aa aa ab<|aE.ok ((aV Z).2)<|bG ab) (fun h=>c7<|(show true =_ from by kernel_rfl).trans h)<|c5 17 aa ag ag<|eT (u:=E[i2]!) (i2 - 1) cw eJ aa aa aa ab fun bQ b5 cx=> ?_
 have bK:bQ.ownsRow B 51 1 (.slice c n cp) n (LE aR<|bN E (i2)<|i2 - 1):=cx
 have bx:Md (fun q=>(bB c n cp).ownBlock=some q) ap bQ:=Md.trans (G.mono fun _ _ h=>h.elim)<|Md.trans b4 b5
 refine eA ag<|aY ?_
 refine eD (fun aM bu=> ∃ (ai:Array Nat),(ai=if i2 - a≥2 then vm bF (i2 - 1) (bN E i2<|i2 - 1) else (bN E i2<|i2 - 1))∧(bu.ownsRow B 51 1 (.slice c n cp) n<|LE aR ai)∧(Md (fun q=>(bB c n cp).ownBlock=some q) w bu)∧(aM 0= .slice c n cp)∧(aM 1=aj a)∧(aM 2=aj b)∧(aM 7=aj i2)∧(aM 8=aj s)) ?_ ?_
 refine ak fun aZ=>au (aj i2)<|au (aj a)<|p (c4 ((i2 - a:Nat):Int) aa aa<|bf ab ab)<|p (ge aa aa)<|nl<|aZ<|cd aa (fun cr=> ?_) fun cr=> ?_
 refine ak fun a0=>au (aj i2)<|p (c4 ((i2 - 1:Nat):Int) aa aa<|bf ab ab)<|ay<|a0<|aB<|lp (fun U ax aq=> ∃ (q:Nat) (O:Array Nat),(q≤i2 - 1)∧(vm bF q O=vm bF (i2 - 1) (bN E i2<|i2 - 1))∧(aq.ownsRow B 51 1 (.slice c n cp) n<|LE aR O)∧(Md (fun q=>(bB c n cp).ownBlock=some q) w aq)∧(ax 0= .slice c n cp)∧(ax 1=aj a)∧(ax 2=aj b)∧(ax 7=aj i2)∧(ax 8=aj s)∧(ax 9=aj q)∧(q=U)) _ ⟨i2 - 1,(bN E i2<|i2 - 1),ab,aa,bK,(Md.trans aU bx),aa,aa,aa,aa,aa,aa,aa⟩ ?_
 rintro U ax aq ⟨q,O,bO,bs,ad,bh,cX,cY,cZ,c0,c1,c2,rfl⟩
 refine fx 0 cX<|fx 1 cY<|fx 2 cZ<|fx 7 c0<|fx 8 c1<|fx 9 c2<|az fun a1=>ak fun a2=>au (aj q)<|p (ge aa aa)<|nl<|a2<|cd aa (fun cs=> ?_) fun cs=> ?_
 refine aO<|a1<|az fun a3=>aB<|az fun a4=>az fun a5=> ?_
 have de:=ep ad
 have V:(fun w'=>Wk aq w') aq.drew:=(Md.refl _ _).drew
 refine bM (fun w'=>Wk aq w') aa wide V<|bH 0 aa (.slice c n cp) V<|bH 1 aa (aj q) V<|aJ 2 aa (fun _ _=>a6 bE aa aa ab<|aE.ok ((aV ad).2)<|bG ab) V<|aJ 3 aa (fun w' C=>ld bP aa<|cA (i:=q) ((aV ad).2.wk C) ab) V<|bH 4 aa (.slice c n cp) V<|bH 5 aa (aj q) V<|aJ 6 aa (fun _ _=>c4 ((q - 1:Nat):Int) aa aa<|bf ab ab) V<|aJ 7 aa (fun _ _=>a6 bE aa aa ab<|aE.ok ((aV ad).2)<|bG ab) V<|aJ 8 aa (fun w' C=>ld bP aa<|cA (i:=q - 1) ((aV ad).2.wk C) ab) V<|he 9 aa ag<|cl kj (ks O[q]! O[q - 1]! _) aa fun dj aS ck=> ?_
 obtain ⟨rfl,b3⟩:=ck
 have aD:(fun w'=>Wk aq w') aS:=Md.trans V b3
 refine ⟨aD,?_⟩
 refine aJ 10 aa (fun _ _=>no aa) aD<|hn ag<|a5<|cb aa (fun bo=> ?_) fun bo=> ?_
 exact ext<|bj<|la aw<|bj<|bj<|be<|tn<|⟨O,(by rw [if_pos ab,← bs,Eg (.inr<|by simpa using bo)]),(aX ad aD),(Md.trans bh<|aD.mono fun _ _ h=>h.elim),aa,aa,aa,aa,aa⟩
 refine aO<|a4 ?_
 have al:=aX ad aD
 have I:(fun w'=>Wk aS w') aS.drew:=(Md.refl _ _).drew
 refine eB (fun w'=>Wk aS w') 15 aa wide I<|bl 0 aa (.slice c n cp) I<|bl 1 aa (aj q) I<|bl 2 aa (.slice c n cp) I<|bl 3 aa (aj q) I<|bz 4 aa (fun _=>c4 ((q - 1:Nat):Int) aa aa<|bf ab ab) (fun _=>I)<|bl 5 aa (.slice c n cp) I<|bl 6 aa (aj q) I<|bz 7 aa (fun _=>c4 ((q - 1:Nat):Int) aa aa<|bf ab ab) (fun _=>I)<|bz 8 aa (fun _=>a6 bE aa aa ab<|aE.ok ((aV al).2)<|bG ab) (fun _=>I)<|dU 9 aa (fun w' C=>ld bP aa<|cA (i:=q - 1) ((aV al).2.wk C) ab) I<|bl 10 aa (.slice c n cp) I<|bl 11 aa (aj q) I<|bz 12 aa (fun _=>a6 bE aa aa ab<|aE.ok ((aV al).2)<|bG ab) (fun _=>I)<|dU 13 aa (fun w' C=>ld bP aa<|cA (i:=q) ((aV al).2.wk C) ab) I<|bz 14 aa (fun _=>a6 bE aa aa ab<|aE.ok ((aV al).2)<|bG ab) (fun _=>I) ?_
 refine c5 15 aa ag ag<|eT (u:=O[q - 1]!) (q) (aX al I) eJ aa aa aa ab fun dl b7 cy=>bz 16 aa (fun _=>a6 bE aa aa ab<|aE.ok ((aV al).2)<|bG ab) (fun h=>c7<|(show true =_ from by kernel_rfl).trans h)<|c5 17 aa ag ag<|eT (u:=O[q]!) (q - 1) cy eJ aa aa aa ab fun bS b8 cz=> ?_
 have cg:bS.ownsRow B 51 1 (.slice c n cp) n (LE aR<|bN O (q)<|q - 1):=cz
 have b6:Md (fun q=>(bB c n cp).ownBlock=some q) aS bS:=Md.trans (I.mono fun _ _ h=>h.elim)<|Md.trans b7 b8
 exact eA ag<|bn<|a3<|rg aa<|au (aj q)<|p (c4 ((q - 1:Nat):Int) aa aa<|bf ab ab)<|p aA<|nl<|tn<|⟨_,ab,q - 1,bN O q (q - 1),ab,(by rw [← bs,Qp (show 0 < q by omega) (by simpa using bo)]),cg,(Md.trans bh<|Md.trans (aD.mono fun _ _ h=>h.elim) b6),aa,aa,aa,aa,aa,aa,aa⟩
 exact ext<|bj<|bj<|be<|tn<|⟨O,(by rw [if_pos ab,← bs,Eg (.inl ab)]),ad,bh,aa,aa,aa,aa,aa⟩
 exact aO<|tn<|⟨(bN E i2<|i2 - 1),(by rw [if_neg ab]),bK,(Md.trans aU bx),aa,aa,aa,aa,aa⟩
 rintro aM bu ⟨ai,bp,bJ,bA,cS,cT,cU,cV,cW⟩
 refine fx 0 cS<|fx 1 cT<|fx 2 cU<|fx 7 cV<|fx 8 cW<|ak fun aZ=>au (aj b)<|au (aj i2)<|p (c4 ((b - i2:Nat):Int) aa aa<|bf ab ab)<|p (ge aa aa)<|nl<|aZ<|cd aa (fun ct=> ?_) fun ct=> ?_
 refine ak fun a0=>au (aj i2)<|p (bI ((i2+1:Nat):Int) aa aa<|bf ab ab)<|ay<|a0<|aB<|lp (fun U aC ar=> ∃ (q:Nat) (M:Array Nat),(i2+1≤q∧q≤b)∧(zD bF b q M=zD bF b (i2+1) ai)∧(ar.ownsRow B 51 1 (.slice c n cp) n<|LE aR M)∧(Md (fun q=>(bB c n cp).ownBlock=some q) w ar)∧(aC 0= .slice c n cp)∧(aC 1=aj a)∧(aC 2=aj b)∧(aC 7=aj i2)∧(aC 8=aj s)∧(aC 10=aj q)∧(b - q=U)) _ ⟨i2+1,ai,ab,aa,bJ,bA,aa,aa,aa,aa,aa,aa,aa⟩ ?_
 rintro U aC ar ⟨q,M,bO,bt,ae,bi,c3,c6,c9,da,db,c8,rfl⟩
 refine fx 0 c3<|fx 1 c6<|fx 2 c9<|fx 7 da<|fx 8 db<|fx 10 c8<|az fun a1=>ak fun a2=>au (aj q)<|au (aj b)<|p (lt aa aa)<|nl<|a2<|cd aa (fun cm=> ?_) fun cm=> ?_
 refine aO<|a1<|az fun a3=>aB<|az fun a4=>az fun a5=> ?_
 have df:=ep ae
 have Y:(fun w'=>Wk ar w') ar.drew:=(Md.refl _ _).drew
 refine bM (fun w'=>Wk ar w') aa wide Y<|bH 0 aa (.slice c n cp) Y<|bH 1 aa (aj q) Y<|aJ 2 aa (fun _ _=>a6 bE aa aa ab<|aE.ok ((aV ae).2)<|bG ab) Y<|aJ 3 aa (fun w' C=>ld bP aa<|cA (i:=q) ((aV ae).2.wk C) ab) Y<|bH 4 aa (.slice c n cp) Y<|bH 5 aa (aj q) Y<|aJ 6 aa (fun _ _=>c4 ((q - 1:Nat):Int) aa aa<|bf ab ab) Y<|aJ 7 aa (fun _ _=>a6 bE aa aa ab<|aE.ok ((aV ae).2)<|bG ab) Y<|aJ 8 aa (fun w' C=>ld bP aa<|cA (i:=q - 1) ((aV ae).2.wk C) ab) Y<|he 9 aa ag<|cl kj (ks M[q]! M[q - 1]! _) aa fun di aQ ci=> ?_
 obtain ⟨rfl,b1⟩:=ci
 have aF:(fun w'=>Wk ar w') aQ:=Md.trans Y b1
 refine ⟨aF,?_⟩
 refine aJ 10 aa (fun _ _=>no aa) aF<|hn ag<|a5<|cb aa (fun bk=> ?_) fun bk=> ?_
 exact ext<|bj<|la aw<|bj<|bj<|be<|bn<|aN<|rg aa<|au (aj s)<|p (bI ((s+1:Nat):Int) aa aa<|bf ab ab)<|p aA<|nl<|tn<|⟨_,ab,s+1,i2,M,ab,(by rw [← aG,pi_go (show 0 < 5 - s by omega) aP bb ab bp (show M=_ by rw [if_pos ab,← bt,Ez (.inr<|by simpa using bk)])]; rfl),(aX ae aF),(Md.trans bi<|aF.mono fun _ _ h=>h.elim),aa,aa,aa,aa,aa,aa⟩
 refine aO<|a4 ?_
 have am:=aX ae aF
 have J:(fun w'=>Wk aQ w') aQ.drew:=(Md.refl _ _).drew
 refine eB (fun w'=>Wk aQ w') 15 aa wide J<|bl 0 aa (.slice c n cp) J<|bl 1 aa (aj q) J<|bl 2 aa (.slice c n cp) J<|bl 3 aa (aj q) J<|bz 4 aa (fun _=>c4 ((q - 1:Nat):Int) aa aa<|bf ab ab) (fun _=>J)<|bl 5 aa (.slice c n cp) J<|bl 6 aa (aj q) J<|bz 7 aa (fun _=>c4 ((q - 1:Nat):Int) aa aa<|bf ab ab) (fun _=>J)<|bz 8 aa (fun _=>a6 bE aa aa ab<|aE.ok ((aV am).2)<|bG ab) (fun _=>J)<|dU 9 aa (fun w' C=>ld bP aa<|cA (i:=q - 1) ((aV am).2.wk C) ab) J<|bl 10 aa (.slice c n cp) J<|bl 11 aa (aj q) J<|bz 12 aa (fun _=>a6 bE aa aa ab<|aE.ok ((aV am).2)<|bG ab) (fun _=>J)<|dU 13 aa (fun w' C=>ld bP aa<|cA (i:=q) ((aV am).2.wk C) ab) J<|bz 14 aa (fun _=>a6 bE aa aa ab<|aE.ok ((aV am).2)<|bG ab) (fun _=>J) ?_
 refine c5 15 aa ag ag<|eT (u:=M[q - 1]!) (q) (aX am J) eJ aa aa aa ab fun dm ca cB=>bz 16 aa (fun _=>a6 bE aa aa ab<|aE.ok ((aV am).2)<|bG ab) (fun h=>c7<|(show true =_ from by kernel_rfl).trans h)<|c5 17 aa ag ag<|eT (u:=M[q]!) (q - 1) cB eJ aa aa aa ab fun bT cc cC=> ?_
 have ch:bT.ownsRow B 51 1 (.slice c n cp) n (LE aR<|bN M (q)<|q - 1):=cC
 have b9:Md (fun q=>(bB c n cp).ownBlock=some q) aQ bT:=Md.trans (J.mono fun _ _ h=>h.elim)<|Md.trans ca cc
 exact eA ag<|bn<|a3<|rg aa<|au (aj q)<|p (bI ((q+1:Nat):Int) aa aa<|bf ab ab)<|p aA<|nl<|tn<|⟨_,ab,q+1,bN M q (q - 1),ab,(by rw [← bt,Ra (show q < b by omega) (by simpa using bk)]),ch,(Md.trans bi<|Md.trans (aF.mono fun _ _ h=>h.elim) b9),aa,aa,aa,aa,aa,aa,aa⟩
 exact ext<|bj<|bj<|be<|bn<|aN<|rg aa<|au (aj s)<|p (bI ((s+1:Nat):Int) aa aa<|bf ab ab)<|p aA<|nl<|tn<|⟨_,ab,s+1,i2,M,ab,(by rw [← aG,pi_go (show 0 < 5 - s by omega) aP bb ab bp (show M=_ by rw [if_pos ab,← bt,Ez (.inl ab)])]; rfl),ae,bi,aa,aa,aa,aa,aa,aa⟩
 exact aO<|bn<|aN<|rg aa<|au (aj s)<|p (bI ((s+1:Nat):Int) aa aa<|bf ab ab)<|p aA<|nl<|tn<|⟨_,ab,s+1,i2,ai,ab,(by rw [← aG,pi_go (show 0 < 5 - s by omega) aP bb ab bp (show ai=_ by rw [if_neg ab])]; rfl),bJ,bA,aa,aa,aa,aa,aa,aa⟩
 refine ext<|bj<|bj<|be<|bX<|ak fun aN=>p aA<|nl<|aN<|rt<|ba aa ?_
 have ah:(qJ bF d a b)=(E,false):=by rw [← aG,show 5 - s=0 by omega]; rfl
 exact ⟨by rw [ah]; rfl,by rw [ah]; exact bD,bw⟩
theorem Po (d:Array Nat) (a b i:Nat) (B n cp:Nat) (c:Option Addr) (w:World) (C:w.ownsRow B 51 1 (.slice c n cp) n (LE aR d)) (E:a≤i∧i < b∧b≤n) (G:n≤1099511627776):bd ao 291 (a7 [.slice c n cp,.int .i64 (a:Nat),.int .i64 (b:Nat),.int .i64 (i:Nat)]) w
 (fun v w'=> ∃ A ap d4,og bF d a b i=(A,ap,d4)∧v= .tuple #[.int .i64 (A:Nat),.bool ap]∧w'.ownsRow B 51 1 (.slice c n cp) n (LE aR d4)∧Md (fun q=>(bB c n cp).ownBlock=some q) w w'):=
 (Pm d a b i B n cp c w C E G).mono fun _ _ h=>⟨_,_,_,rfl,h⟩
theorem Pq (d:Array Nat) (a b i:Nat) (B n cp:Nat) (c:Option Addr) (w:World) (C:w.ownsRow B 51 1 (.slice c n cp) n (LE aR d)) (E:a≤i∧i < b∧b≤n) (G:n≤1099511627776):bd ao 290 (a7 [.slice c n cp,.int .i64 (a:Nat),.int .i64 (b:Nat),.int .i64 (i:Nat)]) w
 (fun v w'=> ∃ A d4,sM bF d a b i=(A,d4)∧v= .int .i64 (A:Nat)∧w'.ownsRow B 51 1 (.slice c n cp) n (LE aR d4)∧Md (fun q=>(bB c n cp).ownBlock=some q) w w'):=
 (Pp d a b i B n cp c w C E G).mono fun _ _ h=>⟨_,_,rfl,h⟩
theorem Pr (m:Nat) (d:Array Nat) (a b lim:Nat) (B n cp:Nat) (C:Option Addr) (w:World) (bt:w.ownsRow B 51 1 (.slice C n cp) n (LE aR d)) (hm:b - a < m) (dr:a≤b∧b≤n) (cI:n≤255) (dx:lim≤64) (bX:zz bF a b d):
 bd ao 268 (a7 [.slice C n cp,aj a,aj b,aj lim]) w (fun v w'=> ∃ d1,v= .tuple #[]∧l7 a b d d1∧qI bF a b d1∧w'.ownsRow B 51 1 (.slice C n cp) n (LE aR d1)∧Md (fun q=>(bB C n cp).ownBlock=some q) w w'):=by
 have bJ:True:=trivial
 induction m generalizing d a b lim w with
 | zero=>omega
 | succ m bJ=>
   have bD:∀ (d:Array Nat) (a b lim:Nat) (w:World),w.ownsRow B 51 1 (.slice C n cp) n (LE aR d)→b - a < m→(a≤b∧b≤n)→lim≤64→zz bF a b d→_:=fun d a b lim w h1 h2 h3 h4 h5=>bJ d a b lim w h1 h2 h3 h4 h5
   have dw:=ep bt
   refine enter func268 aa ntmps268 aa<|ak fun bN=>ay<|bN<|ak fun bS=>p aA<|nl<|bS<|aB<|lp (fun bm al bl=> ∃ (c A ac:Nat) (wb wp:Bool) (G:Array Nat),(a≤c∧c≤A∧A≤b∧ac≤64)∧(zz bF c A G)∧(∀ R,l7 c A G R→qI bF c A R→l7 a b d R∧qI bF a b R)∧(bl.ownsRow B 51 1 (.slice C n cp) n<|LE aR G)∧(Md (fun q=>(bB C n cp).ownBlock=some q) w bl)∧(al 0= .slice C n cp)∧(al 1=aj c)∧(al 2=aj A)∧(al 3=aj ac)∧(al 8= .bool wb)∧(al 9= .bool wp)∧(A - c=bm)) _ ⟨a,b,lim,true,true,d,ab,bX,(fun R h1 h2=>⟨h1,h2⟩),bt,(Md.refl _ _),aa,aa,aa,aa,aa,aa,aa⟩ ?_
   rintro bm al bl ⟨c,A,ac,wb,wp,G,dA,aS,am,ax,aI,cK,cL,cM,cN,cO,cP,rfl⟩
   refine fx 0 cK<|fx 1 cL<|fx 2 cM<|fx 3 cN<|fx 8 cO<|fx 9 cP ?_
   have dv:=ep ax
   refine aB<|ak fun bT=>au (aj A)<|au (aj c)<|p (c4 ((A - c:Nat):Int) aa aa<|bf ab ab)<|p aA<|nl<|bT<|az fun bU=>ak fun bV=>p mv<|p (le aa aa)<|nl<|bV ?_
   refine cd aa (fun ct=> ?_) fun ct=> ?_
   refine ak fun aQ=>au (.slice C n cp)<|au (aj c)<|au (aj A)<|e<|cl IH (NG G c A B n cp C _ ax ab ab) aa fun dD dL ch=> ?_
   obtain ⟨rfl,b6,b0⟩:=ch
   refine nl<|aQ<|rt<|tr<|br<|tr<|br<|tO aa ?_
   obtain ⟨h1,h2⟩:=Go.Sort.insertionSort_holds rU G c A ab ab
   obtain ⟨aF,aG⟩:=am _ (h1)<|h2
   exact ⟨_,aa,aF,aG,b6,Md.trans aI b0⟩
   refine aO<|bU<|az fun aQ=>ak fun bW=>au (aj ac)<|p (bR aa aa)<|nl<|bW<|cd aa (fun cu=> ?_) fun cu=> ?_
   refine ak fun ar=>au (.slice C n cp)<|au (aj c)<|au (aj A)<|e<|cl II (Ni G c A B n cp C _ ax ab ab) aa fun dE dM ci=> ?_
   obtain ⟨rfl,b7,b1⟩:=ci
   refine nl<|ar<|rt<|tr<|br<|tr<|br<|tO aa ?_
   obtain ⟨h1,h2⟩:=Go.Sort.heapSort_holds rU G c A ab ab
   obtain ⟨aF,aG⟩:=am _ (h1)<|h2
   exact ⟨_,aa,aF,aG,b7,Md.trans aI b1⟩
   refine aO<|aQ ?_
   refine eD (fun ad bh=> ∃ (I:Nat) (d1:Array Nat),(I≤64)∧(l7 c A G d1)∧(bh.ownsRow B 51 1 (.slice C n cp) n<|LE aR d1)∧(Md (fun q=>(bB C n cp).ownBlock=some q) w bh)∧(ad 0= .slice C n cp)∧(ad 1=aj c)∧(ad 2=aj A)∧(ad 3=aj I)∧(ad 8= .bool wb)∧(ad 9= .bool wp)∧(ad 10=aj (A - c))) ?_ ?_
   refine ak fun ar=>au (.bool wb)<|p (no aa)<|nl<|ar<|cb aa (fun cv=> ?_) fun cv=> ?_
   refine ak fun M=>au (.slice C n cp)<|au (aj c)<|au (aj A)<|e<|cl IJ (HL G c A B n cp C _ ax ab cI) aa fun dF dN cj=> ?_
   obtain ⟨d1,rfl,cJ,b8,b2⟩:=cj
   exact nl<|M<|rg aa<|au (aj ac)<|p (c4 ((ac - 1:Nat):Int) aa aa<|bf ab ab)<|p aA<|nl<|tn<|⟨ac - 1,d1,ab,cJ,b8,(Md.trans aI b2),aa,aa,aa,aa,aa,aa,aa⟩
   exact aO<|tn<|⟨ac,G,ab,(F8 G c A),ax,aI,aa,aa,aa,aa,aa,aa,aa⟩
   rintro ad bh ⟨I,d1,dy,bA,cc,b5,cQ,cR,cT,cU,cV,cW,cS⟩
   refine fx 0 cQ<|fx 1 cR<|fx 2 cT<|fx 3 cU<|fx 8 cV<|fx 9 cW<|fx 10 cS<|ak fun ar=>au (.slice C n cp)<|au (aj c)<|au (aj A)<|e<|cl IK (Jp d1 c A B n cp C _ cc ab ab) aa fun v46 dO ck=> ?_
   obtain ⟨aM,dp,rfl,dz,aY,bY⟩:=ck
   have bo:=Md.trans b5<|bY.mono fun _ _ h=>h.elim
   refine p mv<|p (xt aa aa)<|p (xt aa aa)<|p aA<|ay<|ar ?_
   refine eD (fun U bi=> ∃ (J:Nat) (bb:Int) (d2:Array Nat),(c≤J∧J < A)∧(l7 c A G d2)∧(bi.ownsRow B 51 1 (.slice C n cp) n<|LE aR d2)∧(Md (fun q=>(bB C n cp).ownBlock=some q) w bi)∧(U 0= .slice C n cp)∧(U 1=aj c)∧(U 2=aj A)∧(U 3=aj I)∧(U 8= .bool wb)∧(U 9= .bool wp)∧(U 10=aj (A - c))∧(U 11=aj J)∧(U 12= .int .i64 bb)) ?_ ?_
   refine ak fun M=>p mv<|p (bR aa aa)<|nl<|M<|cd aa (fun cw=> ?_) fun cw=> ?_
   refine ak fun ae=>au (.slice C n cp)<|au (aj c)<|au (aj A)<|e<|cl IL (P8 d1 c A B n cp C _ aY ab ab) aa fun dG dP cm=> ?_
   obtain ⟨rfl,b9,b3⟩:=cm
   have ds:=ep aY
   exact nl<|ae<|ak fun aq=>au (aj A)<|p (c4 ((A - 1:Nat):Int) aa aa<|bf ab ab)<|p mv<|au (aj c)<|p (c4 ((aM - c:Nat):Int) aa aa<|bf ab ab)<|p (c4 ((A - 1 - (aM - c):Nat):Int) aa aa<|bf ab ab)<|ay<|aq<|rg aa<|p aA<|nl<|tn<|⟨A - 1 - (aM - c),1,zC d1 c A,ab,(pk _ _ _ c A bA<|Go.Sort.reverseRange_holds d1 c A ab ab),b9,(Md.trans bo b3),aa,aa,aa,aa,aa,aa,aa,aa,aa⟩
   exact aO<|tn<|⟨aM,dp,d1,ab,bA,aY,bo,aa,aa,aa,aa,aa,aa,aa,aa,aa⟩
   rintro U bi ⟨J,bb,d2,aL,an,aC,aw,cX,cY,c2,c3,c5,c6,cZ,c0,c1⟩
   refine fx 0 cX<|fx 1 cY<|fx 2 c2<|fx 3 c3<|fx 8 c5<|fx 9 c6<|fx 10 cZ<|fx 11 c0<|fx 12 c1 ?_
   refine eD (fun V ai=> ∃ (d3:Array Nat),(l7 c A G d3)∧(ai.ownsRow B 51 1 (.slice C n cp) n<|LE aR d3)∧(Md (fun q=>(bB C n cp).ownBlock=some q) w ai)∧(V 0= .slice C n cp)∧(V 1=aj c)∧(V 2=aj A)∧(V 3=aj I)∧(V 8= .bool wb)∧(V 9= .bool wp)∧(V 10=aj (A - c))∧(V 11=aj J)) ?_ ?_
   refine ak fun M=>au (.bool wb)<|au (.bool wb)<|gb (t:=62) aa (fun cz=> ?_) fun cz=> ?_
   refine aU aa (aH (.bool wp) aa)<|p (bL aa)<|p mv<|gb (t:=65) aa (fun cB=> ?_) fun cB=> ?_
   refine aU aa (aH (.int .i64 bb) aa)<|aU aa (bR aa aa)<|p (bL aa)<|nl<|M<|cd aa (fun cx=> ?_) fun cx=> ?_
   refine ak fun ae=>au (.slice C n cp)<|au (aj c)<|au (aj A)<|e<|cl IM (PE d2 c A B n cp C _ aC ab ab) aa fun v72 dQ cn=> ?_
   obtain ⟨rfl,bu,bp⟩:=cn
   have dt:=ep aC
   obtain ⟨bz,cD⟩:=Go.Sort.partialInsertionSort_holds rU d2 c A ab ab<|zA aS ab an
   refine nl<|ae<|cb aa (fun bw=> ?_) fun bw=> ?_
   have dn:=cD bw
   refine rt<|tr<|br<|tr<|br<|tO aa ?_
   obtain ⟨aF,aG⟩:=am _ (pk _ _ _ c A an bz)<|dn
   exact ⟨_,aa,aF,aG,bu,Md.trans aw bp⟩
   exact aO<|tn<|⟨_,(pk _ _ _ c A an bz),bu,(Md.trans aw bp),aa,aa,aa,aa,aa,aa,aa,aa⟩
   exact aO<|tn<|⟨d2,an,aC,aw,aa,aa,aa,aa,aa,aa,aa,aa⟩
   exact aK aa<|aK aa<|p (bC aa)<|nl<|M<|cf aa<|aO<|tn<|⟨d2,an,aC,aw,aa,aa,aa,aa,aa,aa,aa,aa⟩
   exact aK aa<|p (bC aa)<|p mv<|aK aa<|aK aa<|p (bC aa)<|nl<|M<|cf aa<|aO<|tn<|⟨d2,an,aC,aw,aa,aa,aa,aa,aa,aa,aa,aa⟩
   rintro V ai ⟨d3,aD,Z,aT,c7,c8,db,dc,dd,de,c9,da⟩
   refine fx 0 c7<|fx 1 c8<|fx 2 db<|fx 3 dc<|fx 8 dd<|fx 9 de<|fx 10 c9<|fx 11 da ?_
   refine eD (fun Y bk=>(bk.ownsRow B 51 1 (.slice C n cp) n<|LE aR d3)∧(Md (fun q=>(bB C n cp).ownBlock=some q) w bk)∧(Y 0= .slice C n cp)∧(Y 1=aj c)∧(Y 2=aj A)∧(Y 3=aj I)∧(Y 8= .bool wb)∧(Y 9= .bool wp)∧(Y 10=aj (A - c))∧(Y 11=aj J)) ?_ ?_
   refine az fun M=> ?_
   have cy:=ep Z
   have E:(fun w'=>Wk ai w') ai.drew:=(Md.refl _ _).drew
   refine bM (fun w'=>Wk ai w') aa wide E<|bH 0 aa (aj c) E<|aJ 1 aa (fun _ _=>gt aa aa) E<|aJ 2 aa (fun _ _=>mv) E<|ir (t:=75) aa (fun cC=> ?_) fun cC=> ?_
   refine bg 3 aa (fun _ _=>aH (.slice C n cp) aa) E<|bg 4 aa (fun _ _=>aH (aj c) aa) E<|bg 5 aa (fun _ _=>c4 ((c - 1:Nat):Int) aa aa<|bf ab ab) E<|bg 6 aa (fun _ _=>a6 bE aa aa ab<|aE.ok ((aV Z).2)<|bG ab) E<|bg 7 aa (fun w' a1=>ld bP aa<|cA (i:=c - 1) ((aV Z).2.wk a1) ab) E<|bg 8 aa (fun _ _=>aH (.slice C n cp) aa) E<|bg 9 aa (fun _ _=>aH (aj J) aa) E<|bg 10 aa (fun _ _=>a6 bE aa aa ab<|aE.ok ((aV Z).2)<|bG ab) E<|bg 11 aa (fun w' a1=>ld bP aa<|cA (i:=J) ((aV Z).2.wk a1) ab) E<|kq 12 aa ag aa aa aa<|cl kj (ks d3[c - 1]! d3[J]! _) aa fun v85 dq co=> ?_
   obtain ⟨rfl,bZ⟩:=co
   have ah:(fun w'=>Wk ai w') dq:=Md.trans E bZ
   refine ⟨ah,?_⟩
   refine bg 13 aa (fun _ _=>no aa) ah<|aJ 14 aa (fun _ _=>bL aa) ah<|hn ag<|M<|cb aa (fun bx=> ?_) fun bx=> ?_
   refine ak fun ae=>au (.slice C n cp)<|au (aj c)<|au (aj A)<|au (aj J)<|e<|cl IN (Pq d3 c A J B n cp C _ (aX Z ah) ab ab) aa fun dH dR cq=> ?_
   obtain ⟨O,d4,bc,rfl,ca,b4⟩:=cq
   obtain ⟨bH,cE,cF,a4,a5⟩:=Go.Sort.round_eq rU (Go.Sort.partitionEqual_holds bF) (show 0 < c by omega) aL.1 aL.2 ab (zA aS ab aD) (by simpa using bx) bc
   exact ay<|ae<|ak fun aq=>p mv<|p aA<|nl<|aq<|ext<|bj<|be<|tn<|⟨_,ab,O,A,I,wb,wp,d4,ab,a4,(fun R h1 h2=>by obtain ⟨h3,h4⟩:=a5 R h1 h2; exact am R (pk _ _ _ c A aD h3) h4),ca,(Md.trans aT<|Md.trans (ah.mono fun _ _ h=>h.elim) b4),aa,aa,aa,aa,aa,aa,aa⟩
   exact aO<|tn<|⟨(aX Z ah),(Md.trans aT<|ah.mono fun _ _ h=>h.elim),aa,aa,aa,aa,aa,aa,aa,aa⟩
   exact a8 3 aa E<|a8 4 aa E<|a8 5 aa E<|a8 6 aa E<|a8 7 aa E<|a8 8 aa E<|a8 9 aa E<|a8 10 aa E<|a8 11 aa E<|a8 12 aa E<|a8 13 aa E<|aJ 14 aa (fun _ _=>bC aa) E<|hn ag<|M<|cf aa<|aO<|tn<|⟨(aX Z (Md.refl _ _).drew),aT.drew,aa,aa,aa,aa,aa,aa,aa,aa⟩
   rintro Y bk ⟨bv,bs,df,dg,dj,dk,dl,dm,dh,di⟩
   refine fx 0 df<|fx 1 dg<|fx 2 dj<|fx 3 dk<|fx 8 dl<|fx 9 dm<|fx 10 dh<|fx 11 di<|ak fun M=>au (.slice C n cp)<|au (aj c)<|au (aj A)<|au (aj J)<|e<|cl IP (Po d3 c A J B n cp C _ bv ab ab) aa fun dI bK cr=> ?_
   obtain ⟨O,ap,d4,bc,rfl,aZ,bq⟩:=cr
   have cy:=ep bv
   have du:=ep aZ
   obtain ⟨bH,cE,cF,a4,a5,cG,cH⟩:=Go.Sort.round_part rU (Go.Sort.partition_holds bF) aL.1 aL.2 ab (zA aS ab aD) bc
   refine p mv<|p (xt aa aa)<|p (xt aa aa)<|p aA<|ay<|M<|az fun ae=>rg aa<|p mv<|ay<|ae<|ak fun aq=>p mv<|au (aj c)<|p (c4 ((O - c:Nat):Int) aa aa<|bf ab ab)<|au (aj A)<|p mv<|p (c4 ((A - O:Nat):Int) aa aa<|bf ab ab)<|p aA<|p aA<|nl<|aq<|ak fun bO=>au (aj<|A - c)<|p (nZ (((A - c) / 8:Nat):Int) aa aa ab<|bf ab ab)<|ay<|bO ?_
   refine ak fun bQ=>p mv<|p mv<|p (lt aa aa)<|nl<|bQ<|cd aa (fun cs=> ?_) fun cs=> ?_
   refine ak fun aN=>p mv<|p mv<|p (ge aa aa)<|ay<|aN<|ak fun aP=>au (.slice C n cp)<|au (aj c)<|p mv<|au (aj I)<|e<|cl wv (bD d4 c O I bK aZ ab ab ab a4) aa fun dB dJ ce=> ?_
   obtain ⟨av,rfl,a9,ba,a0,aW⟩:=ce
   obtain ⟨a2,a3⟩:=cG av a9 ba
   exact nl<|aP<|rg aa<|p mv<|p (bI ((O+1:Nat):Int) aa aa<|bf ab ab)<|p aA<|nl<|bn<|tn<|⟨_,ab,O+1,A,I,decide (((O - c:Nat):Int)≥(((A - c) / 8:Nat):Int)),ap,av,ab,a2,(fun R h1 h2=>by obtain ⟨h3,h4⟩:=a3 R h1 h2; exact am R (pk _ _ _ c A aD h3) h4),a0,(Md.trans bs<|Md.trans bq aW),aa,aa,aa,aa,aa,aa,aa⟩
   refine ak fun aN=>p mv<|p mv<|p (ge aa aa)<|ay<|aN<|ak fun aP=>au (.slice C n cp)<|p mv<|p (bI ((O+1:Nat):Int) aa aa<|bf ab ab)<|au (aj A)<|au (aj I)<|e<|cl wv (bD d4 (O+1) A I bK aZ ab ab ab a5) aa fun dC dK cg=> ?_
   obtain ⟨av,rfl,a9,ba,a0,aW⟩:=cg
   obtain ⟨a2,a3⟩:=cH av a9 ba
   exact nl<|aP<|rg aa<|p mv<|p aA<|nl<|bn<|tn<|⟨_,ab,c,O,I,decide (((A - O:Nat):Int)≥(((A - c) / 8:Nat):Int)),ap,av,ab,a2,(fun R h1 h2=>by obtain ⟨h3,h4⟩:=a3 R h1 h2; exact am R (pk _ _ _ c A aD h3) h4),a0,(Md.trans bs<|Md.trans bq aW),aa,aa,aa,aa,aa,aa,aa⟩
theorem QJ (d:Array Nat) (B n cp:Nat) (a:Option Addr) (w:World) (A:w.ownsRow B 51 1 (.slice a n cp) n (LE aR d)) (G:n≤255):
 bd ao 246 (a7 [.slice a n cp]) w (fun v w'=> ∃ d1,v= .tuple #[]∧l7 0 n d d1∧qI bF 0 n d1∧w'.ownsRow B 51 1 (.slice a n cp) n (LE aR d1)∧Md (fun q=>(bB a n cp).ownBlock=some q) w w'):=by
 refine enter func246 aa ntmps246 aa<|ak fun i=>au (.slice a n cp)<|p (bO mN aa aa)<|ay<|i<|rg aa<|au (.slice a n cp)<|p mv<|p mv<|p (mA EU qt aa<|mQ ab)<|e<|cl Ax (Dd n _ ab) aa fun v9 M E=> ?_
 obtain ⟨rfl,c⟩:=E
 have I:=uc (n:=n) ab
 refine e<|cl wv (Pr (n+1) d 0 n (jo n) B n cp a _ (aX A c) ab ab G ab<|.inl aa) aa fun v10 J C=> ?_
 obtain ⟨d1,rfl,h1,h2,h3,h4⟩:=C
 exact nl<|f0 aa<|⟨d1,aa,h1,h2,h3,Md.trans (c.mono fun _ _ h=>h.elim) h4⟩
end Go.Hb
namespace Go.Hb.fW
theorem ql {w:World} {B e n cp i:Nat} {a:Option Addr} {d:Array Nat} (h:w.ownsRow B e 1 (.slice a n cp) n (LE aR d)):aE w.heap (eM a cp i 1) ((LE aR d).drop i):=by
 have :=(aV h).2.drop (cap:=cp) (k:=i) (size:=1)<|by rw [rT]; have h1:=ep h; have h2:=(aV h).1; omega
 rwa [Nat.mul_one] at this
theorem Ov (l:List Nat):l.map aR=LE aR l.toArray:=by simp [LE]
theorem pJ (l:List Nat):(l.map aR).all eW=true :=by
 rw [List.all_eq_true]; intro v a; obtain ⟨x,_,rfl⟩:=List.mem_map.1 a; rfl
theorem Rk (d:Array Nat) (k:Nat):(LE aR d).take k=(d.toList.take k).map aR:=by simp [LE,List.map_take]
theorem sg (b:UInt8):gE b=decide ((b.toNat:Int) > 32∧(b.toNat:Int) < 127∧(b.toNat:Int)≠47∧(b.toNat:Int)≠44∧(b.toNat:Int)≠35):=by
 unfold gE; exact decide_eq_decide.2 ab
theorem Pg {w:World} {B e size n cp:Nat} {a:Option Addr} {xs:List Value} (h:w.ownsRow B e size (.slice a n cp) n xs) (hn:0 < n):a≠none:=by
 rintro rfl
 rcases h.2 with ⟨_,h5⟩ | ⟨g,cap,cur,h4,_⟩
 · omega
 · simp at h4
theorem pO (a:Option Addr) (n c:Nat) (xs:List Value) (w:World) (M:aE w.heap a xs) (ad:xs.length=n*1) (V:a=none→n=0) (h1:xs.all eW=true) (hn:n≤1048576):
 bd ao 51 (a7 [.slice a n c]) w (fun v w'=>bp w' w.heap.size 51 1 v n xs∧Wk w w'):=by
 refine enter func51 aa ntmps51 aa<|ak fun E=>ay<|E<|az fun G=>ak fun I=>au (.slice a n c)<|p (pV mN aa aa)<|nl<|I<|cb aa (fun A=> ?_) fun A=> ?_
 have Y:a=none:=by simpa using A
 refine ak fun i=>ay<|i<|rt<|tr<|ba aa ?_
 have Z:=V Y
 subst Z
 obtain rfl :=List.eq_nil_of_length_eq_zero (show xs.length=0 by omega)
 exact ⟨dJ _ _ _ _,Md.refl _ _⟩
 refine aO<|G<|ak fun i=>e<|pM uI fun ai an aj q J=> ?_
 have C:=J w.heap.size ab
 refine au (.slice a n c)<|e<|ap uI (C) aa (by have :=q.size; omega) aa (M.wk q.md) (ad) (h1) ab ab fun ag ah ac U am al=> ?_
 have O:=Wk.own q.md C U<|cw _
 refine ay<|i<|rt<|ba aa ?_
 have ae:bp ah w.heap.size 51 1 ag n xs:=by simpa using ac
 exact ⟨ae,O⟩
theorem Kc (d:Array Nat) (B n cp:Nat) (a:Option Addr) (w:World) (E:w.ownsRow B 51 1 (.slice a n cp) n (LE aR d)) (bo:n≤1048576):
 bd ao 247 (a7 [.slice a n cp]) w (fun v w'=> ∃ k,v= .slice a k cp∧k=(fN d.toList).length∧bp w' B 51 1 (.slice a k cp) k ((fN d.toList).map aR)∧Md (fun q=>(bB a n cp).ownBlock=some q) w w'):=by
 have bm:=ep E
 have bk:=(aV E).1
 refine enter func247 aa ntmps247 aa<|ak fun aw=>ay<|aw<|az fun aK=>ak fun aL=>au (.slice a n cp)<|p (bO mN aa aa)<|p (lt aa aa)<|nl<|aL<|cd aa (fun a0=> ?_) fun a0=> ?_
 refine ak fun am=>au (.slice a n cp)<|p (bZ (.slice a n cp) aa)<|nl<|am<|rt<|tr<|ba aa ?_
 have ai:fN d.toList=d.toList:=by
  have aq:d.toList.length < 2:=by rw [qn]; omega
  revert aq
  generalize d.toList=l
  intro aq
  match l,aq with
  | [],_=>rfl
  | [x],_=>rfl
 exact ⟨n,aa,by rw [ai,qn]; omega,by rw [ai]; exact E,Md.refl _ _⟩
 refine aO<|aK<|az fun am=>ak fun aM=>ay<|aM<|aB<|lp (fun U ar Z=> ∃ (i:Nat),(1≤i∧i≤n∧2≤n)∧(fN (d.toList.take i)=d.toList.take i)∧(Wk w Z)∧(ar 0= .slice a n cp)∧(ar 3=aj i)∧(n - i=U)) _ ⟨1,ab,(by have h1:=uN (d:=d) (i:=0) ab; rw [h1]; rfl),(Md.refl _ _),aa,aa,aa⟩ ?_
 rintro U ar Z ⟨i,hi,V,I,a9,bb,rfl⟩
 refine fx 0 a9<|fx 3 bb<|az fun aN=>ak fun aP=>au (aj i)<|au (.slice a n cp)<|p (bO mN aa aa)<|p (lt aa aa)<|nl<|aP<|cd aa (fun aU=> ?_) fun aU=> ?_
 refine aO<|aN<|az fun an=>aB<|az fun aQ=> ?_
 have A:(fun w'=>Wk Z w') Z.drew:=(Md.refl _ _).drew
 refine bM (fun w'=>Wk Z w') aa wide A<|bH 0 aa (.slice a n cp) A<|bH 1 aa (aj i) A<|aJ 2 aa (fun _ _=>a6 bE aa aa ab<|aE.ok ((aV E).2)<|bG ab) A<|aJ 3 aa (fun w' J=>ld bP aa<|Wk.aI J<|cA (i:=i) (aV<|aX E I).2 ab) A<|bH 4 aa (.slice a n cp) A<|bH 5 aa (aj i) A<|aJ 6 aa (fun _ _=>c4 ((i - 1:Nat):Int) aa aa<|bf ab ab) A<|aJ 7 aa (fun _ _=>a6 bE aa aa ab<|aE.ok ((aV E).2)<|bG ab) A<|aJ 8 aa (fun w' J=>ld bP aa<|Wk.aI J<|cA (i:=i - 1) (aV<|aX E I).2 ab) A<|aJ 9 aa (fun _ _=>bR aa aa) A<|hn ag<|aQ<|cd aa (fun aW=> ?_) fun aW=> ?_
 have heq:d[i - 1]! =d[i]! :=ab
 refine ak fun ax=>au (.slice a n cp)<|au (aj i)<|p (sh bE aa aa ab)<|ay<|ax<|az fun aC=>ak fun aD=>ay<|aD<|aB<|lp (fun U ac O=> ∃ (k i2:Nat) (C:Array Nat),(1≤k∧k < i+i2∧1≤i2∧i2≤n - i)∧(C.toList.drop k=d.toList.drop k)∧(C.toList.take k=fN (d.toList.take<|i+i2))∧(O.ownsRow B 51 1 (.slice a n cp) n<|LE aR C)∧(Md (fun q=>(bB a n cp).ownBlock=some q) w O)∧(ac 0= .slice a n cp)∧(ac 3=aj k)∧(ac 4= .slice (eM a cp i 1) (n - i) (cp - i))∧(ac 5=aj i2)∧(n - i2=U)) _ ⟨i,1,d,ab,aa,(by rw [tG ab ab,if_pos heq,V]),(aX E<|Md.trans I (Md.refl _ _).drew),((Md.trans I (Md.refl _ _).drew).mono fun _ _ h=>h.elim),aa,aa,aa,aa,aa⟩ ?_
 rintro U ac O ⟨k,i2,C,hk,M,Y,G,ap,bc,bg,bh,bi,rfl⟩
 refine fx 0 bc<|fx 3 bg<|fx 4 bh<|fx 5 bi ?_
 have bl:=ep G
 refine az fun aF=>ak fun aG=>au (aj i2)<|au (.slice (eM a cp i 1) (n - i)<|cp - i)<|p (bO mN aa aa)<|p (lt aa aa)<|nl<|aG<|cd aa (fun aY=> ?_) fun aY=> ?_
 refine aO<|aF<|az fun ae=>aB<|az fun al=> ?_
 have c:(fun w'=>Wk O w') O.drew:=(Md.refl _ _).drew
 refine bM (fun w'=>Wk O w') aa wide c<|bH 0 aa (.slice (eM a cp i 1) (n - i)<|cp - i) c<|bH 1 aa (aj i2) c<|aJ 2 aa (fun _ _=>a6 bE aa aa ab<|aE.ok (ql G)<|ya ab) c<|aJ 3 aa (fun w' J=>ld bP aa<|Wk.aI J<|x9 (j:=i2) (ql G) ab) c<|bH 4 aa (.slice (eM a cp i 1) (n - i)<|cp - i) c<|bH 5 aa (aj i2) c<|aJ 6 aa (fun _ _=>c4 ((i2 - 1:Nat):Int) aa aa<|bf ab ab) c<|aJ 7 aa (fun _ _=>a6 bE aa aa ab<|aE.ok (ql G)<|ya ab) c<|aJ 8 aa (fun w' J=>ld bP aa<|Wk.aI J<|x9 (j:=i2 - 1) (ql G) ab) c<|aJ 9 aa (fun _ _=>fR aa aa) c<|hn ag<|al<|cd aa (fun aZ=> ?_) fun aZ=> ?_
 have ah:=aX G c
 have g1:=tI M (show k≤i+i2 by omega)
 have g2:=tI M (show k≤i+(i2 - 1) by omega)
 have a3:¬d[i+i2 - 1]! =d[i+i2]! :=by rw [show i+i2 - 1=i+(i2 - 1) by omega,← g1,← g2]; omega
 exact ak fun aH=>au (.slice a n cp)<|au (aj k)<|au (.slice (eM a cp i 1) (n - i)<|cp - i)<|au (aj i2)<|p (a6 bE aa aa ab<|aE.ok (ql ah)<|ya ab)<|p (ld bP aa<|x9 (j:=i2) (ql ah) ab)<|p (a6 bE aa aa ab<|aE.ok ((aV ah).2)<|bG ab)<|e<|eT (u:=C[i+i2]!) (k) ah eJ aa aa aa ab fun bq aS a5=>nl<|aH<|rg aa<|au (aj k)<|p (bI ((k+1:Nat):Int) aa aa<|bf ab ab)<|p aA<|nl<|bn<|ae<|rg aa<|au (aj i2)<|p (bI ((i2+1:Nat):Int) aa aa<|bf ab ab)<|p aA<|nl<|tn<|⟨_,ab,k+1,i2+1,C.setIfInBounds k C[i+i2]!,ab,(by rw [set_drop ab]; have h3:=congrArg (List.drop 1) M; rwa [zI,zI] at h3),(by rw [yL ab,Y,show i+(i2+1)=i+i2+1 from aa,tG ab ab,if_neg a3,g1]),a5,(Md.trans ap<|Md.trans (c.mono fun _ _ h=>h.elim) aS),aa,aa,aa,aa,aa⟩
 have g1:=tI M (show k≤i+i2 by omega)
 have g2:=tI M (show k≤i+(i2 - 1) by omega)
 have a1:d[i+i2 - 1]! =d[i+i2]! :=by rw [show i+i2 - 1=i+(i2 - 1) by omega,← g1,← g2]; omega
 exact aO<|bn<|ae<|rg aa<|au (aj i2)<|p (bI ((i2+1:Nat):Int) aa aa<|bf ab ab)<|p aA<|nl<|tn<|⟨_,ab,k,i2+1,C,ab,M,(by rw [Y,show i+(i2+1)=i+i2+1 from aa,tG ab ab,if_pos a1]),(aX G (Md.refl _ _).drew),ap.drew,aa,aa,aa,aa,aa⟩
 refine ext<|bj<|bj<|be<|aC<|ak fun ae=>au (.slice a n cp)<|au (aj k)<|p (sh bE aa aa ab)<|e<|JL (k:=k) mN Sv aa G aa aa ab fun bs aT a8=>nl<|ae<|ak fun al=>au (.slice a n cp)<|au (aj k)<|p (uB bE aa aa ab)<|ay<|al<|rt<|br<|tr<|tr<|br<|tr<|ba aa ?_
 have ai:d.toList.take (i+i2)=d.toList:=fq<|by rw [qn]; omega
 rw [ai] at Y
 have a2:k=(fN d.toList).length:=by rw [← Y,ec,qn]; omega
 refine ⟨k,aa,a2,?_,Md.trans ap aT⟩
 have av:=DQ a8 (show k≤n by omega)<|Pg E ab
 rw [Nat.mul_one,List.take_append,fq (l:=(LE aR C).take k) (by rw [ec]; omega),ec,rT,show k - min k C.size=0 by omega,nG,eb,Rk,Y] at av
 exact av
 have a4:¬d[i - 1]! =d[i]! :=ab
 exact aO<|bn<|an<|rg aa<|au (aj i)<|p (ad aa aa<|cg ab)<|p aA<|nl<|tn<|⟨_,ab,i+1,ab,(by rw [tG ab ab,if_neg a4,V,uN ab]),(Md.trans I (Md.refl _ _).drew),aa,aa,aa⟩
 refine ext<|bj<|bj<|be<|am<|ak fun an=>au (.slice a n cp)<|p (bZ (.slice a n cp) aa)<|nl<|an<|rt<|ba aa ?_
 rw [show d.toList.take i=d.toList from fq (by rw [qn]; omega)] at V
 exact ⟨n,aa,by rw [V,qn]; omega,by rw [V]; exact aX E I,I.mono fun _ _ h=>h.elim⟩
theorem um (l:List Nat) (a:Option Addr) (c:Nat) (w:World) (O:aE w.heap a (l.map aR)) (ag:a=none→l.length=0) (ah:l.length≤255):
 bd ao 205 (a7 [.slice a l.length c]) w (fun v w'=>bp w' w.heap.size 51 1 v (j7 l).length ((j7 l).map aR)∧Wk w w'):=by
 refine enter func205 aa ntmps205 aa<|ak fun G=>ay<|G<|ak fun I=>au (.slice a l.length c)<|e<|cl oF (pO a l.length c (l.map aR) _ O (by simp) ag (pJ l) ab) aa fun v5 an ac=> ?_
 obtain ⟨A,U⟩:=ac
 obtain ⟨i,q,rfl⟩:=cU A
 rw [Ov] at A
 refine ay<|I<|ak fun J=>au (.slice i l.length q)<|e<|cl Iu (QJ l.toArray w.heap.size l.length q i _ A ah) aa fun am ap ad=> ?_
 obtain ⟨d1,rfl,ai,aj,C,Y⟩:=ad
 refine nl<|J<|ak fun M=>au (.slice i l.length q)<|e<|cl Iv (Kc d1 w.heap.size l.length q i _ C ab) aa fun v9 al ae=> ?_
 obtain ⟨k,rfl,hk,E,Z⟩:=ae
 have V:Wk w al:=Wk.own (Wk.own U A Y<|cw _) C Z<|cw _
 refine ay<|M<|rt<|ba aa ?_
 rw [QI ai aj] at hk E
 exact ⟨by rw [← hk]; exact E,V⟩
theorem yM (b:UInt8) (w:World):
 bd ao 266 (a7 [.int .u8 b.toNat]) w (fun v w'=>v= .bool (gE b)∧Wk w w'):=by
 refine enter func266 aa ntmps266 aa<|ak fun c=>ay<|c<|ak fun a=>au (.int .u8 b.toNat)<|p (gt aa aa)<|p mv<|gs (t:=5) aa (fun A=> ?_) fun A=> ?_
 refine aU aa (aH (.int .u8 b.toNat) aa)<|aU aa (lt aa aa)<|p (bL aa)<|p mv<|gs (t:=9) aa (fun C=> ?_) fun C=> ?_
 refine aU aa (aH (.int .u8 b.toNat) aa)<|aU aa (fR aa aa)<|p (bL aa)<|p mv<|gs (t:=13) aa (fun i=> ?_) fun i=> ?_
 refine aU aa (aH (.int .u8 b.toNat) aa)<|aU aa (fR aa aa)<|p (bL aa)<|p mv<|gs (t:=17) aa (fun q=> ?_) fun q=> ?_
 exact aU aa (aH (.int .u8 b.toNat) aa)<|aU aa (fR aa aa)<|p (bL aa)<|ay<|a<|rt<|ba aa<|⟨by show bQ (decide _)=_; rw [sg]; exact bv (by constructor <;> intro h <;> first | exact ⟨ab,ab,ab,ab,h⟩ | exact h.2.2.2.2),Md.refl _ _⟩
 exact aK aa<|aK aa<|p (bC aa)<|ay<|a<|rt<|ba aa<|⟨by show bQ false =_; rw [sg,decide_eq_false ab],Md.refl _ _⟩
 exact aK aa<|aK aa<|p (bC aa)<|p mv<|aK aa<|aK aa<|p (bC aa)<|p aA<|nl<|a<|rt<|ba aa<|⟨by show bQ false =_; rw [sg,decide_eq_false ab],Md.refl _ _⟩
 exact aK aa<|aK aa<|p (bC aa)<|p mv<|aK aa<|aK aa<|p (bC aa)<|p mv<|aK aa<|aK aa<|p (bC aa)<|ay<|a<|rt<|ba aa<|⟨by show bQ false =_; rw [sg,decide_eq_false ab],Md.refl _ _⟩
 exact aK aa<|aK aa<|p (bC aa)<|p mv<|aK aa<|aK aa<|p (bC aa)<|p mv<|aK aa<|aK aa<|p (bC aa)<|p mv<|aK aa<|aK aa<|p (bC aa)<|p aA<|nl<|a<|rt<|ba aa<|⟨by show bQ false =_; rw [sg,decide_eq_false ab],Md.refl _ _⟩
theorem C4 (k:Nat) (w:World):
 bd ao 242 (a7 [aj k]) w (fun v w'=>v= .bool (decide (1≤k∧k≤3))∧Wk w w'):=by
 refine enter func242 aa ntmps242 aa<|ak fun c=>ay<|c<|ak fun a=>au (aj k)<|p (ge aa aa)<|p mv<|gs (t:=5) aa (fun i=> ?_) fun i=> ?_
 exact aU aa (aH (aj k) aa)<|aU aa (le aa aa)<|p (bL aa)<|ay<|a<|rt<|ba aa<|⟨by show bQ (decide _)=_; exact bv ab,Md.refl _ _⟩
 exact aK aa<|aK aa<|p (bC aa)<|ay<|a<|rt<|ba aa<|⟨by show bQ false =_; rw [decide_eq_false ab],Md.refl _ _⟩
end Go.Hb.fW
section
namespace Go.Hb
open Go.Hb.fW
theorem Ml {kind:Nat} {s:List UInt8} (h:kind=1∧s.length=1∧gE (s.getD 0 0)=true):ei kind s=(s.getD 0 0).toNat:=by unfold ei; rw [if_pos h.1,if_pos h.2]
theorem Mm {kind:Nat} {s:List UInt8} (h:kind=2∧s.length=2∧gE (s.getD 0 0)=true∧gE (s.getD 1 0)=true):ei kind s=256 *(s.getD 0 0).toNat+(s.getD 1 0).toNat:=by unfold ei; rw [if_neg ab,if_pos h.1,if_pos h.2]
theorem Mn {kind:Nat} {s:List UInt8} (h:kind=3):ei kind s=(eR s 65535).1:=by unfold ei; rw [if_neg ab,if_neg ab]
theorem Mk {kind:Nat} {s:List UInt8} (h:kind=1∨kind=2) (h1:¬(kind=1∧s.length=1∧gE (s.getD 0 0)=true)) (h2:¬(kind=2∧s.length=2∧gE (s.getD 0 0)=true∧gE (s.getD 1 0)=true)):ei kind s=0:=by
 unfold ei
 rcases h with h | h
 · rw [if_pos h,if_neg (fun h3=>h1 ⟨h,h3⟩)]
 · rw [if_neg ab,if_pos h,if_neg (fun h3=>h2 ⟨h,h3⟩)]
theorem NI {c:UInt8} {l:List UInt8} (h:0 < l.count c):¬dT c l < 0:=by
 intro h1
 exact C1 h1<|List.idxOf_lt_length_iff.2<|vv.1 h
theorem P1 (n:Nat) (x:List UInt8):iK n (str x)=(iK n x).map str:=by rw [List.map_replicate]
theorem El {a:List (List UInt8)} {m:Nat} {x:List UInt8} (h:0 < m):((a++iK m []).map str).set a.length (str x)=((a++ [x])++iK (m - 1) []).map str:=by
 obtain ⟨m,rfl⟩:∃ k,m=k+1:=⟨m - 1,ab⟩
 rw [← List.map_set,List.set_append_right _ _ (cw _),Nat.sub_self,List.replicate_succ,List.set_cons_zero,Nat.add_sub_cancel,dK]; rfl
theorem LW {kind:Nat} {ps:List (List UInt8)} {i:Nat} (h:i < ps.length) (h1:¬∃ x∈ps.take i,ei kind x=0) (h2:ei kind (ps.getD i [])≠0):¬∃ x∈ps.take (i+1),ei kind x=0:=by
 rw [ky ps i [] h]
 rintro ⟨x,a,h3⟩
 rcases List.mem_append.1 a with a | a
 · exact h1 ⟨x,a,h3⟩
 · rw [List.mem_singleton] at a; subst a; exact h2 h3
theorem CE {α:Type} {l:List α} {i:Nat} {d:α} (h:i < l.length):l.getD i d∈l:=by
 rw [List.getD_eq_getElem?_getD,List.getElem?_eq_getElem h]; exact List.getElem_mem h
theorem Cc (kind:Nat) (s:List UInt8) (w:World) (hk:kind=1∨kind=2∨kind=3) (hs:s.length≤1048576):
 bd ao 244 (a7 [aj kind,str s]) w (fun v w'=>v=aR (ei kind s)∧Wk w w'):=by
 refine enter func244 aa ntmps244 aa<|ak fun ae=>ay<|ae<|az fun ah=>aB ?_
 refine eD (fun C ad=> ∃ (I:Bool),(I=decide (kind=1∧s.length=1∧gE (s.getD 0 0)=true))∧(Wk w ad)∧(C 0=aj kind)∧(C 1=str s)∧(C 7= .bool I)) ?_ ?_
 refine rg aa<|au (aj kind)<|p (bR aa aa)<|p mv<|gs (t:=10) aa (fun aC=> ?_) fun aC=> ?_
 refine aU aa (aH (str s) aa)<|aU aa (dv u9 aa aa)<|aU aa (bR aa aa)<|p (bL aa)<|p mv<|gs (t:=15) aa (fun aD=> ?_) fun aD=> ?_
 refine aU aa (aH (str s) aa)<|aU aa (lW 0 u9 aa aa ab)<|eg aa aa aa<|cl wu (yM (s.getD 0 0) _) aa fun aS aX ap=> ?_
 obtain ⟨rfl,al⟩:=ap
 exact p (bL aa)<|p aA<|nl<|tn<|⟨gE (s.getD 0 0),(by rw [qC,decide_eq_true_iff]; exact ⟨fun h=>⟨ab,ab,h⟩,fun h=>h.2.2⟩),al,aa,aa,aa⟩
 exact aK aa<|aK aa<|aK aa<|p (bC aa)<|p aA<|nl<|tn<|⟨false,((decide_eq_false fun h=>by omega).symm),(Md.refl _ _),aa,aa,aa⟩
 exact aK aa<|aK aa<|aK aa<|p (bC aa)<|p mv<|aK aa<|aK aa<|aK aa<|p (bC aa)<|p aA<|nl<|tn<|⟨false,((decide_eq_false fun h=>by omega).symm),(Md.refl _ _),aa,aa,aa⟩
 rintro C ad ⟨I,Z,c,aG,aI,aL⟩
 refine fx 0 aG<|fx 1 aI<|fx 7 aL<|cb aa (fun O=> ?_) fun O=> ?_
 have U:kind=1∧s.length=1∧gE (s.getD 0 0)=true :=of_decide_eq_true<|Z ▸ O
 exact ak fun i=>au (str s)<|p (lW 0 u9 aa aa ab)<|p (mA uP sA aa<|qy<|by have :=iS (s.getD 0 0); omega)<|ay<|i<|rt<|br<|tr<|ba aa<|⟨by rw [Ml U]; rfl,c⟩
 have U:¬(kind=1∧s.length=1∧gE (s.getD 0 0)=true):=of_decide_eq_false<|Z ▸ O
 refine eD (fun E q=> ∃ (J:Bool),(J=decide (kind=2∧s.length=2∧gE (s.getD 0 0)=true∧gE (s.getD 1 0)=true))∧(Wk w q)∧(E 0=aj kind)∧(E 1=str s)∧(E 23= .bool J)) ?_ ?_
 refine rg aa<|au (aj kind)<|p (bR aa aa)<|p mv<|gs (t:=26) aa (fun aE=> ?_) fun aE=> ?_
 refine aU aa (aH (str s) aa)<|aU aa (dv u9 aa aa)<|aU aa (bR aa aa)<|p (bL aa)<|p mv<|gs (t:=31) aa (fun aF=> ?_) fun aF=> ?_
 refine aU aa (aH (str s) aa)<|aU aa (lW 0 u9 aa aa ab)<|eg aa aa aa<|cl wu (yM (s.getD 0 0) _) aa fun aT aY aq=> ?_
 obtain ⟨rfl,Y⟩:=aq
 refine p (bL aa)<|p mv<|gb (t:=36) aa (fun A=> ?_) fun A=> ?_
 refine aU aa (aH (str s) aa)<|aU aa (lW 1 u9 aa aa ab)<|eg aa aa aa<|cl wu (yM (s.getD 1 0) _) aa fun aV aZ ar=> ?_
 obtain ⟨rfl,am⟩:=ar
 exact p (bL aa)<|p aA<|nl<|tn<|⟨gE (s.getD 1 0),(by rw [qC,decide_eq_true_iff]; exact ⟨fun h=>⟨ab,ab,A,h⟩,fun h=>h.2.2.2⟩),(Md.trans c<|Md.trans Y am),aa,aa,aa⟩
 exact aK aa<|aK aa<|aK aa<|p (bC aa)<|p aA<|nl<|tn<|⟨false,((decide_eq_false fun h=>by rw [h.2.2.1] at A; cases A).symm),(Md.trans c Y),aa,aa,aa⟩
 exact aK aa<|aK aa<|aK aa<|p (bC aa)<|p mv<|aK aa<|aK aa<|aK aa<|p (bC aa)<|p aA<|nl<|tn<|⟨false,((decide_eq_false fun h=>by omega).symm),c,aa,aa,aa⟩
 exact aK aa<|aK aa<|aK aa<|p (bC aa)<|p mv<|aK aa<|aK aa<|aK aa<|p (bC aa)<|p mv<|aK aa<|aK aa<|aK aa<|p (bC aa)<|p aA<|nl<|tn<|⟨false,((decide_eq_false fun h=>by omega).symm),c,aa,aa,aa⟩
 rintro E q ⟨J,ac,c,aM,aN,aP⟩
 refine fx 0 aM<|fx 1 aN<|fx 23 aP<|cb aa (fun M=> ?_) fun M=> ?_
 have V:kind=2∧s.length=2∧gE (s.getD 0 0)=true∧gE (s.getD 1 0)=true :=of_decide_eq_true<|ac ▸ M
 have g0:=iS<|s.getD 0 0
 have g1:=iS<|s.getD 1 0
 refine az fun i=> ?_
 have a:(fun w'=>Wk q w') q.drew:=(Md.refl _ _).drew
 exact bM (fun w'=>Wk q w') aa wide a<|bH 0 aa (str s) a<|aJ 1 aa (fun _ _=>lW 0 u9 aa aa ab) a<|aJ 2 aa (fun _ _=>mA uP sA aa<|qy ab) a<|aJ 3 aa (fun _ _=>shl aa aa aw<|Qv g0) a<|bH 4 aa (str s) a<|aJ 5 aa (fun _ _=>lW 1 u9 aa aa ab) a<|aJ 6 aa (fun _ _=>mA uP sA aa<|qy ab) a<|aJ 7 aa (fun _ _=>Aq aa aa<|Pe g0 g1) a<|aJ 8 aa (fun _ _=>aA) a<|hn ag<|i<|rt<|br<|tr<|ba aa<|⟨by rw [Mm V]; rfl,c.drew⟩
 have V:¬(kind=2∧s.length=2∧gE (s.getD 0 0)=true∧gE (s.getD 1 0)=true):=of_decide_eq_false<|ac ▸ M
 refine ak fun i=>au (aj kind)<|p (bR aa aa)<|ay<|i<|cd aa (fun ax=> ?_) fun ax=> ?_
 refine ak fun G=>au (str s)<|e<|cl tz (uk s 65535 _ hs aw) aa fun aW a0 av=> ?_
 obtain ⟨rfl,an⟩:=av
 have aQ:=O1 s
 exact p mv<|p (xt aa aa)<|p (xt aa aa)<|p aA<|ay<|G<|az fun ai=>rg aa<|p mv<|p (mA uP qt aa<|qy ab)<|ay<|ai<|rt<|br<|tr<|ba aa<|⟨by rw [Mn ab]; rfl,Md.trans c an⟩
 exact aO<|bn<|ah<|ak fun G=>ay<|G<|rt<|ba aa<|⟨by rw [Mk ab U V]; rfl,c⟩
theorem Pa (kind:Nat) (s:List UInt8) (w:World) (hk:kind=1∨kind=2∨kind=3) (hs:s.length≤1048576):
 bd ao 239 (a7 [aj kind,str s]) w (fun v w'=>v= .tuple #[aR (gR kind s).1,aj ((gR kind s).2)]∧Wk w w'):=by
 refine enter func239 aa ntmps239 aa<|ak fun q=>p aA<|ay<|q<|az fun A=>az fun C=>rg aa<|au (aj kind)<|e<|cl AR (C4 kind _) aa fun U Y M=> ?_
 obtain ⟨rfl,i⟩:=M
 refine p (no aa)<|nl<|C<|cf (by rw [decide_eq_true ab]; rfl)<|aO<|A<|ak fun E=>au (aj kind)<|au (str s)<|e<|cl AS (Cc kind s _ hk hs) aa fun v12 V J=> ?_
 obtain ⟨rfl,c⟩:=J
 refine ay<|E<|az fun G=>ak fun I=>p mv<|p (bR aa aa)<|nl<|I<|cd aa (fun O=> ?_) fun O=> ?_
 exact ak fun a=>p aA<|ay<|a<|rt<|tr<|f2 aa aa aa<|⟨by unfold gR; rw [if_pos (show ei kind s=0 by omega)]; rfl,Md.trans i c⟩
 exact aO<|G<|ak fun a=>p mv<|p aA<|p aA<|nl<|a<|rt<|f2 aa aa aa<|⟨by unfold gR; rw [if_neg (show ¬ei kind s=0 by omega)]; rfl,Md.trans i c⟩
theorem Kn (s:List UInt8) (c:UInt8) (w:World):
 bd ao 297 (a7 [str s,str [c]]) w (fun v w'=>v=aj (s.count c)∧Wk w w'):=by
 refine enter func297 aa ntmps297 aa<|ak fun a=>ay<|a<|az fun i=>ak fun q=>au (str [c])<|p (dv u9 aa aa)<|p (bR aa aa)<|nl<|q<|cd aa (fun h=>absurd h<|by simp) fun I=>aO<|i<|az fun E=>ak fun A=>au (str [c])<|p (dv u9 aa aa)<|p (bR aa aa)<|nl<|A<|cd aa (fun G=> ?_) fun h=>absurd aa h
 exact ak fun C=>au (str s)<|au (str [c])<|p (lW 0 u9 aa aa<|by simp)<|p (Bk (Ka s c _) aa)<|p aA<|nl<|C<|rt<|tr<|ba aa<|⟨aa,Md.refl _ _⟩
theorem MO (s:List UInt8) (w:World) (hs:s.length≤1048576):
 bd ao 279 (a7 [str s,str [44],.int .i64 0,.int .i64 (-1)]) w (fun v w'=>bp w' w.heap.size 9 1 (v) (gh 44 [] s).length ((gh 44 [] s).map str)∧Wk w w'):=by
 have bg:=qM (a:=(44:UInt8)) (l:=s)
 have a3:=yQ 44 s []
 refine enter func279 aa ntmps279 aa<|ak fun ae=>ay<|ae<|az fun ar=>ak fun av=>au (.int .i64<|-1)<|p (bR aa aa)<|nl<|av<|cd aa (fun h=>absurd h aw) fun a9=>aO<|ar<|az fun ax=>ak fun aC=>au (str [44])<|p (iM aa aa)<|nl<|aC<|cd aa (fun h=>absurd h<|by simp) fun bb=> ?_
 refine aO<|ax<|az fun aD=>ak fun aF=>au (.int .i64<|-1)<|p (lt aa aa)<|nl<|aF<|cd aa (fun bc=> ?_) fun h=>absurd aw h
 refine rg aa<|au (str s)<|au (str [44])<|e<|cl IQ (Kn s 44 _) aa fun bl bo aN=> ?_
 obtain ⟨rfl,Y⟩:=aN
 refine p (bI ((s.count 44 +1:Nat):Int) aa aa<|bf ab ab)<|ay<|aD<|ak fun aG=>p mv<|au (str s)<|p (dv u9 aa aa)<|p (bI ((s.length+1:Nat):Int) aa aa<|bf ab ab)<|p (mn aa aa)<|ay<|aG<|ak fun aH=>p mv<|e<|OO (n:=s.count 44 +1) (zv:=str []) ka Sp aa (show gG .i64 (min ((s.count 44 +1:Nat):Int) ((s.length+1:Nat):Int))=_ from iv ab) (show gG .i64 (min ((s.count 44 +1:Nat):Int) ((s.length+1:Nat):Int))=_ from iv ab) ab (by unfold maxLen; omega) fun E bq a8 aM aT=> ?_
 have Z:=aT w.heap.size<|by have :=Y.size; omega
 rw [P1] at Z
 refine ay<|aH<|ak fun ag=>p mv<|p (c4 ((s.count 44:Nat):Int) aa aa<|bf ab ab)<|p aA<|nl<|ag<|ak fun ah=>ay<|ah<|az fun ai=>aB<|lp (fun U q O=> ∃ (i:Nat) (A:List (List UInt8)) (r:List UInt8),(A.length=i)∧(r.count 44 +i=s.count 44∧r.length≤s.length)∧(A++gh 44 [] r=gh 44 [] s)∧(bp O w.heap.size 9 1 (.slice (some ⟨E,0,none⟩) (s.count 44 +1)<|s.count 44 +1) (s.count 44 +1)<|(A++iK (s.count 44 +1 - i) []).map str)∧(Wk w O)∧(q 0=str r)∧(q 1=str [44])∧(q 2= .int .i64 0)∧(q 3=aj (s.count 44))∧(q 9= .slice (some ⟨E,0,none⟩) (s.count 44 +1) (s.count 44 +1))∧(q 10=aj i)∧(r.length=U)) _ ⟨0,[],s,aa,(ab),aa,Z,(Md.trans Y aM.md),aa,aa,aa,aa,aa,aa,aa⟩ ?_
 rintro U q O ⟨i,A,r,hi,bi,hd,C,V,aW,aY,a0,a1,a2,aZ,rfl⟩
 refine fx 0 aW<|fx 1 aY<|fx 2 a0<|fx 3 a1<|fx 9 a2<|fx 10 aZ ?_
 have bk:=qM (a:=(44:UInt8)) (l:=r)
 refine az fun al=>ak fun am=>au (aj i)<|au (aj<|s.count 44)<|p (lt aa aa)<|nl<|am<|cd aa (fun aQ=> ?_) fun aQ=> ?_
 refine aO<|al<|aB<|ak fun I=>au (str r)<|au (str [44])<|e<|cl IS (Nu r 44 _) aa fun bm br aP=> ?_
 obtain ⟨rfl,G⟩:=aP
 refine ay<|I<|az fun J=>ak fun an=>p mv<|p (lt aa aa)<|nl<|an<|cd aa (fun h=>absurd h<|NI ab) fun aR=>aO<|J<|az fun ap=> ?_
 have ac:=qa (c:=(44:UInt8)) (l:=r) aR
 have bh:[(44:UInt8)].length=1:=rfl
 refine rg aa<|au (.slice (some ⟨E,0,none⟩) (s.count 44 +1)<|s.count 44 +1)<|au (aj i)<|au (str r)<|p mv<|au (.int .i64 0)<|p (bI ((r.idxOf 44:Nat):Int) aa aa<|bf ab ab)<|p (sj u9 aa aa ab)<|p (a6 dN aa aa ab<|aE.ok ((aV<|aX C G).2)<|cY<|by rw [bJ,mh]; omega)<|e<|qk (j:=i) (u:=str<|r.take<|r.idxOf 44) (aX C G) nd aa aa aa ab ab fun a4 aK ad=> ?_
 have aI:Wk w a4:=Wk.own (Md.trans V G) (aX C G) aK<|cw _
 rw [← hi,El ab,hi] at ad
 exact nl<|ap<|ak fun aq=>au (str r)<|p mv<|au (str [44])<|p (dv u9 aa aa)<|p (bI ((r.idxOf 44 +1:Nat):Int) aa aa<|bf ab ab)<|p (nn u9 aa aa ab)<|ay<|aq<|rg aa<|au (aj i)<|p (bI ((i+1:Nat):Int) aa aa<|bf ab ab)<|p aA<|nl<|bn<|tn<|⟨_,by rw [fU]; omega,i+1,A++ [r.take (r.idxOf 44)],r.drop (r.idxOf 44 +1),(by rw [bJ,hi]; rfl),(by have :=KD ac.2; rw [fU]; omega),(by rw [dK,← hd,Et 44 r [] ac.2]; rfl),(by rw [show s.count 44 +1 - (i+1)=s.count 44 +1 - i - 1 by omega]; exact ad),aI,aa,aa,aa,aa,aa,aa,aa⟩
 refine ext<|bj<|bj<|be<|ai<|ak fun I=>au (.slice (some ⟨E,0,none⟩) (s.count 44 +1)<|s.count 44 +1)<|au (aj i)<|au (str r)<|p (a6 dN aa aa ab<|aE.ok ((aV C).2)<|cY<|by rw [bJ,mh]; omega)<|e<|qk (j:=i) (u:=str r) C nd aa aa aa ab ab fun a5 aL M=> ?_
 have aJ:Wk w a5:=Wk.own V C aL<|cw _
 rw [← hi,El ab,hi] at M
 refine nl<|I<|ak fun J=>au (.slice (some ⟨E,0,none⟩) (s.count 44 +1)<|s.count 44 +1)<|au (aj i)<|p (bI ((i+1:Nat):Int) aa aa<|bf ab ab)<|p (uB dN aa aa ab)<|ay<|J<|rt<|ba aa ?_
 have aU:¬(44:UInt8)∈r:=fun h=>by have :=vv.2 h; omega
 have aS:A++ [r]=gh 44 [] s:=by rw [← hd,QT 44 r [] aU]; rfl
 rw [show s.count 44 +1 - i - 1=0 by omega,List.replicate_zero,eb,aS] at M
 exact ⟨by rw [a3,show s.count 44 +1=i+1 by omega] at*; exact M,aJ⟩
theorem Q9 (s:List UInt8) (w:World) (hs:s.length≤1048576):
 bd ao 265 (a7 [str s,str [44]]) w (fun v w'=>bp w' w.heap.size 9 1 (v) (gh 44 [] s).length ((gh 44 [] s).map str)∧Wk w w'):=by
 exact enter func265 aa ntmps265 aa<|ak fun a=>ay<|a<|ak fun c=>au (str s)<|au (str [44])<|e<|cl IE (MO s _ hs) aa fun q A i=>ay<|c<|rt<|ba aa<|i
theorem PD (kind:Nat) (s:List UInt8) (w:World) (hk:kind=1∨kind=2∨kind=3) (hs:s.length≤1048576):
 bd ao 243 (a7 [aj kind,str s]) w (fun v w'=>bp w' w.heap.size 9 1 (v) (dW kind s).length ((dW kind s).map str)∧Wk w w'):=by
 refine enter func243 aa ntmps243 aa<|ak fun V=>ay<|V<|az fun Y=>ak fun Z=>au (aj kind)<|p (bR aa aa)<|nl<|Z<|cd aa (fun aq=> ?_) fun aq=> ?_
 refine ak fun A=>au (str s)<|e<|cl IA (Q9 s _ hs) aa fun v10 aM am=>ay<|A<|rt<|tr<|ba aa ?_
 unfold dW; rw [if_pos ab]; exact am
 refine aO<|Y<|ak fun A=>ay<|A<|az fun ac=>ak fun ad=>ay<|ad<|aB<|lp (fun J q I=> ∃ (i:Nat) (a:List (List UInt8)) (c:Value),(i≤s.length+kind∧a.length≤i)∧(a++chunks kind (s.drop i)=chunks kind s)∧(bp I w.heap.size 9 1 (c) (a).length<|(a).map str)∧(Wk w I)∧(q 0=aj kind)∧(q 1=str s)∧(q 5=c)∧(q 6=aj i)∧(s.length - i=J)) _ ⟨0,[],.slice none 0 0,(by simp),aa,(dJ _ _ _ _),(Md.refl _ _),aa,aa,aa,aa,aa⟩ ?_
 rintro J q I ⟨i,a,c,hi,hd,G,M,ax,aC,aD,aF,rfl⟩
 refine fx 0 ax<|fx 1 aC<|fx 5 aD<|fx 6 aF<|az fun ae=>ak fun ag=>au (aj i)<|au (str s)<|p (dv u9 aa aa)<|p (lt aa aa)<|nl<|ag<|cd aa (fun an=> ?_) fun an=> ?_
 have av:s.drop i≠[]:=fun h=>by have :=congrArg k3 h; rw [fU,List.length_nil] at this; omega
 refine aO<|ae<|az fun C=>aB<|rg aa<|au (c)<|au (str s)<|au (aj i)<|au (aj i)<|au (aj kind)<|p (bI ((i+kind:Nat):Int) aa aa<|bf ab ab)<|au (str s)<|p (dv u9 aa aa)<|p (mn aa aa)<|p (si u9 aa aa aa ab)<|e<|lf ka aa aa fun aI aH aJ E ah=> ?_
 have O:Wk w aH:=Md.trans M E.md
 refine e<|ap ka (aX G E.md) aa (by have :=O.size; omega) aa (aE.fA ah) (aa) (aa) ab ab fun aG aN U al aL aK=> ?_
 have ai:=Wk.own O (aX G E.md) al<|cw _
 rw [Jq] at U
 have aw:=yC U
 exact p aA<|nl<|bn<|C<|rg aa<|au (aj i)<|au (aj kind)<|p (bI ((i+kind:Nat):Int) aa aa<|bf ab ab)<|p aA<|nl<|tn<|⟨_,ab,i+kind,a++ [(s.drop i).take kind],aG,(by rw [bJ,iH]; omega),(by rw [← hd,wS (k:=kind) ab av,dK,zI]; rfl),aw,ai,aa,aa,aa,aa,aa⟩
 refine ext<|bj<|bj<|be<|ac<|ak fun C=>au (c)<|p (bZ (c) aa)<|nl<|C<|rt<|ba aa ?_
 have ar:a=dW kind s:=by unfold dW; rw [if_neg ab,← hd,k0 ab,wT,eb]
 exact ⟨by rw [← ar]; exact G,M⟩
theorem CA (kind:Nat) (s:List UInt8) (w:World) (hk:kind=1∨kind=2∨kind=3) (hs:s.length≤1048576):
 bd ao 200 (a7 [aj kind,str s]) w (fun v w'=>(∃ a,v= .tuple #[a,aj ((ez kind s).2)]∧bp w' w.heap.size 51 1 a (ez kind s).1.length ((ez kind s).1.map aR))∧Wk w w'):=by
 refine enter func200 aa ntmps200 aa<|ak fun aC=>p aA<|ay<|aC<|az fun aI=>az fun aJ=>rg aa<|au (aj kind)<|e<|cl AR (C4 kind _) aa fun v11 bB a0=> ?_
 obtain ⟨rfl,an⟩:=a0
 refine p (no aa)<|nl<|aJ<|cf (by rw [decide_eq_true ab]; rfl)<|aO<|aI<|az fun aK=>az fun aL=>rg aa<|au (str s)<|p (iM aa aa)<|nl<|aL<|cd aa (fun C=> ?_) fun C=> ?_
 exact ak fun ae=>p aA<|ay<|ae<|rt<|tr<|f2 aa aa aa<|⟨⟨.slice none 0 0,by unfold ez; rw [if_pos C]; rfl,by unfold ez; rw [if_pos C]; exact dJ _ _ _ _⟩,an⟩
 refine aO<|aK<|ak fun ae=>ay<|ae<|az fun aM=>ak fun aN=>au (aj kind)<|au (str s)<|e<|cl Is (PD kind s _ hk hs) aa fun bz J a1=> ?_
 obtain ⟨av,aU⟩:=a1
 obtain ⟨aQ,aS,rfl⟩:=cU av
 have ar:=(aV av).2
 have bw:=PB (kind:=kind) (s:=s) ab
 have U:Wk w J:=Md.trans an aU
 refine p (bO gU aa aa)<|p mv<|nl<|aN<|aB<|lp (fun am A al=> ∃ (i:Nat) (O:Value),(i≤(dW kind s).length)∧(¬∃ x∈(dW kind s).take i,ei kind x=0)∧(bp al J.heap.size 51 1 O (((dW kind s).take i).map<|ei kind).length<|(((dW kind s).take i).map<|ei kind).map aR)∧(Wk J al)∧(A 0=aj kind)∧(A 1=str s)∧(A 6=O)∧(A 17= .slice aQ (dW kind s).length aS)∧(A 18=aj ((dW kind s).length))∧(A 19=aj i)∧((dW kind s).length - i=am)) _ ⟨0,.slice none 0 0,ab,(by rintro ⟨x,bm,_⟩; simp at bm),(dJ _ _ _ _),(Md.refl _ _),aa,aa,aa,aa,aa,aa,aa⟩ ?_
 rintro am A al ⟨i,O,hi,G,I,q,bc,bf,bk,bg,bh,bi,rfl⟩
 refine fx 0 bc<|fx 1 bf<|fx 6 bk<|fx 17 bg<|fx 18 bh<|fx 19 bi ?_
 have bv:(((dW kind s).take i).map<|ei kind).length≤i:=by rw [eX,ec]; omega
 refine ak fun aP=>p (lt aa aa)<|nl<|aP<|az fun aD=>cd aa (fun a5=> ?_) fun a5=> ?_
 refine aO<|aD<|az fun Z=>aB<|ak fun ac=>p (a6 dN aa aa ab<|aE.ok (ar.wk q)<|cY ab)<|p (ld cO aa<|da.get (i:=i) (ar.wk q) ab)<|ay<|ac<|ak fun E=>au (aj kind)<|p mv<|e<|cl AS (Cc kind ((dW kind s).getD i []) _ hk<|by have :=PC (kind:=kind) ab (CE (d:= []) (show i < (dW kind s).length by omega)); omega) aa fun bA bC a3=> ?_
 obtain ⟨rfl,V⟩:=a3
 refine ay<|E<|az fun aF=>ak fun aG=>p mv<|p (bR aa aa)<|nl<|aG<|cd aa (fun a8=> ?_) fun a8=> ?_
 refine ak fun aH=>p aA<|ay<|aH<|rt<|tr<|br<|tr<|tr<|br<|tr<|f2 aa aa aa ?_
 have c:ez kind s=([],31):=by unfold ez; rw [if_neg C,if_pos ⟨_,CE (d:= []) (show i < (dW kind s).length by omega),ab⟩]
 exact ⟨⟨.slice none 0 0,by rw [c]; rfl,by rw [c]; exact dJ _ _ _ _⟩,Md.trans U<|Md.trans q V⟩
 refine aO<|aF<|rg aa<|au (O)<|p mv<|e<|lf uI aa aa fun bs bo bt ah aT=> ?_
 have aq:Wk J bo:=Md.trans (Md.trans q V) ah.md
 refine e<|ap uI (aX (aX I V) ah.md) aa (by have :=aq.size; omega) aa (aE.fA aT) (aa) (aa) ab ab fun v31 bq ba aZ bx bu=> ?_
 have aW:=Wk.own aq (aX (aX I V) ah.md) aZ<|cw _
 have bb:bp bq J.heap.size 51 1 v31 (((dW kind s).take<|i+1).map<|ei kind).length ((((dW kind s).take<|i+1).map<|ei kind).map aR):=by
  rw [ky _ i [] ab,iJ,bJ,iJ]; exact ba
 exact p aA<|nl<|bn<|Z<|rg aa<|p (ad aa aa<|cg ab)<|p mv<|nl<|tn<|⟨_,ab,i+1,v31,ab,(LW ab G ab),bb,aW,aa,aa,aa,aa,aa,aa,aa⟩
 refine ext<|bj<|bj<|be<|aM<|az fun Z=>az fun ac=> ?_
 obtain ⟨M,ag,rfl⟩:=cU I
 have bl:(((dW kind s).take i).map<|ei kind).length=(dW kind s).length:=by rw [eX,ec]; omega
 have Y:(dW kind s).take i=(dW kind s):=fq ab
 have a9:M=none→(((dW kind s).take i).map<|ei kind).length=0:=fun h=>by obtain ⟨a2,c2,ax,_,_,h3⟩:=Rd.j8 I; simp only [Value.slice.injEq] at ax; exact h3<|ax.1 ▸ h
 refine rg aa<|au (.slice M (((dW kind s).take i).map<|ei kind).length ag)<|p (bO mN aa aa)<|p (gt aa aa)<|nl<|ac<|cd aa (fun ai=> ?_) fun ai=> ?_
 refine ak fun E=>p aA<|ay<|E<|rt<|tr<|f2 aa aa aa ?_
 rw [Y] at G bl
 have c:ez kind s=([],32):=by unfold ez; rw [if_neg C,if_neg G,if_pos (by rw [Y,eX] at ai; omega)]
 exact ⟨⟨.slice none 0 0,by rw [c]; rfl,by rw [c]; exact dJ _ _ _ _⟩,Md.trans U q⟩
 refine aO<|Z<|ak fun E=>au (.slice M (((dW kind s).take i).map<|ei kind).length ag)<|e<|cl AO (um (((dW kind s).take i).map<|ei kind) M ag _ (aV I).2 a9<|by rw [eX,ec] at*; omega) aa fun v37 bD a4=> ?_
 obtain ⟨aw,aY⟩:=a4
 refine p aA<|ay<|E<|rt<|f2 aa aa aa ?_
 rw [Y] at G aw
 have c:ez kind s=(j7 ((dW kind s).map<|ei kind),0):=by unfold ez; rw [if_neg C,if_neg G,if_neg (by rw [Y,eX] at ai; omega)]
 exact ⟨⟨v37,by rw [c]; rfl,by rw [c]; exact eS aw<|by have :=U.size; have :=q.size; omega⟩,Md.trans U<|Md.trans q aY⟩
end Go.Hb
end
namespace Go.Hb
theorem xQ (b:UInt8) (w:World):
 bd ao 191 (a7 [.int .u8 b.toNat]) w (fun v w'=>v= .bool (oN b)∧Wk w w'):=by
 refine enter func191 aa ntmps191 aa<|ak fun c=>ay<|c<|ak fun a=>au (.int .u8 b.toNat)<|p (bR aa aa)<|p mv<|gs (t:=5) aa (fun i=> ?_) fun i=> ?_
 exact aK aa<|aK aa<|p (bL aa)<|ay<|a<|rt<|ba aa<|⟨by show bQ true =_; rw [CC,decide_eq_true (.inl ab)],Md.refl _ _⟩
 exact aU aa (aH (.int .u8 b.toNat) aa)<|aU aa (bR aa aa)<|p (bC aa)<|ay<|a<|rt<|ba aa<|⟨by show bQ (decide ((b.toNat:Int)=9))=_; rw [CC]; exact congrArg bQ (decide_eq_decide.2 ab),Md.refl _ _⟩
theorem L1 (l:List UInt8) (w:World) (bo:l.length≤1048576):
 bd ao 127 (a7 [str l]) w (fun v w'=>bp w' w.heap.size 9 1 v (du [] l).length ((du [] l).map str)∧Wk w w'):=by
 refine enter func127 aa ntmps127 aa<|ak fun aC=>ay<|aC<|ak fun aD=>p aA<|nl<|aD<|ak fun aF=>ay<|aF<|az fun aG=>ak fun aI=>au (str l)<|p (dv u9 aa aa)<|p mv<|nl<|aI<|aB<|lp (fun aw J ar=> ∃ (i:Nat) (a:Int) (M:List UInt8) (c:List (List UInt8)) (v:Value),(i≤l.length)∧(jx l i a M)∧(c++du M (l.drop i)=(du [] l))∧(Wk w ar)∧(bp ar w.heap.size 9 1 v (c).length<|(c).map str)∧(J 0=str l)∧(J 3=v)∧(J 4= .int .i64 a)∧(J 7= .int .i64 l.length)∧(J 8= .int .i64 i)∧(l.length - i=aw)) _ ⟨0,-1,[],[],.slice none 0 0,ab,jx.no,aa,(Md.refl _ _),(dJ _ _ _ _),aa,aa,aa,aa,aa,aa⟩ ?_
 rintro aw J ar ⟨i,a,M,c,v,hi,G,hd,V,ag,a4,a5,a6,a8,a9,rfl⟩
 refine fx 0 a4<|fx 3 a5<|fx 4 a6<|fx 7 a8<|fx 8 a9 ?_
 have bk:c.length≤l.length+1:=by have h1:=congrArg k3 hd; have h2:=xD l []; rw [bJ] at h1; omega
 refine ak fun aL=>p (lt aa aa)<|nl<|aL<|az fun aM=>cd aa (fun aZ=> ?_) fun aZ=> ?_
 refine aO<|aM<|az fun q=>aB<|ak fun aj=>au (.int .i64 i)<|p (bZ (.int .i64 i) aa)<|nl<|aj<|aB<|ak fun I=>au (str l)<|au (.int .i64 i)<|p (jm u9 aa aa ab)<|e<|cl wa (xQ (l.getD i 0) _) aa fun bt bc aV=> ?_
 obtain ⟨rfl,ax⟩:=aV
 have Y:Wk w bc:=Md.trans V ax
 have bq:=Y.size
 have ah:=aX ag ax
 refine p mv<|gb (t:=16) aa (fun C=> ?_) fun C=> ?_
 refine aU aa (aH (.int .i64 a) aa)<|aU aa (ge aa aa)<|p (bL aa)<|ay<|I<|cd aa (fun aW=> ?_) fun aW=> ?_
 obtain ⟨aJ,U,aq⟩:=G.pos ab
 refine ak fun E=>au (v)<|au (str l)<|au (.int .i64 a)<|au (.int .i64 i)<|p (si u9 aa aa aa ab)<|e<|lf ka aa aa fun bf bu bh ac aN=>e<|ap ka (aX ah ac.md) aa (by have :=ac.size; omega) aa (aE.fA aN) (aa) (aa) ab ab fun bb bv a0 aS br bl=> ?_
 have aQ:=Wk.own (Md.trans Y ac.md) (aX ah ac.md) aS<|cw _
 have a1:=yC a0
 exact ay<|E<|rg aa<|p aA<|nl<|bn<|bn<|q<|rg aa<|p (ad aa aa<|cg ab)<|p mv<|nl<|tn<|⟨_,ab,i+1,-1,[],c++ [(l.take i).drop a.toNat],bb,ab,jx.no,(by rw [drop_cons 0 ab,Mv C aq,U] at hd; rw [dK]; exact hd),aQ,a1,aa,aa,aa,aa,aa,aa⟩
 refine ak fun E=>au (str l)<|au (.int .i64 i)<|p (jm u9 aa aa ab)<|e<|cl wa (xQ (l.getD i 0) _) aa fun v31 av al=> ?_
 obtain ⟨rfl,O⟩:=al
 have Z:Wk w av:=Md.trans Y O
 have ai:=aX ah O
 refine p (no aa)<|p mv<|gb (t:=33) aa (fun A=> ?_) fun A=> ?_
 refine aU aa (aH (.int .i64 a) aa)<|aU aa (lt aa aa)<|p (bL aa)<|ay<|E<|cd aa (fun am=> ?_) fun am=> ?_
 refine rg aa<|au (.int .i64 i)<|p (bZ (.int .i64 i) aa)<|nl<|bn<|bn<|q<|rg aa<|p (ad aa aa<|cg ab)<|p mv<|nl<|tn ?_
 rw [C] at A; cases A
 refine aO<|bn<|bn<|q<|rg aa<|p (ad aa aa<|cg ab)<|p mv<|nl<|tn ?_
 rw [C] at A; cases A
 exact aK aa<|aK aa<|p (bC aa)<|ay<|E<|cf aa<|aO<|bn<|bn<|q<|rg aa<|p (ad aa aa<|cg ab)<|p mv<|nl<|tn<|⟨_,ab,i+1,a,M,c,v,ab,(by obtain ⟨h1,h2⟩:=G.neg ab; subst h1 h2; exact jx.no),(by obtain ⟨h1,h2⟩:=G.neg ab; subst h2; rw [drop_cons 0 ab,Mu C] at hd; exact hd),Z,ai,aa,aa,aa,aa,aa,aa⟩
 refine aK aa<|aK aa<|p (bC aa)<|ay<|I<|cf aa<|az fun E=>rg aa<|au (str l)<|au (.int .i64 i)<|p (jm u9 aa aa ab)<|e<|cl wa (xQ (l.getD i 0) _) aa fun v31 av al=> ?_
 obtain ⟨rfl,O⟩:=al
 have Z:Wk w av:=Md.trans Y O
 have ai:=aX ah O
 refine p (no aa)<|p mv<|gb (t:=33) aa (fun A=> ?_) fun A=> ?_
 refine aU aa (aH (.int .i64 a) aa)<|aU aa (lt aa aa)<|p (bL aa)<|ay<|E<|cd aa (fun am=> ?_) fun am=> ?_
 exact rg aa<|au (.int .i64 i)<|p (bZ (.int .i64 i) aa)<|nl<|bn<|bn<|q<|rg aa<|p (ad aa aa<|cg ab)<|p mv<|nl<|tn<|⟨_,ab,i+1,i,[l.getD i 0],c,v,ab,(jx.begin ab),(by obtain ⟨h1,h2⟩:=G.neg ab; subst h2; rw [drop_cons 0 ab,Ck C] at hd; exact hd),Z,ai,aa,aa,aa,aa,aa,aa⟩
 exact aO<|bn<|bn<|q<|rg aa<|p (ad aa aa<|cg ab)<|p mv<|nl<|tn<|⟨_,ab,i+1,a,M++ [l.getD i 0],c,v,ab,(G.more ab ab),(by rw [drop_cons 0 ab,Ck C] at hd; exact hd),Z,ai,aa,aa,aa,aa,aa,aa⟩
 refine aK aa<|aK aa<|p (bC aa)<|ay<|E<|cf aa<|aO<|bn<|bn<|q<|rg aa<|p (ad aa aa<|cg ab)<|p mv<|nl<|tn ?_
 rw [C] at A; cases A
 refine ext<|bj<|bj<|be<|aG<|az fun q=>ak fun aj=>au (.int .i64 a)<|p (ge aa aa)<|nl<|aj<|cd aa (fun aY=> ?_) fun aY=> ?_
 obtain ⟨aJ,U,aq⟩:=G.pos ab
 refine rg aa<|au (v)<|au (str l)<|au (.int .i64 a)<|p (nn u9 aa aa ab)<|e<|lf ka aa aa fun bg bw bi ae aP=>e<|ap ka (aX ag ae.md) aa (by have :=ae.size; have :=V.size; omega) aa (aE.fA aP) (aa) (aa) ab ab fun v46 bx a2 aT bs bm=> ?_
 have aR:=Wk.own (Md.trans V ae.md) (aX ag ae.md) aT<|cw _
 have a3:=yC a2
 refine ay<|q<|ak fun I=>p mv<|p aA<|nl<|I<|rt<|ba aa ?_
 have an:c++ [l.drop a.toNat]=(du [] l):=by rw [← hd,show l.drop i= [] from k0 ab,Mx aq,U,fq ab]
 exact ⟨by rw [← an]; exact a3,aR⟩
 obtain ⟨aJ,U⟩:=G.neg ab
 refine aO<|q<|ak fun I=>au (v)<|p (bZ (v) aa)<|nl<|I<|rt<|ba aa ?_
 have an:c=(du [] l):=by rw [← hd,k0 ab,U,My,eb]
 exact ⟨by rw [← an]; exact ag,V⟩
end Go.Hb
