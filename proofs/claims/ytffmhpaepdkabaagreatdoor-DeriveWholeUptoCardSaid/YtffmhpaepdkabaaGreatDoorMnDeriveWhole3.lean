/-
  Walks and plain laws that the law rests on, laid together. No conditions but those that each theorem names.
-/
import Derived.Test.YtffmhpaepdkabaaGreatDoorMnDeriveWhole2
set_option linter.unusedVariables false
set_option maxRecDepth 20000
set_option maxHeartbeats 1000000
open Bool renaming eq_iff_iff→qm,noConfusion→c8
open Go.IntKind renaming u64→dq
open Go.Proofs.Tryz renaming prog→au
open Go.Sort renaming Below→zj,PermIn→lO,SortedIn→qp,heapBuild→FG,heapSort→FH,insInner→FI,insertionSort→FJ,partLoop→zl,partialIns→n3,partialInsertionSort→qq,partition→n4,partitionEqual→sn,permIn_refl→FK,permIn_trans→oW,reverseRange→zm,scanDown→lP,scanSorted→qs,scanUp→lQ,shiftDown→uV,shiftUp→zn,siftDown→n5,swp→bJ
open Go.Sort.Below renaming perm→zk
open Go.Value renaming bool→bL,int→gA,oneCell'→eH,slice→bz,tuple→iT
open Go.World renaming ownsRow→bm,ownsRow_nil→dI
open List renaming append_assoc→dx,append_nil→dS,count_le_length→qu,count_pos_iff→u6,drop_drop→zp,drop_eq_nil_of_le→kL,length→kM,length_append→bF,length_drop→fI,length_map→eJ,length_replicate→lU,length_singleton→iq,length_take→dT,map_append→iK,replicate→ir,take_of_length_le→eL,take_zero→nn,toArray→aY
open Nat renaming le_refl→bX,lt_or_ge→gC
open UInt8 renaming toNat_lt→iM
open Go.Proofs.Tryz
open Go.Hb.dB Go.Proofs

namespace Go.Hb
theorem kZ (b:UInt8):oz b=decide ((b.toNat:Int)=92∨(b.toNat:Int)=47∨(b.toNat:Int)=35):=by
 unfold oz; exact decide_eq_decide.2 ab
theorem BN (b:UInt8):gJ b=decide (32 < (b.toNat:Int)∧(b.toNat:Int)≠127):=by
 unfold gJ; exact decide_eq_decide.2 ab
theorem LJ {b:UInt8} (h:¬(32 < (b.toNat:Int)∧(b.toNat:Int)≠127)):gJ b=false :=by rw [BN]; exact decide_eq_false h
theorem BO (b:UInt8) (w:World):
 ba au 204 (aY [.int .u8 b.toNat]) w (fun v w'=>v= .bool (gJ b)∧Wk w w'):=by
 refine enter func204 aa ntmps204 aa<|ak fun c=>ay<|c<|ak fun a=>ao (.int .u8 b.toNat)<|p (gt aa aa)<|p mv<|gs (t:=5) aa (fun i=> ?_) fun i=> ?_
 exact aR aa (aG (.int .u8 b.toNat) aa)<|aR aa (gO aa aa)<|p (bI aa)<|ay<|a<|rt<|a6 aa<|⟨by show bL (decide _)=_; rw [BN]; exact bv (by constructor <;> intro h <;> first | exact ⟨ab,h⟩ | exact h.2),Md.refl _ _⟩
 exact aJ aa<|aJ aa<|p (bD aa)<|ay<|a<|rt<|a6 aa<|⟨by show bL false =_; rw [LJ ab],Md.refl _ _⟩
theorem N3 (b:UInt8) (w:World):
 ba au 202 (aY [.int .u8 b.toNat]) w (fun v w'=>v= .bool (oz b)∧Wk w w'):=by
 refine enter func202 aa ntmps202 aa<|ak fun C=>ay<|C<|az fun q=>ak fun E=>ao (.int .u8 b.toNat)<|nl<|E<|aB<|az fun A=>ak fun G=>p (bS aa aa)<|ay<|G<|cd aa (fun a=> ?_) fun a=> ?_
 refine aM<|A<|cd aa (fun a=> ?_) fun a=> ?_
 refine ak fun i=>ay<|i<|rt<|br<|tr<|a6 aa ?_
 first | exact ⟨by show bL true =_; rw [kZ,decide_eq_true ab],Md.refl _ _⟩ | exact ⟨by show bL false =_; rw [kZ,decide_eq_false ab],Md.refl _ _⟩
 refine aM<|bn<|q<|ak fun i=>ay<|i<|rt<|a6 aa ?_
 first | exact ⟨by show bL true =_; rw [kZ,decide_eq_true ab],Md.refl _ _⟩ | exact ⟨by show bL false =_; rw [kZ,decide_eq_false ab],Md.refl _ _⟩
 refine ak fun i=>p (bS aa aa)<|ay<|i<|cd aa (fun a=> ?_) fun a=> ?_
 refine aM<|A<|cd aa (fun a=> ?_) fun a=> ?_
 refine ak fun c=>ay<|c<|rt<|br<|tr<|a6 aa ?_
 first | exact ⟨by show bL true =_; rw [kZ,decide_eq_true ab],Md.refl _ _⟩ | exact ⟨by show bL false =_; rw [kZ,decide_eq_false ab],Md.refl _ _⟩
 refine aM<|bn<|q<|ak fun c=>ay<|c<|rt<|a6 aa ?_
 first | exact ⟨by show bL true =_; rw [kZ,decide_eq_true ab],Md.refl _ _⟩ | exact ⟨by show bL false =_; rw [kZ,decide_eq_false ab],Md.refl _ _⟩
 refine rg aa<|p (bS aa aa)<|ay<|A<|cd aa (fun a=> ?_) fun a=> ?_
 refine ak fun c=>ay<|c<|rt<|br<|tr<|a6 aa ?_
 first | exact ⟨by show bL true =_; rw [kZ,decide_eq_true ab],Md.refl _ _⟩ | exact ⟨by show bL false =_; rw [kZ,decide_eq_false ab],Md.refl _ _⟩
 refine aM<|bn<|q<|ak fun c=>ay<|c<|rt<|a6 aa ?_
 first | exact ⟨by show bL true =_; rw [kZ,decide_eq_true ab],Md.refl _ _⟩ | exact ⟨by show bL false =_; rw [kZ,decide_eq_false ab],Md.refl _ _⟩
theorem EK (s:List UInt8) (w:World) (hs:s.length≤1048576):
 ba au 140 (aY [str s]) w (fun v w'=>v= .bool (m4 s)∧Wk w w'):=by
 refine enter func140 aa ntmps140 aa<|ak fun V=>ay<|V<|az fun ac=>ak fun I=>ao (str s)<|p (iy aa aa)<|p mv<|gs (t:=6) aa (fun E=> ?_) fun E=> ?_
 exact aJ aa<|aJ aa<|aJ aa<|p (bI aa)<|nl<|I<|ct aa<|az fun a=>rg aa<|ay<|a<|rt<|tr<|a6 aa<|⟨by show bL false =_; unfold m4; rw [decide_eq_false (by rw [E]; simp)],Md.refl _ _⟩
 refine aR aa (aG (str s) aa)<|aR aa (db u9 aa aa)<|aR aa (gt aa aa)<|p (bD aa)<|nl<|I<|cd aa (fun al=> ?_) fun al=> ?_
 exact ak fun a=>ay<|a<|rt<|tr<|a6 aa<|⟨by show bL false =_; unfold m4; rw [decide_eq_false ab],Md.refl _ _⟩
 refine aM<|ac<|az fun a=>ak fun ae=>ao (str s)<|p (db u9 aa aa)<|p mv<|nl<|ae<|aB<|lp (fun J c U=> ∃ (i:Nat),(i≤s.length∧1≤s.length∧s.length≤64)∧(∀ j,j < i→gJ (s.getD j 0)=true)∧(Wk w U)∧(c 0=str s)∧(c 12= .int .i64 s.length)∧(c 13= .int .i64 i)∧(s.length - i=J)) _ ⟨0,(⟨ab,by rcases Nat.eq_zero_or_pos s.length with h | h <;> first | exact absurd (List.length_eq_zero_iff.1 h) E | exact h,ab⟩),(fun j O=>by omega),(Md.refl _ _),aa,aa,aa,aa⟩ ?_
 rintro J c U ⟨i,hi,hp,A,an,ap,aq,rfl⟩
 refine fx 0 an<|fx 12 ap<|fx 13 aq<|ak fun ag=>p (lt aa aa)<|nl<|ag<|az fun ah=>cd aa (fun am=> ?_) fun am=> ?_
 refine aM<|ah<|az fun q=>aB<|ak fun ai=>ao (.int .i64 i)<|p (bY (.int .i64 i) aa)<|nl<|ai<|ak fun Y=>ao (str s)<|ao (.int .i64 i)<|p (ja u9 aa aa ab)<|e<|cl Av (BO (s.getD i 0) _) aa fun ar av aj=> ?_
 obtain ⟨rfl,M⟩:=aj
 refine p (no aa)<|nl<|Y<|cb aa (fun C=> ?_) fun C=> ?_
 have G:gJ (s.getD i 0)=false :=by simpa using C
 exact ak fun Z=>ay<|Z<|rt<|br<|tr<|tr<|br<|tr<|a6 aa<|⟨by show bL false =_; unfold m4; rw [s5 (i:=i) ab G,decide_eq_false (by simp)],Md.trans A M⟩
 have G:gJ (s.getD i 0)=true :=by simpa using C
 exact aM<|bn<|q<|rg aa<|p (ad aa aa<|bR ab)<|p mv<|nl<|tn<|⟨_,ab,i+1,ab,(fun j O=>by rcases gC j i with h | h <;> first | exact hp j h | (rw [show j=i by omega]; exact G)),(Md.trans A M),aa,aa,aa,aa⟩
 exact ext<|bc<|bc<|be<|a<|ak fun q=>p aA<|nl<|q<|rt<|a6 aa<|⟨by show bL true =_; unfold m4; rw [s6 (fun j O=>hp j ab),decide_eq_true ⟨hi.2.1,hi.2.2,aa⟩],A⟩
theorem yU (s:List UInt8) (w:World) (hs:s.length≤1048576):
 ba au 139 (aY [str s]) w (fun v w'=>v=Pj (bq s)∧Wk w w'):=by
 refine enter func139 aa ntmps139 aa<|ak fun am=>p aA<|p aA<|p aA<|ay<|am<|ak fun av=>e<|gR E4 fun a bp bg aS aK=>nl<|av<|az fun ax=>ak fun aC=>ay<|aC<|aB<|lp (fun aj I G=> ∃ (i:Nat) (acc:List UInt8) (c:Value),(i≤s.length∧acc.length≤i)∧(Bd 155 5 G a c acc)∧(Wk w G)∧(hU acc (s.drop i)=bq s)∧(I 0=str s)∧(I 6=aU a)∧(I 7= .int .i64 i)∧(s.length - i=aj)) _ ⟨0,[],.slice none 0 0,(by simp),(Bd.new aK),aS.md,aa,aa,aa,aa,aa⟩ ?_
 rintro aj I G ⟨i,acc,c,hi,q,A,hd,a5,a6,a7,rfl⟩
 refine fx 0 a5<|fx 6 a6<|fx 7 a7<|az fun aD=>ak fun aE=>ao (.int .i64 i)<|ao (str s)<|p (db u9 aa aa)<|p (lt aa aa)<|nl<|aE<|cd aa (fun a0=> ?_) fun a0=> ?_
 refine aM<|aD<|az fun U=>aB<|ak fun aF=>ao (str s)<|ao (.int .i64 i)<|p (ja u9 aa aa ab)<|nl<|aF<|aB ?_
 refine ep (fun J ae=> ∃ (k:Nat),(k < s.length∧i≤k∧k≤i+1)∧(Bd 155 5 ae a c acc)∧(Wk w ae)∧(hU (acc++ [s.getD k 0]) (s.drop<|k+1)=bq s)∧(J 0=str s)∧(J 6=aU a)∧(J 7= .int .i64 k)) ?_ ?_
 refine aB<|az fun V=>aB<|az fun an=>aB<|az fun ap=>az fun aq=>az fun ar=>rg aa<|p (bS aa aa)<|ay<|ar<|cd aa (fun a1=> ?_) fun a1=> ?_
 have aZ:(s.getD i 0).toNat=47:=ab
 refine ext<|bc<|bc<|be<|an<|az fun ah=>az fun M=> ?_
 have C:(fun w'=>True) G.drew:=trivial
 refine bK (fun w'=>True) aa wide C<|bH 1 aa (str s) C<|bH 2 aa (.int .i64 i) C<|aI 3 aa (fun _ _=>bG ((i+1:Nat):Int) aa aa<|bd ab ab) C<|aI 4 aa (fun _ _=>mZ u9 aa aa ab) C<|he 0 aa ag<|cl vX (yK a c acc _ (q.md (Md.refl (fun _=>False) _).drew fun _ _ h=>h) ab) aa fun v21 bf aT=> ?_
 obtain ⟨rfl,aO⟩:=aT
 have E:(fun w'=>True) bf:=trivial
 refine ⟨E,?_⟩
 refine aI 5 aa (fun _ _=>aA) E<|aI 6 aa (fun _ _=>aA) E<|aI 7 aa (fun _ _=>aA) E<|aI 8 aa (fun _ _=>aA) E<|hn ag<|M<|rt<|tr<|br<|tr<|br<|tr<|br<|br<|tr<|tr<|br<|tr<|f4 aa aa aa aa aa ?_
 skip
 exact ⟨by rw [← hd,drop_cons 0 (by omega :i < s.length),EY aZ]; rfl,q.yI A (Md.trans (Md.refl _ _).drew aO) ab⟩
 refine aM<|aq<|ak fun ah=>p (bS aa aa)<|ay<|ah<|cd aa (fun a2=> ?_) fun a2=> ?_
 have Z:(s.getD i 0).toNat=92:=ab
 refine ext<|bc<|lz aw<|bc<|be<|V<|ak fun M=>ao (.int .i64 i)<|p (bG ((i+1:Nat):Int) aa aa<|bd ab ab)<|ay<|M<|ak fun ai=>p mv<|ao (str s)<|p (db u9 aa aa)<|p (bS aa aa)<|p mv<|gs (t:=32) aa (fun a4=> ?_) fun a4=> ?_
 refine aJ aa<|aJ aa<|aJ aa<|aJ aa<|aJ aa<|p (bI aa)<|nl<|ai<|ct aa<|ak fun O=>p aA<|p aA<|p aA<|p aA<|nl<|O<|rt<|br<|tr<|br<|br<|tr<|tr ?_
 exact br<|tr<|f4 aa aa aa aa aa<|⟨by rw [← hd,drop_cons 0 (by omega :i < s.length),kL ab,EV Z]; rfl,A⟩
 refine aR aa (aG (str s) aa)<|aR aa mv<|aR aa (ja u9 aa aa ab)<|eg aa aa aa<|cl HT (N3 (s.getD (i+1) 0) _) aa fun bi bl aV=> ?_
 obtain ⟨rfl,Y⟩:=aV
 refine aR aa (no aa)<|p (bD aa)<|nl<|ai<|cb aa (fun ac=> ?_) fun ac=> ?_
 exact ak fun O=>p aA<|p aA<|p aA<|ay<|O<|rt<|br<|tr<|br<|br<|tr<|tr<|br<|tr<|f4 aa aa aa aa aa<|⟨by rw [← hd,drop_cons 0 (by omega :i < s.length),drop_cons 0 (by omega :i+1 < s.length),EW Z (by simpa using ac)]; rfl,Md.trans A Y⟩
 exact aM<|bn<|tn<|⟨i+1,ab,(q.md Y fun _ _ h=>h),(Md.trans A Y),(by rw [← hd,drop_cons 0 (by omega :i < s.length),drop_cons 0 (by omega :i+1 < s.length),EU Z (by simpa using ac)]),aa,aa,aa⟩
 exact aM<|ap<|ext<|lz aw<|bc<|lz aw<|bc<|be<|tn<|⟨i,ab,q,A,(by rw [← hd,drop_cons 0 (by omega :i < s.length),EX ab ab]),aa,aa,aa⟩
 rintro J ae ⟨k,hk,al,aN,a3,a8,a9,bb⟩
 refine fx 0 a8<|fx 6 a9<|fx 7 bb<|ak fun V=>ao (str s)<|ao (.int .i64 k)<|p (ja u9 aa aa ab)<|e<|cl Au (EZ a c (acc) (s.getD k 0) _ al ab) aa fun bj bm aW=> ?_
 obtain ⟨rfl,aH,aL,aP,bh⟩:=aW
 exact nl<|V<|ext<|be<|bn<|U<|rg aa<|ao (.int .i64 k)<|p (ad aa aa<|bR ab)<|p aA<|nl<|tn<|⟨_,ab,k+1,acc++ [s.getD k 0],aH,(by rw [bF,iq]; omega),aL,(al.step aN aP ab),a3,aa,aa,aa,aa⟩
 refine ext<|bc<|bc<|be<|ax<|ak fun U=>e<|cl vX (yK a c acc _ q ab) aa fun bk bo aX=> ?_
 obtain ⟨rfl,aQ⟩:=aX
 exact p aA<|p aA<|p aA<|ay<|U<|rt<|f4 aa aa aa aa aa<|⟨by rw [← hd,kL ab,yT]; rfl,q.yI A aQ ab⟩
theorem NK (s:List UInt8) (w:World) (hs:s.length≤1048576):
 ba au 194 (aY [str s]) w (fun v w'=>v= .tuple #[str (letE s).1,.int .i64 (letE s).2]∧Wk w w'):=by
 refine enter func194 aa ntmps194 aa<|ak fun ax=>p aA<|ay<|ax<|ak fun aG=>e<|al R7 fun U a9 bd G an=> ?_
 have aQ:bA a9.heap U (marksOf []):=by rw [N5]; exact an
 refine nl<|aG<|az fun aH=>ak fun aI=>ao (str s)<|p (iy aa aa)<|nl<|aI<|cd aa (fun ai=> ?_) fun ai=> ?_
 exact ak fun O=>p aA<|ay<|O<|rt<|tr<|f2 aa aa aa<|⟨by show iT #[str [],.int .i64 21]=_; unfold letE; rw [if_pos (.inl ai)]; rfl,G.md⟩
 refine aM<|aH<|ak fun O=>e<|gR E4 fun E bq bg aw aR=>nl<|O<|az fun aJ=>ak fun aK=>ao (str s)<|p (db u9 aa aa)<|p mv<|nl<|aK<|aB ?_
 have bf:=an.lt
 refine lp (fun am a J=> ∃ (i:Nat) (c:Value),(i≤s.length)∧(∀ j,j < i→gJ (s.getD j 0)=true)∧(bA J.heap U<|marksOf<|lets<|s.take i)∧(Bd 155 5 J E c<|lets<|s.take i)∧(Wk w J)∧(a 0=str s)∧(a 4=aU U)∧(a 5=aU E)∧(a 10= .int .i64 s.length)∧(a 11= .int .i64 i)∧(s.length - i=am)) _ ⟨0,.slice none 0 0,ab,(fun j aj=>by omega),(aw.md.B aQ),(Bd.new aR),(Md.trans G.md aw.md),aa,aa,aa,aa,aa,aa⟩ ?_
 rintro am a J ⟨i,c,hi,hp,av,Y,ae,a3,a6,a7,a4,a5,rfl⟩
 refine fx 0 a3<|fx 4 a6<|fx 5 a7<|fx 10 a4<|fx 11 a5 ?_
 have a2:=CW<|s.take i
 rw [dT] at a2
 have bh:=av.lt
 refine ak fun aL=>p (lt aa aa)<|nl<|aL<|az fun aN=>cd aa (fun a1=> ?_) fun a1=> ?_
 refine aM<|aN<|az fun C=>aB<|ak fun aC=>ao (.int .i64 i)<|p (bY (.int .i64 i) aa)<|nl<|aC<|az fun aD=>ak fun aE=>ao (str s)<|ao (.int .i64 i)<|p (ja u9 aa aa ab)<|e<|cl Av (BO (s.getD i 0) _) aa fun bk a8 aX=> ?_
 obtain ⟨rfl,q⟩:=aX
 refine p (no aa)<|nl<|aE<|cb aa (fun ag=> ?_) fun ag=> ?_
 have I:gJ (s.getD i 0)=false :=by simpa using ag
 exact ak fun M=>p aA<|ay<|M<|rt<|tr<|br<|tr<|tr<|br<|tr<|f2 aa aa aa<|⟨by show iT #[str [],.int .i64 21]=_; unfold letE; rw [if_pos (.inr<|s5 ab I)]; rfl,Md.trans ae q⟩
 have I:gJ (s.getD i 0)=true :=by simpa using ag
 have ap:Wk w a8:=Md.trans ae q
 have V:=q.B av
 have ac:=Y.md q fun _ _ h=>h
 have bj:=q.size
 refine aM<|aD<|ak fun M=>ao (str s)<|ao (.int .i64 i)<|p (ja u9 aa aa ab)<|p (kv zZ aa aa<|by have :=iM (s.getD i 0); omega)<|p (ld oh aa<|N7 V _)<|p (no aa)<|nl<|M<|cb aa (fun ah=> ?_) fun ah=> ?_
 have A:¬s.getD i 0∈lets (s.take i):=of_decide_eq_false<|by simpa using ah
 refine ak fun aF=>ao (str s)<|ao (.int .i64 i)<|p (ja u9 aa aa ab)<|p (kv zZ aa aa<|by have :=iM (s.getD i 0); omega)<|e<|st A7 aa aa (aa) (V) (by rw [C5]; have :=iM (s.getD i 0); omega) fun bb aq aP=> ?_
 have aW:=N8 aP
 have aT:Wk w bb:=Md.trans' ap aq fun k hk h=>by omega
 have Z:=ac.md aq fun k hk h=>by have :=ac.gr hk; omega
 refine nl<|aF<|rg aa<|ao (str s)<|ao (.int .i64 i)<|p (ja u9 aa aa ab)<|e<|cl Au (EZ E c (lets<|s.take i) (s.getD i 0) _ Z ab) aa fun bl bo aZ=> ?_
 obtain ⟨rfl,aO,aS,ar,bi⟩:=aZ
 exact nl<|bn<|C<|rg aa<|p (ad aa aa<|bR ab)<|p mv<|nl<|tn<|⟨_,ab,i+1,aO,ab,(fun j aj=>by rcases gC j i with h | h <;> first | exact hp j h | (rw [show j=i by omega]; exact I)),(by rw [tO ab,if_neg A]; exact ar.B aW fun h=>by have :=Z.gr h; omega),(by rw [tO ab,if_neg A]; exact aS),(Z.step aT ar<|by have :=G.md.size; omega),aa,aa,aa,aa,aa,aa⟩
 have A:s.getD i 0∈lets (s.take i):=by simpa using ah
 exact aM<|bn<|C<|rg aa<|p (ad aa aa<|bR ab)<|p mv<|nl<|tn<|⟨_,ab,i+1,c,ab,(fun j aj=>by rcases gC j i with h | h <;> first | exact hp j h | (rw [show j=i by omega]; exact I)),(by rw [tO ab,if_pos A]; exact V),(by rw [tO ab,if_pos A]; exact ac),ap,aa,aa,aa,aa,aa,aa⟩
 refine ext<|bc<|bc<|be<|aJ<|ak fun C=>e<|cl vX (yK E c (lets<|s.take i) _ Y<|by have :=CW (s.take i); rw [dT] at this; omega) aa fun bm bp a0=> ?_
 obtain ⟨rfl,aV⟩:=a0
 exact p aA<|ay<|C<|rt<|f2 aa aa aa<|⟨by show iT #[str (lets<|s.take i),.int .i64 0]=_; unfold letE; rw [if_neg (by rw [s6 (fun j aj=>hp j ab)]; exact fun h=>h.elim ai c8),show s.take i=s from eL ab]; rfl,Y.yI ae aV<|by have :=G.md.size; omega⟩
theorem Cz {s:List UInt8} (h:¬s= []) (h1:¬(1 < s.length∧(s.getD 0 0).toNat=48)):¬oD s:=fun a=>a.elim h h1
theorem Pd {s:List UInt8} (h:¬oD s):0 < s.length:=List.length_pos_iff.2 fun e=>h<|.inl e
theorem tT (s:List UInt8) (most:Int) (w:World) (hs:s.length≤1048576) (hm: -9223372036854775808≤most∧most≤9223372036854775807):
 ba au 138 (aY [str s,.int .i64 most]) w (fun v w'=>v= .tuple #[.int .i64 (eC s most).1,.int .i64 (eC s most).2]∧Wk w w'):=by
 refine enter func138 aa ntmps138 aa<|ak fun Z=>p aA<|ay<|Z ?_
 refine ep (fun M J=>(¬oD s)∧(J=w)∧(M 0=str s)∧(M 1= .int .i64 most)) ?_ ?_
 refine ak fun q=>ao (str s)<|p (iy aa aa)<|p mv<|gs (t:=11) aa (fun E=> ?_) fun E=> ?_
 exact aJ aa<|aJ aa<|aJ aa<|aJ aa<|eT aa<|eT aa<|eT aa<|aJ aa<|p (bI aa)<|nl<|q<|ct aa<|ak fun A=>p aA<|p aA<|nl<|A<|rt<|tr<|f2 aa aa aa<|⟨by show iT #[.int .i64 0,.int .i64 13]=_; rw [Dl (.inl E)]; rfl,Md.refl _ _⟩
 refine aR aa (aG (str s) aa)<|aR aa (db u9 aa aa)<|aR aa (gt aa aa)<|aR aa mv<|gs (t:=15) aa (fun aw=> ?_) fun aw=> ?_
 refine aR aa (aG (str s) aa)<|aR aa (lE 0 u9 aa aa ab)<|aR aa (bS aa aa)<|aR aa (bI aa)<|p (bD aa)<|nl<|q<|cd aa (fun ap=> ?_) fun ap=> ?_
 exact ak fun A=>p aA<|ay<|A<|rt<|tr<|f2 aa aa aa<|⟨by show iT #[.int .i64 0,.int .i64 13]=_; rw [Dl (.inr ⟨ab,ab⟩)]; rfl,Md.refl _ _⟩
 have G:=Cz (s:=s) E ab
 exact aM<|tn<|⟨G,aa,aa,aa⟩
 exact aJ aa<|aJ aa<|aJ aa<|aR aa (bD aa)<|p (bD aa)<|nl<|q<|cf aa<|aM<|tn<|⟨(Cz (s:=s) E ab),aa,aa,aa⟩
 rintro M J ⟨G,am,aE,aF⟩
 refine fx 0 aE<|fx 1 aF ?_
 subst am
 have hp:=Pd G
 refine ak fun q=>ay<|q<|az fun A=>ak fun ae=>ao (str s)<|p (db u9 aa aa)<|p mv<|nl<|ae<|aB<|lp (fun O c Y=> ∃ (i:Nat),(i≤s.length)∧(Y=J)∧((eY (s.take i):Int)≤max 0 most∧(0 < i→(eY (s.take i):Int)≤most))∧(∀ j,j < i→qX (s.getD j 0)=true)∧(c 0=str s)∧(c 1= .int .i64 most)∧(c 6=aj (eY<|s.take i))∧(c 22= .int .i64 s.length)∧(c 23= .int .i64 i)∧(s.length - i=O)) _ ⟨0,ab,aa,(by rw [nn]; show (0:Int)≤_∧_; omega),(fun j V=>by omega),aa,aa,(iv<|by first | rfl | (rw [qV ab])),aa,aa,aa⟩ ?_
 rintro O c Y ⟨i,hi,an,hn,U,aH,aI,aN,aK,aL,rfl⟩
 refine fx 0 aH<|fx 1 aI<|fx 6 aN<|fx 22 aK<|fx 23 aL ?_
 subst an
 have aO:=iM<|s.getD i 0
 refine ak fun ag=>p (lt aa aa)<|nl<|ag<|az fun ah=>cd aa (fun aq=> ?_) fun aq=> ?_
 refine aM<|ah<|az fun I=>aB<|ak fun ai=>ao (.int .i64 i)<|p (bY (.int .i64 i) aa)<|nl<|ai<|ak fun al=>ao (str s)<|ao (.int .i64 i)<|p (ja u9 aa aa ab)<|p (wo u3 r6 aa<|bR ab)<|p (sb aa aa<|bR ab)<|ay<|al<|az fun ac=>ak fun C=>p mv<|p (lt aa aa)<|p mv<|gs (t:=33) aa (fun ax=> ?_) fun ax=> ?_
 refine aJ aa<|aJ aa<|p (bI aa)<|p mv<|aJ aa<|aJ aa<|aJ aa<|p (bI aa)<|p mv<|aJ aa<|aJ aa<|aJ aa<|aJ aa<|aJ aa<|aJ aa<|p (bI aa)<|nl<|C<|ct aa<|ak fun a=>p aA<|p aA<|nl<|a<|rt<|tr<|br<|tr<|tr<|br<|tr ?_
 exact f2 aa aa aa<|⟨by show iT #[.int .i64 0,.int .i64 13]=_; rw [Dk (i:=i) ab (Bo ab)]; rfl,Md.refl _ _⟩
 refine aR aa mv<|aR aa (gt aa aa)<|p (bD aa)<|p mv<|gs (t:=37) aa (fun aC=> ?_) fun aC=> ?_
 exact aJ aa<|aJ aa<|aJ aa<|p (bI aa)<|p mv<|aJ aa<|aJ aa<|aJ aa<|aJ aa<|aJ aa<|aJ aa<|p (bI aa)<|nl<|C<|ct aa<|az fun a=>rg aa<|p aA<|ay<|a<|rt<|tr<|br<|tr<|tr<|br<|tr<|f2 aa aa aa<|⟨by show iT #[.int .i64 0,.int .i64 13]=_; rw [Dk (i:=i) ab (Bo ab)]; rfl,Md.refl _ _⟩
 refine aR aa (aG (.int .i64 most) aa)<|aR aa mv<|aR aa (lt aa aa)<|p (bD aa)<|p mv<|gs (t:=42) aa (fun aD=> ?_) fun aD=> ?_
 refine aJ aa<|aJ aa<|aJ aa<|aJ aa<|aJ aa<|aJ aa<|p (bI aa)<|nl<|C<|ct aa<|ak fun a=>p aA<|ay<|a ?_
 exact rt<|tr<|br<|tr<|tr<|br<|tr<|f2 aa aa aa<|⟨by show iT #[.int .i64 0,.int .i64 13]=_; rw [Di (i+1) (by rw [qV ab]; omega)]; rfl,Md.refl _ _⟩
 have aP:((s.getD i 0).toNat:Int) - 48≤most:=ab
 refine aR aa (aG (aj<|eY<|s.take i) aa)<|aR aa (aG (.int .i64 most) aa)<|aR aa mv<|aR aa (sb aa aa<|bR ab)<|aR aa (nM (((most - (((s.getD i 0).toNat:Int) - 48)).toNat / 10:Nat):Int) aa aa ab<|bd ab ab)<|aR aa (gt aa aa)<|p (bD aa)<|nl<|C<|cd aa (fun ar=> ?_) fun ar=> ?_
 exact ak fun a=>p aA<|ay<|a<|rt<|tr<|br<|tr<|tr<|br<|tr<|f2 aa aa aa<|⟨by show iT #[.int .i64 0,.int .i64 13]=_; rw [Di (i+1) (by rw [qV ab]; omega)]; rfl,Md.refl _ _⟩
 have av:qX (s.getD i 0)=true :=decide_eq_true ab
 exact aM<|ac<|rg aa<|ao (aj<|eY<|s.take i)<|p (oI ((eY (s.take i)*10:Nat):Int) aa aa<|bd ab ab)<|p mv<|p (bG ((eY (s.take i)*10 +((s.getD i 0).toNat - 48):Nat):Int) aa aa<|bd ab ab)<|p aA<|nl<|bn<|I<|rg aa<|p (ad aa aa<|bR ab)<|p mv<|nl<|tn<|⟨_,ab,i+1,ab,aa,(by rw [qV ab]; omega),(fun j V=>by rcases gC j i with h | h <;> first | exact U j h | (rw [show j=i by omega]; exact av)),aa,aa,(iv<|by first | rfl | (rw [qV ab])),aa,aa,aa⟩
 exact ext<|bc<|bc<|be<|A<|ak fun I=>ao (aj<|eY<|s.take i)<|p (bY (aj<|eY<|s.take i) aa)<|ay<|I<|rt<|f2 aa aa aa<|⟨by show iT #[aj (eY<|s.take i),.int .i64 0]=_; rw [show s.take i=s from eL ab,Dm G (fun j V=>U j ab) (by rw [show s.take i=s from eL ab] at hn; omega)],Md.refl _ _⟩
theorem yu {s pr:List UInt8} (h:s.take pr.length=pr):pr.length≤s.length:=by
 have :=congrArg kM h
 rw [dT] at this; omega
theorem QH {s:List UInt8} (h:decide (1≤s.length∧s.drop (s.length - 1)= [13])=true):iO s=s.take (s.length - 1):=by
 have h1:=of_decide_eq_true h
 rw [CO ab] at h1
 exact KU ab<|by simpa using h1.2
theorem QI {s:List UInt8} (h:decide (1≤s.length∧s.drop (s.length - 1)= [13])=false):iO s=s:=by
 have h1:=of_decide_eq_false h
 refine KS fun h2=>h1 ⟨ab,?_⟩
 rw [CO ab,h2.2]
theorem Nf (c:UInt8):dK c [c]=0:=by unfold dK; simp
theorem xH (s pr:List UInt8) (w:World) (hs:s.length≤1099511627776) (hp:pr.length≤1099511627776):
 ba au 211 (aY [str s,str pr]) w (fun v w'=>v= .bool (decide (s.take pr.length=pr))∧Wk w w'):=by
 refine enter func211 aa ntmps211 aa<|ak fun c=>ay<|c<|ak fun a=>ao (str s)<|p (db u9 aa aa)<|ao (str pr)<|p (db u9 aa aa)<|p (ge aa aa)<|p mv<|gs (t:=10) aa (fun i=> ?_) fun i=> ?_
 exact aR aa (aG (str s) aa)<|aR aa (aG (str pr) aa)<|aR aa (db u9 aa aa)<|aR aa (rU u9 aa aa ab)<|aR aa (aG (str pr) aa)<|aR aa (iy aa aa)<|p (bI aa)<|p aA<|nl<|a<|rt<|a6 aa<|⟨aa,Md.refl _ _⟩
 exact aJ aa<|aJ aa<|aJ aa<|aJ aa<|aJ aa<|aJ aa<|p (bD aa)<|p aA<|nl<|a<|rt<|a6 aa<|⟨by show bL false =_; rw [decide_eq_false (fun h=>by have :=yu h; omega)],Md.refl _ _⟩
theorem QZ (s pr:List UInt8) (w:World) (hs:s.length≤1099511627776) (hp:pr.length≤1099511627776):
 ba au 150 (aY [str s,str pr]) w (fun v w'=>v=str (eF s pr)∧Wk w w'):=by
 refine enter func150 aa ntmps150 aa<|ak fun A=>ay<|A<|az fun C=>ak fun E=>ao (str s)<|ao (str pr)<|e<|cl vQ (xH s pr _ hs hp) aa fun J M G=> ?_
 obtain ⟨rfl,q⟩:=G
 refine nl<|E<|cb aa (fun i=> ?_) fun i=> ?_
 have a:=of_decide_eq_true i
 have I:=yu a
 exact ak fun c=>ao (str s)<|ao (str pr)<|p (db u9 aa aa)<|p (mZ u9 aa aa ab)<|p aA<|nl<|c<|rt<|tr<|a6 aa<|⟨by show str (s.drop (pr.length:Int).toNat)=_; unfold eF; rw [if_pos a]; rfl,q⟩
 have a:=of_decide_eq_false i
 exact aM<|C<|ak fun c=>ao (str s)<|p (bY (str s) aa)<|nl<|c<|rt<|a6 aa<|⟨by show str s=_; unfold eF; rw [if_neg a],q⟩
theorem Es (s pr:List UInt8) (w:World) (hs:s.length≤1099511627776) (hp:pr.length≤1099511627776):
 ba au 96 (aY [str s,str pr]) w (fun v w'=>v=str (eF s pr)∧Wk w w'):=by
 refine enter func96 aa ntmps96 aa<|ak fun a=>ay<|a<|ak fun c=>ao (str s)<|ao (str pr)<|e<|cl HM (QZ s pr _ hs hp) aa fun A C q=> ?_
 obtain ⟨rfl,i⟩:=q
 exact ay<|c<|rt<|a6 aa<|⟨aa,i⟩
theorem xI (s pr:List UInt8) (w:World) (hs:s.length≤1099511627776) (hp:pr.length≤1099511627776):
 ba au 210 (aY [str s,str pr]) w (fun v w'=>v= .bool (decide (pr.length≤s.length∧s.drop (s.length - pr.length)=pr))∧Wk w w'):=by
 refine enter func210 aa ntmps210 aa<|ak fun c=>ay<|c<|ak fun a=>ao (str s)<|p (db u9 aa aa)<|ao (str pr)<|p (db u9 aa aa)<|p (ge aa aa)<|p mv<|gs (t:=10) aa (fun i=> ?_) fun i=> ?_
 exact aR aa (aG (str s) aa)<|aR aa (aG (str s) aa)<|aR aa (db u9 aa aa)<|aR aa (aG (str pr) aa)<|aR aa (db u9 aa aa)<|aR aa (sb aa aa<|bR ab)<|aR aa (mZ u9 aa aa ab)<|aR aa (aG (str pr) aa)<|aR aa (iy aa aa)<|p (bI aa)<|ay<|a<|rt<|a6 aa<|⟨by show bL (decide (s.drop ((s.length:Int) - (pr.length:Int)).toNat=pr))=_; rw [show ((s.length:Int) - (pr.length:Int)).toNat=s.length - pr.length from by omega]; exact bv (by constructor <;> intro h <;> first | exact ⟨ab,h⟩ | exact h.2),Md.refl _ _⟩
 exact aJ aa<|aJ aa<|aJ aa<|aJ aa<|aJ aa<|aJ aa<|aJ aa<|aJ aa<|aJ aa<|p (bD aa)<|ay<|a<|rt<|a6 aa<|⟨by show bL false =_; rw [decide_eq_false ab],Md.refl _ _⟩
theorem Q2 (s:List UInt8) (w:World) (hs:s.length≤1099511627776):
 ba au 149 (aY [str s,str [13]]) w (fun v w'=>v=str (iO s)∧Wk w w'):=by
 refine enter func149 aa ntmps149 aa<|ak fun q=>ay<|q<|az fun A=>ak fun C=>ao (str s)<|ao (str [13])<|e<|cl vP (xI s [13] _ hs aw) aa fun J M E=> ?_
 obtain ⟨rfl,i⟩:=E
 refine nl<|C<|cb aa (fun a=> ?_) fun a=> ?_
 have I:=(of_decide_eq_true a).1
 have G:([13]:List UInt8).length=1:=rfl
 exact ak fun c=>ao (str s)<|ao (str s)<|p (db u9 aa aa)<|ao (str [13])<|p (db u9 aa aa)<|p (sb aa aa<|bR ab)<|p (rU u9 aa aa ab)<|ay<|c<|rt<|tr<|a6 aa<|⟨by show str (s.take ((s.length:Int) - (([13]:List UInt8).length:Int)).toNat)=_; rw [QH a,show ((s.length:Int) - (([13]:List UInt8).length:Int)).toNat=s.length - 1 from by simp only [iq]; omega],i⟩
 exact aM<|A<|ak fun c=>ao (str s)<|p (bY (str s) aa)<|nl<|c<|rt<|a6 aa<|⟨by show str s=_; rw [QI a],i⟩
theorem Q3 (s:List UInt8) (w:World) (hs:s.length≤1099511627776):
 ba au 95 (aY [str s,str [13]]) w (fun v w'=>v=str (iO s)∧Wk w w'):=by
 refine enter func95 aa ntmps95 aa<|ak fun a=>ay<|a<|ak fun c=>ao (str s)<|ao (str [13])<|e<|cl An (Q2 s _ hs) aa fun A C q=> ?_
 obtain ⟨rfl,i⟩:=q
 exact ay<|c<|rt<|a6 aa<|⟨aa,i⟩
theorem CD (s:List UInt8) (c:UInt8) (w:World):
 ba au 269 (aY [str s,.int .u8 c.toNat]) w (fun v w'=>v= .int .i64 (dK c s)∧Wk w w'):=by
 exact enter func269 aa ntmps269 aa<|ak fun a=>ay<|a<|ak fun i=>ao (str s)<|ao (.int .u8 c.toNat)<|p (A1 (Ni s c _) aa)<|ay<|i<|rt<|a6 aa<|⟨aa,Md.refl _ _⟩
theorem CC (s:List UInt8) (c:UInt8) (w:World):
 ba au 264 (aY [str s,str [c]]) w (fun v w'=>v= .int .i64 (dK c s)∧Wk w w'):=by
 refine enter func264 aa ntmps264 aa<|ak fun q=>ay<|q<|ak fun A=>ao (str [c])<|p (db u9 aa aa)<|ay<|A<|az fun J=>aB<|ak fun C=>p mv<|p (bS aa aa)<|p mv<|gs (t:=19) aa (fun h=>absurd h<|by simp) fun O=>aR aa (aG (str [c]) aa)<|aR aa (aG (str s) aa)<|aR aa (iy aa aa)<|p (bD aa)<|ay<|C<|cd aa (fun i=> ?_) fun i=> ?_
 exact ak fun a=>ay<|a<|rt<|br<|tr<|a6 aa<|⟨by show gA .i64 0=_; rw [← i,Nf],Md.refl _ _⟩
 refine ak fun a=>p mv<|p (bS aa aa)<|ay<|a<|cd aa (fun M=> ?_) fun h=>absurd aa h
 refine ak fun E=>ao (str s)<|ao (str [c])<|p (lE 0 u9 aa aa<|by simp)<|e<|cl AE (CD s c _) aa fun v30 U I=> ?_
 obtain ⟨rfl,G⟩:=I
 exact ay<|E<|rt<|br<|tr<|a6 aa<|⟨aa,G⟩
theorem M2 (s:List UInt8) (c:UInt8) (w:World):
 ba au 298 (aY [str s,str [c]]) w (fun v w'=>v= .int .i64 (dK c s)∧Wk w w'):=by
 refine enter func298 aa ntmps298 aa<|ak fun a=>ay<|a<|ak fun i=>ao (str s)<|ao (str [c])<|e<|cl AD (CC s c _) aa fun C E A=> ?_
 obtain ⟨rfl,q⟩:=A
 exact ay<|i<|rt<|a6 aa<|⟨aa,q⟩
theorem Ka (s:List UInt8) (c:UInt8) (w:World) (hs:s.length≤1099511627776):
 ba au 238 (aY [str s,str [c]]) w (fun v w'=>v= .tuple #[str (kr c s),str (lC c s),.bool (!decide (dK c s < 0))]∧Wk w w'):=by
 refine enter func238 aa ntmps238 aa<|ak fun C=>p aA<|p aA<|ay<|C<|az fun E=>ak fun G=>ao (str s)<|ao (str [c])<|e<|cl AD (CC s c _) aa fun v10 q J=> ?_
 obtain ⟨rfl,A⟩:=J
 refine ay<|G<|ak fun I=>p mv<|p (ge aa aa)<|nl<|I<|cd aa (fun M=> ?_) fun M=> ?_
 have O:=pT (c:=c) (l:=s) ab
 have U:[c].length=1:=rfl
 refine az fun i=> ?_
 have a:(fun w'=>Wk q w') q.drew:=(Md.refl _ _).drew
 exact bK (fun w'=>Wk q w') aa wide a<|bH 0 aa (str s) a<|aI 1 aa (fun _ _=>mv) a<|aI 2 aa (fun _ _=>rU u9 aa aa ab) a<|bH 3 aa (str s) a<|aI 4 aa (fun _ _=>mv) a<|bH 5 aa (str [c]) a<|aI 6 aa (fun _ _=>db u9 aa aa) a<|aI 7 aa (fun _ _=>bG ((s.idxOf c+1:Nat):Int) aa aa<|bd ab ab) a<|aI 8 aa (fun _ _=>mZ u9 aa aa ab) a<|aI 9 aa (fun _ _=>aA) a<|aI 10 aa (fun _ _=>aA) a<|aI 11 aa (fun _ _=>aA) a<|hn ag<|i<|rt<|tr<|f3 aa aa aa aa<|⟨by show iT #[str (s.take (dK c s).toNat),str (s.drop<|s.idxOf c+1),.bool true]=_; unfold kr lC; rw [if_neg ab,if_neg ab,O.1,decide_eq_false ab]; rfl,Md.trans A (Md.refl _ _).drew⟩
 exact aM<|E<|ak fun i=>ao (str s)<|p (bY (str s) aa)<|p aA<|p aA<|nl<|i<|rt<|f3 aa aa aa aa<|⟨by show iT #[str s,str [],.bool false]=_; unfold kr lC; rw [if_pos ab,if_pos ab,decide_eq_true ab]; rfl,A⟩
theorem Ke (s:List UInt8) (c:UInt8) (w:World) (hs:s.length≤1099511627776):
 ba au 190 (aY [str s,str [c]]) w (fun v w'=>v= .tuple #[str (kr c s),str (lC c s),.bool (!decide (dK c s < 0))]∧Wk w w'):=by
 refine enter func190 aa ntmps190 aa<|ak fun a=>p aA<|p aA<|ay<|a<|az fun i=>rg aa<|ao (str s)<|ao (str [c])<|e<|cl H2 (Ka s c _ hs) aa fun v9 C A=> ?_
 obtain ⟨rfl,q⟩:=A
 exact p (xt aa aa)<|p (xt aa aa)<|p (xt aa aa)<|p aA<|p aA<|ay<|i<|rt<|f3 aa aa aa aa<|⟨aa,q⟩
theorem Nb (x:Nat) (w:World):
 ba au 302 (aY [aO x]) w (fun v w'=>v= .bool false∧Wk w w'):=by
 exact enter func302 aa ntmps302 aa<|ak fun a=>ay<|a<|ak fun c=>ao (aO x)<|ao (aO x)<|p (gO aa aa)<|ay<|c<|rt<|a6 aa<|⟨congrArg bL (decide_eq_false fun h=>h aa),Md.refl _ _⟩
theorem j5 (x y:Nat) (w:World):
 ba au 289 (aY [aO x,aO y]) w (fun v w'=>v= .bool (bC x y)∧Wk w w'):=by
 refine enter func289 aa ntmps289 aa<|ak fun a=>ay<|a<|ak fun c=>ao (aO x)<|e<|cl Iu (Nb x _) aa fun v6 A q=> ?_
 obtain ⟨rfl,i⟩:=q
 exact p mv<|aJ aa<|aJ aa<|aJ aa<|p (bD aa)<|p mv<|aR aa (aG (aO x) aa)<|aR aa (aG (aO y) aa)<|aR aa (lt aa aa)<|p (bD aa)<|ay<|c<|rt<|a6 aa<|⟨by show bL (decide ((x:Int) < (y:Int)))=_; unfold bC; exact congrArg bL (decide_eq_decide.2 ab),i⟩
theorem Na (d:Array Nat) (a b:Nat) (B n cp:Nat) (A:Option Addr) (w:World) (aq:w.ownsRow B 51 1 (.slice A n cp) n (LE aO d)) (a8:a≤b∧b≤n) (bi:n≤1099511627776):
 ba au 283 (aY [.slice A n cp,aj a,aj b]) w (fun v w'=>v= .tuple #[]∧w'.ownsRow B 51 1 (.slice A n cp) n (LE aO<|FJ bC d a b)∧Md (fun q=>(bz A n cp).ownBlock=some q) w w'):=by
 have bb:=ea aq
 refine enter func283 aa ntmps283 aa<|ak fun aw=>ao (aj a)<|p (bG ((a+1:Nat):Int) aa aa<|bd ab ab)<|ay<|aw<|aB<|lp (fun Y ac al=> ∃ (i:Nat) (V:Array Nat),(a+1≤i∧i≤n+1)∧(Go.Sort.insOuter bC a b i V=FJ bC d a b)∧(al.ownsRow B 51 1 (.slice A n cp) n<|LE aO V)∧(Md (fun q=>(bz A n cp).ownBlock=some q) w al)∧(ac 0= .slice A n cp)∧(ac 1=aj a)∧(ac 2=aj b)∧(ac 6=aj i)∧(b - i=Y)) _ ⟨a+1,d,ab,aa,aq,(Md.refl _ _),aa,aa,aa,aa,aa⟩ ?_
 rintro Y ac al ⟨i,V,hi,ah,ar,ap,aX,aZ,a0,a1,rfl⟩
 refine fx 0 aX<|fx 1 aZ<|fx 2 a0<|fx 6 a1<|az fun ax=>ak fun aD=>ao (aj i)<|ao (aj b)<|p (lt aa aa)<|nl<|aD<|cd aa (fun aR=> ?_) fun aR=> ?_
 refine aM<|ax<|az fun am=>aB<|ak fun aE=>ao (aj i)<|p (bY (aj i) aa)<|nl<|aE<|aB<|lp (fun Y U M=> ∃ (j:Nat) (E:Array Nat),(a≤j∧j≤i)∧(FI bC a j E=FI bC a i V)∧(M.ownsRow B 51 1 (.slice A n cp) n<|LE aO E)∧(Md (fun q=>(bz A n cp).ownBlock=some q) w M)∧(U 0= .slice A n cp)∧(U 1=aj a)∧(U 2=aj b)∧(U 6=aj i)∧(U 7=aj j)∧(j=Y)) _ ⟨i,V,ab,aa,ar,ap,aa,aa,aa,aa,aa,aa⟩ ?_
 rintro Y U M ⟨j,E,bf,ai,I,ad,a2,a3,a4,a5,a6,rfl⟩
 refine fx 0 a2<|fx 1 a3<|fx 2 a4<|fx 6 a5<|fx 7 a6<|az fun aF=>az fun an=> ?_
 have a9:=ea I
 have c:(fun w'=>Wk M w') M.drew:=(Md.refl _ _).drew
 refine bK (fun w'=>Wk M w') aa wide c<|bH 0 aa (aj j) c<|bH 1 aa (aj a) c<|aI 2 aa (fun _ _=>gt aa aa) c<|aI 3 aa (fun _ _=>mv) c<|js (t:=19) aa (fun aQ=> ?_) fun aQ=> ?_
 refine bh 4 aa (fun _ _=>aG (.slice A n cp) aa) c<|bh 5 aa (fun _ _=>aG (aj j) aa) c<|bh 6 aa (fun _ _=>aW bB aa aa ab<|aC.ok ((aT I).2)<|bE ab) c<|bh 7 aa (fun w' G=>ld bM aa<|ca (i:=j) ((aT I).2.wk G) ab) c<|bh 8 aa (fun _ _=>aG (.slice A n cp) aa) c<|bh 9 aa (fun _ _=>aG (aj j) aa) c<|bh 10 aa (fun _ _=>cU ((j - 1:Nat):Int) aa aa<|bd ab ab) c<|bh 11 aa (fun _ _=>aW bB aa aa ab<|aC.ok ((aT I).2)<|bE ab) c<|bh 12 aa (fun w' G=>ld bM aa<|ca (i:=j - 1) ((aT I).2.wk G) ab) c<|ku 13 aa ag aa aa aa<|cl jZ (j5 E[j]! E[j - 1]! _) aa fun bj Z aP=> ?_
 obtain ⟨rfl,aJ⟩:=aP
 have O:(fun w'=>Wk M w') Z:=Md.trans c aJ
 refine ⟨O,?_⟩
 refine aI 14 aa (fun _ _=>bI aa) O<|hn ag<|an<|cb aa (fun ae=> ?_) fun ae=> ?_
 refine aM<|aF<|az fun aH=>aB ?_
 have J:=aV I O
 have C:(fun w'=>Wk Z w') Z.drew:=(Md.refl _ _).drew
 refine ei (fun w'=>Wk Z w') 15 aa wide C<|bg 0 aa (.slice A n cp) C<|bg 1 aa (aj j) C<|bg 2 aa (.slice A n cp) C<|bg 3 aa (aj j) C<|bp 4 aa (fun _=>cU ((j - 1:Nat):Int) aa aa<|bd ab ab) (fun _=>C)<|bg 5 aa (.slice A n cp) C<|bg 6 aa (aj j) C<|bp 7 aa (fun _=>cU ((j - 1:Nat):Int) aa aa<|bd ab ab) (fun _=>C)<|bp 8 aa (fun _=>aW bB aa aa ab<|aC.ok ((aT J).2)<|bE ab) (fun _=>C)<|dM 9 aa (fun w' G=>ld bM aa<|ca (i:=j - 1) ((aT J).2.wk G) ab) C<|bg 10 aa (.slice A n cp) C<|bg 11 aa (aj j) C<|bp 12 aa (fun _=>aW bB aa aa ab<|aC.ok ((aT J).2)<|bE ab) (fun _=>C)<|dM 13 aa (fun w' G=>ld bM aa<|ca (i:=j) ((aT J).2.wk G) ab) C<|bp 14 aa (fun _=>aW bB aa aa ab<|aC.ok ((aT J).2)<|bE ab) (fun _=>C) ?_
 refine cQ 15 aa ag ag<|eE (u:=E[j - 1]!) (j) (aV J C) eu aa aa aa ab fun bk aL aS=>bp 16 aa (fun _=>aW bB aa aa ab<|aC.ok ((aT J).2)<|bE ab) (fun h=>c8<|(show true =_ from by kernel_rfl).trans h)<|cQ 17 aa ag ag<|eE (u:=E[j]!) (j - 1) aS eu aa aa aa ab fun av aN aU=> ?_
 have G:av.ownsRow B 51 1 (.slice A n cp) n (LE aO<|bJ E (j)<|j - 1):=aU
 have aK:Md (fun q=>(bz A n cp).ownBlock=some q) Z av:=Md.trans (C.mono fun _ _ h=>h.elim)<|Md.trans aL aN
 exact eh ag<|bn<|aH<|rg aa<|ao (aj j)<|p (cU ((j - 1:Nat):Int) aa aa<|bd ab ab)<|p aA<|nl<|tn<|⟨_,ab,j - 1,bJ E j (j - 1),ab,(by rw [← ai,M7 (show a < j by omega) ae]),G,(Md.trans ad<|Md.trans (O.mono fun _ _ h=>h.elim) aK),aa,aa,aa,aa,aa,aa⟩
 exact ext<|bc<|bc<|be<|bn<|am<|rg aa<|ao (aj i)<|p (bG ((i+1:Nat):Int) aa aa<|bd ab ab)<|p aA<|nl<|tn<|⟨_,ab,i+1,E,ab,(by rw [← ah,CG (show i < b by omega),← ai,M8 (by simpa using ae)]),(aV I O),(Md.trans ad<|O.mono fun _ _ h=>h.elim),aa,aa,aa,aa,aa⟩
 exact a7 4 aa c<|a7 5 aa c<|a7 6 aa c<|a7 7 aa c<|a7 8 aa c<|a7 9 aa c<|a7 10 aa c<|a7 11 aa c<|a7 12 aa c<|a7 13 aa c<|aI 14 aa (fun _ _=>bD aa) c<|hn ag<|an<|cf aa<|ext<|bc<|bc<|be<|bn<|am<|rg aa<|ao (aj i)<|p (bG ((i+1:Nat):Int) aa aa<|bd ab ab)<|p aA<|nl<|tn<|⟨_,ab,i+1,E,ab,(by rw [← ah,CG (show i < b by omega),← ai,M9 ab]),(aV I (Md.refl _ _).drew),ad.drew,aa,aa,aa,aa,aa⟩
 exact ext<|bc<|bc<|be<|f0 aa<|⟨aa,by rw [← ah,M6 ab]; exact ar,ap⟩
theorem Qb (d:Array Nat) (lo hi first :Nat) (B n cp:Nat) (C:Option Addr) (w:World) (aQ:w.ownsRow B 51 1 (.slice C n cp) n (LE aO d)) (bj:lo≤hi∧first+hi≤n) (bl:n≤1099511627776):
 ba au 299 (aY [.slice C n cp,aj lo,aj hi,aj first]) w (fun v w'=>v= .tuple #[]∧w'.ownsRow B 51 1 (.slice C n cp) n (LE aO<|n5 bC hi first lo d)∧Md (fun q=>(bz C n cp).ownBlock=some q) w w'):=by
 refine enter func299 aa ntmps299 aa<|ak fun ax=>ao (aj lo)<|p (bY (aj lo) aa)<|nl<|ax<|aB<|lp (fun ap ae V=> ∃ (r:Nat) (E:Array Nat),(r≤hi)∧(n5 bC hi first r E=n5 bC hi first lo d)∧(V.ownsRow B 51 1 (.slice C n cp) n<|LE aO E)∧(Md (fun q=>(bz C n cp).ownBlock=some q) w V)∧(ae 0= .slice C n cp)∧(ae 2=aj hi)∧(ae 3=aj first)∧(ae 8=aj r)∧(hi - r=ap)) _ ⟨lo,d,ab,aa,aQ,(Md.refl _ _),aa,aa,aa,aa,aa⟩ ?_
 rintro ap ae V ⟨r,E,bm,an,J,ai,a2,a3,a4,a5,rfl⟩
 refine fx 0 a2<|fx 2 a3<|fx 3 a4<|fx 8 a5<|aB<|ak fun ay=>ao (aj r)<|p (oI ((2 *r:Nat):Int) aa aa<|bd ab ab)<|p (bG ((2 *r+1:Nat):Int) aa aa<|bd ab ab)<|p aA<|nl<|ay<|az fun aD=>ak fun aE=>p mv<|ao (aj hi)<|p (ge aa aa)<|nl<|aE<|cd aa (fun aU=> ?_) fun aU=> ?_
 exact ext<|bc<|lz aw<|bc<|be<|f0 aa<|⟨aa,by rw [← an,P9 ab]; exact J,ai⟩
 refine aM<|aD ?_
 refine ep (fun ac U=> ∃ (c:Nat),(r < c∧c < hi)∧(n5 bC hi first r E=if (!bC E[first+r]! E[first+c]!)=true then E else n5 bC hi first c (bJ E (first+r)<|first+c))∧(U.ownsRow B 51 1 (.slice C n cp) n<|LE aO E)∧(Md (fun q=>(bz C n cp).ownBlock=some q) w U)∧(ac 0= .slice C n cp)∧(ac 2=aj hi)∧(ac 3=aj first)∧(ac 8=aj r)∧(ac 9=aj c)) ?_ ?_
 refine az fun ah=> ?_
 have aX:=ea J
 have a:(fun w'=>Wk V w') V.drew:=(Md.refl _ _).drew
 refine bK (fun w'=>Wk V w') aa wide a<|aI 0 aa (fun _ _=>mv) a<|aI 1 aa (fun _ _=>bG ((2 *r+1 +1:Nat):Int) aa aa<|bd ab ab) a<|bH 2 aa (aj hi) a<|aI 3 aa (fun _ _=>lt aa aa) a<|aI 4 aa (fun _ _=>mv) a<|js (t:=21) aa (fun aZ=> ?_) fun aZ=> ?_
 refine bh 5 aa (fun _ _=>aG (.slice C n cp) aa) a<|bh 6 aa (fun _ _=>aG (aj first) aa) a<|bh 7 aa (fun _ _=>mv) a<|bh 8 aa (fun _ _=>bG ((first+(2 *r+1):Nat):Int) aa aa<|bd ab ab) a<|bh 9 aa (fun _ _=>aW bB aa aa ab<|aC.ok ((aT J).2)<|bE ab) a<|bh 10 aa (fun w' I=>ld bM aa<|ca (i:=first+(2 *r+1)) ((aT J).2.wk I) ab) a<|bh 11 aa (fun _ _=>aG (.slice C n cp) aa) a<|bh 12 aa (fun _ _=>aG (aj first) aa) a<|bh 13 aa (fun _ _=>mv) a<|bh 14 aa (fun _ _=>bG ((first+(2 *r+1):Nat):Int) aa aa<|bd ab ab) a<|bh 15 aa (fun _ _=>bG ((first+(2 *r+1)+1:Nat):Int) aa aa<|bd ab ab) a<|bh 16 aa (fun _ _=>aW bB aa aa ab<|aC.ok ((aT J).2)<|bE ab) a<|bh 17 aa (fun w' I=>ld bM aa<|ca (i:=first+(2 *r+1)+1) ((aT J).2.wk I) ab) a<|ku 18 aa ag aa aa aa<|cl jZ (j5 E[first+(2 *r+1)]! E[first+(2 *r+1)+1]! _) aa fun bo bi aR=> ?_
 obtain ⟨rfl,aJ⟩:=aR
 have Y:(fun w'=>Wk V w') bi:=Md.trans a aJ
 refine ⟨Y,?_⟩
 refine aI 19 aa (fun _ _=>bI aa) Y<|hn ag<|ah<|cb aa (fun al=> ?_) fun al=> ?_
 exact rg aa<|p mv<|p (bG ((2 *r+2:Nat):Int) aa aa<|bd ab ab)<|p aA<|nl<|tn<|⟨2 *r+2,ab,(Qa ab al),(aV J Y),(Md.trans ai<|Y.mono fun _ _ h=>h.elim),aa,aa,aa,aa,aa⟩
 exact aM<|tn<|⟨2 *r+1,ab,(D4 ab<|.inr al),(aV J Y),(Md.trans ai<|Y.mono fun _ _ h=>h.elim),aa,aa,aa,aa,aa⟩
 exact a7 5 aa a<|a7 6 aa a<|a7 7 aa a<|a7 8 aa a<|a7 9 aa a<|a7 10 aa a<|a7 11 aa a<|a7 12 aa a<|a7 13 aa a<|a7 14 aa a<|a7 15 aa a<|a7 16 aa a<|a7 17 aa a<|a7 18 aa a<|aI 19 aa (fun _ _=>bD aa) a<|hn ag<|ah<|cf aa<|aM<|tn<|⟨2 *r+1,ab,(D4 ab<|.inl ab),(aV J (Md.refl _ _).drew),ai.drew,aa,aa,aa,aa,aa⟩
 rintro ac U ⟨c,bk,ar,O,aq,a6,a8,a9,bb,bf⟩
 refine fx 0 a6<|fx 2 a8<|fx 3 a9<|fx 8 bb<|fx 9 bf<|az fun ah=>az fun aF=> ?_
 have aX:=ea O
 have G:(fun w'=>Wk U w') U.drew:=(Md.refl _ _).drew
 refine bK (fun w'=>Wk U w') aa wide G<|bH 0 aa (.slice C n cp) G<|bH 1 aa (aj first) G<|bH 2 aa (aj r) G<|aI 3 aa (fun _ _=>bG ((first+r:Nat):Int) aa aa<|bd ab ab) G<|aI 4 aa (fun _ _=>aW bB aa aa ab<|aC.ok ((aT O).2)<|bE ab) G<|aI 5 aa (fun w' I=>ld bM aa<|ca (i:=first+r) ((aT O).2.wk I) ab) G<|bH 6 aa (.slice C n cp) G<|bH 7 aa (aj first) G<|bH 8 aa (aj c) G<|aI 9 aa (fun _ _=>bG ((first+c:Nat):Int) aa aa<|bd ab ab) G<|aI 10 aa (fun _ _=>aW bB aa aa ab<|aC.ok ((aT O).2)<|bE ab) G<|aI 11 aa (fun w' I=>ld bM aa<|ca (i:=first+c) ((aT O).2.wk I) ab) G<|he 12 aa ag<|cl jZ (j5 E[first+r]! E[first+c]! _) aa fun v51 ad aS=> ?_
 obtain ⟨rfl,aK⟩:=aS
 have Z:(fun w'=>Wk U w') ad:=Md.trans G aK
 refine ⟨Z,?_⟩
 refine aI 13 aa (fun _ _=>no aa) Z<|hn ag<|aF<|cb aa (fun am=> ?_) fun am=> ?_
 exact rt<|tr<|br<|tr<|br<|tz aa<|⟨aa,by rw [← an,ar,if_pos am]; exact aV O Z,Md.trans aq<|Z.mono fun _ _ h=>h.elim⟩
 refine aM<|ah<|az fun aH=> ?_
 have M:=aV O Z
 have A:(fun w'=>Wk ad w') ad.drew:=(Md.refl _ _).drew
 refine ei (fun w'=>Wk ad w') 21 aa wide A<|bg 0 aa (.slice C n cp) A<|bg 1 aa (aj first) A<|bg 2 aa (aj r) A<|bp 3 aa (fun _=>bG ((first+r:Nat):Int) aa aa<|bd ab ab) (fun _=>A)<|bg 4 aa (.slice C n cp) A<|bg 5 aa (aj first) A<|bg 6 aa (aj c) A<|bp 7 aa (fun _=>bG ((first+c:Nat):Int) aa aa<|bd ab ab) (fun _=>A)<|bg 8 aa (.slice C n cp) A<|bg 9 aa (aj first) A<|bg 10 aa (aj c) A<|bp 11 aa (fun _=>bG ((first+c:Nat):Int) aa aa<|bd ab ab) (fun _=>A)<|bp 12 aa (fun _=>aW bB aa aa ab<|aC.ok ((aT M).2)<|bE ab) (fun _=>A)<|dM 13 aa (fun w' I=>ld bM aa<|ca (i:=first+c) ((aT M).2.wk I) ab) A<|bg 14 aa (.slice C n cp) A<|bg 15 aa (aj first) A<|bg 16 aa (aj r) A<|bp 17 aa (fun _=>bG ((first+r:Nat):Int) aa aa<|bd ab ab) (fun _=>A)<|bp 18 aa (fun _=>aW bB aa aa ab<|aC.ok ((aT M).2)<|bE ab) (fun _=>A)<|dM 19 aa (fun w' I=>ld bM aa<|ca (i:=first+r) ((aT M).2.wk I) ab) A<|bp 20 aa (fun _=>aW bB aa aa ab<|aC.ok ((aT M).2)<|bE ab) (fun _=>A)<|cQ 21 aa ag ag<|eE (u:=E[first+c]!) (first+r) (aV M A) eu aa aa aa ab fun bq aN a0=> ?_
 refine bp 22 aa (fun _=>aW bB aa aa ab<|aC.ok ((aT M).2)<|bE ab) (fun h=>c8<|(show true =_ from by kernel_rfl).trans h)<|cQ 23 aa ag ag<|eE (u:=E[first+r]!) (first+c) a0 eu aa aa aa ab fun av aP a1=> ?_
 have I:av.ownsRow B 51 1 (.slice C n cp) n (LE aO<|bJ E (first+r)<|first+c):=a1
 have aL:Md (fun q=>(bz C n cp).ownBlock=some q) ad av:=Md.trans (A.mono fun _ _ h=>h.elim)<|Md.trans aN aP
 exact eh ag<|aH<|rg aa<|ao (aj c)<|p (bY (aj c) aa)<|nl<|bn<|tn<|⟨_,ab,c,bJ E (first+r) (first+c),ab,(by rw [← an,ar,if_neg (by rw [am]; exact c8)]),I,(Md.trans aq<|Md.trans (Z.mono fun _ _ h=>h.elim) aL),aa,aa,aa,aa,aa⟩
theorem D5 (d:Array Nat) (lo hi first :Nat) (i c:Int) (B n cp:Nat) (a:Option Addr) (w:World) (A:w.ownsRow B 51 1 (.slice a n cp) n (LE aO d)) (C:lo≤hi∧first+hi≤n) (G:i=(lo:Nat)) (E:c=(hi:Nat)) (I:n≤1099511627776):
 ba au 299 (aY [.slice a n cp,.int .i64 i,.int .i64 c,.int .i64 (first :Nat)]) w (fun v w'=>v= .tuple #[]∧w'.ownsRow B 51 1 (.slice a n cp) n (LE aO<|n5 bC hi first lo d)∧Md (fun q=>(bz a n cp).ownBlock=some q) w w'):=by
 subst G E; exact Qb d lo hi first B n cp a w A C I
theorem MR (d:Array Nat) (a b:Nat) (B n cp:Nat) (c:Option Addr) (w:World) (aI:w.ownsRow B 51 1 (.slice c n cp) n (LE aO d)) (a7:a < b∧b≤n) (ac:n≤1099511627776):
 ba au 284 (aY [.slice c n cp,aj a,aj b]) w (fun v w'=>v= .tuple #[]∧w'.ownsRow B 51 1 (.slice c n cp) n (LE aO<|FH bC d a b)∧Md (fun q=>(bz c n cp).ownBlock=some q) w w'):=by
 refine enter func284 aa ntmps284 aa<|ak fun ah=>ao (aj a)<|p (bY (aj a) aa)<|nl<|ah<|ak fun an=>ay<|an<|ak fun ap=>ao (aj b)<|ao (aj a)<|p (cU ((b - a:Nat):Int) aa aa<|bd ab ab)<|ay<|ap<|az fun aq=>ak fun ar=>p mv<|p (cU ((b - a - 1:Nat):Int) aa aa<|bd ab ab)<|p (nM (((b - a - 1) / 2:Nat):Int) aa aa ab<|bd ab ab)<|ay<|ar<|aB<|lp (fun M I Z=> ∃ (k:Nat) (C:Array Nat),(k≤b - a)∧(FG bC (b - a) a k C=FG bC (b - a) a ((b - a - 1) / 2 +1) d)∧(Z.ownsRow B 51 1 (.slice c n cp) n<|LE aO C)∧(Md (fun q=>(bz c n cp).ownBlock=some q) w Z)∧(I 0= .slice c n cp)∧(I 6=aj a)∧(I 7= .int .i64 0)∧(I 8=aj (b - a))∧(I 9= .int .i64 ((k:Nat) - 1:Int))∧(k=M)) _ ⟨(b - a - 1) / 2 +1,d,ab,aa,aI,(Md.refl _ _),aa,aa,aa,aa,(iv ab),aa⟩ ?_
 rintro M I Z ⟨k,C,hk,Y,E,O,aU,aX,aZ,a0,a1,rfl⟩
 refine fx 0 aU<|fx 6 aX<|fx 7 aZ<|fx 8 a0<|fx 9 a1<|az fun av=>ak fun aw=>ao (.int .i64 ((k:Nat) - 1:Int))<|p (ge aa aa)<|nl<|aw<|cd aa (fun aP=> ?_) fun aP=> ?_
 refine aM<|av<|az fun V=>aB<|rg aa<|ao (.slice c n cp)<|ao (.int .i64 ((k:Nat) - 1:Int))<|ao (aj<|b - a)<|ao (aj a)<|e<|cl AG (D5 C (k - 1) (b - a) a _ _ B n cp c _ E ab ab aa ac) aa fun bb bh aL=> ?_
 obtain ⟨rfl,aJ,aD⟩:=aL
 exact nl<|bn<|V<|rg aa<|ao (.int .i64 ((k:Nat) - 1:Int))<|p (sb aa aa<|bR ab)<|p aA<|nl<|tn<|⟨_,ab,k - 1,n5 bC (b - a) a (k - 1) C,ab,(by rw [← Y,Mx (show 0 < k by omega)]),aJ,(Md.trans O aD),aa,aa,aa,aa,(iv ab),aa⟩
 refine ext<|bc<|bc<|be<|aq<|ak fun V=>ao (aj<|b - a)<|p (cU ((b - a - 1:Nat):Int) aa aa<|bd ab ab)<|ay<|V<|aB<|lp (fun M J G=> ∃ (k:Nat) (C:Array Nat),(k≤b - a)∧(Go.Sort.heapPop bC a k C=FH bC d a b)∧(G.ownsRow B 51 1 (.slice c n cp) n<|LE aO C)∧(Md (fun q=>(bz c n cp).ownBlock=some q) w G)∧(J 0= .slice c n cp)∧(J 6=aj a)∧(J 7= .int .i64 0)∧(J 8=aj (b - a))∧(J 10= .int .i64 ((k:Nat) - 1:Int))∧(k=M)) _ ⟨b - a,C,ab,(by rw [show k=0 by omega,My] at Y; rw [Y]; rfl),E,O,aa,aa,aa,aa,(iv ab),aa⟩ ?_
 rintro M J G ⟨k,C,a9,ad,E,O,a2,a4,a5,a6,a3,rfl⟩
 refine fx 0 a2<|fx 6 a4<|fx 7 a5<|fx 8 a6<|fx 10 a3<|az fun ax=>ak fun ai=>ao (.int .i64 ((k:Nat) - 1:Int))<|p (ge aa aa)<|nl<|ai<|cd aa (fun aQ=> ?_) fun aQ=> ?_
 refine aM<|ax<|az fun al=>aB<|az fun am=> ?_
 have a8:=ea E
 have A:(fun w'=>Wk G w') G.drew:=(Md.refl _ _).drew
 refine ei (fun w'=>Wk G w') 17 aa wide A<|bg 0 aa (.slice c n cp) A<|bg 1 aa (aj a) A<|bg 2 aa (.slice c n cp) A<|bg 3 aa (aj a) A<|bg 4 aa (.int .i64 ((k:Nat) - 1:Int)) A<|bp 5 aa (fun _=>bG ((a+(k - 1):Nat):Int) aa aa<|bd ab ab) (fun _=>A)<|bg 6 aa (.slice c n cp) A<|bg 7 aa (aj a) A<|bg 8 aa (.int .i64 ((k:Nat) - 1:Int)) A<|bp 9 aa (fun _=>bG ((a+(k - 1):Nat):Int) aa aa<|bd ab ab) (fun _=>A)<|bp 10 aa (fun _=>aW bB aa aa ab<|aC.ok ((aT E).2)<|bE ab) (fun _=>A)<|dM 11 aa (fun w' U=>ld bM aa<|ca (i:=a+(k - 1)) ((aT E).2.wk U) ab) A<|bg 12 aa (.slice c n cp) A<|bg 13 aa (aj a) A<|bp 14 aa (fun _=>aW bB aa aa ab<|aC.ok ((aT E).2)<|bE ab) (fun _=>A) ?_
 refine dM 15 aa (fun w' U=>ld bM aa<|ca (i:=a) ((aT E).2.wk U) ab) A<|bp 16 aa (fun _=>aW bB aa aa ab<|aC.ok ((aT E).2)<|bE ab) (fun _=>A)<|cQ 17 aa ag ag<|eE (u:=C[a+(k - 1)]!) (a) (aV E A) eu aa aa aa ab fun bj aG aR=>bp 18 aa (fun _=>aW bB aa aa ab<|aC.ok ((aT E).2)<|bE ab) (fun h=>c8<|(show true =_ from by kernel_rfl).trans h)<|cQ 19 aa ag ag<|eE (u:=C[a]!) (a+(k - 1)) aR eu aa aa aa ab fun ae aH aS=> ?_
 have U:ae.ownsRow B 51 1 (.slice c n cp) n (LE aO<|bJ C (a)<|a+(k - 1)):=aS
 have aF:Md (fun q=>(bz c n cp).ownBlock=some q) G ae:=Md.trans (A.mono fun _ _ h=>h.elim)<|Md.trans aG aH
 refine eh ag<|am<|rg aa<|ao (.slice c n cp)<|ao (.int .i64 0)<|ao (.int .i64 ((k:Nat) - 1:Int))<|ao (aj a)<|e<|cl AG (D5 (bJ C a<|a+(k - 1)) 0 (k - 1) a _ _ B n cp c _ U ab aa ab ac) aa fun bf bi aN=> ?_
 obtain ⟨rfl,aK,aE⟩:=aN
 exact nl<|bn<|al<|rg aa<|ao (.int .i64 ((k:Nat) - 1:Int))<|p (sb aa aa<|bR ab)<|p aA<|nl<|tn<|⟨_,ab,k - 1,n5 bC (k - 1) a 0 (bJ C a<|a+(k - 1)),ab,(by rw [← ad,MT (show 0 < k by omega)]),aK,(Md.trans O<|Md.trans aF aE),aa,aa,aa,aa,(iv ab),aa⟩
 exact ext<|bc<|bc<|be<|f0 aa<|⟨aa,by rw [← ad,show k=0 by omega]; exact E,O⟩
theorem PF (d:Array Nat) (a b:Nat) (B n cp:Nat) (A:Option Addr) (w:World) (an:w.ownsRow B 51 1 (.slice A n cp) n (LE aO d)) (aD:a < b∧b≤n) (aF:n≤1099511627776):
 ba au 287 (aY [.slice A n cp,aj a,aj b]) w (fun v w'=>v= .tuple #[]∧w'.ownsRow B 51 1 (.slice A n cp) n (LE aO<|zm d a b)∧Md (fun q=>(bz A n cp).ownBlock=some q) w w'):=by
 refine enter func287 aa ntmps287 aa<|ak fun Y=>ao (aj a)<|p (bY (aj a) aa)<|nl<|Y<|ak fun Z=>ao (aj b)<|p (cU ((b - 1:Nat):Int) aa aa<|bd ab ab)<|ay<|Z<|aB<|lp (fun M J G=> ∃ (i j:Nat) (E:Array Nat),(i≤n∧j < n)∧(Go.Sort.reverseLoop i j E=zm d a b)∧(G.ownsRow B 51 1 (.slice A n cp) n<|LE aO E)∧(Md (fun q=>(bz A n cp).ownBlock=some q) w G)∧(J 0= .slice A n cp)∧(J 6=aj i)∧(J 7=aj j)∧(j - i=M)) _ ⟨a,b - 1,d,ab,aa,an,(Md.refl _ _),aa,aa,aa,aa⟩ ?_
 rintro M J G ⟨i,j,E,hi,U,C,O,av,aw,ax,rfl⟩
 refine fx 0 av<|fx 6 aw<|fx 7 ax<|az fun ac=>ak fun ad=>ao (aj i)<|ao (aj j)<|p (lt aa aa)<|nl<|ad<|cd aa (fun ap=> ?_) fun ap=> ?_
 refine aM<|ac<|aB<|az fun ae=> ?_
 have aE:=ea C
 have c:(fun w'=>Wk G w') G.drew:=(Md.refl _ _).drew
 refine ei (fun w'=>Wk G w') 13 aa wide c<|bg 0 aa (.slice A n cp) c<|bg 1 aa (aj i) c<|bg 2 aa (.slice A n cp) c<|bg 3 aa (aj j) c<|bg 4 aa (.slice A n cp) c<|bg 5 aa (aj j) c<|bp 6 aa (fun _=>aW bB aa aa ab<|aC.ok ((aT C).2)<|bE ab) (fun _=>c)<|dM 7 aa (fun w' I=>ld bM aa<|ca (i:=j) ((aT C).2.wk I) ab) c<|bg 8 aa (.slice A n cp) c<|bg 9 aa (aj i) c<|bp 10 aa (fun _=>aW bB aa aa ab<|aC.ok ((aT C).2)<|bE ab) (fun _=>c)<|dM 11 aa (fun w' I=>ld bM aa<|ca (i:=i) ((aT C).2.wk I) ab) c<|bp 12 aa (fun _=>aW bB aa aa ab<|aC.ok ((aT C).2)<|bE ab) (fun _=>c)<|cQ 13 aa ag ag<|eE (u:=E[j]!) (i) (aV C c) eu aa aa aa ab fun aG al aq=> ?_
 refine bp 14 aa (fun _=>aW bB aa aa ab<|aC.ok ((aT C).2)<|bE ab) (fun h=>c8<|(show true =_ from by kernel_rfl).trans h)<|cQ 15 aa ag ag<|eE (u:=E[i]!) (j) aq eu aa aa aa ab fun V am ar=> ?_
 have I:V.ownsRow B 51 1 (.slice A n cp) n (LE aO<|bJ E (i)<|j):=ar
 have ai:Md (fun q=>(bz A n cp).ownBlock=some q) G V:=Md.trans (c.mono fun _ _ h=>h.elim)<|Md.trans al am
 refine eh ag<|ae<|ak fun ah=>ao (aj i)<|p (bG ((i+1:Nat):Int) aa aa<|bd ab ab)<|ay<|ah ?_
 exact rg aa<|ao (aj j)<|p (cU ((j - 1:Nat):Int) aa aa<|bd ab ab)<|p aA<|nl<|bn<|tn<|⟨_,ab,i+1,j - 1,bJ E i j,ab,(by rw [← U,PD (show i < j by omega)]),I,(Md.trans O ai),aa,aa,aa,aa⟩
 exact ext<|bc<|bc<|be<|f0 aa<|⟨aa,by rw [← U,PE ab]; exact C,O⟩
theorem Rb {n:Nat} {l:List UInt8} (h:n < 256) (a:∀ k:Fin 256,(l.getD k.val 0).toNat=jc k.val):IntKind.i64.wrap ((l.getD n 0).toNat:Int)=(jc n:Int):=by
 rw [a ⟨n,h⟩]; have :=tN h; exact bR<|by simp only; omega
theorem P5 {k:Nat} (h:k≤8):dq.wrap ((1:Int)*2 ^ min ((k:Nat):Int).toNat dq.bits)=((2 ^ k:Nat):Int):=by
 have h2:(dq.bits:Nat)=64:=rfl
 rw [Int.toNat_natCast,h2,Nat.min_eq_left ab,Int.one_mul]
 have h3:(2:Nat) ^ k≤2 ^ 8:=Nat.pow_le_pow_right aw h
 have h4:((2:Int) ^ k)=((2 ^ k:Nat):Int):=by simp
 rw [h4]
 obtain ⟨m,hm⟩:∃ m:Nat,2 ^ k=m:=⟨_,rfl⟩
 rw [hm] at h3 ⊢; exact mr ab
theorem O0 {d d1 d2:Array Nat} {a b i j:Nat} (h:lO a b d d1) (hi:a≤i∧i < b) (c:a≤j∧j < b) (q:b≤d1.size) (h2:d2=bJ d1 i j):lO a b d d2:=by
 subst h2; exact oW _ _ _ a b h<|Go.Sort.swp_permIn d1 a b i j hi.1 hi.2 c.1 c.2 q
theorem ym (d:Array Nat) (i j s lo hi E:Nat) (B n cp:Nat) (C:Option Addr) (w:World) (c:w.ownsRow B 51 1 (.slice C n cp) n (LE aO d)) (O:bA w.heap E [aj s]) (am:(bz C n cp).ownBlock≠some E) (av:lo≤i∧i < hi∧lo≤j∧j < hi∧hi≤n) (hs:s≤1000) (ar:n≤1099511627776):
 ba au 308 (aY [.slice C n cp,aj i,aj j,aU E]) w (fun v w'=> ∃ J M s1:Nat,v= .tuple #[aj J,aj M]∧(lo≤J∧J < hi)∧(lo≤M∧M < hi)∧s1≤s+1∧bA w'.heap E [aj s1]∧w'.ownsRow B 51 1 (.slice C n cp) n (LE aO d)∧Md (fun q=>q=E) w w'):=by
 refine enter func308 aa ntmps308 aa<|ak fun Y=>p aA<|ay<|Y<|az fun Z=>az fun ac=> ?_
 have aq:=ea c
 have a:(fun w'=>Wk w w') w.drew:=(Md.refl _ _).drew
 refine bK (fun w'=>Wk w w') aa wide a<|bH 0 aa (.slice C n cp) a<|bH 1 aa (aj j) a<|aI 2 aa (fun _ _=>aW bB aa aa ab<|aC.ok ((aT c).2)<|bE ab) a<|aI 3 aa (fun w' I=>ld bM aa<|ca (i:=j) ((aT c).2.wk I) ab) a<|bH 4 aa (.slice C n cp) a<|bH 5 aa (aj i) a<|aI 6 aa (fun _ _=>aW bB aa aa ab<|aC.ok ((aT c).2)<|bE ab) a<|aI 7 aa (fun w' I=>ld bM aa<|ca (i:=i) ((aT c).2.wk I) ab) a<|he 8 aa ag<|cl jZ (j5 d[j]! d[i]! _) aa fun aw ap al=> ?_
 obtain ⟨rfl,ah⟩:=al
 have A:(fun w'=>Wk w w') ap:=Md.trans a ah
 refine ⟨A,?_⟩
 refine hn ag<|ac<|cb aa (fun an=> ?_) fun an=> ?_
 have U:=A.B O
 have ai:=aV c A
 exact ak fun G=>ao (aU E)<|p (nc aa)<|p (ld bW aa<|U.aH 0)<|p (bG ((s+1:Nat):Int) aa aa<|bd ab ab)<|p (nc aa)<|e<|st kW aa aa (aa) (U) (by simp) fun ax V ae=>nl<|G<|ak fun ad=>ao (aj j)<|ao (aj i)<|p (bY (aj j) aa)<|p (bY (aj i) aa)<|nl<|ad<|rt<|tr<|f2 aa aa aa<|⟨j,i,s+1,aa,ab,ab,ab,ae,bZ ai V (fun k hk h=>am<|h ▸ hk),Md.trans (A.mono fun _ _ h=>h.elim) V⟩
 exact aM<|Z<|ak fun G=>ao (aj i)<|ao (aj j)<|p (bY (aj i) aa)<|p (bY (aj j) aa)<|nl<|G<|rt<|f2 aa aa aa<|⟨i,j,s,aa,ab,ab,ab,A.B O,aV c A,A.mono fun _ _ h=>h.elim⟩
theorem C8 (d:Array Nat) (i j k s lo hi a:Nat) (B n cp:Nat) (c:Option Addr) (w:World) (ag:w.ownsRow B 51 1 (.slice c n cp) n (LE aO d)) (U:bA w.heap a [aj s]) (A:(bz c n cp).ownBlock≠some a) (aG:(lo≤i∧i < hi)∧(lo≤j∧j < hi)∧(lo≤k∧k < hi)∧hi≤n) (hs:s≤900) (C:n≤1099511627776):
 ba au 301 (aY [.slice c n cp,aj i,aj j,aj k,aU a]) w (fun v w'=> ∃ E s1:Nat,v=aj E∧(lo≤E∧E < hi)∧s1≤s+3∧bA w'.heap a [aj s1]∧w'.ownsRow B 51 1 (.slice c n cp) n (LE aO d)∧Md (fun q=>q=a) w w'):=by
 refine enter func301 aa ntmps301 aa<|ak fun G=>ay<|G<|ak fun I=>ao (.slice c n cp)<|ao (aj i)<|ao (aj j)<|ao (aU a)<|e<|cl vV (ym d i j s lo hi a B n cp c _ ag U A ab ab C) aa fun aL aN am=> ?_
 obtain ⟨i1,ar,s1,rfl,aB,aD,aH,V,ah,ac⟩:=am
 refine p mv<|p (xt aa aa)<|p (xt aa aa)<|p aA<|ay<|I<|az fun J=>rg aa<|ao (.slice c n cp)<|p mv<|ao (aj k)<|ao (aU a)<|e<|cl vV (ym d ar k s1 lo hi a B n cp c _ ah V A ab ab C) aa fun v24 aP an=> ?_
 obtain ⟨av,aK,s2,rfl,aE,aF,aI,Y,ai,ad⟩:=an
 refine p mv<|p (xt aa aa)<|p (xt aa aa)<|p aA<|ay<|J<|az fun M=>rg aa<|ao (.slice c n cp)<|p mv<|p mv<|ao (aU a)<|e<|cl vV (ym d i1 av s2 lo hi a B n cp c _ ai Y A ab ab C) aa fun aM aQ ap=> ?_
 obtain ⟨i3,aw,ax,rfl,aC,aq,aJ,Z,al,ae⟩:=ap
 exact p mv<|p (xt aa aa)<|p (xt aa aa)<|p aA<|ay<|M<|az fun O=>rg aa<|p mv<|ay<|O<|rt<|a6 aa<|⟨aw,ax,aa,aq,ab,Z,al,Md.trans ac<|Md.trans ad ae⟩
theorem xX (d:Array Nat) (i s lo hi a:Nat) (B n cp:Nat) (c:Option Addr) (w:World) (I:w.ownsRow B 51 1 (.slice c n cp) n (LE aO d)) (G:bA w.heap a [aj s]) (M:(bz c n cp).ownBlock≠some a) (U:lo+1≤i∧i+1 < hi∧hi≤n) (hs:s≤900) (O:n≤1099511627776):
 ba au 300 (aY [.slice c n cp,aj i,aU a]) w (fun v w'=> ∃ A s1:Nat,v=aj A∧(lo≤A∧A < hi)∧s1≤s+3∧bA w'.heap a [aj s1]∧w'.ownsRow B 51 1 (.slice c n cp) n (LE aO d)∧Md (fun q=>q=a) w w'):=by
 exact enter func300 aa ntmps300 aa<|ak fun C=>ay<|C<|ak fun E=>ao (.slice c n cp)<|ao (aj i)<|p (cU ((i - 1:Nat):Int) aa aa<|bd ab ab)<|ao (aj i)<|ao (aj i)<|p (bG ((i+1:Nat):Int) aa aa<|bd ab ab)<|ao (aU a)<|e<|cl AH (C8 d (i - 1) i (i+1) s lo hi a B n cp c _ I G M ab ab O) aa fun V Y J=>p aA<|nl<|E<|rt<|a6 aa<|J
theorem I2 (d:Array Nat) (a b:Nat) (B n cp:Nat) (c:Option Addr) (w:World) (am:w.ownsRow B 51 1 (.slice c n cp) n (LE aO d)) (bo:a+12 < b∧b≤n) (J:n≤1099511627776):
 ba au 286 (aY [.slice c n cp,aj a,aj b]) w (fun v w'=> ∃ (ah:Nat) (bj:Int),v= .tuple #[aj ah,.int .i64 bj]∧(a≤ah∧ah < b)∧w'.ownsRow B 51 1 (.slice c n cp) n (LE aO d)∧Wk w w'):=by
 refine enter func286 aa ntmps286 aa<|ak fun ap=>p aA<|ay<|ap<|ak fun aq=>ao (aj b)<|ao (aj a)<|p (cU ((b - a:Nat):Int) aa aa<|bd ab ab)<|ay<|aq<|ak fun ar=>e<|al RW fun q bK bp ac ai=> ?_
 have an:=aV am ac.md
 have I:(bz c n cp).ownBlock≠some q:=fun h=>by have :=dd am h; omega
 refine nl<|ar<|ak fun av=>ao (aj a)<|p mv<|p (nM (((b - a) / 4:Nat):Int) aa aa ab<|bd ab ab)<|p (oI (((b - a) / 4:Nat):Int) aa aa<|bd ab ab)<|p (bG ((a+(b - a) / 4:Nat):Int) aa aa<|bd ab ab)<|ay<|av<|ak fun aw=>ao (aj a)<|p mv<|p (nM (((b - a) / 4:Nat):Int) aa aa ab<|bd ab ab)<|p (oI (((b - a) / 4 *2:Nat):Int) aa aa<|bd ab ab)<|p (bG ((a+(b - a) / 4 *2:Nat):Int) aa aa<|bd ab ab)<|ay<|aw<|ak fun ax=>ao (aj a)<|p mv<|p (nM (((b - a) / 4:Nat):Int) aa aa ab<|bd ab ab)<|p (oI (((b - a) / 4 *3:Nat):Int) aa aa<|bd ab ab)<|p (bG ((a+(b - a) / 4 *3:Nat):Int) aa aa<|bd ab ab)<|ay<|ax ?_
 refine az fun aC=>ak fun aD=>p mv<|p (ge aa aa)<|nl<|aD<|cd aa (fun bq=> ?_) fun h=>absurd ab h
 refine ep (fun i O=> ∃ (A C E M:Nat),(a≤A∧A < b)∧(a≤C∧C < b)∧(a≤E∧E < b)∧(M≤9)∧(bA O.heap q [aj M])∧(O.ownsRow B 51 1 (.slice c n cp) n<|LE aO d)∧(Wk w O)∧(i 0= .slice c n cp)∧(i 1=aj a)∧(i 2=aj b)∧(i 8=aj (b - a))∧(i 9=aU q)∧(i 10=aj A)∧(i 11=aj C)∧(i 12=aj E)) ?_ ?_
 refine ak fun Y=>p mv<|p (ge aa aa)<|nl<|Y<|cd aa (fun a2=> ?_) fun a2=> ?_
 refine ak fun U=>ao (.slice c n cp)<|p mv<|e<|cl vU (xX d (a+(b - a) / 4) 0 a b q B n cp c _ an ai I ab ab J) aa fun v37 bH aX=> ?_
 obtain ⟨i1,s1,rfl,a5,bv,aE,aR,aL⟩:=aX
 refine ay<|U<|ak fun G=>ao (.slice c n cp)<|p mv<|e<|cl vU (xX d (a+(b - a) / 4 *2) s1 a b q B n cp c _ aR aE I ab ab J) aa fun v40 bI aZ=> ?_
 obtain ⟨bk,s2,rfl,a6,bw,aF,aS,aN⟩:=aZ
 refine ay<|G<|rg aa<|ao (.slice c n cp)<|p mv<|e<|cl vU (xX d (a+(b - a) / 4 *3) s2 a b q B n cp c _ aS aF I ab ab J) aa fun bE bJ a0=> ?_
 obtain ⟨bl,bm,rfl,a7,bx,aG,aT,aP⟩:=a0
 exact p aA<|nl<|tn<|⟨i1,bk,bl,bm,a5,a6,a7,ab,aG,aT,(Md.trans' ac.md (Md.trans aL<|Md.trans aN aP) fun k hk h=>by omega),aa,aa,aa,aa,aa,aa,aa,aa⟩
 exact aM<|tn<|⟨a+(b - a) / 4,a+(b - a) / 4 *2,a+(b - a) / 4 *3,0,ab,ab,ab,ab,ai,an,ac.md,aa,aa,aa,aa,aa,aa,aa,aa⟩
 rintro i O ⟨A,C,E,M,bs,bt,bu,bC,aJ,aW,aK,a8,a9,bg,bh,bi,bb,bc,bf⟩
 refine fx 0 a8<|fx 1 a9<|fx 2 bg<|fx 8 bh<|fx 9 bi<|fx 10 bb<|fx 11 bc<|fx 12 bf<|rg aa<|ao (.slice c n cp)<|ao (aj A)<|ao (aj C)<|ao (aj E)<|e<|cl AH (C8 d A C E M a b q B n cp c _ aW aJ I ab ab J) aa fun bF bn a1=> ?_
 obtain ⟨ag,bD,rfl,ae,bB,aI,ad,aQ⟩:=a1
 have Z:Wk w bn:=Md.trans' aK aQ fun k hk h=>by omega
 refine ay<|aC<|ak fun Y=>p (ld bW aa<|aI.aH 0)<|nl<|Y<|aB<|ak fun U=>p (bS aa aa)<|ay<|U<|cd aa (fun a3=> ?_) fun a3=> ?_
 exact ak fun G=>p mv<|p aA<|ay<|G<|rt<|br<|f2 aa aa aa<|⟨ag,_,aa,ae,ad,Z⟩
 refine ak fun G=>p (bS aa aa)<|ay<|G<|cd aa (fun a4=> ?_) fun a4=> ?_
 exact ak fun V=>p mv<|p aA<|ay<|V<|rt<|br<|f2 aa aa aa<|⟨ag,_,aa,ae,ad,Z⟩
 exact ak fun V=>p mv<|p aA<|ay<|V<|rt<|br<|f2 aa aa aa<|⟨ag,_,aa,ae,ad,Z⟩
theorem Ot (a:Nat) (r:Int) (w:World) (G:bA w.heap a [.int .u64 r]):
 ba au 228 (aY [aU a]) w (fun v w'=> ∃ E:Int,v= .int .u64 E∧0≤E∧E < 18446744073709551616∧bA w'.heap a [.int .u64 E]∧Md (fun q=>q=a) w w'):=by
 refine enter func228 aa ntmps228 aa<|ak fun V=>ay<|V<|az fun Y=> ?_
 have i:(fun w'=>Wk w w') w.drew:=(Md.refl _ _).drew
 refine ei (fun w'=>Wk w w') 9 aa wide i<|lq 0 aa ag (fun _ _=>aG (aU a) aa) i<|lq 1 aa ag (fun _ _=>nc aa) i<|lq 2 aa ag (fun w' c=>ld og aa<|Wk.aH c<|G.aH 0) i<|lq 3 aa ag (fun _ _=>aG (aU a) aa) i<|lq 4 aa ag (fun _ _=>nc aa) i<|lq 5 aa ag (fun w' c=>ld og aa<|Wk.aH c<|G.aH 0) i<|lq 6 aa ag (fun _ _=>shl aa aa aw aa) i<|lq 7 aa ag (fun _ _=>vD aa aa aa) i<|lq 8 aa ag (fun _ _=>nc aa) i<|cQ 9 aa ag ag<|st td aa aa (aa) (i.B G) (by simp) fun M ad I=>eh ag<|Y<|az fun Z=> ?_
 have A:(fun w'=>Wk M w') M.drew:=(Md.refl _ _).drew
 refine ei (fun w'=>Wk M w') 9 aa wide A<|lq 0 aa ag (fun _ _=>aG (aU a) aa) A<|lq 1 aa ag (fun _ _=>nc aa) A<|lq 2 aa ag (fun w' c=>ld og aa<|Wk.aH c<|I.aH 0) A<|lq 3 aa ag (fun _ _=>aG (aU a) aa) A<|lq 4 aa ag (fun _ _=>nc aa) A<|lq 5 aa ag (fun w' c=>ld og aa<|Wk.aH c<|I.aH 0) A<|lq 6 aa ag (fun _ _=>shr aa aa aw aa) A<|lq 7 aa ag (fun _ _=>vD aa aa aa) A<|lq 8 aa ag (fun _ _=>nc aa) A<|cQ 9 aa ag ag<|st td aa aa (aa) (A.B I) (by simp) fun O ae J=>eh ag<|Z<|az fun ab=> ?_
 have C:(fun w'=>Wk O w') O.drew:=(Md.refl _ _).drew
 refine ei (fun w'=>Wk O w') 9 aa wide C<|lq 0 aa ag (fun _ _=>aG (aU a) aa) C<|lq 1 aa ag (fun _ _=>nc aa) C<|lq 2 aa ag (fun w' c=>ld og aa<|Wk.aH c<|J.aH 0) C<|lq 3 aa ag (fun _ _=>aG (aU a) aa) C<|lq 4 aa ag (fun _ _=>nc aa) C<|lq 5 aa ag (fun w' c=>ld og aa<|Wk.aH c<|J.aH 0) C<|lq 6 aa ag (fun _ _=>shl aa aa aw aa) C<|lq 7 aa ag (fun _ _=>vD aa aa aa) C<|lq 8 aa ag (fun _ _=>nc aa) C<|cQ 9 aa ag ag<|st td aa aa (aa) (C.B J) (by simp) fun ai ah U=>eh ag<|ab<|ak fun ac=>ao (aU a)<|p (nc aa)<|p (ld og aa<|U.aH 0)<|p aA<|nl ?_
 refine ac<|rt<|a6 aa ?_
 refine ⟨_,aa,(EC _).1,(EC _).2,U,?_⟩
 exact Md.trans (Md.refl _ _).drew<|Md.trans ad<|Md.trans (Md.refl _ _).drew<|Md.trans ae<|Md.trans (Md.refl _ _).drew ah
theorem NH (n:Nat) (w:World) (hn:n < 256):
 ba au 169 (aY [.int .u64 (n:Nat)]) w (fun v w'=>v=aj (jc n)∧Wk w w'):=by
 have O:=tN hn
 refine enter func169 aa ntmps169 aa<|ak fun a=>ay<|a<|az fun c=>ak fun i=>ao (.int .u64 (n:Nat))<|p (ge aa aa)<|nl<|i<|cd aa (fun h=>absurd h ab) fun J=>aM<|c<|az fun q=>ak fun A=>ao (.int .u64 (n:Nat))<|p (ge aa aa)<|nl<|A<|cd aa (fun h=>absurd h ab) fun M=> ?_
 refine aM<|q<|az fun C=>ak fun E=>ao (.int .u64 (n:Nat))<|p (ge aa aa)<|nl<|E<|cd aa (fun h=>absurd h ab) fun I=> ?_
 exact aM<|C<|ak fun G=>ao (.int .i64 0)<|ao (.int .u64 (n:Nat))<|p (wo u5 Rf aa<|yV ab)<|p (ja u9 aa aa (by have :n < 256:=hn; simpa using this))<|p (l5 u3 r6 aa<|Rb hn<|by decide+kernel)<|p (bG ((jc n:Nat):Int) aa aa<|bd ab ab)<|ay<|G<|rt<|a6 aa<|⟨aa,Md.refl _ _⟩
theorem CV (n:Nat) (w:World) (hn:n < 256):
 ba au 111 (aY [.int .u64 (n:Nat)]) w (fun v w'=>v=aj (jc n)∧Wk w w'):=by
 refine enter func111 aa ntmps111 aa<|ak fun a=>ay<|a<|az fun c=>cf aa<|aM<|c<|ak fun i=>ao (.int .u64 (n:Nat))<|e<|cl HP (NH n _ hn) aa fun A C q=>ay<|i ?_
 exact rt<|a6 aa<|q
theorem Ou (n:Nat) (w:World) (hn:n < 256):
 ba au 227 (aY [aj n]) w (fun v w'=>v= .int .u64 (2 ^ jc n:Nat)∧Wk w w'):=by
 refine enter func227 aa ntmps227 aa<|ak fun a=>ay<|a<|ak fun c=>ao (aj n)<|p (l5 Ez qe aa<|mr ab)<|e<|cl Af (CV n _ hn) aa fun v5 C q=> ?_
 obtain ⟨rfl,i⟩:=q
 have A:=tN hn
 exact p (shl aa aa ab<|P5 A)<|ay<|c<|rt<|a6 aa<|⟨aa,i⟩
theorem Hp (d:Array Nat) (a b:Nat) (B n cp:Nat) (A:Option Addr) (w:World) (ar:w.ownsRow B 51 1 (.slice A n cp) n (LE aO d)) (bu:a+12 < b∧b≤n) (bF:n≤255):
 ba au 285 (aY [.slice A n cp,aj a,aj b]) w (fun v w'=> ∃ d1,v= .tuple #[]∧lO a b d d1∧w'.ownsRow B 51 1 (.slice A n cp) n (LE aO d1)∧Md (fun q=>(bz A n cp).ownBlock=some q) w w'):=by
 refine enter func285 aa ntmps285 aa<|ak fun aw=>ao (aj b)<|ao (aj a)<|p (cU ((b - a:Nat):Int) aa aa<|bd ab ab)<|ay<|aw<|ak fun aD=>p mv<|p (ge aa aa)<|nl<|aD<|cd aa (fun bw=> ?_) fun h=>absurd ab h
 refine ak fun aE=>p mv<|p (l5 Q8 qe aa<|mr ab)<|e<|al RX fun U bT bv a1 aP=>e<|st td aa aa (aa) (aP) (by simp) fun bt aS aN=> ?_
 have ap:Wk w bt:=Md.trans' a1.md aS fun k hk h=>by omega
 refine nl<|aE<|ak fun aF=>p mv<|e<|cl HZ (Ou (b - a) _ ab) aa fun bO bQ a2=> ?_
 obtain ⟨rfl,ad⟩:=a2
 have bD:=NI (n:=b - a) ab ab
 refine ay<|aF<|ak fun aG=>ao (aj a)<|p mv<|p (nM (((b - a) / 4:Nat):Int) aa aa ab<|bd ab ab)<|p (oI (((b - a) / 4 *2:Nat):Int) aa aa<|bd ab ab)<|p (bG ((a+(b - a) / 4 *2:Nat):Int) aa aa<|bd ab ab)<|p (cU ((a+(b - a) / 4 *2 - 1:Nat):Int) aa aa<|bd ab ab)<|ay<|aG<|aB ?_
 have Y:(bz A n cp).ownBlock≠some U:=fun h=>by have :=dd ar h; omega
 refine lp (fun am O ac=> ∃ (C:Nat) (r:Int) (G:Array Nat),(a+(b - a) / 4 *2 - 1≤C∧C≤a+(b - a) / 4 *2 +2)∧(lO a b d G)∧(bA ac.heap U [.int .u64 r])∧(ac.ownsRow B 51 1 (.slice A n cp) n<|LE aO G)∧(Md (fun q=>(bz A n cp).ownBlock=some q) w ac)∧(O 0= .slice A n cp)∧(O 1=aj a)∧(O 6=aj (b - a))∧(O 7=aU U)∧(O 8= .int .u64 (2 ^ jc (b - a):Nat))∧(O 9=aj C)∧(a+(b - a) / 4 *2 +3 - C=am)) _ ⟨a+(b - a) / 4 *2 - 1,(b - a:Nat),d,ab,(FK d a b),(ad.B aN),(aV (aV ar ap) ad),((Md.trans ap ad).mono fun _ _ h=>h.elim),aa,aa,aa,aa,aa,aa,aa⟩ ?_
 rintro am O ac ⟨C,r,G,bC,aI,aR,ah,ae,a9,bb,bf,bh,bi,bj,rfl⟩
 refine fx 0 a9<|fx 1 bb<|fx 6 bf<|fx 7 bh<|fx 8 bi<|fx 9 bj<|az fun aH=>ak fun aJ=>ao (aj C)<|ao (aj a)<|ao (aj<|b - a)<|p (nM (((b - a) / 4:Nat):Int) aa aa ab<|bd ab ab)<|p (oI (((b - a) / 4 *2:Nat):Int) aa aa<|bd ab ab)<|p (bG ((a+(b - a) / 4 *2:Nat):Int) aa aa<|bd ab ab)<|p (bG ((a+(b - a) / 4 *2 +1:Nat):Int) aa aa<|bd ab ab)<|p (le aa aa)<|nl<|aJ<|cd aa (fun a4=> ?_) fun a4=> ?_
 refine aM<|aH<|az fun aK=>aB<|ak fun aL=>e<|cl H0 (Ot U r _ aR) aa fun bP bS a3=> ?_
 obtain ⟨ai,rfl,bL,bN,an,Z⟩:=a3
 obtain ⟨o,bI,a8⟩:=G1 ai (2 ^ jc (b - a)) ab
 have bH:=Y
 refine ao (.int .u64 (2 ^ jc (b - a):Nat))<|p (sb aa aa<|mr ab)<|p (dW aa aa a8)<|p (wo u3 Rg aa<|bR ab)<|ay<|aL ?_
 refine ep (fun M J=> ∃ (E:Nat),(E < b - a)∧(bA J.heap U [.int .u64 ai])∧(J.ownsRow B 51 1 (.slice A n cp) n<|LE aO G)∧(Md (fun q=>(bz A n cp).ownBlock=some q) w J)∧(M 0= .slice A n cp)∧(M 1=aj a)∧(M 6=aj (b - a))∧(M 7=aU U)∧(M 8= .int .u64 (2 ^ jc (b - a):Nat))∧(M 9=aj C)∧(M 10=aj E)) ?_ ?_
 refine ak fun ax=>p mv<|ao (aj<|b - a)<|p (ge aa aa)<|nl<|ax<|cd aa (fun a5=> ?_) fun a5=> ?_
 exact rg aa<|p mv<|ao (aj<|b - a)<|p (cU ((o - (b - a):Nat):Int) aa aa<|bd ab ab)<|p aA<|nl<|tn<|⟨o - (b - a),ab,an,(bZ ah Z fun k hk h=>Y<|h ▸ hk),(Md.trans' ae Z fun k hk h=>by omega),aa,aa,aa,aa,aa,aa,aa⟩
 exact aM<|tn<|⟨o,ab,an,(bZ ah Z fun k hk h=>Y<|h ▸ hk),(Md.trans' ae Z fun k hk h=>by omega),aa,aa,aa,aa,aa,aa,aa⟩
 rintro M J ⟨E,bK,aQ,I,a0,bk,bl,bo,bq,br,bs,bm⟩
 refine fx 0 bk<|fx 1 bl<|fx 6 bo<|fx 7 bq<|fx 8 br<|fx 9 bs<|fx 10 bm ?_
 have bx:=ea I
 have c:(fun w'=>Wk J w') J.drew:=(Md.refl _ _).drew
 refine ei (fun w'=>Wk J w') 17 aa wide c<|bg 0 aa (.slice A n cp) c<|bg 1 aa (aj C) c<|bg 2 aa (.slice A n cp) c<|bg 3 aa (aj a) c<|bg 4 aa (aj E) c<|bp 5 aa (fun _=>bG ((a+E:Nat):Int) aa aa<|bd ab ab) (fun _=>c)<|bg 6 aa (.slice A n cp) c<|bg 7 aa (aj a) c<|bg 8 aa (aj E) c<|bp 9 aa (fun _=>bG ((a+E:Nat):Int) aa aa<|bd ab ab) (fun _=>c)<|bp 10 aa (fun _=>aW bB aa aa ab<|aC.ok ((aT I).2)<|bE ab) (fun _=>c)<|dM 11 aa (fun w' V=>ld bM aa<|ca (i:=a+E) ((aT I).2.wk V) ab) c<|bg 12 aa (.slice A n cp) c<|bg 13 aa (aj C) c<|bp 14 aa (fun _=>aW bB aa aa ab<|aC.ok ((aT I).2)<|bE ab) (fun _=>c)<|dM 15 aa (fun w' V=>ld bM aa<|ca (i:=C) ((aT I).2.wk V) ab) c<|bp 16 aa (fun _=>aW bB aa aa ab<|aC.ok ((aT I).2)<|bE ab) (fun _=>c)<|cQ 17 aa ag ag<|eE (u:=G[a+E]!) (C) (aV I c) eu aa aa aa ab fun bU aX a6=> ?_
 refine bp 18 aa (fun _=>aW bB aa aa ab<|aC.ok ((aT I).2)<|bE ab) (fun h=>c8<|(show true =_ from by kernel_rfl).trans h)<|cQ 19 aa ag ag<|eE (u:=G[C]!) (a+E) a6 eu aa aa aa ab fun av aZ a7=> ?_
 have V:av.ownsRow B 51 1 (.slice A n cp) n (LE aO<|bJ G (C)<|a+E):=a7
 have aq:Md (fun q=>(bz A n cp).ownBlock=some q) J av:=Md.trans (c.mono fun _ _ h=>h.elim)<|Md.trans aX aZ
 exact eh ag<|bn<|aK<|rg aa<|ao (aj C)<|p (bG ((C+1:Nat):Int) aa aa<|bd ab ab)<|p aA<|nl<|tn<|⟨_,ab,C+1,ai,bJ G C (a+E),ab,(O0 aI ab ab ab aa),(aq.B aQ fun h=>Y h),V,(Md.trans a0 aq),aa,aa,aa,aa,aa,aa,aa⟩
 exact ext<|bc<|bc<|be<|f0 aa<|⟨G,aa,aI,ah,ae⟩
theorem OT {d:Array Nat} {a b c i j:Nat} (h1:lQ (fun x=>bC x (bJ d a c)[a]!) (bJ d a c) (b - 1) (a+1)=i) (h2:lP (fun x=> !bC x (bJ d a c)[a]!) (bJ d a c) i (b - 1)=j) (h:i > j):
 n4 bC d a b c=(j,true,bJ (bJ d a c) j a):=by
 unfold n4; simp only [h1,h2,if_pos h]
theorem part_go {d:Array Nat} {a b c i j q:Nat} {A:Array Nat} (h1:lQ (fun x=>bC x (bJ d a c)[a]!) (bJ d a c) (b - 1) (a+1)=i) (h2:lP (fun x=> !bC x (bJ d a c)[a]!) (bJ d a c) i (b - 1)=j) (h:¬i > j)
 (h3:zl bC a (i+1) (j - 1) (bJ (bJ d a c) i j)=(q,A)):
 n4 bC d a b c=(q,false,bJ A q a):=by
 unfold n4; simp only [h1,h2,if_neg h,h3]
theorem OU (d:Array Nat) (a b A:Nat) (B n cp:Nat) (c:Option Addr) (w:World) (ax:w.ownsRow B 51 1 (.slice c n cp) n (LE aO d)) (dx:a≤A∧A < b∧b≤n) (dB:n≤1099511627776):
 ba au 291 (aY [.slice c n cp,aj a,aj b,aj A]) w (fun v w'=>v= .tuple #[aj ((n4 bC d a b A).1),.bool (n4 bC d a b A).2.1]∧w'.ownsRow B 51 1 (.slice c n cp) n (LE aO (n4 bC d a b A).2.2)∧Md (fun q=>(bz c n cp).ownBlock=some q) w w'):=by
 refine enter func291 aa ntmps291 aa<|ak fun bT=>p aA<|ay<|bT<|az fun bU=> ?_
 have dy:=ea ax
 have ad:(fun w'=>Wk w w') w.drew:=(Md.refl _ _).drew
 refine ei (fun w'=>Wk w w') 13 aa wide ad<|bg 0 aa (.slice c n cp) ad<|bg 1 aa (aj a) ad<|bg 2 aa (.slice c n cp) ad<|bg 3 aa (aj A) ad<|bg 4 aa (.slice c n cp) ad<|bg 5 aa (aj A) ad<|bp 6 aa (fun _=>aW bB aa aa ab<|aC.ok ((aT ax).2)<|bE ab) (fun _=>ad)<|dM 7 aa (fun w' E=>ld bM aa<|ca (i:=A) ((aT ax).2.wk E) ab) ad<|bg 8 aa (.slice c n cp) ad<|bg 9 aa (aj a) ad<|bp 10 aa (fun _=>aW bB aa aa ab<|aC.ok ((aT ax).2)<|bE ab) (fun _=>ad)<|dM 11 aa (fun w' E=>ld bM aa<|ca (i:=a) ((aT ax).2.wk E) ab) ad<|bp 12 aa (fun _=>aW bB aa aa ab<|aC.ok ((aT ax).2)<|bE ab) (fun _=>ad)<|cQ 13 aa ag ag<|eE (u:=d[A]!) (a) (aV ax ad) eu aa aa aa ab fun dF b5 cF=> ?_
 refine bp 14 aa (fun _=>aW bB aa aa ab<|aC.ok ((aT ax).2)<|bE ab) (fun h=>c8<|(show true =_ from by kernel_rfl).trans h)<|cQ 15 aa ag ag<|eE (u:=d[a]!) (A) cF eu aa aa aa ab fun bO b6 cG=> ?_
 have cq:bO.ownsRow B 51 1 (.slice c n cp) n (LE aO<|bJ d (a)<|A):=cG
 have b4:Md (fun q=>(bz c n cp).ownBlock=some q) w bO:=Md.trans (ad.mono fun _ _ h=>h.elim)<|Md.trans b5 b6
 refine eh ag<|bU<|ak fun bV=>ao (aj a)<|p (bG ((a+1:Nat):Int) aa aa<|bd ab ab)<|ao (aj b)<|p (cU ((b - 1:Nat):Int) aa aa<|bd ab ab)<|p aA ?_
 refine ay<|bV ?_
 refine ep (fun a0 bt=> ∃ (J:Nat),(a+1≤J∧(J=a+1∨J≤b - 1 +1))∧(lQ (fun x=>bC x (bJ d a A)[a]!) (bJ d a A) (b - 1) (a+1)=J)∧(bt.ownsRow B 51 1 (.slice c n cp) n<|LE aO<|bJ d a A)∧(Md (fun q=>(bz c n cp).ownBlock=some q) w bt)∧(a0 0= .slice c n cp)∧(a0 1=aj a)∧(a0 10=aj J)∧(a0 11=aj (b - 1))) ?_ ?_
 refine aB<|lp (fun ap a1 aK=> ∃ (q:Nat),(a+1≤q∧(q=a+1∨q≤b - 1 +1))∧(lQ (fun x=>bC x (bJ d a A)[a]!) (bJ d a A) (b - 1) (q)=lQ (fun x=>bC x (bJ d a A)[a]!) (bJ d a A) (b - 1) (a+1))∧(aK.ownsRow B 51 1 (.slice c n cp) n<|LE aO<|bJ d a A)∧(Md (fun q=>(bz c n cp).ownBlock=some q) w aK)∧(a1 0= .slice c n cp)∧(a1 1=aj a)∧(a1 10=aj q)∧(a1 11=aj (b - 1))∧(b - 1 +1 - q=ap)) _ ⟨a+1,ab,aa,cq,b4,aa,aa,aa,aa,aa⟩ ?_
 rintro ap a1 aK ⟨q,aq,an,C,am,cV,cW,cX,cY,rfl⟩
 refine fx 0 cV<|fx 1 cW<|fx 10 cX<|fx 11 cY<|az fun aU=>az fun aE=> ?_
 have aJ:=ea C
 have Y:(fun w'=>Wk aK w') aK.drew:=(Md.refl _ _).drew
 refine bK (fun w'=>Wk aK w') aa wide Y<|bH 0 aa (aj q) Y<|bH 1 aa (aj<|b - 1) Y<|aI 2 aa (fun _ _=>le aa aa) Y<|aI 3 aa (fun _ _=>mv) Y<|js (t:=33) aa (fun cD=> ?_) fun cD=> ?_
 refine bh 4 aa (fun _ _=>aG (.slice c n cp) aa) Y<|bh 5 aa (fun _ _=>aG (aj q) aa) Y<|bh 6 aa (fun _ _=>aW bB aa aa ab<|aC.ok ((aT C).2)<|bE ab) Y<|bh 7 aa (fun w' E=>ld bM aa<|ca (i:=q) ((aT C).2.wk E) ab) Y<|bh 8 aa (fun _ _=>aG (.slice c n cp) aa) Y<|bh 9 aa (fun _ _=>aG (aj a) aa) Y<|bh 10 aa (fun _ _=>aW bB aa aa ab<|aC.ok ((aT C).2)<|bE ab) Y<|bh 11 aa (fun w' E=>ld bM aa<|ca (i:=a) ((aT C).2.wk E) ab) Y<|ku 12 aa ag aa aa aa<|cl jZ (j5 (bJ d a A)[q]! (bJ d a A)[a]! _) aa fun dD dv cx=> ?_
 obtain ⟨rfl,b1⟩:=cx
 have aR:(fun w'=>Wk aK w') dv:=Md.trans Y b1
 refine ⟨aR,?_⟩
 refine aI 13 aa (fun _ _=>bI aa) aR<|hn ag<|aE<|cb aa (fun bq=> ?_) fun bq=> ?_
 exact aM<|aU<|aB<|rg aa<|ao (aj q)<|p (bG ((q+1:Nat):Int) aa aa<|bd ab ab)<|p aA<|nl<|bn<|tn<|⟨_,ab,q+1,ab,(by rw [← an,yQ (show q≤b - 1 by omega) (by simpa using bq)]),(aV C aR),(Md.trans am<|aR.mono fun _ _ h=>h.elim),aa,aa,aa,aa,aa⟩
 exact ext<|bc<|bc<|be<|tn<|⟨q,aq,(by rw [← an,qc (.inr<|by simpa using bq)]),(aV C aR),(Md.trans am<|aR.mono fun _ _ h=>h.elim),aa,aa,aa,aa⟩
 exact a7 4 aa Y<|a7 5 aa Y<|a7 6 aa Y<|a7 7 aa Y<|a7 8 aa Y<|a7 9 aa Y<|a7 10 aa Y<|a7 11 aa Y<|a7 12 aa Y<|aI 13 aa (fun _ _=>bD aa) Y<|hn ag<|aE<|cf aa<|ext<|bc<|bc<|be<|tn<|⟨q,aq,(by rw [← an,qc (.inl ab)]),(aV C (Md.refl _ _).drew),am.drew,aa,aa,aa,aa⟩
 rintro a0 bt ⟨J,dz,bL,bl,bk,cP,cR,cS,cT⟩
 refine fx 0 cP<|fx 1 cR<|fx 10 cS<|fx 11 cT ?_
 refine ep (fun a2 ar=> ∃ (M:Nat),(a≤M∧M≤b - 1)∧(lP (fun x=> !bC x (bJ d a A)[a]!) (bJ d a A) (J) (b - 1)=M)∧(ar.ownsRow B 51 1 (.slice c n cp) n<|LE aO<|bJ d a A)∧(Md (fun q=>(bz c n cp).ownBlock=some q) w ar)∧(a2 0= .slice c n cp)∧(a2 1=aj a)∧(a2 10=aj J)∧(a2 11=aj M)) ?_ ?_
 refine aB<|lp (fun ap a3 aN=> ∃ (q:Nat),(a≤q∧q≤b - 1)∧(lP (fun x=> !bC x (bJ d a A)[a]!) (bJ d a A) (J) (q)=lP (fun x=> !bC x (bJ d a A)[a]!) (bJ d a A) (J) (b - 1))∧(aN.ownsRow B 51 1 (.slice c n cp) n<|LE aO<|bJ d a A)∧(Md (fun q=>(bz c n cp).ownBlock=some q) w aN)∧(a3 0= .slice c n cp)∧(a3 1=aj a)∧(a3 10=aj J)∧(a3 11=aj q)∧(q=ap)) _ ⟨b - 1,ab,aa,bl,bk,aa,aa,aa,aa,aa⟩ ?_
 rintro ap a3 aN ⟨q,aq,an,C,am,c3,c4,c5,c6,rfl⟩
 refine fx 0 c3<|fx 1 c4<|fx 10 c5<|fx 11 c6<|az fun aU=>az fun aE=> ?_
 have aJ:=ea C
 have U:(fun w'=>Wk aN w') aN.drew:=(Md.refl _ _).drew
 refine bK (fun w'=>Wk aN w') aa wide U<|bH 0 aa (aj J) U<|bH 1 aa (aj q) U<|aI 2 aa (fun _ _=>le aa aa) U<|aI 3 aa (fun _ _=>mv) U<|js (t:=49) aa (fun cE=> ?_) fun cE=> ?_
 refine bh 4 aa (fun _ _=>aG (.slice c n cp) aa) U<|bh 5 aa (fun _ _=>aG (aj q) aa) U<|bh 6 aa (fun _ _=>aW bB aa aa ab<|aC.ok ((aT C).2)<|bE ab) U<|bh 7 aa (fun w' E=>ld bM aa<|ca (i:=q) ((aT C).2.wk E) ab) U<|bh 8 aa (fun _ _=>aG (.slice c n cp) aa) U<|bh 9 aa (fun _ _=>aG (aj a) aa) U<|bh 10 aa (fun _ _=>aW bB aa aa ab<|aC.ok ((aT C).2)<|bE ab) U<|bh 11 aa (fun w' E=>ld bM aa<|ca (i:=a) ((aT C).2.wk E) ab) U<|ku 12 aa ag aa aa aa<|cl jZ (j5 (bJ d a A)[q]! (bJ d a A)[a]! _) aa fun dE dw cy=> ?_
 obtain ⟨rfl,b2⟩:=cy
 have aH:(fun w'=>Wk aN w') dw:=Md.trans U b2
 refine ⟨aH,?_⟩
 refine bh 13 aa (fun _ _=>no aa) aH<|aI 14 aa (fun _ _=>bI aa) aH<|hn ag<|aE<|cb aa (fun br=> ?_) fun br=> ?_
 exact aM<|aU<|aB<|rg aa<|ao (aj q)<|p (cU ((q - 1:Nat):Int) aa aa<|bd ab ab)<|p aA<|nl<|bn<|tn<|⟨_,ab,q - 1,ab,(by rw [← an,wy (show 0 < q by omega) (show J≤q by omega) (by simpa using br)]),(aV C aH),(Md.trans am<|aH.mono fun _ _ h=>h.elim),aa,aa,aa,aa,aa⟩
 exact ext<|bc<|bc<|be<|tn<|⟨q,aq,(by rw [← an,pF (.inr<|by simpa using br)]),(aV C aH),(Md.trans am<|aH.mono fun _ _ h=>h.elim),aa,aa,aa,aa⟩
 exact a7 4 aa U<|a7 5 aa U<|a7 6 aa U<|a7 7 aa U<|a7 8 aa U<|a7 9 aa U<|a7 10 aa U<|a7 11 aa U<|a7 12 aa U<|a7 13 aa U<|aI 14 aa (fun _ _=>bD aa) U<|hn ag<|aE<|cf aa<|ext<|bc<|bc<|be<|tn<|⟨q,aq,(by rw [← an,pF (.inl ab)]),(aV C (Md.refl _ _).drew),am.drew,aa,aa,aa,aa⟩
 rintro a2 ar ⟨M,dA,bv,G,aX,cZ,c0,c1,c2⟩
 refine fx 0 cZ<|fx 1 c0<|fx 10 c1<|fx 11 c2<|az fun aU=>ak fun aE=>ao (aj J)<|ao (aj M)<|p (gt aa aa)<|nl<|aE<|cd aa (fun cA=> ?_) fun cA=> ?_
 refine az fun bi=> ?_
 have aJ:=ea G
 have al:(fun w'=>Wk ar w') ar.drew:=(Md.refl _ _).drew
 refine ei (fun w'=>Wk ar w') 13 aa wide al<|bg 0 aa (.slice c n cp) al<|bg 1 aa (aj M) al<|bg 2 aa (.slice c n cp) al<|bg 3 aa (aj a) al<|bg 4 aa (.slice c n cp) al<|bg 5 aa (aj a) al<|bp 6 aa (fun _=>aW bB aa aa ab<|aC.ok ((aT G).2)<|bE ab) (fun _=>al)<|dM 7 aa (fun w' E=>ld bM aa<|ca (i:=a) ((aT G).2.wk E) ab) al<|bg 8 aa (.slice c n cp) al<|bg 9 aa (aj M) al<|bp 10 aa (fun _=>aW bB aa aa ab<|aC.ok ((aT G).2)<|bE ab) (fun _=>al)<|dM 11 aa (fun w' E=>ld bM aa<|ca (i:=M) ((aT G).2.wk E) ab) al<|bp 12 aa (fun _=>aW bB aa aa ab<|aC.ok ((aT G).2)<|bE ab) (fun _=>al)<|cQ 13 aa ag ag<|eE (u:=(bJ d a A)[a]!) (M) (aV G al) eu aa aa aa ab fun dG b8 cH=> ?_
 refine bp 14 aa (fun _=>aW bB aa aa ab<|aC.ok ((aT G).2)<|bE ab) (fun h=>c8<|(show true =_ from by kernel_rfl).trans h)<|cQ 15 aa ag ag<|eE (u:=(bJ d a A)[M]!) (a) cH eu aa aa aa ab fun bP b9 cI=> ?_
 have cr:bP.ownsRow B 51 1 (.slice c n cp) n (LE aO<|bJ (bJ d a A) (M)<|a):=cI
 have b7:Md (fun q=>(bz c n cp).ownBlock=some q) ar bP:=Md.trans (al.mono fun _ _ h=>h.elim)<|Md.trans b8 b9
 refine eh ag<|bi<|ak fun bj=>ao (aj M)<|p (bY (aj M) aa)<|ay<|bj ?_
 refine rt<|tr<|f2 aa aa aa ?_
 have aZ:=OT bL bv ab
 exact ⟨by rw [aZ]; rfl,by rw [aZ]; exact cr,Md.trans aX b7⟩
 refine aM<|aU<|az fun bi=> ?_
 have aJ:=ea G
 have ae:(fun w'=>Wk ar w') ar.drew:=(Md.refl _ _).drew
 refine ei (fun w'=>Wk ar w') 13 aa wide ae<|bg 0 aa (.slice c n cp) ae<|bg 1 aa (aj J) ae<|bg 2 aa (.slice c n cp) ae<|bg 3 aa (aj M) ae<|bg 4 aa (.slice c n cp) ae<|bg 5 aa (aj M) ae<|bp 6 aa (fun _=>aW bB aa aa ab<|aC.ok ((aT G).2)<|bE ab) (fun _=>ae)<|dM 7 aa (fun w' E=>ld bM aa<|ca (i:=M) ((aT G).2.wk E) ab) ae<|bg 8 aa (.slice c n cp) ae<|bg 9 aa (aj J) ae<|bp 10 aa (fun _=>aW bB aa aa ab<|aC.ok ((aT G).2)<|bE ab) (fun _=>ae)<|dM 11 aa (fun w' E=>ld bM aa<|ca (i:=J) ((aT G).2.wk E) ab) ae<|bp 12 aa (fun _=>aW bB aa aa ab<|aC.ok ((aT G).2)<|bE ab) (fun _=>ae)<|cQ 13 aa ag ag<|eE (u:=(bJ d a A)[M]!) (J) (aV G ae) eu aa aa aa ab fun dH ce cJ=> ?_
 refine bp 14 aa (fun _=>aW bB aa aa ab<|aC.ok ((aT G).2)<|bE ab) (fun h=>c8<|(show true =_ from by kernel_rfl).trans h)<|cQ 15 aa ag ag<|eE (u:=(bJ d a A)[J]!) (M) cJ eu aa aa aa ab fun bQ cg cK=> ?_
 have cs:bQ.ownsRow B 51 1 (.slice c n cp) n (LE aO<|bJ (bJ d a A) (J)<|M):=cK
 have cc:Md (fun q=>(bz c n cp).ownBlock=some q) ar bQ:=Md.trans (ae.mono fun _ _ h=>h.elim)<|Md.trans ce cg
 refine eh ag<|bi<|ak fun bj=>ao (aj J)<|p (bG ((J+1:Nat):Int) aa aa<|bd ab ab)<|ay<|bj ?_
 refine ak fun bW=>ao (aj M)<|p (cU ((M - 1:Nat):Int) aa aa<|bd ab ab)<|ay<|bW<|az fun bX=>aB<|lp (fun ap a4 bs=> ∃ (i j:Nat) (I:Array Nat),(a+2≤i∧i≤b∧a≤j∧j < b∧i≤j+2)∧(zl bC a i j I=zl bC a (J+1) (M - 1) (bJ (bJ d a A) J M))∧(bs.ownsRow B 51 1 (.slice c n cp) n<|LE aO I)∧(Md (fun q=>(bz c n cp).ownBlock=some q) w bs)∧(a4 0= .slice c n cp)∧(a4 1=aj a)∧(a4 10=aj i)∧(a4 11=aj j)∧(j+1 - i=ap)) _ ⟨J+1,M - 1,bJ (bJ d a A) J M,ab,aa,cs,(Md.trans aX cc),aa,aa,aa,aa,aa⟩ ?_
 rintro ap a4 bs ⟨i,j,I,hi,bF,co,b3,c7,c9,da,db,rfl⟩
 refine fx 0 c7<|fx 1 c9<|fx 10 da<|fx 11 db<|aB ?_
 refine ep (fun a5 bu=> ∃ (Z:Nat),(i≤Z∧(Z=i∨Z≤j+1))∧(lQ (fun x=>bC x I[a]!) I (j) (i)=Z)∧(bu.ownsRow B 51 1 (.slice c n cp) n<|LE aO I)∧(Md (fun q=>(bz c n cp).ownBlock=some q) w bu)∧(a5 0= .slice c n cp)∧(a5 1=aj a)∧(a5 10=aj Z)∧(a5 11=aj j)) ?_ ?_
 refine aB<|lp (fun ap a6 aL=> ∃ (q:Nat),(i≤q∧(q=i∨q≤j+1))∧(lQ (fun x=>bC x I[a]!) I (j) (q)=lQ (fun x=>bC x I[a]!) I (j) (i))∧(aL.ownsRow B 51 1 (.slice c n cp) n<|LE aO I)∧(Md (fun q=>(bz c n cp).ownBlock=some q) w aL)∧(a6 0= .slice c n cp)∧(a6 1=aj a)∧(a6 10=aj q)∧(a6 11=aj j)∧(j+1 - q=ap)) _ ⟨i,ab,aa,co,b3,aa,aa,aa,aa,aa⟩ ?_
 rintro ap a6 aL ⟨q,aq,an,C,am,dg,dh,di,dj,rfl⟩
 refine fx 0 dg<|fx 1 dh<|fx 10 di<|fx 11 dj<|az fun aS=>az fun aD=> ?_
 have aJ:=ea C
 have V:(fun w'=>Wk aL w') aL.drew:=(Md.refl _ _).drew
 refine bK (fun w'=>Wk aL w') aa wide V<|bH 0 aa (aj q) V<|bH 1 aa (aj j) V<|aI 2 aa (fun _ _=>le aa aa) V<|aI 3 aa (fun _ _=>mv) V<|js (t:=102) aa (fun cB=> ?_) fun cB=> ?_
 refine bh 4 aa (fun _ _=>aG (.slice c n cp) aa) V<|bh 5 aa (fun _ _=>aG (aj q) aa) V<|bh 6 aa (fun _ _=>aW bB aa aa ab<|aC.ok ((aT C).2)<|bE ab) V<|bh 7 aa (fun w' E=>ld bM aa<|ca (i:=q) ((aT C).2.wk E) ab) V<|bh 8 aa (fun _ _=>aG (.slice c n cp) aa) V<|bh 9 aa (fun _ _=>aG (aj a) aa) V<|bh 10 aa (fun _ _=>aW bB aa aa ab<|aC.ok ((aT C).2)<|bE ab) V<|bh 11 aa (fun w' E=>ld bM aa<|ca (i:=a) ((aT C).2.wk E) ab) V<|ku 12 aa ag aa aa aa<|cl jZ (j5 I[q]! I[a]! _) aa fun dC dt cv=> ?_
 obtain ⟨rfl,bZ⟩:=cv
 have aQ:(fun w'=>Wk aL w') dt:=Md.trans V bZ
 refine ⟨aQ,?_⟩
 refine aI 13 aa (fun _ _=>bI aa) aQ<|hn ag<|aD<|cb aa (fun bm=> ?_) fun bm=> ?_
 exact aM<|aS<|aB<|rg aa<|ao (aj q)<|p (bG ((q+1:Nat):Int) aa aa<|bd ab ab)<|p aA<|nl<|bn<|tn<|⟨_,ab,q+1,ab,(by rw [← an,yQ (show q≤j by omega) (by simpa using bm)]),(aV C aQ),(Md.trans am<|aQ.mono fun _ _ h=>h.elim),aa,aa,aa,aa,aa⟩
 exact ext<|bc<|bc<|be<|tn<|⟨q,aq,(by rw [← an,qc (.inr<|by simpa using bm)]),(aV C aQ),(Md.trans am<|aQ.mono fun _ _ h=>h.elim),aa,aa,aa,aa⟩
 exact a7 4 aa V<|a7 5 aa V<|a7 6 aa V<|a7 7 aa V<|a7 8 aa V<|a7 9 aa V<|a7 10 aa V<|a7 11 aa V<|a7 12 aa V<|aI 13 aa (fun _ _=>bD aa) V<|hn ag<|aD<|cf aa<|ext<|bc<|bc<|be<|tn<|⟨q,aq,(by rw [← an,qc (.inl ab)]),(aV C (Md.refl _ _).drew),am.drew,aa,aa,aa,aa⟩
 rintro a5 bu ⟨Z,bx,bN,bl,bk,dc,dd,de,df⟩
 refine fx 0 dc<|fx 1 dd<|fx 10 de<|fx 11 df ?_
 refine ep (fun a8 av=> ∃ (ac:Nat),(a≤ac∧ac≤j)∧(lP (fun x=> !bC x I[a]!) I (Z) (j)=ac)∧(av.ownsRow B 51 1 (.slice c n cp) n<|LE aO I)∧(Md (fun q=>(bz c n cp).ownBlock=some q) w av)∧(a8 0= .slice c n cp)∧(a8 1=aj a)∧(a8 10=aj Z)∧(a8 11=aj ac)) ?_ ?_
 refine aB<|lp (fun ap a9 aP=> ∃ (q:Nat),(a≤q∧q≤j)∧(lP (fun x=> !bC x I[a]!) I (Z) (q)=lP (fun x=> !bC x I[a]!) I (Z) (j))∧(aP.ownsRow B 51 1 (.slice c n cp) n<|LE aO I)∧(Md (fun q=>(bz c n cp).ownBlock=some q) w aP)∧(a9 0= .slice c n cp)∧(a9 1=aj a)∧(a9 10=aj Z)∧(a9 11=aj q)∧(q=ap)) _ ⟨j,ab,aa,bl,bk,aa,aa,aa,aa,aa⟩ ?_
 rintro ap a9 aP ⟨q,aq,an,C,am,dp,dq,dr,ds,rfl⟩
 refine fx 0 dp<|fx 1 dq<|fx 10 dr<|fx 11 ds<|az fun aS=>az fun aD=> ?_
 have aJ:=ea C
 have O:(fun w'=>Wk aP w') aP.drew:=(Md.refl _ _).drew
 refine bK (fun w'=>Wk aP w') aa wide O<|bH 0 aa (aj Z) O<|bH 1 aa (aj q) O<|aI 2 aa (fun _ _=>le aa aa) O<|aI 3 aa (fun _ _=>mv) O<|js (t:=118) aa (fun cC=> ?_) fun cC=> ?_
 refine bh 4 aa (fun _ _=>aG (.slice c n cp) aa) O<|bh 5 aa (fun _ _=>aG (aj q) aa) O<|bh 6 aa (fun _ _=>aW bB aa aa ab<|aC.ok ((aT C).2)<|bE ab) O<|bh 7 aa (fun w' E=>ld bM aa<|ca (i:=q) ((aT C).2.wk E) ab) O<|bh 8 aa (fun _ _=>aG (.slice c n cp) aa) O<|bh 9 aa (fun _ _=>aG (aj a) aa) O<|bh 10 aa (fun _ _=>aW bB aa aa ab<|aC.ok ((aT C).2)<|bE ab) O<|bh 11 aa (fun w' E=>ld bM aa<|ca (i:=a) ((aT C).2.wk E) ab) O<|ku 12 aa ag aa aa aa<|cl jZ (j5 I[q]! I[a]! _) aa fun v127 du cw=> ?_
 obtain ⟨rfl,b0⟩:=cw
 have aF:(fun w'=>Wk aP w') du:=Md.trans O b0
 refine ⟨aF,?_⟩
 refine bh 13 aa (fun _ _=>no aa) aF<|aI 14 aa (fun _ _=>bI aa) aF<|hn ag<|aD<|cb aa (fun bo=> ?_) fun bo=> ?_
 exact aM<|aS<|aB<|rg aa<|ao (aj q)<|p (cU ((q - 1:Nat):Int) aa aa<|bd ab ab)<|p aA<|nl<|bn<|tn<|⟨_,ab,q - 1,ab,(by rw [← an,wy (show 0 < q by omega) (show Z≤q by omega) (by simpa using bo)]),(aV C aF),(Md.trans am<|aF.mono fun _ _ h=>h.elim),aa,aa,aa,aa,aa⟩
 exact ext<|bc<|bc<|be<|tn<|⟨q,aq,(by rw [← an,pF (.inr<|by simpa using bo)]),(aV C aF),(Md.trans am<|aF.mono fun _ _ h=>h.elim),aa,aa,aa,aa⟩
 exact a7 4 aa O<|a7 5 aa O<|a7 6 aa O<|a7 7 aa O<|a7 8 aa O<|a7 9 aa O<|a7 10 aa O<|a7 11 aa O<|a7 12 aa O<|a7 13 aa O<|aI 14 aa (fun _ _=>bD aa) O<|hn ag<|aD<|cf aa<|ext<|bc<|bc<|be<|tn<|⟨q,aq,(by rw [← an,pF (.inl ab)]),(aV C (Md.refl _ _).drew),am.drew,aa,aa,aa,aa⟩
 rintro a8 av ⟨ac,bA,bw,G,aX,dk,dl,dm,dn⟩
 refine fx 0 dk<|fx 1 dl<|fx 10 dm<|fx 11 dn<|az fun aS=>ak fun aD=>ao (aj Z)<|ao (aj ac)<|p (gt aa aa)<|nl<|aD<|cd aa (fun cz=> ?_) fun cz=> ?_
 refine ext<|bc<|lz aw<|bc<|be<|bX<|az fun bb=> ?_
 have aJ:=ea G
 have ai:(fun w'=>Wk av w') av.drew:=(Md.refl _ _).drew
 refine ei (fun w'=>Wk av w') 13 aa wide ai<|bg 0 aa (.slice c n cp) ai<|bg 1 aa (aj ac) ai<|bg 2 aa (.slice c n cp) ai<|bg 3 aa (aj a) ai<|bg 4 aa (.slice c n cp) ai<|bg 5 aa (aj a) ai<|bp 6 aa (fun _=>aW bB aa aa ab<|aC.ok ((aT G).2)<|bE ab) (fun _=>ai)<|dM 7 aa (fun w' E=>ld bM aa<|ca (i:=a) ((aT G).2.wk E) ab) ai<|bg 8 aa (.slice c n cp) ai<|bg 9 aa (aj ac) ai<|bp 10 aa (fun _=>aW bB aa aa ab<|aC.ok ((aT G).2)<|bE ab) (fun _=>ai)<|dM 11 aa (fun w' E=>ld bM aa<|ca (i:=ac) ((aT G).2.wk E) ab) ai<|bp 12 aa (fun _=>aW bB aa aa ab<|aC.ok ((aT G).2)<|bE ab) (fun _=>ai)<|cQ 13 aa ag ag<|eE (u:=I[a]!) (ac) (aV G ai) eu aa aa aa ab fun dJ cm cN=> ?_
 refine bp 14 aa (fun _=>aW bB aa aa ab<|aC.ok ((aT G).2)<|bE ab) (fun h=>c8<|(show true =_ from by kernel_rfl).trans h)<|cQ 15 aa ag ag<|eE (u:=I[ac]!) (a) cN eu aa aa aa ab fun bS cn cO=> ?_
 have cu:bS.ownsRow B 51 1 (.slice c n cp) n (LE aO<|bJ I (ac)<|a):=cO
 have ck:Md (fun q=>(bz c n cp).ownBlock=some q) av bS:=Md.trans (ai.mono fun _ _ h=>h.elim)<|Md.trans cm cn
 refine eh ag<|bb<|ak fun bf=>ao (aj ac)<|p (bY (aj ac) aa)<|ay<|bf ?_
 refine rt<|f2 aa aa aa ?_
 have aZ:=part_go bL bv ab<|bF.symm.trans<|by rw [DB bN bw bx.1 bA.2,if_pos ab]
 exact ⟨by rw [aZ]; rfl,by rw [aZ]; exact cu,Md.trans aX ck⟩
 refine aM<|aS<|az fun bb=> ?_
 have aJ:=ea G
 have ah:(fun w'=>Wk av w') av.drew:=(Md.refl _ _).drew
 refine ei (fun w'=>Wk av w') 13 aa wide ah<|bg 0 aa (.slice c n cp) ah<|bg 1 aa (aj Z) ah<|bg 2 aa (.slice c n cp) ah<|bg 3 aa (aj ac) ah<|bg 4 aa (.slice c n cp) ah<|bg 5 aa (aj ac) ah<|bp 6 aa (fun _=>aW bB aa aa ab<|aC.ok ((aT G).2)<|bE ab) (fun _=>ah)<|dM 7 aa (fun w' E=>ld bM aa<|ca (i:=ac) ((aT G).2.wk E) ab) ah<|bg 8 aa (.slice c n cp) ah<|bg 9 aa (aj Z) ah<|bp 10 aa (fun _=>aW bB aa aa ab<|aC.ok ((aT G).2)<|bE ab) (fun _=>ah)<|dM 11 aa (fun w' E=>ld bM aa<|ca (i:=Z) ((aT G).2.wk E) ab) ah<|bp 12 aa (fun _=>aW bB aa aa ab<|aC.ok ((aT G).2)<|bE ab) (fun _=>ah)<|cQ 13 aa ag ag<|eE (u:=I[ac]!) (Z) (aV G ah) eu aa aa aa ab fun dI ci cL=> ?_
 refine bp 14 aa (fun _=>aW bB aa aa ab<|aC.ok ((aT G).2)<|bE ab) (fun h=>c8<|(show true =_ from by kernel_rfl).trans h)<|cQ 15 aa ag ag<|eE (u:=I[Z]!) (ac) cL eu aa aa aa ab fun bR cj cM=> ?_
 have ct:bR.ownsRow B 51 1 (.slice c n cp) n (LE aO<|bJ I (Z)<|ac):=cM
 have ch:Md (fun q=>(bz c n cp).ownBlock=some q) av bR:=Md.trans (ah.mono fun _ _ h=>h.elim)<|Md.trans ci cj
 refine eh ag<|bb<|ak fun bf=>ao (aj Z)<|p (bG ((Z+1:Nat):Int) aa aa<|bd ab ab)<|ay<|bf ?_
 exact rg aa<|ao (aj ac)<|p (cU ((ac - 1:Nat):Int) aa aa<|bd ab ab)<|p aA<|nl<|bn<|tn<|⟨_,ab,Z+1,ac - 1,bJ I Z ac,ab,(by rw [← bF,DB bN bw bx.1 bA.2,if_neg ab,if_pos ab]),ct,(Md.trans aX ch),aa,aa,aa,aa,aa⟩
theorem OW (d:Array Nat) (a b V:Nat) (B n cp:Nat) (c:Option Addr) (w:World) (ac:w.ownsRow B 51 1 (.slice c n cp) n (LE aO d)) (cg:a≤V∧V < b∧b≤n) (ck:n≤1099511627776):
 ba au 290 (aY [.slice c n cp,aj a,aj b,aj V]) w (fun v w'=>v=aj ((sn bC d a b V).1)∧w'.ownsRow B 51 1 (.slice c n cp) n (LE aO (sn bC d a b V).2)∧Md (fun q=>(bz c n cp).ownBlock=some q) w w'):=by
 refine enter func290 aa ntmps290 aa<|ak fun a1=>ay<|a1<|az fun a2=> ?_
 have ch:=ea ac
 have J:(fun w'=>Wk w w') w.drew:=(Md.refl _ _).drew
 refine ei (fun w'=>Wk w w') 13 aa wide J<|bg 0 aa (.slice c n cp) J<|bg 1 aa (aj a) J<|bg 2 aa (.slice c n cp) J<|bg 3 aa (aj V) J<|bg 4 aa (.slice c n cp) J<|bg 5 aa (aj V) J<|bp 6 aa (fun _=>aW bB aa aa ab<|aC.ok ((aT ac).2)<|bE ab) (fun _=>J)<|dM 7 aa (fun w' U=>ld bM aa<|ca (i:=V) ((aT ac).2.wk U) ab) J<|bg 8 aa (.slice c n cp) J<|bg 9 aa (aj a) J<|bp 10 aa (fun _=>aW bB aa aa ab<|aC.ok ((aT ac).2)<|bE ab) (fun _=>J)<|dM 11 aa (fun w' U=>ld bM aa<|ca (i:=a) ((aT ac).2.wk U) ab) J<|bp 12 aa (fun _=>aW bB aa aa ab<|aC.ok ((aT ac).2)<|bE ab) (fun _=>J)<|cQ 13 aa ag ag<|eE (u:=d[V]!) (a) (aV ac J) eu aa aa aa ab fun co bi bF=> ?_
 refine bp 14 aa (fun _=>aW bB aa aa ab<|aC.ok ((aT ac).2)<|bE ab) (fun h=>c8<|(show true =_ from by kernel_rfl).trans h)<|cQ 15 aa ag ag<|eE (u:=d[a]!) (V) bF eu aa aa aa ab fun aZ bj bL=> ?_
 have bs:aZ.ownsRow B 51 1 (.slice c n cp) n (LE aO<|bJ d (a)<|V):=bL
 have bf:Md (fun q=>(bz c n cp).ownBlock=some q) w aZ:=Md.trans (J.mono fun _ _ h=>h.elim)<|Md.trans bi bj
 refine eh ag<|a2<|ak fun a3=>ao (aj a)<|p (bG ((a+1:Nat):Int) aa aa<|bd ab ab)<|ao (aj b)<|p (cU ((b - 1:Nat):Int) aa aa<|bd ab ab)<|p aA ?_
 refine ay<|a3<|az fun a4=>aB<|lp (fun Z av aL=> ∃ (i j:Nat) (A:Array Nat),(a+1≤i∧i≤b∧a≤j∧j < b∧i≤j+2)∧(Go.Sort.partEqLoop bC a i j A=sn bC d a b V)∧(aL.ownsRow B 51 1 (.slice c n cp) n<|LE aO A)∧(Md (fun q=>(bz c n cp).ownBlock=some q) w aL)∧(av 0= .slice c n cp)∧(av 1=aj a)∧(av 9=aj i)∧(av 10=aj j)∧(j+1 - i=Z)) _ ⟨a+1,b - 1,(bJ d a V),ab,aa,bs,bf,aa,aa,aa,aa,aa⟩ ?_
 rintro Z av aL ⟨i,j,A,hi,aS,bq,bb,bP,bQ,bS,bR,rfl⟩
 refine fx 0 bP<|fx 1 bQ<|fx 9 bS<|fx 10 bR<|aB ?_
 refine ep (fun ax aN=> ∃ (C:Nat),(i≤C∧(C=i∨C≤j+1))∧(lQ (fun x=> !bC A[a]! x) A (j) (i)=C)∧(aN.ownsRow B 51 1 (.slice c n cp) n<|LE aO A)∧(Md (fun q=>(bz c n cp).ownBlock=some q) w aN)∧(ax 0= .slice c n cp)∧(ax 1=aj a)∧(ax 9=aj C)∧(ax 10=aj j)) ?_ ?_
 refine aB<|lp (fun Z aD al=> ∃ (q:Nat),(i≤q∧(q=i∨q≤j+1))∧(lQ (fun x=> !bC A[a]! x) A (j) (q)=lQ (fun x=> !bC A[a]! x) A (j) (i))∧(al.ownsRow B 51 1 (.slice c n cp) n<|LE aO A)∧(Md (fun q=>(bz c n cp).ownBlock=some q) w al)∧(aD 0= .slice c n cp)∧(aD 1=aj a)∧(aD 9=aj q)∧(aD 10=aj j)∧(j+1 - q=Z)) _ ⟨i,ab,aa,bq,bb,aa,aa,aa,aa,aa⟩ ?_
 rintro Z aD al ⟨q,ar,ai,I,ae,bX,bZ,b1,b0,rfl⟩
 refine fx 0 bX<|fx 1 bZ<|fx 9 b1<|fx 10 b0<|az fun aq=>az fun ad=> ?_
 have aQ:=ea I
 have E:(fun w'=>Wk al w') al.drew:=(Md.refl _ _).drew
 refine bK (fun w'=>Wk al w') aa wide E<|bH 0 aa (aj q) E<|bH 1 aa (aj j) E<|aI 2 aa (fun _ _=>le aa aa) E<|aI 3 aa (fun _ _=>mv) E<|js (t:=32) aa (fun bx=> ?_) fun bx=> ?_
 refine bh 4 aa (fun _ _=>aG (.slice c n cp) aa) E<|bh 5 aa (fun _ _=>aG (aj a) aa) E<|bh 6 aa (fun _ _=>aW bB aa aa ab<|aC.ok ((aT I).2)<|bE ab) E<|bh 7 aa (fun w' U=>ld bM aa<|ca (i:=a) ((aT I).2.wk U) ab) E<|bh 8 aa (fun _ _=>aG (.slice c n cp) aa) E<|bh 9 aa (fun _ _=>aG (aj q) aa) E<|bh 10 aa (fun _ _=>aW bB aa aa ab<|aC.ok ((aT I).2)<|bE ab) E<|bh 11 aa (fun w' U=>ld bM aa<|ca (i:=q) ((aT I).2.wk U) ab) E<|ku 12 aa ag aa aa aa<|cl jZ (j5 A[a]! A[q]! _) aa fun cm cc bu=> ?_
 obtain ⟨rfl,a8⟩:=bu
 have ah:(fun w'=>Wk al w') cc:=Md.trans E a8
 refine ⟨ah,?_⟩
 refine bh 13 aa (fun _ _=>no aa) ah<|aI 14 aa (fun _ _=>bI aa) ah<|hn ag<|ad<|cb aa (fun aJ=> ?_) fun aJ=> ?_
 exact aM<|aq<|aB<|rg aa<|ao (aj q)<|p (bG ((q+1:Nat):Int) aa aa<|bd ab ab)<|p aA<|nl<|bn<|tn<|⟨_,ab,q+1,ab,(by rw [← ai,yQ (show q≤j by omega) (by simpa using aJ)]),(aV I ah),(Md.trans ae<|ah.mono fun _ _ h=>h.elim),aa,aa,aa,aa,aa⟩
 exact ext<|bc<|bc<|be<|tn<|⟨q,ar,(by rw [← ai,qc (.inr<|by simpa using aJ)]),(aV I ah),(Md.trans ae<|ah.mono fun _ _ h=>h.elim),aa,aa,aa,aa⟩
 exact a7 4 aa E<|a7 5 aa E<|a7 6 aa E<|a7 7 aa E<|a7 8 aa E<|a7 9 aa E<|a7 10 aa E<|a7 11 aa E<|a7 12 aa E<|a7 13 aa E<|aI 14 aa (fun _ _=>bD aa) E<|hn ag<|ad<|cf aa<|ext<|bc<|bc<|be<|tn<|⟨q,ar,(by rw [← ai,qc (.inl ab)]),(aV I (Md.refl _ _).drew),ae.drew,aa,aa,aa,aa⟩
 rintro ax aN ⟨C,ci,aU,br,bo,bT,bU,bW,bV⟩
 refine fx 0 bT<|fx 1 bU<|fx 9 bW<|fx 10 bV ?_
 refine ep (fun aE an=> ∃ (O:Nat),(a≤O∧O≤j)∧(lP (fun x=>bC A[a]! x) A (C) (j)=O)∧(an.ownsRow B 51 1 (.slice c n cp) n<|LE aO A)∧(Md (fun q=>(bz c n cp).ownBlock=some q) w an)∧(aE 0= .slice c n cp)∧(aE 1=aj a)∧(aE 9=aj C)∧(aE 10=aj O)) ?_ ?_
 refine aB<|lp (fun Z aF am=> ∃ (q:Nat),(a≤q∧q≤j)∧(lP (fun x=>bC A[a]! x) A (C) (q)=lP (fun x=>bC A[a]! x) A (C) (j))∧(am.ownsRow B 51 1 (.slice c n cp) n<|LE aO A)∧(Md (fun q=>(bz c n cp).ownBlock=some q) w am)∧(aF 0= .slice c n cp)∧(aF 1=aj a)∧(aF 9=aj C)∧(aF 10=aj q)∧(q=Z)) _ ⟨j,ab,aa,br,bo,aa,aa,aa,aa,aa⟩ ?_
 rintro Z aF am ⟨q,ar,ai,I,ae,b6,b7,b9,b8,rfl⟩
 refine fx 0 b6<|fx 1 b7<|fx 9 b9<|fx 10 b8<|az fun aq=>az fun ad=> ?_
 have aQ:=ea I
 have G:(fun w'=>Wk am w') am.drew:=(Md.refl _ _).drew
 refine bK (fun w'=>Wk am w') aa wide G<|bH 0 aa (aj C) G<|bH 1 aa (aj q) G<|aI 2 aa (fun _ _=>le aa aa) G<|aI 3 aa (fun _ _=>mv) G<|js (t:=49) aa (fun bA=> ?_) fun bA=> ?_
 refine bh 4 aa (fun _ _=>aG (.slice c n cp) aa) G<|bh 5 aa (fun _ _=>aG (aj a) aa) G<|bh 6 aa (fun _ _=>aW bB aa aa ab<|aC.ok ((aT I).2)<|bE ab) G<|bh 7 aa (fun w' U=>ld bM aa<|ca (i:=a) ((aT I).2.wk U) ab) G<|bh 8 aa (fun _ _=>aG (.slice c n cp) aa) G<|bh 9 aa (fun _ _=>aG (aj q) aa) G<|bh 10 aa (fun _ _=>aW bB aa aa ab<|aC.ok ((aT I).2)<|bE ab) G<|bh 11 aa (fun w' U=>ld bM aa<|ca (i:=q) ((aT I).2.wk U) ab) G<|ku 12 aa ag aa aa aa<|cl jZ (j5 A[a]! A[q]! _) aa fun cn ce bv=> ?_
 obtain ⟨rfl,a9⟩:=bv
 have ap:(fun w'=>Wk am w') ce:=Md.trans G a9
 refine ⟨ap,?_⟩
 refine aI 13 aa (fun _ _=>bI aa) ap<|hn ag<|ad<|cb aa (fun aK=> ?_) fun aK=> ?_
 exact aM<|aq<|aB<|rg aa<|ao (aj q)<|p (cU ((q - 1:Nat):Int) aa aa<|bd ab ab)<|p aA<|nl<|bn<|tn<|⟨_,ab,q - 1,ab,(by rw [← ai,wy (show 0 < q by omega) (show C≤q by omega) (by simpa using aK)]),(aV I ap),(Md.trans ae<|ap.mono fun _ _ h=>h.elim),aa,aa,aa,aa,aa⟩
 exact ext<|bc<|bc<|be<|tn<|⟨q,ar,(by rw [← ai,pF (.inr<|by simpa using aK)]),(aV I ap),(Md.trans ae<|ap.mono fun _ _ h=>h.elim),aa,aa,aa,aa⟩
 exact a7 4 aa G<|a7 5 aa G<|a7 6 aa G<|a7 7 aa G<|a7 8 aa G<|a7 9 aa G<|a7 10 aa G<|a7 11 aa G<|a7 12 aa G<|aI 13 aa (fun _ _=>bD aa) G<|hn ag<|ad<|cf aa<|ext<|bc<|bc<|be<|tn<|⟨q,ar,(by rw [← ai,pF (.inl ab)]),(aV I (Md.refl _ _).drew),ae.drew,aa,aa,aa,aa⟩
 rintro aE an ⟨O,cj,aR,Y,aP,b2,b3,b5,b4⟩
 refine fx 0 b2<|fx 1 b3<|fx 9 b5<|fx 10 b4<|az fun aq=>ak fun ad=>ao (aj C)<|ao (aj O)<|p (gt aa aa)<|nl<|ad<|cd aa (fun bw=> ?_) fun bw=> ?_
 refine ext<|bc<|lz aw<|bc<|be<|a4<|ak fun aH=>ao (aj C)<|p (bY (aj C) aa)<|nl<|aH<|rt<|a6 aa ?_
 have aX:sn bC d a b V=(C,A):=by rw [← aS,Dx aU aR,if_pos ab]
 exact ⟨by rw [aX]; rfl,by rw [aX]; exact Y,aP⟩
 refine aM<|aq<|az fun aH=> ?_
 have aQ:=ea Y
 have M:(fun w'=>Wk an w') an.drew:=(Md.refl _ _).drew
 refine ei (fun w'=>Wk an w') 13 aa wide M<|bg 0 aa (.slice c n cp) M<|bg 1 aa (aj C) M<|bg 2 aa (.slice c n cp) M<|bg 3 aa (aj O) M<|bg 4 aa (.slice c n cp) M<|bg 5 aa (aj O) M<|bp 6 aa (fun _=>aW bB aa aa ab<|aC.ok ((aT Y).2)<|bE ab) (fun _=>M)<|dM 7 aa (fun w' U=>ld bM aa<|ca (i:=O) ((aT Y).2.wk U) ab) M<|bg 8 aa (.slice c n cp) M<|bg 9 aa (aj C) M<|bp 10 aa (fun _=>aW bB aa aa ab<|aC.ok ((aT Y).2)<|bE ab) (fun _=>M)<|dM 11 aa (fun w' U=>ld bM aa<|ca (i:=C) ((aT Y).2.wk U) ab) M<|bp 12 aa (fun _=>aW bB aa aa ab<|aC.ok ((aT Y).2)<|bE ab) (fun _=>M)<|cQ 13 aa ag ag<|eE (u:=A[O]!) (C) (aV Y M) eu aa aa aa ab fun cq bl bN=> ?_
 refine bp 14 aa (fun _=>aW bB aa aa ab<|aC.ok ((aT Y).2)<|bE ab) (fun h=>c8<|(show true =_ from by kernel_rfl).trans h)<|cQ 15 aa ag ag<|eE (u:=A[C]!) (O) bN eu aa aa aa ab fun a0 bm bO=> ?_
 have bt:a0.ownsRow B 51 1 (.slice c n cp) n (LE aO<|bJ A (C)<|O):=bO
 have bk:Md (fun q=>(bz c n cp).ownBlock=some q) an a0:=Md.trans (M.mono fun _ _ h=>h.elim)<|Md.trans bl bm
 refine eh ag<|aH<|ak fun a5=>ao (aj C)<|p (bG ((C+1:Nat):Int) aa aa<|bd ab ab)<|ay<|a5 ?_
 exact rg aa<|ao (aj O)<|p (cU ((O - 1:Nat):Int) aa aa<|bd ab ab)<|p aA<|nl<|bn<|tn<|⟨_,ab,C+1,O - 1,bJ A C O,ab,(by rw [← aS,Dx aU aR,if_neg ab,if_pos ab]),bt,(Md.trans aP bk),aa,aa,aa,aa,aa⟩
theorem O1 {d:Array Nat} {a b s i i2:Nat} (c:0 < s) (h:qs bC d b i=i2) (h1:i2=b):n3 bC a b s i d=(d,true):=by
 cases s with
 | zero=>omega
 | succ s=>rw [n3]; simp only [h,if_pos h1]
theorem pi_short {d:Array Nat} {a b s i i2:Nat} (c:0 < s) (h:qs bC d b i=i2) (h1:¬i2=b) (h2:b - a < 50):n3 bC a b s i d=(d,false):=by
 cases s with
 | zero=>omega
 | succ s=>rw [n3]; simp only [h,if_neg h1,if_pos h2]
theorem pi_go {d c q:Array Nat} {a b s i i2:Nat} (E:0 < s) (h:qs bC d b i=i2) (h1:¬i2=b) (h2:¬b - a < 50)
 (A:c=if i2 - a≥2 then uV bC (i2 - 1) (bJ d i2<|i2 - 1) else bJ d i2 (i2 - 1)) (C:q=if b - i2≥2 then zn bC b (i2+1) c else c):
 n3 bC a b s i d=n3 bC a b (s - 1) i2 q:=by
 cases s with
 | zero=>omega
 | succ s=>rw [n3]; simp only [h,if_neg h1,if_neg h2]; rw [← A,← C]; rfl
theorem Pb (d:Array Nat) (a b:Nat) (B n cp:Nat) (c:Option Addr) (w:World) (cg:w.ownsRow B 51 1 (.slice c n cp) n (LE aO d)) (dd:a < b∧b≤n) (dh:n≤1099511627776):
 ba au 288 (aY [.slice c n cp,aj a,aj b]) w (fun v w'=>v= .bool (qq bC d a b).2∧w'.ownsRow B 51 1 (.slice c n cp) n (LE aO (qq bC d a b).1)∧Md (fun q=>(bz c n cp).ownBlock=some q) w w'):=by
 refine enter func288 aa ntmps288 aa<|ak fun bU=>ay<|bU<|ak fun bW=>ao (aj a)<|p (bG ((a+1:Nat):Int) aa aa<|bd ab ab)<|ay<|bW<|az fun bX=>ak fun bY=>p aA<|nl<|bY<|aB<|lp (fun U aJ bw=> ∃ (s i:Nat) (E:Array Nat),(a+1≤i∧i≤b∧s≤5)∧(n3 bC a b (5 - s) i E=(qq bC d a b))∧(bw.ownsRow B 51 1 (.slice c n cp) n<|LE aO E)∧(Md (fun q=>(bz c n cp).ownBlock=some q) w bw)∧(aJ 0= .slice c n cp)∧(aJ 1=aj a)∧(aJ 2=aj b)∧(aJ 7=aj i)∧(aJ 8=aj s)∧(5 - s=U)) _ ⟨0,a+1,d,ab,aa,cg,(Md.refl _ _),aa,aa,aa,aa,aa,aa⟩ ?_
 rintro U aJ bw ⟨s,i,E,hi,aH,bL,bx,cD,cE,cF,cG,cH,rfl⟩
 refine fx 0 cD<|fx 1 cE<|fx 2 cF<|fx 7 cG<|fx 8 cH<|az fun bZ=>ak fun b0=>ao (aj s)<|p (lt aa aa)<|nl<|b0<|cd aa (fun co=> ?_) fun co=> ?_
 refine aM<|bZ<|az fun aP=>aB ?_
 refine ep (fun aK ap=> ∃ (i2:Nat),(i≤i2∧i2≤b)∧(qs bC E b i=i2)∧(ap.ownsRow B 51 1 (.slice c n cp) n<|LE aO E)∧(Md (fun q=>(bz c n cp).ownBlock=some q) w ap)∧(aK 0= .slice c n cp)∧(aK 1=aj a)∧(aK 2=aj b)∧(aK 7=aj i2)∧(aK 8=aj s)) ?_ ?_
 refine aB<|lp (fun U aL av=> ∃ (q:Nat),(i≤q∧q≤b)∧(qs bC E b q=qs bC E b i)∧(av.ownsRow B 51 1 (.slice c n cp) n<|LE aO E)∧(Md (fun q=>(bz c n cp).ownBlock=some q) w av)∧(aL 0= .slice c n cp)∧(aL 1=aj a)∧(aL 2=aj b)∧(aL 7=aj q)∧(aL 8=aj s)∧(b - q=U)) _ ⟨i,ab,aa,bL,bx,aa,aa,aa,aa,aa,aa⟩ ?_
 rintro U aL av ⟨q,bP,bs,ac,bi,cN,cO,cP,cR,cS,rfl⟩
 refine fx 0 cN<|fx 1 cO<|fx 2 cP<|fx 7 cR<|fx 8 cS<|az fun bb=>az fun aU=> ?_
 have cv:=ea ac
 have A:(fun w'=>Wk av w') av.drew:=(Md.refl _ _).drew
 refine bK (fun w'=>Wk av w') aa wide A<|bH 0 aa (aj q) A<|bH 1 aa (aj b) A<|aI 2 aa (fun _ _=>lt aa aa) A<|aI 3 aa (fun _ _=>mv) A<|js (t:=20) aa (fun cw=> ?_) fun cw=> ?_
 refine bh 4 aa (fun _ _=>aG (.slice c n cp) aa) A<|bh 5 aa (fun _ _=>aG (aj q) aa) A<|bh 6 aa (fun _ _=>aW bB aa aa ab<|aC.ok ((aT ac).2)<|bE ab) A<|bh 7 aa (fun w' C=>ld bM aa<|ca (i:=q) ((aT ac).2.wk C) ab) A<|bh 8 aa (fun _ _=>aG (.slice c n cp) aa) A<|bh 9 aa (fun _ _=>aG (aj q) aa) A<|bh 10 aa (fun _ _=>cU ((q - 1:Nat):Int) aa aa<|bd ab ab) A<|bh 11 aa (fun _ _=>aW bB aa aa ab<|aC.ok ((aT ac).2)<|bE ab) A<|bh 12 aa (fun w' C=>ld bM aa<|ca (i:=q - 1) ((aT ac).2.wk C) ab) A<|ku 13 aa ag aa aa aa<|cl jZ (j5 E[q]! E[q - 1]! _) aa fun v30 dc ck=> ?_
 obtain ⟨rfl,b2⟩:=ck
 have an:(fun w'=>Wk av w') dc:=Md.trans A b2
 refine ⟨an,?_⟩
 refine bh 14 aa (fun _ _=>no aa) an<|aI 15 aa (fun _ _=>bI aa) an<|hn ag<|aU<|cb aa (fun bm=> ?_) fun bm=> ?_
 exact aM<|bb<|aB<|rg aa<|ao (aj q)<|p (bG ((q+1:Nat):Int) aa aa<|bd ab ab)<|p aA<|nl<|bn<|tn<|⟨_,ab,q+1,ab,(by rw [← bs,Qq (show q < b by omega) (by simpa using bm)]),(aV ac an),(Md.trans bi<|an.mono fun _ _ h=>h.elim),aa,aa,aa,aa,aa,aa⟩
 exact ext<|bc<|bc<|be<|tn<|⟨q,ab,(by rw [← bs,Eb (.inr<|by simpa using bm)]),(aV ac an),(Md.trans bi<|an.mono fun _ _ h=>h.elim),aa,aa,aa,aa,aa⟩
 exact a7 4 aa A<|a7 5 aa A<|a7 6 aa A<|a7 7 aa A<|a7 8 aa A<|a7 9 aa A<|a7 10 aa A<|a7 11 aa A<|a7 12 aa A<|a7 13 aa A<|a7 14 aa A<|aI 15 aa (fun _ _=>bD aa) A<|hn ag<|aU<|cf aa<|ext<|bc<|bc<|be<|tn<|⟨q,ab,(by rw [← bs,Eb (.inl ab)]),(aV ac (Md.refl _ _).drew),bi.drew,aa,aa,aa,aa,aa⟩
 rintro aK ap ⟨i2,dg,aQ,Z,aX,cI,cJ,cK,cL,cM⟩
 refine fx 0 cI<|fx 1 cJ<|fx 2 cK<|fx 7 cL<|fx 8 cM<|az fun bb=>ak fun aU=>ao (aj i2)<|ao (aj b)<|p (bS aa aa)<|nl<|aU<|cd aa (fun cq=> ?_) fun cq=> ?_
 refine ak fun aZ=>ay<|aZ<|rt<|tr<|br<|tr<|tr<|br<|tr<|a6 aa ?_
 have ah:(qq bC d a b)=(E,true):=by rw [← aH,O1 (show 0 < 5 - s by omega) aQ ab]
 exact ⟨by rw [ah]; rfl,by rw [ah]; exact Z,aX⟩
 have bf:¬i2=b:=ab
 refine aM<|bb<|az fun aZ=>ak fun bV=>ao (aj b)<|ao (aj a)<|p (cU ((b - a:Nat):Int) aa aa<|bd ab ab)<|p (lt aa aa)<|nl<|bV<|cd aa (fun cr=> ?_) fun cr=> ?_
 refine ak fun a0=>ay<|a0<|rt<|tr<|br<|tr<|tr<|br<|tr<|a6 aa ?_
 have ah:(qq bC d a b)=(E,false):=by rw [← aH,pi_short (show 0 < 5 - s by omega) aQ ab ab]
 exact ⟨by rw [ah]; rfl,by rw [ah]; exact Z,aX⟩
 refine aM<|aZ<|az fun a0=> ?_
 have cv:=ea Z
 have G:(fun w'=>Wk ap w') ap.drew:=(Md.refl _ _).drew
 refine ei (fun w'=>Wk ap w') 15 aa wide G<|bg 0 aa (.slice c n cp) G<|bg 1 aa (aj i2) G<|bg 2 aa (.slice c n cp) G<|bg 3 aa (aj i2) G<|bp 4 aa (fun _=>cU ((i2 - 1:Nat):Int) aa aa<|bd ab ab) (fun _=>G)<|bg 5 aa (.slice c n cp) G<|bg 6 aa (aj i2) G<|bp 7 aa (fun _=>cU ((i2 - 1:Nat):Int) aa aa<|bd ab ab) (fun _=>G)<|bp 8 aa (fun _=>aW bB aa aa ab<|aC.ok ((aT Z).2)<|bE ab) (fun _=>G)<|dM 9 aa (fun w' C=>ld bM aa<|ca (i:=i2 - 1) ((aT Z).2.wk C) ab) G<|bg 10 aa (.slice c n cp) G<|bg 11 aa (aj i2) G<|bp 12 aa (fun _=>aW bB aa aa ab<|aC.ok ((aT Z).2)<|bE ab) (fun _=>G)<|dM 13 aa (fun w' C=>ld bM aa<|ca (i:=i2) ((aT Z).2.wk C) ab) G<|bp 14 aa (fun _=>aW bB aa aa ab<|aC.ok ((aT Z).2)<|bE ab) (fun _=>G) ?_
 refine cQ 15 aa ag ag<|eE (u:=E[i2 - 1]!) (i2) (aV Z G) eu aa aa aa ab fun dk b4 cx=>bp 16 aa (fun _=>aW bB aa aa ab<|aC.ok ((aT Z).2)<|bE ab) (fun h=>c8<|(show true =_ from by kernel_rfl).trans h)<|cQ 17 aa ag ag<|eE (u:=E[i2]!) (i2 - 1) cx eu aa aa aa ab fun bQ b5 cy=> ?_
 have bO:bQ.ownsRow B 51 1 (.slice c n cp) n (LE aO<|bJ E (i2)<|i2 - 1):=cy
 have bA:Md (fun q=>(bz c n cp).ownBlock=some q) ap bQ:=Md.trans (G.mono fun _ _ h=>h.elim)<|Md.trans b4 b5
 refine eh ag<|a0 ?_
 refine ep (fun aN bv=> ∃ (ai:Array Nat),(ai=if i2 - a≥2 then uV bC (i2 - 1) (bJ E i2<|i2 - 1) else (bJ E i2<|i2 - 1))∧(bv.ownsRow B 51 1 (.slice c n cp) n<|LE aO ai)∧(Md (fun q=>(bz c n cp).ownBlock=some q) w bv)∧(aN 0= .slice c n cp)∧(aN 1=aj a)∧(aN 2=aj b)∧(aN 7=aj i2)∧(aN 8=aj s)) ?_ ?_
 refine ak fun a1=>ao (aj i2)<|ao (aj a)<|p (cU ((i2 - a:Nat):Int) aa aa<|bd ab ab)<|p (ge aa aa)<|nl<|a1<|cd aa (fun cs=> ?_) fun cs=> ?_
 refine ak fun a2=>ao (aj i2)<|p (cU ((i2 - 1:Nat):Int) aa aa<|bd ab ab)<|ay<|a2<|aB<|lp (fun U ax aq=> ∃ (q:Nat) (O:Array Nat),(q≤i2 - 1)∧(uV bC q O=uV bC (i2 - 1) (bJ E i2<|i2 - 1))∧(aq.ownsRow B 51 1 (.slice c n cp) n<|LE aO O)∧(Md (fun q=>(bz c n cp).ownBlock=some q) w aq)∧(ax 0= .slice c n cp)∧(ax 1=aj a)∧(ax 2=aj b)∧(ax 7=aj i2)∧(ax 8=aj s)∧(ax 9=aj q)∧(q=U)) _ ⟨i2 - 1,(bJ E i2<|i2 - 1),ab,aa,bO,(Md.trans aX bA),aa,aa,aa,aa,aa,aa,aa⟩ ?_
 rintro U ax aq ⟨q,O,bP,bt,ad,bj,cZ,c0,c1,c2,c3,c4,rfl⟩
 refine fx 0 cZ<|fx 1 c0<|fx 2 c1<|fx 7 c2<|fx 8 c3<|fx 9 c4<|az fun a3=>ak fun a4=>ao (aj q)<|p (ge aa aa)<|nl<|a4<|cd aa (fun ct=> ?_) fun ct=> ?_
 refine aM<|a3<|az fun a5=>aB<|az fun a8=>az fun a9=> ?_
 have de:=ea ad
 have V:(fun w'=>Wk aq w') aq.drew:=(Md.refl _ _).drew
 refine bK (fun w'=>Wk aq w') aa wide V<|bH 0 aa (.slice c n cp) V<|bH 1 aa (aj q) V<|aI 2 aa (fun _ _=>aW bB aa aa ab<|aC.ok ((aT ad).2)<|bE ab) V<|aI 3 aa (fun w' C=>ld bM aa<|ca (i:=q) ((aT ad).2.wk C) ab) V<|bH 4 aa (.slice c n cp) V<|bH 5 aa (aj q) V<|aI 6 aa (fun _ _=>cU ((q - 1:Nat):Int) aa aa<|bd ab ab) V<|aI 7 aa (fun _ _=>aW bB aa aa ab<|aC.ok ((aT ad).2)<|bE ab) V<|aI 8 aa (fun w' C=>ld bM aa<|ca (i:=q - 1) ((aT ad).2.wk C) ab) V<|he 9 aa ag<|cl jZ (j5 O[q]! O[q - 1]! _) aa fun dj aS cm=> ?_
 obtain ⟨rfl,b3⟩:=cm
 have aE:(fun w'=>Wk aq w') aS:=Md.trans V b3
 refine ⟨aE,?_⟩
 refine aI 10 aa (fun _ _=>no aa) aE<|hn ag<|a9<|cb aa (fun bo=> ?_) fun bo=> ?_
 exact ext<|bc<|lz aw<|bc<|bc<|be<|tn<|⟨O,(by rw [if_pos ab,← bt,DV (.inr<|by simpa using bo)]),(aV ad aE),(Md.trans bj<|aE.mono fun _ _ h=>h.elim),aa,aa,aa,aa,aa⟩
 refine aM<|a8 ?_
 have al:=aV ad aE
 have I:(fun w'=>Wk aS w') aS.drew:=(Md.refl _ _).drew
 refine ei (fun w'=>Wk aS w') 15 aa wide I<|bg 0 aa (.slice c n cp) I<|bg 1 aa (aj q) I<|bg 2 aa (.slice c n cp) I<|bg 3 aa (aj q) I<|bp 4 aa (fun _=>cU ((q - 1:Nat):Int) aa aa<|bd ab ab) (fun _=>I)<|bg 5 aa (.slice c n cp) I<|bg 6 aa (aj q) I<|bp 7 aa (fun _=>cU ((q - 1:Nat):Int) aa aa<|bd ab ab) (fun _=>I)<|bp 8 aa (fun _=>aW bB aa aa ab<|aC.ok ((aT al).2)<|bE ab) (fun _=>I)<|dM 9 aa (fun w' C=>ld bM aa<|ca (i:=q - 1) ((aT al).2.wk C) ab) I<|bg 10 aa (.slice c n cp) I<|bg 11 aa (aj q) I<|bp 12 aa (fun _=>aW bB aa aa ab<|aC.ok ((aT al).2)<|bE ab) (fun _=>I)<|dM 13 aa (fun w' C=>ld bM aa<|ca (i:=q) ((aT al).2.wk C) ab) I<|bp 14 aa (fun _=>aW bB aa aa ab<|aC.ok ((aT al).2)<|bE ab) (fun _=>I) ?_
 refine cQ 15 aa ag ag<|eE (u:=O[q - 1]!) (q) (aV al I) eu aa aa aa ab fun dl b7 cz=>bp 16 aa (fun _=>aW bB aa aa ab<|aC.ok ((aT al).2)<|bE ab) (fun h=>c8<|(show true =_ from by kernel_rfl).trans h)<|cQ 17 aa ag ag<|eE (u:=O[q]!) (q - 1) cz eu aa aa aa ab fun bR b8 cA=> ?_
 have ch:bR.ownsRow B 51 1 (.slice c n cp) n (LE aO<|bJ O (q)<|q - 1):=cA
 have b6:Md (fun q=>(bz c n cp).ownBlock=some q) aS bR:=Md.trans (I.mono fun _ _ h=>h.elim)<|Md.trans b7 b8
 exact eh ag<|bn<|a5<|rg aa<|ao (aj q)<|p (cU ((q - 1:Nat):Int) aa aa<|bd ab ab)<|p aA<|nl<|tn<|⟨_,ab,q - 1,bJ O q (q - 1),ab,(by rw [← bt,PY (show 0 < q by omega) (by simpa using bo)]),ch,(Md.trans bj<|Md.trans (aE.mono fun _ _ h=>h.elim) b6),aa,aa,aa,aa,aa,aa,aa⟩
 exact ext<|bc<|bc<|be<|tn<|⟨O,(by rw [if_pos ab,← bt,DV (.inl ab)]),ad,bj,aa,aa,aa,aa,aa⟩
 exact aM<|tn<|⟨(bJ E i2<|i2 - 1),(by rw [if_neg ab]),bO,(Md.trans aX bA),aa,aa,aa,aa,aa⟩
 rintro aN bv ⟨ai,bq,bN,bF,cT,cV,cW,cX,cY⟩
 refine fx 0 cT<|fx 1 cV<|fx 2 cW<|fx 7 cX<|fx 8 cY<|ak fun a1=>ao (aj b)<|ao (aj i2)<|p (cU ((b - i2:Nat):Int) aa aa<|bd ab ab)<|p (ge aa aa)<|nl<|a1<|cd aa (fun cu=> ?_) fun cu=> ?_
 refine ak fun a2=>ao (aj i2)<|p (bG ((i2+1:Nat):Int) aa aa<|bd ab ab)<|ay<|a2<|aB<|lp (fun U aD ar=> ∃ (q:Nat) (M:Array Nat),(i2+1≤q∧q≤b)∧(zn bC b q M=zn bC b (i2+1) ai)∧(ar.ownsRow B 51 1 (.slice c n cp) n<|LE aO M)∧(Md (fun q=>(bz c n cp).ownBlock=some q) w ar)∧(aD 0= .slice c n cp)∧(aD 1=aj a)∧(aD 2=aj b)∧(aD 7=aj i2)∧(aD 8=aj s)∧(aD 10=aj q)∧(b - q=U)) _ ⟨i2+1,ai,ab,aa,bN,bF,aa,aa,aa,aa,aa,aa,aa⟩ ?_
 rintro U aD ar ⟨q,M,bP,bu,ae,bk,c5,c6,c9,da,db,c7,rfl⟩
 refine fx 0 c5<|fx 1 c6<|fx 2 c9<|fx 7 da<|fx 8 db<|fx 10 c7<|az fun a3=>ak fun a4=>ao (aj q)<|ao (aj b)<|p (lt aa aa)<|nl<|a4<|cd aa (fun cn=> ?_) fun cn=> ?_
 refine aM<|a3<|az fun a5=>aB<|az fun a8=>az fun a9=> ?_
 have df:=ea ae
 have Y:(fun w'=>Wk ar w') ar.drew:=(Md.refl _ _).drew
 refine bK (fun w'=>Wk ar w') aa wide Y<|bH 0 aa (.slice c n cp) Y<|bH 1 aa (aj q) Y<|aI 2 aa (fun _ _=>aW bB aa aa ab<|aC.ok ((aT ae).2)<|bE ab) Y<|aI 3 aa (fun w' C=>ld bM aa<|ca (i:=q) ((aT ae).2.wk C) ab) Y<|bH 4 aa (.slice c n cp) Y<|bH 5 aa (aj q) Y<|aI 6 aa (fun _ _=>cU ((q - 1:Nat):Int) aa aa<|bd ab ab) Y<|aI 7 aa (fun _ _=>aW bB aa aa ab<|aC.ok ((aT ae).2)<|bE ab) Y<|aI 8 aa (fun w' C=>ld bM aa<|ca (i:=q - 1) ((aT ae).2.wk C) ab) Y<|he 9 aa ag<|cl jZ (j5 M[q]! M[q - 1]! _) aa fun di aR cj=> ?_
 obtain ⟨rfl,b1⟩:=cj
 have aF:(fun w'=>Wk ar w') aR:=Md.trans Y b1
 refine ⟨aF,?_⟩
 refine aI 10 aa (fun _ _=>no aa) aF<|hn ag<|a9<|cb aa (fun bl=> ?_) fun bl=> ?_
 exact ext<|bc<|lz aw<|bc<|bc<|be<|bn<|aP<|rg aa<|ao (aj s)<|p (bG ((s+1:Nat):Int) aa aa<|bd ab ab)<|p aA<|nl<|tn<|⟨_,ab,s+1,i2,M,ab,(by rw [← aH,pi_go (show 0 < 5 - s by omega) aQ bf ab bq (show M=_ by rw [if_pos ab,← bu,Ee (.inr<|by simpa using bl)])]; rfl),(aV ae aF),(Md.trans bk<|aF.mono fun _ _ h=>h.elim),aa,aa,aa,aa,aa,aa⟩
 refine aM<|a8 ?_
 have am:=aV ae aF
 have J:(fun w'=>Wk aR w') aR.drew:=(Md.refl _ _).drew
 refine ei (fun w'=>Wk aR w') 15 aa wide J<|bg 0 aa (.slice c n cp) J<|bg 1 aa (aj q) J<|bg 2 aa (.slice c n cp) J<|bg 3 aa (aj q) J<|bp 4 aa (fun _=>cU ((q - 1:Nat):Int) aa aa<|bd ab ab) (fun _=>J)<|bg 5 aa (.slice c n cp) J<|bg 6 aa (aj q) J<|bp 7 aa (fun _=>cU ((q - 1:Nat):Int) aa aa<|bd ab ab) (fun _=>J)<|bp 8 aa (fun _=>aW bB aa aa ab<|aC.ok ((aT am).2)<|bE ab) (fun _=>J)<|dM 9 aa (fun w' C=>ld bM aa<|ca (i:=q - 1) ((aT am).2.wk C) ab) J<|bg 10 aa (.slice c n cp) J<|bg 11 aa (aj q) J<|bp 12 aa (fun _=>aW bB aa aa ab<|aC.ok ((aT am).2)<|bE ab) (fun _=>J)<|dM 13 aa (fun w' C=>ld bM aa<|ca (i:=q) ((aT am).2.wk C) ab) J<|bp 14 aa (fun _=>aW bB aa aa ab<|aC.ok ((aT am).2)<|bE ab) (fun _=>J) ?_
 refine cQ 15 aa ag ag<|eE (u:=M[q - 1]!) (q) (aV am J) eu aa aa aa ab fun dm cc cB=>bp 16 aa (fun _=>aW bB aa aa ab<|aC.ok ((aT am).2)<|bE ab) (fun h=>c8<|(show true =_ from by kernel_rfl).trans h)<|cQ 17 aa ag ag<|eE (u:=M[q]!) (q - 1) cB eu aa aa aa ab fun bT ce cC=> ?_
 have ci:bT.ownsRow B 51 1 (.slice c n cp) n (LE aO<|bJ M (q)<|q - 1):=cC
 have b9:Md (fun q=>(bz c n cp).ownBlock=some q) aR bT:=Md.trans (J.mono fun _ _ h=>h.elim)<|Md.trans cc ce
 exact eh ag<|bn<|a5<|rg aa<|ao (aj q)<|p (bG ((q+1:Nat):Int) aa aa<|bd ab ab)<|p aA<|nl<|tn<|⟨_,ab,q+1,bJ M q (q - 1),ab,(by rw [← bu,QG (show q < b by omega) (by simpa using bl)]),ci,(Md.trans bk<|Md.trans (aF.mono fun _ _ h=>h.elim) b9),aa,aa,aa,aa,aa,aa,aa⟩
 exact ext<|bc<|bc<|be<|bn<|aP<|rg aa<|ao (aj s)<|p (bG ((s+1:Nat):Int) aa aa<|bd ab ab)<|p aA<|nl<|tn<|⟨_,ab,s+1,i2,M,ab,(by rw [← aH,pi_go (show 0 < 5 - s by omega) aQ bf ab bq (show M=_ by rw [if_pos ab,← bu,Ee (.inl ab)])]; rfl),ae,bk,aa,aa,aa,aa,aa,aa⟩
 exact aM<|bn<|aP<|rg aa<|ao (aj s)<|p (bG ((s+1:Nat):Int) aa aa<|bd ab ab)<|p aA<|nl<|tn<|⟨_,ab,s+1,i2,ai,ab,(by rw [← aH,pi_go (show 0 < 5 - s by omega) aQ bf ab bq (show ai=_ by rw [if_neg ab])]; rfl),bN,bF,aa,aa,aa,aa,aa,aa⟩
 refine ext<|bc<|bc<|be<|bX<|ak fun aP=>p aA<|nl<|aP<|rt<|a6 aa ?_
 have ah:(qq bC d a b)=(E,false):=by rw [← aH,show 5 - s=0 by omega]; rfl
 exact ⟨by rw [ah]; rfl,by rw [ah]; exact bL,bx⟩
theorem OV (d:Array Nat) (a b i:Nat) (B n cp:Nat) (c:Option Addr) (w:World) (C:w.ownsRow B 51 1 (.slice c n cp) n (LE aO d)) (E:a≤i∧i < b∧b≤n) (G:n≤1099511627776):ba au 291 (aY [.slice c n cp,.int .i64 (a:Nat),.int .i64 (b:Nat),.int .i64 (i:Nat)]) w
 (fun v w'=> ∃ A ap d4,n4 bC d a b i=(A,ap,d4)∧v= .tuple #[.int .i64 (A:Nat),.bool ap]∧w'.ownsRow B 51 1 (.slice c n cp) n (LE aO d4)∧Md (fun q=>(bz c n cp).ownBlock=some q) w w'):=
 (OU d a b i B n cp c w C E G).mono fun _ _ h=>⟨_,_,_,rfl,h⟩
theorem OX (d:Array Nat) (a b i:Nat) (B n cp:Nat) (c:Option Addr) (w:World) (C:w.ownsRow B 51 1 (.slice c n cp) n (LE aO d)) (E:a≤i∧i < b∧b≤n) (G:n≤1099511627776):ba au 290 (aY [.slice c n cp,.int .i64 (a:Nat),.int .i64 (b:Nat),.int .i64 (i:Nat)]) w
 (fun v w'=> ∃ A d4,sn bC d a b i=(A,d4)∧v= .int .i64 (A:Nat)∧w'.ownsRow B 51 1 (.slice c n cp) n (LE aO d4)∧Md (fun q=>(bz c n cp).ownBlock=some q) w w'):=
 (OW d a b i B n cp c w C E G).mono fun _ _ h=>⟨_,_,rfl,h⟩
theorem OY (m:Nat) (d:Array Nat) (a b lim:Nat) (B n cp:Nat) (C:Option Addr) (w:World) (bt:w.ownsRow B 51 1 (.slice C n cp) n (LE aO d)) (hm:b - a < m) (dr:a≤b∧b≤n) (cI:n≤255) (dx:lim≤64) (bX:zj bC a b d):
 ba au 268 (aY [.slice C n cp,aj a,aj b,aj lim]) w (fun v w'=> ∃ d1,v= .tuple #[]∧lO a b d d1∧qp bC a b d1∧w'.ownsRow B 51 1 (.slice C n cp) n (LE aO d1)∧Md (fun q=>(bz C n cp).ownBlock=some q) w w'):=by
 have bL:True:=trivial
 induction m generalizing d a b lim w with
 | zero=>omega
 | succ m bL=>
   have bJ:∀ (d:Array Nat) (a b lim:Nat) (w:World),w.ownsRow B 51 1 (.slice C n cp) n (LE aO d)→b - a < m→(a≤b∧b≤n)→lim≤64→zj bC a b d→_:=fun d a b lim w h1 h2 h3 h4 h5=>bL d a b lim w h1 h2 h3 h4 h5
   have dw:=ea bt
   refine enter func268 aa ntmps268 aa<|ak fun bO=>ay<|bO<|ak fun bR=>p aA<|nl<|bR<|aB<|lp (fun bm al bl=> ∃ (c A ac:Nat) (wb wp:Bool) (G:Array Nat),(a≤c∧c≤A∧A≤b∧ac≤64)∧(zj bC c A G)∧(∀ R,lO c A G R→qp bC c A R→lO a b d R∧qp bC a b R)∧(bl.ownsRow B 51 1 (.slice C n cp) n<|LE aO G)∧(Md (fun q=>(bz C n cp).ownBlock=some q) w bl)∧(al 0= .slice C n cp)∧(al 1=aj c)∧(al 2=aj A)∧(al 3=aj ac)∧(al 8= .bool wb)∧(al 9= .bool wp)∧(A - c=bm)) _ ⟨a,b,lim,true,true,d,ab,bX,(fun R h1 h2=>⟨h1,h2⟩),bt,(Md.refl _ _),aa,aa,aa,aa,aa,aa,aa⟩ ?_
   rintro bm al bl ⟨c,A,ac,wb,wp,G,dA,aU,am,ax,aK,cK,cL,cM,cN,cO,cP,rfl⟩
   refine fx 0 cK<|fx 1 cL<|fx 2 cM<|fx 3 cN<|fx 8 cO<|fx 9 cP ?_
   have dv:=ea ax
   refine aB<|ak fun bT=>ao (aj A)<|ao (aj c)<|p (cU ((A - c:Nat):Int) aa aa<|bd ab ab)<|p aA<|nl<|bT<|az fun bU=>ak fun bV=>p mv<|p (le aa aa)<|nl<|bV ?_
   refine cd aa (fun cu=> ?_) fun cu=> ?_
   refine ak fun aS=>ao (.slice C n cp)<|ao (aj c)<|ao (aj A)<|e<|cl Ij (Na G c A B n cp C _ ax ab ab) aa fun dD dL ci=> ?_
   obtain ⟨rfl,b6,b0⟩:=ci
   refine nl<|aS<|rt<|tr<|br<|tr<|br<|tz aa ?_
   obtain ⟨h1,h2⟩:=Go.Sort.insertionSort_holds rB G c A ab ab
   obtain ⟨aF,aH⟩:=am _ (h1)<|h2
   exact ⟨_,aa,aF,aH,b6,Md.trans aK b0⟩
   refine aM<|bU<|az fun aS=>ak fun bW=>ao (aj ac)<|p (bS aa aa)<|nl<|bW<|cd aa (fun cv=> ?_) fun cv=> ?_
   refine ak fun ar=>ao (.slice C n cp)<|ao (aj c)<|ao (aj A)<|e<|cl Ik (MR G c A B n cp C _ ax ab ab) aa fun dE dM cj=> ?_
   obtain ⟨rfl,b7,b1⟩:=cj
   refine nl<|ar<|rt<|tr<|br<|tr<|br<|tz aa ?_
   obtain ⟨h1,h2⟩:=Go.Sort.heapSort_holds rB G c A ab ab
   obtain ⟨aF,aH⟩:=am _ (h1)<|h2
   exact ⟨_,aa,aF,aH,b7,Md.trans aK b1⟩
   refine aM<|aS ?_
   refine ep (fun ad bi=> ∃ (I:Nat) (d1:Array Nat),(I≤64)∧(lO c A G d1)∧(bi.ownsRow B 51 1 (.slice C n cp) n<|LE aO d1)∧(Md (fun q=>(bz C n cp).ownBlock=some q) w bi)∧(ad 0= .slice C n cp)∧(ad 1=aj c)∧(ad 2=aj A)∧(ad 3=aj I)∧(ad 8= .bool wb)∧(ad 9= .bool wp)∧(ad 10=aj (A - c))) ?_ ?_
   refine ak fun ar=>ao (.bool wb)<|p (no aa)<|nl<|ar<|cb aa (fun cw=> ?_) fun cw=> ?_
   refine ak fun M=>ao (.slice C n cp)<|ao (aj c)<|ao (aj A)<|e<|cl Il (Hp G c A B n cp C _ ax ab cI) aa fun dF dN ck=> ?_
   obtain ⟨d1,rfl,cJ,b8,b2⟩:=ck
   exact nl<|M<|rg aa<|ao (aj ac)<|p (cU ((ac - 1:Nat):Int) aa aa<|bd ab ab)<|p aA<|nl<|tn<|⟨ac - 1,d1,ab,cJ,b8,(Md.trans aK b2),aa,aa,aa,aa,aa,aa,aa⟩
   exact aM<|tn<|⟨ac,G,ab,(FK G c A),ax,aK,aa,aa,aa,aa,aa,aa,aa⟩
   rintro ad bi ⟨I,d1,dy,bF,ce,b5,cQ,cR,cT,cV,cW,cX,cS⟩
   refine fx 0 cQ<|fx 1 cR<|fx 2 cT<|fx 3 cV<|fx 8 cW<|fx 9 cX<|fx 10 cS<|ak fun ar=>ao (.slice C n cp)<|ao (aj c)<|ao (aj A)<|e<|cl Im (I2 d1 c A B n cp C _ ce ab ab) aa fun v46 dO cm=> ?_
   obtain ⟨aN,dp,rfl,dz,a0,bY⟩:=cm
   have bo:=Md.trans b5<|bY.mono fun _ _ h=>h.elim
   refine p mv<|p (xt aa aa)<|p (xt aa aa)<|p aA<|ay<|ar ?_
   refine ep (fun U bj=> ∃ (J:Nat) (bf:Int) (d2:Array Nat),(c≤J∧J < A)∧(lO c A G d2)∧(bj.ownsRow B 51 1 (.slice C n cp) n<|LE aO d2)∧(Md (fun q=>(bz C n cp).ownBlock=some q) w bj)∧(U 0= .slice C n cp)∧(U 1=aj c)∧(U 2=aj A)∧(U 3=aj I)∧(U 8= .bool wb)∧(U 9= .bool wp)∧(U 10=aj (A - c))∧(U 11=aj J)∧(U 12= .int .i64 bf)) ?_ ?_
   refine ak fun M=>p mv<|p (bS aa aa)<|nl<|M<|cd aa (fun cx=> ?_) fun cx=> ?_
   refine ak fun ae=>ao (.slice C n cp)<|ao (aj c)<|ao (aj A)<|e<|cl Io (PF d1 c A B n cp C _ a0 ab ab) aa fun dG dP cn=> ?_
   obtain ⟨rfl,b9,b3⟩:=cn
   have ds:=ea a0
   exact nl<|ae<|ak fun aq=>ao (aj A)<|p (cU ((A - 1:Nat):Int) aa aa<|bd ab ab)<|p mv<|ao (aj c)<|p (cU ((aN - c:Nat):Int) aa aa<|bd ab ab)<|p (cU ((A - 1 - (aN - c):Nat):Int) aa aa<|bd ab ab)<|ay<|aq<|rg aa<|p aA<|nl<|tn<|⟨A - 1 - (aN - c),1,zm d1 c A,ab,(oW _ _ _ c A bF<|Go.Sort.reverseRange_holds d1 c A ab ab),b9,(Md.trans bo b3),aa,aa,aa,aa,aa,aa,aa,aa,aa⟩
   exact aM<|tn<|⟨aN,dp,d1,ab,bF,a0,bo,aa,aa,aa,aa,aa,aa,aa,aa,aa⟩
   rintro U bj ⟨J,bf,d2,aL,an,aD,aw,cY,cZ,c3,c4,c5,c6,c0,c1,c2⟩
   refine fx 0 cY<|fx 1 cZ<|fx 2 c3<|fx 3 c4<|fx 8 c5<|fx 9 c6<|fx 10 c0<|fx 11 c1<|fx 12 c2 ?_
   refine ep (fun V ai=> ∃ (d3:Array Nat),(lO c A G d3)∧(ai.ownsRow B 51 1 (.slice C n cp) n<|LE aO d3)∧(Md (fun q=>(bz C n cp).ownBlock=some q) w ai)∧(V 0= .slice C n cp)∧(V 1=aj c)∧(V 2=aj A)∧(V 3=aj I)∧(V 8= .bool wb)∧(V 9= .bool wp)∧(V 10=aj (A - c))∧(V 11=aj J)) ?_ ?_
   refine ak fun M=>ao (.bool wb)<|ao (.bool wb)<|gb (t:=62) aa (fun cA=> ?_) fun cA=> ?_
   refine aR aa (aG (.bool wp) aa)<|p (bI aa)<|p mv<|gb (t:=65) aa (fun cB=> ?_) fun cB=> ?_
   refine aR aa (aG (.int .i64 bf) aa)<|aR aa (bS aa aa)<|p (bI aa)<|nl<|M<|cd aa (fun cy=> ?_) fun cy=> ?_
   refine ak fun ae=>ao (.slice C n cp)<|ao (aj c)<|ao (aj A)<|e<|cl Ip (Pb d2 c A B n cp C _ aD ab ab) aa fun v72 dQ co=> ?_
   obtain ⟨rfl,bu,bp⟩:=co
   have dt:=ea aD
   obtain ⟨bA,cD⟩:=Go.Sort.partialInsertionSort_holds rB d2 c A ab ab<|zk aU ab an
   refine nl<|ae<|cb aa (fun bw=> ?_) fun bw=> ?_
   have dn:=cD bw
   refine rt<|tr<|br<|tr<|br<|tz aa ?_
   obtain ⟨aF,aH⟩:=am _ (oW _ _ _ c A an bA)<|dn
   exact ⟨_,aa,aF,aH,bu,Md.trans aw bp⟩
   exact aM<|tn<|⟨_,(oW _ _ _ c A an bA),bu,(Md.trans aw bp),aa,aa,aa,aa,aa,aa,aa,aa⟩
   exact aM<|tn<|⟨d2,an,aD,aw,aa,aa,aa,aa,aa,aa,aa,aa⟩
   exact aJ aa<|aJ aa<|p (bD aa)<|nl<|M<|cf aa<|aM<|tn<|⟨d2,an,aD,aw,aa,aa,aa,aa,aa,aa,aa,aa⟩
   exact aJ aa<|p (bD aa)<|p mv<|aJ aa<|aJ aa<|p (bD aa)<|nl<|M<|cf aa<|aM<|tn<|⟨d2,an,aD,aw,aa,aa,aa,aa,aa,aa,aa,aa⟩
   rintro V ai ⟨d3,aE,Z,aX,c7,c8,db,dc,dd,de,c9,da⟩
   refine fx 0 c7<|fx 1 c8<|fx 2 db<|fx 3 dc<|fx 8 dd<|fx 9 de<|fx 10 c9<|fx 11 da ?_
   refine ep (fun Y bk=>(bk.ownsRow B 51 1 (.slice C n cp) n<|LE aO d3)∧(Md (fun q=>(bz C n cp).ownBlock=some q) w bk)∧(Y 0= .slice C n cp)∧(Y 1=aj c)∧(Y 2=aj A)∧(Y 3=aj I)∧(Y 8= .bool wb)∧(Y 9= .bool wp)∧(Y 10=aj (A - c))∧(Y 11=aj J)) ?_ ?_
   refine az fun M=> ?_
   have cz:=ea Z
   have E:(fun w'=>Wk ai w') ai.drew:=(Md.refl _ _).drew
   refine bK (fun w'=>Wk ai w') aa wide E<|bH 0 aa (aj c) E<|aI 1 aa (fun _ _=>gt aa aa) E<|aI 2 aa (fun _ _=>mv) E<|js (t:=75) aa (fun cC=> ?_) fun cC=> ?_
   refine bh 3 aa (fun _ _=>aG (.slice C n cp) aa) E<|bh 4 aa (fun _ _=>aG (aj c) aa) E<|bh 5 aa (fun _ _=>cU ((c - 1:Nat):Int) aa aa<|bd ab ab) E<|bh 6 aa (fun _ _=>aW bB aa aa ab<|aC.ok ((aT Z).2)<|bE ab) E<|bh 7 aa (fun w' a3=>ld bM aa<|ca (i:=c - 1) ((aT Z).2.wk a3) ab) E<|bh 8 aa (fun _ _=>aG (.slice C n cp) aa) E<|bh 9 aa (fun _ _=>aG (aj J) aa) E<|bh 10 aa (fun _ _=>aW bB aa aa ab<|aC.ok ((aT Z).2)<|bE ab) E<|bh 11 aa (fun w' a3=>ld bM aa<|ca (i:=J) ((aT Z).2.wk a3) ab) E<|ku 12 aa ag aa aa aa<|cl jZ (j5 d3[c - 1]! d3[J]! _) aa fun v85 dq cq=> ?_
   obtain ⟨rfl,bZ⟩:=cq
   have ah:(fun w'=>Wk ai w') dq:=Md.trans E bZ
   refine ⟨ah,?_⟩
   refine bh 13 aa (fun _ _=>no aa) ah<|aI 14 aa (fun _ _=>bI aa) ah<|hn ag<|M<|cb aa (fun bx=> ?_) fun bx=> ?_
   refine ak fun ae=>ao (.slice C n cp)<|ao (aj c)<|ao (aj A)<|ao (aj J)<|e<|cl Iq (OX d3 c A J B n cp C _ (aV Z ah) ab ab) aa fun dH dR cr=> ?_
   obtain ⟨O,d4,bg,rfl,cc,b4⟩:=cr
   obtain ⟨bH,cE,cF,a6,a8⟩:=Go.Sort.round_eq rB (Go.Sort.partitionEqual_holds bC) (show 0 < c by omega) aL.1 aL.2 ab (zk aU ab aE) (by simpa using bx) bg
   exact ay<|ae<|ak fun aq=>p mv<|p aA<|nl<|aq<|ext<|bc<|be<|tn<|⟨_,ab,O,A,I,wb,wp,d4,ab,a6,(fun R h1 h2=>by obtain ⟨h3,h4⟩:=a8 R h1 h2; exact am R (oW _ _ _ c A aE h3) h4),cc,(Md.trans aX<|Md.trans (ah.mono fun _ _ h=>h.elim) b4),aa,aa,aa,aa,aa,aa,aa⟩
   exact aM<|tn<|⟨(aV Z ah),(Md.trans aX<|ah.mono fun _ _ h=>h.elim),aa,aa,aa,aa,aa,aa,aa,aa⟩
   exact a7 3 aa E<|a7 4 aa E<|a7 5 aa E<|a7 6 aa E<|a7 7 aa E<|a7 8 aa E<|a7 9 aa E<|a7 10 aa E<|a7 11 aa E<|a7 12 aa E<|a7 13 aa E<|aI 14 aa (fun _ _=>bD aa) E<|hn ag<|M<|cf aa<|aM<|tn<|⟨(aV Z (Md.refl _ _).drew),aX.drew,aa,aa,aa,aa,aa,aa,aa,aa⟩
   rintro Y bk ⟨bv,bs,df,dg,dj,dk,dl,dm,dh,di⟩
   refine fx 0 df<|fx 1 dg<|fx 2 dj<|fx 3 dk<|fx 8 dl<|fx 9 dm<|fx 10 dh<|fx 11 di<|ak fun M=>ao (.slice C n cp)<|ao (aj c)<|ao (aj A)<|ao (aj J)<|e<|cl Ir (OV d3 c A J B n cp C _ bv ab ab) aa fun dI bN cs=> ?_
   obtain ⟨O,ap,d4,bg,rfl,a1,bq⟩:=cs
   have cz:=ea bv
   have du:=ea a1
   obtain ⟨bH,cE,cF,a6,a8,cG,cH⟩:=Go.Sort.round_part rB (Go.Sort.partition_holds bC) aL.1 aL.2 ab (zk aU ab aE) bg
   refine p mv<|p (xt aa aa)<|p (xt aa aa)<|p aA<|ay<|M<|az fun ae=>rg aa<|p mv<|ay<|ae<|ak fun aq=>p mv<|ao (aj c)<|p (cU ((O - c:Nat):Int) aa aa<|bd ab ab)<|ao (aj A)<|p mv<|p (cU ((A - O:Nat):Int) aa aa<|bd ab ab)<|p aA<|p aA<|nl<|aq<|ak fun bP=>ao (aj<|A - c)<|p (nM (((A - c) / 8:Nat):Int) aa aa ab<|bd ab ab)<|ay<|bP ?_
   refine ak fun bQ=>p mv<|p mv<|p (lt aa aa)<|nl<|bQ<|cd aa (fun ct=> ?_) fun ct=> ?_
   refine ak fun aP=>p mv<|p mv<|p (ge aa aa)<|ay<|aP<|ak fun aQ=>ao (.slice C n cp)<|ao (aj c)<|p mv<|ao (aj I)<|e<|cl vT (bJ d4 c O I bN a1 ab ab ab a6) aa fun dB dJ cg=> ?_
   obtain ⟨av,rfl,a9,bb,a2,aZ⟩:=cg
   obtain ⟨a4,a5⟩:=cG av a9 bb
   exact nl<|aQ<|rg aa<|p mv<|p (bG ((O+1:Nat):Int) aa aa<|bd ab ab)<|p aA<|nl<|bn<|tn<|⟨_,ab,O+1,A,I,decide (((O - c:Nat):Int)≥(((A - c) / 8:Nat):Int)),ap,av,ab,a4,(fun R h1 h2=>by obtain ⟨h3,h4⟩:=a5 R h1 h2; exact am R (oW _ _ _ c A aE h3) h4),a2,(Md.trans bs<|Md.trans bq aZ),aa,aa,aa,aa,aa,aa,aa⟩
   refine ak fun aP=>p mv<|p mv<|p (ge aa aa)<|ay<|aP<|ak fun aQ=>ao (.slice C n cp)<|p mv<|p (bG ((O+1:Nat):Int) aa aa<|bd ab ab)<|ao (aj A)<|ao (aj I)<|e<|cl vT (bJ d4 (O+1) A I bN a1 ab ab ab a8) aa fun dC dK ch=> ?_
   obtain ⟨av,rfl,a9,bb,a2,aZ⟩:=ch
   obtain ⟨a4,a5⟩:=cH av a9 bb
   exact nl<|aQ<|rg aa<|p mv<|p aA<|nl<|bn<|tn<|⟨_,ab,c,O,I,decide (((A - O:Nat):Int)≥(((A - c) / 8:Nat):Int)),ap,av,ab,a4,(fun R h1 h2=>by obtain ⟨h3,h4⟩:=a5 R h1 h2; exact am R (oW _ _ _ c A aE h3) h4),a2,(Md.trans bs<|Md.trans bq aZ),aa,aa,aa,aa,aa,aa,aa⟩
theorem Qi (d:Array Nat) (B n cp:Nat) (a:Option Addr) (w:World) (A:w.ownsRow B 51 1 (.slice a n cp) n (LE aO d)) (G:n≤255):
 ba au 246 (aY [.slice a n cp]) w (fun v w'=> ∃ d1,v= .tuple #[]∧lO 0 n d d1∧qp bC 0 n d1∧w'.ownsRow B 51 1 (.slice a n cp) n (LE aO d1)∧Md (fun q=>(bz a n cp).ownBlock=some q) w w'):=by
 refine enter func246 aa ntmps246 aa<|ak fun i=>ao (.slice a n cp)<|p (bO mm aa aa)<|ay<|i<|rg aa<|ao (.slice a n cp)<|p mv<|p mv<|p (l5 Ez qe aa<|mr ab)<|e<|cl Af (CV n _ ab) aa fun v9 M E=> ?_
 obtain ⟨rfl,c⟩:=E
 have I:=tN (n:=n) ab
 refine e<|cl vT (OY (n+1) d 0 n (jc n) B n cp a _ (aV A c) ab ab G ab<|.inl aa) aa fun v10 J C=> ?_
 obtain ⟨d1,rfl,h1,h2,h3,h4⟩:=C
 exact nl<|f0 aa<|⟨d1,aa,h1,h2,h3,Md.trans (c.mono fun _ _ h=>h.elim) h4⟩
end Go.Hb
namespace Go.Hb.fV
theorem p7 {w:World} {B e n cp i:Nat} {a:Option Addr} {d:Array Nat} (h:w.ownsRow B e 1 (.slice a n cp) n (LE aO d)):aC w.heap (ez a cp i 1) ((LE aO d).drop i):=by
 have :=(aT h).2.drop (cap:=cp) (k:=i) (size:=1)<|by rw [rA]; have h1:=ea h; have h2:=(aT h).1; omega
 rwa [Nat.mul_one] at this
theorem N0 (l:List Nat):l.map aO=LE aO l.toArray:=by simp [LE]
theorem pj (l:List Nat):(l.map aO).all eH=true :=by
 rw [List.all_eq_true]; intro v a; obtain ⟨x,_,rfl⟩:=List.mem_map.1 a; rfl
theorem QR (d:Array Nat) (k:Nat):(LE aO d).take k=(d.toList.take k).map aO:=by simp [LE,List.map_take]
theorem rR (b:UInt8):gx b=decide ((b.toNat:Int) > 32∧(b.toNat:Int) < 127∧(b.toNat:Int)≠47∧(b.toNat:Int)≠44∧(b.toNat:Int)≠35):=by
 unfold gx; exact decide_eq_decide.2 ab
theorem OP {w:World} {B e size n cp:Nat} {a:Option Addr} {xs:List Value} (h:w.ownsRow B e size (.slice a n cp) n xs) (hn:0 < n):a≠none:=by
 rintro rfl
 rcases h.2 with ⟨_,h5⟩ | ⟨g,cap,cur,h4,_⟩
 · omega
 · simp at h4
theorem pB (a:Option Addr) (n c:Nat) (xs:List Value) (w:World) (M:aC w.heap a xs) (ad:xs.length=n*1) (V:a=none→n=0) (h1:xs.all eH=true) (hn:n≤1048576):
 ba au 51 (aY [.slice a n c]) w (fun v w'=>bm w' w.heap.size 51 1 v n xs∧Wk w w'):=by
 refine enter func51 aa ntmps51 aa<|ak fun E=>ay<|E<|az fun G=>ak fun I=>ao (.slice a n c)<|p (pI mm aa aa)<|nl<|I<|cb aa (fun A=> ?_) fun A=> ?_
 have Y:a=none:=by simpa using A
 refine ak fun i=>ay<|i<|rt<|tr<|a6 aa ?_
 have Z:=V Y
 subst Z
 obtain rfl :=List.eq_nil_of_length_eq_zero (show xs.length=0 by omega)
 exact ⟨dI _ _ _ _,Md.refl _ _⟩
 refine aM<|G<|ak fun i=>e<|po uo fun ai an aj q J=> ?_
 have C:=J w.heap.size ab
 refine ao (.slice a n c)<|e<|ap uo (C) aa (by have :=q.size; omega) aa (M.wk q.md) (ad) (h1) ab ab fun ag ah ac U am al=> ?_
 have O:=Wk.own q.md C U<|bX _
 refine ay<|i<|rt<|a6 aa ?_
 have ae:bm ah w.heap.size 51 1 ag n xs:=by simpa using ac
 exact ⟨ae,O⟩
theorem JE (d:Array Nat) (B n cp:Nat) (a:Option Addr) (w:World) (E:w.ownsRow B 51 1 (.slice a n cp) n (LE aO d)) (bp:n≤1048576):
 ba au 247 (aY [.slice a n cp]) w (fun v w'=> ∃ k,v= .slice a k cp∧k=(fE d.toList).length∧bm w' B 51 1 (.slice a k cp) k ((fE d.toList).map aO)∧Md (fun q=>(bz a n cp).ownBlock=some q) w w'):=by
 have bo:=ea E
 have bk:=(aT E).1
 refine enter func247 aa ntmps247 aa<|ak fun aw=>ay<|aw<|az fun aK=>ak fun aL=>ao (.slice a n cp)<|p (bO mm aa aa)<|p (lt aa aa)<|nl<|aL<|cd aa (fun a2=> ?_) fun a2=> ?_
 refine ak fun am=>ao (.slice a n cp)<|p (bY (.slice a n cp) aa)<|nl<|am<|rt<|tr<|a6 aa ?_
 have ai:fE d.toList=d.toList:=by
  have aq:d.toList.length < 2:=by rw [p9]; omega
  revert aq
  generalize d.toList=l
  intro aq
  match l,aq with
  | [],_=>rfl
  | [x],_=>rfl
 exact ⟨n,aa,by rw [ai,p9]; omega,by rw [ai]; exact E,Md.refl _ _⟩
 refine aM<|aK<|az fun am=>ak fun aN=>ay<|aN<|aB<|lp (fun U ar Z=> ∃ (i:Nat),(1≤i∧i≤n∧2≤n)∧(fE (d.toList.take i)=d.toList.take i)∧(Wk w Z)∧(ar 0= .slice a n cp)∧(ar 3=aj i)∧(n - i=U)) _ ⟨1,ab,(by have h1:=uv (d:=d) (i:=0) ab; rw [h1]; rfl),(Md.refl _ _),aa,aa,aa⟩ ?_
 rintro U ar Z ⟨i,hi,V,I,bb,bf,rfl⟩
 refine fx 0 bb<|fx 3 bf<|az fun aP=>ak fun aQ=>ao (aj i)<|ao (.slice a n cp)<|p (bO mm aa aa)<|p (lt aa aa)<|nl<|aQ<|cd aa (fun aX=> ?_) fun aX=> ?_
 refine aM<|aP<|az fun an=>aB<|az fun aR=> ?_
 have A:(fun w'=>Wk Z w') Z.drew:=(Md.refl _ _).drew
 refine bK (fun w'=>Wk Z w') aa wide A<|bH 0 aa (.slice a n cp) A<|bH 1 aa (aj i) A<|aI 2 aa (fun _ _=>aW bB aa aa ab<|aC.ok ((aT E).2)<|bE ab) A<|aI 3 aa (fun w' J=>ld bM aa<|Wk.aH J<|ca (i:=i) (aT<|aV E I).2 ab) A<|bH 4 aa (.slice a n cp) A<|bH 5 aa (aj i) A<|aI 6 aa (fun _ _=>cU ((i - 1:Nat):Int) aa aa<|bd ab ab) A<|aI 7 aa (fun _ _=>aW bB aa aa ab<|aC.ok ((aT E).2)<|bE ab) A<|aI 8 aa (fun w' J=>ld bM aa<|Wk.aH J<|ca (i:=i - 1) (aT<|aV E I).2 ab) A<|aI 9 aa (fun _ _=>bS aa aa) A<|hn ag<|aR<|cd aa (fun aZ=> ?_) fun aZ=> ?_
 have heq:d[i - 1]! =d[i]! :=ab
 refine ak fun ax=>ao (.slice a n cp)<|ao (aj i)<|p (rS bB aa aa ab)<|ay<|ax<|az fun aD=>ak fun aE=>ay<|aE<|aB<|lp (fun U ac O=> ∃ (k i2:Nat) (C:Array Nat),(1≤k∧k < i+i2∧1≤i2∧i2≤n - i)∧(C.toList.drop k=d.toList.drop k)∧(C.toList.take k=fE (d.toList.take<|i+i2))∧(O.ownsRow B 51 1 (.slice a n cp) n<|LE aO C)∧(Md (fun q=>(bz a n cp).ownBlock=some q) w O)∧(ac 0= .slice a n cp)∧(ac 3=aj k)∧(ac 4= .slice (ez a cp i 1) (n - i) (cp - i))∧(ac 5=aj i2)∧(n - i2=U)) _ ⟨i,1,d,ab,aa,(by rw [tg ab ab,if_pos heq,V]),(aV E<|Md.trans I (Md.refl _ _).drew),((Md.trans I (Md.refl _ _).drew).mono fun _ _ h=>h.elim),aa,aa,aa,aa,aa⟩ ?_
 rintro U ac O ⟨k,i2,C,hk,M,Y,G,ap,bg,bh,bi,bj,rfl⟩
 refine fx 0 bg<|fx 3 bh<|fx 4 bi<|fx 5 bj ?_
 have bl:=ea G
 refine az fun aF=>ak fun aG=>ao (aj i2)<|ao (.slice (ez a cp i 1) (n - i)<|cp - i)<|p (bO mm aa aa)<|p (lt aa aa)<|nl<|aG<|cd aa (fun a0=> ?_) fun a0=> ?_
 refine aM<|aF<|az fun ae=>aB<|az fun al=> ?_
 have c:(fun w'=>Wk O w') O.drew:=(Md.refl _ _).drew
 refine bK (fun w'=>Wk O w') aa wide c<|bH 0 aa (.slice (ez a cp i 1) (n - i)<|cp - i) c<|bH 1 aa (aj i2) c<|aI 2 aa (fun _ _=>aW bB aa aa ab<|aC.ok (p7 G)<|xU ab) c<|aI 3 aa (fun w' J=>ld bM aa<|Wk.aH J<|xT (j:=i2) (p7 G) ab) c<|bH 4 aa (.slice (ez a cp i 1) (n - i)<|cp - i) c<|bH 5 aa (aj i2) c<|aI 6 aa (fun _ _=>cU ((i2 - 1:Nat):Int) aa aa<|bd ab ab) c<|aI 7 aa (fun _ _=>aW bB aa aa ab<|aC.ok (p7 G)<|xU ab) c<|aI 8 aa (fun w' J=>ld bM aa<|Wk.aH J<|xT (j:=i2 - 1) (p7 G) ab) c<|aI 9 aa (fun _ _=>gO aa aa) c<|hn ag<|al<|cd aa (fun a1=> ?_) fun a1=> ?_
 have ah:=aV G c
 have g1:=ti M (show k≤i+i2 by omega)
 have g2:=ti M (show k≤i+(i2 - 1) by omega)
 have a5:¬d[i+i2 - 1]! =d[i+i2]! :=by rw [show i+i2 - 1=i+(i2 - 1) by omega,← g1,← g2]; omega
 exact ak fun aJ=>ao (.slice a n cp)<|ao (aj k)<|ao (.slice (ez a cp i 1) (n - i)<|cp - i)<|ao (aj i2)<|p (aW bB aa aa ab<|aC.ok (p7 ah)<|xU ab)<|p (ld bM aa<|xT (j:=i2) (p7 ah) ab)<|p (aW bB aa aa ab<|aC.ok ((aT ah).2)<|bE ab)<|e<|eE (u:=C[i+i2]!) (k) ah eu aa aa aa ab fun bq aS a8=>nl<|aJ<|rg aa<|ao (aj k)<|p (bG ((k+1:Nat):Int) aa aa<|bd ab ab)<|p aA<|nl<|bn<|ae<|rg aa<|ao (aj i2)<|p (bG ((i2+1:Nat):Int) aa aa<|bd ab ab)<|p aA<|nl<|tn<|⟨_,ab,k+1,i2+1,C.setIfInBounds k C[i+i2]!,ab,(by rw [set_drop ab]; have h3:=congrArg (List.drop 1) M; rwa [zp,zp] at h3),(by rw [yz ab,Y,show i+(i2+1)=i+i2+1 from aa,tg ab ab,if_neg a5,g1]),a8,(Md.trans ap<|Md.trans (c.mono fun _ _ h=>h.elim) aS),aa,aa,aa,aa,aa⟩
 have g1:=ti M (show k≤i+i2 by omega)
 have g2:=ti M (show k≤i+(i2 - 1) by omega)
 have a3:d[i+i2 - 1]! =d[i+i2]! :=by rw [show i+i2 - 1=i+(i2 - 1) by omega,← g1,← g2]; omega
 exact aM<|bn<|ae<|rg aa<|ao (aj i2)<|p (bG ((i2+1:Nat):Int) aa aa<|bd ab ab)<|p aA<|nl<|tn<|⟨_,ab,k,i2+1,C,ab,M,(by rw [Y,show i+(i2+1)=i+i2+1 from aa,tg ab ab,if_pos a3]),(aV G (Md.refl _ _).drew),ap.drew,aa,aa,aa,aa,aa⟩
 refine ext<|bc<|bc<|be<|aD<|ak fun ae=>ao (.slice a n cp)<|ao (aj k)<|p (rS bB aa aa ab)<|e<|Jo (k:=k) mm Sb aa G aa aa ab fun bs aU a9=>nl<|ae<|ak fun al=>ao (.slice a n cp)<|ao (aj k)<|p (uf bB aa aa ab)<|ay<|al<|rt<|br<|tr<|tr<|br<|tr<|a6 aa ?_
 have ai:d.toList.take (i+i2)=d.toList:=eL<|by rw [p9]; omega
 rw [ai] at Y
 have a4:k=(fE d.toList).length:=by rw [← Y,dT,p9]; omega
 refine ⟨k,aa,a4,?_,Md.trans ap aU⟩
 have av:=Dw a9 (show k≤n by omega)<|OP E ab
 rw [Nat.mul_one,List.take_append,eL (l:=(LE aO C).take k) (by rw [dT]; omega),dT,rA,show k - min k C.size=0 by omega,nn,dS,QR,Y] at av
 exact av
 have a7:¬d[i - 1]! =d[i]! :=ab
 exact aM<|bn<|an<|rg aa<|ao (aj i)<|p (ad aa aa<|bR ab)<|p aA<|nl<|tn<|⟨_,ab,i+1,ab,(by rw [tg ab ab,if_neg a7,V,uv ab]),(Md.trans I (Md.refl _ _).drew),aa,aa,aa⟩
 refine ext<|bc<|bc<|be<|am<|ak fun an=>ao (.slice a n cp)<|p (bY (.slice a n cp) aa)<|nl<|an<|rt<|a6 aa ?_
 rw [show d.toList.take i=d.toList from eL (by rw [p9]; omega)] at V
 exact ⟨n,aa,by rw [V,p9]; omega,by rw [V]; exact aV E I,I.mono fun _ _ h=>h.elim⟩
theorem tU (l:List Nat) (a:Option Addr) (c:Nat) (w:World) (O:aC w.heap a (l.map aO)) (ag:a=none→l.length=0) (ah:l.length≤255):
 ba au 205 (aY [.slice a l.length c]) w (fun v w'=>bm w' w.heap.size 51 1 v (jO l).length ((jO l).map aO)∧Wk w w'):=by
 refine enter func205 aa ntmps205 aa<|ak fun G=>ay<|G<|ak fun I=>ao (.slice a l.length c)<|e<|cl ou (pB a l.length c (l.map aO) _ O (by simp) ag (pj l) ab) aa fun v5 an ac=> ?_
 obtain ⟨A,U⟩:=ac
 obtain ⟨i,q,rfl⟩:=cR A
 rw [N0] at A
 refine ay<|I<|ak fun J=>ao (.slice i l.length q)<|e<|cl H7 (Qi l.toArray w.heap.size l.length q i _ A ah) aa fun am ap ad=> ?_
 obtain ⟨d1,rfl,ai,aj,C,Y⟩:=ad
 refine nl<|J<|ak fun M=>ao (.slice i l.length q)<|e<|cl H8 (JE d1 w.heap.size l.length q i _ C ab) aa fun v9 al ae=> ?_
 obtain ⟨k,rfl,hk,E,Z⟩:=ae
 have V:Wk w al:=Wk.own (Wk.own U A Y<|bX _) C Z<|bX _
 refine ay<|M<|rt<|a6 aa ?_
 rw [Qh ai aj] at hk E
 exact ⟨by rw [← hk]; exact E,V⟩
theorem yA (b:UInt8) (w:World):
 ba au 266 (aY [.int .u8 b.toNat]) w (fun v w'=>v= .bool (gx b)∧Wk w w'):=by
 refine enter func266 aa ntmps266 aa<|ak fun c=>ay<|c<|ak fun a=>ao (.int .u8 b.toNat)<|p (gt aa aa)<|p mv<|gs (t:=5) aa (fun A=> ?_) fun A=> ?_
 refine aR aa (aG (.int .u8 b.toNat) aa)<|aR aa (lt aa aa)<|p (bI aa)<|p mv<|gs (t:=9) aa (fun C=> ?_) fun C=> ?_
 refine aR aa (aG (.int .u8 b.toNat) aa)<|aR aa (gO aa aa)<|p (bI aa)<|p mv<|gs (t:=13) aa (fun i=> ?_) fun i=> ?_
 refine aR aa (aG (.int .u8 b.toNat) aa)<|aR aa (gO aa aa)<|p (bI aa)<|p mv<|gs (t:=17) aa (fun q=> ?_) fun q=> ?_
 exact aR aa (aG (.int .u8 b.toNat) aa)<|aR aa (gO aa aa)<|p (bI aa)<|ay<|a<|rt<|a6 aa<|⟨by show bL (decide _)=_; rw [rR]; exact bv (by constructor <;> intro h <;> first | exact ⟨ab,ab,ab,ab,h⟩ | exact h.2.2.2.2),Md.refl _ _⟩
 exact aJ aa<|aJ aa<|p (bD aa)<|ay<|a<|rt<|a6 aa<|⟨by show bL false =_; rw [rR,decide_eq_false ab],Md.refl _ _⟩
 exact aJ aa<|aJ aa<|p (bD aa)<|p mv<|aJ aa<|aJ aa<|p (bD aa)<|p aA<|nl<|a<|rt<|a6 aa<|⟨by show bL false =_; rw [rR,decide_eq_false ab],Md.refl _ _⟩
 exact aJ aa<|aJ aa<|p (bD aa)<|p mv<|aJ aa<|aJ aa<|p (bD aa)<|p mv<|aJ aa<|aJ aa<|p (bD aa)<|ay<|a<|rt<|a6 aa<|⟨by show bL false =_; rw [rR,decide_eq_false ab],Md.refl _ _⟩
 exact aJ aa<|aJ aa<|p (bD aa)<|p mv<|aJ aa<|aJ aa<|p (bD aa)<|p mv<|aJ aa<|aJ aa<|p (bD aa)<|p mv<|aJ aa<|aJ aa<|p (bD aa)<|p aA<|nl<|a<|rt<|a6 aa<|⟨by show bL false =_; rw [rR,decide_eq_false ab],Md.refl _ _⟩
theorem CM (k:Nat) (w:World):
 ba au 242 (aY [aj k]) w (fun v w'=>v= .bool (decide (1≤k∧k≤3))∧Wk w w'):=by
 refine enter func242 aa ntmps242 aa<|ak fun c=>ay<|c<|ak fun a=>ao (aj k)<|p (ge aa aa)<|p mv<|gs (t:=5) aa (fun i=> ?_) fun i=> ?_
 exact aR aa (aG (aj k) aa)<|aR aa (le aa aa)<|p (bI aa)<|ay<|a<|rt<|a6 aa<|⟨by show bL (decide _)=_; exact bv ab,Md.refl _ _⟩
 exact aJ aa<|aJ aa<|p (bD aa)<|ay<|a<|rt<|a6 aa<|⟨by show bL false =_; rw [decide_eq_false ab],Md.refl _ _⟩
end Go.Hb.fV
section
namespace Go.Hb
open Go.Hb.fV
theorem LR {kind:Nat} {s:List UInt8} (h:kind=1∧s.length=1∧gx (s.getD 0 0)=true):dX kind s=(s.getD 0 0).toNat:=by unfold dX; rw [if_pos h.1,if_pos h.2]
theorem LS {kind:Nat} {s:List UInt8} (h:kind=2∧s.length=2∧gx (s.getD 0 0)=true∧gx (s.getD 1 0)=true):dX kind s=256 *(s.getD 0 0).toNat+(s.getD 1 0).toNat:=by unfold dX; rw [if_neg ab,if_pos h.1,if_pos h.2]
theorem LU {kind:Nat} {s:List UInt8} (h:kind=3):dX kind s=(eC s 65535).1:=by unfold dX; rw [if_neg ab,if_neg ab]
theorem LQ {kind:Nat} {s:List UInt8} (h:kind=1∨kind=2) (h1:¬(kind=1∧s.length=1∧gx (s.getD 0 0)=true)) (h2:¬(kind=2∧s.length=2∧gx (s.getD 0 0)=true∧gx (s.getD 1 0)=true)):dX kind s=0:=by
 unfold dX
 rcases h with h | h
 · rw [if_pos h,if_neg (fun h3=>h1 ⟨h,h3⟩)]
 · rw [if_neg ab,if_pos h,if_neg (fun h3=>h2 ⟨h,h3⟩)]
theorem Nc {c:UInt8} {l:List UInt8} (h:0 < l.count c):¬dK c l < 0:=by
 intro h1
 exact CJ h1<|List.idxOf_lt_length_iff.2<|u6.1 h
theorem Py (n:Nat) (x:List UInt8):ir n (str x)=(ir n x).map str:=by rw [List.map_replicate]
theorem D1 {a:List (List UInt8)} {m:Nat} {x:List UInt8} (h:0 < m):((a++ir m []).map str).set a.length (str x)=((a++ [x])++ir (m - 1) []).map str:=by
 obtain ⟨m,rfl⟩:∃ k,m=k+1:=⟨m - 1,ab⟩
 rw [← List.map_set,List.set_append_right _ _ (bX _),Nat.sub_self,List.replicate_succ,List.set_cons_zero,Nat.add_sub_cancel,dx]; rfl
theorem Lt {kind:Nat} {ps:List (List UInt8)} {i:Nat} (h:i < ps.length) (h1:¬∃ x∈ps.take i,dX kind x=0) (h2:dX kind (ps.getD i [])≠0):¬∃ x∈ps.take (i+1),dX kind x=0:=by
 rw [ka ps i [] h]
 rintro ⟨x,a,h3⟩
 rcases List.mem_append.1 a with a | a
 · exact h1 ⟨x,a,h3⟩
 · rw [List.mem_singleton] at a; subst a; exact h2 h3
theorem Cn {α:Type} {l:List α} {i:Nat} {d:α} (h:i < l.length):l.getD i d∈l:=by
 rw [List.getD_eq_getElem?_getD,List.getElem?_eq_getElem h]; exact List.getElem_mem h
theorem BR (kind:Nat) (s:List UInt8) (w:World) (hk:kind=1∨kind=2∨kind=3) (hs:s.length≤1048576):
 ba au 244 (aY [aj kind,str s]) w (fun v w'=>v=aO (dX kind s)∧Wk w w'):=by
 refine enter func244 aa ntmps244 aa<|ak fun ae=>ay<|ae<|az fun ah=>aB ?_
 refine ep (fun C ad=> ∃ (I:Bool),(I=decide (kind=1∧s.length=1∧gx (s.getD 0 0)=true))∧(Wk w ad)∧(C 0=aj kind)∧(C 1=str s)∧(C 7= .bool I)) ?_ ?_
 refine rg aa<|ao (aj kind)<|p (bS aa aa)<|p mv<|gs (t:=10) aa (fun aC=> ?_) fun aC=> ?_
 refine aR aa (aG (str s) aa)<|aR aa (db u9 aa aa)<|aR aa (bS aa aa)<|p (bI aa)<|p mv<|gs (t:=15) aa (fun aD=> ?_) fun aD=> ?_
 refine aR aa (aG (str s) aa)<|aR aa (lE 0 u9 aa aa ab)<|eg aa aa aa<|cl vS (yA (s.getD 0 0) _) aa fun aT aX ap=> ?_
 obtain ⟨rfl,al⟩:=ap
 exact p (bI aa)<|p aA<|nl<|tn<|⟨gx (s.getD 0 0),(by rw [qm,decide_eq_true_iff]; exact ⟨fun h=>⟨ab,ab,h⟩,fun h=>h.2.2⟩),al,aa,aa,aa⟩
 exact aJ aa<|aJ aa<|aJ aa<|p (bD aa)<|p aA<|nl<|tn<|⟨false,((decide_eq_false fun h=>by omega).symm),(Md.refl _ _),aa,aa,aa⟩
 exact aJ aa<|aJ aa<|aJ aa<|p (bD aa)<|p mv<|aJ aa<|aJ aa<|aJ aa<|p (bD aa)<|p aA<|nl<|tn<|⟨false,((decide_eq_false fun h=>by omega).symm),(Md.refl _ _),aa,aa,aa⟩
 rintro C ad ⟨I,Z,c,aH,aK,aL⟩
 refine fx 0 aH<|fx 1 aK<|fx 7 aL<|cb aa (fun O=> ?_) fun O=> ?_
 have U:kind=1∧s.length=1∧gx (s.getD 0 0)=true :=of_decide_eq_true<|Z ▸ O
 exact ak fun i=>ao (str s)<|p (lE 0 u9 aa aa ab)<|p (l5 uy r6 aa<|qi<|by have :=iM (s.getD 0 0); omega)<|ay<|i<|rt<|br<|tr<|a6 aa<|⟨by rw [LR U]; rfl,c⟩
 have U:¬(kind=1∧s.length=1∧gx (s.getD 0 0)=true):=of_decide_eq_false<|Z ▸ O
 refine ep (fun E q=> ∃ (J:Bool),(J=decide (kind=2∧s.length=2∧gx (s.getD 0 0)=true∧gx (s.getD 1 0)=true))∧(Wk w q)∧(E 0=aj kind)∧(E 1=str s)∧(E 23= .bool J)) ?_ ?_
 refine rg aa<|ao (aj kind)<|p (bS aa aa)<|p mv<|gs (t:=26) aa (fun aE=> ?_) fun aE=> ?_
 refine aR aa (aG (str s) aa)<|aR aa (db u9 aa aa)<|aR aa (bS aa aa)<|p (bI aa)<|p mv<|gs (t:=31) aa (fun aF=> ?_) fun aF=> ?_
 refine aR aa (aG (str s) aa)<|aR aa (lE 0 u9 aa aa ab)<|eg aa aa aa<|cl vS (yA (s.getD 0 0) _) aa fun aU aZ aq=> ?_
 obtain ⟨rfl,Y⟩:=aq
 refine p (bI aa)<|p mv<|gb (t:=36) aa (fun A=> ?_) fun A=> ?_
 refine aR aa (aG (str s) aa)<|aR aa (lE 1 u9 aa aa ab)<|eg aa aa aa<|cl vS (yA (s.getD 1 0) _) aa fun aV a0 ar=> ?_
 obtain ⟨rfl,am⟩:=ar
 exact p (bI aa)<|p aA<|nl<|tn<|⟨gx (s.getD 1 0),(by rw [qm,decide_eq_true_iff]; exact ⟨fun h=>⟨ab,ab,A,h⟩,fun h=>h.2.2.2⟩),(Md.trans c<|Md.trans Y am),aa,aa,aa⟩
 exact aJ aa<|aJ aa<|aJ aa<|p (bD aa)<|p aA<|nl<|tn<|⟨false,((decide_eq_false fun h=>by rw [h.2.2.1] at A; cases A).symm),(Md.trans c Y),aa,aa,aa⟩
 exact aJ aa<|aJ aa<|aJ aa<|p (bD aa)<|p mv<|aJ aa<|aJ aa<|aJ aa<|p (bD aa)<|p aA<|nl<|tn<|⟨false,((decide_eq_false fun h=>by omega).symm),c,aa,aa,aa⟩
 exact aJ aa<|aJ aa<|aJ aa<|p (bD aa)<|p mv<|aJ aa<|aJ aa<|aJ aa<|p (bD aa)<|p mv<|aJ aa<|aJ aa<|aJ aa<|p (bD aa)<|p aA<|nl<|tn<|⟨false,((decide_eq_false fun h=>by omega).symm),c,aa,aa,aa⟩
 rintro E q ⟨J,ac,c,aN,aP,aQ⟩
 refine fx 0 aN<|fx 1 aP<|fx 23 aQ<|cb aa (fun M=> ?_) fun M=> ?_
 have V:kind=2∧s.length=2∧gx (s.getD 0 0)=true∧gx (s.getD 1 0)=true :=of_decide_eq_true<|ac ▸ M
 have g0:=iM<|s.getD 0 0
 have g1:=iM<|s.getD 1 0
 refine az fun i=> ?_
 have a:(fun w'=>Wk q w') q.drew:=(Md.refl _ _).drew
 exact bK (fun w'=>Wk q w') aa wide a<|bH 0 aa (str s) a<|aI 1 aa (fun _ _=>lE 0 u9 aa aa ab) a<|aI 2 aa (fun _ _=>l5 uy r6 aa<|qi ab) a<|aI 3 aa (fun _ _=>shl aa aa aw<|P4 g0) a<|bH 4 aa (str s) a<|aI 5 aa (fun _ _=>lE 1 u9 aa aa ab) a<|aI 6 aa (fun _ _=>l5 uy r6 aa<|qi ab) a<|aI 7 aa (fun _ _=>z8 aa aa<|ON g0 g1) a<|aI 8 aa (fun _ _=>aA) a<|hn ag<|i<|rt<|br<|tr<|a6 aa<|⟨by rw [LS V]; rfl,c.drew⟩
 have V:¬(kind=2∧s.length=2∧gx (s.getD 0 0)=true∧gx (s.getD 1 0)=true):=of_decide_eq_false<|ac ▸ M
 refine ak fun i=>ao (aj kind)<|p (bS aa aa)<|ay<|i<|cd aa (fun ax=> ?_) fun ax=> ?_
 refine ak fun G=>ao (str s)<|e<|cl s7 (tT s 65535 _ hs aw) aa fun aW a1 av=> ?_
 obtain ⟨rfl,an⟩:=av
 have aS:=OA s
 exact p mv<|p (xt aa aa)<|p (xt aa aa)<|p aA<|ay<|G<|az fun ai=>rg aa<|p mv<|p (l5 uy qe aa<|qi ab)<|ay<|ai<|rt<|br<|tr<|a6 aa<|⟨by rw [LU ab]; rfl,Md.trans c an⟩
 exact aM<|bn<|ah<|ak fun G=>ay<|G<|rt<|a6 aa<|⟨by rw [LQ ab U V]; rfl,c⟩
theorem OJ (kind:Nat) (s:List UInt8) (w:World) (hk:kind=1∨kind=2∨kind=3) (hs:s.length≤1048576):
 ba au 239 (aY [aj kind,str s]) w (fun v w'=>v= .tuple #[aO (gL kind s).1,aj ((gL kind s).2)]∧Wk w w'):=by
 refine enter func239 aa ntmps239 aa<|ak fun q=>p aA<|ay<|q<|az fun A=>az fun C=>rg aa<|ao (aj kind)<|e<|cl Az (CM kind _) aa fun U Y M=> ?_
 obtain ⟨rfl,i⟩:=M
 refine p (no aa)<|nl<|C<|cf (by rw [decide_eq_true ab]; rfl)<|aM<|A<|ak fun E=>ao (aj kind)<|ao (str s)<|e<|cl AA (BR kind s _ hk hs) aa fun v12 V J=> ?_
 obtain ⟨rfl,c⟩:=J
 refine ay<|E<|az fun G=>ak fun I=>p mv<|p (bS aa aa)<|nl<|I<|cd aa (fun O=> ?_) fun O=> ?_
 exact ak fun a=>p aA<|ay<|a<|rt<|tr<|f2 aa aa aa<|⟨by unfold gL; rw [if_pos (show dX kind s=0 by omega)]; rfl,Md.trans i c⟩
 exact aM<|G<|ak fun a=>p mv<|p aA<|p aA<|nl<|a<|rt<|f2 aa aa aa<|⟨by unfold gL; rw [if_neg (show ¬dX kind s=0 by omega)]; rfl,Md.trans i c⟩
theorem JP (s:List UInt8) (c:UInt8) (w:World):
 ba au 297 (aY [str s,str [c]]) w (fun v w'=>v=aj (s.count c)∧Wk w w'):=by
 refine enter func297 aa ntmps297 aa<|ak fun a=>ay<|a<|az fun i=>ak fun q=>ao (str [c])<|p (db u9 aa aa)<|p (bS aa aa)<|nl<|q<|cd aa (fun h=>absurd h<|by simp) fun I=>aM<|i<|az fun E=>ak fun A=>ao (str [c])<|p (db u9 aa aa)<|p (bS aa aa)<|nl<|A<|cd aa (fun G=> ?_) fun h=>absurd aa h
 exact ak fun C=>ao (str s)<|ao (str [c])<|p (lE 0 u9 aa aa<|by simp)<|p (A1 (JC s c _) aa)<|p aA<|nl<|C<|rt<|tr<|a6 aa<|⟨aa,Md.refl _ _⟩
theorem Mn (s:List UInt8) (w:World) (hs:s.length≤1048576):
 ba au 279 (aY [str s,str [44],.int .i64 0,.int .i64 (-1)]) w (fun v w'=>bm w' w.heap.size 9 1 (v) (fS 44 [] s).length ((fS 44 [] s).map str)∧Wk w w'):=by
 have bh:=qu (a:=(44:UInt8)) (l:=s)
 have a5:=yE 44 s []
 refine enter func279 aa ntmps279 aa<|ak fun ae=>ay<|ae<|az fun ar=>ak fun av=>ao (.int .i64<|-1)<|p (bS aa aa)<|nl<|av<|cd aa (fun h=>absurd h aw) fun bb=>aM<|ar<|az fun ax=>ak fun aD=>ao (str [44])<|p (iy aa aa)<|nl<|aD<|cd aa (fun h=>absurd h<|by simp) fun bf=> ?_
 refine aM<|ax<|az fun aE=>ak fun aF=>ao (.int .i64<|-1)<|p (lt aa aa)<|nl<|aF<|cd aa (fun bg=> ?_) fun h=>absurd aw h
 refine rg aa<|ao (str s)<|ao (str [44])<|e<|cl Is (JP s 44 _) aa fun bl bp aO=> ?_
 obtain ⟨rfl,Y⟩:=aO
 refine p (bG ((s.count 44 +1:Nat):Int) aa aa<|bd ab ab)<|ay<|aE<|ak fun aG=>p mv<|ao (str s)<|p (db u9 aa aa)<|p (bG ((s.length+1:Nat):Int) aa aa<|bd ab ab)<|p (mn aa aa)<|ay<|aG<|ak fun aH=>p mv<|e<|Oh (n:=s.count 44 +1) (zv:=str []) jS R6 aa (show gA .i64 (min ((s.count 44 +1:Nat):Int) ((s.length+1:Nat):Int))=_ from iv ab) (show gA .i64 (min ((s.count 44 +1:Nat):Int) ((s.length+1:Nat):Int))=_ from iv ab) ab (by unfold maxLen; omega) fun E bq a9 aN aU=> ?_
 have Z:=aU w.heap.size<|by have :=Y.size; omega
 rw [Py] at Z
 refine ay<|aH<|ak fun ag=>p mv<|p (cU ((s.count 44:Nat):Int) aa aa<|bd ab ab)<|p aA<|nl<|ag<|ak fun ah=>ay<|ah<|az fun ai=>aB<|lp (fun U q O=> ∃ (i:Nat) (A:List (List UInt8)) (r:List UInt8),(A.length=i)∧(r.count 44 +i=s.count 44∧r.length≤s.length)∧(A++fS 44 [] r=fS 44 [] s)∧(bm O w.heap.size 9 1 (.slice (some ⟨E,0,none⟩) (s.count 44 +1)<|s.count 44 +1) (s.count 44 +1)<|(A++ir (s.count 44 +1 - i) []).map str)∧(Wk w O)∧(q 0=str r)∧(q 1=str [44])∧(q 2= .int .i64 0)∧(q 3=aj (s.count 44))∧(q 9= .slice (some ⟨E,0,none⟩) (s.count 44 +1) (s.count 44 +1))∧(q 10=aj i)∧(r.length=U)) _ ⟨0,[],s,aa,(ab),aa,Z,(Md.trans Y aN.md),aa,aa,aa,aa,aa,aa,aa⟩ ?_
 rintro U q O ⟨i,A,r,hi,bj,hd,C,V,aZ,a0,a2,a3,a4,a1,rfl⟩
 refine fx 0 aZ<|fx 1 a0<|fx 2 a2<|fx 3 a3<|fx 9 a4<|fx 10 a1 ?_
 have bk:=qu (a:=(44:UInt8)) (l:=r)
 refine az fun al=>ak fun am=>ao (aj i)<|ao (aj<|s.count 44)<|p (lt aa aa)<|nl<|am<|cd aa (fun aQ=> ?_) fun aQ=> ?_
 refine aM<|al<|aB<|ak fun I=>ao (str r)<|ao (str [44])<|e<|cl It (M2 r 44 _) aa fun bo br aP=> ?_
 obtain ⟨rfl,G⟩:=aP
 refine ay<|I<|az fun J=>ak fun an=>p mv<|p (lt aa aa)<|nl<|an<|cd aa (fun h=>absurd h<|Nc ab) fun aR=>aM<|J<|az fun ap=> ?_
 have ac:=pT (c:=(44:UInt8)) (l:=r) aR
 have bi:[(44:UInt8)].length=1:=rfl
 refine rg aa<|ao (.slice (some ⟨E,0,none⟩) (s.count 44 +1)<|s.count 44 +1)<|ao (aj i)<|ao (str r)<|p mv<|ao (.int .i64 0)<|p (bG ((r.idxOf 44:Nat):Int) aa aa<|bd ab ab)<|p (rU u9 aa aa ab)<|p (aW dD aa aa ab<|aC.ok ((aT<|aV C G).2)<|cK<|by rw [bF,lU]; omega)<|e<|p6 (j:=i) (u:=str<|r.take<|r.idxOf 44) (aV C G) mP aa aa aa ab ab fun a7 aK ad=> ?_
 have aI:Wk w a7:=Wk.own (Md.trans V G) (aV C G) aK<|bX _
 rw [← hi,D1 ab,hi] at ad
 exact nl<|ap<|ak fun aq=>ao (str r)<|p mv<|ao (str [44])<|p (db u9 aa aa)<|p (bG ((r.idxOf 44 +1:Nat):Int) aa aa<|bd ab ab)<|p (mZ u9 aa aa ab)<|ay<|aq<|rg aa<|ao (aj i)<|p (bG ((i+1:Nat):Int) aa aa<|bd ab ab)<|p aA<|nl<|bn<|tn<|⟨_,by rw [fI]; omega,i+1,A++ [r.take (r.idxOf 44)],r.drop (r.idxOf 44 +1),(by rw [bF,hi]; rfl),(by have :=Kf ac.2; rw [fI]; omega),(by rw [dx,← hd,D9 44 r [] ac.2]; rfl),(by rw [show s.count 44 +1 - (i+1)=s.count 44 +1 - i - 1 by omega]; exact ad),aI,aa,aa,aa,aa,aa,aa,aa⟩
 refine ext<|bc<|bc<|be<|ai<|ak fun I=>ao (.slice (some ⟨E,0,none⟩) (s.count 44 +1)<|s.count 44 +1)<|ao (aj i)<|ao (str r)<|p (aW dD aa aa ab<|aC.ok ((aT C).2)<|cK<|by rw [bF,lU]; omega)<|e<|p6 (j:=i) (u:=str r) C mP aa aa aa ab ab fun a8 aL M=> ?_
 have aJ:Wk w a8:=Wk.own V C aL<|bX _
 rw [← hi,D1 ab,hi] at M
 refine nl<|I<|ak fun J=>ao (.slice (some ⟨E,0,none⟩) (s.count 44 +1)<|s.count 44 +1)<|ao (aj i)<|p (bG ((i+1:Nat):Int) aa aa<|bd ab ab)<|p (uf dD aa aa ab)<|ay<|J<|rt<|a6 aa ?_
 have aX:¬(44:UInt8)∈r:=fun h=>by have :=u6.2 h; omega
 have aS:A++ [r]=fS 44 [] s:=by rw [← hd,Qp 44 r [] aX]; rfl
 rw [show s.count 44 +1 - i - 1=0 by omega,List.replicate_zero,dS,aS] at M
 exact ⟨by rw [a5,show s.count 44 +1=i+1 by omega] at*; exact M,aJ⟩
theorem QF (s:List UInt8) (w:World) (hs:s.length≤1048576):
 ba au 265 (aY [str s,str [44]]) w (fun v w'=>bm w' w.heap.size 9 1 (v) (fS 44 [] s).length ((fS 44 [] s).map str)∧Wk w w'):=by
 exact enter func265 aa ntmps265 aa<|ak fun a=>ay<|a<|ak fun c=>ao (str s)<|ao (str [44])<|e<|cl Ig (Mn s _ hs) aa fun q A i=>ay<|c<|rt<|a6 aa<|i
theorem Pa (kind:Nat) (s:List UInt8) (w:World) (hk:kind=1∨kind=2∨kind=3) (hs:s.length≤1048576):
 ba au 243 (aY [aj kind,str s]) w (fun v w'=>bm w' w.heap.size 9 1 (v) (dO kind s).length ((dO kind s).map str)∧Wk w w'):=by
 refine enter func243 aa ntmps243 aa<|ak fun V=>ay<|V<|az fun Y=>ak fun Z=>ao (aj kind)<|p (bS aa aa)<|nl<|Z<|cd aa (fun aq=> ?_) fun aq=> ?_
 refine ak fun A=>ao (str s)<|e<|cl Ic (QF s _ hs) aa fun v10 aN am=>ay<|A<|rt<|tr<|a6 aa ?_
 unfold dO; rw [if_pos ab]; exact am
 refine aM<|Y<|ak fun A=>ay<|A<|az fun ac=>ak fun ad=>ay<|ad<|aB<|lp (fun J q I=> ∃ (i:Nat) (a:List (List UInt8)) (c:Value),(i≤s.length+kind∧a.length≤i)∧(a++chunks kind (s.drop i)=chunks kind s)∧(bm I w.heap.size 9 1 (c) (a).length<|(a).map str)∧(Wk w I)∧(q 0=aj kind)∧(q 1=str s)∧(q 5=c)∧(q 6=aj i)∧(s.length - i=J)) _ ⟨0,[],.slice none 0 0,(by simp),aa,(dI _ _ _ _),(Md.refl _ _),aa,aa,aa,aa,aa⟩ ?_
 rintro J q I ⟨i,a,c,hi,hd,G,M,ax,aD,aE,aF,rfl⟩
 refine fx 0 ax<|fx 1 aD<|fx 5 aE<|fx 6 aF<|az fun ae=>ak fun ag=>ao (aj i)<|ao (str s)<|p (db u9 aa aa)<|p (lt aa aa)<|nl<|ag<|cd aa (fun an=> ?_) fun an=> ?_
 have av:s.drop i≠[]:=fun h=>by have :=congrArg kM h; rw [fI,List.length_nil] at this; omega
 refine aM<|ae<|az fun C=>aB<|rg aa<|ao (c)<|ao (str s)<|ao (aj i)<|ao (aj i)<|ao (aj kind)<|p (bG ((i+kind:Nat):Int) aa aa<|bd ab ab)<|ao (str s)<|p (db u9 aa aa)<|p (mn aa aa)<|p (rT u9 aa aa aa ab)<|e<|kT jS aa aa fun aI aH aJ E ah=> ?_
 have O:Wk w aH:=Md.trans M E.md
 refine e<|ap jS (aV G E.md) aa (by have :=O.size; omega) aa (aC.fO ah) (aa) (aa) ab ab fun aG aO U al aL aK=> ?_
 have ai:=Wk.own O (aV G E.md) al<|bX _
 rw [I3] at U
 have aw:=yr U
 exact p aA<|nl<|bn<|C<|rg aa<|ao (aj i)<|ao (aj kind)<|p (bG ((i+kind:Nat):Int) aa aa<|bd ab ab)<|p aA<|nl<|tn<|⟨_,ab,i+kind,a++ [(s.drop i).take kind],aG,(by rw [bF,iq]; omega),(by rw [← hd,wa (k:=kind) ab av,dx,zp]; rfl),aw,ai,aa,aa,aa,aa,aa⟩
 refine ext<|bc<|bc<|be<|ac<|ak fun C=>ao (c)<|p (bY (c) aa)<|nl<|C<|rt<|a6 aa ?_
 have ar:a=dO kind s:=by unfold dO; rw [if_neg ab,← hd,kL ab,wc,dS]
 exact ⟨by rw [← ar]; exact G,M⟩
theorem Cj (kind:Nat) (s:List UInt8) (w:World) (hk:kind=1∨kind=2∨kind=3) (hs:s.length≤1048576):
 ba au 200 (aY [aj kind,str s]) w (fun v w'=>(∃ a,v= .tuple #[a,aj ((ee kind s).2)]∧bm w' w.heap.size 51 1 a (ee kind s).1.length ((ee kind s).1.map aO))∧Wk w w'):=by
 refine enter func200 aa ntmps200 aa<|ak fun aD=>p aA<|ay<|aD<|az fun aI=>az fun aJ=>rg aa<|ao (aj kind)<|e<|cl Az (CM kind _) aa fun v11 bB a3=> ?_
 obtain ⟨rfl,an⟩:=a3
 refine p (no aa)<|nl<|aJ<|cf (by rw [decide_eq_true ab]; rfl)<|aM<|aI<|az fun aK=>az fun aL=>rg aa<|ao (str s)<|p (iy aa aa)<|nl<|aL<|cd aa (fun C=> ?_) fun C=> ?_
 exact ak fun ae=>p aA<|ay<|ae<|rt<|tr<|f2 aa aa aa<|⟨⟨.slice none 0 0,by unfold ee; rw [if_pos C]; rfl,by unfold ee; rw [if_pos C]; exact dI _ _ _ _⟩,an⟩
 refine aM<|aK<|ak fun ae=>ay<|ae<|az fun aN=>ak fun aP=>ao (aj kind)<|ao (str s)<|e<|cl H5 (Pa kind s _ hk hs) aa fun bz J a4=> ?_
 obtain ⟨av,aX⟩:=a4
 obtain ⟨aR,aS,rfl⟩:=cR av
 have ar:=(aT av).2
 have bw:=O8 (kind:=kind) (s:=s) ab
 have U:Wk w J:=Md.trans an aX
 refine p (bO gP aa aa)<|p mv<|nl<|aP<|aB<|lp (fun am A al=> ∃ (i:Nat) (O:Value),(i≤(dO kind s).length)∧(¬∃ x∈(dO kind s).take i,dX kind x=0)∧(bm al J.heap.size 51 1 O (((dO kind s).take i).map<|dX kind).length<|(((dO kind s).take i).map<|dX kind).map aO)∧(Wk J al)∧(A 0=aj kind)∧(A 1=str s)∧(A 6=O)∧(A 17= .slice aR (dO kind s).length aS)∧(A 18=aj ((dO kind s).length))∧(A 19=aj i)∧((dO kind s).length - i=am)) _ ⟨0,.slice none 0 0,ab,(by rintro ⟨x,bo,_⟩; simp at bo),(dI _ _ _ _),(Md.refl _ _),aa,aa,aa,aa,aa,aa,aa⟩ ?_
 rintro am A al ⟨i,O,hi,G,I,q,bf,bg,bk,bh,bi,bj,rfl⟩
 refine fx 0 bf<|fx 1 bg<|fx 6 bk<|fx 17 bh<|fx 18 bi<|fx 19 bj ?_
 have bv:(((dO kind s).take i).map<|dX kind).length≤i:=by rw [eJ,dT]; omega
 refine ak fun aQ=>p (lt aa aa)<|nl<|aQ<|az fun aE=>cd aa (fun a7=> ?_) fun a7=> ?_
 refine aM<|aE<|az fun Z=>aB<|ak fun ac=>p (aW dD aa aa ab<|aC.ok (ar.wk q)<|cK ab)<|p (ld cG aa<|cX.get (i:=i) (ar.wk q) ab)<|ay<|ac<|ak fun E=>ao (aj kind)<|p mv<|e<|cl AA (BR kind ((dO kind s).getD i []) _ hk<|by have :=O9 (kind:=kind) ab (Cn (d:= []) (show i < (dO kind s).length by omega)); omega) aa fun bA bC a5=> ?_
 obtain ⟨rfl,V⟩:=a5
 refine ay<|E<|az fun aF=>ak fun aG=>p mv<|p (bS aa aa)<|nl<|aG<|cd aa (fun a8=> ?_) fun a8=> ?_
 refine ak fun aH=>p aA<|ay<|aH<|rt<|tr<|br<|tr<|tr<|br<|tr<|f2 aa aa aa ?_
 have c:ee kind s=([],31):=by unfold ee; rw [if_neg C,if_pos ⟨_,Cn (d:= []) (show i < (dO kind s).length by omega),ab⟩]
 exact ⟨⟨.slice none 0 0,by rw [c]; rfl,by rw [c]; exact dI _ _ _ _⟩,Md.trans U<|Md.trans q V⟩
 refine aM<|aF<|rg aa<|ao (O)<|p mv<|e<|kT uo aa aa fun bs bp bt ah aU=> ?_
 have aq:Wk J bp:=Md.trans (Md.trans q V) ah.md
 refine e<|ap uo (aV (aV I V) ah.md) aa (by have :=aq.size; omega) aa (aC.fO aU) (aa) (aa) ab ab fun v31 bq bb a1 bx bu=> ?_
 have aZ:=Wk.own aq (aV (aV I V) ah.md) a1<|bX _
 have bd:bm bq J.heap.size 51 1 v31 (((dO kind s).take<|i+1).map<|dX kind).length ((((dO kind s).take<|i+1).map<|dX kind).map aO):=by
  rw [ka _ i [] ab,iK,bF,iK]; exact bb
 exact p aA<|nl<|bn<|Z<|rg aa<|p (ad aa aa<|bR ab)<|p mv<|nl<|tn<|⟨_,ab,i+1,v31,ab,(Lt ab G ab),bd,aZ,aa,aa,aa,aa,aa,aa,aa⟩
 refine ext<|bc<|bc<|be<|aN<|az fun Z=>az fun ac=> ?_
 obtain ⟨M,ag,rfl⟩:=cR I
 have bl:(((dO kind s).take i).map<|dX kind).length=(dO kind s).length:=by rw [eJ,dT]; omega
 have Y:(dO kind s).take i=(dO kind s):=eL ab
 have a9:M=none→(((dO kind s).take i).map<|dX kind).length=0:=fun h=>by obtain ⟨a2,c2,ax,_,_,h3⟩:=Rd.jP I; simp only [Value.slice.injEq] at ax; exact h3<|ax.1 ▸ h
 refine rg aa<|ao (.slice M (((dO kind s).take i).map<|dX kind).length ag)<|p (bO mm aa aa)<|p (gt aa aa)<|nl<|ac<|cd aa (fun ai=> ?_) fun ai=> ?_
 refine ak fun E=>p aA<|ay<|E<|rt<|tr<|f2 aa aa aa ?_
 rw [Y] at G bl
 have c:ee kind s=([],32):=by unfold ee; rw [if_neg C,if_neg G,if_pos (by rw [Y,eJ] at ai; omega)]
 exact ⟨⟨.slice none 0 0,by rw [c]; rfl,by rw [c]; exact dI _ _ _ _⟩,Md.trans U q⟩
 refine aM<|Z<|ak fun E=>ao (.slice M (((dO kind s).take i).map<|dX kind).length ag)<|e<|cl Aw (tU (((dO kind s).take i).map<|dX kind) M ag _ (aT I).2 a9<|by rw [eJ,dT] at*; omega) aa fun v37 bD a6=> ?_
 obtain ⟨aw,a0⟩:=a6
 refine p aA<|ay<|E<|rt<|f2 aa aa aa ?_
 rw [Y] at G aw
 have c:ee kind s=(jO ((dO kind s).map<|dX kind),0):=by unfold ee; rw [if_neg C,if_neg G,if_neg (by rw [Y,eJ] at ai; omega)]
 exact ⟨⟨v37,by rw [c]; rfl,by rw [c]; exact eD aw<|by have :=U.size; have :=q.size; omega⟩,Md.trans U<|Md.trans q a0⟩
end Go.Hb
end
namespace Go.Hb
theorem xD (b:UInt8) (w:World):
 ba au 191 (aY [.int .u8 b.toNat]) w (fun v w'=>v= .bool (oC b)∧Wk w w'):=by
 refine enter func191 aa ntmps191 aa<|ak fun c=>ay<|c<|ak fun a=>ao (.int .u8 b.toNat)<|p (bS aa aa)<|p mv<|gs (t:=5) aa (fun i=> ?_) fun i=> ?_
 exact aJ aa<|aJ aa<|p (bI aa)<|ay<|a<|rt<|a6 aa<|⟨by show bL true =_; rw [Cl,decide_eq_true (.inl ab)],Md.refl _ _⟩
 exact aR aa (aG (.int .u8 b.toNat) aa)<|aR aa (bS aa aa)<|p (bD aa)<|ay<|a<|rt<|a6 aa<|⟨by show bL (decide ((b.toNat:Int)=9))=_; rw [Cl]; exact congrArg bL (decide_eq_decide.2 ab),Md.refl _ _⟩
theorem Lz (l:List UInt8) (w:World) (bp:l.length≤1048576):
 ba au 127 (aY [str l]) w (fun v w'=>bm w' w.heap.size 9 1 v (da [] l).length ((da [] l).map str)∧Wk w w'):=by
 refine enter func127 aa ntmps127 aa<|ak fun aD=>ay<|aD<|ak fun aE=>p aA<|nl<|aE<|ak fun aF=>ay<|aF<|az fun aH=>ak fun aK=>ao (str l)<|p (db u9 aa aa)<|p mv<|nl<|aK<|aB<|lp (fun aw J ar=> ∃ (i:Nat) (a:Int) (M:List UInt8) (c:List (List UInt8)) (v:Value),(i≤l.length)∧(jk l i a M)∧(c++da M (l.drop i)=(da [] l))∧(Wk w ar)∧(bm ar w.heap.size 9 1 v (c).length<|(c).map str)∧(J 0=str l)∧(J 3=v)∧(J 4= .int .i64 a)∧(J 7= .int .i64 l.length)∧(J 8= .int .i64 i)∧(l.length - i=aw)) _ ⟨0,-1,[],[],.slice none 0 0,ab,jk.no,aa,(Md.refl _ _),(dI _ _ _ _),aa,aa,aa,aa,aa,aa⟩ ?_
 rintro aw J ar ⟨i,a,M,c,v,hi,G,hd,V,ag,a5,a7,a8,a9,bb,rfl⟩
 refine fx 0 a5<|fx 3 a7<|fx 4 a8<|fx 7 a9<|fx 8 bb ?_
 have bk:c.length≤l.length+1:=by have h1:=congrArg kM hd; have h2:=xo l []; rw [bF] at h1; omega
 refine ak fun aL=>p (lt aa aa)<|nl<|aL<|az fun aN=>cd aa (fun a0=> ?_) fun a0=> ?_
 refine aM<|aN<|az fun q=>aB<|ak fun aj=>ao (.int .i64 i)<|p (bY (.int .i64 i) aa)<|nl<|aj<|aB<|ak fun I=>ao (str l)<|ao (.int .i64 i)<|p (ja u9 aa aa ab)<|e<|cl vK (xD (l.getD i 0) _) aa fun bt bf aW=> ?_
 obtain ⟨rfl,ax⟩:=aW
 have Y:Wk w bf:=Md.trans V ax
 have bq:=Y.size
 have ah:=aV ag ax
 refine p mv<|gb (t:=16) aa (fun C=> ?_) fun C=> ?_
 refine aR aa (aG (.int .i64 a) aa)<|aR aa (ge aa aa)<|p (bI aa)<|ay<|I<|cd aa (fun aX=> ?_) fun aX=> ?_
 obtain ⟨aI,U,aq⟩:=G.pos ab
 refine ak fun E=>ao (v)<|ao (str l)<|ao (.int .i64 a)<|ao (.int .i64 i)<|p (rT u9 aa aa aa ab)<|e<|kT jS aa aa fun bg bu bi ac aO=>e<|ap jS (aV ah ac.md) aa (by have :=ac.size; omega) aa (aC.fO aO) (aa) (aa) ab ab fun bd bv a1 aT br bl=> ?_
 have aQ:=Wk.own (Md.trans Y ac.md) (aV ah ac.md) aT<|bX _
 have a2:=yr a1
 exact ay<|E<|rg aa<|p aA<|nl<|bn<|bn<|q<|rg aa<|p (ad aa aa<|bR ab)<|p mv<|nl<|tn<|⟨_,ab,i+1,-1,[],c++ [(l.take i).drop a.toNat],bd,ab,jk.no,(by rw [drop_cons 0 ab,L2 C aq,U] at hd; rw [dx]; exact hd),aQ,a2,aa,aa,aa,aa,aa,aa⟩
 refine ak fun E=>ao (str l)<|ao (.int .i64 i)<|p (ja u9 aa aa ab)<|e<|cl vK (xD (l.getD i 0) _) aa fun v31 av al=> ?_
 obtain ⟨rfl,O⟩:=al
 have Z:Wk w av:=Md.trans Y O
 have ai:=aV ah O
 refine p (no aa)<|p mv<|gb (t:=33) aa (fun A=> ?_) fun A=> ?_
 refine aR aa (aG (.int .i64 a) aa)<|aR aa (lt aa aa)<|p (bI aa)<|ay<|E<|cd aa (fun am=> ?_) fun am=> ?_
 refine rg aa<|ao (.int .i64 i)<|p (bY (.int .i64 i) aa)<|nl<|bn<|bn<|q<|rg aa<|p (ad aa aa<|bR ab)<|p mv<|nl<|tn ?_
 rw [C] at A; cases A
 refine aM<|bn<|bn<|q<|rg aa<|p (ad aa aa<|bR ab)<|p mv<|nl<|tn ?_
 rw [C] at A; cases A
 exact aJ aa<|aJ aa<|p (bD aa)<|ay<|E<|cf aa<|aM<|bn<|bn<|q<|rg aa<|p (ad aa aa<|bR ab)<|p mv<|nl<|tn<|⟨_,ab,i+1,a,M,c,v,ab,(by obtain ⟨h1,h2⟩:=G.neg ab; subst h1 h2; exact jk.no),(by obtain ⟨h1,h2⟩:=G.neg ab; subst h2; rw [drop_cons 0 ab,L1 C] at hd; exact hd),Z,ai,aa,aa,aa,aa,aa,aa⟩
 refine aJ aa<|aJ aa<|p (bD aa)<|ay<|I<|cf aa<|az fun E=>rg aa<|ao (str l)<|ao (.int .i64 i)<|p (ja u9 aa aa ab)<|e<|cl vK (xD (l.getD i 0) _) aa fun v31 av al=> ?_
 obtain ⟨rfl,O⟩:=al
 have Z:Wk w av:=Md.trans Y O
 have ai:=aV ah O
 refine p (no aa)<|p mv<|gb (t:=33) aa (fun A=> ?_) fun A=> ?_
 refine aR aa (aG (.int .i64 a) aa)<|aR aa (lt aa aa)<|p (bI aa)<|ay<|E<|cd aa (fun am=> ?_) fun am=> ?_
 exact rg aa<|ao (.int .i64 i)<|p (bY (.int .i64 i) aa)<|nl<|bn<|bn<|q<|rg aa<|p (ad aa aa<|bR ab)<|p mv<|nl<|tn<|⟨_,ab,i+1,i,[l.getD i 0],c,v,ab,(jk.begin ab),(by obtain ⟨h1,h2⟩:=G.neg ab; subst h2; rw [drop_cons 0 ab,BZ C] at hd; exact hd),Z,ai,aa,aa,aa,aa,aa,aa⟩
 exact aM<|bn<|bn<|q<|rg aa<|p (ad aa aa<|bR ab)<|p mv<|nl<|tn<|⟨_,ab,i+1,a,M++ [l.getD i 0],c,v,ab,(G.more ab ab),(by rw [drop_cons 0 ab,BZ C] at hd; exact hd),Z,ai,aa,aa,aa,aa,aa,aa⟩
 refine aJ aa<|aJ aa<|p (bD aa)<|ay<|E<|cf aa<|aM<|bn<|bn<|q<|rg aa<|p (ad aa aa<|bR ab)<|p mv<|nl<|tn ?_
 rw [C] at A; cases A
 refine ext<|bc<|bc<|be<|aH<|az fun q=>ak fun aj=>ao (.int .i64 a)<|p (ge aa aa)<|nl<|aj<|cd aa (fun aZ=> ?_) fun aZ=> ?_
 obtain ⟨aI,U,aq⟩:=G.pos ab
 refine rg aa<|ao (v)<|ao (str l)<|ao (.int .i64 a)<|p (mZ u9 aa aa ab)<|e<|kT jS aa aa fun bh bw bj ae aP=>e<|ap jS (aV ag ae.md) aa (by have :=ae.size; have :=V.size; omega) aa (aC.fO aP) (aa) (aa) ab ab fun v46 bx a3 aU bs bo=> ?_
 have aS:=Wk.own (Md.trans V ae.md) (aV ag ae.md) aU<|bX _
 have a4:=yr a3
 refine ay<|q<|ak fun I=>p mv<|p aA<|nl<|I<|rt<|a6 aa ?_
 have an:c++ [l.drop a.toNat]=(da [] l):=by rw [← hd,show l.drop i= [] from kL ab,L4 aq,U,eL ab]
 exact ⟨by rw [← an]; exact a4,aS⟩
 obtain ⟨aI,U⟩:=G.neg ab
 refine aM<|q<|ak fun I=>ao (v)<|p (bY (v) aa)<|nl<|I<|rt<|a6 aa ?_
 have an:c=(da [] l):=by rw [← hd,kL ab,U,L5,dS]
 exact ⟨by rw [← an]; exact ag,V⟩
end Go.Hb
