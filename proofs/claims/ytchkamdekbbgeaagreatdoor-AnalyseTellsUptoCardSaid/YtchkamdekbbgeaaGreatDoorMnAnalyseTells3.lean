/-
  Walks and plain laws that the law rests on, laid together. No conditions but those that each theorem names.
-/
import Derived.Test.YtchkamdekbbgeaaGreatDoorMnAnalyseTells2
set_option linter.unusedVariables false
set_option maxRecDepth 20000
set_option maxHeartbeats 1000000
open Bool renaming eq_iff_iff→pc,noConfusion→dA
open Classical renaming not_not→l6
open Go.IntKind renaming u64→dH
open Go.Proofs.Tryz renaming prog→au
open Go.Sort renaming Below→Bq,PermIn→mO,SortedIn→rW,heapBuild→Ia,heapSort→Ib,insInner→Ic,insertionSort→Ie,partLoop→Bt,partialIns→pk,partialInsertionSort→rX,partition→pn,partitionEqual→tP,permIn_refl→If,permIn_trans→qz,reverseRange→Bu,scanDown→mP,scanSorted→rY,scanUp→mQ,shiftDown→xr,shiftUp→Bv,siftDown→po,swp→bS
open Go.Sort.Below renaming perm→Bs
open Go.Value renaming bool→bO,int→ff,oneCell'→et,slice→bD,tuple→jw
open Go.World renaming ownsRow→bm,ownsRow_nil→dM
open List renaming append_assoc→ib,append_nil→eM,count_le_length→r4,count_pos_iff→xz,drop_drop→tR,drop_eq_nil_of_le→kX,eq_nil_of_length_eq_zero→fR,getD_cons_zero→ma,getD_eq_getElem?_getD→cM,getElem?_eq_getElem→bZ,length→mg,length_append→bK,length_drop→gy,length_map→eX,length_replicate→mU,length_singleton→ic,length_take→dB,map_append→gA,map_take→ID,replicate→iY,take_of_length_le→eN,take_zero→oC,toArray→aX
open Nat renaming le_refl→cw,lt_or_ge→ig
open UInt8 renaming toNat_lt→ji
open Go.Proofs.Tryz
open Go.Hb.dx Go.Proofs

namespace Go.Hb
theorem EU {s:List UInt8} (h:¬s= []) (h1:¬(1 < s.length∧(s.getD 0 0).toNat=48)):¬p8 s:=fun c=>c.elim h h1
theorem S5 {s:List UInt8} (h:¬p8 s):0 < s.length:=List.length_pos_iff.2 fun e=>h<|.inl e
theorem vI (s:List UInt8) (most:Int) (w:World) (hs:s.length≤1048576) (hm: -9223372036854775808≤most∧most≤9223372036854775807):
 ba au 137 (aX [str s,.int .i64 most]) w (fun v w'=>v= .tuple #[.int .i64 (fj s most).1,.int .i64 (fj s most).2]∧Wk w w'):=by
 refine enter func137 aa ntmps137 aa<|ak fun ah=>p aC<|aw<|ah ?_
 refine eV (fun Y V=>(¬p8 s)∧(V=w)∧(Y 0=str s)∧(Y 1= .int .i64 most)) ?_ ?_
 refine ak fun C=>ao (str s)<|p (iS aa aa)<|p mv<|gs (t:=11) aa (fun I=> ?_) fun I=> ?_
 exact aJ aa<|aJ aa<|aJ aa<|aJ aa<|fA aa<|fA aa<|fA aa<|aJ aa<|p (bN aa)<|nl<|C<|ct aa<|ak fun E=>p aC<|p aC<|nl<|E<|rt<|tr<|f2 aa aa aa<|⟨by show jw #[.int .i64 0,.int .i64 13]=_; rw [FR (.inl I)]; rfl,Md.refl _ _⟩
 refine aK aa (aH (str s) aa)<|aK aa (dv u9 aa aa)<|aK aa (gt aa aa)<|aK aa mv<|gs (t:=15) aa (fun aF=> ?_) fun aF=> ?_
 refine aK aa (aH (str s) aa)<|aK aa (mE 0 u9 aa aa ab)<|aK aa (cg aa aa)<|aK aa (bN aa)<|p (bH aa)<|nl<|C<|cd aa (fun ay=> ?_) fun ay=> ?_
 exact ak fun E=>p aC<|aw<|E<|rt<|tr<|f2 aa aa aa<|⟨by show jw #[.int .i64 0,.int .i64 13]=_; rw [FR (.inr ⟨ab,ab⟩)]; rfl,Md.refl _ _⟩
 have J:=EU (s:=s) I ab
 exact aQ<|tn<|⟨J,aa,aa,aa⟩
 exact aJ aa<|aJ aa<|aJ aa<|aK aa (bH aa)<|p (bH aa)<|nl<|C<|cf aa<|aQ<|tn<|⟨(EU (s:=s) I ab),aa,aa,aa⟩
 rintro Y V ⟨J,av,aM,aN⟩
 refine fx 0 aM<|fx 1 aN ?_
 subst av
 have hp:=S5 J
 refine ak fun C=>aw<|C<|az fun E=>ak fun al=>ao (str s)<|p (dv u9 aa aa)<|p mv<|nl<|al<|aE<|lp (fun Z A ag=> ∃ (i:Nat),(i≤s.length)∧(ag=V)∧((fH (s.take i):Int)≤max 0 most∧(0 < i→(fH (s.take i):Int)≤most))∧(∀ j,j < i→sF (s.getD j 0)=true)∧(A 0=str s)∧(A 1= .int .i64 most)∧(A 6=aj (fH<|s.take i))∧(A 22= .int .i64 s.length)∧(A 23= .int .i64 i)∧(s.length - i=Z)) _ ⟨0,ab,aa,(by rw [oC]; show (0:Int)≤_∧_; omega),(fun j ae=>by omega),aa,aa,(iv<|by first | rfl | (rw [sE ab])),aa,aa,aa⟩ ?_
 rintro Z A ag ⟨i,hi,ax,hn,ac,aO,aP,aT,aR,aS,rfl⟩
 refine fx 0 aO<|fx 1 aP<|fx 6 aT<|fx 22 aR<|fx 23 aS ?_
 subst ax
 have aU:=ji<|s.getD i 0
 refine ak fun am=>p (lt aa aa)<|nl<|am<|az fun an=>cd aa (fun aA=> ?_) fun aA=> ?_
 refine aQ<|an<|az fun O=>aE<|ak fun ap=>ao (.int .i64 i)<|p (bV (.int .i64 i) aa)<|nl<|ap<|ak fun aq=>ao (str s)<|ao (.int .i64 i)<|p (jL u9 aa aa ab)<|p (yB u3 tA aa<|cH ab)<|p (sb aa aa<|cH ab)<|aw<|aq<|az fun ai=>ak fun G=>p mv<|p (lt aa aa)<|p mv<|gs (t:=33) aa (fun aG=> ?_) fun aG=> ?_
 refine aJ aa<|aJ aa<|p (bN aa)<|p mv<|aJ aa<|aJ aa<|aJ aa<|p (bN aa)<|p mv<|aJ aa<|aJ aa<|aJ aa<|aJ aa<|aJ aa<|aJ aa<|p (bN aa)<|nl<|G<|ct aa<|ak fun c=>p aC<|p aC<|nl<|c<|rt<|tr<|br<|tr<|tr<|br<|tr ?_
 exact f2 aa aa aa<|⟨by show jw #[.int .i64 0,.int .i64 13]=_; rw [FQ (i:=i) ab (Dz ab)]; rfl,Md.refl _ _⟩
 refine aK aa mv<|aK aa (gt aa aa)<|p (bH aa)<|p mv<|gs (t:=37) aa (fun aI=> ?_) fun aI=> ?_
 exact aJ aa<|aJ aa<|aJ aa<|p (bN aa)<|p mv<|aJ aa<|aJ aa<|aJ aa<|aJ aa<|aJ aa<|aJ aa<|p (bN aa)<|nl<|G<|ct aa<|az fun c=>rg aa<|p aC<|aw<|c<|rt<|tr<|br<|tr<|tr<|br<|tr<|f2 aa aa aa<|⟨by show jw #[.int .i64 0,.int .i64 13]=_; rw [FQ (i:=i) ab (Dz ab)]; rfl,Md.refl _ _⟩
 refine aK aa (aH (.int .i64 most) aa)<|aK aa mv<|aK aa (lt aa aa)<|p (bH aa)<|p mv<|gs (t:=42) aa (fun aL=> ?_) fun aL=> ?_
 refine aJ aa<|aJ aa<|aJ aa<|aJ aa<|aJ aa<|aJ aa<|p (bN aa)<|nl<|G<|ct aa<|ak fun c=>p aC<|aw<|c ?_
 exact rt<|tr<|br<|tr<|tr<|br<|tr<|f2 aa aa aa<|⟨by show jw #[.int .i64 0,.int .i64 13]=_; rw [FO (i+1) (by rw [sE ab]; omega)]; rfl,Md.refl _ _⟩
 have aV:((s.getD i 0).toNat:Int) - 48≤most:=ab
 refine aK aa (aH (aj<|fH<|s.take i) aa)<|aK aa (aH (.int .i64 most) aa)<|aK aa mv<|aK aa (sb aa aa<|cH ab)<|aK aa (oY (((most - (((s.getD i 0).toNat:Int) - 48)).toNat / 10:Nat):Int) aa aa ab<|bf ab ab)<|aK aa (gt aa aa)<|p (bH aa)<|nl<|G<|cd aa (fun aB=> ?_) fun aB=> ?_
 exact ak fun c=>p aC<|aw<|c<|rt<|tr<|br<|tr<|tr<|br<|tr<|f2 aa aa aa<|⟨by show jw #[.int .i64 0,.int .i64 13]=_; rw [FO (i+1) (by rw [sE ab]; omega)]; rfl,Md.refl _ _⟩
 have aD:sF (s.getD i 0)=true :=decide_eq_true ab
 exact aQ<|ai<|rg aa<|ao (aj<|fH<|s.take i)<|p (qe ((fH (s.take i)*10:Nat):Int) aa aa<|bf ab ab)<|p mv<|p (bG ((fH (s.take i)*10 +((s.getD i 0).toNat - 48):Nat):Int) aa aa<|bf ab ab)<|p aC<|nl<|bn<|O<|rg aa<|p (ad aa aa<|cH ab)<|p mv<|nl<|tn<|⟨_,ab,i+1,ab,aa,(by rw [sE ab]; omega),(fun j ae=>by rcases ig j i with h | h <;> first | exact ac j h | (rw [show j=i by omega]; exact aD)),aa,aa,(iv<|by first | rfl | (rw [sE ab])),aa,aa,aa⟩
 exact ext<|bc<|bc<|be<|E<|ak fun O=>ao (aj<|fH<|s.take i)<|p (bV (aj<|fH<|s.take i) aa)<|aw<|O<|rt<|f2 aa aa aa<|⟨by show jw #[aj (fH<|s.take i),.int .i64 0]=_; rw [show s.take i=s from eN ab,FT J (fun j ae=>ac j ab) (by rw [show s.take i=s from eN ab] at hn; omega)],Md.refl _ _⟩
theorem Ai {s pr:List UInt8} (h:s.take pr.length=pr):pr.length≤s.length:=by
 have :=congrArg mg h
 rw [dB] at this; omega
theorem UO {s:List UInt8} (h:decide (1≤s.length∧s.drop (s.length - 1)= [13])=true):jm s=s.take (s.length - 1):=by
 have h1:=of_decide_eq_true h
 rw [Fc ab] at h1
 exact Oe ab<|by simpa using h1.2
theorem UP {s:List UInt8} (h:decide (1≤s.length∧s.drop (s.length - 1)= [13])=false):jm s=s:=by
 have h1:=of_decide_eq_false h
 refine Od fun h2=>h1 ⟨ab,?_⟩
 rw [Fc ab,h2.2]
theorem QJ (c:UInt8):eb c [c]=0:=by unfold eb; simp
theorem zf (s pr:List UInt8) (w:World) (hs:s.length≤1099511627776) (hp:pr.length≤1099511627776):
 ba au 217 (aX [str s,str pr]) w (fun v w'=>v= .bool (decide (s.take pr.length=pr))∧Wk w w'):=by
 refine enter func217 aa ntmps217 aa<|ak fun A=>aw<|A<|ak fun c=>ao (str s)<|p (dv u9 aa aa)<|ao (str pr)<|p (dv u9 aa aa)<|p (ge aa aa)<|p mv<|gs (t:=10) aa (fun C=> ?_) fun C=> ?_
 exact aK aa (aH (str s) aa)<|aK aa (aH (str pr) aa)<|aK aa (dv u9 aa aa)<|aK aa (rC u9 aa aa ab)<|aK aa (aH (str pr) aa)<|aK aa (iS aa aa)<|p (bN aa)<|p aC<|nl<|c<|rt<|a6 aa<|⟨aa,Md.refl _ _⟩
 exact aJ aa<|aJ aa<|aJ aa<|aJ aa<|aJ aa<|aJ aa<|p (bH aa)<|p aC<|nl<|c<|rt<|a6 aa<|⟨by show bO false =_; rw [decide_eq_false (fun h=>by have :=Ai h; omega)],Md.refl _ _⟩
theorem Ve (s pr:List UInt8) (w:World) (hs:s.length≤1099511627776) (hp:pr.length≤1099511627776):
 ba au 210 (aX [str s,str pr]) w (fun v w'=>v=str (eG s pr)∧Wk w w'):=by
 refine enter func210 aa ntmps210 aa<|ak fun G=>aw<|G<|az fun I=>ak fun J=>ao (str s)<|ao (str pr)<|e<|cl yj (zf s pr _ hs hp) aa fun Y Z O=> ?_
 obtain ⟨rfl,E⟩:=O
 refine nl<|J<|cb aa (fun C=> ?_) fun C=> ?_
 have c:=of_decide_eq_true C
 have V:=Ai c
 exact ak fun A=>ao (str s)<|ao (str pr)<|p (dv u9 aa aa)<|p (oo u9 aa aa ab)<|p aC<|nl<|A<|rt<|tr<|a6 aa<|⟨by show str (s.drop (pr.length:Int).toNat)=_; unfold eG; rw [if_pos c]; rfl,E⟩
 have c:=of_decide_eq_false C
 exact aQ<|I<|ak fun A=>ao (str s)<|p (bV (str s) aa)<|nl<|A<|rt<|a6 aa<|⟨by show str s=_; unfold eG; rw [if_neg c],E⟩
theorem G2 (s pr:List UInt8) (w:World) (hs:s.length≤1099511627776) (hp:pr.length≤1099511627776):
 ba au 146 (aX [str s,str pr]) w (fun v w'=>v=str (eG s pr)∧Wk w w'):=by
 refine enter func146 aa ntmps146 aa<|ak fun c=>aw<|c<|ak fun A=>ao (str s)<|ao (str pr)<|e<|cl KN (Ve s pr _ hs hp) aa fun G I E=> ?_
 obtain ⟨rfl,C⟩:=E
 exact aw<|A<|rt<|a6 aa<|⟨aa,C⟩
theorem vv (s pr:List UInt8) (w:World) (hs:s.length≤1099511627776) (hp:pr.length≤1099511627776):
 ba au 216 (aX [str s,str pr]) w (fun v w'=>v= .bool (decide (pr.length≤s.length∧s.drop (s.length - pr.length)=pr))∧Wk w w'):=by
 refine enter func216 aa ntmps216 aa<|ak fun A=>aw<|A<|ak fun c=>ao (str s)<|p (dv u9 aa aa)<|ao (str pr)<|p (dv u9 aa aa)<|p (ge aa aa)<|p mv<|gs (t:=10) aa (fun C=> ?_) fun C=> ?_
 exact aK aa (aH (str s) aa)<|aK aa (aH (str s) aa)<|aK aa (dv u9 aa aa)<|aK aa (aH (str pr) aa)<|aK aa (dv u9 aa aa)<|aK aa (sb aa aa<|cH ab)<|aK aa (oo u9 aa aa ab)<|aK aa (aH (str pr) aa)<|aK aa (iS aa aa)<|p (bN aa)<|aw<|c<|rt<|a6 aa<|⟨by show bO (decide (s.drop ((s.length:Int) - (pr.length:Int)).toNat=pr))=_; rw [show ((s.length:Int) - (pr.length:Int)).toNat=s.length - pr.length from by omega]; exact bv (by constructor <;> intro h <;> first | exact ⟨ab,h⟩ | exact h.2),Md.refl _ _⟩
 exact aJ aa<|aJ aa<|aJ aa<|aJ aa<|aJ aa<|aJ aa<|aJ aa<|aJ aa<|aJ aa<|p (bH aa)<|aw<|c<|rt<|a6 aa<|⟨by show bO false =_; rw [decide_eq_false ab],Md.refl _ _⟩
theorem Vh (s:List UInt8) (w:World) (hs:s.length≤1099511627776):
 ba au 209 (aX [str s,str [13]]) w (fun v w'=>v=str (jm s)∧Wk w w'):=by
 refine enter func209 aa ntmps209 aa<|ak fun E=>aw<|E<|az fun G=>ak fun I=>ao (str s)<|ao (str [13])<|e<|cl uK (vv s [13] _ hs ay) aa fun Y Z J=> ?_
 obtain ⟨rfl,C⟩:=J
 refine nl<|I<|cb aa (fun c=> ?_) fun c=> ?_
 have V:=(of_decide_eq_true c).1
 have O:([13]:List UInt8).length=1:=rfl
 exact ak fun A=>ao (str s)<|ao (str s)<|p (dv u9 aa aa)<|ao (str [13])<|p (dv u9 aa aa)<|p (sb aa aa<|cH ab)<|p (rC u9 aa aa ab)<|aw<|A<|rt<|tr<|a6 aa<|⟨by show str (s.take ((s.length:Int) - (([13]:List UInt8).length:Int)).toNat)=_; rw [UO c,show ((s.length:Int) - (([13]:List UInt8).length:Int)).toNat=s.length - 1 from by simp only [ic]; omega],C⟩
 exact aQ<|G<|ak fun A=>ao (str s)<|p (bV (str s) aa)<|nl<|A<|rt<|a6 aa<|⟨by show str s=_; rw [UP c],C⟩
theorem Vi (s:List UInt8) (w:World) (hs:s.length≤1099511627776):
 ba au 145 (aX [str s,str [13]]) w (fun v w'=>v=str (jm s)∧Wk w w'):=by
 refine enter func145 aa ntmps145 aa<|ak fun c=>aw<|c<|ak fun A=>ao (str s)<|ao (str [13])<|e<|cl Cz (Vh s _ hs) aa fun G I E=> ?_
 obtain ⟨rfl,C⟩:=E
 exact aw<|A<|rt<|a6 aa<|⟨aa,C⟩
theorem EX (s:List UInt8) (c:UInt8) (w:World):
 ba au 275 (aX [str s,.int .u8 c.toNat]) w (fun v w'=>v= .int .i64 (eb c s)∧Wk w w'):=by
 exact enter func275 aa ntmps275 aa<|ak fun A=>aw<|A<|ak fun C=>ao (str s)<|ao (.int .u8 c.toNat)<|p (Dc (QM s c _) aa)<|aw<|C<|rt<|a6 aa<|⟨aa,Md.refl _ _⟩
theorem EW (s:List UInt8) (c:UInt8) (w:World):
 ba au 263 (aX [str s,str [c]]) w (fun v w'=>v= .int .i64 (eb c s)∧Wk w w'):=by
 refine enter func263 aa ntmps263 aa<|ak fun E=>aw<|E<|ak fun G=>ao (str [c])<|p (dv u9 aa aa)<|aw<|G<|az fun Y=>aE<|ak fun I=>p mv<|p (cg aa aa)<|p mv<|gs (t:=19) aa (fun h=>absurd h<|by simp) fun ab=>aK aa (aH (str [c]) aa)<|aK aa (aH (str s) aa)<|aK aa (iS aa aa)<|p (bH aa)<|aw<|I<|cd aa (fun C=> ?_) fun C=> ?_
 exact ak fun A=>aw<|A<|rt<|br<|tr<|a6 aa<|⟨by show ff .i64 0=_; rw [← C,QJ],Md.refl _ _⟩
 refine ak fun A=>p mv<|p (cg aa aa)<|aw<|A<|cd aa (fun Z=> ?_) fun h=>absurd aa h
 refine ak fun J=>ao (str s)<|ao (str [c])<|p (mE 0 u9 aa aa<|by simp)<|e<|cl CF (EX s c _) aa fun v30 ac V=> ?_
 obtain ⟨rfl,O⟩:=V
 exact aw<|J<|rt<|br<|tr<|a6 aa<|⟨aa,O⟩
theorem Qw (s:List UInt8) (c:UInt8) (w:World):
 ba au 299 (aX [str s,str [c]]) w (fun v w'=>v= .int .i64 (eb c s)∧Wk w w'):=by
 refine enter func299 aa ntmps299 aa<|ak fun A=>aw<|A<|ak fun C=>ao (str s)<|ao (str [c])<|e<|cl CE (EW s c _) aa fun I J G=> ?_
 obtain ⟨rfl,E⟩:=G
 exact aw<|C<|rt<|a6 aa<|⟨aa,E⟩
theorem Ng (s:List UInt8) (c:UInt8) (w:World) (hs:s.length≤1099511627776):
 ba au 232 (aX [str s,str [c]]) w (fun v w'=>v= .tuple #[str (la c s),str (mz c s),.bool (!decide (eb c s < 0))]∧Wk w w'):=by
 refine enter func232 aa ntmps232 aa<|ak fun I=>p aC<|p aC<|aw<|I<|az fun J=>ak fun O=>ao (str s)<|ao (str [c])<|e<|cl CE (EW s c _) aa fun v10 E Y=> ?_
 obtain ⟨rfl,G⟩:=Y
 refine aw<|O<|ak fun V=>p mv<|p (ge aa aa)<|nl<|V<|cd aa (fun Z=> ?_) fun Z=> ?_
 have ac:=rj (c:=c) (l:=s) ab
 have ad:[c].length=1:=rfl
 refine az fun C=> ?_
 have A:(fun w'=>Wk E w') E.drew:=(Md.refl _ _).drew
 exact cD (fun w'=>Wk E w') aa wide A<|bT 0 aa (str s) A<|aR 1 aa (fun _ _=>mv) A<|aR 2 aa (fun _ _=>rC u9 aa aa ab) A<|bT 3 aa (str s) A<|aR 4 aa (fun _ _=>mv) A<|bT 5 aa (str [c]) A<|aR 6 aa (fun _ _=>dv u9 aa aa) A<|aR 7 aa (fun _ _=>bG ((s.idxOf c+1:Nat):Int) aa aa<|bf ab ab) A<|aR 8 aa (fun _ _=>oo u9 aa aa ab) A<|aR 9 aa (fun _ _=>aC) A<|aR 10 aa (fun _ _=>aC) A<|aR 11 aa (fun _ _=>aC) A<|hn ag<|C<|rt<|tr<|f3 aa aa aa aa<|⟨by show jw #[str (s.take (eb c s).toNat),str (s.drop<|s.idxOf c+1),.bool true]=_; unfold la mz; rw [if_neg ab,if_neg ab,ac.1,decide_eq_false ab]; rfl,Md.trans G (Md.refl _ _).drew⟩
 exact aQ<|J<|ak fun C=>ao (str s)<|p (bV (str s) aa)<|p aC<|p aC<|nl<|C<|rt<|f3 aa aa aa aa<|⟨by show jw #[str s,str [],.bool false]=_; unfold la mz; rw [if_pos ab,if_pos ab,decide_eq_true ab]; rfl,G⟩
theorem Nj (s:List UInt8) (c:UInt8) (w:World) (hs:s.length≤1099511627776):
 ba au 190 (aX [str s,str [c]]) w (fun v w'=>v= .tuple #[str (la c s),str (mz c s),.bool (!decide (eb c s < 0))]∧Wk w w'):=by
 refine enter func190 aa ntmps190 aa<|ak fun A=>p aC<|p aC<|aw<|A<|az fun C=>rg aa<|ao (str s)<|ao (str [c])<|e<|cl KR (Ng s c _ hs) aa fun v9 I G=> ?_
 obtain ⟨rfl,E⟩:=G
 exact p (xt aa aa)<|p (xt aa aa)<|p (xt aa aa)<|p aC<|p aC<|aw<|C<|rt<|f3 aa aa aa aa<|⟨aa,E⟩
theorem QG (x:Nat) (w:World):
 ba au 303 (aX [aT x]) w (fun v w'=>v= .bool false∧Wk w w'):=by
 exact enter func303 aa ntmps303 aa<|ak fun c=>aw<|c<|ak fun A=>ao (aT x)<|ao (aT x)<|p (gu aa aa)<|aw<|A<|rt<|a6 aa<|⟨congrArg bO (decide_eq_false fun h=>h aa),Md.refl _ _⟩
theorem kM (x y:Nat) (w:World):
 ba au 290 (aX [aT x,aT y]) w (fun v w'=>v= .bool (bJ x y)∧Wk w w'):=by
 refine enter func290 aa ntmps290 aa<|ak fun c=>aw<|c<|ak fun A=>ao (aT x)<|e<|cl Lr (QG x _) aa fun v6 G E=> ?_
 obtain ⟨rfl,C⟩:=E
 exact p mv<|aJ aa<|aJ aa<|aJ aa<|p (bH aa)<|p mv<|aK aa (aH (aT x) aa)<|aK aa (aH (aT y) aa)<|aK aa (lt aa aa)<|p (bH aa)<|aw<|A<|rt<|a6 aa<|⟨by show bO (decide ((x:Int) < (y:Int)))=_; unfold bJ; exact congrArg bO (decide_eq_decide.2 ab),C⟩
theorem QF (d:Array Nat) (a b:Nat) (B n cp:Nat) (A:Option Addr) (w:World) (hO:w.ownsRow B 95 1 (.slice A n cp) n (LE aT d)) (a9:a≤b∧b≤n) (bh:n≤1099511627776):
 ba au 284 (aX [.slice A n cp,aj a,aj b]) w (fun v w'=>v= .tuple #[]∧w'.ownsRow B 95 1 (.slice A n cp) n (LE aT<|Ie bJ d a b)∧Md (fun q=>(bD A n cp).ownBlock=some q) w w'):=by
 have bd:=ec hO
 refine enter func284 aa ntmps284 aa<|ak fun aA=>ao (aj a)<|p (bG ((a+1:Nat):Int) aa aa<|bf ab ab)<|aw<|aA<|aE<|lp (fun ac ae an=> ∃ (i:Nat) (Z:Array Nat),(a+1≤i∧i≤n+1)∧(Go.Sort.insOuter bJ a b i Z=Ie bJ d a b)∧(an.ownsRow B 95 1 (.slice A n cp) n<|LE aT Z)∧(Md (fun q=>(bD A n cp).ownBlock=some q) w an)∧(ae 0= .slice A n cp)∧(ae 1=aj a)∧(ae 2=aj b)∧(ae 6=aj i)∧(b - i=ac)) _ ⟨a+1,d,ab,aa,hO,(Md.refl _ _),aa,aa,aa,aa,aa⟩ ?_
 rintro ac ae an ⟨i,Z,hi,al,ax,av,aY,aZ,a0,a1,rfl⟩
 refine fx 0 aY<|fx 1 aZ<|fx 2 a0<|fx 6 a1<|az fun aB=>ak fun aD=>ao (aj i)<|ao (aj b)<|p (lt aa aa)<|nl<|aD<|cd aa (fun aS=> ?_) fun aS=> ?_
 refine aQ<|aB<|az fun ap=>aE<|ak fun aF=>ao (aj i)<|p (bV (aj i) aa)<|nl<|aF<|aE<|lp (fun ac Y O=> ∃ (j:Nat) (E:Array Nat),(a≤j∧j≤i)∧(Ic bJ a j E=Ic bJ a i Z)∧(O.ownsRow B 95 1 (.slice A n cp) n<|LE aT E)∧(Md (fun q=>(bD A n cp).ownBlock=some q) w O)∧(Y 0= .slice A n cp)∧(Y 1=aj a)∧(Y 2=aj b)∧(Y 6=aj i)∧(Y 7=aj j)∧(j=ac)) _ ⟨i,Z,ab,aa,ax,av,aa,aa,aa,aa,aa,aa⟩ ?_
 rintro ac Y O ⟨j,E,bg,am,I,ah,a2,a3,a4,a5,a6,rfl⟩
 refine fx 0 a2<|fx 1 a3<|fx 2 a4<|fx 6 a5<|fx 7 a6<|az fun aI=>az fun aq=> ?_
 have bb:=ec I
 have c:(fun w'=>Wk O w') O.drew:=(Md.refl _ _).drew
 refine cD (fun w'=>Wk O w') aa wide c<|bT 0 aa (aj j) c<|bT 1 aa (aj a) c<|aR 2 aa (fun _ _=>gt aa aa) c<|aR 3 aa (fun _ _=>mv) c<|j9 (t:=19) aa (fun aP=> ?_) fun aP=> ?_
 refine bq 4 aa (fun _ _=>aH (.slice A n cp) aa) c<|bq 5 aa (fun _ _=>aH (aj j) aa) c<|bq 6 aa (fun _ _=>a7 bI aa aa ab<|aG.ok ((aU I).2)<|bL ab) c<|bq 7 aa (fun w' G=>ld bW aa<|cE (i:=j) ((aU I).2.wk G) ab) c<|bq 8 aa (fun _ _=>aH (.slice A n cp) aa) c<|bq 9 aa (fun _ _=>aH (aj j) aa) c<|bq 10 aa (fun _ _=>c6 ((j - 1:Nat):Int) aa aa<|bf ab ab) c<|bq 11 aa (fun _ _=>a7 bI aa aa ab<|aG.ok ((aU I).2)<|bL ab) c<|bq 12 aa (fun w' G=>ld bW aa<|cE (i:=j - 1) ((aU I).2.wk G) ab) c<|lr 13 aa ag aa aa aa<|cl kI (kM E[j]! E[j - 1]! _) aa fun bi ad aO=> ?_
 obtain ⟨rfl,aK⟩:=aO
 have V:(fun w'=>Wk O w') ad:=Md.trans c aK
 refine ⟨V,?_⟩
 refine aR 14 aa (fun _ _=>bN aa) V<|hn ag<|aq<|cb aa (fun ai=> ?_) fun ai=> ?_
 refine aQ<|aI<|az fun aJ=>aE ?_
 have J:=a8 I V
 have C:(fun w'=>Wk ad w') ad.drew:=(Md.refl _ _).drew
 refine eF (fun w'=>Wk ad w') 15 aa wide C<|bo 0 aa (.slice A n cp) C<|bo 1 aa (aj j) C<|bo 2 aa (.slice A n cp) C<|bo 3 aa (aj j) C<|bB 4 aa (fun _=>c6 ((j - 1:Nat):Int) aa aa<|bf ab ab) (fun _=>C)<|bo 5 aa (.slice A n cp) C<|bo 6 aa (aj j) C<|bB 7 aa (fun _=>c6 ((j - 1:Nat):Int) aa aa<|bf ab ab) (fun _=>C)<|bB 8 aa (fun _=>a7 bI aa aa ab<|aG.ok ((aU J).2)<|bL ab) (fun _=>C)<|ed 9 aa (fun w' G=>ld bW aa<|cE (i:=j - 1) ((aU J).2.wk G) ab) C<|bo 10 aa (.slice A n cp) C<|bo 11 aa (aj j) C<|bB 12 aa (fun _=>a7 bI aa aa ab<|aG.ok ((aU J).2)<|bL ab) (fun _=>C)<|ed 13 aa (fun w' G=>ld bW aa<|cE (i:=j) ((aU J).2.wk G) ab) C<|bB 14 aa (fun _=>a7 bI aa aa ab<|aG.ok ((aU J).2)<|bL ab) (fun _=>C) ?_
 refine db 15 aa ag ag<|e7 (u:=E[j - 1]!) (j) (a8 J C) eZ aa aa aa ab fun bj aM aV=>bB 16 aa (fun _=>a7 bI aa aa ab<|aG.ok ((aU J).2)<|bL ab) (fun h=>dA<|(show true =_ from by kernel_rfl).trans h)<|db 17 aa ag ag<|e7 (u:=E[j]!) (j - 1) aV eZ aa aa aa ab fun ay aN aW=> ?_
 have G:ay.ownsRow B 95 1 (.slice A n cp) n (LE aT<|bS E (j)<|j - 1):=aW
 have aL:Md (fun q=>(bD A n cp).ownBlock=some q) ad ay:=Md.trans (C.mono fun _ _ h=>h.elim)<|Md.trans aM aN
 exact eE ag<|bn<|aJ<|rg aa<|ao (aj j)<|p (c6 ((j - 1:Nat):Int) aa aa<|bf ab ab)<|p aC<|nl<|tn<|⟨_,ab,j - 1,bS E j (j - 1),ab,(by rw [← am,QC (show a < j by omega) ai]),G,(Md.trans ah<|Md.trans (V.mono fun _ _ h=>h.elim) aL),aa,aa,aa,aa,aa,aa⟩
 exact ext<|bc<|bc<|be<|bn<|ap<|rg aa<|ao (aj i)<|p (bG ((i+1:Nat):Int) aa aa<|bf ab ab)<|p aC<|nl<|tn<|⟨_,ab,i+1,E,ab,(by rw [← al,E0 (show i < b by omega),← am,QD (by simpa using ai)]),(a8 I V),(Md.trans ah<|V.mono fun _ _ h=>h.elim),aa,aa,aa,aa,aa⟩
 exact bl 4 aa c<|bl 5 aa c<|bl 6 aa c<|bl 7 aa c<|bl 8 aa c<|bl 9 aa c<|bl 10 aa c<|bl 11 aa c<|bl 12 aa c<|bl 13 aa c<|aR 14 aa (fun _ _=>bH aa) c<|hn ag<|aq<|cf aa<|ext<|bc<|bc<|be<|bn<|ap<|rg aa<|ao (aj i)<|p (bG ((i+1:Nat):Int) aa aa<|bf ab ab)<|p aC<|nl<|tn<|⟨_,ab,i+1,E,ab,(by rw [← al,E0 (show i < b by omega),← am,QE ab]),(a8 I (Md.refl _ _).drew),ah.drew,aa,aa,aa,aa,aa⟩
 exact ext<|bc<|bc<|be<|f0 aa<|⟨aa,by rw [← al,QB ab]; exact ax,av⟩
theorem Uc (d:Array Nat) (lo hi first :Nat) (B n cp:Nat) (E:Option Addr) (w:World) (hO:w.ownsRow B 95 1 (.slice E n cp) n (LE aT d)) (bj:lo≤hi∧first+hi≤n) (bm:n≤1099511627776):
 ba au 300 (aX [.slice E n cp,aj lo,aj hi,aj first]) w (fun v w'=>v= .tuple #[]∧w'.ownsRow B 95 1 (.slice E n cp) n (LE aT<|po bJ hi first lo d)∧Md (fun q=>(bD E n cp).ownBlock=some q) w w'):=by
 refine enter func300 aa ntmps300 aa<|ak fun aD=>ao (aj lo)<|p (bV (aj lo) aa)<|nl<|aD<|aE<|lp (fun aw al ac=> ∃ (r:Nat) (G:Array Nat),(r≤hi)∧(po bJ hi first r G=po bJ hi first lo d)∧(ac.ownsRow B 95 1 (.slice E n cp) n<|LE aT G)∧(Md (fun q=>(bD E n cp).ownBlock=some q) w ac)∧(al 0= .slice E n cp)∧(al 2=aj hi)∧(al 3=aj first)∧(al 8=aj r)∧(hi - r=aw)) _ ⟨lo,d,ab,aa,hO,(Md.refl _ _),aa,aa,aa,aa,aa⟩ ?_
 rintro aw al ac ⟨r,G,bp,av,O,an,a3,a4,a5,a6,rfl⟩
 refine fx 0 a3<|fx 2 a4<|fx 3 a5<|fx 8 a6<|aE<|ak fun aF=>ao (aj r)<|p (qe ((2 *r:Nat):Int) aa aa<|bf ab ab)<|p (bG ((2 *r+1:Nat):Int) aa aa<|bf ab ab)<|p aC<|nl<|aF<|az fun aI=>ak fun aJ=>p mv<|ao (aj hi)<|p (ge aa aa)<|nl<|aJ<|cd aa (fun aY=> ?_) fun aY=> ?_
 exact ext<|bc<|na ay<|bc<|be<|f0 aa<|⟨aa,by rw [← av,Ua ab]; exact O,an⟩
 refine aQ<|aI ?_
 refine eV (fun ah Z=> ∃ (c:Nat),(r < c∧c < hi)∧(po bJ hi first r G=if (!bJ G[first+r]! G[first+c]!)=true then G else po bJ hi first c (bS G (first+r)<|first+c))∧(Z.ownsRow B 95 1 (.slice E n cp) n<|LE aT G)∧(Md (fun q=>(bD E n cp).ownBlock=some q) w Z)∧(ah 0= .slice E n cp)∧(ah 2=aj hi)∧(ah 3=aj first)∧(ah 8=aj r)∧(ah 9=aj c)) ?_ ?_
 refine az fun am=> ?_
 have aZ:=ec O
 have A:(fun w'=>Wk ac w') ac.drew:=(Md.refl _ _).drew
 refine cD (fun w'=>Wk ac w') aa wide A<|aR 0 aa (fun _ _=>mv) A<|aR 1 aa (fun _ _=>bG ((2 *r+1 +1:Nat):Int) aa aa<|bf ab ab) A<|bT 2 aa (aj hi) A<|aR 3 aa (fun _ _=>lt aa aa) A<|aR 4 aa (fun _ _=>mv) A<|j9 (t:=21) aa (fun a0=> ?_) fun a0=> ?_
 refine bq 5 aa (fun _ _=>aH (.slice E n cp) aa) A<|bq 6 aa (fun _ _=>aH (aj first) aa) A<|bq 7 aa (fun _ _=>mv) A<|bq 8 aa (fun _ _=>bG ((first+(2 *r+1):Nat):Int) aa aa<|bf ab ab) A<|bq 9 aa (fun _ _=>a7 bI aa aa ab<|aG.ok ((aU O).2)<|bL ab) A<|bq 10 aa (fun w' J=>ld bW aa<|cE (i:=first+(2 *r+1)) ((aU O).2.wk J) ab) A<|bq 11 aa (fun _ _=>aH (.slice E n cp) aa) A<|bq 12 aa (fun _ _=>aH (aj first) aa) A<|bq 13 aa (fun _ _=>mv) A<|bq 14 aa (fun _ _=>bG ((first+(2 *r+1):Nat):Int) aa aa<|bf ab ab) A<|bq 15 aa (fun _ _=>bG ((first+(2 *r+1)+1:Nat):Int) aa aa<|bf ab ab) A<|bq 16 aa (fun _ _=>a7 bI aa aa ab<|aG.ok ((aU O).2)<|bL ab) A<|bq 17 aa (fun w' J=>ld bW aa<|cE (i:=first+(2 *r+1)+1) ((aU O).2.wk J) ab) A<|lr 18 aa ag aa aa aa<|cl kI (kM G[first+(2 *r+1)]! G[first+(2 *r+1)+1]! _) aa fun v35 bi aV=> ?_
 obtain ⟨rfl,aM⟩:=aV
 have ad:(fun w'=>Wk ac w') bi:=Md.trans A aM
 refine ⟨ad,?_⟩
 refine aR 19 aa (fun _ _=>bN aa) ad<|hn ag<|am<|cb aa (fun ap=> ?_) fun ap=> ?_
 exact rg aa<|p mv<|p (bG ((2 *r+2:Nat):Int) aa aa<|bf ab ab)<|p aC<|nl<|tn<|⟨2 *r+2,ab,(Ub ab ap),(a8 O ad),(Md.trans an<|ad.mono fun _ _ h=>h.elim),aa,aa,aa,aa,aa⟩
 exact aQ<|tn<|⟨2 *r+1,ab,(GD ab<|.inr ap),(a8 O ad),(Md.trans an<|ad.mono fun _ _ h=>h.elim),aa,aa,aa,aa,aa⟩
 exact bl 5 aa A<|bl 6 aa A<|bl 7 aa A<|bl 8 aa A<|bl 9 aa A<|bl 10 aa A<|bl 11 aa A<|bl 12 aa A<|bl 13 aa A<|bl 14 aa A<|bl 15 aa A<|bl 16 aa A<|bl 17 aa A<|bl 18 aa A<|aR 19 aa (fun _ _=>bH aa) A<|hn ag<|am<|cf aa<|aQ<|tn<|⟨2 *r+1,ab,(GD ab<|.inl ab),(a8 O (Md.refl _ _).drew),an.drew,aa,aa,aa,aa,aa⟩
 rintro ah Z ⟨c,bk,aA,Y,ax,a9,bb,bd,bg,bh⟩
 refine fx 0 a9<|fx 2 bb<|fx 3 bd<|fx 8 bg<|fx 9 bh<|az fun am=>az fun aK=> ?_
 have aZ:=ec Y
 have I:(fun w'=>Wk Z w') Z.drew:=(Md.refl _ _).drew
 refine cD (fun w'=>Wk Z w') aa wide I<|bT 0 aa (.slice E n cp) I<|bT 1 aa (aj first) I<|bT 2 aa (aj r) I<|aR 3 aa (fun _ _=>bG ((first+r:Nat):Int) aa aa<|bf ab ab) I<|aR 4 aa (fun _ _=>a7 bI aa aa ab<|aG.ok ((aU Y).2)<|bL ab) I<|aR 5 aa (fun w' J=>ld bW aa<|cE (i:=first+r) ((aU Y).2.wk J) ab) I<|bT 6 aa (.slice E n cp) I<|bT 7 aa (aj first) I<|bT 8 aa (aj c) I<|aR 9 aa (fun _ _=>bG ((first+c:Nat):Int) aa aa<|bf ab ab) I<|aR 10 aa (fun _ _=>a7 bI aa aa ab<|aG.ok ((aU Y).2)<|bL ab) I<|aR 11 aa (fun w' J=>ld bW aa<|cE (i:=first+c) ((aU Y).2.wk J) ab) I<|he 12 aa ag<|cl kI (kM G[first+r]! G[first+c]! _) aa fun v51 ai aW=> ?_
 obtain ⟨rfl,aN⟩:=aW
 have ae:(fun w'=>Wk Z w') ai:=Md.trans I aN
 refine ⟨ae,?_⟩
 refine aR 13 aa (fun _ _=>no aa) ae<|hn ag<|aK<|cb aa (fun aq=> ?_) fun aq=> ?_
 exact rt<|tr<|br<|tr<|br<|u7 aa<|⟨aa,by rw [← av,aA,if_pos aq]; exact a8 Y ae,Md.trans ax<|ae.mono fun _ _ h=>h.elim⟩
 refine aQ<|am<|az fun aL=> ?_
 have V:=a8 Y ae
 have C:(fun w'=>Wk ai w') ai.drew:=(Md.refl _ _).drew
 refine eF (fun w'=>Wk ai w') 21 aa wide C<|bo 0 aa (.slice E n cp) C<|bo 1 aa (aj first) C<|bo 2 aa (aj r) C<|bB 3 aa (fun _=>bG ((first+r:Nat):Int) aa aa<|bf ab ab) (fun _=>C)<|bo 4 aa (.slice E n cp) C<|bo 5 aa (aj first) C<|bo 6 aa (aj c) C<|bB 7 aa (fun _=>bG ((first+c:Nat):Int) aa aa<|bf ab ab) (fun _=>C)<|bo 8 aa (.slice E n cp) C<|bo 9 aa (aj first) C<|bo 10 aa (aj c) C<|bB 11 aa (fun _=>bG ((first+c:Nat):Int) aa aa<|bf ab ab) (fun _=>C)<|bB 12 aa (fun _=>a7 bI aa aa ab<|aG.ok ((aU V).2)<|bL ab) (fun _=>C)<|ed 13 aa (fun w' J=>ld bW aa<|cE (i:=first+c) ((aU V).2.wk J) ab) C<|bo 14 aa (.slice E n cp) C<|bo 15 aa (aj first) C<|bo 16 aa (aj r) C<|bB 17 aa (fun _=>bG ((first+r:Nat):Int) aa aa<|bf ab ab) (fun _=>C)<|bB 18 aa (fun _=>a7 bI aa aa ab<|aG.ok ((aU V).2)<|bL ab) (fun _=>C)<|ed 19 aa (fun w' J=>ld bW aa<|cE (i:=first+r) ((aU V).2.wk J) ab) C<|bB 20 aa (fun _=>a7 bI aa aa ab<|aG.ok ((aU V).2)<|bL ab) (fun _=>C)<|db 21 aa ag ag<|e7 (u:=G[first+c]!) (first+r) (a8 V C) eZ aa aa aa ab fun bs aP a1=> ?_
 refine bB 22 aa (fun _=>a7 bI aa aa ab<|aG.ok ((aU V).2)<|bL ab) (fun h=>dA<|(show true =_ from by kernel_rfl).trans h)<|db 23 aa ag ag<|e7 (u:=G[first+r]!) (first+c) a1 eZ aa aa aa ab fun aB aS a2=> ?_
 have J:aB.ownsRow B 95 1 (.slice E n cp) n (LE aT<|bS G (first+r)<|first+c):=a2
 have aO:Md (fun q=>(bD E n cp).ownBlock=some q) ai aB:=Md.trans (C.mono fun _ _ h=>h.elim)<|Md.trans aP aS
 exact eE ag<|aL<|rg aa<|ao (aj c)<|p (bV (aj c) aa)<|nl<|bn<|tn<|⟨_,ab,c,bS G (first+r) (first+c),ab,(by rw [← av,aA,if_neg (by rw [aq]; exact dA)]),J,(Md.trans ax<|Md.trans (ae.mono fun _ _ h=>h.elim) aO),aa,aa,aa,aa,aa⟩
theorem GF (d:Array Nat) (lo hi first :Nat) (C A:Int) (B n cp:Nat) (c:Option Addr) (w:World) (hO:w.ownsRow B 95 1 (.slice c n cp) n (LE aT d)) (E:lo≤hi∧first+hi≤n) (I:C=(lo:Nat)) (G:A=(hi:Nat)) (J:n≤1099511627776):
 ba au 300 (aX [.slice c n cp,.int .i64 C,.int .i64 A,.int .i64 (first :Nat)]) w (fun v w'=>v= .tuple #[]∧w'.ownsRow B 95 1 (.slice c n cp) n (LE aT<|po bJ hi first lo d)∧Md (fun q=>(bD c n cp).ownBlock=some q) w w'):=by
 subst I G; exact Uc d lo hi first B n cp c w hO E J
theorem Qg (d:Array Nat) (a b:Nat) (B n cp:Nat) (c:Option Addr) (w:World) (hO:w.ownsRow B 95 1 (.slice c n cp) n (LE aT d)) (a9:a < b∧b≤n) (ae:n≤1099511627776):
 ba au 285 (aX [.slice c n cp,aj a,aj b]) w (fun v w'=>v= .tuple #[]∧w'.ownsRow B 95 1 (.slice c n cp) n (LE aT<|Ib bJ d a b)∧Md (fun q=>(bD c n cp).ownBlock=some q) w w'):=by
 refine enter func285 aa ntmps285 aa<|ak fun al=>ao (aj a)<|p (bV (aj a) aa)<|nl<|al<|ak fun aq=>aw<|aq<|ak fun av=>ao (aj b)<|ao (aj a)<|p (c6 ((b - a:Nat):Int) aa aa<|bf ab ab)<|aw<|av<|az fun ax=>ak fun ay=>p mv<|p (c6 ((b - a - 1:Nat):Int) aa aa<|bf ab ab)<|p (oY (((b - a - 1) / 2:Nat):Int) aa aa ab<|bf ab ab)<|aw<|ay<|aE<|lp (fun O I ad=> ∃ (k:Nat) (C:Array Nat),(k≤b - a)∧(Ia bJ (b - a) a k C=Ia bJ (b - a) a ((b - a - 1) / 2 +1) d)∧(ad.ownsRow B 95 1 (.slice c n cp) n<|LE aT C)∧(Md (fun q=>(bD c n cp).ownBlock=some q) w ad)∧(I 0= .slice c n cp)∧(I 6=aj a)∧(I 7= .int .i64 0)∧(I 8=aj (b - a))∧(I 9= .int .i64 ((k:Nat) - 1:Int))∧(k=O)) _ ⟨(b - a - 1) / 2 +1,d,ab,aa,hO,(Md.refl _ _),aa,aa,aa,aa,(iv ab),aa⟩ ?_
 rintro O I ad ⟨k,C,hk,ac,E,V,aW,aY,aZ,a0,a1,rfl⟩
 refine fx 0 aW<|fx 6 aY<|fx 7 aZ<|fx 8 a0<|fx 9 a1<|az fun aA=>ak fun aB=>ao (.int .i64 ((k:Nat) - 1:Int))<|p (ge aa aa)<|nl<|aB<|cd aa (fun aP=> ?_) fun aP=> ?_
 refine aQ<|aA<|az fun Z=>aE<|rg aa<|ao (.slice c n cp)<|ao (.int .i64 ((k:Nat) - 1:Int))<|ao (aj<|b - a)<|ao (aj a)<|e<|cl CH (GF C (k - 1) (b - a) a _ _ B n cp c _ E ab ab aa ae) aa fun v26 bg aN=> ?_
 obtain ⟨rfl,aL,aF⟩:=aN
 exact nl<|bn<|Z<|rg aa<|ao (.int .i64 ((k:Nat) - 1:Int))<|p (sb aa aa<|cH ab)<|p aC<|nl<|tn<|⟨_,ab,k - 1,po bJ (b - a) a (k - 1) C,ab,(by rw [← ac,PU (show 0 < k by omega)]),aL,(Md.trans V aF),aa,aa,aa,aa,(iv ab),aa⟩
 refine ext<|bc<|bc<|be<|ax<|ak fun Z=>ao (aj<|b - a)<|p (c6 ((b - a - 1:Nat):Int) aa aa<|bf ab ab)<|aw<|Z<|aE<|lp (fun O J G=> ∃ (k:Nat) (C:Array Nat),(k≤b - a)∧(Go.Sort.heapPop bJ a k C=Ib bJ d a b)∧(G.ownsRow B 95 1 (.slice c n cp) n<|LE aT C)∧(Md (fun q=>(bD c n cp).ownBlock=some q) w G)∧(J 0= .slice c n cp)∧(J 6=aj a)∧(J 7= .int .i64 0)∧(J 8=aj (b - a))∧(J 10= .int .i64 ((k:Nat) - 1:Int))∧(k=O)) _ ⟨b - a,C,ab,(by rw [show k=0 by omega,PV] at ac; rw [ac]; rfl),E,V,aa,aa,aa,aa,(iv ab),aa⟩ ?_
 rintro O J G ⟨k,C,bd,ah,E,V,a2,a4,a5,a6,a3,rfl⟩
 refine fx 0 a2<|fx 6 a4<|fx 7 a5<|fx 8 a6<|fx 10 a3<|az fun aD=>ak fun am=>ao (.int .i64 ((k:Nat) - 1:Int))<|p (ge aa aa)<|nl<|am<|cd aa (fun aR=> ?_) fun aR=> ?_
 refine aQ<|aD<|az fun an=>aE<|az fun ap=> ?_
 have bb:=ec E
 have A:(fun w'=>Wk G w') G.drew:=(Md.refl _ _).drew
 refine eF (fun w'=>Wk G w') 17 aa wide A<|bo 0 aa (.slice c n cp) A<|bo 1 aa (aj a) A<|bo 2 aa (.slice c n cp) A<|bo 3 aa (aj a) A<|bo 4 aa (.int .i64 ((k:Nat) - 1:Int)) A<|bB 5 aa (fun _=>bG ((a+(k - 1):Nat):Int) aa aa<|bf ab ab) (fun _=>A)<|bo 6 aa (.slice c n cp) A<|bo 7 aa (aj a) A<|bo 8 aa (.int .i64 ((k:Nat) - 1:Int)) A<|bB 9 aa (fun _=>bG ((a+(k - 1):Nat):Int) aa aa<|bf ab ab) (fun _=>A)<|bB 10 aa (fun _=>a7 bI aa aa ab<|aG.ok ((aU E).2)<|bL ab) (fun _=>A)<|ed 11 aa (fun w' Y=>ld bW aa<|cE (i:=a+(k - 1)) ((aU E).2.wk Y) ab) A<|bo 12 aa (.slice c n cp) A<|bo 13 aa (aj a) A<|bB 14 aa (fun _=>a7 bI aa aa ab<|aG.ok ((aU E).2)<|bL ab) (fun _=>A) ?_
 refine ed 15 aa (fun w' Y=>ld bW aa<|cE (i:=a) ((aU E).2.wk Y) ab) A<|bB 16 aa (fun _=>a7 bI aa aa ab<|aG.ok ((aU E).2)<|bL ab) (fun _=>A)<|db 17 aa ag ag<|e7 (u:=C[a+(k - 1)]!) (a) (a8 E A) eZ aa aa aa ab fun bi aJ aS=>bB 18 aa (fun _=>a7 bI aa aa ab<|aG.ok ((aU E).2)<|bL ab) (fun h=>dA<|(show true =_ from by kernel_rfl).trans h)<|db 19 aa ag ag<|e7 (u:=C[a]!) (a+(k - 1)) aS eZ aa aa aa ab fun ai aK aV=> ?_
 have Y:ai.ownsRow B 95 1 (.slice c n cp) n (LE aT<|bS C (a)<|a+(k - 1)):=aV
 have aI:Md (fun q=>(bD c n cp).ownBlock=some q) G ai:=Md.trans (A.mono fun _ _ h=>h.elim)<|Md.trans aJ aK
 refine eE ag<|ap<|rg aa<|ao (.slice c n cp)<|ao (.int .i64 0)<|ao (.int .i64 ((k:Nat) - 1:Int))<|ao (aj a)<|e<|cl CH (GF (bS C a<|a+(k - 1)) 0 (k - 1) a _ _ B n cp c _ Y ab aa ab ae) aa fun v55 bh aO=> ?_
 obtain ⟨rfl,aM,aH⟩:=aO
 exact nl<|bn<|an<|rg aa<|ao (.int .i64 ((k:Nat) - 1:Int))<|p (sb aa aa<|cH ab)<|p aC<|nl<|tn<|⟨_,ab,k - 1,po bJ (k - 1) a 0 (bS C a<|a+(k - 1)),ab,(by rw [← ah,Qj (show 0 < k by omega)]),aM,(Md.trans V<|Md.trans aI aH),aa,aa,aa,aa,(iv ab),aa⟩
 exact ext<|bc<|bc<|be<|f0 aa<|⟨aa,by rw [← ah,show k=0 by omega]; exact E,V⟩
theorem TC (d:Array Nat) (a b:Nat) (B n cp:Nat) (A:Option Addr) (w:World) (hO:w.ownsRow B 95 1 (.slice A n cp) n (LE aT d)) (aD:a < b∧b≤n) (aH:n≤1099511627776):
 ba au 288 (aX [.slice A n cp,aj a,aj b]) w (fun v w'=>v= .tuple #[]∧w'.ownsRow B 95 1 (.slice A n cp) n (LE aT<|Bu d a b)∧Md (fun q=>(bD A n cp).ownBlock=some q) w w'):=by
 refine enter func288 aa ntmps288 aa<|ak fun ac=>ao (aj a)<|p (bV (aj a) aa)<|nl<|ac<|ak fun ad=>ao (aj b)<|p (c6 ((b - 1:Nat):Int) aa aa<|bf ab ab)<|aw<|ad<|aE<|lp (fun O J G=> ∃ (i j:Nat) (E:Array Nat),(i≤n∧j < n)∧(Go.Sort.reverseLoop i j E=Bu d a b)∧(G.ownsRow B 95 1 (.slice A n cp) n<|LE aT E)∧(Md (fun q=>(bD A n cp).ownBlock=some q) w G)∧(J 0= .slice A n cp)∧(J 6=aj i)∧(J 7=aj j)∧(j - i=O)) _ ⟨a,b - 1,d,ab,aa,hO,(Md.refl _ _),aa,aa,aa,aa⟩ ?_
 rintro O J G ⟨i,j,E,hi,Y,C,V,ay,aA,aB,rfl⟩
 refine fx 0 ay<|fx 6 aA<|fx 7 aB<|az fun ae=>ak fun ah=>ao (aj i)<|ao (aj j)<|p (lt aa aa)<|nl<|ah<|cd aa (fun aq=> ?_) fun aq=> ?_
 refine aQ<|ae<|aE<|az fun ai=> ?_
 have aF:=ec C
 have c:(fun w'=>Wk G w') G.drew:=(Md.refl _ _).drew
 refine eF (fun w'=>Wk G w') 13 aa wide c<|bo 0 aa (.slice A n cp) c<|bo 1 aa (aj i) c<|bo 2 aa (.slice A n cp) c<|bo 3 aa (aj j) c<|bo 4 aa (.slice A n cp) c<|bo 5 aa (aj j) c<|bB 6 aa (fun _=>a7 bI aa aa ab<|aG.ok ((aU C).2)<|bL ab) (fun _=>c)<|ed 7 aa (fun w' I=>ld bW aa<|cE (i:=j) ((aU C).2.wk I) ab) c<|bo 8 aa (.slice A n cp) c<|bo 9 aa (aj i) c<|bB 10 aa (fun _=>a7 bI aa aa ab<|aG.ok ((aU C).2)<|bL ab) (fun _=>c)<|ed 11 aa (fun w' I=>ld bW aa<|cE (i:=i) ((aU C).2.wk I) ab) c<|bB 12 aa (fun _=>a7 bI aa aa ab<|aG.ok ((aU C).2)<|bL ab) (fun _=>c)<|db 13 aa ag ag<|e7 (u:=E[j]!) (i) (a8 C c) eZ aa aa aa ab fun aI an av=> ?_
 refine bB 14 aa (fun _=>a7 bI aa aa ab<|aG.ok ((aU C).2)<|bL ab) (fun h=>dA<|(show true =_ from by kernel_rfl).trans h)<|db 15 aa ag ag<|e7 (u:=E[i]!) (j) av eZ aa aa aa ab fun Z ap ax=> ?_
 have I:Z.ownsRow B 95 1 (.slice A n cp) n (LE aT<|bS E (i)<|j):=ax
 have am:Md (fun q=>(bD A n cp).ownBlock=some q) G Z:=Md.trans (c.mono fun _ _ h=>h.elim)<|Md.trans an ap
 refine eE ag<|ai<|ak fun al=>ao (aj i)<|p (bG ((i+1:Nat):Int) aa aa<|bf ab ab)<|aw<|al ?_
 exact rg aa<|ao (aj j)<|p (c6 ((j - 1:Nat):Int) aa aa<|bf ab ab)<|p aC<|nl<|bn<|tn<|⟨_,ab,i+1,j - 1,bS E i j,ab,(by rw [← Y,TA (show i < j by omega)]),I,(Md.trans V am),aa,aa,aa,aa⟩
 exact ext<|bc<|bc<|be<|f0 aa<|⟨aa,by rw [← Y,TB ab]; exact C,V⟩
theorem Vp {n:Nat} {l:List UInt8} (h:n < 256) (c:∀ k:Fin 256,(l.getD k.val 0).toNat=jN k.val):IntKind.i64.wrap ((l.getD n 0).toNat:Int)=(jN n:Int):=by
 rw [c ⟨n,h⟩]; have :=vy h; exact cH<|by simp only; omega
theorem T6 {k:Nat} (h:k≤8):dH.wrap ((1:Int)*2 ^ min ((k:Nat):Int).toNat dH.bits)=((2 ^ k:Nat):Int):=by
 have h2:(dH.bits:Nat)=64:=rfl
 rw [Int.toNat_natCast,h2,Nat.min_eq_left ab,Int.one_mul]
 have h3:(2:Nat) ^ k≤2 ^ 8:=Nat.pow_le_pow_right ay h
 have h4:((2:Int) ^ k)=((2 ^ k:Nat):Int):=by simp
 rw [h4]
 obtain ⟨m,hm⟩:∃ m:Nat,2 ^ k=m:=⟨_,rfl⟩
 rw [hm] at h3 ⊢; exact nE ab
theorem SP {d d1 d2:Array Nat} {a b i j:Nat} (h:mO a b d d1) (hi:a≤i∧i < b) (c:a≤j∧j < b) (A:b≤d1.size) (h2:d2=bS d1 i j):mO a b d d2:=by
 subst h2; exact qz _ _ _ a b h<|Go.Sort.swp_permIn d1 a b i j hi.1 hi.2 c.1 c.2 A
theorem Ab (d:Array Nat) (i j s lo hi E:Nat) (B n cp:Nat) (C:Option Addr) (w:World) (hO:w.ownsRow B 95 1 (.slice C n cp) n (LE aT d)) (V:bE w.heap E [aj s]) (ap:(bD C n cp).ownBlock≠some E) (aA:lo≤i∧i < hi∧lo≤j∧j < hi∧hi≤n) (hs:s≤1000) (ay:n≤1099511627776):
 ba au 308 (aX [.slice C n cp,aj i,aj j,aV E]) w (fun v w'=> ∃ J O s1:Nat,v= .tuple #[aj J,aj O]∧(lo≤J∧J < hi)∧(lo≤O∧O < hi)∧s1≤s+1∧bE w'.heap E [aj s1]∧w'.ownsRow B 95 1 (.slice C n cp) n (LE aT d)∧Md (fun q=>q=E) w w'):=by
 refine enter func308 aa ntmps308 aa<|ak fun ac=>p aC<|aw<|ac<|az fun ad=>az fun ae=> ?_
 have ax:=ec hO
 have c:(fun w'=>Wk w w') w.drew:=(Md.refl _ _).drew
 refine cD (fun w'=>Wk w w') aa wide c<|bT 0 aa (.slice C n cp) c<|bT 1 aa (aj j) c<|aR 2 aa (fun _ _=>a7 bI aa aa ab<|aG.ok ((aU hO).2)<|bL ab) c<|aR 3 aa (fun w' I=>ld bW aa<|cE (i:=j) ((aU hO).2.wk I) ab) c<|bT 4 aa (.slice C n cp) c<|bT 5 aa (aj i) c<|aR 6 aa (fun _ _=>a7 bI aa aa ab<|aG.ok ((aU hO).2)<|bL ab) c<|aR 7 aa (fun w' I=>ld bW aa<|cE (i:=i) ((aU hO).2.wk I) ab) c<|he 8 aa ag<|cl kI (kM d[j]! d[i]! _) aa fun aB av an=> ?_
 obtain ⟨rfl,al⟩:=an
 have A:(fun w'=>Wk w w') av:=Md.trans c al
 refine ⟨A,?_⟩
 refine hn ag<|ae<|cb aa (fun aq=> ?_) fun aq=> ?_
 have Y:=A.B V
 have am:=a8 hO A
 exact ak fun G=>ao (aV E)<|p (nc aa)<|p (ld bR aa<|Y.aM 0)<|p (bG ((s+1:Nat):Int) aa aa<|bf ab ab)<|p (nc aa)<|e<|st j6 aa aa (aa) (Y) (by simp) fun aD Z ai=>nl<|G<|ak fun ah=>ao (aj j)<|ao (aj i)<|p (bV (aj j) aa)<|p (bV (aj i) aa)<|nl<|ah<|rt<|tr<|f2 aa aa aa<|⟨j,i,s+1,aa,ab,ab,ab,ai,cz am Z (fun k hk h=>ap<|h ▸ hk),Md.trans (A.mono fun _ _ h=>h.elim) Z⟩
 exact aQ<|ad<|ak fun G=>ao (aj i)<|ao (aj j)<|p (bV (aj i) aa)<|p (bV (aj j) aa)<|nl<|G<|rt<|f2 aa aa aa<|⟨i,j,s,aa,ab,ab,ab,A.B V,a8 hO A,A.mono fun _ _ h=>h.elim⟩
theorem FB (d:Array Nat) (i j k s lo hi c:Nat) (B n cp:Nat) (A:Option Addr) (w:World) (hO:w.ownsRow B 95 1 (.slice A n cp) n (LE aT d)) (Z:bE w.heap c [aj s]) (C:(bD A n cp).ownBlock≠some c) (aJ:(lo≤i∧i < hi)∧(lo≤j∧j < hi)∧(lo≤k∧k < hi)∧hi≤n) (hs:s≤900) (E:n≤1099511627776):
 ba au 302 (aX [.slice A n cp,aj i,aj j,aj k,aV c]) w (fun v w'=> ∃ G s1:Nat,v=aj G∧(lo≤G∧G < hi)∧s1≤s+3∧bE w'.heap c [aj s1]∧w'.ownsRow B 95 1 (.slice A n cp) n (LE aT d)∧Md (fun q=>q=c) w w'):=by
 refine enter func302 aa ntmps302 aa<|ak fun I=>aw<|I<|ak fun J=>ao (.slice A n cp)<|ao (aj i)<|ao (aj j)<|ao (aV c)<|e<|cl yq (Ab d i j s lo hi c B n cp A _ hO Z C ab ab E) aa fun aO aP ap=> ?_
 obtain ⟨i1,ay,s1,rfl,aE,aG,aK,ac,al,ag⟩:=ap
 refine p mv<|p (xt aa aa)<|p (xt aa aa)<|p aC<|aw<|J<|az fun O=>rg aa<|ao (.slice A n cp)<|p mv<|ao (aj k)<|ao (aV c)<|e<|cl yq (Ab d ay k s1 lo hi c B n cp A _ al ac C ab ab E) aa fun v24 aQ aq=> ?_
 obtain ⟨aA,aN,s2,rfl,aH,aI,aL,ad,am,ah⟩:=aq
 refine p mv<|p (xt aa aa)<|p (xt aa aa)<|p aC<|aw<|O<|az fun V=>rg aa<|ao (.slice A n cp)<|p mv<|p mv<|ao (aV c)<|e<|cl yq (Ab d i1 aA s2 lo hi c B n cp A _ am ad C ab ab E) aa fun v32 aR av=> ?_
 obtain ⟨i3,aB,aD,rfl,aF,ax,aM,ae,an,ai⟩:=av
 exact p mv<|p (xt aa aa)<|p (xt aa aa)<|p aC<|aw<|V<|az fun Y=>rg aa<|p mv<|aw<|Y<|rt<|a6 aa<|⟨aB,aD,aa,ax,ab,ae,an,Md.trans ag<|Md.trans ah ai⟩
theorem zH (d:Array Nat) (i s lo hi c:Nat) (B n cp:Nat) (A:Option Addr) (w:World) (hO:w.ownsRow B 95 1 (.slice A n cp) n (LE aT d)) (I:bE w.heap c [aj s]) (O:(bD A n cp).ownBlock≠some c) (Y:lo+1≤i∧i+1 < hi∧hi≤n) (hs:s≤900) (V:n≤1099511627776):
 ba au 301 (aX [.slice A n cp,aj i,aV c]) w (fun v w'=> ∃ C s1:Nat,v=aj C∧(lo≤C∧C < hi)∧s1≤s+3∧bE w'.heap c [aj s1]∧w'.ownsRow B 95 1 (.slice A n cp) n (LE aT d)∧Md (fun q=>q=c) w w'):=by
 exact enter func301 aa ntmps301 aa<|ak fun E=>aw<|E<|ak fun G=>ao (.slice A n cp)<|ao (aj i)<|p (c6 ((i - 1:Nat):Int) aa aa<|bf ab ab)<|ao (aj i)<|ao (aj i)<|p (bG ((i+1:Nat):Int) aa aa<|bf ab ab)<|ao (aV c)<|e<|cl CI (FB d (i - 1) i (i+1) s lo hi c B n cp A _ hO I O ab ab V) aa fun Z ac J=>p aC<|nl<|G<|rt<|a6 aa<|J
theorem L9 (d:Array Nat) (a b:Nat) (B n cp:Nat) (c:Option Addr) (w:World) (hO:w.ownsRow B 95 1 (.slice c n cp) n (LE aT d)) (bt:a+12 < b∧b≤n) (V:n≤1099511627776):
 ba au 287 (aX [.slice c n cp,aj a,aj b]) w (fun v w'=> ∃ (ap:Nat) (bn:Int),v= .tuple #[aj ap,.int .i64 bn]∧(a≤ap∧ap < b)∧w'.ownsRow B 95 1 (.slice c n cp) n (LE aT d)∧Wk w w'):=by
 refine enter func287 aa ntmps287 aa<|ak fun ax=>p aC<|aw<|ax<|ak fun ay=>ao (aj b)<|ao (aj a)<|p (c6 ((b - a:Nat):Int) aa aa<|bf ab ab)<|aw<|ay<|ak fun aA=>e<|al Wc fun C bO bu ah aq=> ?_
 have av:=a8 hO ah.md
 have O:(bD c n cp).ownBlock≠some C:=fun h=>by have :=dd hO h; omega
 refine nl<|aA<|ak fun aB=>ao (aj a)<|p mv<|p (oY (((b - a) / 4:Nat):Int) aa aa ab<|bf ab ab)<|p (qe (((b - a) / 4:Nat):Int) aa aa<|bf ab ab)<|p (bG ((a+(b - a) / 4:Nat):Int) aa aa<|bf ab ab)<|aw<|aB<|ak fun aD=>ao (aj a)<|p mv<|p (oY (((b - a) / 4:Nat):Int) aa aa ab<|bf ab ab)<|p (qe (((b - a) / 4 *2:Nat):Int) aa aa<|bf ab ab)<|p (bG ((a+(b - a) / 4 *2:Nat):Int) aa aa<|bf ab ab)<|aw<|aD<|ak fun aF=>ao (aj a)<|p mv<|p (oY (((b - a) / 4:Nat):Int) aa aa ab<|bf ab ab)<|p (qe (((b - a) / 4 *3:Nat):Int) aa aa<|bf ab ab)<|p (bG ((a+(b - a) / 4 *3:Nat):Int) aa aa<|bf ab ab)<|aw<|aF ?_
 refine az fun aG=>ak fun aH=>p mv<|p (ge aa aa)<|nl<|aH<|cd aa (fun bv=> ?_) fun h=>absurd ab h
 refine eV (fun A Z=> ∃ (E G I Y:Nat),(a≤E∧E < b)∧(a≤G∧G < b)∧(a≤I∧I < b)∧(Y≤9)∧(bE Z.heap C [aj Y])∧(Z.ownsRow B 95 1 (.slice c n cp) n<|LE aT d)∧(Wk w Z)∧(A 0= .slice c n cp)∧(A 1=aj a)∧(A 2=aj b)∧(A 8=aj (b - a))∧(A 9=aV C)∧(A 10=aj E)∧(A 11=aj G)∧(A 12=aj I)) ?_ ?_
 refine ak fun ae=>p mv<|p (ge aa aa)<|nl<|ae<|cd aa (fun a5=> ?_) fun a5=> ?_
 refine ak fun ac=>ao (.slice c n cp)<|p mv<|e<|cl yp (zH d (a+(b - a) / 4) 0 a b C B n cp c _ av aq O ab ab V) aa fun v37 bL a1=> ?_
 obtain ⟨i1,s1,rfl,a9,bA,aI,aW,aP⟩:=a1
 refine aw<|ac<|ak fun J=>ao (.slice c n cp)<|p mv<|e<|cl yp (zH d (a+(b - a) / 4 *2) s1 a b C B n cp c _ aW aI O ab ab V) aa fun v40 bM a2=> ?_
 obtain ⟨bo,s2,rfl,bb,bB,aJ,aY,aR⟩:=a2
 refine aw<|J<|rg aa<|ao (.slice c n cp)<|p mv<|e<|cl yp (zH d (a+(b - a) / 4 *3) s2 a b C B n cp c _ aY aJ O ab ab V) aa fun bJ bN a3=> ?_
 obtain ⟨bp,bq,rfl,bc,bC,aK,aZ,aS⟩:=a3
 exact p aC<|nl<|tn<|⟨i1,bo,bp,bq,a9,bb,bc,ab,aK,aZ,(Md.trans' ah.md (Md.trans aP<|Md.trans aR aS) fun k hk h=>by omega),aa,aa,aa,aa,aa,aa,aa,aa⟩
 exact aQ<|tn<|⟨a+(b - a) / 4,a+(b - a) / 4 *2,a+(b - a) / 4 *3,0,ab,ab,ab,ab,aq,av,ah.md,aa,aa,aa,aa,aa,aa,aa,aa⟩
 rintro A Z ⟨E,G,I,Y,bw,bx,bz,bH,aN,a0,aO,bd,bg,bk,bl,bm,bh,bi,bj⟩
 refine fx 0 bd<|fx 1 bg<|fx 2 bk<|fx 8 bl<|fx 9 bm<|fx 10 bh<|fx 11 bi<|fx 12 bj<|rg aa<|ao (.slice c n cp)<|ao (aj E)<|ao (aj G)<|ao (aj I)<|e<|cl CI (FB d E G I Y a b C B n cp c _ a0 aN O ab ab V) aa fun bK bs a4=> ?_
 obtain ⟨an,bI,rfl,am,bF,aL,ai,aU⟩:=a4
 have ag:Wk w bs:=Md.trans' aO aU fun k hk h=>by omega
 refine aw<|aG<|ak fun ae=>p (ld bR aa<|aL.aM 0)<|nl<|ae<|aE<|ak fun ac=>p (cg aa aa)<|aw<|ac<|cd aa (fun a6=> ?_) fun a6=> ?_
 exact ak fun J=>p mv<|p aC<|aw<|J<|rt<|br<|f2 aa aa aa<|⟨an,_,aa,am,ai,ag⟩
 refine ak fun J=>p (cg aa aa)<|aw<|J<|cd aa (fun a7=> ?_) fun a7=> ?_
 exact ak fun ad=>p mv<|p aC<|aw<|ad<|rt<|br<|f2 aa aa aa<|⟨an,_,aa,am,ai,ag⟩
 exact ak fun ad=>p mv<|p aC<|aw<|ad<|rt<|br<|f2 aa aa aa<|⟨an,_,aa,am,ai,ag⟩
theorem R7 (c:Nat) (r:Int) (w:World) (J:bE w.heap c [.int .u64 r]):
 ba au 185 (aX [aV c]) w (fun v w'=> ∃ I:Int,v= .int .u64 I∧0≤I∧I < 18446744073709551616∧bE w'.heap c [.int .u64 I]∧Md (fun q=>q=c) w w'):=by
 refine enter func185 aa ntmps185 aa<|ak fun ac=>aw<|ac<|az fun ad=> ?_
 have C:(fun w'=>Wk w w') w.drew:=(Md.refl _ _).drew
 refine eF (fun w'=>Wk w w') 9 aa wide C<|lq 0 aa ag (fun _ _=>aH (aV c) aa) C<|lq 1 aa ag (fun _ _=>nc aa) C<|lq 2 aa ag (fun w' A=>ld pK aa<|Wk.aM A<|J.aM 0) C<|lq 3 aa ag (fun _ _=>aH (aV c) aa) C<|lq 4 aa ag (fun _ _=>nc aa) C<|lq 5 aa ag (fun w' A=>ld pK aa<|Wk.aM A<|J.aM 0) C<|lq 6 aa ag (fun _ _=>shl aa aa ay aa) C<|lq 7 aa ag (fun _ _=>x7 aa aa aa) C<|lq 8 aa ag (fun _ _=>nc aa) C<|db 9 aa ag ag<|st uS aa aa (aa) (C.B J) (by simp) fun Y aj O=>eE ag<|ad<|az fun ae=> ?_
 have E:(fun w'=>Wk Y w') Y.drew:=(Md.refl _ _).drew
 refine eF (fun w'=>Wk Y w') 9 aa wide E<|lq 0 aa ag (fun _ _=>aH (aV c) aa) E<|lq 1 aa ag (fun _ _=>nc aa) E<|lq 2 aa ag (fun w' A=>ld pK aa<|Wk.aM A<|O.aM 0) E<|lq 3 aa ag (fun _ _=>aH (aV c) aa) E<|lq 4 aa ag (fun _ _=>nc aa) E<|lq 5 aa ag (fun w' A=>ld pK aa<|Wk.aM A<|O.aM 0) E<|lq 6 aa ag (fun _ _=>shr aa aa ay aa) E<|lq 7 aa ag (fun _ _=>x7 aa aa aa) E<|lq 8 aa ag (fun _ _=>nc aa) E<|db 9 aa ag ag<|st uS aa aa (aa) (E.B O) (by simp) fun Z al V=>eE ag<|ae<|az fun ah=> ?_
 have G:(fun w'=>Wk Z w') Z.drew:=(Md.refl _ _).drew
 refine eF (fun w'=>Wk Z w') 9 aa wide G<|lq 0 aa ag (fun _ _=>aH (aV c) aa) G<|lq 1 aa ag (fun _ _=>nc aa) G<|lq 2 aa ag (fun w' A=>ld pK aa<|Wk.aM A<|V.aM 0) G<|lq 3 aa ag (fun _ _=>aH (aV c) aa) G<|lq 4 aa ag (fun _ _=>nc aa) G<|lq 5 aa ag (fun w' A=>ld pK aa<|Wk.aM A<|V.aM 0) G<|lq 6 aa ag (fun _ _=>shl aa aa ay aa) G<|lq 7 aa ag (fun _ _=>x7 aa aa aa) G<|lq 8 aa ag (fun _ _=>nc aa) G<|db 9 aa ag ag<|st uS aa aa (aa) (G.B V) (by simp) fun an am ab=>eE ag<|ah<|ak fun ai=>ao (aV c)<|p (nc aa)<|p (ld pK aa<|ab.aM 0)<|p aC<|nl ?_
 refine ai<|rt<|a6 aa ?_
 refine ⟨_,aa,(Ha _).1,(Ha _).2,ab,?_⟩
 exact Md.trans (Md.refl _ _).drew<|Md.trans aj<|Md.trans (Md.refl _ _).drew<|Md.trans al<|Md.trans (Md.refl _ _).drew am
theorem Rb (n:Nat) (w:World) (hn:n < 256):
 ba au 124 (aX [.int .u64 (n:Nat)]) w (fun v w'=>v=aj (jN n)∧Wk w w'):=by
 have ac:=vy hn
 refine enter func124 aa ntmps124 aa<|ak fun c=>aw<|c<|az fun A=>ak fun C=>ao (.int .u64 (n:Nat))<|p (ge aa aa)<|nl<|C<|cd aa (fun h=>absurd h ab) fun Y=>aQ<|A<|az fun E=>ak fun G=>ao (.int .u64 (n:Nat))<|p (ge aa aa)<|nl<|G<|cd aa (fun h=>absurd h ab) fun Z=> ?_
 refine aQ<|E<|az fun I=>ak fun J=>ao (.int .u64 (n:Nat))<|p (ge aa aa)<|nl<|J<|cd aa (fun h=>absurd h ab) fun V=> ?_
 exact aQ<|I<|ak fun O=>ao (.int .i64 0)<|ao (.int .u64 (n:Nat))<|p (yB u5 Vx aa<|A3 ab)<|p (jL u9 aa aa (by have :n < 256:=hn; simpa using this))<|p (nj u3 tA aa<|Vp hn<|by decide+kernel)<|p (bG ((jN n:Nat):Int) aa aa<|bf ab ab)<|aw<|O<|rt<|a6 aa<|⟨aa,Md.refl _ _⟩
theorem Fj (n:Nat) (w:World) (hn:n < 256):
 ba au 66 (aX [.int .u64 (n:Nat)]) w (fun v w'=>v=aj (jN n)∧Wk w w'):=by
 refine enter func66 aa ntmps66 aa<|ak fun c=>aw<|c<|az fun A=>cf aa<|aQ<|A<|ak fun C=>ao (.int .u64 (n:Nat))<|e<|cl Ko (Rb n _ hn) aa fun G I E=>aw<|C ?_
 exact rt<|a6 aa<|E
theorem R8 (n:Nat) (w:World) (hn:n < 256):
 ba au 184 (aX [aj n]) w (fun v w'=>v= .int .u64 (2 ^ jN n:Nat)∧Wk w w'):=by
 refine enter func184 aa ntmps184 aa<|ak fun c=>aw<|c<|ak fun A=>ao (aj n)<|p (nj G7 rM aa<|nE ab)<|e<|cl CQ (Fj n _ hn) aa fun v5 I E=> ?_
 obtain ⟨rfl,C⟩:=E
 have G:=vy hn
 exact p (shl aa aa ab<|T6 G)<|aw<|A<|rt<|a6 aa<|⟨aa,C⟩
theorem Kc (d:Array Nat) (a b:Nat) (B n cp:Nat) (A:Option Addr) (w:World) (hO:w.ownsRow B 95 1 (.slice A n cp) n (LE aT d)) (bv:a+12 < b∧b≤n) (bF:n≤255):
 ba au 286 (aX [.slice A n cp,aj a,aj b]) w (fun v w'=> ∃ d1,v= .tuple #[]∧mO a b d d1∧w'.ownsRow B 95 1 (.slice A n cp) n (LE aT d1)∧Md (fun q=>(bD A n cp).ownBlock=some q) w w'):=by
 refine enter func286 aa ntmps286 aa<|ak fun aA=>ao (aj b)<|ao (aj a)<|p (c6 ((b - a:Nat):Int) aa aa<|bf ab ab)<|aw<|aA<|ak fun aD=>p mv<|p (ge aa aa)<|nl<|aD<|cd aa (fun bx=> ?_) fun h=>absurd ab h
 refine ak fun aF=>p mv<|p (nj Vn rM aa<|nE ab)<|e<|al Wb fun Y bT bw a1 aO=>e<|st uS aa aa (aa) (aO) (by simp) fun bu aW aN=> ?_
 have av:Wk w bu:=Md.trans' a1.md aW fun k hk h=>by omega
 refine nl<|aF<|ak fun aH=>p mv<|e<|cl KG (R8 (b - a) _ ab) aa fun bO bQ a2=> ?_
 obtain ⟨rfl,ah⟩:=a2
 have bC:=Rc (n:=b - a) ab ab
 refine aw<|aH<|ak fun aI=>ao (aj a)<|p mv<|p (oY (((b - a) / 4:Nat):Int) aa aa ab<|bf ab ab)<|p (qe (((b - a) / 4 *2:Nat):Int) aa aa<|bf ab ab)<|p (bG ((a+(b - a) / 4 *2:Nat):Int) aa aa<|bf ab ab)<|p (c6 ((a+(b - a) / 4 *2 - 1:Nat):Int) aa aa<|bf ab ab)<|aw<|aI<|aE ?_
 have ac:(bD A n cp).ownBlock≠some Y:=fun h=>by have :=dd hO h; omega
 refine lp (fun ap V ae=> ∃ (C:Nat) (r:Int) (G:Array Nat),(a+(b - a) / 4 *2 - 1≤C∧C≤a+(b - a) / 4 *2 +2)∧(mO a b d G)∧(bE ae.heap Y [.int .u64 r])∧(ae.ownsRow B 95 1 (.slice A n cp) n<|LE aT G)∧(Md (fun q=>(bD A n cp).ownBlock=some q) w ae)∧(V 0= .slice A n cp)∧(V 1=aj a)∧(V 6=aj (b - a))∧(V 7=aV Y)∧(V 8= .int .u64 (2 ^ jN (b - a):Nat))∧(V 9=aj C)∧(a+(b - a) / 4 *2 +3 - C=ap)) _ ⟨a+(b - a) / 4 *2 - 1,(b - a:Nat),d,ab,(If d a b),(ah.B aN),(a8 (a8 hO av) ah),((Md.trans av ah).mono fun _ _ h=>h.elim),aa,aa,aa,aa,aa,aa,aa⟩ ?_
 rintro ap V ae ⟨C,r,G,bA,aR,aS,am,ai,bd,bg,bh,bi,bj,bk,rfl⟩
 refine fx 0 bd<|fx 1 bg<|fx 6 bh<|fx 7 bi<|fx 8 bj<|fx 9 bk<|az fun aJ=>ak fun aK=>ao (aj C)<|ao (aj a)<|ao (aj<|b - a)<|p (oY (((b - a) / 4:Nat):Int) aa aa ab<|bf ab ab)<|p (qe (((b - a) / 4 *2:Nat):Int) aa aa<|bf ab ab)<|p (bG ((a+(b - a) / 4 *2:Nat):Int) aa aa<|bf ab ab)<|p (bG ((a+(b - a) / 4 *2 +1:Nat):Int) aa aa<|bf ab ab)<|p (le aa aa)<|nl<|aK<|cd aa (fun a4=> ?_) fun a4=> ?_
 refine aQ<|aJ<|az fun aL=>aE<|ak fun aM=>e<|cl KH (R7 Y r _ aS) aa fun bP bR a3=> ?_
 obtain ⟨an,rfl,bM,bN,aq,ad⟩:=a3
 obtain ⟨o,bJ,bb⟩:=JE an (2 ^ jN (b - a)) ab
 have bH:=ac
 refine ao (.int .u64 (2 ^ jN (b - a):Nat))<|p (sb aa aa<|nE ab)<|p (eB aa aa bb)<|p (yB u3 Vw aa<|cH ab)<|aw<|aM ?_
 refine eV (fun O J=> ∃ (E:Nat),(E < b - a)∧(bE J.heap Y [.int .u64 an])∧(J.ownsRow B 95 1 (.slice A n cp) n<|LE aT G)∧(Md (fun q=>(bD A n cp).ownBlock=some q) w J)∧(O 0= .slice A n cp)∧(O 1=aj a)∧(O 6=aj (b - a))∧(O 7=aV Y)∧(O 8= .int .u64 (2 ^ jN (b - a):Nat))∧(O 9=aj C)∧(O 10=aj E)) ?_ ?_
 refine ak fun aB=>p mv<|ao (aj<|b - a)<|p (ge aa aa)<|nl<|aB<|cd aa (fun a5=> ?_) fun a5=> ?_
 exact rg aa<|p mv<|ao (aj<|b - a)<|p (c6 ((o - (b - a):Nat):Int) aa aa<|bf ab ab)<|p aC<|nl<|tn<|⟨o - (b - a),ab,aq,(cz am ad fun k hk h=>ac<|h ▸ hk),(Md.trans' ai ad fun k hk h=>by omega),aa,aa,aa,aa,aa,aa,aa⟩
 exact aQ<|tn<|⟨o,ab,aq,(cz am ad fun k hk h=>ac<|h ▸ hk),(Md.trans' ai ad fun k hk h=>by omega),aa,aa,aa,aa,aa,aa,aa⟩
 rintro O J ⟨E,bK,aP,I,a0,bl,bm,bq,br,bs,bt,bp⟩
 refine fx 0 bl<|fx 1 bm<|fx 6 bq<|fx 7 br<|fx 8 bs<|fx 9 bt<|fx 10 bp ?_
 have bz:=ec I
 have c:(fun w'=>Wk J w') J.drew:=(Md.refl _ _).drew
 refine eF (fun w'=>Wk J w') 17 aa wide c<|bo 0 aa (.slice A n cp) c<|bo 1 aa (aj C) c<|bo 2 aa (.slice A n cp) c<|bo 3 aa (aj a) c<|bo 4 aa (aj E) c<|bB 5 aa (fun _=>bG ((a+E:Nat):Int) aa aa<|bf ab ab) (fun _=>c)<|bo 6 aa (.slice A n cp) c<|bo 7 aa (aj a) c<|bo 8 aa (aj E) c<|bB 9 aa (fun _=>bG ((a+E:Nat):Int) aa aa<|bf ab ab) (fun _=>c)<|bB 10 aa (fun _=>a7 bI aa aa ab<|aG.ok ((aU I).2)<|bL ab) (fun _=>c)<|ed 11 aa (fun w' Z=>ld bW aa<|cE (i:=a+E) ((aU I).2.wk Z) ab) c<|bo 12 aa (.slice A n cp) c<|bo 13 aa (aj C) c<|bB 14 aa (fun _=>a7 bI aa aa ab<|aG.ok ((aU I).2)<|bL ab) (fun _=>c)<|ed 15 aa (fun w' Z=>ld bW aa<|cE (i:=C) ((aU I).2.wk Z) ab) c<|bB 16 aa (fun _=>a7 bI aa aa ab<|aG.ok ((aU I).2)<|bL ab) (fun _=>c)<|db 17 aa ag ag<|e7 (u:=G[a+E]!) (C) (a8 I c) eZ aa aa aa ab fun bU aY a6=> ?_
 refine bB 18 aa (fun _=>a7 bI aa aa ab<|aG.ok ((aU I).2)<|bL ab) (fun h=>dA<|(show true =_ from by kernel_rfl).trans h)<|db 19 aa ag ag<|e7 (u:=G[C]!) (a+E) a6 eZ aa aa aa ab fun ay aZ a9=> ?_
 have Z:ay.ownsRow B 95 1 (.slice A n cp) n (LE aT<|bS G (C)<|a+E):=a9
 have ax:Md (fun q=>(bD A n cp).ownBlock=some q) J ay:=Md.trans (c.mono fun _ _ h=>h.elim)<|Md.trans aY aZ
 exact eE ag<|bn<|aL<|rg aa<|ao (aj C)<|p (bG ((C+1:Nat):Int) aa aa<|bf ab ab)<|p aC<|nl<|tn<|⟨_,ab,C+1,an,bS G C (a+E),ab,(SP aR ab ab ab aa),(ax.B aP fun h=>ac h),Z,(Md.trans a0 ax),aa,aa,aa,aa,aa,aa,aa⟩
 exact ext<|bc<|bc<|be<|f0 aa<|⟨G,aa,aR,am,ai⟩
theorem SH {d:Array Nat} {a b c i j:Nat} (h1:mQ (fun x=>bJ x (bS d a c)[a]!) (bS d a c) (b - 1) (a+1)=i) (h2:mP (fun x=> !bJ x (bS d a c)[a]!) (bS d a c) i (b - 1)=j) (h:i > j):
 pn bJ d a b c=(j,true,bS (bS d a c) j a):=by
 unfold pn; simp only [h1,h2,if_pos h]
theorem part_go {d:Array Nat} {a b c i j A:Nat} {C:Array Nat} (h1:mQ (fun x=>bJ x (bS d a c)[a]!) (bS d a c) (b - 1) (a+1)=i) (h2:mP (fun x=> !bJ x (bS d a c)[a]!) (bS d a c) i (b - 1)=j) (h:¬i > j)
 (h3:Bt bJ a (i+1) (j - 1) (bS (bS d a c) i j)=(A,C)):
 pn bJ d a b c=(A,false,bS C A a):=by
 unfold pn; simp only [h1,h2,if_neg h,h3]
theorem SJ (d:Array Nat) (a b A:Nat) (B n cp:Nat) (c:Option Addr) (w:World) (hO:w.ownsRow B 95 1 (.slice c n cp) n (LE aT d)) (dB:a≤A∧A < b∧b≤n) (dF:n≤1099511627776):
 ba au 292 (aX [.slice c n cp,aj a,aj b,aj A]) w (fun v w'=>v= .tuple #[aj ((pn bJ d a b A).1),.bool (pn bJ d a b A).2.1]∧w'.ownsRow B 95 1 (.slice c n cp) n (LE aT (pn bJ d a b A).2.2)∧Md (fun q=>(bD c n cp).ownBlock=some q) w w'):=by
 refine enter func292 aa ntmps292 aa<|ak fun bR=>p aC<|aw<|bR<|az fun bU=> ?_
 have dC:=ec hO
 have ah:(fun w'=>Wk w w') w.drew:=(Md.refl _ _).drew
 refine eF (fun w'=>Wk w w') 13 aa wide ah<|bo 0 aa (.slice c n cp) ah<|bo 1 aa (aj a) ah<|bo 2 aa (.slice c n cp) ah<|bo 3 aa (aj A) ah<|bo 4 aa (.slice c n cp) ah<|bo 5 aa (aj A) ah<|bB 6 aa (fun _=>a7 bI aa aa ab<|aG.ok ((aU hO).2)<|bL ab) (fun _=>ah)<|ed 7 aa (fun w' E=>ld bW aa<|cE (i:=A) ((aU hO).2.wk E) ab) ah<|bo 8 aa (.slice c n cp) ah<|bo 9 aa (aj a) ah<|bB 10 aa (fun _=>a7 bI aa aa ab<|aG.ok ((aU hO).2)<|bL ab) (fun _=>ah)<|ed 11 aa (fun w' E=>ld bW aa<|cE (i:=a) ((aU hO).2.wk E) ab) ah<|bB 12 aa (fun _=>a7 bI aa aa ab<|aG.ok ((aU hO).2)<|bL ab) (fun _=>ah)<|db 13 aa ag ag<|e7 (u:=d[A]!) (a) (a8 hO ah) eZ aa aa aa ab fun dI b6 cI=> ?_
 refine bB 14 aa (fun _=>a7 bI aa aa ab<|aG.ok ((aU hO).2)<|bL ab) (fun h=>dA<|(show true =_ from by kernel_rfl).trans h)<|db 15 aa ag ag<|e7 (u:=d[a]!) (A) cI eZ aa aa aa ab fun bK b7 cJ=> ?_
 have cq:bK.ownsRow B 95 1 (.slice c n cp) n (LE aT<|bS d (a)<|A):=cJ
 have b5:Md (fun q=>(bD c n cp).ownBlock=some q) w bK:=Md.trans (ah.mono fun _ _ h=>h.elim)<|Md.trans b6 b7
 refine eE ag<|bU<|ak fun bX=>ao (aj a)<|p (bG ((a+1:Nat):Int) aa aa<|bf ab ab)<|ao (aj b)<|p (c6 ((b - 1:Nat):Int) aa aa<|bf ab ab)<|p aC ?_
 refine aw<|bX ?_
 refine eV (fun a0 bu=> ∃ (J:Nat),(a+1≤J∧(J=a+1∨J≤b - 1 +1))∧(mQ (fun x=>bJ x (bS d a A)[a]!) (bS d a A) (b - 1) (a+1)=J)∧(bu.ownsRow B 95 1 (.slice c n cp) n<|LE aT<|bS d a A)∧(Md (fun q=>(bD c n cp).ownBlock=some q) w bu)∧(a0 0= .slice c n cp)∧(a0 1=aj a)∧(a0 10=aj J)∧(a0 11=aj (b - 1))) ?_ ?_
 refine aE<|lp (fun av a1 aL=> ∃ (q:Nat),(a+1≤q∧(q=a+1∨q≤b - 1 +1))∧(mQ (fun x=>bJ x (bS d a A)[a]!) (bS d a A) (b - 1) (q)=mQ (fun x=>bJ x (bS d a A)[a]!) (bS d a A) (b - 1) (a+1))∧(aL.ownsRow B 95 1 (.slice c n cp) n<|LE aT<|bS d a A)∧(Md (fun q=>(bD c n cp).ownBlock=some q) w aL)∧(a1 0= .slice c n cp)∧(a1 1=aj a)∧(a1 10=aj q)∧(a1 11=aj (b - 1))∧(b - 1 +1 - q=av)) _ ⟨a+1,ab,aa,cq,b5,aa,aa,aa,aa,aa⟩ ?_
 rintro av a1 aL ⟨q,ax,aq,C,ap,cW,cX,cY,cZ,rfl⟩
 refine fx 0 cW<|fx 1 cX<|fx 10 cY<|fx 11 cZ<|az fun aW=>az fun aF=> ?_
 have aK:=ec C
 have ac:(fun w'=>Wk aL w') aL.drew:=(Md.refl _ _).drew
 refine cD (fun w'=>Wk aL w') aa wide ac<|bT 0 aa (aj q) ac<|bT 1 aa (aj<|b - 1) ac<|aR 2 aa (fun _ _=>le aa aa) ac<|aR 3 aa (fun _ _=>mv) ac<|j9 (t:=33) aa (fun cG=> ?_) fun cG=> ?_
 refine bq 4 aa (fun _ _=>aH (.slice c n cp) aa) ac<|bq 5 aa (fun _ _=>aH (aj q) aa) ac<|bq 6 aa (fun _ _=>a7 bI aa aa ab<|aG.ok ((aU C).2)<|bL ab) ac<|bq 7 aa (fun w' E=>ld bW aa<|cE (i:=q) ((aU C).2.wk E) ab) ac<|bq 8 aa (fun _ _=>aH (.slice c n cp) aa) ac<|bq 9 aa (fun _ _=>aH (aj a) aa) ac<|bq 10 aa (fun _ _=>a7 bI aa aa ab<|aG.ok ((aU C).2)<|bL ab) ac<|bq 11 aa (fun w' E=>ld bW aa<|cE (i:=a) ((aU C).2.wk E) ab) ac<|lr 12 aa ag aa aa aa<|cl kI (kM (bS d a A)[q]! (bS d a A)[a]! _) aa fun dH dy cy=> ?_
 obtain ⟨rfl,b2⟩:=cy
 have aS:(fun w'=>Wk aL w') dy:=Md.trans ac b2
 refine ⟨aS,?_⟩
 refine aR 13 aa (fun _ _=>bN aa) aS<|hn ag<|aF<|cb aa (fun br=> ?_) fun br=> ?_
 exact aQ<|aW<|aE<|rg aa<|ao (aj q)<|p (bG ((q+1:Nat):Int) aa aa<|bf ab ab)<|p aC<|nl<|bn<|tn<|⟨_,ab,q+1,ab,(by rw [← aq,AZ (show q≤b - 1 by omega) (by simpa using br)]),(a8 C aS),(Md.trans ap<|aS.mono fun _ _ h=>h.elim),aa,aa,aa,aa,aa⟩
 exact ext<|bc<|bc<|be<|tn<|⟨q,ax,(by rw [← aq,rL (.inr<|by simpa using br)]),(a8 C aS),(Md.trans ap<|aS.mono fun _ _ h=>h.elim),aa,aa,aa,aa⟩
 exact bl 4 aa ac<|bl 5 aa ac<|bl 6 aa ac<|bl 7 aa ac<|bl 8 aa ac<|bl 9 aa ac<|bl 10 aa ac<|bl 11 aa ac<|bl 12 aa ac<|aR 13 aa (fun _ _=>bH aa) ac<|hn ag<|aF<|cf aa<|ext<|bc<|bc<|be<|tn<|⟨q,ax,(by rw [← aq,rL (.inl ab)]),(a8 C (Md.refl _ _).drew),ap.drew,aa,aa,aa,aa⟩
 rintro a0 bu ⟨J,dD,bE,bk,bj,cS,cT,cU,cV⟩
 refine fx 0 cS<|fx 1 cT<|fx 10 cU<|fx 11 cV ?_
 refine eV (fun a2 aA=> ∃ (O:Nat),(a≤O∧O≤b - 1)∧(mP (fun x=> !bJ x (bS d a A)[a]!) (bS d a A) (J) (b - 1)=O)∧(aA.ownsRow B 95 1 (.slice c n cp) n<|LE aT<|bS d a A)∧(Md (fun q=>(bD c n cp).ownBlock=some q) w aA)∧(a2 0= .slice c n cp)∧(a2 1=aj a)∧(a2 10=aj J)∧(a2 11=aj O)) ?_ ?_
 refine aE<|lp (fun av a3 aN=> ∃ (q:Nat),(a≤q∧q≤b - 1)∧(mP (fun x=> !bJ x (bS d a A)[a]!) (bS d a A) (J) (q)=mP (fun x=> !bJ x (bS d a A)[a]!) (bS d a A) (J) (b - 1))∧(aN.ownsRow B 95 1 (.slice c n cp) n<|LE aT<|bS d a A)∧(Md (fun q=>(bD c n cp).ownBlock=some q) w aN)∧(a3 0= .slice c n cp)∧(a3 1=aj a)∧(a3 10=aj J)∧(a3 11=aj q)∧(q=av)) _ ⟨b - 1,ab,aa,bk,bj,aa,aa,aa,aa,aa⟩ ?_
 rintro av a3 aN ⟨q,ax,aq,C,ap,c4,c5,c7,c8,rfl⟩
 refine fx 0 c4<|fx 1 c5<|fx 10 c7<|fx 11 c8<|az fun aW=>az fun aF=> ?_
 have aK:=ec C
 have Y:(fun w'=>Wk aN w') aN.drew:=(Md.refl _ _).drew
 refine cD (fun w'=>Wk aN w') aa wide Y<|bT 0 aa (aj J) Y<|bT 1 aa (aj q) Y<|aR 2 aa (fun _ _=>le aa aa) Y<|aR 3 aa (fun _ _=>mv) Y<|j9 (t:=49) aa (fun cH=> ?_) fun cH=> ?_
 refine bq 4 aa (fun _ _=>aH (.slice c n cp) aa) Y<|bq 5 aa (fun _ _=>aH (aj q) aa) Y<|bq 6 aa (fun _ _=>a7 bI aa aa ab<|aG.ok ((aU C).2)<|bL ab) Y<|bq 7 aa (fun w' E=>ld bW aa<|cE (i:=q) ((aU C).2.wk E) ab) Y<|bq 8 aa (fun _ _=>aH (.slice c n cp) aa) Y<|bq 9 aa (fun _ _=>aH (aj a) aa) Y<|bq 10 aa (fun _ _=>a7 bI aa aa ab<|aG.ok ((aU C).2)<|bL ab) Y<|bq 11 aa (fun w' E=>ld bW aa<|cE (i:=a) ((aU C).2.wk E) ab) Y<|lr 12 aa ag aa aa aa<|cl kI (kM (bS d a A)[q]! (bS d a A)[a]! _) aa fun v58 dz cz=> ?_
 obtain ⟨rfl,b3⟩:=cz
 have aJ:(fun w'=>Wk aN w') dz:=Md.trans Y b3
 refine ⟨aJ,?_⟩
 refine bq 13 aa (fun _ _=>no aa) aJ<|aR 14 aa (fun _ _=>bN aa) aJ<|hn ag<|aF<|cb aa (fun bs=> ?_) fun bs=> ?_
 exact aQ<|aW<|aE<|rg aa<|ao (aj q)<|p (c6 ((q - 1:Nat):Int) aa aa<|bf ab ab)<|p aC<|nl<|bn<|tn<|⟨_,ab,q - 1,ab,(by rw [← aq,yG (show 0 < q by omega) (show J≤q by omega) (by simpa using bs)]),(a8 C aJ),(Md.trans ap<|aJ.mono fun _ _ h=>h.elim),aa,aa,aa,aa,aa⟩
 exact ext<|bc<|bc<|be<|tn<|⟨q,ax,(by rw [← aq,qY (.inr<|by simpa using bs)]),(a8 C aJ),(Md.trans ap<|aJ.mono fun _ _ h=>h.elim),aa,aa,aa,aa⟩
 exact bl 4 aa Y<|bl 5 aa Y<|bl 6 aa Y<|bl 7 aa Y<|bl 8 aa Y<|bl 9 aa Y<|bl 10 aa Y<|bl 11 aa Y<|bl 12 aa Y<|bl 13 aa Y<|aR 14 aa (fun _ _=>bH aa) Y<|hn ag<|aF<|cf aa<|ext<|bc<|bc<|be<|tn<|⟨q,ax,(by rw [← aq,qY (.inl ab)]),(a8 C (Md.refl _ _).drew),ap.drew,aa,aa,aa,aa⟩
 rintro a2 aA ⟨O,dE,bw,G,aY,c0,c1,c2,c3⟩
 refine fx 0 c0<|fx 1 c1<|fx 10 c2<|fx 11 c3<|az fun aW=>ak fun aF=>ao (aj J)<|ao (aj O)<|p (gt aa aa)<|nl<|aF<|cd aa (fun cB=> ?_) fun cB=> ?_
 refine az fun bh=> ?_
 have aK:=ec G
 have an:(fun w'=>Wk aA w') aA.drew:=(Md.refl _ _).drew
 refine eF (fun w'=>Wk aA w') 13 aa wide an<|bo 0 aa (.slice c n cp) an<|bo 1 aa (aj O) an<|bo 2 aa (.slice c n cp) an<|bo 3 aa (aj a) an<|bo 4 aa (.slice c n cp) an<|bo 5 aa (aj a) an<|bB 6 aa (fun _=>a7 bI aa aa ab<|aG.ok ((aU G).2)<|bL ab) (fun _=>an)<|ed 7 aa (fun w' E=>ld bW aa<|cE (i:=a) ((aU G).2.wk E) ab) an<|bo 8 aa (.slice c n cp) an<|bo 9 aa (aj O) an<|bB 10 aa (fun _=>a7 bI aa aa ab<|aG.ok ((aU G).2)<|bL ab) (fun _=>an)<|ed 11 aa (fun w' E=>ld bW aa<|cE (i:=O) ((aU G).2.wk E) ab) an<|bB 12 aa (fun _=>a7 bI aa aa ab<|aG.ok ((aU G).2)<|bL ab) (fun _=>an)<|db 13 aa ag ag<|e7 (u:=(bS d a A)[a]!) (O) (a8 G an) eZ aa aa aa ab fun dJ b9 cK=> ?_
 refine bB 14 aa (fun _=>a7 bI aa aa ab<|aG.ok ((aU G).2)<|bL ab) (fun h=>dA<|(show true =_ from by kernel_rfl).trans h)<|db 15 aa ag ag<|e7 (u:=(bS d a A)[O]!) (a) cK eZ aa aa aa ab fun bM ca cL=> ?_
 have cs:bM.ownsRow B 95 1 (.slice c n cp) n (LE aT<|bS (bS d a A) (O)<|a):=cL
 have b8:Md (fun q=>(bD c n cp).ownBlock=some q) aA bM:=Md.trans (an.mono fun _ _ h=>h.elim)<|Md.trans b9 ca
 refine eE ag<|bh<|ak fun bi=>ao (aj O)<|p (bV (aj O) aa)<|aw<|bi ?_
 refine rt<|tr<|f2 aa aa aa ?_
 have aZ:=SH bE bw ab
 exact ⟨by rw [aZ]; rfl,by rw [aZ]; exact cs,Md.trans aY b8⟩
 refine aQ<|aW<|az fun bh=> ?_
 have aK:=ec G
 have ai:(fun w'=>Wk aA w') aA.drew:=(Md.refl _ _).drew
 refine eF (fun w'=>Wk aA w') 13 aa wide ai<|bo 0 aa (.slice c n cp) ai<|bo 1 aa (aj J) ai<|bo 2 aa (.slice c n cp) ai<|bo 3 aa (aj O) ai<|bo 4 aa (.slice c n cp) ai<|bo 5 aa (aj O) ai<|bB 6 aa (fun _=>a7 bI aa aa ab<|aG.ok ((aU G).2)<|bL ab) (fun _=>ai)<|ed 7 aa (fun w' E=>ld bW aa<|cE (i:=O) ((aU G).2.wk E) ab) ai<|bo 8 aa (.slice c n cp) ai<|bo 9 aa (aj J) ai<|bB 10 aa (fun _=>a7 bI aa aa ab<|aG.ok ((aU G).2)<|bL ab) (fun _=>ai)<|ed 11 aa (fun w' E=>ld bW aa<|cE (i:=J) ((aU G).2.wk E) ab) ai<|bB 12 aa (fun _=>a7 bI aa aa ab<|aG.ok ((aU G).2)<|bL ab) (fun _=>ai)<|db 13 aa ag ag<|e7 (u:=(bS d a A)[O]!) (J) (a8 G ai) eZ aa aa aa ab fun dK ce cM=> ?_
 refine bB 14 aa (fun _=>a7 bI aa aa ab<|aG.ok ((aU G).2)<|bL ab) (fun h=>dA<|(show true =_ from by kernel_rfl).trans h)<|db 15 aa ag ag<|e7 (u:=(bS d a A)[J]!) (O) cM eZ aa aa aa ab fun bO cg cN=> ?_
 have ct:bO.ownsRow B 95 1 (.slice c n cp) n (LE aT<|bS (bS d a A) (J)<|O):=cN
 have cc:Md (fun q=>(bD c n cp).ownBlock=some q) aA bO:=Md.trans (ai.mono fun _ _ h=>h.elim)<|Md.trans ce cg
 refine eE ag<|bh<|ak fun bi=>ao (aj J)<|p (bG ((J+1:Nat):Int) aa aa<|bf ab ab)<|aw<|bi ?_
 refine ak fun bY=>ao (aj O)<|p (c6 ((O - 1:Nat):Int) aa aa<|bf ab ab)<|aw<|bY<|az fun bZ=>aE<|lp (fun av a4 bt=> ∃ (i j:Nat) (I:Array Nat),(a+2≤i∧i≤b∧a≤j∧j < b∧i≤j+2)∧(Bt bJ a i j I=Bt bJ a (J+1) (O - 1) (bS (bS d a A) J O))∧(bt.ownsRow B 95 1 (.slice c n cp) n<|LE aT I)∧(Md (fun q=>(bD c n cp).ownBlock=some q) w bt)∧(a4 0= .slice c n cp)∧(a4 1=aj a)∧(a4 10=aj i)∧(a4 11=aj j)∧(j+1 - i=av)) _ ⟨J+1,O - 1,bS (bS d a A) J O,ab,aa,ct,(Md.trans aY cc),aa,aa,aa,aa,aa⟩ ?_
 rintro av a4 bt ⟨i,j,I,hi,bC,co,b4,c9,da,dc,dd,rfl⟩
 refine fx 0 c9<|fx 1 da<|fx 10 dc<|fx 11 dd<|aE ?_
 refine eV (fun a5 bv=> ∃ (ad:Nat),(i≤ad∧(ad=i∨ad≤j+1))∧(mQ (fun x=>bJ x I[a]!) I (j) (i)=ad)∧(bv.ownsRow B 95 1 (.slice c n cp) n<|LE aT I)∧(Md (fun q=>(bD c n cp).ownBlock=some q) w bv)∧(a5 0= .slice c n cp)∧(a5 1=aj a)∧(a5 10=aj ad)∧(a5 11=aj j)) ?_ ?_
 refine aE<|lp (fun av a6 aM=> ∃ (q:Nat),(i≤q∧(q=i∨q≤j+1))∧(mQ (fun x=>bJ x I[a]!) I (j) (q)=mQ (fun x=>bJ x I[a]!) I (j) (i))∧(aM.ownsRow B 95 1 (.slice c n cp) n<|LE aT I)∧(Md (fun q=>(bD c n cp).ownBlock=some q) w aM)∧(a6 0= .slice c n cp)∧(a6 1=aj a)∧(a6 10=aj q)∧(a6 11=aj j)∧(j+1 - q=av)) _ ⟨i,ab,aa,co,b4,aa,aa,aa,aa,aa⟩ ?_
 rintro av a6 aM ⟨q,ax,aq,C,ap,di,dj,dk,dl,rfl⟩
 refine fx 0 di<|fx 1 dj<|fx 10 dk<|fx 11 dl<|az fun aV=>az fun aD=> ?_
 have aK:=ec C
 have Z:(fun w'=>Wk aM w') aM.drew:=(Md.refl _ _).drew
 refine cD (fun w'=>Wk aM w') aa wide Z<|bT 0 aa (aj q) Z<|bT 1 aa (aj j) Z<|aR 2 aa (fun _ _=>le aa aa) Z<|aR 3 aa (fun _ _=>mv) Z<|j9 (t:=102) aa (fun cC=> ?_) fun cC=> ?_
 refine bq 4 aa (fun _ _=>aH (.slice c n cp) aa) Z<|bq 5 aa (fun _ _=>aH (aj q) aa) Z<|bq 6 aa (fun _ _=>a7 bI aa aa ab<|aG.ok ((aU C).2)<|bL ab) Z<|bq 7 aa (fun w' E=>ld bW aa<|cE (i:=q) ((aU C).2.wk E) ab) Z<|bq 8 aa (fun _ _=>aH (.slice c n cp) aa) Z<|bq 9 aa (fun _ _=>aH (aj a) aa) Z<|bq 10 aa (fun _ _=>a7 bI aa aa ab<|aG.ok ((aU C).2)<|bL ab) Z<|bq 11 aa (fun w' E=>ld bW aa<|cE (i:=a) ((aU C).2.wk E) ab) Z<|lr 12 aa ag aa aa aa<|cl kI (kM I[q]! I[a]! _) aa fun dG dw cw=> ?_
 obtain ⟨rfl,b0⟩:=cw
 have aP:(fun w'=>Wk aM w') dw:=Md.trans Z b0
 refine ⟨aP,?_⟩
 refine aR 13 aa (fun _ _=>bN aa) aP<|hn ag<|aD<|cb aa (fun bm=> ?_) fun bm=> ?_
 exact aQ<|aV<|aE<|rg aa<|ao (aj q)<|p (bG ((q+1:Nat):Int) aa aa<|bf ab ab)<|p aC<|nl<|bn<|tn<|⟨_,ab,q+1,ab,(by rw [← aq,AZ (show q≤j by omega) (by simpa using bm)]),(a8 C aP),(Md.trans ap<|aP.mono fun _ _ h=>h.elim),aa,aa,aa,aa,aa⟩
 exact ext<|bc<|bc<|be<|tn<|⟨q,ax,(by rw [← aq,rL (.inr<|by simpa using bm)]),(a8 C aP),(Md.trans ap<|aP.mono fun _ _ h=>h.elim),aa,aa,aa,aa⟩
 exact bl 4 aa Z<|bl 5 aa Z<|bl 6 aa Z<|bl 7 aa Z<|bl 8 aa Z<|bl 9 aa Z<|bl 10 aa Z<|bl 11 aa Z<|bl 12 aa Z<|aR 13 aa (fun _ _=>bH aa) Z<|hn ag<|aD<|cf aa<|ext<|bc<|bc<|be<|tn<|⟨q,ax,(by rw [← aq,rL (.inl ab)]),(a8 C (Md.refl _ _).drew),ap.drew,aa,aa,aa,aa⟩
 rintro a5 bv ⟨ad,bz,bF,bk,bj,de,df,dg,dh⟩
 refine fx 0 de<|fx 1 df<|fx 10 dg<|fx 11 dh ?_
 refine eV (fun a9 aB=> ∃ (ae:Nat),(a≤ae∧ae≤j)∧(mP (fun x=> !bJ x I[a]!) I (ad) (j)=ae)∧(aB.ownsRow B 95 1 (.slice c n cp) n<|LE aT I)∧(Md (fun q=>(bD c n cp).ownBlock=some q) w aB)∧(a9 0= .slice c n cp)∧(a9 1=aj a)∧(a9 10=aj ad)∧(a9 11=aj ae)) ?_ ?_
 refine aE<|lp (fun av bb aO=> ∃ (q:Nat),(a≤q∧q≤j)∧(mP (fun x=> !bJ x I[a]!) I (ad) (q)=mP (fun x=> !bJ x I[a]!) I (ad) (j))∧(aO.ownsRow B 95 1 (.slice c n cp) n<|LE aT I)∧(Md (fun q=>(bD c n cp).ownBlock=some q) w aO)∧(bb 0= .slice c n cp)∧(bb 1=aj a)∧(bb 10=aj ad)∧(bb 11=aj q)∧(q=av)) _ ⟨j,ab,aa,bk,bj,aa,aa,aa,aa,aa⟩ ?_
 rintro av bb aO ⟨q,ax,aq,C,ap,ds,dt,du,dv,rfl⟩
 refine fx 0 ds<|fx 1 dt<|fx 10 du<|fx 11 dv<|az fun aV=>az fun aD=> ?_
 have aK:=ec C
 have V:(fun w'=>Wk aO w') aO.drew:=(Md.refl _ _).drew
 refine cD (fun w'=>Wk aO w') aa wide V<|bT 0 aa (aj ad) V<|bT 1 aa (aj q) V<|aR 2 aa (fun _ _=>le aa aa) V<|aR 3 aa (fun _ _=>mv) V<|j9 (t:=118) aa (fun cF=> ?_) fun cF=> ?_
 refine bq 4 aa (fun _ _=>aH (.slice c n cp) aa) V<|bq 5 aa (fun _ _=>aH (aj q) aa) V<|bq 6 aa (fun _ _=>a7 bI aa aa ab<|aG.ok ((aU C).2)<|bL ab) V<|bq 7 aa (fun w' E=>ld bW aa<|cE (i:=q) ((aU C).2.wk E) ab) V<|bq 8 aa (fun _ _=>aH (.slice c n cp) aa) V<|bq 9 aa (fun _ _=>aH (aj a) aa) V<|bq 10 aa (fun _ _=>a7 bI aa aa ab<|aG.ok ((aU C).2)<|bL ab) V<|bq 11 aa (fun w' E=>ld bW aa<|cE (i:=a) ((aU C).2.wk E) ab) V<|lr 12 aa ag aa aa aa<|cl kI (kM I[q]! I[a]! _) aa fun v127 dx cx=> ?_
 obtain ⟨rfl,b1⟩:=cx
 have aI:(fun w'=>Wk aO w') dx:=Md.trans V b1
 refine ⟨aI,?_⟩
 refine bq 13 aa (fun _ _=>no aa) aI<|aR 14 aa (fun _ _=>bN aa) aI<|hn ag<|aD<|cb aa (fun bp=> ?_) fun bp=> ?_
 exact aQ<|aV<|aE<|rg aa<|ao (aj q)<|p (c6 ((q - 1:Nat):Int) aa aa<|bf ab ab)<|p aC<|nl<|bn<|tn<|⟨_,ab,q - 1,ab,(by rw [← aq,yG (show 0 < q by omega) (show ad≤q by omega) (by simpa using bp)]),(a8 C aI),(Md.trans ap<|aI.mono fun _ _ h=>h.elim),aa,aa,aa,aa,aa⟩
 exact ext<|bc<|bc<|be<|tn<|⟨q,ax,(by rw [← aq,qY (.inr<|by simpa using bp)]),(a8 C aI),(Md.trans ap<|aI.mono fun _ _ h=>h.elim),aa,aa,aa,aa⟩
 exact bl 4 aa V<|bl 5 aa V<|bl 6 aa V<|bl 7 aa V<|bl 8 aa V<|bl 9 aa V<|bl 10 aa V<|bl 11 aa V<|bl 12 aa V<|bl 13 aa V<|aR 14 aa (fun _ _=>bH aa) V<|hn ag<|aD<|cf aa<|ext<|bc<|bc<|be<|tn<|⟨q,ax,(by rw [← aq,qY (.inl ab)]),(a8 C (Md.refl _ _).drew),ap.drew,aa,aa,aa,aa⟩
 rintro a9 aB ⟨ae,bA,bx,G,aY,dn,dp,dq,dr⟩
 refine fx 0 dn<|fx 1 dp<|fx 10 dq<|fx 11 dr<|az fun aV=>ak fun aD=>ao (aj ad)<|ao (aj ae)<|p (gt aa aa)<|nl<|aD<|cd aa (fun cA=> ?_) fun cA=> ?_
 refine ext<|bc<|na ay<|bc<|be<|bZ<|az fun bd=> ?_
 have aK:=ec G
 have am:(fun w'=>Wk aB w') aB.drew:=(Md.refl _ _).drew
 refine eF (fun w'=>Wk aB w') 13 aa wide am<|bo 0 aa (.slice c n cp) am<|bo 1 aa (aj ae) am<|bo 2 aa (.slice c n cp) am<|bo 3 aa (aj a) am<|bo 4 aa (.slice c n cp) am<|bo 5 aa (aj a) am<|bB 6 aa (fun _=>a7 bI aa aa ab<|aG.ok ((aU G).2)<|bL ab) (fun _=>am)<|ed 7 aa (fun w' E=>ld bW aa<|cE (i:=a) ((aU G).2.wk E) ab) am<|bo 8 aa (.slice c n cp) am<|bo 9 aa (aj ae) am<|bB 10 aa (fun _=>a7 bI aa aa ab<|aG.ok ((aU G).2)<|bL ab) (fun _=>am)<|ed 11 aa (fun w' E=>ld bW aa<|cE (i:=ae) ((aU G).2.wk E) ab) am<|bB 12 aa (fun _=>a7 bI aa aa ab<|aG.ok ((aU G).2)<|bL ab) (fun _=>am)<|db 13 aa ag ag<|e7 (u:=I[a]!) (ae) (a8 G am) eZ aa aa aa ab fun dM cm cQ=> ?_
 refine bB 14 aa (fun _=>a7 bI aa aa ab<|aG.ok ((aU G).2)<|bL ab) (fun h=>dA<|(show true =_ from by kernel_rfl).trans h)<|db 15 aa ag ag<|e7 (u:=I[ae]!) (a) cQ eZ aa aa aa ab fun bQ cn cR=> ?_
 have cv:bQ.ownsRow B 95 1 (.slice c n cp) n (LE aT<|bS I (ae)<|a):=cR
 have ck:Md (fun q=>(bD c n cp).ownBlock=some q) aB bQ:=Md.trans (am.mono fun _ _ h=>h.elim)<|Md.trans cm cn
 refine eE ag<|bd<|ak fun bg=>ao (aj ae)<|p (bV (aj ae) aa)<|aw<|bg ?_
 refine rt<|f2 aa aa aa ?_
 have aZ:=part_go bE bw ab<|bC.symm.trans<|by rw [F9 bF bx bz.1 bA.2,if_pos ab]
 exact ⟨by rw [aZ]; rfl,by rw [aZ]; exact cv,Md.trans aY ck⟩
 refine aQ<|aV<|az fun bd=> ?_
 have aK:=ec G
 have al:(fun w'=>Wk aB w') aB.drew:=(Md.refl _ _).drew
 refine eF (fun w'=>Wk aB w') 13 aa wide al<|bo 0 aa (.slice c n cp) al<|bo 1 aa (aj ad) al<|bo 2 aa (.slice c n cp) al<|bo 3 aa (aj ae) al<|bo 4 aa (.slice c n cp) al<|bo 5 aa (aj ae) al<|bB 6 aa (fun _=>a7 bI aa aa ab<|aG.ok ((aU G).2)<|bL ab) (fun _=>al)<|ed 7 aa (fun w' E=>ld bW aa<|cE (i:=ae) ((aU G).2.wk E) ab) al<|bo 8 aa (.slice c n cp) al<|bo 9 aa (aj ad) al<|bB 10 aa (fun _=>a7 bI aa aa ab<|aG.ok ((aU G).2)<|bL ab) (fun _=>al)<|ed 11 aa (fun w' E=>ld bW aa<|cE (i:=ad) ((aU G).2.wk E) ab) al<|bB 12 aa (fun _=>a7 bI aa aa ab<|aG.ok ((aU G).2)<|bL ab) (fun _=>al)<|db 13 aa ag ag<|e7 (u:=I[ae]!) (ad) (a8 G al) eZ aa aa aa ab fun dL ci cO=> ?_
 refine bB 14 aa (fun _=>a7 bI aa aa ab<|aG.ok ((aU G).2)<|bL ab) (fun h=>dA<|(show true =_ from by kernel_rfl).trans h)<|db 15 aa ag ag<|e7 (u:=I[ad]!) (ae) cO eZ aa aa aa ab fun bP cj cP=> ?_
 have cu:bP.ownsRow B 95 1 (.slice c n cp) n (LE aT<|bS I (ad)<|ae):=cP
 have ch:Md (fun q=>(bD c n cp).ownBlock=some q) aB bP:=Md.trans (al.mono fun _ _ h=>h.elim)<|Md.trans ci cj
 refine eE ag<|bd<|ak fun bg=>ao (aj ad)<|p (bG ((ad+1:Nat):Int) aa aa<|bf ab ab)<|aw<|bg ?_
 exact rg aa<|ao (aj ae)<|p (c6 ((ae - 1:Nat):Int) aa aa<|bf ab ab)<|p aC<|nl<|bn<|tn<|⟨_,ab,ad+1,ae - 1,bS I ad ae,ab,(by rw [← bC,F9 bF bx bz.1 bA.2,if_neg ab,if_pos ab]),cu,(Md.trans aY ch),aa,aa,aa,aa,aa⟩
theorem SL (d:Array Nat) (a b Z:Nat) (B n cp:Nat) (c:Option Addr) (w:World) (hO:w.ownsRow B 95 1 (.slice c n cp) n (LE aT d)) (cg:a≤Z∧Z < b∧b≤n) (ck:n≤1099511627776):
 ba au 291 (aX [.slice c n cp,aj a,aj b,aj Z]) w (fun v w'=>v=aj ((tP bJ d a b Z).1)∧w'.ownsRow B 95 1 (.slice c n cp) n (LE aT (tP bJ d a b Z).2)∧Md (fun q=>(bD c n cp).ownBlock=some q) w w'):=by
 refine enter func291 aa ntmps291 aa<|ak fun a1=>aw<|a1<|az fun a2=> ?_
 have ch:=ec hO
 have J:(fun w'=>Wk w w') w.drew:=(Md.refl _ _).drew
 refine eF (fun w'=>Wk w w') 13 aa wide J<|bo 0 aa (.slice c n cp) J<|bo 1 aa (aj a) J<|bo 2 aa (.slice c n cp) J<|bo 3 aa (aj Z) J<|bo 4 aa (.slice c n cp) J<|bo 5 aa (aj Z) J<|bB 6 aa (fun _=>a7 bI aa aa ab<|aG.ok ((aU hO).2)<|bL ab) (fun _=>J)<|ed 7 aa (fun w' Y=>ld bW aa<|cE (i:=Z) ((aU hO).2.wk Y) ab) J<|bo 8 aa (.slice c n cp) J<|bo 9 aa (aj a) J<|bB 10 aa (fun _=>a7 bI aa aa ab<|aG.ok ((aU hO).2)<|bL ab) (fun _=>J)<|ed 11 aa (fun w' Y=>ld bW aa<|cE (i:=a) ((aU hO).2.wk Y) ab) J<|bB 12 aa (fun _=>a7 bI aa aa ab<|aG.ok ((aU hO).2)<|bL ab) (fun _=>J)<|db 13 aa ag ag<|e7 (u:=d[Z]!) (a) (a8 hO J) eZ aa aa aa ab fun cm bh bC=> ?_
 refine bB 14 aa (fun _=>a7 bI aa aa ab<|aG.ok ((aU hO).2)<|bL ab) (fun h=>dA<|(show true =_ from by kernel_rfl).trans h)<|db 15 aa ag ag<|e7 (u:=d[a]!) (Z) bC eZ aa aa aa ab fun aZ bi bE=> ?_
 have bt:aZ.ownsRow B 95 1 (.slice c n cp) n (LE aT<|bS d (a)<|Z):=bE
 have bg:Md (fun q=>(bD c n cp).ownBlock=some q) w aZ:=Md.trans (J.mono fun _ _ h=>h.elim)<|Md.trans bh bi
 refine eE ag<|a2<|ak fun a3=>ao (aj a)<|p (bG ((a+1:Nat):Int) aa aa<|bf ab ab)<|ao (aj b)<|p (c6 ((b - 1:Nat):Int) aa aa<|bf ab ab)<|p aC ?_
 refine aw<|a3<|az fun a4=>aE<|lp (fun ad aA aM=> ∃ (i j:Nat) (A:Array Nat),(a+1≤i∧i≤b∧a≤j∧j < b∧i≤j+2)∧(Go.Sort.partEqLoop bJ a i j A=tP bJ d a b Z)∧(aM.ownsRow B 95 1 (.slice c n cp) n<|LE aT A)∧(Md (fun q=>(bD c n cp).ownBlock=some q) w aM)∧(aA 0= .slice c n cp)∧(aA 1=aj a)∧(aA 9=aj i)∧(aA 10=aj j)∧(j+1 - i=ad)) _ ⟨a+1,b - 1,(bS d a Z),ab,aa,bt,bg,aa,aa,aa,aa,aa⟩ ?_
 rintro ad aA aM ⟨i,j,A,hi,aV,br,bd,bM,bO,bQ,bP,rfl⟩
 refine fx 0 bM<|fx 1 bO<|fx 9 bQ<|fx 10 bP<|aE ?_
 refine eV (fun aB aN=> ∃ (C:Nat),(i≤C∧(C=i∨C≤j+1))∧(mQ (fun x=> !bJ A[a]! x) A (j) (i)=C)∧(aN.ownsRow B 95 1 (.slice c n cp) n<|LE aT A)∧(Md (fun q=>(bD c n cp).ownBlock=some q) w aN)∧(aB 0= .slice c n cp)∧(aB 1=aj a)∧(aB 9=aj C)∧(aB 10=aj j)) ?_ ?_
 refine aE<|lp (fun ad aD am=> ∃ (q:Nat),(i≤q∧(q=i∨q≤j+1))∧(mQ (fun x=> !bJ A[a]! x) A (j) (q)=mQ (fun x=> !bJ A[a]! x) A (j) (i))∧(am.ownsRow B 95 1 (.slice c n cp) n<|LE aT A)∧(Md (fun q=>(bD c n cp).ownBlock=some q) w am)∧(aD 0= .slice c n cp)∧(aD 1=aj a)∧(aD 9=aj q)∧(aD 10=aj j)∧(j+1 - q=ad)) _ ⟨i,ab,aa,br,bd,aa,aa,aa,aa,aa⟩ ?_
 rintro ad aD am ⟨q,ax,al,I,ah,bZ,b0,b2,b1,rfl⟩
 refine fx 0 bZ<|fx 1 b0<|fx 9 b2<|fx 10 b1<|az fun av=>az fun ae=> ?_
 have aP:=ec I
 have E:(fun w'=>Wk am w') am.drew:=(Md.refl _ _).drew
 refine cD (fun w'=>Wk am w') aa wide E<|bT 0 aa (aj q) E<|bT 1 aa (aj j) E<|aR 2 aa (fun _ _=>le aa aa) E<|aR 3 aa (fun _ _=>mv) E<|j9 (t:=32) aa (fun bz=> ?_) fun bz=> ?_
 refine bq 4 aa (fun _ _=>aH (.slice c n cp) aa) E<|bq 5 aa (fun _ _=>aH (aj a) aa) E<|bq 6 aa (fun _ _=>a7 bI aa aa ab<|aG.ok ((aU I).2)<|bL ab) E<|bq 7 aa (fun w' Y=>ld bW aa<|cE (i:=a) ((aU I).2.wk Y) ab) E<|bq 8 aa (fun _ _=>aH (.slice c n cp) aa) E<|bq 9 aa (fun _ _=>aH (aj q) aa) E<|bq 10 aa (fun _ _=>a7 bI aa aa ab<|aG.ok ((aU I).2)<|bL ab) E<|bq 11 aa (fun w' Y=>ld bW aa<|cE (i:=q) ((aU I).2.wk Y) ab) E<|lr 12 aa ag aa aa aa<|cl kI (kM A[a]! A[q]! _) aa fun v41 cc bv=> ?_
 obtain ⟨rfl,a9⟩:=bv
 have ai:(fun w'=>Wk am w') cc:=Md.trans E a9
 refine ⟨ai,?_⟩
 refine bq 13 aa (fun _ _=>no aa) ai<|aR 14 aa (fun _ _=>bN aa) ai<|hn ag<|ae<|cb aa (fun aK=> ?_) fun aK=> ?_
 exact aQ<|av<|aE<|rg aa<|ao (aj q)<|p (bG ((q+1:Nat):Int) aa aa<|bf ab ab)<|p aC<|nl<|bn<|tn<|⟨_,ab,q+1,ab,(by rw [← al,AZ (show q≤j by omega) (by simpa using aK)]),(a8 I ai),(Md.trans ah<|ai.mono fun _ _ h=>h.elim),aa,aa,aa,aa,aa⟩
 exact ext<|bc<|bc<|be<|tn<|⟨q,ax,(by rw [← al,rL (.inr<|by simpa using aK)]),(a8 I ai),(Md.trans ah<|ai.mono fun _ _ h=>h.elim),aa,aa,aa,aa⟩
 exact bl 4 aa E<|bl 5 aa E<|bl 6 aa E<|bl 7 aa E<|bl 8 aa E<|bl 9 aa E<|bl 10 aa E<|bl 11 aa E<|bl 12 aa E<|bl 13 aa E<|aR 14 aa (fun _ _=>bH aa) E<|hn ag<|ae<|cf aa<|ext<|bc<|bc<|be<|tn<|⟨q,ax,(by rw [← al,rL (.inl ab)]),(a8 I (Md.refl _ _).drew),ah.drew,aa,aa,aa,aa⟩
 rintro aB aN ⟨C,ci,aW,bs,bp,bR,bU,bY,bX⟩
 refine fx 0 bR<|fx 1 bU<|fx 9 bY<|fx 10 bX ?_
 refine eV (fun aF ap=> ∃ (V:Nat),(a≤V∧V≤j)∧(mP (fun x=>bJ A[a]! x) A (C) (j)=V)∧(ap.ownsRow B 95 1 (.slice c n cp) n<|LE aT A)∧(Md (fun q=>(bD c n cp).ownBlock=some q) w ap)∧(aF 0= .slice c n cp)∧(aF 1=aj a)∧(aF 9=aj C)∧(aF 10=aj V)) ?_ ?_
 refine aE<|lp (fun ad aI an=> ∃ (q:Nat),(a≤q∧q≤j)∧(mP (fun x=>bJ A[a]! x) A (C) (q)=mP (fun x=>bJ A[a]! x) A (C) (j))∧(an.ownsRow B 95 1 (.slice c n cp) n<|LE aT A)∧(Md (fun q=>(bD c n cp).ownBlock=some q) w an)∧(aI 0= .slice c n cp)∧(aI 1=aj a)∧(aI 9=aj C)∧(aI 10=aj q)∧(q=ad)) _ ⟨j,ab,aa,bs,bp,aa,aa,aa,aa,aa⟩ ?_
 rintro ad aI an ⟨q,ax,al,I,ah,b7,b8,ca,b9,rfl⟩
 refine fx 0 b7<|fx 1 b8<|fx 9 ca<|fx 10 b9<|az fun av=>az fun ae=> ?_
 have aP:=ec I
 have G:(fun w'=>Wk an w') an.drew:=(Md.refl _ _).drew
 refine cD (fun w'=>Wk an w') aa wide G<|bT 0 aa (aj C) G<|bT 1 aa (aj q) G<|aR 2 aa (fun _ _=>le aa aa) G<|aR 3 aa (fun _ _=>mv) G<|j9 (t:=49) aa (fun bA=> ?_) fun bA=> ?_
 refine bq 4 aa (fun _ _=>aH (.slice c n cp) aa) G<|bq 5 aa (fun _ _=>aH (aj a) aa) G<|bq 6 aa (fun _ _=>a7 bI aa aa ab<|aG.ok ((aU I).2)<|bL ab) G<|bq 7 aa (fun w' Y=>ld bW aa<|cE (i:=a) ((aU I).2.wk Y) ab) G<|bq 8 aa (fun _ _=>aH (.slice c n cp) aa) G<|bq 9 aa (fun _ _=>aH (aj q) aa) G<|bq 10 aa (fun _ _=>a7 bI aa aa ab<|aG.ok ((aU I).2)<|bL ab) G<|bq 11 aa (fun w' Y=>ld bW aa<|cE (i:=q) ((aU I).2.wk Y) ab) G<|lr 12 aa ag aa aa aa<|cl kI (kM A[a]! A[q]! _) aa fun v58 ce bw=> ?_
 obtain ⟨rfl,bb⟩:=bw
 have aq:(fun w'=>Wk an w') ce:=Md.trans G bb
 refine ⟨aq,?_⟩
 refine aR 13 aa (fun _ _=>bN aa) aq<|hn ag<|ae<|cb aa (fun aL=> ?_) fun aL=> ?_
 exact aQ<|av<|aE<|rg aa<|ao (aj q)<|p (c6 ((q - 1:Nat):Int) aa aa<|bf ab ab)<|p aC<|nl<|bn<|tn<|⟨_,ab,q - 1,ab,(by rw [← al,yG (show 0 < q by omega) (show C≤q by omega) (by simpa using aL)]),(a8 I aq),(Md.trans ah<|aq.mono fun _ _ h=>h.elim),aa,aa,aa,aa,aa⟩
 exact ext<|bc<|bc<|be<|tn<|⟨q,ax,(by rw [← al,qY (.inr<|by simpa using aL)]),(a8 I aq),(Md.trans ah<|aq.mono fun _ _ h=>h.elim),aa,aa,aa,aa⟩
 exact bl 4 aa G<|bl 5 aa G<|bl 6 aa G<|bl 7 aa G<|bl 8 aa G<|bl 9 aa G<|bl 10 aa G<|bl 11 aa G<|bl 12 aa G<|aR 13 aa (fun _ _=>bH aa) G<|hn ag<|ae<|cf aa<|ext<|bc<|bc<|be<|tn<|⟨q,ax,(by rw [← al,qY (.inl ab)]),(a8 I (Md.refl _ _).drew),ah.drew,aa,aa,aa,aa⟩
 rintro aF ap ⟨V,cj,aS,ac,aO,b3,b4,b6,b5⟩
 refine fx 0 b3<|fx 1 b4<|fx 9 b6<|fx 10 b5<|az fun av=>ak fun ae=>ao (aj C)<|ao (aj V)<|p (gt aa aa)<|nl<|ae<|cd aa (fun bx=> ?_) fun bx=> ?_
 refine ext<|bc<|na ay<|bc<|be<|a4<|ak fun aJ=>ao (aj C)<|p (bV (aj C) aa)<|nl<|aJ<|rt<|a6 aa ?_
 have aY:tP bJ d a b Z=(C,A):=by rw [← aV,F5 aW aS,if_pos ab]
 exact ⟨by rw [aY]; rfl,by rw [aY]; exact ac,aO⟩
 refine aQ<|av<|az fun aJ=> ?_
 have aP:=ec ac
 have O:(fun w'=>Wk ap w') ap.drew:=(Md.refl _ _).drew
 refine eF (fun w'=>Wk ap w') 13 aa wide O<|bo 0 aa (.slice c n cp) O<|bo 1 aa (aj C) O<|bo 2 aa (.slice c n cp) O<|bo 3 aa (aj V) O<|bo 4 aa (.slice c n cp) O<|bo 5 aa (aj V) O<|bB 6 aa (fun _=>a7 bI aa aa ab<|aG.ok ((aU ac).2)<|bL ab) (fun _=>O)<|ed 7 aa (fun w' Y=>ld bW aa<|cE (i:=V) ((aU ac).2.wk Y) ab) O<|bo 8 aa (.slice c n cp) O<|bo 9 aa (aj C) O<|bB 10 aa (fun _=>a7 bI aa aa ab<|aG.ok ((aU ac).2)<|bL ab) (fun _=>O)<|ed 11 aa (fun w' Y=>ld bW aa<|cE (i:=C) ((aU ac).2.wk Y) ab) O<|bB 12 aa (fun _=>a7 bI aa aa ab<|aG.ok ((aU ac).2)<|bL ab) (fun _=>O)<|db 13 aa ag ag<|e7 (u:=A[V]!) (C) (a8 ac O) eZ aa aa aa ab fun cn bk bF=> ?_
 refine bB 14 aa (fun _=>a7 bI aa aa ab<|aG.ok ((aU ac).2)<|bL ab) (fun h=>dA<|(show true =_ from by kernel_rfl).trans h)<|db 15 aa ag ag<|e7 (u:=A[C]!) (V) bF eZ aa aa aa ab fun a0 bm bK=> ?_
 have bu:a0.ownsRow B 95 1 (.slice c n cp) n (LE aT<|bS A (C)<|V):=bK
 have bj:Md (fun q=>(bD c n cp).ownBlock=some q) ap a0:=Md.trans (O.mono fun _ _ h=>h.elim)<|Md.trans bk bm
 refine eE ag<|aJ<|ak fun a5=>ao (aj C)<|p (bG ((C+1:Nat):Int) aa aa<|bf ab ab)<|aw<|a5 ?_
 exact rg aa<|ao (aj V)<|p (c6 ((V - 1:Nat):Int) aa aa<|bf ab ab)<|p aC<|nl<|bn<|tn<|⟨_,ab,C+1,V - 1,bS A C V,ab,(by rw [← aV,F5 aW aS,if_neg ab,if_pos ab]),bu,(Md.trans aO bj),aa,aa,aa,aa,aa⟩
theorem SQ {d:Array Nat} {a b s i i2:Nat} (c:0 < s) (h:rY bJ d b i=i2) (h1:i2=b):pk bJ a b s i d=(d,true):=by
 cases s with
 | zero=>omega
 | succ s=>rw [pk]; simp only [h,if_pos h1]
theorem pi_short {d:Array Nat} {a b s i i2:Nat} (c:0 < s) (h:rY bJ d b i=i2) (h1:¬i2=b) (h2:b - a < 50):pk bJ a b s i d=(d,false):=by
 cases s with
 | zero=>omega
 | succ s=>rw [pk]; simp only [h,if_neg h1,if_pos h2]
theorem pi_go {d c A:Array Nat} {a b s i i2:Nat} (G:0 < s) (h:rY bJ d b i=i2) (h1:¬i2=b) (h2:¬b - a < 50)
 (C:c=if i2 - a≥2 then xr bJ (i2 - 1) (bS d i2<|i2 - 1) else bS d i2 (i2 - 1)) (E:A=if b - i2≥2 then Bv bJ b (i2+1) c else c):
 pk bJ a b s i d=pk bJ a b (s - 1) i2 A:=by
 cases s with
 | zero=>omega
 | succ s=>rw [pk]; simp only [h,if_neg h1,if_neg h2]; rw [← C,← E]; rfl
theorem S3 (d:Array Nat) (a b:Nat) (B n cp:Nat) (c:Option Addr) (w:World) (hO:w.ownsRow B 95 1 (.slice c n cp) n (LE aT d)) (df:a < b∧b≤n) (dj:n≤1099511627776):
 ba au 289 (aX [.slice c n cp,aj a,aj b]) w (fun v w'=>v= .bool (rX bJ d a b).2∧w'.ownsRow B 95 1 (.slice c n cp) n (LE aT (rX bJ d a b).1)∧Md (fun q=>(bD c n cp).ownBlock=some q) w w'):=by
 refine enter func289 aa ntmps289 aa<|ak fun bU=>aw<|bU<|ak fun bX=>ao (aj a)<|p (bG ((a+1:Nat):Int) aa aa<|bf ab ab)<|aw<|bX<|az fun bY=>ak fun bZ=>p aC<|nl<|bZ<|aE<|lp (fun Y aL bz=> ∃ (s i:Nat) (E:Array Nat),(a+1≤i∧i≤b∧s≤5)∧(pk bJ a b (5 - s) i E=(rX bJ d a b))∧(bz.ownsRow B 95 1 (.slice c n cp) n<|LE aT E)∧(Md (fun q=>(bD c n cp).ownBlock=some q) w bz)∧(aL 0= .slice c n cp)∧(aL 1=aj a)∧(aL 2=aj b)∧(aL 7=aj i)∧(aL 8=aj s)∧(5 - s=Y)) _ ⟨0,a+1,d,ab,aa,hO,(Md.refl _ _),aa,aa,aa,aa,aa,aa⟩ ?_
 rintro Y aL bz ⟨s,i,E,hi,aK,bF,bA,cG,cH,cI,cJ,cK,rfl⟩
 refine fx 0 cG<|fx 1 cH<|fx 2 cI<|fx 7 cJ<|fx 8 cK<|az fun b0=>ak fun b1=>ao (aj s)<|p (lt aa aa)<|nl<|b1<|cd aa (fun co=> ?_) fun co=> ?_
 refine aQ<|b0<|az fun aP=>aE ?_
 refine eV (fun aM av=> ∃ (i2:Nat),(i≤i2∧i2≤b)∧(rY bJ E b i=i2)∧(av.ownsRow B 95 1 (.slice c n cp) n<|LE aT E)∧(Md (fun q=>(bD c n cp).ownBlock=some q) w av)∧(aM 0= .slice c n cp)∧(aM 1=aj a)∧(aM 2=aj b)∧(aM 7=aj i2)∧(aM 8=aj s)) ?_ ?_
 refine aE<|lp (fun Y aN aB=> ∃ (q:Nat),(i≤q∧q≤b)∧(rY bJ E b q=rY bJ E b i)∧(aB.ownsRow B 95 1 (.slice c n cp) n<|LE aT E)∧(Md (fun q=>(bD c n cp).ownBlock=some q) w aB)∧(aN 0= .slice c n cp)∧(aN 1=aj a)∧(aN 2=aj b)∧(aN 7=aj q)∧(aN 8=aj s)∧(b - q=Y)) _ ⟨i,ab,aa,bF,bA,aa,aa,aa,aa,aa,aa⟩ ?_
 rintro Y aN aB ⟨q,bO,bu,ae,bi,cQ,cR,cS,cT,cU,rfl⟩
 refine fx 0 cQ<|fx 1 cR<|fx 2 cS<|fx 7 cT<|fx 8 cU<|az fun bg=>az fun aY=> ?_
 have cw:=ec ae
 have A:(fun w'=>Wk aB w') aB.drew:=(Md.refl _ _).drew
 refine cD (fun w'=>Wk aB w') aa wide A<|bT 0 aa (aj q) A<|bT 1 aa (aj b) A<|aR 2 aa (fun _ _=>lt aa aa) A<|aR 3 aa (fun _ _=>mv) A<|j9 (t:=20) aa (fun cx=> ?_) fun cx=> ?_
 refine bq 4 aa (fun _ _=>aH (.slice c n cp) aa) A<|bq 5 aa (fun _ _=>aH (aj q) aa) A<|bq 6 aa (fun _ _=>a7 bI aa aa ab<|aG.ok ((aU ae).2)<|bL ab) A<|bq 7 aa (fun w' C=>ld bW aa<|cE (i:=q) ((aU ae).2.wk C) ab) A<|bq 8 aa (fun _ _=>aH (.slice c n cp) aa) A<|bq 9 aa (fun _ _=>aH (aj q) aa) A<|bq 10 aa (fun _ _=>c6 ((q - 1:Nat):Int) aa aa<|bf ab ab) A<|bq 11 aa (fun _ _=>a7 bI aa aa ab<|aG.ok ((aU ae).2)<|bL ab) A<|bq 12 aa (fun w' C=>ld bW aa<|cE (i:=q - 1) ((aU ae).2.wk C) ab) A<|lr 13 aa ag aa aa aa<|cl kI (kM E[q]! E[q - 1]! _) aa fun v30 de ck=> ?_
 obtain ⟨rfl,b3⟩:=ck
 have aq:(fun w'=>Wk aB w') de:=Md.trans A b3
 refine ⟨aq,?_⟩
 refine bq 14 aa (fun _ _=>no aa) aq<|aR 15 aa (fun _ _=>bN aa) aq<|hn ag<|aY<|cb aa (fun bp=> ?_) fun bp=> ?_
 exact aQ<|bg<|aE<|rg aa<|ao (aj q)<|p (bG ((q+1:Nat):Int) aa aa<|bf ab ab)<|p aC<|nl<|bn<|tn<|⟨_,ab,q+1,ab,(by rw [← bu,Us (show q < b by omega) (by simpa using bp)]),(a8 ae aq),(Md.trans bi<|aq.mono fun _ _ h=>h.elim),aa,aa,aa,aa,aa,aa⟩
 exact ext<|bc<|bc<|be<|tn<|⟨q,ab,(by rw [← bu,GP (.inr<|by simpa using bp)]),(a8 ae aq),(Md.trans bi<|aq.mono fun _ _ h=>h.elim),aa,aa,aa,aa,aa⟩
 exact bl 4 aa A<|bl 5 aa A<|bl 6 aa A<|bl 7 aa A<|bl 8 aa A<|bl 9 aa A<|bl 10 aa A<|bl 11 aa A<|bl 12 aa A<|bl 13 aa A<|bl 14 aa A<|aR 15 aa (fun _ _=>bH aa) A<|hn ag<|aY<|cf aa<|ext<|bc<|bc<|be<|tn<|⟨q,ab,(by rw [← bu,GP (.inl ab)]),(a8 ae (Md.refl _ _).drew),bi.drew,aa,aa,aa,aa,aa⟩
 rintro aM av ⟨i2,di,aS,ad,aZ,cL,cM,cN,cO,cP⟩
 refine fx 0 cL<|fx 1 cM<|fx 2 cN<|fx 7 cO<|fx 8 cP<|az fun bg=>ak fun aY=>ao (aj i2)<|ao (aj b)<|p (cg aa aa)<|nl<|aY<|cd aa (fun cq=> ?_) fun cq=> ?_
 refine ak fun a0=>aw<|a0<|rt<|tr<|br<|tr<|tr<|br<|tr<|a6 aa ?_
 have al:(rX bJ d a b)=(E,true):=by rw [← aK,SQ (show 0 < 5 - s by omega) aS ab]
 exact ⟨by rw [al]; rfl,by rw [al]; exact ad,aZ⟩
 have bh:¬i2=b:=ab
 refine aQ<|bg<|az fun a0=>ak fun bV=>ao (aj b)<|ao (aj a)<|p (c6 ((b - a:Nat):Int) aa aa<|bf ab ab)<|p (lt aa aa)<|nl<|bV<|cd aa (fun cs=> ?_) fun cs=> ?_
 refine ak fun a1=>aw<|a1<|rt<|tr<|br<|tr<|tr<|br<|tr<|a6 aa ?_
 have al:(rX bJ d a b)=(E,false):=by rw [← aK,pi_short (show 0 < 5 - s by omega) aS ab ab]
 exact ⟨by rw [al]; rfl,by rw [al]; exact ad,aZ⟩
 refine aQ<|a0<|az fun a1=> ?_
 have cw:=ec ad
 have G:(fun w'=>Wk av w') av.drew:=(Md.refl _ _).drew
 refine eF (fun w'=>Wk av w') 15 aa wide G<|bo 0 aa (.slice c n cp) G<|bo 1 aa (aj i2) G<|bo 2 aa (.slice c n cp) G<|bo 3 aa (aj i2) G<|bB 4 aa (fun _=>c6 ((i2 - 1:Nat):Int) aa aa<|bf ab ab) (fun _=>G)<|bo 5 aa (.slice c n cp) G<|bo 6 aa (aj i2) G<|bB 7 aa (fun _=>c6 ((i2 - 1:Nat):Int) aa aa<|bf ab ab) (fun _=>G)<|bB 8 aa (fun _=>a7 bI aa aa ab<|aG.ok ((aU ad).2)<|bL ab) (fun _=>G)<|ed 9 aa (fun w' C=>ld bW aa<|cE (i:=i2 - 1) ((aU ad).2.wk C) ab) G<|bo 10 aa (.slice c n cp) G<|bo 11 aa (aj i2) G<|bB 12 aa (fun _=>a7 bI aa aa ab<|aG.ok ((aU ad).2)<|bL ab) (fun _=>G)<|ed 13 aa (fun w' C=>ld bW aa<|cE (i:=i2) ((aU ad).2.wk C) ab) G<|bB 14 aa (fun _=>a7 bI aa aa ab<|aG.ok ((aU ad).2)<|bL ab) (fun _=>G) ?_
 refine db 15 aa ag ag<|e7 (u:=E[i2 - 1]!) (i2) (a8 ad G) eZ aa aa aa ab fun dl b5 cy=>bB 16 aa (fun _=>a7 bI aa aa ab<|aG.ok ((aU ad).2)<|bL ab) (fun h=>dA<|(show true =_ from by kernel_rfl).trans h)<|db 17 aa ag ag<|e7 (u:=E[i2]!) (i2 - 1) cy eZ aa aa aa ab fun bP b6 cz=> ?_
 have bM:bP.ownsRow B 95 1 (.slice c n cp) n (LE aT<|bS E (i2)<|i2 - 1):=cz
 have bC:Md (fun q=>(bD c n cp).ownBlock=some q) av bP:=Md.trans (G.mono fun _ _ h=>h.elim)<|Md.trans b5 b6
 refine eE ag<|a1 ?_
 refine eV (fun aO bx=> ∃ (am:Array Nat),(am=if i2 - a≥2 then xr bJ (i2 - 1) (bS E i2<|i2 - 1) else (bS E i2<|i2 - 1))∧(bx.ownsRow B 95 1 (.slice c n cp) n<|LE aT am)∧(Md (fun q=>(bD c n cp).ownBlock=some q) w bx)∧(aO 0= .slice c n cp)∧(aO 1=aj a)∧(aO 2=aj b)∧(aO 7=aj i2)∧(aO 8=aj s)) ?_ ?_
 refine ak fun a2=>ao (aj i2)<|ao (aj a)<|p (c6 ((i2 - a:Nat):Int) aa aa<|bf ab ab)<|p (ge aa aa)<|nl<|a2<|cd aa (fun ct=> ?_) fun ct=> ?_
 refine ak fun a3=>ao (aj i2)<|p (c6 ((i2 - 1:Nat):Int) aa aa<|bf ab ab)<|aw<|a3<|aE<|lp (fun Y aD ax=> ∃ (q:Nat) (V:Array Nat),(q≤i2 - 1)∧(xr bJ q V=xr bJ (i2 - 1) (bS E i2<|i2 - 1))∧(ax.ownsRow B 95 1 (.slice c n cp) n<|LE aT V)∧(Md (fun q=>(bD c n cp).ownBlock=some q) w ax)∧(aD 0= .slice c n cp)∧(aD 1=aj a)∧(aD 2=aj b)∧(aD 7=aj i2)∧(aD 8=aj s)∧(aD 9=aj q)∧(q=Y)) _ ⟨i2 - 1,(bS E i2<|i2 - 1),ab,aa,bM,(Md.trans aZ bC),aa,aa,aa,aa,aa,aa,aa⟩ ?_
 rintro Y aD ax ⟨q,V,bO,bv,ah,bj,c0,c1,c2,c3,c4,c5,rfl⟩
 refine fx 0 c0<|fx 1 c1<|fx 2 c2<|fx 7 c3<|fx 8 c4<|fx 9 c5<|az fun a4=>ak fun a5=>ao (aj q)<|p (ge aa aa)<|nl<|a5<|cd aa (fun cu=> ?_) fun cu=> ?_
 refine aQ<|a4<|az fun a9=>aE<|az fun bb=>az fun bd=> ?_
 have dg:=ec ah
 have Z:(fun w'=>Wk ax w') ax.drew:=(Md.refl _ _).drew
 refine cD (fun w'=>Wk ax w') aa wide Z<|bT 0 aa (.slice c n cp) Z<|bT 1 aa (aj q) Z<|aR 2 aa (fun _ _=>a7 bI aa aa ab<|aG.ok ((aU ah).2)<|bL ab) Z<|aR 3 aa (fun w' C=>ld bW aa<|cE (i:=q) ((aU ah).2.wk C) ab) Z<|bT 4 aa (.slice c n cp) Z<|bT 5 aa (aj q) Z<|aR 6 aa (fun _ _=>c6 ((q - 1:Nat):Int) aa aa<|bf ab ab) Z<|aR 7 aa (fun _ _=>a7 bI aa aa ab<|aG.ok ((aU ah).2)<|bL ab) Z<|aR 8 aa (fun w' C=>ld bW aa<|cE (i:=q - 1) ((aU ah).2.wk C) ab) Z<|he 9 aa ag<|cl kI (kM V[q]! V[q - 1]! _) aa fun v77 aW cm=> ?_
 obtain ⟨rfl,b4⟩:=cm
 have aI:(fun w'=>Wk ax w') aW:=Md.trans Z b4
 refine ⟨aI,?_⟩
 refine aR 10 aa (fun _ _=>no aa) aI<|hn ag<|bd<|cb aa (fun bs=> ?_) fun bs=> ?_
 exact ext<|bc<|na ay<|bc<|bc<|be<|tn<|⟨V,(by rw [if_pos ab,← bv,Gt (.inr<|by simpa using bs)]),(a8 ah aI),(Md.trans bj<|aI.mono fun _ _ h=>h.elim),aa,aa,aa,aa,aa⟩
 refine aQ<|bb ?_
 have an:=a8 ah aI
 have I:(fun w'=>Wk aW w') aW.drew:=(Md.refl _ _).drew
 refine eF (fun w'=>Wk aW w') 15 aa wide I<|bo 0 aa (.slice c n cp) I<|bo 1 aa (aj q) I<|bo 2 aa (.slice c n cp) I<|bo 3 aa (aj q) I<|bB 4 aa (fun _=>c6 ((q - 1:Nat):Int) aa aa<|bf ab ab) (fun _=>I)<|bo 5 aa (.slice c n cp) I<|bo 6 aa (aj q) I<|bB 7 aa (fun _=>c6 ((q - 1:Nat):Int) aa aa<|bf ab ab) (fun _=>I)<|bB 8 aa (fun _=>a7 bI aa aa ab<|aG.ok ((aU an).2)<|bL ab) (fun _=>I)<|ed 9 aa (fun w' C=>ld bW aa<|cE (i:=q - 1) ((aU an).2.wk C) ab) I<|bo 10 aa (.slice c n cp) I<|bo 11 aa (aj q) I<|bB 12 aa (fun _=>a7 bI aa aa ab<|aG.ok ((aU an).2)<|bL ab) (fun _=>I)<|ed 13 aa (fun w' C=>ld bW aa<|cE (i:=q) ((aU an).2.wk C) ab) I<|bB 14 aa (fun _=>a7 bI aa aa ab<|aG.ok ((aU an).2)<|bL ab) (fun _=>I) ?_
 refine db 15 aa ag ag<|e7 (u:=V[q - 1]!) (q) (a8 an I) eZ aa aa aa ab fun dn b8 cA=>bB 16 aa (fun _=>a7 bI aa aa ab<|aG.ok ((aU an).2)<|bL ab) (fun h=>dA<|(show true =_ from by kernel_rfl).trans h)<|db 17 aa ag ag<|e7 (u:=V[q]!) (q - 1) cA eZ aa aa aa ab fun bQ b9 cB=> ?_
 have ch:bQ.ownsRow B 95 1 (.slice c n cp) n (LE aT<|bS V (q)<|q - 1):=cB
 have b7:Md (fun q=>(bD c n cp).ownBlock=some q) aW bQ:=Md.trans (I.mono fun _ _ h=>h.elim)<|Md.trans b8 b9
 exact eE ag<|bn<|a9<|rg aa<|ao (aj q)<|p (c6 ((q - 1:Nat):Int) aa aa<|bf ab ab)<|p aC<|nl<|tn<|⟨_,ab,q - 1,bS V q (q - 1),ab,(by rw [← bv,TU (show 0 < q by omega) (by simpa using bs)]),ch,(Md.trans bj<|Md.trans (aI.mono fun _ _ h=>h.elim) b7),aa,aa,aa,aa,aa,aa,aa⟩
 exact ext<|bc<|bc<|be<|tn<|⟨V,(by rw [if_pos ab,← bv,Gt (.inl ab)]),ah,bj,aa,aa,aa,aa,aa⟩
 exact aQ<|tn<|⟨(bS E i2<|i2 - 1),(by rw [if_neg ab]),bM,(Md.trans aZ bC),aa,aa,aa,aa,aa⟩
 rintro aO bx ⟨am,bt,bK,bE,cV,cW,cX,cY,cZ⟩
 refine fx 0 cV<|fx 1 cW<|fx 2 cX<|fx 7 cY<|fx 8 cZ<|ak fun a2=>ao (aj b)<|ao (aj i2)<|p (c6 ((b - i2:Nat):Int) aa aa<|bf ab ab)<|p (ge aa aa)<|nl<|a2<|cd aa (fun cv=> ?_) fun cv=> ?_
 refine ak fun a3=>ao (aj i2)<|p (bG ((i2+1:Nat):Int) aa aa<|bf ab ab)<|aw<|a3<|aE<|lp (fun Y aF aA=> ∃ (q:Nat) (O:Array Nat),(i2+1≤q∧q≤b)∧(Bv bJ b q O=Bv bJ b (i2+1) am)∧(aA.ownsRow B 95 1 (.slice c n cp) n<|LE aT O)∧(Md (fun q=>(bD c n cp).ownBlock=some q) w aA)∧(aF 0= .slice c n cp)∧(aF 1=aj a)∧(aF 2=aj b)∧(aF 7=aj i2)∧(aF 8=aj s)∧(aF 10=aj q)∧(b - q=Y)) _ ⟨i2+1,am,ab,aa,bK,bE,aa,aa,aa,aa,aa,aa,aa⟩ ?_
 rintro Y aF aA ⟨q,O,bO,bw,ai,bk,c7,c8,da,dc,dd,c9,rfl⟩
 refine fx 0 c7<|fx 1 c8<|fx 2 da<|fx 7 dc<|fx 8 dd<|fx 10 c9<|az fun a4=>ak fun a5=>ao (aj q)<|ao (aj b)<|p (lt aa aa)<|nl<|a5<|cd aa (fun cn=> ?_) fun cn=> ?_
 refine aQ<|a4<|az fun a9=>aE<|az fun bb=>az fun bd=> ?_
 have dh:=ec ai
 have ac:(fun w'=>Wk aA w') aA.drew:=(Md.refl _ _).drew
 refine cD (fun w'=>Wk aA w') aa wide ac<|bT 0 aa (.slice c n cp) ac<|bT 1 aa (aj q) ac<|aR 2 aa (fun _ _=>a7 bI aa aa ab<|aG.ok ((aU ai).2)<|bL ab) ac<|aR 3 aa (fun w' C=>ld bW aa<|cE (i:=q) ((aU ai).2.wk C) ab) ac<|bT 4 aa (.slice c n cp) ac<|bT 5 aa (aj q) ac<|aR 6 aa (fun _ _=>c6 ((q - 1:Nat):Int) aa aa<|bf ab ab) ac<|aR 7 aa (fun _ _=>a7 bI aa aa ab<|aG.ok ((aU ai).2)<|bL ab) ac<|aR 8 aa (fun w' C=>ld bW aa<|cE (i:=q - 1) ((aU ai).2.wk C) ab) ac<|he 9 aa ag<|cl kI (kM O[q]! O[q - 1]! _) aa fun dk aV cj=> ?_
 obtain ⟨rfl,b2⟩:=cj
 have aJ:(fun w'=>Wk aA w') aV:=Md.trans ac b2
 refine ⟨aJ,?_⟩
 refine aR 10 aa (fun _ _=>no aa) aJ<|hn ag<|bd<|cb aa (fun bm=> ?_) fun bm=> ?_
 exact ext<|bc<|na ay<|bc<|bc<|be<|bn<|aP<|rg aa<|ao (aj s)<|p (bG ((s+1:Nat):Int) aa aa<|bf ab ab)<|p aC<|nl<|tn<|⟨_,ab,s+1,i2,O,ab,(by rw [← aK,pi_go (show 0 < 5 - s by omega) aS bh ab bt (show O=_ by rw [if_pos ab,← bw,GV (.inr<|by simpa using bm)])]; rfl),(a8 ai aJ),(Md.trans bk<|aJ.mono fun _ _ h=>h.elim),aa,aa,aa,aa,aa,aa⟩
 refine aQ<|bb ?_
 have ap:=a8 ai aJ
 have J:(fun w'=>Wk aV w') aV.drew:=(Md.refl _ _).drew
 refine eF (fun w'=>Wk aV w') 15 aa wide J<|bo 0 aa (.slice c n cp) J<|bo 1 aa (aj q) J<|bo 2 aa (.slice c n cp) J<|bo 3 aa (aj q) J<|bB 4 aa (fun _=>c6 ((q - 1:Nat):Int) aa aa<|bf ab ab) (fun _=>J)<|bo 5 aa (.slice c n cp) J<|bo 6 aa (aj q) J<|bB 7 aa (fun _=>c6 ((q - 1:Nat):Int) aa aa<|bf ab ab) (fun _=>J)<|bB 8 aa (fun _=>a7 bI aa aa ab<|aG.ok ((aU ap).2)<|bL ab) (fun _=>J)<|ed 9 aa (fun w' C=>ld bW aa<|cE (i:=q - 1) ((aU ap).2.wk C) ab) J<|bo 10 aa (.slice c n cp) J<|bo 11 aa (aj q) J<|bB 12 aa (fun _=>a7 bI aa aa ab<|aG.ok ((aU ap).2)<|bL ab) (fun _=>J)<|ed 13 aa (fun w' C=>ld bW aa<|cE (i:=q) ((aU ap).2.wk C) ab) J<|bB 14 aa (fun _=>a7 bI aa aa ab<|aG.ok ((aU ap).2)<|bL ab) (fun _=>J) ?_
 refine db 15 aa ag ag<|e7 (u:=O[q - 1]!) (q) (a8 ap J) eZ aa aa aa ab fun dp cc cC=>bB 16 aa (fun _=>a7 bI aa aa ab<|aG.ok ((aU ap).2)<|bL ab) (fun h=>dA<|(show true =_ from by kernel_rfl).trans h)<|db 17 aa ag ag<|e7 (u:=O[q]!) (q - 1) cC eZ aa aa aa ab fun bR ce cF=> ?_
 have ci:bR.ownsRow B 95 1 (.slice c n cp) n (LE aT<|bS O (q)<|q - 1):=cF
 have ca:Md (fun q=>(bD c n cp).ownBlock=some q) aV bR:=Md.trans (J.mono fun _ _ h=>h.elim)<|Md.trans cc ce
 exact eE ag<|bn<|a9<|rg aa<|ao (aj q)<|p (bG ((q+1:Nat):Int) aa aa<|bf ab ab)<|p aC<|nl<|tn<|⟨_,ab,q+1,bS O q (q - 1),ab,(by rw [← bw,UN (show q < b by omega) (by simpa using bm)]),ci,(Md.trans bk<|Md.trans (aJ.mono fun _ _ h=>h.elim) ca),aa,aa,aa,aa,aa,aa,aa⟩
 exact ext<|bc<|bc<|be<|bn<|aP<|rg aa<|ao (aj s)<|p (bG ((s+1:Nat):Int) aa aa<|bf ab ab)<|p aC<|nl<|tn<|⟨_,ab,s+1,i2,O,ab,(by rw [← aK,pi_go (show 0 < 5 - s by omega) aS bh ab bt (show O=_ by rw [if_pos ab,← bw,GV (.inl ab)])]; rfl),ai,bk,aa,aa,aa,aa,aa,aa⟩
 exact aQ<|bn<|aP<|rg aa<|ao (aj s)<|p (bG ((s+1:Nat):Int) aa aa<|bf ab ab)<|p aC<|nl<|tn<|⟨_,ab,s+1,i2,am,ab,(by rw [← aK,pi_go (show 0 < 5 - s by omega) aS bh ab bt (show am=_ by rw [if_neg ab])]; rfl),bK,bE,aa,aa,aa,aa,aa,aa⟩
 refine ext<|bc<|bc<|be<|bY<|ak fun aP=>p aC<|nl<|aP<|rt<|a6 aa ?_
 have al:(rX bJ d a b)=(E,false):=by rw [← aK,show 5 - s=0 by omega]; rfl
 exact ⟨by rw [al]; rfl,by rw [al]; exact bF,bA⟩
theorem SK (d:Array Nat) (a b A:Nat) (B n cp:Nat) (c:Option Addr) (w:World) (hO:w.ownsRow B 95 1 (.slice c n cp) n (LE aT d)) (E:a≤A∧A < b∧b≤n) (G:n≤1099511627776):ba au 292 (aX [.slice c n cp,.int .i64 (a:Nat),.int .i64 (b:Nat),.int .i64 (A:Nat)]) w
 (fun v w'=> ∃ C ap d4,pn bJ d a b A=(C,ap,d4)∧v= .tuple #[.int .i64 (C:Nat),.bool ap]∧w'.ownsRow B 95 1 (.slice c n cp) n (LE aT d4)∧Md (fun q=>(bD c n cp).ownBlock=some q) w w'):=
 (SJ d a b A B n cp c w hO E G).mono fun _ _ h=>⟨_,_,_,rfl,h⟩
theorem SM (d:Array Nat) (a b A:Nat) (B n cp:Nat) (c:Option Addr) (w:World) (hO:w.ownsRow B 95 1 (.slice c n cp) n (LE aT d)) (E:a≤A∧A < b∧b≤n) (G:n≤1099511627776):ba au 291 (aX [.slice c n cp,.int .i64 (a:Nat),.int .i64 (b:Nat),.int .i64 (A:Nat)]) w
 (fun v w'=> ∃ C d4,tP bJ d a b A=(C,d4)∧v= .int .i64 (C:Nat)∧w'.ownsRow B 95 1 (.slice c n cp) n (LE aT d4)∧Md (fun q=>(bD c n cp).ownBlock=some q) w w'):=
 (SL d a b A B n cp c w hO E G).mono fun _ _ h=>⟨_,_,rfl,h⟩
theorem SN (m:Nat) (d:Array Nat) (a b lim:Nat) (B n cp:Nat) (C:Option Addr) (w:World) (hO:w.ownsRow B 95 1 (.slice C n cp) n (LE aT d)) (hm:b - a < m) (du:a≤b∧b≤n) (cK:n≤255) (dA:lim≤64) (bV:Bq bJ a b d):
 ba au 268 (aX [.slice C n cp,aj a,aj b,aj lim]) w (fun v w'=> ∃ d1,v= .tuple #[]∧mO a b d d1∧rW bJ a b d1∧w'.ownsRow B 95 1 (.slice C n cp) n (LE aT d1)∧Md (fun q=>(bD C n cp).ownBlock=some q) w w'):=by
 have bE:True:=trivial
 induction m generalizing d a b lim w with
 | zero=>omega
 | succ m bE=>
   have bC:∀ (d:Array Nat) (a b lim:Nat) (w:World),w.ownsRow B 95 1 (.slice C n cp) n (LE aT d)→b - a < m→(a≤b∧b≤n)→lim≤64→Bq bJ a b d→_:=fun d a b lim w h1 h2 h3 h4 h5=>bE d a b lim w h1 h2 h3 h4 h5
   have dz:=ec hO
   refine enter func268 aa ntmps268 aa<|ak fun bK=>aw<|bK<|ak fun bP=>p aC<|nl<|bP<|aE<|lp (fun bo an bm=> ∃ (c A ae:Nat) (wb wp:Bool) (G:Array Nat),(a≤c∧c≤A∧A≤b∧ae≤64)∧(Bq bJ c A G)∧(∀ R,mO c A G R→rW bJ c A R→mO a b d R∧rW bJ a b R)∧(bm.ownsRow B 95 1 (.slice C n cp) n<|LE aT G)∧(Md (fun q=>(bD C n cp).ownBlock=some q) w bm)∧(an 0= .slice C n cp)∧(an 1=aj c)∧(an 2=aj A)∧(an 3=aj ae)∧(an 8= .bool wb)∧(an 9= .bool wp)∧(A - c=bo)) _ ⟨a,b,lim,true,true,d,ab,bV,(fun R h1 h2=>⟨h1,h2⟩),hO,(Md.refl _ _),aa,aa,aa,aa,aa,aa,aa⟩ ?_
   rintro bo an bm ⟨c,A,ae,wb,wp,G,dD,aY,aq,aD,aN,cM,cN,cO,cP,cQ,cR,rfl⟩
   refine fx 0 cM<|fx 1 cN<|fx 2 cO<|fx 3 cP<|fx 8 cQ<|fx 9 cR ?_
   have dy:=ec aD
   refine aE<|ak fun bQ=>ao (aj A)<|ao (aj c)<|p (c6 ((A - c:Nat):Int) aa aa<|bf ab ab)<|p aC<|nl<|bQ<|az fun bR=>ak fun bS=>p mv<|p (le aa aa)<|nl<|bS ?_
   refine cd aa (fun cu=> ?_) fun cu=> ?_
   refine ak fun aW=>ao (.slice C n cp)<|ao (aj c)<|ao (aj A)<|e<|cl Lh (QF G c A B n cp C _ aD ab ab) aa fun dG dL ch=> ?_
   obtain ⟨rfl,b5,bZ⟩:=ch
   refine nl<|aW<|rt<|tr<|br<|tr<|br<|u7 aa ?_
   obtain ⟨h1,h2⟩:=Go.Sort.insertionSort_holds s5 G c A ab ab
   obtain ⟨aL,aM⟩:=aq _ (h1)<|h2
   exact ⟨_,aa,aL,aM,b5,Md.trans aN bZ⟩
   refine aQ<|bR<|az fun aW=>ak fun bU=>ao (aj ae)<|p (cg aa aa)<|nl<|bU<|cd aa (fun cv=> ?_) fun cv=> ?_
   refine ak fun ay=>ao (.slice C n cp)<|ao (aj c)<|ao (aj A)<|e<|cl Li (Qg G c A B n cp C _ aD ab ab) aa fun v33 dM ci=> ?_
   obtain ⟨rfl,b6,b0⟩:=ci
   refine nl<|ay<|rt<|tr<|br<|tr<|br<|u7 aa ?_
   obtain ⟨h1,h2⟩:=Go.Sort.heapSort_holds s5 G c A ab ab
   obtain ⟨aL,aM⟩:=aq _ (h1)<|h2
   exact ⟨_,aa,aL,aM,b6,Md.trans aN b0⟩
   refine aQ<|aW ?_
   refine eV (fun ah wB=> ∃ (I:Nat) (d1:Array Nat),(I≤64)∧(mO c A G d1)∧(wB.ownsRow B 95 1 (.slice C n cp) n<|LE aT d1)∧(Md (fun q=>(bD C n cp).ownBlock=some q) w wB)∧(ah 0= .slice C n cp)∧(ah 1=aj c)∧(ah 2=aj A)∧(ah 3=aj I)∧(ah 8= .bool wb)∧(ah 9= .bool wp)∧(ah 10=aj (A - c))) ?_ ?_
   refine ak fun ay=>ao (.bool wb)<|p (no aa)<|nl<|ay<|cb aa (fun cw=> ?_) fun cw=> ?_
   refine ak fun O=>ao (.slice C n cp)<|ao (aj c)<|ao (aj A)<|e<|cl Lj (Kc G c A B n cp C _ aD ab cK) aa fun v39 dN cj=> ?_
   obtain ⟨d1,rfl,cL,b7,b1⟩:=cj
   exact nl<|O<|rg aa<|ao (aj ae)<|p (c6 ((ae - 1:Nat):Int) aa aa<|bf ab ab)<|p aC<|nl<|tn<|⟨ae - 1,d1,ab,cL,b7,(Md.trans aN b1),aa,aa,aa,aa,aa,aa,aa⟩
   exact aQ<|tn<|⟨ae,G,ab,(If G c A),aD,aN,aa,aa,aa,aa,aa,aa,aa⟩
   rintro ah wB ⟨I,d1,dB,bB,ca,b4,cS,cT,cV,cW,cX,cY,cU⟩
   refine fx 0 cS<|fx 1 cT<|fx 2 cV<|fx 3 cW<|fx 8 cX<|fx 9 cY<|fx 10 cU<|ak fun ay=>ao (.slice C n cp)<|ao (aj c)<|ao (aj A)<|e<|cl Lk (L9 d1 c A B n cp C _ ca ab ab) aa fun v46 dO ck=> ?_
   obtain ⟨aP,ds,rfl,dC,a1,bX⟩:=ck
   have bp:=Md.trans b4<|bX.mono fun _ _ h=>h.elim
   refine p mv<|p (xt aa aa)<|p (xt aa aa)<|p aC<|aw<|ay ?_
   refine eV (fun Y bj=> ∃ (J:Nat) (bh:Int) (d2:Array Nat),(c≤J∧J < A)∧(mO c A G d2)∧(bj.ownsRow B 95 1 (.slice C n cp) n<|LE aT d2)∧(Md (fun q=>(bD C n cp).ownBlock=some q) w bj)∧(Y 0= .slice C n cp)∧(Y 1=aj c)∧(Y 2=aj A)∧(Y 3=aj I)∧(Y 8= .bool wb)∧(Y 9= .bool wp)∧(Y 10=aj (A - c))∧(Y 11=aj J)∧(Y 12= .int .i64 bh)) ?_ ?_
   refine ak fun O=>p mv<|p (cg aa aa)<|nl<|O<|cd aa (fun cx=> ?_) fun cx=> ?_
   refine ak fun ai=>ao (.slice C n cp)<|ao (aj c)<|ao (aj A)<|e<|cl Ll (TC d1 c A B n cp C _ a1 ab ab) aa fun v54 dP cm=> ?_
   obtain ⟨rfl,b8,b2⟩:=cm
   have dv:=ec a1
   exact nl<|ai<|ak fun ax=>ao (aj A)<|p (c6 ((A - 1:Nat):Int) aa aa<|bf ab ab)<|p mv<|ao (aj c)<|p (c6 ((aP - c:Nat):Int) aa aa<|bf ab ab)<|p (c6 ((A - 1 - (aP - c):Nat):Int) aa aa<|bf ab ab)<|aw<|ax<|rg aa<|p aC<|nl<|tn<|⟨A - 1 - (aP - c),1,Bu d1 c A,ab,(qz _ _ _ c A bB<|Go.Sort.reverseRange_holds d1 c A ab ab),b8,(Md.trans bp b2),aa,aa,aa,aa,aa,aa,aa,aa,aa⟩
   exact aQ<|tn<|⟨aP,ds,d1,ab,bB,a1,bp,aa,aa,aa,aa,aa,aa,aa,aa,aa⟩
   rintro Y bj ⟨J,bh,d2,aO,av,aF,aB,cZ,c0,c4,c5,c7,c8,c1,c2,c3⟩
   refine fx 0 cZ<|fx 1 c0<|fx 2 c4<|fx 3 c5<|fx 8 c7<|fx 9 c8<|fx 10 c1<|fx 11 c2<|fx 12 c3 ?_
   refine eV (fun Z am=> ∃ (d3:Array Nat),(mO c A G d3)∧(am.ownsRow B 95 1 (.slice C n cp) n<|LE aT d3)∧(Md (fun q=>(bD C n cp).ownBlock=some q) w am)∧(Z 0= .slice C n cp)∧(Z 1=aj c)∧(Z 2=aj A)∧(Z 3=aj I)∧(Z 8= .bool wb)∧(Z 9= .bool wp)∧(Z 10=aj (A - c))∧(Z 11=aj J)) ?_ ?_
   refine ak fun O=>ao (.bool wb)<|ao (.bool wb)<|gb (t:=62) aa (fun cA=> ?_) fun cA=> ?_
   refine aK aa (aH (.bool wp) aa)<|p (bN aa)<|p mv<|gb (t:=65) aa (fun cB=> ?_) fun cB=> ?_
   refine aK aa (aH (.int .i64 bh) aa)<|aK aa (cg aa aa)<|p (bN aa)<|nl<|O<|cd aa (fun cy=> ?_) fun cy=> ?_
   refine ak fun ai=>ao (.slice C n cp)<|ao (aj c)<|ao (aj A)<|e<|cl Lm (S3 d2 c A B n cp C _ aF ab ab) aa fun v72 dQ cn=> ?_
   obtain ⟨rfl,bv,bs⟩:=cn
   have dw:=ec aF
   obtain ⟨bA,cF⟩:=Go.Sort.partialInsertionSort_holds s5 d2 c A ab ab<|Bs aY ab av
   refine nl<|ai<|cb aa (fun bx=> ?_) fun bx=> ?_
   have dr:=cF bx
   refine rt<|tr<|br<|tr<|br<|u7 aa ?_
   obtain ⟨aL,aM⟩:=aq _ (qz _ _ _ c A av bA)<|dr
   exact ⟨_,aa,aL,aM,bv,Md.trans aB bs⟩
   exact aQ<|tn<|⟨_,(qz _ _ _ c A av bA),bv,(Md.trans aB bs),aa,aa,aa,aa,aa,aa,aa,aa⟩
   exact aQ<|tn<|⟨d2,av,aF,aB,aa,aa,aa,aa,aa,aa,aa,aa⟩
   exact aJ aa<|aJ aa<|p (bH aa)<|nl<|O<|cf aa<|aQ<|tn<|⟨d2,av,aF,aB,aa,aa,aa,aa,aa,aa,aa,aa⟩
   exact aJ aa<|p (bH aa)<|p mv<|aJ aa<|aJ aa<|p (bH aa)<|nl<|O<|cf aa<|aQ<|tn<|⟨d2,av,aF,aB,aa,aa,aa,aa,aa,aa,aa,aa⟩
   rintro Z am ⟨d3,aI,ad,aZ,c9,da,dd,de,df,dg,db,dc⟩
   refine fx 0 c9<|fx 1 da<|fx 2 dd<|fx 3 de<|fx 8 df<|fx 9 dg<|fx 10 db<|fx 11 dc ?_
   refine eV (fun ac bk=>(bk.ownsRow B 95 1 (.slice C n cp) n<|LE aT d3)∧(Md (fun q=>(bD C n cp).ownBlock=some q) w bk)∧(ac 0= .slice C n cp)∧(ac 1=aj c)∧(ac 2=aj A)∧(ac 3=aj I)∧(ac 8= .bool wb)∧(ac 9= .bool wp)∧(ac 10=aj (A - c))∧(ac 11=aj J)) ?_ ?_
   refine az fun O=> ?_
   have cz:=ec ad
   have E:(fun w'=>Wk am w') am.drew:=(Md.refl _ _).drew
   refine cD (fun w'=>Wk am w') aa wide E<|bT 0 aa (aj c) E<|aR 1 aa (fun _ _=>gt aa aa) E<|aR 2 aa (fun _ _=>mv) E<|j9 (t:=75) aa (fun cC=> ?_) fun cC=> ?_
   refine bq 3 aa (fun _ _=>aH (.slice C n cp) aa) E<|bq 4 aa (fun _ _=>aH (aj c) aa) E<|bq 5 aa (fun _ _=>c6 ((c - 1:Nat):Int) aa aa<|bf ab ab) E<|bq 6 aa (fun _ _=>a7 bI aa aa ab<|aG.ok ((aU ad).2)<|bL ab) E<|bq 7 aa (fun w' a4=>ld bW aa<|cE (i:=c - 1) ((aU ad).2.wk a4) ab) E<|bq 8 aa (fun _ _=>aH (.slice C n cp) aa) E<|bq 9 aa (fun _ _=>aH (aj J) aa) E<|bq 10 aa (fun _ _=>a7 bI aa aa ab<|aG.ok ((aU ad).2)<|bL ab) E<|bq 11 aa (fun w' a4=>ld bW aa<|cE (i:=J) ((aU ad).2.wk a4) ab) E<|lr 12 aa ag aa aa aa<|cl kI (kM d3[c - 1]! d3[J]! _) aa fun v85 dt co=> ?_
   obtain ⟨rfl,bY⟩:=co
   have al:(fun w'=>Wk am w') dt:=Md.trans E bY
   refine ⟨al,?_⟩
   refine bq 13 aa (fun _ _=>no aa) al<|aR 14 aa (fun _ _=>bN aa) al<|hn ag<|O<|cb aa (fun bz=> ?_) fun bz=> ?_
   refine ak fun ai=>ao (.slice C n cp)<|ao (aj c)<|ao (aj A)<|ao (aj J)<|e<|cl Ln (SM d3 c A J B n cp C _ (a8 ad al) ab ab) aa fun dH dR cq=> ?_
   obtain ⟨V,d4,bi,rfl,b9,b3⟩:=cq
   obtain ⟨bT,cG,cH,a9,bb⟩:=Go.Sort.round_eq s5 (Go.Sort.partitionEqual_holds bJ) (show 0 < c by omega) aO.1 aO.2 ab (Bs aY ab aI) (by simpa using bz) bi
   exact aw<|ai<|ak fun ax=>p mv<|p aC<|nl<|ax<|ext<|bc<|be<|tn<|⟨_,ab,V,A,I,wb,wp,d4,ab,a9,(fun R h1 h2=>by obtain ⟨h3,h4⟩:=bb R h1 h2; exact aq R (qz _ _ _ c A aI h3) h4),b9,(Md.trans aZ<|Md.trans (al.mono fun _ _ h=>h.elim) b3),aa,aa,aa,aa,aa,aa,aa⟩
   exact aQ<|tn<|⟨(a8 ad al),(Md.trans aZ<|al.mono fun _ _ h=>h.elim),aa,aa,aa,aa,aa,aa,aa,aa⟩
   exact bl 3 aa E<|bl 4 aa E<|bl 5 aa E<|bl 6 aa E<|bl 7 aa E<|bl 8 aa E<|bl 9 aa E<|bl 10 aa E<|bl 11 aa E<|bl 12 aa E<|bl 13 aa E<|aR 14 aa (fun _ _=>bH aa) E<|hn ag<|O<|cf aa<|aQ<|tn<|⟨(a8 ad (Md.refl _ _).drew),aZ.drew,aa,aa,aa,aa,aa,aa,aa,aa⟩
   rintro ac bk ⟨bw,bu,dh,di,dl,dn,dp,dq,dj,dk⟩
   refine fx 0 dh<|fx 1 di<|fx 2 dl<|fx 3 dn<|fx 8 dp<|fx 9 dq<|fx 10 dj<|fx 11 dk<|ak fun O=>ao (.slice C n cp)<|ao (aj c)<|ao (aj A)<|ao (aj J)<|e<|cl Lo (SK d3 c A J B n cp C _ bw ab ab) aa fun dI bF cs=> ?_
   obtain ⟨V,ap,d4,bi,rfl,a2,bt⟩:=cs
   have cz:=ec bw
   have dx:=ec a2
   obtain ⟨bT,cG,cH,a9,bb,cI,cJ⟩:=Go.Sort.round_part s5 (Go.Sort.partition_holds bJ) aO.1 aO.2 ab (Bs aY ab aI) bi
   refine p mv<|p (xt aa aa)<|p (xt aa aa)<|p aC<|aw<|O<|az fun ai=>rg aa<|p mv<|aw<|ai<|ak fun ax=>p mv<|ao (aj c)<|p (c6 ((V - c:Nat):Int) aa aa<|bf ab ab)<|ao (aj A)<|p mv<|p (c6 ((A - V:Nat):Int) aa aa<|bf ab ab)<|p aC<|p aC<|nl<|ax<|ak fun bM=>ao (aj<|A - c)<|p (oY (((A - c) / 8:Nat):Int) aa aa ab<|bf ab ab)<|aw<|bM ?_
   refine ak fun bO=>p mv<|p mv<|p (lt aa aa)<|nl<|bO<|cd aa (fun ct=> ?_) fun ct=> ?_
   refine ak fun aS=>p mv<|p mv<|p (ge aa aa)<|aw<|aS<|ak fun aV=>ao (.slice C n cp)<|ao (aj c)<|p mv<|ao (aj I)<|e<|cl yo (bC d4 c V I bF a2 ab ab ab a9) aa fun dE dJ cc=> ?_
   obtain ⟨aA,rfl,bd,bg,a3,a0⟩:=cc
   obtain ⟨a5,a6⟩:=cI aA bd bg
   exact nl<|aV<|rg aa<|p mv<|p (bG ((V+1:Nat):Int) aa aa<|bf ab ab)<|p aC<|nl<|bn<|tn<|⟨_,ab,V+1,A,I,decide (((V - c:Nat):Int)≥(((A - c) / 8:Nat):Int)),ap,aA,ab,a5,(fun R h1 h2=>by obtain ⟨h3,h4⟩:=a6 R h1 h2; exact aq R (qz _ _ _ c A aI h3) h4),a3,(Md.trans bu<|Md.trans bt a0),aa,aa,aa,aa,aa,aa,aa⟩
   refine ak fun aS=>p mv<|p mv<|p (ge aa aa)<|aw<|aS<|ak fun aV=>ao (.slice C n cp)<|p mv<|p (bG ((V+1:Nat):Int) aa aa<|bf ab ab)<|ao (aj A)<|ao (aj I)<|e<|cl yo (bC d4 (V+1) A I bF a2 ab ab ab bb) aa fun dF dK ce=> ?_
   obtain ⟨aA,rfl,bd,bg,a3,a0⟩:=ce
   obtain ⟨a5,a6⟩:=cJ aA bd bg
   exact nl<|aV<|rg aa<|p mv<|p aC<|nl<|bn<|tn<|⟨_,ab,c,V,I,decide (((A - V:Nat):Int)≥(((A - c) / 8:Nat):Int)),ap,aA,ab,a5,(fun R h1 h2=>by obtain ⟨h3,h4⟩:=a6 R h1 h2; exact aq R (qz _ _ _ c A aI h3) h4),a3,(Md.trans bu<|Md.trans bt a0),aa,aa,aa,aa,aa,aa,aa⟩
theorem Uk (d:Array Nat) (B n cp:Nat) (c:Option Addr) (w:World) (hO:w.ownsRow B 95 1 (.slice c n cp) n (LE aT d)) (I:n≤255):
 ba au 241 (aX [.slice c n cp]) w (fun v w'=> ∃ d1,v= .tuple #[]∧mO 0 n d d1∧rW bJ 0 n d1∧w'.ownsRow B 95 1 (.slice c n cp) n (LE aT d1)∧Md (fun q=>(bD c n cp).ownBlock=some q) w w'):=by
 refine enter func241 aa ntmps241 aa<|ak fun C=>ao (.slice c n cp)<|p (bM nA aa aa)<|aw<|C<|rg aa<|ao (.slice c n cp)<|p mv<|p mv<|p (nj G7 rM aa<|nE ab)<|e<|cl CQ (Fj n _ ab) aa fun v9 V G=> ?_
 obtain ⟨rfl,A⟩:=G
 have J:=vy (n:=n) ab
 refine e<|cl yo (SN (n+1) d 0 n (jN n) B n cp c _ (a8 hO A) ab ab I ab<|.inl aa) aa fun v10 O E=> ?_
 obtain ⟨d1,rfl,h1,h2,h3,h4⟩:=E
 exact nl<|f0 aa<|⟨d1,aa,h1,h2,h3,Md.trans (A.mono fun _ _ h=>h.elim) h4⟩
end Go.Hb
namespace Go.Hb.eI
theorem rG {w:World} {B e n cp i:Nat} {a:Option Addr} {d:Array Nat} (h:w.ownsRow B e 1 (.slice a n cp) n (LE aT d)):aG w.heap (eh a cp i 1) ((LE aT d).drop i):=by
 have :=(aU h).2.drop (cap:=cp) (k:=i) (size:=1)<|by rw [oV]; have h1:=ec h; have h2:=(aU h).1; omega
 rwa [Nat.mul_one] at this
theorem RA (l:List Nat):l.map aT=LE aT l.toArray:=by simp [LE]
theorem qM (l:List Nat):(l.map aT).all et=true :=by
 rw [List.all_eq_true]; intro v c; obtain ⟨x,_,rfl⟩:=List.mem_map.1 c; rfl
theorem U0 (d:Array Nat) (k:Nat):(LE aT d).take k=(d.toList.take k).map aT:=by simp [LE,ID]
theorem tk (b:UInt8):hZ b=decide ((b.toNat:Int) > 32∧(b.toNat:Int) < 127∧(b.toNat:Int)≠47∧(b.toNat:Int)≠44∧(b.toNat:Int)≠35):=by
 unfold hZ; exact decide_eq_decide.2 ab
theorem Ae {w:World} {B e size n cp:Nat} {a:Option Addr} {xs:List Value} (h:w.ownsRow B e size (.slice a n cp) n xs) (hn:0 < n):a≠none:=by
 rintro rfl
 rcases h.2 with ⟨_,h5⟩ | ⟨g,cap,cur,h4,_⟩
 · omega
 · simp at h4
theorem qU (a:Option Addr) (n c:Nat) (xs:List Value) (w:World) (Y:aG w.heap a xs) (ai:xs.length=n*1) (ad:a=none→n=0) (h1:xs.all et=true) (hn:n≤1048576):
 ba au 44 (aX [.slice a n c]) w (fun v w'=>bm w' w.heap.size 95 1 v n xs∧Wk w w'):=by
 refine enter func44 aa ntmps44 aa<|ak fun I=>aw<|I<|az fun J=>ak fun O=>ao (.slice a n c)<|p (oQ nA aa aa)<|nl<|O<|cb aa (fun E=> ?_) fun E=> ?_
 have ae:a=none:=by simpa using E
 refine ak fun A=>aw<|A<|rt<|tr<|a6 aa ?_
 have ag:=ad ae
 subst ag
 obtain rfl :=fR (show xs.length=0 by omega)
 exact ⟨dM _ _ _ _,Md.refl _ _⟩
 refine aQ<|J<|ak fun A=>e<|oM vZ fun an ay aq C V=> ?_
 have G:=V w.heap.size ab
 refine ao (.slice a n c)<|e<|ap vZ (G) aa (by have :=C.size; omega) aa (Y.wk C.md) (ai) (h1) ab ab fun al am ah ac ax av=> ?_
 have Z:=Wk.own C.md G ac<|cw _
 refine aw<|A<|rt<|a6 aa ?_
 have aj:bm am w.heap.size 95 1 al n xs:=by simpa using ah
 exact ⟨aj,Z⟩
theorem MU (d:Array Nat) (B n cp:Nat) (c:Option Addr) (w:World) (hO:w.ownsRow B 95 1 (.slice c n cp) n (LE aT d)) (bt:n≤1048576):
 ba au 242 (aX [.slice c n cp]) w (fun v w'=> ∃ k,v= .slice c k cp∧k=(gk d.toList).length∧bm w' B 95 1 (.slice c k cp) k ((gk d.toList).map aT)∧Md (fun q=>(bD c n cp).ownBlock=some q) w w'):=by
 have bs:=ec hO
 have bp:=(aU hO).1
 refine enter func242 aa ntmps242 aa<|ak fun aB=>aw<|aB<|az fun aL=>ak fun aN=>ao (.slice c n cp)<|p (bM nA aa aa)<|p (lt aa aa)<|nl<|aN<|cd aa (fun a3=> ?_) fun a3=> ?_
 refine ak fun ap=>ao (.slice c n cp)<|p (bV (.slice c n cp) aa)<|nl<|ap<|rt<|tr<|a6 aa ?_
 have am:gk d.toList=d.toList:=by
  have ax:d.toList.length < 2:=by rw [rJ]; omega
  revert ax
  generalize d.toList=l
  intro ax
  match l,ax with
  | [],_=>rfl
  | [x],_=>rfl
 exact ⟨n,aa,by rw [am,rJ]; omega,by rw [am]; exact hO,Md.refl _ _⟩
 refine aQ<|aL<|az fun ap=>ak fun aO=>aw<|aO<|aE<|lp (fun Y ay ae=> ∃ (i:Nat),(1≤i∧i≤n∧2≤n)∧(gk (d.toList.take i)=d.toList.take i)∧(Wk w ae)∧(ay 0= .slice c n cp)∧(ay 3=aj i)∧(n - i=Y)) _ ⟨1,ab,(by have h1:=wx (d:=d) (i:=0) ab; rw [h1]; rfl),(Md.refl _ _),aa,aa,aa⟩ ?_
 rintro Y ay ae ⟨i,hi,Z,I,bh,bi,rfl⟩
 refine fx 0 bh<|fx 3 bi<|az fun aP=>ak fun aS=>ao (aj i)<|ao (.slice c n cp)<|p (bM nA aa aa)<|p (lt aa aa)<|nl<|aS<|cd aa (fun aZ=> ?_) fun aZ=> ?_
 refine aQ<|aP<|az fun aq=>aE<|az fun aV=> ?_
 have C:(fun w'=>Wk ae w') ae.drew:=(Md.refl _ _).drew
 refine cD (fun w'=>Wk ae w') aa wide C<|bT 0 aa (.slice c n cp) C<|bT 1 aa (aj i) C<|aR 2 aa (fun _ _=>a7 bI aa aa ab<|aG.ok ((aU hO).2)<|bL ab) C<|aR 3 aa (fun w' J=>ld bW aa<|Wk.aM J<|cE (i:=i) (aU<|a8 hO I).2 ab) C<|bT 4 aa (.slice c n cp) C<|bT 5 aa (aj i) C<|aR 6 aa (fun _ _=>c6 ((i - 1:Nat):Int) aa aa<|bf ab ab) C<|aR 7 aa (fun _ _=>a7 bI aa aa ab<|aG.ok ((aU hO).2)<|bL ab) C<|aR 8 aa (fun w' J=>ld bW aa<|Wk.aM J<|cE (i:=i - 1) (aU<|a8 hO I).2 ab) C<|aR 9 aa (fun _ _=>cg aa aa) C<|hn ag<|aV<|cd aa (fun a0=> ?_) fun a0=> ?_
 have heq:d[i - 1]! =d[i]! :=ab
 refine ak fun aD=>ao (.slice c n cp)<|ao (aj i)<|p (qi bI aa aa ab)<|aw<|aD<|az fun aF=>ak fun aH=>aw<|aH<|aE<|lp (fun Y ah V=> ∃ (k i2:Nat) (E:Array Nat),(1≤k∧k < i+i2∧1≤i2∧i2≤n - i)∧(E.toList.drop k=d.toList.drop k)∧(E.toList.take k=gk (d.toList.take<|i+i2))∧(V.ownsRow B 95 1 (.slice c n cp) n<|LE aT E)∧(Md (fun q=>(bD c n cp).ownBlock=some q) w V)∧(ah 0= .slice c n cp)∧(ah 3=aj k)∧(ah 4= .slice (eh c cp i 1) (n - i) (cp - i))∧(ah 5=aj i2)∧(n - i2=Y)) _ ⟨i,1,d,ab,aa,(by rw [uV ab ab,if_pos heq,Z]),(a8 hO<|Md.trans I (Md.refl _ _).drew),((Md.trans I (Md.refl _ _).drew).mono fun _ _ h=>h.elim),aa,aa,aa,aa,aa⟩ ?_
 rintro Y ah V ⟨k,i2,E,hk,O,ac,G,av,bj,bk,bl,bo,rfl⟩
 refine fx 0 bj<|fx 3 bk<|fx 4 bl<|fx 5 bo ?_
 have bq:=ec G
 refine az fun aI=>ak fun aJ=>ao (aj i2)<|ao (.slice (eh c cp i 1) (n - i)<|cp - i)<|p (bM nA aa aa)<|p (lt aa aa)<|nl<|aJ<|cd aa (fun a1=> ?_) fun a1=> ?_
 refine aQ<|aI<|az fun ai=>aE<|az fun an=> ?_
 have A:(fun w'=>Wk V w') V.drew:=(Md.refl _ _).drew
 refine cD (fun w'=>Wk V w') aa wide A<|bT 0 aa (.slice (eh c cp i 1) (n - i)<|cp - i) A<|bT 1 aa (aj i2) A<|aR 2 aa (fun _ _=>a7 bI aa aa ab<|aG.ok (rG G)<|zx ab) A<|aR 3 aa (fun w' J=>ld bW aa<|Wk.aM J<|zw (j:=i2) (rG G) ab) A<|bT 4 aa (.slice (eh c cp i 1) (n - i)<|cp - i) A<|bT 5 aa (aj i2) A<|aR 6 aa (fun _ _=>c6 ((i2 - 1:Nat):Int) aa aa<|bf ab ab) A<|aR 7 aa (fun _ _=>a7 bI aa aa ab<|aG.ok (rG G)<|zx ab) A<|aR 8 aa (fun w' J=>ld bW aa<|Wk.aM J<|zw (j:=i2 - 1) (rG G) ab) A<|aR 9 aa (fun _ _=>gu aa aa) A<|hn ag<|an<|cd aa (fun a2=> ?_) fun a2=> ?_
 have al:=a8 G A
 have g1:=uY O (show k≤i+i2 by omega)
 have g2:=uY O (show k≤i+(i2 - 1) by omega)
 have a9:¬d[i+i2 - 1]! =d[i+i2]! :=by rw [show i+i2 - 1=i+(i2 - 1) by omega,← g1,← g2]; omega
 exact ak fun aK=>ao (.slice c n cp)<|ao (aj k)<|ao (.slice (eh c cp i 1) (n - i)<|cp - i)<|ao (aj i2)<|p (a7 bI aa aa ab<|aG.ok (rG al)<|zx ab)<|p (ld bW aa<|zw (j:=i2) (rG al) ab)<|p (a7 bI aa aa ab<|aG.ok ((aU al).2)<|bL ab)<|e<|e7 (u:=E[i+i2]!) (k) al eZ aa aa aa ab fun bu aW bd=>nl<|aK<|rg aa<|ao (aj k)<|p (bG ((k+1:Nat):Int) aa aa<|bf ab ab)<|p aC<|nl<|bn<|ai<|rg aa<|ao (aj i2)<|p (bG ((i2+1:Nat):Int) aa aa<|bf ab ab)<|p aC<|nl<|tn<|⟨_,ab,k+1,i2+1,E.setIfInBounds k E[i+i2]!,ab,(by rw [set_drop ab]; have h3:=congrArg (List.drop 1) O; rwa [tR,tR] at h3),(by rw [As ab,ac,show i+(i2+1)=i+i2+1 from aa,uV ab ab,if_neg a9,g1]),bd,(Md.trans av<|Md.trans (A.mono fun _ _ h=>h.elim) aW),aa,aa,aa,aa,aa⟩
 have g1:=uY O (show k≤i+i2 by omega)
 have g2:=uY O (show k≤i+(i2 - 1) by omega)
 have a4:d[i+i2 - 1]! =d[i+i2]! :=by rw [show i+i2 - 1=i+(i2 - 1) by omega,← g1,← g2]; omega
 exact aQ<|bn<|ai<|rg aa<|ao (aj i2)<|p (bG ((i2+1:Nat):Int) aa aa<|bf ab ab)<|p aC<|nl<|tn<|⟨_,ab,k,i2+1,E,ab,O,(by rw [ac,show i+(i2+1)=i+i2+1 from aa,uV ab ab,if_pos a4]),(a8 G (Md.refl _ _).drew),av.drew,aa,aa,aa,aa,aa⟩
 refine ext<|bc<|bc<|be<|aF<|ak fun ai=>ao (.slice c n cp)<|ao (aj k)<|p (qi bI aa aa ab)<|e<|C7 (k:=k) nA Wn aa G aa aa ab fun bv aY bg=>nl<|ai<|ak fun an=>ao (.slice c n cp)<|ao (aj k)<|p (qh bI aa aa ab)<|aw<|an<|rt<|br<|tr<|tr<|br<|tr<|a6 aa ?_
 have am:d.toList.take (i+i2)=d.toList:=eN<|by rw [rJ]; omega
 rw [am] at ac
 have a5:k=(gk d.toList).length:=by rw [← ac,dB,rJ]; omega
 refine ⟨k,aa,a5,?_,Md.trans av aY⟩
 have aA:=Ag bg (show k≤n by omega)<|Ae hO ab
 rw [Nat.mul_one,List.take_append,eN (l:=(LE aT E).take k) (by rw [dB]; omega),dB,oV,show k - min k E.size=0 by omega,oC,eM,U0,ac] at aA
 exact aA
 have bb:¬d[i - 1]! =d[i]! :=ab
 exact aQ<|bn<|aq<|rg aa<|ao (aj i)<|p (ad aa aa<|cH ab)<|p aC<|nl<|tn<|⟨_,ab,i+1,ab,(by rw [uV ab ab,if_neg bb,Z,wx ab]),(Md.trans I (Md.refl _ _).drew),aa,aa,aa⟩
 refine ext<|bc<|bc<|be<|ap<|ak fun aq=>ao (.slice c n cp)<|p (bV (.slice c n cp) aa)<|nl<|aq<|rt<|a6 aa ?_
 rw [show d.toList.take i=d.toList from eN (by rw [rJ]; omega)] at Z
 exact ⟨n,aa,by rw [Z,rJ]; omega,by rw [Z]; exact a8 hO I,I.mono fun _ _ h=>h.elim⟩
theorem F1 (l:List Nat) (a:Option Addr) (c:Nat) (w:World) (Z:aG w.heap a (l.map aT)) (al:a=none→l.length=0) (am:l.length≤255):
 ba au 206 (aX [.slice a l.length c]) w (fun v w'=>bm w' w.heap.size 95 1 v (ku l).length ((ku l).map aT)∧Wk w w'):=by
 refine enter func206 aa ntmps206 aa<|ak fun J=>aw<|J<|ak fun O=>ao (.slice a l.length c)<|e<|cl qR (qU a l.length c (l.map aT) _ Z (by simp) al (qM l) ab) aa fun v5 ax ah=> ?_
 obtain ⟨E,ac⟩:=ah
 obtain ⟨A,C,rfl⟩:=cQ E
 rw [RA] at E
 refine aw<|O<|ak fun V=>ao (.slice A l.length C)<|e<|cl KY (Uk l.toArray w.heap.size l.length C A _ E am) aa fun av ay ai=> ?_
 obtain ⟨d1,rfl,an,ap,G,ae⟩:=ai
 refine nl<|V<|ak fun Y=>ao (.slice A l.length C)<|e<|cl KZ (MU d1 w.heap.size l.length C A _ G ab) aa fun v9 aq aj=> ?_
 obtain ⟨k,rfl,hk,I,ag⟩:=aj
 have ad:Wk w aq:=Wk.own (Wk.own ac E ae<|cw _) G ag<|cw _
 refine aw<|Y<|rt<|a6 aa ?_
 rw [Uj an ap] at hk I
 exact ⟨by rw [← hk]; exact I,ad⟩
theorem Au (b:UInt8) (w:World):
 ba au 265 (aX [.int .u8 b.toNat]) w (fun v w'=>v= .bool (hZ b)∧Wk w w'):=by
 refine enter func265 aa ntmps265 aa<|ak fun A=>aw<|A<|ak fun c=>ao (.int .u8 b.toNat)<|p (gt aa aa)<|p mv<|gs (t:=5) aa (fun G=> ?_) fun G=> ?_
 refine aK aa (aH (.int .u8 b.toNat) aa)<|aK aa (lt aa aa)<|p (bN aa)<|p mv<|gs (t:=9) aa (fun I=> ?_) fun I=> ?_
 refine aK aa (aH (.int .u8 b.toNat) aa)<|aK aa (gu aa aa)<|p (bN aa)<|p mv<|gs (t:=13) aa (fun C=> ?_) fun C=> ?_
 refine aK aa (aH (.int .u8 b.toNat) aa)<|aK aa (gu aa aa)<|p (bN aa)<|p mv<|gs (t:=17) aa (fun E=> ?_) fun E=> ?_
 exact aK aa (aH (.int .u8 b.toNat) aa)<|aK aa (gu aa aa)<|p (bN aa)<|aw<|c<|rt<|a6 aa<|⟨by show bO (decide _)=_; rw [tk]; exact bv (by constructor <;> intro h <;> first | exact ⟨ab,ab,ab,ab,h⟩ | exact h.2.2.2.2),Md.refl _ _⟩
 exact aJ aa<|aJ aa<|p (bH aa)<|aw<|c<|rt<|a6 aa<|⟨by show bO false =_; rw [tk,decide_eq_false ab],Md.refl _ _⟩
 exact aJ aa<|aJ aa<|p (bH aa)<|p mv<|aJ aa<|aJ aa<|p (bH aa)<|p aC<|nl<|c<|rt<|a6 aa<|⟨by show bO false =_; rw [tk,decide_eq_false ab],Md.refl _ _⟩
 exact aJ aa<|aJ aa<|p (bH aa)<|p mv<|aJ aa<|aJ aa<|p (bH aa)<|p mv<|aJ aa<|aJ aa<|p (bH aa)<|aw<|c<|rt<|a6 aa<|⟨by show bO false =_; rw [tk,decide_eq_false ab],Md.refl _ _⟩
 exact aJ aa<|aJ aa<|p (bH aa)<|p mv<|aJ aa<|aJ aa<|p (bH aa)<|p mv<|aJ aa<|aJ aa<|p (bH aa)<|p mv<|aJ aa<|aJ aa<|p (bH aa)<|p aC<|nl<|c<|rt<|a6 aa<|⟨by show bO false =_; rw [tk,decide_eq_false ab],Md.refl _ _⟩
theorem Fa (k:Nat) (w:World):
 ba au 236 (aX [aj k]) w (fun v w'=>v= .bool (decide (1≤k∧k≤3))∧Wk w w'):=by
 refine enter func236 aa ntmps236 aa<|ak fun A=>aw<|A<|ak fun c=>ao (aj k)<|p (ge aa aa)<|p mv<|gs (t:=5) aa (fun C=> ?_) fun C=> ?_
 exact aK aa (aH (aj k) aa)<|aK aa (le aa aa)<|p (bN aa)<|aw<|c<|rt<|a6 aa<|⟨by show bO (decide _)=_; exact bv ab,Md.refl _ _⟩
 exact aJ aa<|aJ aa<|p (bH aa)<|aw<|c<|rt<|a6 aa<|⟨by show bO false =_; rw [decide_eq_false ab],Md.refl _ _⟩
end Go.Hb.eI
section
namespace Go.Hb
open Go.Hb.eI
theorem O9 {kind:Nat} {s:List UInt8} (h:kind=1∧s.length=1∧hZ (s.getD 0 0)=true):eD kind s=(s.getD 0 0).toNat:=by unfold eD; rw [if_pos h.1,if_pos h.2]
theorem Pa {kind:Nat} {s:List UInt8} (h:kind=2∧s.length=2∧hZ (s.getD 0 0)=true∧hZ (s.getD 1 0)=true):eD kind s=256 *(s.getD 0 0).toNat+(s.getD 1 0).toNat:=by unfold eD; rw [if_neg ab,if_pos h.1,if_pos h.2]
theorem Pb {kind:Nat} {s:List UInt8} (h:kind=3):eD kind s=(fj s 65535).1:=by unfold eD; rw [if_neg ab,if_neg ab]
theorem O8 {kind:Nat} {s:List UInt8} (h:kind=1∨kind=2) (h1:¬(kind=1∧s.length=1∧hZ (s.getD 0 0)=true)) (h2:¬(kind=2∧s.length=2∧hZ (s.getD 0 0)=true∧hZ (s.getD 1 0)=true)):eD kind s=0:=by
 unfold eD
 rcases h with h | h
 · rw [if_pos h,if_neg (fun h3=>h1 ⟨h,h3⟩)]
 · rw [if_neg ab,if_pos h,if_neg (fun h3=>h2 ⟨h,h3⟩)]
theorem QH {c:UInt8} {l:List UInt8} (h:0 < l.count c):¬eb c l < 0:=by
 intro h1
 exact E5 h1<|List.idxOf_lt_length_iff.2<|xz.1 h
theorem Tu (n:Nat) (x:List UInt8):iY n (str x)=(iY n x).map str:=by rw [List.map_replicate]
theorem GA {c:List (List UInt8)} {m:Nat} {x:List UInt8} (h:0 < m):((c++iY m []).map str).set c.length (str x)=((c++ [x])++iY (m - 1) []).map str:=by
 obtain ⟨m,rfl⟩:∃ k,m=k+1:=⟨m - 1,ab⟩
 rw [← List.map_set,List.set_append_right _ _ (cw _),Nat.sub_self,List.replicate_succ,List.set_cons_zero,Nat.add_sub_cancel,ib]; rfl
theorem OL {kind:Nat} {ps:List (List UInt8)} {i:Nat} (h:i < ps.length) (h1:¬∃ x∈ps.take i,eD kind x=0) (h2:eD kind (ps.getD i [])≠0):¬∃ x∈ps.take (i+1),eD kind x=0:=by
 rw [kT ps i [] h]
 rintro ⟨x,c,h3⟩
 rcases List.mem_append.1 c with c | c
 · exact h1 ⟨x,c,h3⟩
 · rw [List.mem_singleton] at c; subst c; exact h2 h3
theorem EG {α:Type} {l:List α} {i:Nat} {d:α} (h:i < l.length):l.getD i d∈l:=by
 rw [cM,bZ h]; exact List.getElem_mem h
theorem D8 (kind:Nat) (s:List UInt8) (w:World) (hk:kind=1∨kind=2∨kind=3) (hs:s.length≤1048576):
 ba au 238 (aX [aj kind,str s]) w (fun v w'=>v=aT (eD kind s)∧Wk w w'):=by
 refine enter func238 aa ntmps238 aa<|ak fun am=>aw<|am<|az fun an=>aE ?_
 refine eV (fun G al=> ∃ (O:Bool),(O=decide (kind=1∧s.length=1∧hZ (s.getD 0 0)=true))∧(Wk w al)∧(G 0=aj kind)∧(G 1=str s)∧(G 7= .bool O)) ?_ ?_
 refine rg aa<|ao (aj kind)<|p (cg aa aa)<|p mv<|gs (t:=10) aa (fun aI=> ?_) fun aI=> ?_
 refine aK aa (aH (str s) aa)<|aK aa (dv u9 aa aa)<|aK aa (cg aa aa)<|p (bN aa)<|p mv<|gs (t:=15) aa (fun aL=> ?_) fun aL=> ?_
 refine aK aa (aH (str s) aa)<|aK aa (mE 0 u9 aa aa ab)<|eg aa aa aa<|cl yn (Au (s.getD 0 0) _) aa fun aZ a1 aA=> ?_
 obtain ⟨rfl,aq⟩:=aA
 exact p (bN aa)<|p aC<|nl<|tn<|⟨hZ (s.getD 0 0),(by rw [pc,decide_eq_true_iff]; exact ⟨fun h=>⟨ab,ab,h⟩,fun h=>h.2.2⟩),aq,aa,aa,aa⟩
 exact aJ aa<|aJ aa<|aJ aa<|p (bH aa)<|p aC<|nl<|tn<|⟨false,((decide_eq_false fun h=>by omega).symm),(Md.refl _ _),aa,aa,aa⟩
 exact aJ aa<|aJ aa<|aJ aa<|p (bH aa)<|p mv<|aJ aa<|aJ aa<|aJ aa<|p (bH aa)<|p aC<|nl<|tn<|⟨false,((decide_eq_false fun h=>by omega).symm),(Md.refl _ _),aa,aa,aa⟩
 rintro G al ⟨O,ah,A,aO,aP,aS⟩
 refine fx 0 aO<|fx 1 aP<|fx 7 aS<|cb aa (fun Z=> ?_) fun Z=> ?_
 have ac:kind=1∧s.length=1∧hZ (s.getD 0 0)=true :=of_decide_eq_true<|ah ▸ Z
 exact ak fun C=>ao (str s)<|p (mE 0 u9 aa aa ab)<|p (nj wO tA aa<|rR<|by have :=ji (s.getD 0 0); omega)<|aw<|C<|rt<|br<|tr<|a6 aa<|⟨by rw [O9 ac]; rfl,A⟩
 have ac:¬(kind=1∧s.length=1∧hZ (s.getD 0 0)=true):=of_decide_eq_false<|ah ▸ Z
 refine eV (fun I wB=> ∃ (V:Bool),(V=decide (kind=2∧s.length=2∧hZ (s.getD 0 0)=true∧hZ (s.getD 1 0)=true))∧(Wk w wB)∧(I 0=aj kind)∧(I 1=str s)∧(I 23= .bool V)) ?_ ?_
 refine rg aa<|ao (aj kind)<|p (cg aa aa)<|p mv<|gs (t:=26) aa (fun aM=> ?_) fun aM=> ?_
 refine aK aa (aH (str s) aa)<|aK aa (dv u9 aa aa)<|aK aa (cg aa aa)<|p (bN aa)<|p mv<|gs (t:=31) aa (fun aN=> ?_) fun aN=> ?_
 refine aK aa (aH (str s) aa)<|aK aa (mE 0 u9 aa aa ab)<|eg aa aa aa<|cl yn (Au (s.getD 0 0) _) aa fun a0 a2 aB=> ?_
 obtain ⟨rfl,ae⟩:=aB
 refine p (bN aa)<|p mv<|gb (t:=36) aa (fun E=> ?_) fun E=> ?_
 refine aK aa (aH (str s) aa)<|aK aa (mE 1 u9 aa aa ab)<|eg aa aa aa<|cl yn (Au (s.getD 1 0) _) aa fun v39 a3 aD=> ?_
 obtain ⟨rfl,av⟩:=aD
 exact p (bN aa)<|p aC<|nl<|tn<|⟨hZ (s.getD 1 0),(by rw [pc,decide_eq_true_iff]; exact ⟨fun h=>⟨ab,ab,E,h⟩,fun h=>h.2.2.2⟩),(Md.trans A<|Md.trans ae av),aa,aa,aa⟩
 exact aJ aa<|aJ aa<|aJ aa<|p (bH aa)<|p aC<|nl<|tn<|⟨false,((decide_eq_false fun h=>by rw [h.2.2.1] at E; cases E).symm),(Md.trans A ae),aa,aa,aa⟩
 exact aJ aa<|aJ aa<|aJ aa<|p (bH aa)<|p mv<|aJ aa<|aJ aa<|aJ aa<|p (bH aa)<|p aC<|nl<|tn<|⟨false,((decide_eq_false fun h=>by omega).symm),A,aa,aa,aa⟩
 exact aJ aa<|aJ aa<|aJ aa<|p (bH aa)<|p mv<|aJ aa<|aJ aa<|aJ aa<|p (bH aa)<|p mv<|aJ aa<|aJ aa<|aJ aa<|p (bH aa)<|p aC<|nl<|tn<|⟨false,((decide_eq_false fun h=>by omega).symm),A,aa,aa,aa⟩
 rintro I wB ⟨V,ai,A,aU,aV,aW⟩
 refine fx 0 aU<|fx 1 aV<|fx 23 aW<|cb aa (fun Y=> ?_) fun Y=> ?_
 have ad:kind=2∧s.length=2∧hZ (s.getD 0 0)=true∧hZ (s.getD 1 0)=true :=of_decide_eq_true<|ai ▸ Y
 have g0:=ji<|s.getD 0 0
 have g1:=ji<|s.getD 1 0
 refine az fun C=> ?_
 have c:(fun w'=>Wk wB w') wB.drew:=(Md.refl _ _).drew
 exact cD (fun w'=>Wk wB w') aa wide c<|bT 0 aa (str s) c<|aR 1 aa (fun _ _=>mE 0 u9 aa aa ab) c<|aR 2 aa (fun _ _=>nj wO tA aa<|rR ab) c<|aR 3 aa (fun _ _=>shl aa aa ay<|T5 g0) c<|bT 4 aa (str s) c<|aR 5 aa (fun _ _=>mE 1 u9 aa aa ab) c<|aR 6 aa (fun _ _=>nj wO tA aa<|rR ab) c<|aR 7 aa (fun _ _=>B9 aa aa<|Sv g0 g1) c<|aR 8 aa (fun _ _=>aC) c<|hn ag<|C<|rt<|br<|tr<|a6 aa<|⟨by rw [Pa ad]; rfl,A.drew⟩
 have ad:¬(kind=2∧s.length=2∧hZ (s.getD 0 0)=true∧hZ (s.getD 1 0)=true):=of_decide_eq_false<|ai ▸ Y
 refine ak fun C=>ao (aj kind)<|p (cg aa aa)<|aw<|C<|cd aa (fun aG=> ?_) fun aG=> ?_
 refine ak fun J=>ao (str s)<|e<|cl uG (vI s 65535 _ hs ay) aa fun v54 a4 aF=> ?_
 obtain ⟨rfl,ax⟩:=aF
 have aY:=Se s
 exact p mv<|p (xt aa aa)<|p (xt aa aa)<|p aC<|aw<|J<|az fun ap=>rg aa<|p mv<|p (nj wO rM aa<|rR ab)<|aw<|ap<|rt<|br<|tr<|a6 aa<|⟨by rw [Pb ab]; rfl,Md.trans A ax⟩
 exact aQ<|bn<|an<|ak fun J=>aw<|J<|rt<|a6 aa<|⟨by rw [O8 ab ac ad]; rfl,A⟩
theorem Sr (kind:Nat) (s:List UInt8) (w:World) (hk:kind=1∨kind=2∨kind=3) (hs:s.length≤1048576):
 ba au 233 (aX [aj kind,str s]) w (fun v w'=>v= .tuple #[aT (iu kind s).1,aj ((iu kind s).2)]∧Wk w w'):=by
 refine enter func233 aa ntmps233 aa<|ak fun E=>p aC<|aw<|E<|az fun G=>az fun I=>rg aa<|ao (aj kind)<|e<|cl CC (Fa kind _) aa fun ad ag Z=> ?_
 obtain ⟨rfl,C⟩:=Z
 refine p (no aa)<|nl<|I<|cf (by rw [decide_eq_true ab]; rfl)<|aQ<|G<|ak fun J=>ao (aj kind)<|ao (str s)<|e<|cl CD (D8 kind s _ hk hs) aa fun v12 ae Y=> ?_
 obtain ⟨rfl,A⟩:=Y
 refine aw<|J<|az fun O=>ak fun V=>p mv<|p (cg aa aa)<|nl<|V<|cd aa (fun ac=> ?_) fun ac=> ?_
 exact ak fun c=>p aC<|aw<|c<|rt<|tr<|f2 aa aa aa<|⟨by unfold iu; rw [if_pos (show eD kind s=0 by omega)]; rfl,Md.trans C A⟩
 exact aQ<|O<|ak fun c=>p mv<|p aC<|p aC<|nl<|c<|rt<|f2 aa aa aa<|⟨by unfold iu; rw [if_neg (show ¬eD kind s=0 by omega)]; rfl,Md.trans C A⟩
theorem M7 (s:List UInt8) (c:UInt8) (w:World):
 ba au 298 (aX [str s,str [c]]) w (fun v w'=>v=aj (s.count c)∧Wk w w'):=by
 refine enter func298 aa ntmps298 aa<|ak fun A=>aw<|A<|az fun C=>ak fun E=>ao (str [c])<|p (dv u9 aa aa)<|p (cg aa aa)<|nl<|E<|cd aa (fun h=>absurd h<|by simp) fun V=>aQ<|C<|az fun J=>ak fun G=>ao (str [c])<|p (dv u9 aa aa)<|p (cg aa aa)<|nl<|G<|cd aa (fun O=> ?_) fun h=>absurd aa h
 exact ak fun I=>ao (str s)<|ao (str [c])<|p (mE 0 u9 aa aa<|by simp)<|p (Dc (MR s c _) aa)<|p aC<|nl<|I<|rt<|tr<|a6 aa<|⟨aa,Md.refl _ _⟩
theorem PH (s:List UInt8) (w:World) (hs:s.length≤1048576):
 ba au 280 (aX [str s,str [44],.int .i64 0,.int .i64 (-1)]) w (fun v w'=>bm w' w.heap.size 9 1 (v) (gJ 44 [] s).length ((gJ 44 [] s).map str)∧Wk w w'):=by
 have bl:=r4 (a:=(44:UInt8)) (l:=s)
 have bb:=AB 44 s []
 refine enter func280 aa ntmps280 aa<|ak fun ai=>aw<|ai<|az fun aB=>ak fun aD=>ao (.int .i64<|-1)<|p (cg aa aa)<|nl<|aD<|cd aa (fun h=>absurd h ay) fun bi=>aQ<|aB<|az fun aF=>ak fun aH=>ao (str [44])<|p (iS aa aa)<|nl<|aH<|cd aa (fun h=>absurd h<|by simp) fun bj=> ?_
 refine aQ<|aF<|az fun aI=>ak fun aJ=>ao (.int .i64<|-1)<|p (lt aa aa)<|nl<|aJ<|cd aa (fun bk=> ?_) fun h=>absurd ay h
 refine rg aa<|ao (str s)<|ao (str [44])<|e<|cl Lp (M7 s 44 _) aa fun v23 br aS=> ?_
 obtain ⟨rfl,ad⟩:=aS
 refine p (bG ((s.count 44 +1:Nat):Int) aa aa<|bf ab ab)<|aw<|aI<|ak fun aK=>p mv<|ao (str s)<|p (dv u9 aa aa)<|p (bG ((s.length+1:Nat):Int) aa aa<|bf ab ab)<|p (mn aa aa)<|aw<|aK<|ak fun aL=>p mv<|e<|RU (n:=s.count 44 +1) (zv:=str []) jP Wf aa (show ff .i64 (min ((s.count 44 +1:Nat):Int) ((s.length+1:Nat):Int))=_ from iv ab) (show ff .i64 (min ((s.count 44 +1:Nat):Int) ((s.length+1:Nat):Int))=_ from iv ab) ab (by unfold maxLen; omega) fun G bs bh aR aZ=> ?_
 have ae:=aZ w.heap.size<|by have :=ad.size; omega
 rw [Tu] at ae
 refine aw<|aL<|ak fun al=>p mv<|p (c6 ((s.count 44:Nat):Int) aa aa<|bf ab ab)<|p aC<|nl<|al<|ak fun am=>aw<|am<|az fun an=>aE<|lp (fun Z A Y=> ∃ (i:Nat) (C:List (List UInt8)) (r:List UInt8),(C.length=i)∧(r.count 44 +i=s.count 44∧r.length≤s.length)∧(C++gJ 44 [] r=gJ 44 [] s)∧(bm Y w.heap.size 9 1 (.slice (some ⟨G,0,none⟩) (s.count 44 +1)<|s.count 44 +1) (s.count 44 +1)<|(C++iY (s.count 44 +1 - i) []).map str)∧(Wk w Y)∧(A 0=str r)∧(A 1=str [44])∧(A 2= .int .i64 0)∧(A 3=aj (s.count 44))∧(A 9= .slice (some ⟨G,0,none⟩) (s.count 44 +1) (s.count 44 +1))∧(A 10=aj i)∧(r.length=Z)) _ ⟨0,[],s,aa,(ab),aa,ae,(Md.trans ad aR.md),aa,aa,aa,aa,aa,aa,aa⟩ ?_
 rintro Z A Y ⟨i,C,r,hi,bp,hd,E,ac,a1,a2,a4,a5,a9,a3,rfl⟩
 refine fx 0 a1<|fx 1 a2<|fx 2 a4<|fx 3 a5<|fx 9 a9<|fx 10 a3 ?_
 have bq:=r4 (a:=(44:UInt8)) (l:=r)
 refine az fun ap=>ak fun aq=>ao (aj i)<|ao (aj<|s.count 44)<|p (lt aa aa)<|nl<|aq<|cd aa (fun aV=> ?_) fun aV=> ?_
 refine aQ<|ap<|aE<|ak fun J=>ao (str r)<|ao (str [44])<|e<|cl Lq (Qw r 44 _) aa fun v39 bt aT=> ?_
 obtain ⟨rfl,I⟩:=aT
 refine aw<|J<|az fun O=>ak fun av=>p mv<|p (lt aa aa)<|nl<|av<|cd aa (fun h=>absurd h<|QH ab) fun aW=>aQ<|O<|az fun ax=> ?_
 have ag:=rj (c:=(44:UInt8)) (l:=r) aW
 have bo:[(44:UInt8)].length=1:=rfl
 refine rg aa<|ao (.slice (some ⟨G,0,none⟩) (s.count 44 +1)<|s.count 44 +1)<|ao (aj i)<|ao (str r)<|p mv<|ao (.int .i64 0)<|p (bG ((r.idxOf 44:Nat):Int) aa aa<|bf ab ab)<|p (rC u9 aa aa ab)<|p (a7 c8 aa aa ab<|aG.ok ((aU<|a8 E I).2)<|cX<|by rw [bK,mU]; omega)<|e<|rE (j:=i) (u:=str<|r.take<|r.idxOf 44) (a8 E I) oP aa aa aa ab ab fun bd aO ah=> ?_
 have aM:Wk w bd:=Wk.own (Md.trans ac I) (a8 E I) aO<|cw _
 rw [← hi,GA ab,hi] at ah
 exact nl<|ax<|ak fun aA=>ao (str r)<|p mv<|ao (str [44])<|p (dv u9 aa aa)<|p (bG ((r.idxOf 44 +1:Nat):Int) aa aa<|bf ab ab)<|p (oo u9 aa aa ab)<|aw<|aA<|rg aa<|ao (aj i)<|p (bG ((i+1:Nat):Int) aa aa<|bf ab ab)<|p aC<|nl<|bn<|tn<|⟨_,by rw [gy]; omega,i+1,C++ [r.take (r.idxOf 44)],r.drop (r.idxOf 44 +1),(by rw [bK,hi]; rfl),(by have :=Nn ag.2; rw [gy]; omega),(by rw [ib,← hd,GM 44 r [] ag.2]; rfl),(by rw [show s.count 44 +1 - (i+1)=s.count 44 +1 - i - 1 by omega]; exact ah),aM,aa,aa,aa,aa,aa,aa,aa⟩
 refine ext<|bc<|bc<|be<|an<|ak fun J=>ao (.slice (some ⟨G,0,none⟩) (s.count 44 +1)<|s.count 44 +1)<|ao (aj i)<|ao (str r)<|p (a7 c8 aa aa ab<|aG.ok ((aU E).2)<|cX<|by rw [bK,mU]; omega)<|e<|rE (j:=i) (u:=str r) E oP aa aa aa ab ab fun bg aP V=> ?_
 have aN:Wk w bg:=Wk.own ac E aP<|cw _
 rw [← hi,GA ab,hi] at V
 refine nl<|J<|ak fun O=>ao (.slice (some ⟨G,0,none⟩) (s.count 44 +1)<|s.count 44 +1)<|ao (aj i)<|p (bG ((i+1:Nat):Int) aa aa<|bf ab ab)<|p (qh c8 aa aa ab)<|aw<|O<|rt<|a6 aa ?_
 have a0:¬(44:UInt8)∈r:=fun h=>by have :=xz.2 h; omega
 have aY:C++ [r]=gJ 44 [] s:=by rw [← hd,Uq 44 r [] a0]; rfl
 rw [show s.count 44 +1 - i - 1=0 by omega,List.replicate_zero,eM,aY] at V
 exact ⟨by rw [bb,show s.count 44 +1=i+1 by omega] at*; exact V,aN⟩
theorem UM (s:List UInt8) (w:World) (hs:s.length≤1048576):
 ba au 264 (aX [str s,str [44]]) w (fun v w'=>bm w' w.heap.size 9 1 (v) (gJ 44 [] s).length ((gJ 44 [] s).map str)∧Wk w w'):=by
 exact enter func264 aa ntmps264 aa<|ak fun c=>aw<|c<|ak fun A=>ao (str s)<|ao (str [44])<|e<|cl Le (PH s _ hs) aa fun E G C=>aw<|A<|rt<|a6 aa<|C
theorem S2 (kind:Nat) (s:List UInt8) (w:World) (hk:kind=1∨kind=2∨kind=3) (hs:s.length≤1048576):
 ba au 237 (aX [aj kind,str s]) w (fun v w'=>bm w' w.heap.size 9 1 (v) (ee kind s).length ((ee kind s).map str)∧Wk w w'):=by
 refine enter func237 aa ntmps237 aa<|ak fun ad=>aw<|ad<|az fun ae=>ak fun ag=>ao (aj kind)<|p (cg aa aa)<|nl<|ag<|cd aa (fun aA=> ?_) fun aA=> ?_
 refine ak fun E=>ao (str s)<|e<|cl Lc (UM s _ hs) aa fun v10 aS ax=>aw<|E<|rt<|tr<|a6 aa ?_
 unfold ee; rw [if_pos ab]; exact ax
 refine aQ<|ae<|ak fun E=>aw<|E<|az fun ah=>ak fun ai=>aw<|ai<|aE<|lp (fun V C O=> ∃ (i:Nat) (c:List (List UInt8)) (A:Value),(i≤s.length+kind∧c.length≤i)∧(c++chunks kind (s.drop i)=chunks kind s)∧(bm O w.heap.size 9 1 (A) (c).length<|(c).map str)∧(Wk w O)∧(C 0=aj kind)∧(C 1=str s)∧(C 5=A)∧(C 6=aj i)∧(s.length - i=V)) _ ⟨0,[],.slice none 0 0,(by simp),aa,(dM _ _ _ _),(Md.refl _ _),aa,aa,aa,aa,aa⟩ ?_
 rintro V C O ⟨i,c,A,hi,hd,J,Y,aH,aI,aJ,aK,rfl⟩
 refine fx 0 aH<|fx 1 aI<|fx 5 aJ<|fx 6 aK<|az fun al=>ak fun am=>ao (aj i)<|ao (str s)<|p (dv u9 aa aa)<|p (lt aa aa)<|nl<|am<|cd aa (fun ay=> ?_) fun ay=> ?_
 have aD:s.drop i≠[]:=fun h=>by have :=congrArg mg h; rw [gy,List.length_nil] at this; omega
 refine aQ<|al<|az fun G=>aE<|rg aa<|ao (A)<|ao (str s)<|ao (aj i)<|ao (aj i)<|ao (aj kind)<|p (bG ((i+kind:Nat):Int) aa aa<|bf ab ab)<|ao (str s)<|p (dv u9 aa aa)<|p (mn aa aa)<|p (tq u9 aa aa aa ab)<|e<|kG jP aa aa fun aN aM aO I an=> ?_
 have Z:Wk w aM:=Md.trans Y I.md
 refine e<|ap jP (a8 J I.md) aa (by have :=Z.size; omega) aa (aG.fO an) (aa) (aa) ab ab fun aL aT ac av aR aP=> ?_
 have aq:=Wk.own Z (a8 J I.md) av<|cw _
 rw [Ma] at ac
 have aF:=Af ac
 exact p aC<|nl<|bn<|G<|rg aa<|ao (aj i)<|ao (aj kind)<|p (bG ((i+kind:Nat):Int) aa aa<|bf ab ab)<|p aC<|nl<|tn<|⟨_,ab,i+kind,c++ [(s.drop i).take kind],aL,(by rw [bK,ic]; omega),(by rw [← hd,yu (k:=kind) ab aD,ib,tR]; rfl),aF,aq,aa,aa,aa,aa,aa⟩
 refine ext<|bc<|bc<|be<|ah<|ak fun G=>ao (A)<|p (bV (A) aa)<|nl<|G<|rt<|a6 aa ?_
 have aB:c=ee kind s:=by unfold ee; rw [if_neg ab,← hd,kX ab,yv,eM]
 exact ⟨by rw [← aB]; exact J,Y⟩
theorem Ex (kind:Nat) (s:List UInt8) (w:World) (hk:kind=1∨kind=2∨kind=3) (hs:s.length≤1048576):
 ba au 200 (aX [aj kind,str s]) w (fun v w'=>(∃ a,v= .tuple #[a,aj ((eO kind s).2)]∧bm w' w.heap.size 95 1 a (eO kind s).1.length ((eO kind s).1.map aT))∧Wk w w'):=by
 refine enter func200 aa ntmps200 aa<|ak fun aH=>p aC<|aw<|aH<|az fun aM=>az fun aN=>rg aa<|ao (aj kind)<|e<|cl CC (Fa kind _) aa fun v11 bD a5=> ?_
 obtain ⟨rfl,ax⟩:=a5
 refine p (no aa)<|nl<|aN<|cf (by rw [decide_eq_true ab]; rfl)<|aQ<|aM<|az fun aO=>az fun aP=>rg aa<|ao (str s)<|p (iS aa aa)<|nl<|aP<|cd aa (fun E=> ?_) fun E=> ?_
 exact ak fun ai=>p aC<|aw<|ai<|rt<|tr<|f2 aa aa aa<|⟨⟨.slice none 0 0,by unfold eO; rw [if_pos E]; rfl,by unfold eO; rw [if_pos E]; exact dM _ _ _ _⟩,ax⟩
 refine aQ<|aO<|ak fun ai=>aw<|ai<|az fun aR=>ak fun aS=>ao (aj kind)<|ao (str s)<|e<|cl KV (S2 kind s _ hk hs) aa fun v17 O a6=> ?_
 obtain ⟨aB,a0⟩:=a6
 obtain ⟨aW,aY,rfl⟩:=cQ aB
 have aA:=(aU aB).2
 have bB:=SZ (kind:=kind) (s:=s) ab
 have Z:Wk w O:=Md.trans ax a0
 refine p (bM e8 aa aa)<|p mv<|nl<|aS<|aE<|lp (fun av C aq=> ∃ (i:Nat) (Y:Value),(i≤(ee kind s).length)∧(¬∃ x∈(ee kind s).take i,eD kind x=0)∧(bm aq O.heap.size 95 1 Y (((ee kind s).take i).map<|eD kind).length<|(((ee kind s).take i).map<|eD kind).map aT)∧(Wk O aq)∧(C 0=aj kind)∧(C 1=str s)∧(C 6=Y)∧(C 17= .slice aW (ee kind s).length aY)∧(C 18=aj ((ee kind s).length))∧(C 19=aj i)∧((ee kind s).length - i=av)) _ ⟨0,.slice none 0 0,ab,(by rintro ⟨x,bt,_⟩; simp at bt),(dM _ _ _ _),(Md.refl _ _),aa,aa,aa,aa,aa,aa,aa⟩ ?_
 rintro av C aq ⟨i,Y,hi,I,J,A,bj,bk,bq,bl,bo,bp,rfl⟩
 refine fx 0 bj<|fx 1 bk<|fx 6 bq<|fx 17 bl<|fx 18 bo<|fx 19 bp ?_
 have bA:(((ee kind s).take i).map<|eD kind).length≤i:=by rw [eX,dB]; omega
 refine ak fun aV=>p (lt aa aa)<|nl<|aV<|az fun aI=>cd aa (fun bd=> ?_) fun bd=> ?_
 refine aQ<|aI<|az fun ag=>aE<|ak fun ah=>p (a7 c8 aa aa ab<|aG.ok (aA.wk A)<|cX ab)<|p (ld cB aa<|dt.get (i:=i) (aA.wk A) ab)<|aw<|ah<|ak fun G=>ao (aj kind)<|p mv<|e<|cl CD (D8 kind ((ee kind s).getD i []) _ hk<|by have :=S1 (kind:=kind) ab (EG (d:= []) (show i < (ee kind s).length by omega)); omega) aa fun v25 bE a9=> ?_
 obtain ⟨rfl,ac⟩:=a9
 refine aw<|G<|az fun aJ=>ak fun aK=>p mv<|p (cg aa aa)<|nl<|aK<|cd aa (fun bf=> ?_) fun bf=> ?_
 refine ak fun aL=>p aC<|aw<|aL<|rt<|tr<|br<|tr<|tr<|br<|tr<|f2 aa aa aa ?_
 have c:eO kind s=([],31):=by unfold eO; rw [if_neg E,if_pos ⟨_,EG (d:= []) (show i < (ee kind s).length by omega),ab⟩]
 exact ⟨⟨.slice none 0 0,by rw [c]; rfl,by rw [c]; exact dM _ _ _ _⟩,Md.trans Z<|Md.trans A ac⟩
 refine aQ<|aJ<|rg aa<|ao (Y)<|p mv<|e<|kG vZ aa aa fun bw bu bx am aZ=> ?_
 have ay:Wk O bu:=Md.trans (Md.trans A ac) am.md
 refine e<|ap vZ (a8 (a8 J ac) am.md) aa (by have :=ay.size; omega) aa (aG.fO aZ) (aa) (aa) ab ab fun v31 bv bh a4 bC bz=> ?_
 have a1:=Wk.own ay (a8 (a8 J ac) am.md) a4<|cw _
 have bi:bm bv O.heap.size 95 1 v31 (((ee kind s).take<|i+1).map<|eD kind).length ((((ee kind s).take<|i+1).map<|eD kind).map aT):=by
  rw [kT _ i [] ab,gA,bK,gA]; exact bh
 exact p aC<|nl<|bn<|ag<|rg aa<|p (ad aa aa<|cH ab)<|p mv<|nl<|tn<|⟨_,ab,i+1,v31,ab,(OL ab I ab),bi,a1,aa,aa,aa,aa,aa,aa,aa⟩
 refine ext<|bc<|bc<|be<|aR<|az fun ag=>az fun ah=> ?_
 obtain ⟨V,al,rfl⟩:=cQ J
 have bs:(((ee kind s).take i).map<|eD kind).length=(ee kind s).length:=by rw [eX,dB]; omega
 have ae:(ee kind s).take i=(ee kind s):=eN ab
 have bg:V=none→(((ee kind s).take i).map<|eD kind).length=0:=fun h=>by obtain ⟨a2,c2,aF,_,_,h3⟩:=Rd.kg J; simp only [Value.slice.injEq] at aF; exact h3<|aF.1 ▸ h
 refine rg aa<|ao (.slice V (((ee kind s).take i).map<|eD kind).length al)<|p (bM nA aa aa)<|p (gt aa aa)<|nl<|ah<|cd aa (fun an=> ?_) fun an=> ?_
 refine ak fun G=>p aC<|aw<|G<|rt<|tr<|f2 aa aa aa ?_
 rw [ae] at I bs
 have c:eO kind s=([],32):=by unfold eO; rw [if_neg E,if_neg I,if_pos (by rw [ae,eX] at an; omega)]
 exact ⟨⟨.slice none 0 0,by rw [c]; rfl,by rw [c]; exact dM _ _ _ _⟩,Md.trans Z A⟩
 refine aQ<|ag<|ak fun G=>ao (.slice V (((ee kind s).take i).map<|eD kind).length al)<|e<|cl Cy (F1 (((ee kind s).take i).map<|eD kind) V al _ (aU J).2 bg<|by rw [eX,dB] at*; omega) aa fun v37 bF bb=> ?_
 obtain ⟨aD,a3⟩:=bb
 refine p aC<|aw<|G<|rt<|f2 aa aa aa ?_
 rw [ae] at I aD
 have c:eO kind s=(ku ((ee kind s).map<|eD kind),0):=by unfold eO; rw [if_neg E,if_neg I,if_neg (by rw [ae,eX] at an; omega)]
 exact ⟨⟨v37,by rw [c]; rfl,by rw [c]; exact fk aD<|by have :=Z.size; have :=A.size; omega⟩,Md.trans Z<|Md.trans A a3⟩
end Go.Hb
end
namespace Go.Hb
theorem zc (b:UInt8) (w:World):
 ba au 191 (aX [.int .u8 b.toNat]) w (fun v w'=>v= .bool (p7 b)∧Wk w w'):=by
 refine enter func191 aa ntmps191 aa<|ak fun A=>aw<|A<|ak fun c=>ao (.int .u8 b.toNat)<|p (cg aa aa)<|p mv<|gs (t:=5) aa (fun C=> ?_) fun C=> ?_
 exact aJ aa<|aJ aa<|p (bN aa)<|aw<|c<|rt<|a6 aa<|⟨by show bO true =_; rw [Ez,decide_eq_true (.inl ab)],Md.refl _ _⟩
 exact aK aa (aH (.int .u8 b.toNat) aa)<|aK aa (cg aa aa)<|p (bH aa)<|aw<|c<|rt<|a6 aa<|⟨by show bO (decide ((b.toNat:Int)=9))=_; rw [Ez]; exact congrArg bO (decide_eq_decide.2 ab),Md.refl _ _⟩
theorem OR (l:List UInt8) (w:World) (bt:l.length≤1048576):
 ba au 126 (aX [str l]) w (fun v w'=>bm w' w.heap.size 9 1 v (dC [] l).length ((dC [] l).map str)∧Wk w w'):=by
 refine enter func126 aa ntmps126 aa<|ak fun aL=>aw<|aL<|ak fun aM=>p aC<|nl<|aM<|ak fun aN=>aw<|aN<|az fun aO=>ak fun aP=>ao (str l)<|p (dv u9 aa aa)<|p mv<|nl<|aP<|aE<|lp (fun aF V aB=> ∃ (i:Nat) (c:Int) (Y:List UInt8) (A:List (List UInt8)) (v:Value),(i≤l.length)∧(jV l i c Y)∧(A++dC Y (l.drop i)=(dC [] l))∧(Wk w aB)∧(bm aB w.heap.size 9 1 v (A).length<|(A).map str)∧(V 0=str l)∧(V 3=v)∧(V 4= .int .i64 c)∧(V 7= .int .i64 l.length)∧(V 8= .int .i64 i)∧(l.length - i=aF)) _ ⟨0,-1,[],[],.slice none 0 0,ab,jV.no,aa,(Md.refl _ _),(dM _ _ _ _),aa,aa,aa,aa,aa,aa⟩ ?_
 rintro aF V aB ⟨i,c,Y,A,v,hi,J,hd,ae,al,bd,bf,bg,bh,bi,rfl⟩
 refine fx 0 bd<|fx 3 bf<|fx 4 bg<|fx 7 bh<|fx 8 bi ?_
 have bq:A.length≤l.length+1:=by have h1:=congrArg mg hd; have h2:=yZ l []; rw [bK] at h1; omega
 refine ak fun aS=>p (lt aa aa)<|nl<|aS<|az fun aT=>cd aa (fun a4=> ?_) fun a4=> ?_
 refine aQ<|aT<|az fun C=>aE<|ak fun aq=>ao (.int .i64 i)<|p (bV (.int .i64 i) aa)<|nl<|aq<|aE<|ak fun O=>ao (str l)<|ao (.int .i64 i)<|p (jL u9 aa aa ab)<|e<|cl ye (zc (l.getD i 0) _) aa fun bx bj a1=> ?_
 obtain ⟨rfl,aI⟩:=a1
 have ag:Wk w bj:=Md.trans ae aI
 have bu:=ag.size
 have am:=a8 al aI
 refine p mv<|gb (t:=16) aa (fun G=> ?_) fun G=> ?_
 refine aK aa (aH (.int .i64 c) aa)<|aK aa (ge aa aa)<|p (bN aa)<|aw<|O<|cd aa (fun a2=> ?_) fun a2=> ?_
 obtain ⟨aR,ac,aA⟩:=J.pos ab
 refine ak fun I=>ao (v)<|ao (str l)<|ao (.int .i64 c)<|ao (.int .i64 i)<|p (tq u9 aa aa aa ab)<|e<|kG jP aa aa fun bk bz bo ai aU=>e<|ap jP (a8 am ai.md) aa (by have :=ai.size; omega) aa (aG.fO aU) (aa) (aa) ab ab fun v26 bA a5 aZ bv br=> ?_
 have aW:=Wk.own (Md.trans ag ai.md) (a8 am ai.md) aZ<|cw _
 have a7:=Af a5
 exact aw<|I<|rg aa<|p aC<|nl<|bn<|bn<|C<|rg aa<|p (ad aa aa<|cH ab)<|p mv<|nl<|tn<|⟨_,ab,i+1,-1,[],A++ [(l.take i).drop c.toNat],v26,ab,jV.no,(by rw [drop_cons 0 ab,Pk G aA,ac] at hd; rw [ib]; exact hd),aW,a7,aa,aa,aa,aa,aa,aa⟩
 refine ak fun I=>ao (str l)<|ao (.int .i64 i)<|p (jL u9 aa aa ab)<|e<|cl ye (zc (l.getD i 0) _) aa fun v31 aD av=> ?_
 obtain ⟨rfl,Z⟩:=av
 have ah:Wk w aD:=Md.trans ag Z
 have an:=a8 am Z
 refine p (no aa)<|p mv<|gb (t:=33) aa (fun E=> ?_) fun E=> ?_
 refine aK aa (aH (.int .i64 c) aa)<|aK aa (lt aa aa)<|p (bN aa)<|aw<|I<|cd aa (fun ax=> ?_) fun ax=> ?_
 refine rg aa<|ao (.int .i64 i)<|p (bV (.int .i64 i) aa)<|nl<|bn<|bn<|C<|rg aa<|p (ad aa aa<|cH ab)<|p mv<|nl<|tn ?_
 rw [G] at E; cases E
 refine aQ<|bn<|bn<|C<|rg aa<|p (ad aa aa<|cH ab)<|p mv<|nl<|tn ?_
 rw [G] at E; cases E
 exact aJ aa<|aJ aa<|p (bH aa)<|aw<|I<|cf aa<|aQ<|bn<|bn<|C<|rg aa<|p (ad aa aa<|cH ab)<|p mv<|nl<|tn<|⟨_,ab,i+1,c,Y,A,v,ab,(by obtain ⟨h1,h2⟩:=J.neg ab; subst h1 h2; exact jV.no),(by obtain ⟨h1,h2⟩:=J.neg ab; subst h2; rw [drop_cons 0 ab,Pj G] at hd; exact hd),ah,an,aa,aa,aa,aa,aa,aa⟩
 refine aJ aa<|aJ aa<|p (bH aa)<|aw<|O<|cf aa<|az fun I=>rg aa<|ao (str l)<|ao (.int .i64 i)<|p (jL u9 aa aa ab)<|e<|cl ye (zc (l.getD i 0) _) aa fun v31 aD av=> ?_
 obtain ⟨rfl,Z⟩:=av
 have ah:Wk w aD:=Md.trans ag Z
 have an:=a8 am Z
 refine p (no aa)<|p mv<|gb (t:=33) aa (fun E=> ?_) fun E=> ?_
 refine aK aa (aH (.int .i64 c) aa)<|aK aa (lt aa aa)<|p (bN aa)<|aw<|I<|cd aa (fun ax=> ?_) fun ax=> ?_
 exact rg aa<|ao (.int .i64 i)<|p (bV (.int .i64 i) aa)<|nl<|bn<|bn<|C<|rg aa<|p (ad aa aa<|cH ab)<|p mv<|nl<|tn<|⟨_,ab,i+1,i,[l.getD i 0],A,v,ab,(jV.begin ab),(by obtain ⟨h1,h2⟩:=J.neg ab; subst h2; rw [drop_cons 0 ab,Ef G] at hd; exact hd),ah,an,aa,aa,aa,aa,aa,aa⟩
 exact aQ<|bn<|bn<|C<|rg aa<|p (ad aa aa<|cH ab)<|p mv<|nl<|tn<|⟨_,ab,i+1,c,Y++ [l.getD i 0],A,v,ab,(J.more ab ab),(by rw [drop_cons 0 ab,Ef G] at hd; exact hd),ah,an,aa,aa,aa,aa,aa,aa⟩
 refine aJ aa<|aJ aa<|p (bH aa)<|aw<|I<|cf aa<|aQ<|bn<|bn<|C<|rg aa<|p (ad aa aa<|cH ab)<|p mv<|nl<|tn ?_
 rw [G] at E; cases E
 refine ext<|bc<|bc<|be<|aO<|az fun C=>ak fun aq=>ao (.int .i64 c)<|p (ge aa aa)<|nl<|aq<|cd aa (fun a3=> ?_) fun a3=> ?_
 obtain ⟨aR,ac,aA⟩:=J.pos ab
 refine rg aa<|ao (v)<|ao (str l)<|ao (.int .i64 c)<|p (oo u9 aa aa ab)<|e<|kG jP aa aa fun bl bB bp aj aV=>e<|ap jP (a8 al aj.md) aa (by have :=aj.size; have :=ae.size; omega) aa (aG.fO aV) (aa) (aa) ab ab fun v46 bC a9 a0 bw bs=> ?_
 have aY:=Wk.own (Md.trans ae aj.md) (a8 al aj.md) a0<|cw _
 have bb:=Af a9
 refine aw<|C<|ak fun O=>p mv<|p aC<|nl<|O<|rt<|a6 aa ?_
 have ay:A++ [l.drop c.toNat]=(dC [] l):=by rw [← hd,show l.drop i= [] from kX ab,Pl aA,ac,eN ab]
 exact ⟨by rw [← ay]; exact bb,aY⟩
 obtain ⟨aR,ac⟩:=J.neg ab
 refine aQ<|C<|ak fun O=>ao (v)<|p (bV (v) aa)<|nl<|O<|rt<|a6 aa ?_
 have ay:A=(dC [] l):=by rw [← hd,kX ab,ac,Pm,eM]
 exact ⟨by rw [← ay]; exact al,ae⟩
end Go.Hb
section
namespace Go.Hb
open Go.Hb.dV Go.Hb.eI
theorem Qk {l:List Tx} {x:Tx} :∀ {i:Nat},i < l.length→(∀ j,j < i→l.getD j []≠x)→l.getD i []=x→l.idxOf x=i:=by
 induction l with
 | nil=>intro i h; simp at h
 | cons a l E=>
   intro i hi C c
   cases i with
   | zero=>simp only [ma] at c; rw [c,List.idxOf_cons_self]
   | succ i=>
     have A:=C 0 ab
     simp only [ma] at A
     rw [List.idxOf_cons,show (a==x)=false from by simpa using A,cond_false,E (i:=i) (by simpa using hi) (fun j G=>by have :=C (j+1) ab; simpa using this) (by simpa using c)]
theorem OH {a b:List Tx} (h:a.length≠b.length):a≠b:=fun h2=>h<|by rw [h2]
theorem PL {a b:List Tx} {i:Nat} (h:a.getD i []≠b.getD i []):a≠b:=fun h2=>h<|by rw [h2]
theorem PJ {a b:List Tx} (c:a.length=b.length) (h:∀ i,i < a.length→a.getD i []=b.getD i []):a=b:=by
 apply List.ext_getElem c
 intro i h1 h2
 have :=h i h1
 rw [cM,cM,bZ h1,bZ h2] at this
 exact this
theorem UZ {s:Tx} {i:Nat} (h:i < s.length):(s.drop i).take 1= [s.getD i 0]:=by
 rw [drop_cons 0 h]; rfl
theorem Hl (b:UInt8):oq [b]=ir b:=by
 unfold oq gO
 cases h:ir b <;> simp [h]
theorem GJ {s:Tx} {i:Nat} (h:i < s.length):(s.take<|i+1).drop i= [s.getD i 0]:=by
 rw [List.drop_take,show i+1 - i=1 from by omega,UZ h]
theorem D1 {s:Tx} (h:s= []∨gO s=false):gR s=21:=if_pos h
theorem O0 {s:Tx} (h:s≠[]) (h1:gO s=true) (h2:32 < s.length):gR s=22:=by unfold gR; rw [if_neg (by rw [h1]; simp [h]),if_pos h2]
theorem O1 {s:Tx} (h:s≠[]) (h1:gO s=true) (h2:¬32 < s.length):gR s=0:=by unfold gR; rw [if_neg (by rw [h1]; simp [h]),if_neg h2]
theorem SY {s:Tx} (h:s= [48]):fJ true s= .ok []:=by unfold fJ; rw [if_pos ⟨rfl,h⟩]
theorem F7 {s:Tx} (h:s≠[48]):fJ true s=fJ false s:=by unfold fJ; simp [h]
theorem SR {s:Tx} (h:(bA s).2.2.2≠0):fJ false s= .error (bA s).2.2.2:=by unfold fJ; rw [if_neg (fun h2=>by cases h2.1),if_pos h]
theorem SS {s:Tx} (h:(bA s).2.2.2=0) (h1:(bA s).2.2.1=true):fJ false s= .error 114:=by unfold fJ; rw [if_neg (fun h2=>by cases h2.1),if_neg (fun h2=>h2 h),if_pos h1]
theorem SU {s:Tx} (h:(bA s).2.2.2=0) (h1:(bA s).2.2.1=false) (h2:gR (bA s).1≠0):fJ false s= .error (gR (bA s).1):=by unfold fJ; rw [if_neg (fun h2=>by cases h2.1),if_neg (fun h2=>h2 h),if_neg (by rw [h1]; simp),if_pos h2]
theorem SV {s:Tx} (h:(bA s).2.2.2=0) (h1:(bA s).2.2.1=false) (h2:gR (bA s).1=0):fJ false s= .ok (bA s).1:=by unfold fJ; rw [if_neg (fun h2=>by cases h2.1),if_neg (fun h2=>h2 h),if_neg (by rw [h1]; simp),if_neg (fun h3=>h3 h2)]
theorem vH {s:Tx} {most:Int} (h:(fj s most).2=0):ei s most= .ok (fj s most).1:=by unfold ei; rw [if_neg (fun h2=>h2 h)]
theorem vG {s:Tx} {most:Int} (h:(fj s most).2≠0):ei s most= .error 13∧(fj s most).2=13:=by
 refine ⟨by unfold ei; rw [if_pos h],?_⟩
 rcases FP s most with h1 | ⟨h1,_⟩
 · rw [h1]
 · rw [h1] at h; exact absurd rfl h
theorem EY (l:List Tx) (a:Option Addr) (c:Nat) (x:Tx) (w:World) (J:dt w.heap a l) (aA:l.length≤1048576):
 ba au 192 (aX [.slice a l.length c,str x]) w (fun v w'=>v= .int .i64 (if x∈l then (l.idxOf x:Nat) else -1:Int)∧w'=w):=by
 refine enter func192 aa ntmps192 aa<|ak fun Y=>aw<|Y<|az fun Z=>ak fun ac=>ao (.slice a l.length c)<|p (bM e8 aa aa)<|p mv<|nl<|ac<|aE<|lp (fun I A V=> ∃ (i:Nat),(i≤l.length)∧(∀ j,j < i→l.getD j []≠x)∧(V=w)∧(A 0= .slice a l.length c)∧(A 1=str x)∧(A 7=aj (l.length))∧(A 8=aj i)∧(l.length - i=I)) _ ⟨0,ab,(fun j O=>by omega),aa,aa,aa,aa,aa,aa⟩ ?_
 rintro I A V ⟨i,hi,G,am,ap,aq,av,ax,rfl⟩
 refine fx 0 ap<|fx 1 aq<|fx 7 av<|fx 8 ax ?_
 subst am
 refine ak fun ae=>p (lt aa aa)<|nl<|ae<|az fun ag=>cd aa (fun an=> ?_) fun an=> ?_
 refine aQ<|ag<|az fun E=>aE<|ak fun ah=>ao (aj i)<|p (bV (aj i) aa)<|nl<|ah<|ak fun ai=>ao (str x)<|ao (.slice a l.length c)<|ao (aj i)<|p (a7 c8 aa aa ab<|aG.ok (J)<|cX ab)<|p (ld cB aa<|dt.get (i:=i) J ab)<|p (iS aa aa)<|nl<|ai<|cd aa (fun C=> ?_) fun C=> ?_
 exact ak fun al=>ao (aj i)<|p (bV (aj i) aa)<|nl<|al<|rt<|br<|tr<|tr<|br<|tr<|a6 aa<|⟨by rw [if_pos (by rw [C]; exact fg ab),Qk ab G C.symm]; rfl,aa⟩
 exact aQ<|bn<|E<|rg aa<|p (ad aa aa<|cH ab)<|p mv<|nl<|tn<|⟨_,ab,i+1,ab,(fun j O=>by rcases ig j i with h | h <;> first | exact G j h | (rw [show j=i by omega]; exact fun h2=>C h2.symm)),aa,aa,aa,aa,aa,aa⟩
 exact ext<|bc<|bc<|be<|Z<|ak fun E=>p aC<|nl<|E<|rt<|a6 aa<|⟨by rw [if_neg (fun h=>by obtain ⟨j,O,ay⟩:=og [] h; exact G j ab ay)]; rfl,aa⟩
theorem OI (l m:List Tx) (C G:Nat) (a b:Option Addr) (c d:Nat) (w:World) (ae:dt w.heap a l) (ah:dt w.heap b m) (aO:l.length=C) (aP:m.length=G) (aN:C≤1048576):
 ba au 234 (aX [.slice a C c,.slice b G d]) w (fun v w'=>v= .bool (decide (l=m))∧Wk w w'):=by
 refine enter func234 aa ntmps234 aa<|ak fun am=>aw<|am<|az fun aq=>ak fun av=>ao (.slice a C c)<|p (bM e8 aa aa)<|ao (.slice b G d)<|p (bM e8 aa aa)<|p (gu aa aa)<|nl<|av<|cd aa (fun aD=> ?_) fun aD=> ?_
 exact ak fun O=>aw<|O<|rt<|tr<|a6 aa<|⟨by show bO false =_; rw [decide_eq_false (OH ab)],Md.refl _ _⟩
 have aH:l.length=m.length:=ab
 refine aQ<|aq<|az fun O=>ak fun ax=>ao (.slice a C c)<|p (bM e8 aa aa)<|p mv<|nl<|ax<|aE<|lp (fun ac J I=> ∃ (i:Nat),(i≤C)∧(∀ j,j < i→l.getD j []=m.getD j [])∧(Wk w I)∧(J 0= .slice a C c)∧(J 1= .slice b G d)∧(J 12=aj C)∧(J 13=aj i)∧(C - i=ac)) _ ⟨0,ab,(fun j ai=>by omega),(Md.refl _ _),aa,aa,aa,aa,aa⟩ ?_
 rintro ac J I ⟨i,hi,al,E,aI,aJ,aK,aL,rfl⟩
 refine fx 0 aI<|fx 1 aJ<|fx 12 aK<|fx 13 aL<|ak fun ay=>p (lt aa aa)<|nl<|ay<|az fun aA=>cd aa (fun aF=> ?_) fun aF=> ?_
 refine aQ<|aA<|az fun V=>aE<|ak fun aB=>ao (aj i)<|p (bV (aj i) aa)<|nl<|aB<|az fun an=> ?_
 have A:(fun w'=>Wk I w') I.drew:=(Md.refl _ _).drew
 refine cD (fun w'=>Wk I w') aa wide A<|bT 0 aa (.slice a C c) A<|bT 1 aa (aj i) A<|aR 2 aa (fun _ _=>a7 c8 aa aa ab<|aG.ok (ae.wk E)<|cX ab) A<|aR 3 aa (fun w' Y=>ld cB aa<|Wk.aM Y<|dt.get (i:=i) (ae.wk E) ab) A<|bT 4 aa (.slice b G d) A<|bT 5 aa (aj i) A<|aR 6 aa (fun _ _=>a7 c8 aa aa ab<|aG.ok (ah.wk E)<|cX ab) A<|aR 7 aa (fun w' Y=>ld cB aa<|Wk.aM Y<|dt.get (i:=i) (ah.wk E) ab) A<|aR 8 aa (fun _ _=>rv aa aa) A<|hn ag<|an<|cd aa (fun Z=> ?_) fun Z=> ?_
 exact ak fun ap=>aw<|ap<|rt<|br<|tr<|tr<|br<|tr<|a6 aa<|⟨by show bO false =_; rw [decide_eq_false (PL Z)],E.drew⟩
 exact aQ<|bn<|V<|rg aa<|p (ad aa aa<|cH ab)<|p mv<|nl<|tn<|⟨_,ab,i+1,ab,(fun j ai=>by rcases ig j i with h | h <;> first | exact al j h | (rw [show j=i by omega]; exact l6.1 Z)),E.drew,aa,aa,aa,aa,aa⟩
 exact ext<|bc<|bc<|be<|O<|ak fun V=>p aC<|nl<|V<|rt<|a6 aa<|⟨by show bO true =_; rw [decide_eq_true (PJ aH fun j ai=>al j ab)],E⟩
theorem nq (rb ln:Nat) (e:Int) (w:World) (E:Hb.aM w.heap rb 2=some (.int .i64 (ln:Nat))):
 ez au 135 (aX [.pointer (some ⟨rb,0,none⟩),.int .i64 e]) w (fun v w'=>v=jw #[]∧e=0∧w'=w) (fun c w'=>c=gZ 45 ln e∧e≠0∧w'=w):=by
 refine ja func135 aa ntmps135 aa<|sq fun G A=>rg aa<|p (aH (.int .i64 e) aa)<|p (gu aa aa)<|nl<|tn<|A _ _<|cd aa (fun C=> ?_) fun C=> ?_
 exact rg aa<|p (aH (.pointer<|some ⟨rb,0,none⟩) aa)<|p (nc aa)<|p (fa sS aa)<|p (ld bR aa<|E)<|p (aH (.int .i64 e) aa)<|p (c7 (ps:= [(0,.int .i64 1),(1,.int .i64 (ln:Nat)),(2,.int .i64 e)]) (L:= [.int .i64 1,.int .i64 (ln:Nat),.int .i64 e]) rD aa<|aa)<|p (RT zM aa)<|S4 aa fun J I=>⟨aa,ab,aa⟩
 refine aQ<|iG<|f0 aa ?_
 exact ⟨aa,ab,aa⟩
theorem gr (rb ln:Nat) (b:Bool) (e:Int) (w:World) (I:Hb.aM w.heap rb 2=some (.int .i64 (ln:Nat))) (he:e≠0):
 ez au 75 (aX [.pointer (some ⟨rb,0,none⟩),.bool b,.int .i64 e]) w (fun v w'=>v=jw #[]∧b=true∧w'=w) (fun c w'=>c=gZ 45 ln e∧b=false∧w'=w):=by
 refine ja func75 aa ntmps75 aa<|sq fun J E=>rg aa<|p (aH (.bool b) aa)<|p (no aa)<|nl<|tn<|E _ _<|cb aa (fun A=> ?_) fun A=> ?_
 refine rg aa<|p (aH (.pointer<|some ⟨rb,0,none⟩) aa)<|p (aH (.int .i64 e) aa)<|eP aa (cU nb (nq rb ln e w I) aa fun v10 V G=> ?_) fun c w' C Y O=>⟨C.1,by simpa using A,C.2.2⟩
 exact absurd G.2.1 he
 refine aQ<|iG<|f0 aa ?_
 exact ⟨aa,by simpa using A,aa⟩
theorem GZ (B:Nat) (H:cj) (F:aB) (R:fT) (n:Nat) (r:List Tx) (rest:List Rw) (ln:Nat) (seen:List Tx) (w:World) (c:cx w B H F R ((n,r)::rest) ln seen):
 ba au 74 (aX [aV H.rb]) w (fun v w'=>(∃ R',cx w' B H F R' rest n seen)∧Tg w' B 9 r.length v (r.map str)∧Md (fun k=>k=H.rb) w w'):=by
 obtain ⟨vr,vs,vn⟩:=R
 obtain ⟨a,cp,aH⟩:=c.rws.slice
 obtain rfl :vr= .slice a (rest.length+1) cp:=aH
 obtain ⟨q,vs,rfl⟩:∃ q G,vs=q::G:=by
  cases vs with
  | nil=>exact absurd c.rt.1<|by simp
  | cons q G=>exact ⟨q,G,rfl⟩
 obtain ⟨C,aI⟩:=q
 obtain ⟨aF,ac⟩:=c.rt.2 0 (C,aI) (n,r) rfl rfl
 obtain rfl :C=n:=aF
 obtain ⟨an,ap,rfl⟩:=ac.slice
 have ad:rest.length+1≤cp∧aG w.heap a (lE ((C,.slice an r.length ap)::vs)):=c.rws.cells
 have A:=c.cells
 have aN:H.rb < w.heap.size:=(Array.getElem?_eq_some_iff.1 A).1
 refine enter func74 aa ntmps74 aa<|ak fun ae=>aw<|ae<|ak fun ag=>ao (aV H.rb)<|p (nc aa)<|p (fa sR aa)<|p (ld qJ aa<|(bj A).trans aa)<|p (a7 q5 aa aa ab<|aG.ok (ad.2)<|vQ<|by simp)<|p (cK uv aa (aa)<|vR (i:=0) ad.2 aa)<|e<|al HC fun aK aO aL V av=> ?_
 have aD:=V.md.aE A
 refine e<|cG Dm aa aa aa aa (av) (by simp) fun aQ I aq=> ?_
 have Z:=I.aE aD fun h=>by omega
 refine nl<|ag<|ak fun ah=>ao (aV H.rb)<|ao (aV H.rb)<|p (nc aa)<|p (fa sR aa)<|p (ld qJ aa<|(bj Z).trans aa)<|p (qi q5 aa aa ab)<|p (nc aa)<|p (fa sR aa)<|e<|dQ Dl aa aa (v:= .slice (eh a cp 1 2) rest.length<|cp - 1) aa Z (by show _ < 7; decide) fun aP J ax=> ?_
 have Y:=J.B aq fun h=>by omega
 refine nl<|ah<|ak fun ai=>ao (aV H.rb)<|p (fa vo aa)<|p (ld bR aa<|(Y.aM 0).trans aa)<|p (nc aa)<|p (fa sS aa)<|e<|dQ j6 aa aa (v:=aj C) aa ax (by show _ < 7; decide) fun aJ O az=> ?_
 have aA:=O.B Y fun h=>by omega
 refine nl<|ai<|ak fun am=>p (fa sT aa)<|p (ld pL aa<|(aA.aM 1).trans aa)<|p aC<|nl<|am<|rt<|a6 aa ?_
 have E:Md (fun k=>k=H.rb) w aJ:=(((V.md.mono fun _ _ h=>h.elim).trans' I fun k hk h=>by omega).trans' J fun _ _ h=>h).trans' O fun _ _ h=>h
 exact ⟨⟨⟨.slice (eh a cp 1 2) rest.length (cp - 1),vs,vn⟩,c.dq (R':=⟨.slice (eh a cp 1 2) rest.length (cp - 1),vs,vn⟩) E az aa (c.rws.qZ (m:=2)<|(Gs _).trans<|by have :=c.rt.1; simp at this; simp [this])<|gU.tl c.rt⟩,ac.md E (gW A ay),E⟩
theorem zl (B:Nat) (H:cj) (F:aB) (R:fT) (rows:List Rw) (ln:Nat) (seen:List Tx) (hd:List Tx) (am C:Nat) (G:Option Addr) (I:Nat) (w:World) (V:cx w B H F R rows ln seen) (hH:Tg w am 9 C (.slice G C I) (hd.map str)) (Y:hd.length=C) (aZ:C≤1000) (aL:∀ q∈rows,q.2.length≤70000):
 ez au 197 (aX [.pointer (some ⟨H.rb,0,none⟩),.slice G C I]) w (fun v w'=> ∃ n r rest,rows=(n,r)::rest∧r.take hd.length=hd∧(∃ R',cx w' B H F R' rest n seen)∧Tg w' B 9 r.length v (r.map str)∧Md (fun k=>k=H.rb) w w') (fun c w'=>((rows= []∧c=gZ 45 H.eof 116)∨(∃ n r rest,rows=(n,r)::rest∧r.take hd.length≠hd∧c=gZ 45 n 116))∧Md (fun k=>k=H.rb) w w'):=by
 obtain ⟨a,cp,aN⟩:=V.rws.slice
 have ae:=V.cells
 have ag:=V.cells
 unfold ti at ae
 rw [aN] at ae
 refine ja func197 aa ntmps197 aa<|sq fun aT ax=>rg aa<|p aC<|nl<|tn<|ax _ _<|sq fun aU az=>sq fun aV aA=>rg aa<|p (aH (.pointer<|some ⟨H.rb,0,none⟩) aa)<|p (nc aa)<|p (fa sR aa)<|p (ld qJ aa<|(bj ae).trans aa)<|p (bM wz aa aa)<|p (cg aa aa)<|nl<|tn<|aA _ _<|cd aa (fun ak=> ?_) fun ak=> ?_
 obtain rfl :rows= []:=fR ab
 refine sq fun an Z=>rg aa<|p (aH (.pointer<|some ⟨H.rb,0,none⟩) aa)<|p (aH (.pointer<|some ⟨H.rb,0,none⟩) aa)<|p (nc aa)<|p (fa Ps aa)<|p (ld bR aa<|(bj ag).trans aa)<|p (nc aa)<|p (fa sS aa)<|e<|dQ j6 aa aa (v:= .int .i64 (H.eof:Nat)) aa ag (by show _ < 7; decide) fun aS aD aq=>nl<|tn<|Z _ _<|rg aa<|p (aH (.pointer<|some ⟨H.rb,0,none⟩) aa)<|eP aa (cU nb (nq H.rb H.eof 116 aS<|(bj aq).trans aa) aa fun v20 a1 aE=> ?_) fun c w' A al ai=>⟨.inl ⟨aa,A.1⟩,A.2.2 ▸ aD⟩
 exact absurd aE.2.1 ay
 obtain ⟨q,rest,rfl⟩:∃ q rest,rows=q::rest:=by
  cases rows with
  | nil=>exact absurd rfl ak
  | cons q rest=>exact ⟨q,rest,rfl⟩
 obtain ⟨n,r⟩:=q
 refine aQ<|tn<|az _ _<|sq fun an Z=>rg aa<|p (aH (.pointer<|some ⟨H.rb,0,none⟩) aa)<|e<|cl CT (GZ B H F R n r rest ln seen _ V) aa fun v22 aO aF=> ?_
 obtain ⟨⟨ap,O⟩,hT,J⟩:=aF
 obtain ⟨ar,cr,rfl⟩:=hT.slice
 have aJ:=hT.dy
 have a0:r.length≤70000:=aL (n,r)<|by simp
 have av:=hH.md J<|gW ag ay
 have aw:=av.dy
 have aY:=O.dX
 refine p aC<|nl<|tn<|Z _ _<|sq fun aW aj=>rg aa<|p (aH (.pointer<|some ⟨H.rb,0,none⟩) aa)<|p mv<|p (bM e8 aa aa)<|p (aH (.slice G C I) aa)<|p (bM e8 aa aa)<|p (ge aa aa)<|p mv<|gs (t:=29) aa (fun aK=> ?_) fun aK=> ?_
 refine pg aa aa aa mv<|pg aa aa aa (aH (.slice G C I) aa)<|pg aa aa aa (bM e8 aa aa)<|pg aa aa aa (qh c8 aa aa ab)<|pg aa aa aa (aH (.slice G C I) aa)<|eg aa aa aa<|cl KU (OI (r.take C) hd _ _ ar G cr I _ (by have :=aG.take aJ.2 C; unfold dt; rw [ID]; exact this) aw.2 (by rw [dB]; omega) Y ab) aa fun v35 aP aI=> ?_
 obtain ⟨rfl,E⟩:=aI
 refine p (bN aa)<|eP aa (cU gj (gr H.rb n _ 116 aP (by first | exact O.dX | exact Wk.aM E O.dX) ay) aa fun v37 aR ad=> ?_) fun c w' A al ai=>⟨.inr ⟨n,r,rest,aa,(by rw [Y]; first | exact of_decide_eq_false A.2.1 | exact fun h=>by have :=congrArg mg h; rw [dB] at this; omega),A.1⟩,by rw [A.2.2]; first | exact J.trans' E (fun _ _ h=>h.elim) | exact J⟩
 obtain ⟨rfl,ah,rfl⟩:=ad
 exact nl<|tn<|aj _ _<|sq fun ao ac=>rg aa<|p mv<|p aC<|nl<|tn<|ac _ _<|rt<|iG<|f1 aa aa<|⟨n,r,rest,aa,(by rw [Y]; exact of_decide_eq_true ah),⟨ap,O.wk E⟩,hT.wk E,J.trans' E fun _ _ h=>h.elim⟩
 refine sk aa aa aa aa<|sk aa aa aa aa<|sk aa aa aa aa<|sk aa aa aa aa<|sk aa aa aa aa<|sk aa aa aa aa<|p (bH aa)<|eP aa (cU gj (gr H.rb n _ 116 aO (by first | exact O.dX | exact Wk.aM E O.dX) ay) aa fun v37 aR ad=> ?_) fun c w' A al ai=>⟨.inr ⟨n,r,rest,aa,(by rw [Y]; first | exact of_decide_eq_false A.2.1 | exact fun h=>by have :=congrArg mg h; rw [dB] at this; omega),A.1⟩,by rw [A.2.2]; first | exact J.trans' E (fun _ _ h=>h.elim) | exact J⟩
 obtain ⟨rfl,ah,rfl⟩:=ad
 exact nl<|tn<|aj _ _<|sq fun ao ac=>rg aa<|p mv<|p aC<|nl<|tn<|ac _ _<|rt<|iG<|f1 aa aa<|absurd ah ay
theorem vL (rb ln:Nat) (s:Tx) (most:Int) (w:World) (Y:Hb.aM w.heap rb 2=some (.int .i64 (ln:Nat))) (hs:s.length≤1048576) (hm: -9223372036854775808≤most∧most≤9223372036854775807):
 ez au 196 (aX [.pointer (some ⟨rb,0,none⟩),str s,.int .i64 most]) w (fun v w'=> ∃ a,ei s most= .ok a∧v= .int .i64 (a:Nat)∧Wk w w') (fun c w'=> ∃ e,ei s most= .error e∧c=gZ 45 ln e∧Wk w w'):=by
 refine ja func196 aa ntmps196 aa<|sq fun ac E=>rg aa<|p aC<|nl<|tn<|E _ _<|sq fun ad G=>rg aa<|p (aH (str s) aa)<|p (aH (.int .i64 most) aa)<|e<|cl uG (vI s most _ hs hm) aa fun v12 ab O=> ?_
 obtain ⟨rfl,C⟩:=O
 refine p mv<|p (xt aa aa)<|p (xt aa aa)<|p aC<|p aC<|nl<|tn<|G _ _<|sq fun ae I=>rg aa<|p (aH (.pointer<|some ⟨rb,0,none⟩) aa)<|p mv<|eP aa (cU nb (nq rb ln (fj s most).2 ab<|Wk.aM C Y) aa fun v17 ai V=> ?_) fun c w' A aj ah=>⟨13,(vG A.2.1).1,(by rw [A.1,(vG A.2.1).2]; rfl),by rw [A.2.2]; exact C⟩
 obtain ⟨rfl,Z,rfl⟩:=V
 exact nl<|tn<|I _ _<|sq fun ag J=>rg aa<|p mv<|p aC<|nl<|tn<|J _ _<|rt<|iG<|f1 aa aa<|⟨_,vH Z,aa,C⟩
theorem Ah (rb ln:Nat) (s:Tx) (w:World) (al:Hb.aM w.heap rb 2=some (.int .i64 (ln:Nat))) (hs:s.length≤1048576):
 ez au 193 (aX [.pointer (some ⟨rb,0,none⟩),str s]) w (fun v w'=>v= .tuple #[]∧gO s=true∧Wk w w') (fun c w'=>c=gZ 45 ln 21∧gO s=false∧Wk w w'):=by
 refine ja func193 aa ntmps193 aa<|sq fun av Z=>rg aa<|p (aH (str s) aa)<|p (dv u9 aa aa)<|p mv<|nl<|tn<|Z _ _<|aE<|lp (fun I A Y=> ∃ (i:Nat),(i≤s.length)∧(∀ j,j < i→ir (s.getD j 0)=true)∧(Wk w Y)∧(A 0= .pointer (some ⟨rb,0,none⟩))∧(A 1=str s)∧(A 6= .int .i64 (s.length:Nat))∧(A 7= .int .i64 (i:Nat))∧(s.length - i=I)) _ ⟨0,ab,(fun j J=>by omega),(Md.refl _ _),aa,aa,aa,aa,aa⟩ ?_
 rintro I A Y ⟨i,hi,O,C,am,an,ao,ap,rfl⟩
 refine fx 0 am<|fx 1 an<|fx 6 ao<|fx 7 ap<|sq fun aw ac=>rg aa<|p (lt aa aa)<|nl<|tn<|ac _ _<|sq fun ax ae=>cd aa (fun ak=> ?_) fun ak=> ?_
 refine aQ<|tn<|ae _ _<|sq fun az ag=>aE<|sq fun aA ah=>rg aa<|p (aH (.int .i64 (i:Nat)) aa)<|p (bV (.int .i64 (i:Nat)) aa)<|nl<|tn<|ah _ _<|rg aa<|p (aH (.pointer<|some ⟨rb,0,none⟩) aa)<|p (aH (str s) aa)<|p (aH (.int .i64 (i:Nat)) aa)<|p (aH (.int .i64 (i:Nat)) aa)<|p (bG ((i+1:Nat):Int) aa aa<|bf ab ab)<|p (tq u9 aa aa aa ab)<|e<|cl Ck (Hn ((s.take<|i+1).drop i) _<|by rw [gy,dB]; omega) aa fun aC aq ai=> ?_
 obtain ⟨rfl,E⟩:=ai
 refine eP aa (cU gj (gr rb ln _ 21 aq (Wk.aM (C.trans E) al) ay) aa fun v17 aD aj=> ?_) fun c w' G aF aB=>⟨G.1,uD (i:=i) ab (by have h:=G.2.1; rw [GJ (by omega :i < s.length),Hl] at h; exact h),by rw [G.2.2]; exact C.trans E⟩
 obtain ⟨rfl,V,rfl⟩:=aj
 rw [GJ (by omega :i < s.length),Hl] at V
 exact nl<|bn<|tn<|ag _ _<|rg aa<|p (ad aa aa<|cH ab)<|p mv<|nl<|tn<|⟨_,ab,i+1,ab,(fun j J=>by rcases ig j i with h | h <;> first | exact O j h | (rw [show j=i by omega]; exact V)),(C.trans E),aa,aa,aa,aa,aa⟩
 refine ext<|te _<|te _<|be<|iG<|f0 aa ?_
 exact ⟨aa,uE (fun j J=>O j ab),C⟩
theorem Ge (rb ln:Nat) (s:Tx) (w:World) (G:Hb.aM w.heap rb 2=some (.int .i64 (ln:Nat))) (hs:s.length≤1048576):
 ez au 235 (aX [.pointer (some ⟨rb,0,none⟩),str s]) w (fun v w'=>v=str s∧gR s=0∧Wk w w') (fun c w'=>c=gZ 45 ln (gR s:Nat)∧gR s≠0∧Wk w w'):=by
 refine ja func235 aa ntmps235 aa<|sq fun al Y=>rg aa<|p aC<|nl<|tn<|Y _ _<|sq fun am Z=>rg aa<|p (aH (.pointer<|some ⟨rb,0,none⟩) aa)<|p (aH (str s) aa)<|eP aa (cU yf (Ah rb ln s w G hs) aa fun aw ak ai=> ?_) (fun c w' A V I=>by have h:gR s=21:=D1 (.inr A.2.1); exact ⟨by rw [h]; exact A.1,by rw [h]; decide,A.2.2⟩)
 obtain ⟨rfl,O,C⟩:=ai
 refine nl<|tn<|Z _ _<|sq fun an ac=>rg aa<|p (aH (.pointer<|some ⟨rb,0,none⟩) aa)<|p (aH (str s) aa)<|p (rv aa aa)<|eP aa (cU gj (gr rb ln _ 21 ak (Wk.aM C G) ay) aa fun v11 aj ag=> ?_) (fun c w' A V I=>by have h:gR s=21:=D1 (.inl<|l6.1<|of_decide_eq_false A.2.1); exact ⟨by rw [h]; exact A.1,by rw [h]; decide,by rw [A.2.2]; exact C⟩)
 obtain ⟨rfl,E,rfl⟩:=ag
 have E:s≠[]:=of_decide_eq_true E
 refine nl<|tn<|ac _ _<|sq fun ao ad=>rg aa<|p (aH (.pointer<|some ⟨rb,0,none⟩) aa)<|p (aH (str s) aa)<|p (dv u9 aa aa)<|p (le aa aa)<|eP aa (cU gj (gr rb ln _ 22 aj (Wk.aM C G) ay) aa fun av ax ah=> ?_) (fun c w' A V I=>by have aq:=of_decide_eq_false A.2.1; have h:gR s=22:=O0 E O ab; exact ⟨by rw [h]; exact A.1,by rw [h]; decide,by rw [A.2.2]; exact C⟩)
 obtain ⟨rfl,J,rfl⟩:=ah
 have J:=of_decide_eq_true J
 exact nl<|tn<|ad _ _<|sq fun ap ae=>rg aa<|p (aH (str s) aa)<|p (bV (str s) aa)<|nl<|tn<|ae _ _<|rt<|iG<|f1 aa aa<|⟨aa,O1 E O ab,C⟩
theorem F8 (rb ln:Nat) (s:Tx) (w:World) (I:Hb.aM w.heap rb 2=some (.int .i64 (ln:Nat))) (hs:s.length≤1048576):
 ez au 198 (aX [.pointer (some ⟨rb,0,none⟩),str s]) w (fun v w'=> ∃ a,fJ false s= .ok a∧v=str a∧Wk w w') (fun c w'=> ∃ e,fJ false s= .error e∧c=gZ 45 ln e∧Wk w w'):=by
 refine ja func198 aa ntmps198 aa<|sq fun ao Y=>rg aa<|p aC<|nl<|tn<|Y _ _<|sq fun ap Z=>rg aa<|p (aH (str s) aa)<|e<|cl yc (A2 s _ hs) aa fun v11 al ag=> ?_
 obtain ⟨rfl,C⟩:=ag
 have ax:=wX s
 refine p mv<|p (xt aa aa)<|p (xt aa aa)<|p (xt aa aa)<|p (xt aa aa)<|p aC<|p aC<|p aC<|p aC<|nl<|tn<|Z _ _<|sq fun aq ac=>rg aa<|p (aH (.pointer<|some ⟨rb,0,none⟩) aa)<|p mv<|eP aa (cU nb (nq rb ln ((bA s).2.2.2:Nat) al<|Wk.aM C I) aa fun az am ah=> ?_) fun c w' A O J=>⟨_,SR (by have :=A.2.1; omega),A.1,by rw [A.2.2]; exact C⟩
 obtain ⟨rfl,E,rfl⟩:=ah
 have E:(bA s).2.2.2=0:=ab
 refine nl<|tn<|ac _ _<|sq fun av ad=>rg aa<|p (aH (.pointer<|some ⟨rb,0,none⟩) aa)<|p mv<|p (no aa)<|eP aa (cU gj (gr rb ln _ 114 am (Wk.aM C I) ay) aa fun v22 an ai=> ?_) fun c w' A O J=>⟨_,SS E (by simpa using A.2.1),A.1,by rw [A.2.2]; exact C⟩
 obtain ⟨rfl,G,rfl⟩:=ai
 have G:(bA s).2.2.1=false :=by simpa using G
 refine nl<|tn<|ad _ _<|sq fun aw ae=>rg aa<|p (aH (.pointer<|some ⟨rb,0,none⟩) aa)<|p mv<|eP aa (cU CB (Ge rb ln (bA s).1 an (Wk.aM C I) ab) aa fun v25 aA aj=> ?_) fun c w' A O J=>⟨_,SU E G A.2.1,A.1,C.trans A.2.2⟩
 obtain ⟨rfl,ak,V⟩:=aj
 exact p aC<|nl<|tn<|ae _ _<|rt<|iG<|f1 aa aa<|⟨_,SV E G ak,aa,C.trans V⟩
theorem F6 (rb ln:Nat) (s:Tx) (w:World) (ab:Hb.aM w.heap rb 2=some (.int .i64 (ln:Nat))) (hs:s.length≤1048576):
 ez au 199 (aX [.pointer (some ⟨rb,0,none⟩),str s]) w (fun v w'=> ∃ a,fJ true s= .ok a∧v=str a∧Wk w w') (fun c w'=> ∃ e,fJ true s= .error e∧c=gZ 45 ln e∧Wk w w'):=by
 refine ja func199 aa ntmps199 aa<|sq fun ac I=>rg aa<|p aC<|nl<|tn<|I _ _<|sq fun ad J=>sq fun ae O=>rg aa<|p (aH (str s) aa)<|p (iS aa aa)<|nl<|tn<|O _ _<|cd aa (fun A=> ?_) fun A=> ?_
 exact sq fun E C=>rg aa<|p aC<|nl<|tn<|C _ _<|rt<|tr<|iG<|f1 aa aa<|⟨[],SY A,aa,Md.refl _ _⟩
 refine aQ<|tn<|J _ _<|sq fun E C=>rg aa<|p (aH (.pointer<|some ⟨rb,0,none⟩) aa)<|p (aH (str s) aa)<|eP aa (cU Ct (F8 rb ln s w ab hs) aa fun v9 ah Y=> ?_) fun c w' V ai ag=>by obtain ⟨e,he,h⟩:=V; exact ⟨e,by rw [F7 A]; exact he,h⟩
 obtain ⟨a,Z,rfl,G⟩:=Y
 exact p aC<|nl<|tn<|C _ _<|rt<|iG<|f1 aa aa<|⟨a,by rw [F7 A]; exact Z,aa,G⟩
end Go.Hb
end
