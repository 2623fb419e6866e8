/-
  Walks and plain laws that the law rests on, laid together. No conditions but those that each theorem names.
-/
import Derived.Test.YtchkamdekbbgeaaGreatDoorMnAnalyseAccepts5
set_option linter.unusedVariables false
set_option maxRecDepth 20000
set_option maxHeartbeats 1000000
open Array renaming getElem?_eq_some_iff→dD
open Bool renaming noConfusion→dM,or_eq_false_iff→po
open Classical renaming byContradiction→tj,not_not→jG
open Decidable renaming of_not_not→D0
open Go.Proofs.Tryz renaming prog→az
open Go renaming Value→ag,World→ak
open Go.Value renaming bool→bR,slice→bQ,tuple→gR
open Go.World renaming ownsRow→bo,ownsRow_nil→dE
open Int renaming toNat_natCast→kg
open List renaming all_cons→uX,append_nil→ez,drop_drop→tA,drop_eq_nil_of_le→iR,drop_take→zZ,eq_nil_of_length_eq_zero→fY,filter_append→q9,filter_nil→MI,flatMap_append→nM,flatMap_singleton→qf,getD_cons_zero→lW,getD_eq_getElem?_getD→cH,getElem?_drop→rh,getElem?_eq_getElem→bY,getElem?_eq_some_iff→ff,getElem?_map→fJ,getElem?_zip_eq_some→j7,length→jr,length_append→bG,length_cons→cC,length_drop→fP,length_eq_zero_iff→Ad,length_map→fC,length_nil→gr,length_pos_iff→mu,length_singleton→fg,length_take→dJ,map_append→gS,mem_append→jT,mem_cons→fi,mem_cons_self→mY,mem_of_getElem?→gB,mem_singleton→iS,take_of_length_le→eY,take_succ_cons→qm,toArray→a7,zip_append→Ey
open Nat renaming add_comm→M7,add_le_add_left→Al,le_refl→cE,le_trans→e7,lt_or_ge→fG,zero_le→gY
open Option.some renaming injEq→gJ
open Prod.mk renaming injEq→vk
open UInt8 renaming toNat_inj→lC
open Go.Proofs.Tryz
open Go.Hb.dP Go.Proofs Go.Hb.kA Go.Hb.jJ Go.Hb.eH Go.Hb.fj Go.Hb.mz Go.Hb.oI Go.Hb.iF Go.Hb.gZ Go.Hb.iU

section
namespace Go.Hb
open Go.Hb.oK
theorem TA {l:List UInt8} {i:Nat} {x:UInt8} (h:i < l.length) (h1:¬x∈l.take i) (h2:¬((l.getD i 0).toNat:Int)=(x.toNat:Int)):¬x∈l.take (i+1):=by
 rw [fN l i 0 h,jT,iS];rintro (h3 | h3)
 · exact h1 h3
 · exact h2<|by rw [h3]
theorem Tz {l:List UInt8} {i:Nat} {x:UInt8} (h:i < l.length) (h2:((l.getD i 0).toNat:Int)=(x.toNat:Int)):x∈l:=by
 have e:l.getD i 0=x:=lC.1 ab;rw [← e]; exact dR h
def qB (s:List UInt8) (i:Nat):Int:=if fF 93 (s.drop i) < 0 then -1 else ((i+(s.drop i).idxOf 93:Nat):Int)
theorem Pr {s:List UInt8} {i k:Nat} (hk:i≤k∧k < s.length) (A:∀ j,i≤j→j < k→s.getD j 0≠93) (C:s.getD k 0=93):qB s i=(k:Nat):=by
 have h:=It (x:=93) (l:=s.drop i) (i:=k - i) (by rw [fP]; omega) (fun j E=>by rw [cH,rh,← cH]; exact A _ ab ab)<|by rw [cH,rh,← cH,show i+(k - i)=k by omega]; exact C
 have h2:=sR (c:=93) (l:=s.drop i) ab;unfold qB;rw [if_neg ab];omega
theorem Ps {s:List UInt8} {i:Nat} (C:∀ j,i≤j→j < s.length→s.getD j 0≠93):qB s i= -1:=by
 have h:=Iu (x:=93) (l:=s.drop i) fun j A=>by rw [fP] at A; rw [cH,rh,← cH]; exact C _ ab ab
 unfold qB;rw [if_pos ab]
theorem Pq {s:List UInt8} {i:Nat} (hi:i < s.length) (C:s.getD i 0=91):(qB s i < 0↔¬(s.drop<|i+1).idxOf 93 < (s.drop<|i+1).length)∧(¬qB s i < 0→qB s i=((i+1 +(s.drop<|i+1).idxOf 93:Nat):Int)):=by
 have e:s.drop i=91::s.drop (i+1):=by rw [drop_cons 0 hi,C]
 have A:(91::s.drop (i+1)).idxOf 93=(s.drop<|i+1).idxOf 93 +1:=by rw [List.idxOf_cons]; rfl
 unfold qB fF;rw [e,A,cC];by_cases h:(s.drop<|i+1).idxOf 93 < (s.drop<|i+1).length
 · rw [if_pos (show (s.drop<|i+1).idxOf 93 +1 < (s.drop<|i+1).length+1 by omega)];rw [if_neg ab];refine ⟨⟨fun h1=>by omega,fun h1=>absurd h h1⟩,fun _=>by omega⟩
 · rw [if_neg (show ¬(s.drop<|i+1).idxOf 93 +1 < (s.drop<|i+1).length+1 by omega)];rw [if_pos (show (-1:Int) < 0 from by decide)];refine ⟨⟨fun _=>h,fun _=>by decide⟩,fun h1=>absurd aw h1⟩
theorem VV {w:ak} {B e:Nat} {v:ag} {l:List (List UInt8)} {x:List UInt8} (h:w.ownsRow B e 1 v (l.length+1) (l.map str++ [str x])):w.ownsRow B e 1 v (l++ [x]).length ((l++ [x]).map str):=by
 rw [bG,gS]; exact h
theorem Ou {f:UInt8→Bool} :(bytesOf fun x=> !f x).length=0↔(bytesOf f).length=256:=by
 have :=Ov f 256;unfold bytesOf; omega
theorem IV {h:Array Obj} {a:Option Addr} {l:List (List UInt8)} {i:Nat} (A:aB h a (l.map str)) (hi:i < l.length):Hb.aV h (bk a) (fo a+i*1 +0)=some (str<|l.getD i []):=bW.get (i:=i) A hi
theorem O1 {s t r:List UInt8} (h:iX s=some (t,r)):(t.length=1∨3≤t.length)∧t.length≤s.length:=by
 cases s with
 | nil=>cases h
 | cons b l=>
   simp only [iX] at h;split at h
   · split at h
     · rename_i A;simp only [gJ,vk] at h;obtain ⟨rfl,_⟩:=h;simp only [cC,dJ];omega
     · cases h
   · simp only [gJ,vk] at h;obtain ⟨rfl,_⟩:=h;simp
theorem P7:∀ (f:Nat) (s:List UInt8) (xs:List (List UInt8)),mH f s=some xs→∀ t∈xs,(t.length=1∨3≤t.length)∧t.length≤s.length:=by
 intro f
 induction f with
 | zero=>intro s xs h t A; simp only [mH] at h; split at h <;> first | (cases h; cases A) | cases h
 | succ f C=>
   intro s xs h t A;simp only [mH] at h;split at h
   · cases h; cases A
   · cases hc:iX s with
     | none=>rw [hc] at h; cases h
     | some q=>
       obtain ⟨u,r⟩:=q;rw [hc] at h;simp only at h;cases hr:mH f r with
       | none=>rw [hr] at h; cases h
       | some E=>
         rw [hr] at h;cases h;rcases fi.1 A with rfl | A
         · exact O1 hc
         · have h1:=C r E hr t A;have h2:=AQ hc;exact ⟨h1.1,ab⟩
theorem FW {s:List UInt8} :(∀ t∈(dj s).1,(t.length=1∨3≤t.length)∧t.length≤s.length)∧(dj s).1.length≤16:=by
 unfold dj;split
 · exact ⟨(fun t A=>by cases A),gY _⟩
 · split
   · exact ⟨(fun t A=>by cases A),gY _⟩
   · split
     · exact ⟨(fun t A=>by cases A),gY _⟩
     · rename_i xs h;split
       · exact ⟨(fun t A=>by cases A),gY _⟩
       · exact ⟨(fun t A=>P7 _ _ _ h t A),by simp only; omega⟩
theorem Gu {s:List UInt8} {k:Nat} :(s.drop k).getD 0 0=s.getD k 0:=by rw [cH,rh,← cH]; rfl
theorem Fh {s:List UInt8} {i m:Nat} (A:s.getD i 0=91) (h:i+1 +m < s.length):91::(s.drop<|i+1).take (m+1)=(s.take<|i+1 +m+1).drop i:=by
 rw [zZ,drop_cons 0 (show i < s.length by omega),A,show i+1 +m+1 - i=m+1 +1 by omega,qm]
theorem VG {s:List UInt8} {i:Nat} (h:i < s.length):(s.take<|i+1).drop i= [s.getD i 0]:=by
 rw [zZ,drop_cons 0 h,show i+1 - i=0 +1 by omega,qm,List.take_zero]
theorem NI {t:List UInt8} {b:UInt8} (h:t.length=1) (h1:¬t= [46]):((t.getD 0 0).toNat:Int)=(b.toNat:Int)↔t.getD 0 0=46∨t.getD 0 0=b:=by
 match t,h with
 | [c],_=>
   simp only [lW] at*;constructor
   · intro h2; exact .inr<|lC.1 ab
   · rintro (h2 | h2)
     · exact absurd (by rw [h2]) h1
     · rw [h2]
theorem Ip {b:UInt8} (h:(b.toNat:Int)=94):b=94:=lC.1 (by have :(94:UInt8).toNat=94:=rfl; omega)
theorem VC {b:UInt8} (h:¬(b.toNat:Int)=94):b≠94:=by rintro rfl; exact h rfl
theorem Jx {l:List UInt8} {x:UInt8} (h:l.length=1) (A:l.getD 0 0=x):l= [x]:=by
 match l,h with
 | [c],_=>simp only [lW] at A; rw [A]
theorem Xw {f:UInt8→Bool} (h:¬(bytesOf f).length=256) (h1:(bytesOf f).length=1) (h2:(bytesOf f).getD 0 0=46):j6 f= [91,46,93]:=by
 have e:=Jx h1 h2;have h3:¬f 93=true :=fun h4=>by have :=(Fp f 93).2 h4; rw [e] at this; simp at this
 unfold j6; rw [if_neg h,if_neg (fun h4=>h4.2.1 h2),if_neg h3,e]; rfl
theorem Xx {f:UInt8→Bool} (h:¬(bytesOf f).length=256) (h1:(bytesOf f).length=1) (h2:(bytesOf f).getD 0 0=91):j6 f= [91,91,93]:=by
 have e:=Jx h1 h2;have h3:¬f 93=true :=fun h4=>by have :=(Fp f 93).2 h4; rw [e] at this; simp at this
 unfold j6; rw [if_neg h,if_neg (fun h4=>h4.2.2 h2),if_neg h3,e]; rfl
theorem IL (s:List UInt8) (b:UInt8) (w:ak) (hs:s.length≤1048576):
 ba az 276 (a7 [str s,.int .u8 b.toNat]) w (fun v w'=>v= .bool (decide (b∈s))∧Wk w w'):=by
 refine enter func276 aa ntmps276 aa<|bq 12 aa<|lp (fun E I G=> ∃ (i:Nat),(i≤s.length)∧(¬b∈s.take i)∧(G=w)∧(Sl I [(0,str s),(1,.int .u8 b.toNat),(5,ay i)])∧(s.length - i=E)) _ ⟨0,ab,(by simp),aa,aa,aa⟩ ?_;rintro E I G ⟨i,hi,C,J,V,rfl⟩;refine bA V ?_;subst J;refine bq 9 aa<|cd aa (fun O=> ?_) fun O=> ?_;refine aH 8 aa<|p (e5 u9 aa aa ab)<|aQ 4 aa<|cd aa (fun A=> ?_) fun A=> ?_;exact aJ 8 aa<|tr<|bc 2 aa<|aR aa<|⟨by show bR true =_; rw [decide_eq_true (Tz ab A)],Md.refl _ _⟩
 exact aJ 8 aa<|tn<|⟨_,ab,i+1,ab,(TA ab C A),aa,aa,aa⟩
 exact aJ 2 aa<|bK<|bc 8 aa<|aR aa<|⟨by show bR false =_; rw [eY ab] at C; rw [decide_eq_false C],Md.refl _ _⟩
theorem EN (t:List UInt8) (b:UInt8) (w:ak) (ac:t.length=1∨3≤t.length) (ae:t.length≤1048576):
 ba az 262 (a7 [.agg [str t].toArray,.int .u8 b.toNat]) w (fun v w'=>v= .bool (db t b)∧Wk w w'):=by
 refine enter func262 aa ntmps262 aa<|bg 2 aa<|e<|iL aa fun V ai Z A G=>au 6 aa<|p (ld1 aa<|G.aV 0)<|aQ 11 aa<|cd aa (fun O=> ?_) fun O=> ?_;refine aH 5 aa<|gs (t:=14) aa (fun E=> ?_) fun E=> ?_;exact au 5 aa<|p bm<|aC 4 aa<|aR aa<|⟨by show bR true =_; unfold db; rw [if_pos (show t.length=1 by omega)]; rw [decide_eq_true (.inl<|by rw [E]; rfl)],A.md⟩
 exact au 1 aa<|bI aa (jz 0 u9 aa aa ab)<|aC 8 aa<|aR aa<|⟨by show bR (decide _)=_; unfold db; rw [if_pos (show t.length=1 by omega)]; exact congrArg bR (decide_eq_decide.2<|NI ab E),A.md⟩
 refine aH 6 aa<|p (jz 1 u9 aa aa ab)<|aQ 3 aa<|cd aa (fun C=> ?_) fun C=> ?_;refine aH 5 aa<|p (dQ<|t.length - 1)<|p (mR u9 aa aa aa ab)<|au 1 aa<|e<|aM (IL ((t.take<|t.length - 1).drop 2) b _<|by simp only [fP,dJ]; omega) aa ?_;rintro ag aj ⟨rfl,I⟩;exact aC 12 aa<|aR aa<|⟨by show bR (!decide _)=_; unfold db; rw [if_neg (show ¬t.length=1 by omega),if_pos (lC.1 (by have Y:(94:UInt8).toNat=94:=aa; omega))],Md.trans A.md I⟩
 refine aH 7 aa<|p (dQ<|t.length - 1)<|p (mR u9 aa aa aa ab)<|au 1 aa<|e<|aM (IL ((t.take<|t.length - 1).drop 1) b _<|by simp only [fP,dJ]; omega) aa ?_;rintro ah al ⟨rfl,J⟩;exact aC 4 aa<|aR aa<|⟨by unfold db; rw [if_neg (show ¬t.length=1 by omega),if_neg (fun h=>by rw [h] at C; exact C aa)]; rfl,Md.trans A.md J⟩
theorem EO (t:List UInt8) (b:UInt8) (bi:Int) (w:ak) (C:t.length=1∨3≤t.length) (E:t.length≤1048576) (A:(b.toNat:Int)=bi):ba az 262 (a7 [.agg [str t].toArray,.int .u8 bi]) w (fun v w'=>v= .bool (db t b)∧Wk w w'):=by
 subst A; exact EN t b w C E
theorem EP (t:List UInt8) (q:Bool) (w:ak) (aF:t.length=1∨3≤t.length) (aG:t.length≤1048576):
 ba az 304 (a7 [.agg [str t].toArray,.bool q]) w (fun v w'=>bo w' w.heap.size 5 1 (v) (bytesOf fun x=>decide (db t x=q)).length (U8<|bytesOf fun x=>decide (db t x=q))∧Wk w w'):=by
 refine enter func304 aa ntmps304 aa<|bg 2 aa<|e<|iL aa fun aj I aN ae al=>au 5 aa<|e<|mF iP fun Y aK aP av an=> ?_;have aD:bo aK I.heap.size 5 1 (.slice (some ⟨Y,0,none⟩) 0 0) (([]:List UInt8)).length (U8<|([]:List UInt8)):=an _ ab;refine aQ 10 aa<|lp (fun Z ai V=> ∃ (i:Nat) (A:ag),(i≤256)∧(bo V I.heap.size 5 1 (A) (mG (fun x=>decide (db t x=q)) i).length<|U8<|mG (fun x=>decide (db t x=q)) i)∧(Wk I V)∧(Sl ai [(1,.bool q),(2,bj aj),(5,A),(6,ay i)])∧(256 - i=Z)) _ ⟨0,.slice (some ⟨Y,0,none⟩) 0 0,ab,aD,av.md,aa,aa⟩ ?_;rintro Z ai V ⟨i,A,hi,G,E,aE,rfl⟩;refine bA aE ?_;have aS:=rA (fun x=>decide (db t x=q)) i;refine bq 7 aa<|cd aa (fun aw=> ?_) fun aw=> ?_;refine aH 6 aa<|p (cQ tN aa (aa) (show ∀ j,j < 1→Hb.aV _ _ (0 +j)= [str t][j]? from fun j aW=>by cases j with | zero=>exact (E.B al).aV 0 | succ j=>omega))<|au 1 aa<|p (l6 u5 r9 aa<|uM ab)<|e<|aM (EO t (UInt8.ofNat i) _ _ aF aG<|zy i ab) aa ?_;rintro aY aZ ⟨rfl,C⟩;refine au 7 aa<|p (Be u4 aa aa)<|aQ 2 aa<|cd aa (fun O=> ?_) fun O=> ?_;refine aH 1 aa<|ep (A)<|au 1 aa<|p (l6 u5 r9 aa<|uM ab)<|e<|gv iP aa aa fun aL aI aO J am=> ?_;have ac:Wk I aI:=Md.trans (Md.trans E C) J.md;refine e<|ap iP (aU (aU G C) J.md) aa (by have :=ac.size; omega) aa (aB.dT am) (aa) (aa) ab ab fun v24 a0 ah aq aX aT=> ?_;have ao:=Wk.own ac (aU (aU G C) J.md) aq<|cE _;rw [← zy i ab] at ah;have aA:=rW ah;exact p bm<|au 5 aa<|p (bC<|i+1)<|aC 2 aa<|tn<|⟨_,ab,i+1,v24,ab,(by rw [tT,if_pos (decide_eq_true O)]; exact aA),ao,aa,aa⟩
 exact aH 5 aa<|p (bC<|i+1)<|aC 2 aa<|tn<|⟨_,ab,i+1,A,ab,(by rw [tT,if_neg (fun h=>O<|of_decide_eq_true h),ez]; exact aU G C),(Md.trans E C),aa,aa⟩
 refine aJ 2 aa<|bK<|dq 4 aa<|ep (A)<|p (nT (A) aa)<|aC 3 aa<|aR aa ?_;have ax:i=256:=ab;subst ax;exact ⟨eR G ae.md.size,Md.trans ae.md E⟩
theorem Xy (t:List UInt8) (w:ak) (aF:t.length=1∨3≤t.length) (aG:t.length≤1048576):
 ba az 294 (a7 [.agg [str t].toArray]) w (fun v w'=>v=str (j6<|db t)∧Wk w w'):=by
 have b1:(bytesOf<|db t).length≤256:=rA _ 256;have b0:(bytesOf fun x=> !db t x).length≤256:=rA _ 256;have bu:=Ou (f:=db t);refine enter func294 aa ntmps294 aa ?_;refine bg 2 aa ?_;refine e<|iL aa fun a9 b4 bT bs aO=> ?_;refine au 5 aa ?_;refine p (cQ tN aa (aa) (show ∀ j,j < 1→Hb.aV _ _ (0 +j)= [str t][j]? from fun j aZ=>by cases j with | zero=>exact (aO).aV 0 | succ j=>omega)) ?_;refine e<|aM (EP t true _ aF aG) aa ?_;rintro v10 b5 ⟨aA,aS⟩;rw [Fo (g:=db t) (fun x=>by cases db t x <;> rfl)] at aA;obtain ⟨a8,bc,rfl⟩:=cz aA;have A:=(aX aA).2;have aP:=aS.B aO;refine p bm ?_;refine au 4 aa ?_;refine p (cQ tN aa (aa) (show ∀ j,j < 1→Hb.aV _ _ (0 +j)= [str t][j]? from fun j aZ=>by cases j with | zero=>exact (aP).aV 0 | succ j=>omega)) ?_;refine e<|aM (EP t false _ aF aG) aa ?_;rintro v12 bL ⟨aD,aj⟩;rw [Fo (g:=fun x=> !db t x) (fun x=>by cases db t x <;> rfl)] at aD;obtain ⟨bP,bS,rfl⟩:=cz aD;have A:=A.wk aj;have bd:=aj.B aP;have Y:Wk w bL:=Md.trans bs.md<|Md.trans aS aj;refine p bm ?_;refine au 5 aa ?_;refine p mv ?_;refine aQ 4 aa ?_;refine cd aa (fun bv=> ?_) fun bv=> ?_;refine aJ 7 aa ?_;refine aR aa ?_;exact ⟨by unfold j6; rw [if_pos (bu.1 ab)]; rfl,Y⟩;refine aH 5 aa ?_;refine p mv ?_;refine aQ 4 aa ?_;refine cd aa (fun bw=> ?_) fun bw=> ?_;refine aH 3 aa ?_;refine p mv ?_;refine p (a6 mI aa aa ab<|aB.ok (A)<|qT ab) ?_;refine p (ld1 aa<|qS (i:=0) A ab) ?_;refine aQ 3 aa ?_;refine cd aa (fun ao=> ?_) fun ao=> ?_;refine aJ 8 aa ?_;refine aR aa ?_;exact ⟨by rw [Xw ab ab (B4 ao)]; rfl,Y⟩;refine aH 5 aa ?_;refine p mv ?_;refine p (a6 mI aa aa ab<|aB.ok (A)<|qT ab) ?_;refine p (ld1 aa<|qS (i:=0) A ab) ?_;refine aQ 3 aa ?_;refine cd aa (fun aq=> ?_) fun aq=> ?_;refine aJ 8 aa ?_;refine aR aa ?_;exact ⟨by rw [Xx ab ab (yB aq)]; rfl,Y⟩;refine aH 5 aa ?_;refine p (n9 nV aa (A)<|aa) ?_;refine aC 5 aa ?_;refine aR aa ?_;exact ⟨by unfold j6; rw [if_neg (show ¬(bytesOf<|db t).length=256 by omega),if_pos ⟨ab,CA ao,wi aq⟩]; rfl,Y⟩;refine aH 4 aa ?_;refine p (cQ tN aa (aa) (show ∀ j,j < 1→Hb.aV _ _ (0 +j)= [str t][j]? from fun j aZ=>by cases j with | zero=>exact (bd).aV 0 | succ j=>omega)) ?_;refine e<|aM (EO t 93 _ _ aF aG aa) aa ?_;rintro v30 O ⟨rfl,G⟩;have al:=Md.trans Y G;refine aQ 9 aa ?_;refine cb aa (fun av=> ?_) fun av=> ?_;refine aH 2 aa ?_;refine p mv ?_;refine p (n9 nV aa ((aX<|aU aD G).2)<|aa) ?_;refine p (cc aa aa<|by simp only [cC,gr]; omega) ?_;refine p (cc aa aa<|by simp only [cC,gr,bG]; omega) ?_;refine aC 5 aa ?_;refine aR aa ?_;exact ⟨by unfold j6; rw [if_neg (show ¬(bytesOf<|db t).length=256 by omega),if_neg (show ¬((bytesOf<|db t).length=1∧_) from fun h=>by omega),if_pos av]; rfl,al⟩;refine aH 4 aa ?_;refine e<|mF iP fun aL bM bU bt bf=> ?_;have bH:bo bM O.heap.size 5 1 (.slice (some ⟨aL,0,none⟩) 0 0) (([]:List UInt8)).length (U8<|([]:List UInt8)):=bf _ ab;refine aQ 15 aa ?_
 refine lp (fun aN a3 aK=> ∃ (i:Nat) (ob:Bool) (ae:ag),(i≤(bytesOf<|db t).length)∧(ob=decide (94∈(bytesOf<|db t).take i))∧(bo aK O.heap.size 5 1 (ae) (((bytesOf<|db t).take i).filter fun b=>decide (b≠94)).length<|U8<|((bytesOf<|db t).take i).filter fun b=>decide (b≠94))∧(Wk O aK)∧(Sl a3 [(1,bj a9),(3,.slice a8 (bytesOf<|db t).length bc),(6,ae),(7,.bool ob),(8,ay i)])∧((bytesOf<|db t).length - i=aN)) _ ⟨0,false,.slice (some ⟨aL,0,none⟩) 0 0,ab,aa,bH,bt.md,aa,aa⟩ ?_;rintro aN a3 aK ⟨i,ob,ae,hi,I,E,C,bI,rfl⟩;refine bA bI ?_;have bZ:(((bytesOf<|db t).take i).filter fun b=>decide (b≠94)).length≤256:=e7 (List.length_filter_le _ _)<|by rw [dJ]; omega
 refine bq 9 aa ?_;refine cd aa (fun bx=> ?_) fun bx=> ?_;refine aH 8 aa ?_;refine p (a6 mI aa aa ab<|aB.ok (A.wk<|Md.trans G C)<|qT ab) ?_;refine p (ld1 aa<|qS (i:=i) (A.wk<|Md.trans G C) ab) ?_;refine aQ 3 aa ?_;refine cd aa (fun ax=> ?_) fun ax=> ?_;have V:=Ip ax;refine aH 7 aa ?_;refine p (bC<|i+1) ?_;refine aC 2 aa ?_;refine tn ?_;exact ⟨_,ab,i+1,true,ae,ab,(by rw [fN _ i 0 ab,V,decide_eq_true (by simp)]),(by rw [fN _ i 0 ab,V,q9,List.filter_cons_of_neg (by simp),MI,ez]; exact E),C,aa,aa⟩;have V:=VC ax;refine aH 1 aa ?_;refine ep (ae) ?_;refine au 2 aa ?_;refine p (a6 mI aa aa ab<|aB.ok (A.wk<|Md.trans G C)<|qT ab) ?_;refine p (ld1 aa<|qS (i:=i) (A.wk<|Md.trans G C) ab) ?_;refine e<|gv iP aa aa fun bQ bN bV am bh=> ?_;have aT:Wk O bN:=Md.trans C am.md;refine e<|ap iP (aU E am.md) aa (by have :=aT.size; omega) aa (aB.dT bh) (aa) (aa) ab ab fun v54 b6 bD bp b2 bX=> ?_;have bk:=Wk.own aT (aU E am.md) bp<|cE _;have bE:=rW bD;refine p bm ?_;refine au 5 aa ?_;refine p (bC<|i+1) ?_;refine aC 2 aa ?_;refine tn ?_;exact ⟨_,ab,i+1,ob,v54,ab,(by rw [fN _ i 0 ab,I]; exact decide_eq_decide.2<|by rw [jT,iS]; exact ⟨.inl,fun h=>h.elim id fun h=>absurd h.symm V⟩),(by rw [fN _ i 0 ab,q9,List.filter_cons_of_pos (by simpa using V),MI]; exact bE),bk,aa,aa⟩;refine aJ 2 aa ?_;refine bK ?_;refine dz 2 aa ?_;refine ei (fun a4 aI=> ∃ (ah:Option Addr) (J ai:Nat),(((bytesOf<|db t).filter (fun b=>decide (b≠94))++(if 94∈(bytesOf<|db t) then [94] else [])).length=J)∧(bo aI O.heap.size 5 1 (.slice ah J ai) J<|U8<|(bytesOf<|db t).filter (fun b=>decide (b≠94))++(if 94∈(bytesOf<|db t) then [94] else []))∧(Wk w aI)∧(J≤300)∧(Sl a4 [(6,.slice ah J ai)])) ?_ ?_;refine bq 1 aa ?_;obtain ⟨a5,bb,rfl⟩:=cz E;have ac:(bytesOf<|db t).take i=bytesOf (db t):=eY ab;rw [ac] at I;refine bz 4 aa ?_;refine cb aa (fun Z=> ?_) fun Z=> ?_;refine aH 2 aa ?_;refine e<|gv iP aa aa fun bR bO bW an bi=> ?_;have aW:Wk O bO:=Md.trans C an.md;refine e<|ap iP (aU E an.md) aa (by have :=aW.size; omega) aa (aB.dT bi) (aa) (aa) ab ab fun v58 b7 aE br b3 bY=> ?_;have bl:=Wk.own aW (aU E an.md) br<|cE _;rw [ac] at aE;have a1:=rW (x:=94) aE;obtain ⟨a2,c2,rfl⟩:=cz aE;refine p bm ?_;refine aC 1 aa ?_;refine tn ?_;exact ⟨a2,_,c2,(by rw [if_pos (of_decide_eq_true<|I ▸ Z),bG]; rfl),(by rw [if_pos (of_decide_eq_true<|I ▸ Z)]; rw [bG] at a1; exact a1),(Md.trans al bl),(by rw [← ac]; omega),aa⟩;refine aJ 1 aa ?_;refine tn ?_;exact ⟨a5,_,bb,(by rw [if_neg (of_decide_eq_false<|I ▸ Z),ez,ac]),(by rw [if_neg (of_decide_eq_false<|I ▸ Z),ez]; have h3:=E; rw [ac] at h3 ⊢; exact h3),(Md.trans al C),(ab),aa⟩;rintro a4 aI ⟨ah,J,ai,a0,bF,bn,bB,bJ⟩;refine bA bJ ?_;have aY:((bytesOf<|db t).filter (fun b=>decide (b≠94))++(if 94∈(bytesOf<|db t) then [94] else [])).length≤300:=by rw [a0]; exact bB
 refine aH 3 aa ?_;refine p (n9 nV aa ((aX bF).2)<|a0) ?_;refine p (cc aa aa<|e7 (Al aY _) aw) ?_;refine p (cc aa aa<|by rw [bG]; exact e7 (Nat.add_le_add_right (Al aY _) _) aw) ?_;refine aC 4 aa ?_;refine aR aa ?_;exact ⟨by unfold j6; rw [if_neg (show ¬(bytesOf<|db t).length=256 by omega),if_neg (show ¬((bytesOf<|db t).length=1∧_) from fun h=>by omega),if_neg (show ¬db t 93=true from by rw [av]; exact dM)]; rfl,bn⟩
theorem Pl (s:List UInt8) (i:Nat) (w:ak) (hs:s.length≤1048576) (hi:i≤s.length):
 ba az 261 (a7 [str s,ay i]) w (fun v w'=>v= .int .i64 (qB s i)∧Wk w w'):=by
 refine enter func261 aa ntmps261 aa<|bq 7 aa<|lp (fun G J I=> ∃ (k:Nat),(i≤k∧k≤s.length)∧(∀ j,i≤j→j < k→s.getD j 0≠93)∧(I=w)∧(Sl J [(0,str s),(1,ay k)])∧(s.length - k=G)) _ ⟨i,ab,(fun j h1 h2=>by omega),aa,aa,aa⟩ ?_;rintro G J I ⟨k,hk,E,O,Y,rfl⟩;refine bA Y ?_;subst O;refine bq 9 aa<|cd aa (fun V=> ?_) fun V=> ?_;refine aH 8 aa<|p (e5 u9 aa aa ab)<|aQ 3 aa<|cd aa (fun C=> ?_) fun C=> ?_;have A:s.getD k 0=93:=lC.1 (by have :(93:UInt8).toNat=93:=rfl; omega);exact aJ 9 aa<|tr<|bc 2 aa<|aR aa<|⟨by rw [Pr (k:=k) ab E A]; rfl,Md.refl _ _⟩
 have A:s.getD k 0≠93:=fun h=>by rw [h] at C; exact C rfl
 exact aH 4 aa<|p (bC<|k+1)<|aC 3 aa<|tn<|⟨_,ab,k+1,ab,(fun j h1 h2=>by rcases fG j k with h | h <;> first | exact E j h1 h | (rw [show j=k by omega]; exact A)),aa,aa,aa⟩
 exact aJ 2 aa<|bK<|bc 8 aa<|aR aa<|⟨by rw [Ps (fun j h1 h2=>E j h1 ab)]; rfl,Md.refl _ _⟩
theorem JO (s:List UInt8) (w:ak) (hs:s.length≤1048576):
 ba az 228 (a7 [str s]) w (fun v w'=>(∃ a,v= .tuple #[a,ay ((dj s).2)]∧bo w' w.heap.size 359 1 (a) ((dj s).1).length (((dj s).1).map str))∧Wk w w'):=by
 refine enter func228 aa ntmps228 aa<|bg 13 aa<|gs (t:=11) aa (fun C=> ?_) fun C=> ?_;exact aC 15 aa<|f2 aa aa aa<|⟨⟨.slice none 0 0,by unfold dj; rw [if_pos (.inl<|fY ab)]; rfl,by unfold dj; rw [if_pos (.inl<|fY ab)]; exact dE _ _ _ _⟩,Md.refl _ _⟩
 refine aQ 6 aa<|cd aa (fun aN=> ?_) fun aN=> ?_;exact aJ 8 aa<|f2 aa aa aa<|⟨⟨.slice none 0 0,by unfold dj; rw [if_pos (.inr ab)]; rfl,by unfold dj; rw [if_pos (.inr ab)]; exact dE _ _ _ _⟩,Md.refl _ _⟩
 refine bz 14 aa<|cd aa (fun O=> ?_) fun O=> ?_;refine aJ 9 aa<|f2 aa aa aa ?_;have aA:¬(s= []∨512 < s.length):=fun h=>h.elim (fun h=>by rw [h] at C; exact C rfl) fun h=>by omega
 exact ⟨⟨.slice none 0 0,by unfold dj; rw [if_neg aA,if_pos O]; rfl,by unfold dj; rw [if_neg aA,if_pos O]; exact dE _ _ _ _⟩,Md.refl _ _⟩;refine bz 9 aa<|lp (fun aq aE ao=> ∃ (i:Nat) (G:List (List UInt8)) (ah:ag),(i≤s.length∧G.length≤i)∧(kN s i G)∧(bo ao w.heap.size 359 1 (ah) (G).length<|(G).map str)∧(Wk w ao)∧(Sl aE [(0,str s),(4,ah),(5,ay i)])∧(s.length - i=aq)) _ ⟨0,[],.slice none 0 0,(by simp),(kN.start s),(dE _ _ _ _),(Md.refl _ _),aa,aa⟩ ?_;rintro aq aE ao ⟨i,G,ah,hi,ae,ai,I,a0,rfl⟩;refine bA a0<|bq 9 aa<|cd aa (fun aO=> ?_) fun aO=> ?_;refine aH 6 aa<|p (bC<|i+1)<|aQ 3 aa ?_;refine ei (fun aF an=> ∃ (j:Nat),(i < j∧j≤s.length)∧(kN s j<|G++ [(s.take j).drop i])∧(bo an w.heap.size 359 1 (ah) (G).length<|(G).map str)∧(Wk w an)∧(Sl aF [(0,str s),(4,ah),(5,ay i),(6,ay j)])) ?_ ?_;refine bg 4 aa<|p (e5 u9 aa aa ab)<|aQ 3 aa<|cd aa (fun al=> ?_) fun al=> ?_;refine aH 4 aa<|e<|aM (Pl s i _ hs ab) aa ?_;rintro v31 bi ⟨rfl,Z⟩;have J:=yB al;obtain ⟨aw,aR⟩:=Pq (show i < s.length by omega) J;have ac:=drop_cons (l:=s) (i:=i) 0 ab;have bb:(s.drop<|i+1).length=s.length - (i+1):=fP;refine au 9 aa<|gs (t:=34) aa (fun aS=> ?_) fun aS=> ?_;have E:iX (s.drop i)=none:=by
  rw [ac,J];exact xU aa fun h=>(aw.1 ab) h.1
 have V:=ae.bad ab E;refine au 5 aa<|p mv<|aC 23 aa<|tr<|bc 1 aa<|tr<|bc 2 aa<|f2 aa aa aa ?_;have A:dj s=([],41):=by unfold dj; rw [if_neg (fun h=>h.elim (fun h=>by rw [h] at C; exact C rfl) fun h=>by omega),if_neg O,V]
 exact ⟨⟨.slice none 0 0,by rw [A]; rfl,by rw [A]; exact dE _ _ _ _⟩,Md.trans I Z⟩;have a9:=aR ab;have ax:(s.drop<|i+1).idxOf 93 < (s.drop<|i+1).length:=D0 fun h=>by have :=aw.2 h; omega
 refine au 2 aa<|bI aa (bC<|i+1)<|au 3 aa<|gs (t:=40) aa (fun aT=> ?_) fun aT=> ?_;have E:iX (s.drop i)=none:=by
  rw [ac,J];exact xU aa fun h=>h.2.1 ab
 have V:=ae.bad ab E;refine aC 23 aa<|tr<|bc 1 aa<|tr<|bc 2 aa<|f2 aa aa aa ?_;have A:dj s=([],41):=by unfold dj; rw [if_neg (fun h=>h.elim (fun h=>by rw [h] at C; exact C rfl) fun h=>by omega),if_neg O,V]
 exact ⟨⟨.slice none 0 0,by rw [A]; rfl,by rw [A]; exact dE _ _ _ _⟩,Md.trans I Z⟩;refine au 2 aa<|bI aa (bC<|i+2)<|au 2 aa<|gs (t:=45) aa (fun aV=> ?_) fun aV=> ?_;refine au 2 aa<|bI aa (bC<|i+1)<|bI aa (e5 u9 aa aa ab)<|aQ 5 aa<|cd aa (fun am=> ?_) fun am=> ?_;have E:iX (s.drop i)=none:=by
  rw [ac,J];exact xU aa fun h=>h.2.2 ⟨ab,by rw [Gu]; exact Ip am⟩
 have V:=ae.bad ab E;refine aJ 8 aa<|tr<|bc 1 aa<|tr<|bc 2 aa<|f2 aa aa aa ?_;have A:dj s=([],41):=by unfold dj; rw [if_neg (fun h=>h.elim (fun h=>by rw [h] at C; exact C rfl) fun h=>by omega),if_neg O,V]
 exact ⟨⟨.slice none 0 0,by rw [A]; rfl,by rw [A]; exact dE _ _ _ _⟩,Md.trans I Z⟩;have E:iX (s.drop i)=some (91::(s.drop<|i+1).take ((s.drop<|i+1).idxOf 93 +1),(s.drop<|i+1).drop ((s.drop<|i+1).idxOf 93 +1)):=by
  rw [ac,J];exact AR aa ax ab fun h=>am<|by rw [← Gu,h.2]; rfl
 have Y:=ae.step (j:=i+1 +(s.drop<|i+1).idxOf 93 +1) E<|by rw [tA]; rfl
 rw [Fh J ab] at Y;exact aH 4 aa<|p (bC<|i+1 +(s.drop<|i+1).idxOf 93 +1)<|aC 2 aa<|tn<|⟨i+1 +(s.drop<|i+1).idxOf 93 +1,(ab),Y,(aU ai Z),(Md.trans I Z),aa⟩
 have E:iX (s.drop i)=some (91::(s.drop<|i+1).take ((s.drop<|i+1).idxOf 93 +1),(s.drop<|i+1).drop ((s.drop<|i+1).idxOf 93 +1)):=by
  rw [ac,J];exact AR aa ax ab fun h=>by omega
 have Y:=ae.step (j:=i+1 +(s.drop<|i+1).idxOf 93 +1) E<|by rw [tA]; rfl
 rw [Fh J ab] at Y;exact au 6 aa<|p (rX aa)<|au 7 aa<|p (bC<|i+1 +(s.drop<|i+1).idxOf 93 +1)<|aC 2 aa<|tn<|⟨i+1 +(s.drop<|i+1).idxOf 93 +1,(ab),Y,(aU ai Z),(Md.trans I Z),aa⟩
 have aX:=wi al;have ac:=drop_cons (l:=s) (i:=i) 0 ab;have E:iX (s.drop i)=some ([s.getD i 0],s.drop (i+1)):=by rw [ac]; exact FE aX
 have Y:=ae.step (j:=i+1) E rfl;rw [← VG (show i < s.length by omega)] at Y;exact aJ 1 aa<|tn<|⟨i+1,(ab),Y,ai,I,aa⟩
 rintro aF an ⟨j,bf,aW,aD,aK,a1⟩;refine bA a1<|aH 2 aa<|ep (ah)<|au 3 aa<|p (mR u9 aa aa aa ab)<|p (cV (ps:= [(0,str ((s.take j).drop i))]) (L:= [str ((s.take j).drop i)]) X4 aa<|aa)<|e<|lf KC aa aa aa fun a5 a3 a8 aj aG=> ?_;have av:Wk w a3:=Md.trans aK aj.md;refine e<|ap KC (aU aD aj.md) aa (by have :=av.size; omega) aa (aB.dT aG) (aa) (aa) ab ab fun a2 bj aY aL bh bd=> ?_;have aI:=Wk.own av (aU aD aj.md) aL<|cE _;have aZ:=VV aY;exact p bm<|aC 7 aa<|tn<|⟨_,ab,j,G++ [(s.take j).drop i],a2,(by rw [bG,fg]; omega),aW,aZ,aI,aa,aa⟩
 refine aJ 2 aa<|bK<|dz 4 aa ?_;obtain ⟨a4,a6,rfl⟩:=cz ai;have V:=ae.done ab;refine bz 6 aa<|cd aa (fun aP=> ?_) fun aP=> ?_;refine aJ 8 aa<|f2 aa aa aa ?_;have A:dj s=([],42):=by unfold dj; rw [if_neg (fun h=>h.elim (fun h=>by rw [h] at C; exact C rfl) fun h=>by omega),if_neg O,V]; exact if_pos ab
 exact ⟨⟨.slice none 0 0,by rw [A]; rfl,by rw [A]; exact dE _ _ _ _⟩,I⟩;refine aJ 10 aa<|f2 aa aa aa ?_;have A:dj s=(G,0):=by unfold dj; rw [if_neg (fun h=>h.elim (fun h=>by rw [h] at C; exact C rfl) fun h=>by omega),if_neg O,V]; exact if_neg ab
 exact ⟨⟨_,by rw [A]; rfl,by rw [A]; exact ai⟩,I⟩
theorem W4 (ps:List (List UInt8)) (a:Option Addr) (c:Nat) (w:ak) (J:aB w.heap a (ps.map str)) (hn:ps.length≤4096) (O:∀ t∈ps,(t.length=1∨3≤t.length)∧t.length≤1048576):
 ba az 274 (a7 [.slice a ps.length c]) w (fun v w'=>v=str (mQ ps)∧Wk w w'):=by
 refine enter func274 aa ntmps274 aa<|bq 13 aa<|cd aa (fun C=> ?_) fun C=> ?_;exact aJ 7 aa<|aR aa<|⟨by unfold mQ; rw [if_pos (fY ab)]; rfl,Md.refl _ _⟩
 refine bz 14 aa<|lp (fun I G E=> ∃ (i:Nat),(i≤ps.length)∧(Wk w E)∧(((ps.take i).flatMap fun t=>j6<|db t).length≤i*300)∧(G 3=str ((ps.take i).flatMap fun t=>j6<|db t))∧(Sl G [(0,.slice a ps.length c),(4,ay i)])∧(ps.length - i=I)) _ ⟨0,ab,(Md.refl _ _),(by simp),(by first | rfl | (rw [fN ps i [] ab,nM,qf]; rfl)),aa,aa⟩ ?_;rintro I G E ⟨i,hi,A,hlen,ac,Z,rfl⟩;refine bA Z<|fx 3 ac<|bq 9 aa<|cd aa (fun Y=> ?_) fun Y=> ?_;refine aH 8 aa<|p (a6 GN aa aa ab<|aB.ok (J.wk A)<|bS ab)<|p (cQ tN aa (aa) (show ∀ j,j < 1→Hb.aV E.heap (bk a) (fo a+i*1 +j)= [str (ps.getD i [])][j]? from fun j ae=>by cases j with | zero=>exact (IV (J.wk A) ab) | succ j=>omega))<|e<|aM (Xy (ps.getD i []) _ (O _<|dR ab).1 (O _<|dR ab).2) aa ?_;rintro ah ai ⟨rfl,V⟩;have ag:=De<|db<|ps.getD i [];exact au 6 aa<|p (cc aa aa ab)<|au 6 aa<|p (bC<|i+1)<|aC 2 aa<|tn<|⟨_,ab,i+1,ab,(Md.trans A V),(by rw [fN ps i [] ab,nM,qf,bG]; omega),(by first | rfl | (rw [fN ps i [] ab,nM,qf]; rfl)),aa,aa⟩
 exact aJ 2 aa<|bK<|bc 9 aa<|aR aa<|⟨by unfold mQ; rw [if_neg (fun h=>by rw [h] at C; exact C aa),show ps.take i=ps from eY ab]; rfl,A⟩
end Go.Hb
end
namespace Go.Hb
theorem HK {α:Type} {l:List α} {i:Nat} {d:α} (h:i < l.length):l.getD i d∈l:=by
 rw [cH,bY h]; exact List.getElem_mem h
theorem CZ (s:List UInt8) (w:ak) (hs:s.length≤1048576):
 ba az 94 (a7 [str s]) w (fun v w'=>bo w' w.heap.size 9 1 (v) (bL s).length ((bL s).map str)∧Wk w w'):=by
 refine enter func94 aa ntmps94 aa<|bq 5 aa ?_;refine ei (fun aT aS=>(Wk w aS)∧(aT 0=str (mV s))) ?_ ?_;refine bg 3 aa<|e<|aM (yI s _) aa ?_;rintro bV b1 ⟨rfl,aI⟩;refine aQ 2 aa<|cb aa (fun V=> ?_) fun V=> ?_;have bP:=UO V;exact aH 2 aa<|p (mS u9 aa aa ab)<|aC 2 aa<|tn<|⟨aI,by show str (s.drop 3)=_; rw [YY V]⟩
 exact aJ 1 aa<|tn<|⟨aI,by show str s=_; rw [YX V]⟩
 rintro aT aS ⟨aA,br⟩;refine fx 0 br ?_;have bR:=zA s;refine aH 7 aa<|e<|mF iP fun av aO bC a9 aW=> ?_;have bn:bo aO w.heap.size 5 1 (.slice (some ⟨av,0,none⟩) 0 0) (([]:List UInt8)).length (U8<|([]:List UInt8)):=aW _<|by have :=aA.size; omega
 have a2:Wk w aO:=Md.trans aA a9.md;refine aQ 15 aa<|lp (fun ay aV Z=> ∃ (i:Nat) (C:List (List UInt8)) (A:List UInt8) (ob:Bool) (G Y:ag),(i≤(mV s).length)∧(C++gz A ((mV s).drop i)=bL s)∧(ob=decide (A≠[]))∧(A.length≤i)∧(Wk w Z)∧(bo Z w.heap.size 9 1 (G) (C).length<|(C).map str)∧(bo Z w.heap.size 5 1 (Y) (A).length<|U8<|A)∧(Sl aV [(0,str (mV s)),(3,G),(4,Y),(5,.bool ob),(6,.int .i64 i)])∧((mV s).length - i=ay)) _ ⟨0,[],[],false,.slice none 0 0,.slice (some ⟨av,0,none⟩) 0 0,ab,aa,aa,(by simp),a2,(dE _ _ _ _),bn,aa,aa⟩ ?_;rintro ay aV Z ⟨i,C,A,ob,G,Y,hi,hd,aN,bI,J,I,E,bs,rfl⟩;refine bA bs ?_;have bJ:C.length≤s.length+1:=by have h1:=congrArg jr hd; have h2:=o6 s; rw [bG] at h1; omega
 have bQ:=J.size;refine bq 9 aa<|cd aa (fun bc=> ?_) fun bc=> ?_;refine aH 9 aa<|p (e5 u9 aa aa ab)<|aQ 3 aa<|cd aa (fun am=> ?_) fun am=> ?_;refine aH 2 aa<|ep (Y)<|au 2 aa<|p (e5 u9 aa aa ab)<|e<|gv iP aa aa fun bx bu bD O aY=> ?_;have aD:Wk w bu:=Md.trans J O.md;refine e<|ap iP (aU E O.md) aa (by have :=aD.size; omega) aa (aB.dT aY) (aa) (aa) ab ab fun bt bW bd aK bS bM=> ?_;have a3:=Wk.own aD (aU E O.md) aK<|cE _;have bf:=rW bd;have bl:=da (aU I O.md) aK fun k hk=>nA I E aw hk;exact p bm<|aC 16 aa<|tn<|⟨_,ab,i+1,C,A++ [(mV s).getD i 0],true,G,bt,ab,(by rw [drop_cons 0 ab,Cf (VA am)] at hd; exact hd),(by simp),(by rw [bG,fg]; omega),a3,bl,bf,aa,aa⟩
 have bb:=TU<|D0 am;obtain ⟨ac,ae,rfl⟩:=cz E;refine aH 4 aa<|ep (G)<|au 1 aa<|e<|aM (Gz A ac ae _ (aX E).2 ab (aX E).1) aa ?_;rintro v30 bX ⟨rfl,ah⟩;refine e<|gv gk aa aa fun bz bv bE aj aZ=> ?_;have aE:Wk w bv:=Md.trans (Md.trans J ah) aj.md;refine e<|ap gk (aU (aU I ah) aj.md) aa (by have :=aE.size; omega) aa (aB.dT aZ) (aa) (aa) ab ab fun v32 bY bh a6 bT bN=> ?_;have aF:=Wk.own aE (aU (aU I ah) aj.md) a6<|cE _;have bi:=nB bh;refine p bm<|au 4 aa<|e<|mF iP fun ax aP bF aL a0=> ?_;have a4:Wk w aP:=Md.trans aF aL.md;have bp:bo aP w.heap.size 5 1 (.slice (some ⟨ax,0,none⟩) 0 0) (([]:List UInt8)).length (U8<|([]:List UInt8)):=a0 _<|by have :=aF.size; omega
 exact aC 13 aa<|tn<|⟨_,ab,i+1,C++ [ka A],[],false,v32,.slice (some ⟨ax,0,none⟩) 0 0,ab,(by rw [drop_cons 0 ab,bb,IS] at hd; rw [List.append_assoc]; exact hd),aa,(by simp),a4,(aU bi aL.md),bp,aa,aa⟩
 refine aJ 2 aa<|bK<|dz 8 aa<|cb aa (fun an=> ?_) fun an=> ?_;have aq:A≠[]:=by have :=aN.symm.trans an; exact of_decide_eq_true this
 obtain ⟨ac,ae,rfl⟩:=cz E;refine aH 1 aa<|ep (G)<|au 1 aa<|e<|aM (Gz A ac ae _ (aX E).2 ab (aX E).1) aa ?_;rintro v37 bZ ⟨rfl,ai⟩;refine e<|gv gk aa aa fun bB bw bH al a1=> ?_;have aG:Wk w bw:=Md.trans (Md.trans J ai) al.md;refine e<|ap gk (aU (aU I ai) al.md) aa (by have :=aG.size; omega) aa (aB.dT a1) (aa) (aa) ab ab fun v39 b0 bj a8 bU bO=> ?_;have a5:=Wk.own aG (aU (aU I ai) al.md) a8<|cE _;have bk:=nB bj;refine p bm<|au 4 aa<|p mv<|p bm<|aC 3 aa<|aR aa ?_;have ao:C++ [ka A]=bL s:=by rw [← hd,show List.drop i (mV s)= [] from iR ab,IQ aq]
 exact ⟨by rw [← ao]; exact bk,a5⟩;have aq:A= []:=D0<|of_decide_eq_false<|aN.symm.trans an;refine aH 4 aa<|ep (G)<|p (nT (G) aa)<|aC 3 aa<|aR aa ?_;have ao:C=bL s:=by rw [← hd,show List.drop i (mV s)= [] from iR ab,aq,Cg,ez]
 exact ⟨by rw [← ao]; exact I,J⟩
set_option maxHeartbeats 1000000 in
theorem J7 (s:List UInt8) (w:ak) (hs:s.length≤1048576):
 ba az 93 (a7 [str s]) w (fun v w'=>(∃ a,v= .tuple #[a,.int .i64 (if 65536 < s.length then 10 else 0)]∧(if 65536 < s.length then a= .slice none 0 0 else ∃ vs,bo w' w.heap.size 209 2 a (bT s).length (k3 vs)∧iH w' w.heap.size 9 vs (bT s)))∧Wk w w'):=by
 refine enter func93 aa ntmps93 aa<|bq 14 aa<|cd aa (fun bd=> ?_) fun bd=> ?_;refine aJ 8 aa<|f2 aa aa aa ?_;have ao:65536 < s.length:=ab;exact ⟨⟨.slice none 0 0,by show gR #[.slice none 0 0,.int .i64 10]=_; rw [if_pos ao],by rw [if_pos ao]⟩,Md.refl _ _⟩;refine aH 10 aa<|e<|aM (CZ s _ hs) aa ?_;rintro bP ai ⟨a0,aI⟩;obtain ⟨aT,aV,rfl⟩:=cz a0;have aY:=(aX a0).2;have bH:=o6 s;refine p bm<|aQ 9 aa<|lp (fun aj a2 aD=> ∃ (i:Nat) (I:ag) (vs:List (Nat×ag)),(i≤(bL s).length)∧(Wk ai aD)∧(bo aD ai.heap.size 209 2 I (lT 1<|(bL s).take i).length<|k3 vs)∧(iH aD ai.heap.size 9 vs<|lT 1<|(bL s).take i)∧(Sl a2 [(4,I),(5,.slice aT (bL s).length aV),(6,.int .i64 i)])∧((bL s).length - i=aj)) _ ⟨0,.slice none 0 0,[],ab,(Md.refl _ _),(dE _ _ _ _),(iH.nil _ _ _),aa,aa⟩ ?_;rintro aj a2 aD ⟨i,I,vs,hi,am,G,ah,br,rfl⟩;refine bA br ?_;have bp:=C4 ((bL s).take i) 1;rw [dJ] at bp;have bJ:=am.size;refine bq 2 aa ?_;have bF:((bL s).getD i []).length≤s.length:=by rcases fG i (bL s).length with h | h <;> first | exact Cd (HK h) | (rw [cH,List.getElem?_eq_none h]; exact gY _)
 refine bz 7 aa<|cd aa (fun bf=> ?_) fun bf=> ?_;refine aH 13 aa<|p (a6 cM aa aa ab<|aB.ok (aY.wk am)<|bS ab)<|p (ld1 aa<|bW.get (i:=i) (aY.wk am) ab)<|e<|aM (WL ((bL s).getD i []) _ ab) aa ?_;rintro v25 aA ⟨a1,E⟩;obtain ⟨a4,a5,rfl⟩:=cz a1;have av:=(aX a1).2;have ae:Wk ai aA:=Md.trans am E;have bD:=vM ((bL s).getD i []) [];refine p bm<|aQ 9 aa<|lp (fun aj a3 aS=> ∃ (j:Nat) (ax:ag),(j≤(c7 []<|(bL s).getD i []).length)∧(∀ q,q < j→wz ((c7 []<|(bL s).getD i []).getD q [])=false)∧(Wk aA aS)∧(bo aS aA.heap.size 9 1 (ax) ((c7 []<|(bL s).getD i []).take j).length<|((c7 []<|(bL s).getD i []).take j).map str)∧(Sl a3 [(4,I),(5,.slice aT (bL s).length aV),(6,.int .i64 i),(7,ax),(8,.slice a4 (c7 []<|(bL s).getD i []).length a5),(9,.int .i64 j)])∧((c7 []<|(bL s).getD i []).length - j=aj)) _ ⟨0,.slice none 0 0,ab,(fun q bn=>by omega),(Md.refl _ _),(dE _ _ _ _),aa,aa⟩ ?_;rintro aj a3 aS ⟨j,ax,aZ,aO,A,Y,bs,rfl⟩;refine bA bs ?_;have bE:((c7 []<|(bL s).getD i []).take j).length≤j:=by rw [dJ]; omega
 have bM:=A.size;refine bg 8 aa<|gs (t:=30) aa (fun bj=> ?_) fun bj=> ?_;refine au 2 aa<|bI aa (a6 cM aa aa ab<|aB.ok (av.wk A)<|bS ab)<|bI aa (ld1 aa<|bW.get (i:=j) (av.wk A) ab)<|bI aa (jz 0 u9 aa aa<|mu.2 (By _ _ _<|HK ab).1)<|aQ 4 aa<|cd aa (fun bh=> ?_) fun bh=> ?_;refine aH 5 aa<|ep (ax)<|au 2 aa<|p (a6 cM aa aa ab<|aB.ok (av.wk A)<|bS ab)<|p (ld1 aa<|bW.get (i:=j) (av.wk A) ab)<|e<|gv gk aa aa fun bw bu bx aL a8=> ?_;have aW:Wk aA bu:=Md.trans A aL.md;refine e<|ap gk (aU Y aL.md) aa (by have :=aW.size; omega) aa (aB.dT a8) (aa) (aa) ab ab fun v46 bQ bk bb bN bB=> ?_;have a9:=Wk.own aW (aU Y aL.md) bb<|cE _;have bl:=nB bk;exact p bm<|aC 8 aa<|tn<|⟨_,ab,j+1,v46,ab,(fun q bn=>by rcases fG q j with h | h <;> first | exact aO q h | (rw [show q=j by omega]; exact decide_eq_false ab)),a9,(by rw [fN _ j [] ab]; exact bl),aa,aa⟩
 have an:o5 (c7 []<|(bL s).getD i [])=((c7 []<|(bL s).getD i []).take j):=yD aZ aO<|.inr<|decide_eq_true ab;obtain ⟨O,V,rfl⟩:=cz Y;refine aJ 2 aa<|bK<|dz 9 aa<|cd aa (fun ac=> ?_) fun ac=> ?_;have J:lR ((bL s).getD i []) (1 +i)= [(i+1,((c7 []<|(bL s).getD i []).take j))]:=by unfold lR; rw [an,if_neg (fun h=>by rw [h] at ac; simp at ac),M7]
 refine aH 1 aa<|ep (I)<|au 1 aa<|p (bC<|i+1)<|au 1 aa<|p (cV (ps:= [(0,ay (i+1)),(1,.slice O ((c7 []<|(bL s).getD i []).take j).length V)]) (L:= [ay (i+1),.slice O ((c7 []<|(bL s).getD i []).take j).length V]) KJ aa<|aa)<|e<|lf zi aa aa aa fun aE aq bc C aF=> ?_;have aG:bO aq.heap aE [ay (i+1),.slice O ((c7 []<|(bL s).getD i []).take j).length V]:=aF;have al:Wk ai aq:=Md.trans ae<|Md.trans A C.md;refine e<|ap zi (aU (aU (aU G E) A) C.md) aa (by have :=al.size; omega) aa (aB.dT aG) (aa) (aa) ab ab fun aR bv aN Z bt bi=> ?_;have aK:=Wk.own al (aU (aU (aU G E) A) C.md) Z<|cE _;have aP:=((((ah.wk E).wk A).wk C.md).md Z<|iO (aU (aU (aU G E) A) C.md) aw).snoc (n:=i+1)<|Tg.j5<|eR (da (aU Y C.md) Z fun k hk=>nA (aU Y C.md) (aU (aU (aU G E) A) C.md) aw hk)<|by have :=Md.size ae; omega
 exact p bm<|aC 8 aa<|tn<|⟨_,ab,i+1,aR,vs++ [(i+1,.slice O ((c7 []<|(bL s).getD i []).take j).length V)],ab,aK,(by rw [fN _ i [] ab,oy,show ((bL s).take i).length=i from by rw [dJ]; omega,J,bG,Dc]; exact aN),(by rw [fN _ i [] ab,oy,show ((bL s).take i).length=i from by rw [dJ]; omega,J]; exact aP),aa,aa⟩
 have J:∀ n,lR ((bL s).getD i []) n= []:=fun n=>by unfold lR; rw [an,if_pos (Ad.1 ab)]
 exact aJ 8 aa<|tn<|⟨_,ab,i+1,I,vs,ab,(Md.trans ae A),(by rw [fN _ i [] ab,oy,J,ez]; exact aU (aU G E) A),(by rw [fN _ i [] ab,oy,J,ez]; exact (ah.wk E).wk A),aa,aa⟩
 have an:o5 (c7 []<|(bL s).getD i [])=((c7 []<|(bL s).getD i []).take j):=yD aZ aO<|.inl ab;obtain ⟨O,V,rfl⟩:=cz Y;refine aC 12 aa<|bK<|dz 9 aa<|cd aa (fun ac=> ?_) fun ac=> ?_;have J:lR ((bL s).getD i []) (1 +i)= [(i+1,((c7 []<|(bL s).getD i []).take j))]:=by unfold lR; rw [an,if_neg (fun h=>by rw [h] at ac; simp at ac),M7]
 refine aH 1 aa<|ep (I)<|au 1 aa<|p (bC<|i+1)<|au 1 aa<|p (cV (ps:= [(0,ay (i+1)),(1,.slice O ((c7 []<|(bL s).getD i []).take j).length V)]) (L:= [ay (i+1),.slice O ((c7 []<|(bL s).getD i []).take j).length V]) KJ aa<|aa)<|e<|lf zi aa aa aa fun aE aq bc C aF=> ?_;have aG:bO aq.heap aE [ay (i+1),.slice O ((c7 []<|(bL s).getD i []).take j).length V]:=aF;have al:Wk ai aq:=Md.trans ae<|Md.trans A C.md;refine e<|ap zi (aU (aU (aU G E) A) C.md) aa (by have :=al.size; omega) aa (aB.dT aG) (aa) (aa) ab ab fun aR bv aN Z bt bi=> ?_;have aK:=Wk.own al (aU (aU (aU G E) A) C.md) Z<|cE _;have aP:=((((ah.wk E).wk A).wk C.md).md Z<|iO (aU (aU (aU G E) A) C.md) aw).snoc (n:=i+1)<|Tg.j5<|eR (da (aU Y C.md) Z fun k hk=>nA (aU Y C.md) (aU (aU (aU G E) A) C.md) aw hk)<|by have :=Md.size ae; omega
 exact p bm<|aC 8 aa<|tn<|⟨_,ab,i+1,aR,vs++ [(i+1,.slice O ((c7 []<|(bL s).getD i []).take j).length V)],ab,aK,(by rw [fN _ i [] ab,oy,show ((bL s).take i).length=i from by rw [dJ]; omega,J,bG,Dc]; exact aN),(by rw [fN _ i [] ab,oy,show ((bL s).take i).length=i from by rw [dJ]; omega,J]; exact aP),aa,aa⟩
 have J:∀ n,lR ((bL s).getD i []) n= []:=fun n=>by unfold lR; rw [an,if_pos (Ad.1 ab)]
 exact aJ 8 aa<|tn<|⟨_,ab,i+1,I,vs,ab,(Md.trans ae A),(by rw [fN _ i [] ab,oy,J,ez]; exact aU (aU G E) A),(by rw [fN _ i [] ab,oy,J,ez]; exact (ah.wk E).wk A),aa,aa⟩
 refine aJ 2 aa<|bK<|dq 4 aa<|ep (I)<|p (nT (I) aa)<|aC 4 aa<|f2 aa aa aa ?_;have ao:¬65536 < s.length:=ab;rw [show (bL s).take i=bL s from eY ab] at G ah;exact ⟨⟨I,by show gR #[I,.int .i64 0]=_; rw [if_neg ao],by rw [if_neg ao]; exact ⟨vs,eR G aI.size,ah.mono aI.size⟩⟩,Md.trans aI am⟩
end Go.Hb
section
namespace Go.Hb.tK
open Go.Hb.xE
theorem wU {s:Tx} {k:Tx} {i:Nat} (h:s=k) (h1:k∈eh) (h2:eh.idxOf k=i):qQ s=(i:Nat):=by subst h; unfold qQ; rw [if_pos h1,h2]
theorem XL {s:Tx} (h:s∉eh):qQ s= -1:=if_neg h
def ux:List Tx:= [iN,ja,jj,kG,fA,eN]
theorem Lv {s:Tx} (h:s∈eh):width s=2:=if_pos<|.inl h
theorem Zn {s:Tx} (h:s∈ux):width s=2:=by
 unfold width;rw [if_pos];simpa [ux] using Or.inr (fi.1 h)
theorem Lw {s:Tx} (h:s=fU∨s=dt):width s=4:=by
 unfold width;rw [if_neg,if_pos h];rcases h with rfl | rfl <;> decide
theorem Zo {s:Tx} (h:s∉eh) (h1:s∉ux) (h2:s≠fU) (h3:s≠dt):width s=0:=by
 unfold width;rw [if_neg,if_neg (by simp [h2,h3])];intro h4;rcases h4 with h4 | h4
 · exact h h4
 · exact h1<|by simpa [ux] using h4
theorem HN {F:aE} {V:eo} {i:Nat} (hi:i < 5):(o3 F V).toArray[0 +3 +((i:Nat):Int).toNat*1]? =some (bJ<|F.sp.getD i 0):=by
 match i,hi with
 | 0,_=>rfl
 | 1,_=>rfl
 | 2,_=>rfl
 | 3,_=>rfl
 | 4,_=>rfl
theorem vV {x:Nat} {l:List Nat} (h:∀ j,j < l.length→l.getD j 0≠x):x∉l:=fun hm=>by
 obtain ⟨j,A,e⟩:=mM 0 hm;exact h j A e
theorem RL {x:Nat} :∀ {cs:List di} {i:Nat} {c:di},(∀ j,j < i→(cs.getD j oT).flag≠x)→cs[i]? =some c→c.flag=x→eb cs x=some c:=by
 intro cs
 induction cs with
 | nil=>intro i c _ h; simp at h
 | cons a l G=>
   intro i c C hi E;unfold eb;rw [List.find?_cons];cases i with
   | zero=>simp only [List.getElem?_cons_zero,gJ] at hi; subst hi; simp [E]
   | succ i=>
     have A:=C 0 ab;simp only [lW] at A;rw [decide_eq_false A];exact G (i:=i) (fun j I=>by have :=C (j+1) ab; simpa using this) (by simpa using hi) E
theorem RN {x:Nat} {cs:List di} (h:∀ j,j < cs.length→(cs.getD j oT).flag≠x):eb cs x=none:=by
 unfold eb;rw [List.find?_eq_none];intro c A;obtain ⟨j,C,e⟩:=mM oT A;have :=h j C;rw [e] at this;simpa using this
theorem Sh (l:List di):(rK l).length=l.length*5:=mJ (f:=og) (m:=5) (fun _=>rfl) _
theorem yt {l:List di} (h:0 < l.length):rK l≠[]:=fun h2=>by have :=congrArg jr h2; rw [Sh] at this; simp at this; omega
theorem vC {l:List di} {i:Nat} (h:i < l.length):l[i]? =some (l.getD i oT):=by rw [cH,bY h]; rfl
theorem Gj {F:aE} {x:Nat} (h:x∈F.sp):eM F x=true :=by unfold eM; rw [decide_eq_true h]; rfl
theorem Gk {F:aE} {x:Nat} (h:x∉F.sp):eM F x=(eb F.bw x).isSome:=by unfold eM; rw [decide_eq_false h]; rfl
theorem yW {s:Tx} (h:s∈eh∨s=eN∨s=fU∨s=dt):s∈lS:=by
 rcases h with h | rfl | rfl | rfl
 · have :∀ k∈eh,k∈lS:=aw;exact this s h
 all_goals decide
theorem VR {s:Tx} (h:s∉eh) (h1:s≠eN) (h2:s≠fU) (h3:s≠dt):s∉lS:=by
 intro h4;have :∀ k∈lS,k∈eh∨k=eN∨k=fU∨k=dt:=aw;rcases this s h4 with h5 | h5 | h5 | h5
 · exact h h5
 · exact h1 h5
 · exact h2 h5
 · exact h3 h5
theorem yX {seen:List Tx} (h:∀ j,j < seen.length→seen.getD j []∉lS):ordered seen=true :=by
 rw [CI];intro k hk C;obtain ⟨j,A,e⟩:=mM [] C;exact h j A<|e ▸ hk
theorem BQ (s:Tx) (w:ak):
 ba az 151 (a7 [str s]) w (fun v w'=>v= .int .i64 (qQ s)∧w'=w):=by
 refine enter func151 aa ntmps151 aa<|bq 18 aa<|cd aa (fun E=> ?_) fun E=> ?_;exact aJ 8 aa<|aR aa<|⟨by rw [wU (k:=kH) (i:=0) E aw aw]; rfl,aa⟩
 refine bz 6 aa<|cd aa (fun G=> ?_) fun G=> ?_;exact aJ 8 aa<|aR aa<|⟨by rw [wU (k:=kW) (i:=1) G aw aw]; rfl,aa⟩
 refine bz 6 aa<|cd aa (fun I=> ?_) fun I=> ?_;exact aJ 8 aa<|aR aa<|⟨by rw [wU (k:=lk) (i:=2) I aw aw]; rfl,aa⟩
 refine bz 6 aa<|cd aa (fun A=> ?_) fun A=> ?_;exact aJ 8 aa<|aR aa<|⟨by rw [wU (k:=lP) (i:=3) A aw aw]; rfl,aa⟩
 refine bz 6 aa<|cd aa (fun C=> ?_) fun C=> ?_;exact aJ 8 aa<|aR aa<|⟨by rw [wU (k:=l8) (i:=4) C aw aw]; rfl,aa⟩
 exact aJ 9 aa<|aR aa<|⟨by rw [XL (by unfold eh; simp only [fi,List.not_mem_nil,or_false,not_or]; exact ⟨E,G,I,A,C⟩)]; rfl,aa⟩
theorem SQ (s:Tx) (w:ak):
 ba az 95 (a7 [str s]) w (fun v w'=>v=ay (width s)∧Wk w w'):=by
 refine enter func95 aa ntmps95 aa<|bg 8 aa<|e<|aM (BQ s w) aa ?_;rintro v5 an ⟨rfl,am⟩;have C:Wk w an:=by rw [am]; exact Md.refl _ _
 refine aQ 10 aa<|cd aa (fun V=> ?_) fun V=> ?_;have G:=uz.1 V;exact aJ 7 aa<|aR aa<|⟨by rw [Lv G]; rfl,C⟩
 have G:s∉eh:=fun h=>V<|uz.2 h;refine bz 9 aa ?_;refine ei (fun ah ae=> ∃ (b:Bool),(b=decide (s∈ux))∧(Wk w ae)∧(Sl ah [(8,str s),(9,.bool b)])) ?_ ?_;refine bq 6 aa<|cd aa (fun A=> ?_) fun A=> ?_;exact aJ 1 aa<|tn<|⟨_,(by rw [A]; decide),C,aa⟩
 refine bz 6 aa<|cd aa (fun A=> ?_) fun A=> ?_;exact aJ 1 aa<|tn<|⟨_,(by rw [A]; decide),C,aa⟩
 refine bz 6 aa<|cd aa (fun A=> ?_) fun A=> ?_;exact aJ 1 aa<|tn<|⟨_,(by rw [A]; decide),C,aa⟩
 refine bz 6 aa<|cd aa (fun A=> ?_) fun A=> ?_;exact aJ 1 aa<|tn<|⟨_,(by rw [A]; decide),C,aa⟩
 refine bz 6 aa<|cd aa (fun A=> ?_) fun A=> ?_;exact aJ 1 aa<|tn<|⟨_,(by rw [A]; decide),C,aa⟩
 exact aJ 4 aa<|tn<|⟨_,(by clear G; unfold ux; simp_all [iN,ja,jj,kG,fA,eN]),C,aa⟩
 rintro ah ae ⟨b,O,J,ac⟩;refine bA ac<|cb aa (fun A=> ?_) fun A=> ?_;exact aJ 8 aa<|aR aa<|⟨by rw [Zn (of_decide_eq_true<|O.symm.trans A)]; rfl,J⟩
 refine ei (fun ai ag=> ∃ (I:Bool),(I=decide (s=fU∨s=dt))∧(Wk w ag)∧(Sl ai [(16,.bool I)])) ?_ ?_;refine bq 6 aa<|cd aa (fun E=> ?_) fun E=> ?_;exact aJ 1 aa<|tn<|⟨_,(by rw [E]; decide),J,aa⟩
 exact aJ 4 aa<|tn<|⟨_,(by clear O ac; simp [fU,dt,E]),J,aa⟩
 rintro ai ag ⟨I,ab,Z,al⟩;refine bA al<|cb aa (fun E=> ?_) fun E=> ?_;exact aJ 8 aa<|aR aa<|⟨by rw [Lw (of_decide_eq_true<|ab.symm.trans E)]; rfl,Z⟩
 refine aJ 9 aa<|aR aa ?_;have aj:=of_decide_eq_false<|O.symm.trans A;have Y:=of_decide_eq_false<|ab.symm.trans E;exact ⟨by rw [Zo G aj (fun h=>Y<|.inl h) (fun h=>Y<|.inr h)]; rfl,Z⟩
theorem BR (B:Nat) (H:gD) (k ln:Nat) (seen:List Tx) (vh:ag) (key:Tx) (w:ak) (A:iG w B H k ln seen vh) (ah:seen.length≤70000):
 ba az 96 (a7 [bj H.rb,str key]) w (fun v w'=>v= .bool (decide (key∈seen))∧w'=w):=by
 obtain ⟨ac,ae,rfl⟩:=cz A.hd;refine enter func96 aa ntmps96 aa<|bq 12 aa<|lp (fun E O J=> ∃ (i:Nat),(i≤seen.length)∧(∀ j,j < i→seen.getD j []≠key)∧(J=w)∧(Sl O [(0,bj H.rb),(1,str key),(5,ay i)])∧(seen.length - i=E)) _ ⟨0,ab,(fun j G=>by omega),aa,aa,aa⟩ ?_;rintro E O J ⟨i,hi,I,V,Z,rfl⟩;refine bA Z ?_;subst V;refine bg 7 aa<|p (ld1 aa<|(a8 A.cells).trans aa)<|aQ 4 aa<|cd aa (fun Y=> ?_) fun Y=> ?_;refine aH 9 aa<|p (ld1 aa<|(a8 A.cells).trans aa)<|au 1 aa<|p (a6 cM aa aa ab<|aB.ok ((aX A.hd).2)<|bS ab)<|p (ld1 aa<|bW.get (i:=i) (aX A.hd).2 ab)<|aQ 4 aa<|cd aa (fun C=> ?_) fun C=> ?_;exact aJ 8 aa<|tr<|bc 2 aa<|aR aa<|⟨by rw [decide_eq_true (show key∈seen from C ▸ dR ab)]; rfl,aa⟩
 exact aJ 8 aa<|tn<|⟨_,ab,i+1,ab,(fun j G=>by rcases fG j i with h | h <;> first | exact I j h | (rw [show j=i by omega]; exact C)),aa,aa,aa⟩
 exact aJ 2 aa<|bK<|bc 8 aa<|aR aa<|⟨by rw [decide_eq_false (show ¬key∈seen from fun h=>by obtain ⟨j,G,e⟩:=mM [] h; exact I j ab e)]; rfl,aa⟩
theorem BG (B B0 fb:Nat) (F:aE) (V:eo) (x:Nat) (w:ak) (Z:eL w B B0 fb F V) (aG:F.bw.length≤70000):
 ba az 98 (a7 [bj fb,bJ x]) w (fun v w'=>v= .tuple #[.agg (og<|(eb F.bw x).getD oT).toArray,.bool (eb F.bw x).isSome]∧Wk w w'):=by
 obtain ⟨aj,an,ae⟩:=cz Z.eC;refine enter func98 aa ntmps98 aa<|bg 2 aa<|e<|al tg fun am ag aF E O=> ?_;have Y:=Z.wk E.md;have G:Hb.aV ag.heap fb 11=some (.slice aj F.bw.length an):=by rw [← ae]; exact (a8 Y.cells).trans rfl
 have A:=Y.eC;rw [ae] at A;refine aQ 10 aa<|lp (fun J ai ah=> ∃ (i:Nat),(i≤F.bw.length)∧(∀ j,j < i→(F.bw.getD j oT).flag≠x)∧(ah=ag)∧(Sl ai [(0,bj fb),(1,bJ x),(4,bj am),(6,ay i)])∧(F.bw.length - i=J)) _ ⟨0,ab,(fun j C=>by omega),aa,aa,aa⟩ ?_;rintro J ai ah ⟨i,hi,I,aq,aD,rfl⟩;refine bA aD ?_;subst aq;refine bg 7 aa<|p (ld1 aa<|G)<|aQ 4 aa<|cd aa (fun aA=> ?_) fun aA=> ?_;refine aH 9 aa<|p (ld1 aa<|G)<|au 1 aa<|p (a6 yb aa aa ab<|aB.ok ((aX A).2)<|yt ab)<|au 1 aa<|p (ld1 aa<|fI (f:=og) (m:=5) (fun _=>rfl) (aX A).2 (vC (by omega :i < F.bw.length)) 0 aw)<|ep (bJ x)<|aQ 3 aa<|cd aa (fun ac=> ?_) fun ac=> ?_;exact aH 5 aa<|p (ld1 aa<|G)<|au 1 aa<|p (a6 yb aa aa ab<|aB.ok ((aX A).2)<|yt ab)<|p (cQ tM aa (aa)<|fI (f:=og) (m:=5) (fun _=>rfl) (aX A).2<|vC (by omega :i < F.bw.length))<|e<|c8 rB aa aa aa aa (O) (by simp) fun aI av ao=>aC 6 aa<|tr<|bc 2 aa<|eF aa (dU (cs:=og<|F.bw.getD i oT) aa tM aa fun j C=>ao.bu j) et<|⟨by rw [RL I (vC ab) ab]; rfl,E.md.trans' av fun k hk h=>by omega⟩
 exact aJ 8 aa<|tn<|⟨_,ab,i+1,ab,(fun j C=>by rcases fG j i with h | h <;> first | exact I j h | (rw [show j=i by omega]; exact fun h2=>ac<|by rw [h2])),aa,aa,aa⟩
 exact aJ 2 aa<|bK<|dq 4 aa<|p (cV (ps:= []) (L:= [.int .i64 0,.int .i64 0,.bool false,.int .i64 0,.int .i64 0]) KL aa<|aa)<|e<|c8 rB aa aa aa aa (O) (by simp) fun aK ax ap=>aC 4 aa<|eF aa (dU (cs:=og oT) aa tM aa fun j C=>ap.bu j) et<|⟨by rw [RN (fun j C=>I j ab)]; rfl,E.md.trans' ax fun k hk h=>by omega⟩
theorem Si (B B0 fb:Nat) (F:aE) (V:eo) (x:Nat) (w:ak) (A:eL w B B0 fb F V) (ai:F.bw.length≤70000):
 ba az 212 (a7 [bj fb,bJ x]) w (fun v w'=>v= .bool (eM F x)∧Wk w w'):=by
 have ap:=A.gl;refine enter func212 aa ntmps212 aa<|bq 12 aa<|lp (fun E Y C=> ∃ (i:Nat),(i≤5)∧(∀ j,j < i→F.sp.getD j 0≠x)∧(C=w)∧(Sl Y [(0,bj fb),(1,bJ x),(5,ay i)])∧(5 - i=E)) _ ⟨0,ab,(fun j J=>by omega),aa,aa,aa⟩ ?_;rintro E Y C ⟨i,hi,O,ac,aj,rfl⟩;refine bA aj ?_;subst ac;refine bq 7 aa<|cd aa (fun ah=> ?_) fun ah=> ?_;refine aH 10 aa<|p (kF tP aa aa ab)<|p (ld1 aa<|(a8 A.cells).trans<|HN (i:=i) ab)<|ep (bJ x)<|aQ 3 aa<|cd aa (fun I=> ?_) fun I=> ?_;exact aJ 8 aa<|tr<|bc 2 aa<|aR aa<|⟨by rw [Gj (show x∈F.sp from by obtain rfl :F.sp.getD i 0=x:=ab; exact dR ab)]; rfl,Md.refl _ _⟩
 exact aJ 8 aa<|tn<|⟨_,ab,i+1,ab,(fun j J=>by rcases fG j i with h | h <;> first | exact O j h | (rw [show j=i by omega]; exact fun h2=>I<|by rw [h2])),aa,aa,aa⟩
 refine aJ 2 aa<|bK<|dq 5 aa<|ep (bJ x)<|e<|aM (BG B B0 fb F V x C A ai) aa ?_;rintro v23 av ⟨rfl,G⟩;have aq:=G.size;exact p mv<|au 2 aa<|e<|al tg fun am aw ao ag Z=>e<|c8 rB aa aa aa aa (Z) (by simp) fun ax ae an=>aC 10 aa<|aR aa<|⟨by rw [Gk (vV fun j J=>O j ab)]; rfl,(G.trans ag.md).trans' ae fun k hk h=>by omega⟩
theorem BH (s:Tx) (w:ak) (hs:s.length≤1048576):
 ba az 273 (a7 [str s]) w (fun v w'=>v=ay (hZ s)∧Wk w w'):=by
 refine enter func273 aa ntmps273 aa<|bg 8 aa<|e<|aM (wv s w hs) aa ?_;rintro v5 Y ⟨rfl,A⟩;refine au 10 aa<|gs (t:=9) aa (fun G=> ?_) fun G=> ?_;have V:=fY (show s.length=0 by omega);exact aC 13 aa<|aR aa<|⟨by rw [yf (.inl V)]; rfl,A⟩
 have I:s≠[]:=fun h=>G<|by rw [h]; rfl
 refine aQ 5 aa<|cb aa (fun C=> ?_) fun C=> ?_;refine aJ 7 aa<|aR aa ?_;have J:gL s=false :=by simpa using C
 exact ⟨by rw [yf (.inr J)]; rfl,A⟩;refine bz 10 aa<|cd aa (fun O=> ?_) fun O=> ?_;refine aJ 7 aa<|aR aa ?_;have E:gL s=true :=by simpa using C
 exact ⟨by rw [G9 I E ab]; rfl,A⟩;refine aJ 8 aa<|aR aa ?_;have E:gL s=true :=by simpa using C
 exact ⟨by rw [Ha I E ab]; rfl,A⟩
theorem BM (s:Tx) (G:Bool) (w:ak) (hs:s.length≤1048576):
 ba az 253 (a7 [str s,.bool G]) w (fun v w'=>(∃ (a:Tx) (e:Nat),v= .tuple #[str a,ay e]∧((eG G s= .ok a∧e=0)∨(eG G s= .error e∧e≠0)))∧Wk w w'):=by
 have ac:=td s;refine enter func253 aa ntmps253 aa<|bg 11 aa<|gb (t:=11) aa (fun I=> ?_) fun I=> ?_;refine aQ 5 aa<|cd aa (fun O=> ?_) fun O=> ?_;exact aJ 8 aa<|f2 aa aa aa<|⟨⟨[],0,aa,.inl ⟨by rw [I]; exact JE O,aa⟩⟩,Md.refl _ _⟩
 have C:eG G s=eG false s:=by rw [I]; exact CQ O
 refine aH 5 aa<|e<|aM (zd s w hs) aa ?_;rintro v17 Y ⟨rfl,E⟩;refine p mv<|aQ 17 aa<|cd aa (fun V=> ?_) fun V=> ?_;exact aJ 9 aa<|f2 aa aa aa<|⟨⟨[],_,aa,.inr ⟨C.trans (CM ab),ab⟩⟩,E⟩
 refine bz 8 aa<|cb aa (fun A=> ?_) fun A=> ?_;exact aJ 8 aa<|f2 aa aa aa<|⟨⟨[],114,aa,.inr ⟨C.trans (CN ab A),aw⟩⟩,E⟩
 refine aH 6 aa<|e<|aM (BH (bD s).1 Y ab) aa ?_;rintro v28 Z ⟨rfl,J⟩;refine aC 5 aa<|f2 aa aa aa ?_;refine ⟨⟨(bD s).1,hZ (bD s).1,aa,?_⟩,E.trans J⟩;by_cases h:hZ (bD s).1=0;exact .inl ⟨C.trans (CP ab A h),h⟩;exact .inr ⟨C.trans (CO ab A h),h⟩;have C:eG G s=eG false s:=by rw [I]
 refine au 11 aa<|e<|aM (zd s w hs) aa ?_;rintro v17 Y ⟨rfl,E⟩;refine p mv<|aQ 17 aa<|cd aa (fun V=> ?_) fun V=> ?_;exact aJ 9 aa<|f2 aa aa aa<|⟨⟨[],_,aa,.inr ⟨C.trans (CM ab),ab⟩⟩,E⟩
 refine bz 8 aa<|cb aa (fun A=> ?_) fun A=> ?_;exact aJ 8 aa<|f2 aa aa aa<|⟨⟨[],114,aa,.inr ⟨C.trans (CN ab A),aw⟩⟩,E⟩
 refine aH 6 aa<|e<|aM (BH (bD s).1 Y ab) aa ?_;rintro v28 Z ⟨rfl,J⟩;refine aC 5 aa<|f2 aa aa aa ?_;refine ⟨⟨(bD s).1,hZ (bD s).1,aa,?_⟩,E.trans J⟩;by_cases h:hZ (bD s).1=0;exact .inl ⟨C.trans (CP ab A h),h⟩;exact .inr ⟨C.trans (CO ab A h),h⟩
theorem HL (B fb:Nat) (F:aE) (V:eo) (s:Tx) (w:ak) (E:oL w B 0 fb F V) (hk:F.kind=1∨F.kind=2∨F.kind=3) (aq:F.aliases.length≤70000) (hs:s.length≤1048576):
 ba az 159 (a7 [bj fb,str s]) w (fun v w'=>(∃ (a:ag) (e:Nat),v= .tuple #[a,ay e]∧a.oneCell'=true∧((∃ l,e=0∧gx F.kind F.aliases s= .ok l∧Tg w' 0 3 l.length a (l.map bJ))∨(e≠0∧gx F.kind F.aliases s= .error e)))∧Wk w w'):=by
 obtain ⟨ah,aj,ae⟩:=cz E.e6;have O:=E.e6;rw [ae] at O;have I:Hb.aV w.heap fb 10=some (.slice ah F.aliases.length aj):=by rw [← ae]; exact (a8 E.cells).trans rfl
 refine enter func159 aa ntmps159 aa<|bg 12 aa<|p (ld1 aa<|I)<|aQ 4 aa<|cd aa (fun J=> ?_) fun J=> ?_;have C:F.aliases= []:=fY ab;refine aH 5 aa<|p (ld1 aa<|(a8 E.cells).trans aa)<|au 1 aa<|e<|aM (J0 F.kind s _ hk hs) aa ?_;rintro ax aD ⟨⟨ap,rfl,ac⟩,hE19⟩;refine au 2 aa<|p bm<|aC 5 aa<|f2 aa aa aa ?_;obtain ⟨a0,ai,rfl⟩:=cz ac;refine ⟨⟨_,_,aa,aa,?_⟩,hE19⟩;by_cases h:(ed F.kind s).2=0;exact .inl ⟨_,h,by rw [yj C]; exact yq h,(Tg.j5 ac).mono<|gY _⟩;exact .inr ⟨h,by rw [yj C]; exact yp h⟩;have C:F.aliases≠[]:=fun h=>by rw [h] at J; exact J rfl
 refine aH 8 aa<|p (ld1 aa<|I)<|au 1 aa<|e<|aM (s6 s (F.aliases.length:Nat) _ hs ab) aa ?_;rintro aA aF ⟨rfl,A⟩;refine p mv<|au 12 aa<|gs (t:=34) aa (fun an=> ?_) fun an=> ?_;exact aC 14 aa<|f2 aa aa aa<|⟨⟨.slice none 0 0,13,aa,aa,.inr ⟨aw,Hm C (qN ab).1⟩⟩,A⟩
 refine aQ 5 aa<|cd aa (fun am=> ?_) fun am=> ?_;refine aJ 8 aa<|f2 aa aa aa ?_;have G:=o8 (by omega :(ee s (F.aliases.length:Nat)).2=0);rw [show (ee s (F.aliases.length:Nat)).1=0 from by omega] at G;exact ⟨⟨.slice none 0 0,13,aa,aa,.inr ⟨aw,Hq C G⟩⟩,A⟩;refine bz 3 aa ?_;have G:=o8 (by omega :(ee s (F.aliases.length:Nat)).2=0);have av:=rT s (F.aliases.length:Nat) ab;have ao:(ee s (F.aliases.length:Nat)).1 - 1 < F.aliases.length:=ab;obtain ⟨v51,Y,Z⟩:=iT.get (E.al.wk A) ao;refine aH 4 aa<|p (ld1 aa<|Wk.aV A I)<|au 1 aa<|p (dQ<|(ee s (F.aliases.length:Nat)).1 - 1)<|p (a6 RA aa aa ab<|aB.ok ((aX<|aU O A).2) fun h=>by rw [h] at Y; cases Y)<|p (ld1 aa<|aB.gV (aX<|aU O A).2 Y)<|p bm<|aC 4 aa<|f2 aa aa aa ?_;obtain ⟨a0,ai,rfl⟩:=Z.slice;exact ⟨⟨_,0,aa,aa,.inl ⟨_,aa,Hp C G ab,Z⟩⟩,A⟩
theorem HM (B:Nat) (H:gD) (F:aE) (V:eo) (k ln:Nat) (seen:List Tx) (vh:ag) (s:Tx) (w:ak) (G:eL w B 0 H.fb F V) (I:iG w B H k ln seen vh) (hk:F.kind=1∨F.kind=2∨F.kind=3) (O:F.bw.length≤70000) (hs:s.length≤1048576):
 ba az 152 (a7 [bj H.rb,str s]) w (fun v w'=>(∃ x e:Nat,v= .tuple #[bJ x,ay e]∧((ic F s= .ok x∧x≠0∧e=0)∨(ic F s= .error e∧e≠0)))∧Wk w w'):=by
 refine enter func152 aa ntmps152 aa<|bg 11 aa<|p (ld1 aa<|(a8 I.cells).trans aa)<|au 2 aa<|p (ld1 aa<|(a8 G.cells).trans aa)<|au 1 aa<|e<|aM (WY F.kind s w hk hs) aa ?_;rintro Z Y ⟨rfl,A⟩;refine p mv<|aQ 13 aa<|cd aa (fun J=> ?_) fun J=> ?_;exact aJ 9 aa<|f2 aa aa aa<|⟨⟨0,(ir F.kind s).2,aa,.inr ⟨HG ab,ab⟩⟩,A⟩
 refine aH 7 aa<|p (ld1 aa<|(a8 (I.wk A).cells).trans aa)<|au 1 aa<|e<|aM (Si B 0 H.fb F V (ir F.kind s).1 Y (G.wk A) O) aa ?_;rintro ac ae ⟨rfl,E⟩;refine aQ 9 aa<|cb aa (fun C=> ?_) fun C=> ?_;exact aJ 8 aa<|f2 aa aa aa<|⟨⟨0,115,aa,.inr ⟨HH ab C,aw⟩⟩,A.trans E⟩
 exact aJ 10 aa<|f2 aa aa aa<|⟨⟨_,0,aa,.inl ⟨HI ab C,Hy ab,aa⟩⟩,A.trans E⟩
theorem SE (ah:ak) (H:gD) (F:aE) (k ln:Nat) (seen r:List Tx) (aF:Nat) (ar:Option Addr) (cr:Nat) (w:ak) (aI:na ah w H F k ln seen) (hT:Tg w aF 9 r.length (.slice ar r.length cr) (r.map str)) (aU:r.length=2) (aV:∀ x∈r,x.length≤70000):
 ba az 153 (a7 [bj H.rb,.slice ar r.length cr]) w (gd ah H seen<|kI F seen (H.rows.drop k) ln r):=by
 obtain ⟨V,vh,C,A,E,I,aq⟩:=aI;have aA:=hT.cW;have aT:=A.lo;have aS:=E.len;obtain ⟨aO,aP,rfl⟩:=cz A.hd;have aW:=E.sl;refine enter func153 aa ntmps153 aa<|bq 12 aa<|lp (fun ax aD av=> ∃ (i:Nat),(i≤seen.length)∧(∀ j,j < i→seen.getD j []∉lS)∧(av=w)∧(Sl aD [(0,bj H.rb),(1,.slice ar r.length cr),(5,ay i)])∧(seen.length - i=ax)) _ ⟨0,ab,(fun j ae=>by omega),aa,aa,aa⟩ ?_;rintro ax aD av ⟨i,hi,ag,aG,aL,rfl⟩;refine bA aL ?_;subst aG;refine bg 7 aa<|p (ld1 aa<|(a8 A.cells).trans aa)<|aQ 4 aa<|cd aa (fun aK=> ?_) fun aK=> ?_;refine aH 9 aa<|p (ld1 aa<|(a8 A.cells).trans aa)<|au 1 aa<|p (a6 cM aa aa ab<|aB.ok ((aX A.hd).2)<|bS ab)<|p (ld1 aa<|bW.get (i:=i) (aX A.hd).2 ab)<|e<|aM (BQ (seen.getD i []) av) aa ?_;rintro v23 aY ⟨rfl,aN⟩;subst aN;refine au 8 aa<|gs (t:=26) aa (fun an=> ?_) fun an=> ?_;exact au 9 aa<|p mv<|au 9 aa<|p mv<|aC 20 aa<|tr<|bc 2 aa<|aR aa<|⟨.inr ⟨ln,113,vR (k:=seen.getD i []) (yW<|.inl<|uz.1 an) (dR ab),aw,aa,A.du⟩,I⟩
 refine au 3 aa<|bI aa (ld1 aa<|(a8 A.cells).trans aa)<|au 1 aa<|bI aa (a6 cM aa aa ab<|aB.ok ((aX A.hd).2)<|bS ab)<|bI aa (ld1 aa<|bW.get (i:=i) (aX A.hd).2 ab)<|au 3 aa<|gs (t:=36) aa (fun ao=> ?_) fun ao=> ?_;exact au 9 aa<|p mv<|aC 20 aa<|tr<|bc 2 aa<|aR aa<|⟨.inr ⟨ln,113,vR (k:=seen.getD i []) (yW<|.inr<|.inl ao) (dR ab),aw,aa,A.du⟩,I⟩
 refine au 3 aa<|bI aa (ld1 aa<|(a8 A.cells).trans aa)<|au 1 aa<|bI aa (a6 cM aa aa ab<|aB.ok ((aX A.hd).2)<|bS ab)<|bI aa (ld1 aa<|bW.get (i:=i) (aX A.hd).2 ab)<|au 3 aa<|gs (t:=46) aa (fun ap=> ?_) fun ap=> ?_;exact aC 20 aa<|tr<|bc 2 aa<|aR aa<|⟨.inr ⟨ln,113,vR (k:=seen.getD i []) (yW<|.inr<|.inr<|.inl ap) (dR ab),aw,aa,A.du⟩,I⟩
 refine au 3 aa<|bI aa (ld1 aa<|(a8 A.cells).trans aa)<|au 1 aa<|bI aa (a6 cM aa aa ab<|aB.ok ((aX A.hd).2)<|bS ab)<|bI aa (ld1 aa<|bW.get (i:=i) (aX A.hd).2 ab)<|aQ 4 aa<|cd aa (fun al=> ?_) fun al=> ?_;exact aJ 8 aa<|tr<|bc 2 aa<|aR aa<|⟨.inr ⟨ln,113,vR (k:=seen.getD i []) (yW<|.inr<|.inr<|.inr al) (dR ab),aw,aa,A.du⟩,I⟩
 exact aJ 8 aa<|tn<|⟨_,ab,i+1,ab,(fun j ae=>by rcases fG j i with h | h <;> first | exact ag j h | (rw [show j=i by omega]; exact VR (fun h=>an<|uz.2 h) ao ap al)),aa,aa,aa⟩
 refine aJ 2 aa<|bK<|dq 6 aa<|p (a6 cM aa aa ab<|aB.ok (aA.2)<|bS ab)<|p (ld1 aa<|bW.get (i:=1) aA.2 ab)<|aQ 9 aa<|cd aa (fun ac=> ?_) fun ac=> ?_;refine aH 4 aa<|p (ld1 aa<|(a8 A.cells).trans aa)<|au 2 aa<|e<|dd gM aa aa (v:=ay 1) aa C.cells (by show _ < 13; omega) fun ai G Y=>aC 9 aa<|aR aa ?_;have O:ordered seen=true :=yX fun j ae=>ag j ab;have hk:j4 (r.getD 1 [])=1:=by unfold j4; rw [if_pos (show r.getD 1 []=sT from ac)]
 have Z:=C.put (F':= {F with kind:=1}) G Y rfl rfl rfl rfl C.gl;have J:Wk ah ai:=I.trans' G fun k hk h=>by have :=C.lo; omega
 exact ⟨.inl ⟨_,k,ln,(yE O ab).trans (by rw [hk]),aa,⟨V,_,Z,A.fb C G,⟨E.len,E.sl,E.row,by show 1=1∨1=2∨1=3; decide⟩,J,aq⟩⟩,J⟩;refine bz 6 aa<|cd aa (fun aj=> ?_) fun aj=> ?_;refine aH 4 aa<|p (ld1 aa<|(a8 A.cells).trans aa)<|au 2 aa<|e<|dd gM aa aa (v:=ay 2) aa C.cells (by show _ < 13; omega) fun ai G Y=>aC 9 aa<|aR aa ?_;have O:ordered seen=true :=yX fun j ae=>ag j ab;have hk:j4 (r.getD 1 [])=2:=by unfold j4; rw [if_neg (show ¬r.getD 1 []=sT from ac),if_pos (show r.getD 1 []=ui from aj)]
 have Z:=C.put (F':= {F with kind:=2}) G Y rfl rfl rfl rfl C.gl;have J:Wk ah ai:=I.trans' G fun k hk h=>by have :=C.lo; omega
 exact ⟨.inl ⟨_,k,ln,(yE O ab).trans (by rw [hk]),aa,⟨V,_,Z,A.fb C G,⟨E.len,E.sl,E.row,by show 2=1∨2=2∨2=3; decide⟩,J,aq⟩⟩,J⟩;refine bz 6 aa<|cd aa (fun am=> ?_) fun am=> ?_;refine aH 4 aa<|p (ld1 aa<|(a8 A.cells).trans aa)<|au 2 aa<|e<|dd gM aa aa (v:=ay 3) aa C.cells (by show _ < 13; omega) fun ai G Y=>aC 9 aa<|aR aa ?_;have O:ordered seen=true :=yX fun j ae=>ag j ab;have hk:j4 (r.getD 1 [])=3:=by unfold j4; rw [if_neg (show ¬r.getD 1 []=sT from ac),if_neg (show ¬r.getD 1 []=ui from aj),if_pos (show r.getD 1 []=vS from am)]
 have Z:=C.put (F':= {F with kind:=3}) G Y rfl rfl rfl rfl C.gl;have J:Wk ah ai:=I.trans' G fun k hk h=>by have :=C.lo; omega
 exact ⟨.inl ⟨_,k,ln,(yE O ab).trans (by rw [hk]),aa,⟨V,_,Z,A.fb C G,⟨E.len,E.sl,E.row,by show 3=1∨3=2∨3=3; decide⟩,J,aq⟩⟩,J⟩;refine aJ 8 aa<|aR aa ?_;have O:ordered seen=true :=yX fun j ae=>ag j ab;exact ⟨.inr ⟨ln,114,IB O (by unfold j4; rw [if_neg (show ¬r.getD 1 []=sT from ac),if_neg (show ¬r.getD 1 []=ui from aj),if_neg (show ¬r.getD 1 []=vS from am)]),aw,aa,A.du⟩,I⟩
end Go.Hb.tK
end
section
namespace Go.Hb.Ap
open Go.Hb.tK Go.Hb.xE Go.Hb.oK
theorem Xc {kind ln:Nat} {al:List (List Nat)} {c:di} {r:List Tx} {e:Nat} (h:r.length=4∨r.length=5) (h1:eG true (r.getD 2 [])= .error e):fV kind al c ln r= .error e:=by rw [nE h,h1]
theorem J9 {kind ln:Nat} {al:List (List Nat)} {c:di} {r:List Tx} {e:Nat} {st:Tx} (h:r.length=4∨r.length=5) (h1:eG true (r.getD 2 [])= .ok st) (h2:j8 (bD<|r.getD 3 [])= .error e):fV kind al c ln r= .error e:=by rw [nE h,h1]; simp only; rw [h2]
theorem Ka {kind ln:Nat} {al:List (List Nat)} {c:di} {r:List Tx} {e:Nat} {st ad:Tx} (h:r.length=4∨r.length=5) (h1:eG true (r.getD 2 [])= .ok st) (h2:j8 (bD<|r.getD 3 [])= .ok ad) (h3:ll kind al c.kind (bD<|r.getD 3 [])= .error e):fV kind al c ln r= .error e:=by rw [nE h,h1]; simp only; rw [h2]; simp only; rw [h3]
theorem Kb {kind ln:Nat} {al:List (List Nat)} {c:di} {r:List Tx} {e:Nat} {st ad:Tx} {nx:List Nat} (h:r.length=4∨r.length=5) (h1:eG true (r.getD 2 [])= .ok st) (h2:j8 (bD<|r.getD 3 [])= .ok ad) (h3:ll kind al c.kind (bD<|r.getD 3 [])= .ok nx) (h4:lg r= .error e):fV kind al c ln r= .error e:=by rw [nE h,h1]; simp only; rw [h2]; simp only; rw [h3]; simp only; rw [h4]
theorem Xd {kind ln:Nat} {al:List (List Nat)} {c:di} {r:List Tx} {st ad cd:Tx} {nx:List Nat} (h:r.length=4∨r.length=5) (h1:eG true (r.getD 2 [])= .ok st) (h2:j8 (bD<|r.getD 3 [])= .ok ad) (h3:ll kind al c.kind (bD<|r.getD 3 [])= .ok nx) (h4:lg r= .ok cd):fV kind al c ln r= .ok ⟨c.kind,c.flag,c.eB,st,ad,cd,nx,ln⟩:=by rw [nE h,h1]; simp only; rw [h2]; simp only; rw [h3]; simp only; rw [h4]
def nb (xb:Nat) (F:aE) (c:di) (ln:Nat) (r:List Tx) (w:ak) (v:ag) (w':ak):Prop :=Md (fun k=>k=xb) w w'∧∃ L:List ag,L.length=8∧L.all Value.oneCell'=true∧w'.heap[xb]? =some (.cells L.toArray 214 (0,0))∧((∃ q vn,fV F.kind F.aliases c ln r= .ok q∧v= .int .i64 (0:Nat)∧L=jZ (q,vn)∧Tg w' 0 3 q.next.length vn (q.next.map bJ))∨(∃ e:Nat,fV F.kind F.aliases c ln r= .error e∧e≠0∧v= .int .i64 (e:Nat)))
section
variable {xb ln:Nat} {F:aE} {c:di} {r:List Tx} {w w':ak} {st ad cd:Tx} {vn:ag}
theorem nb.no {e:Nat} (hm:Md (fun k=>k=xb) w w') (C:w'.heap[xb]? =some (.cells [.int .i64 (c.kind:Nat),bJ c.flag,.bool c.eB,str st,str ad,str cd,vn,.int .i64 (ln:Nat)].toArray 214 (0,0))) (A:vn.oneCell'=true) (h:fV F.kind F.aliases c ln r= .error e) (he:e≠0):nb xb F c ln r w (.int .i64 (e:Nat)) w':=
 ⟨hm,_,rfl,by simp only [uX,A]; rfl,C,.inr ⟨e,h,he,rfl⟩⟩
theorem nb.ok {nx:List Nat} (hm:Md (fun k=>k=xb) w w') (C:w'.heap[xb]? =some (.cells [.int .i64 (c.kind:Nat),bJ c.flag,.bool c.eB,str st,str ad,str cd,vn,.int .i64 (ln:Nat)].toArray 214 (0,0))) (A:vn.oneCell'=true) (hT:Tg w' 0 3 nx.length vn (nx.map bJ)) (h:fV F.kind F.aliases c ln r= .ok ⟨c.kind,c.flag,c.eB,st,ad,cd,nx,ln⟩):nb xb F c ln r w (.int .i64 (0:Nat)) w':=
 ⟨hm,_,rfl,by simp only [uX,A]; rfl,C,.inl ⟨_,vn,h,rfl,rfl,hT⟩⟩
end
theorem P3 {s t:Tx} (h:t∈(dj s).1) (hs:s.length≤1048576):(t.length=1∨3≤t.length)∧t.length≤1048576:=by
 have :=FW.1 t h;exact ⟨this.1,ab⟩
theorem s9 (w:ak) (B e:Nat):Tg w B e 0 (.slice none 0 0) []:=⟨none,0,rfl,cE _,.inl rfl⟩
theorem SC {F F':aE} {ln:Nat} {row:List Tx} (h:jx F ln row= .ok F'):F'.bw=F.bw∧F'.kind=F.kind:=by
 unfold jx at h
 repeat' split at h
 all_goals first
  | (cases h; done)
  | (cases h; exact ⟨rfl,rfl⟩)
theorem HS (B fb xb:Nat) (F:aE) (V:eo) (c:di) (ln:Nat) (r:List Tx) (aA:Nat) (ar:Option Addr) (cr:Nat) (w:ak) (bV:oL w B 0 fb F V) (hk:F.kind=1∨F.kind=2∨F.kind=3) (ck:F.aliases.length≤70000) (cy:w.heap[xb]? =some (.cells [ay (c.kind),bJ c.flag,.bool c.eB,str [],str [],str [],.slice none 0 0,ay ln].toArray 214 (0,0))) (hT:Tg w aA 9 r.length (.slice ar r.length cr) (r.map str)) (C:r.length=4∨r.length=5) (aV:∀ x∈r,x.length≤70000):
 ba az 254 (a7 [bj fb,bj xb,.slice ar r.length cr]) w (nb xb F c ln r w):=by
 have bd:=hT.cW;have cO:(r.getD 2 []).length≤70000:=aV _<|dR ab;have cP:(r.getD 3 []).length≤70000:=aV _<|dR ab;have cR:=td<|r.getD 3 [];refine enter func254 aa ntmps254 aa<|bg 8 aa<|p (a6 cM aa aa ab<|aB.ok (bd.2)<|bS ab)<|p (ld1 aa<|bW.get (i:=2) bd.2 ab)<|e<|aM (BM (r.getD 2 []) true w ab) aa ?_;rintro cS av ⟨⟨st,e,rfl,bs⟩,hE19⟩;have aY:=Wk.bl hE19 cy;have Z:Md (fun k=>k=xb) w av:=hE19.mono fun _ _ h=>h.elim;refine p mv<|aQ 13 aa<|cd aa (fun b6=> ?_) fun b6=> ?_;have br:eG true (r.getD 2 [])= .error e∧e≠0:=by
  rcases bs with ⟨_,h⟩ | h;omega;exact h
 exact aJ 8 aa<|aR aa<|nb.no Z aY aa (Xc C br.1) br.2;obtain ⟨ap,rfl⟩:eG true (r.getD 2 [])= .ok st∧e=0:=by
  rcases bs with h | ⟨_,h⟩;exact h;omega
 refine aH 8 aa<|e<|dd l7 aa aa (v:=str st) aa aY (by show _ < 8; omega) fun bG aL bU=> ?_;have bC:=aY;have am:=(hT.wk hE19).md aL<|fL bC aw;have a5:=(bV.wk hE19).md aL (TF.eq (L:= [216]) (dC bC) aw) aw;have cn:=(Z).trans' aL fun _ _ h=>h;have cC:bG.heap[xb]? =some (.cells [ay (c.kind),bJ c.flag,.bool c.eB,str st,str [],str [],.slice none 0 0,ay ln].toArray 214 (0,0)):=bU;refine au 5 aa<|p (a6 cM aa aa ab<|aB.ok (am.cW.2)<|bS ab)<|p (ld1 aa<|bW.get (i:=3) am.cW.2 ab)<|e<|aM (zd (r.getD 3 []) bG ab) aa ?_;rintro v33 bF ⟨rfl,E⟩;have a0:=Wk.bl E cC;have aO:Md (fun k=>k=xb) w bF:=cn.trans' E fun _ _ h=>h.elim;refine p mv<|aQ 17 aa<|cd aa (fun b7=> ?_) fun b7=> ?_;exact aJ 8 aa<|aR aa<|nb.no aO a0 aa (J9 C ap<|EJ ab) ab;have a3:(bD<|r.getD 3 []).2.2.2=0:=ab;refine bz 2 aa ?_;refine ei (fun bM I=> ∃ (s1 A:Tx),(eG true (r.getD 2 [])= .ok s1)∧(j8 (bD<|r.getD 3 [])= .ok A)∧(I.heap[xb]? =some (.cells [ay (c.kind),bJ c.flag,.bool c.eB,str s1,str A,str [],.slice none 0 0,ay ln].toArray 214 (0,0)))∧(oL I B 0 fb F V)∧(Tg I aA 9 r.length (.slice ar r.length cr)<|r.map str)∧(Md (fun k=>k=xb) w I)∧(Sl bM [(0,bj fb),(1,bj xb),(2,.slice ar r.length cr),(10,str (bD<|r.getD 3 []).2.1),(11,.bool (bD<|r.getD 3 []).2.2.1)])) ?_ ?_;refine bq 6 aa<|cd aa (fun an=> ?_) fun an=> ?_;refine aH 3 aa<|e<|aM (BH (bD<|r.getD 3 []).1 bF ab) aa ?_;rintro v44 cI ⟨rfl,ai⟩;have a1:=Wk.bl ai a0;have bk:Md (fun k=>k=xb) w cI:=aO.trans' ai fun _ _ h=>h.elim;refine aQ 10 aa<|cd aa (fun b8=> ?_) fun b8=> ?_;exact aJ 8 aa<|tr<|aR aa<|nb.no bk a1 aa (J9 C ap<|EK a3 an ab) ab;refine aH 7 aa<|e<|dd l7 aa aa (v:=str (bD<|r.getD 3 []).1) aa a1 (by show _ < 8; omega) fun cF aI bP=> ?_;have bx:=a1;have bZ:=((am.wk E).wk ai).md aI<|fL bx aw;have bX:=((a5.wk E).wk ai).md aI (TF.eq (L:= [216]) (dC bx) aw) aw;have cl:=(bk).trans' aI fun _ _ h=>h;have cA:cF.heap[xb]? =some (.cells [ay (c.kind),bJ c.flag,.bool c.eB,str st,str (bD<|r.getD 3 []).1,str [],.slice none 0 0,ay ln].toArray 214 (0,0)):=bP;exact aC 1 aa<|tn<|⟨st,(bD<|r.getD 3 []).1,ap,(EL a3 an ab),cA,bX,bZ,cl,aa⟩
 exact aJ 1 aa<|tn<|⟨st,[],ap,(EM a3<|jG.1 an),a0,(a5.wk E),(am.wk E),aO,aa⟩
 rintro bM I ⟨s1,A,ae,Y,aq,aG,bb,aP,ct⟩;refine bA ct ?_;refine ei (fun bN a4=>((bD<|r.getD 3 []).2.2.1=true→c.kind≠1)∧(a4=I)∧(Sl bN [(0,bj fb),(1,bj xb),(2,.slice ar r.length cr),(10,str (bD<|r.getD 3 []).2.1),(11,.bool (bD<|r.getD 3 []).2.2.1)])) ?_ ?_;refine bg 4 aa<|gb (t:=53) aa (fun aN=> ?_) fun aN=> ?_;refine au 3 aa<|bI aa (ld1 aa<|(a8 aq).trans aa)<|aQ 4 aa<|cd aa (fun b9=> ?_) fun b9=> ?_;exact aJ 6 aa<|tr<|aR aa<|nb.no aP aq aa (Ka C ae Y<|Je aN ab) aw;exact aJ 1 aa<|tn<|⟨(fun _=>by omega),aa,aa⟩
 exact aC 10 aa<|tn<|⟨(fun h=>absurd (h.symm.trans aN) dM),aa,aa⟩
 rintro bN a4 ⟨bh,cx,cu⟩;refine bA cu ?_;subst cx;refine ei (fun bO J=> ∃ (l:List Nat) (vn:ag),(ll F.kind F.aliases c.kind (bD<|r.getD 3 [])= .ok l)∧(J.heap[xb]? =some (.cells [ay (c.kind),bJ c.flag,.bool c.eB,str s1,str A,str [],vn,ay ln].toArray 214 (0,0)))∧(vn.oneCell'=true)∧(Tg J 0 3 l.length vn<|l.map bJ)∧(oL J B 0 fb F V)∧(Tg J aA 9 r.length (.slice ar r.length cr)<|r.map str)∧(Md (fun k=>k=xb) w J)∧(Sl bO [(0,bj fb),(1,bj xb),(2,.slice ar r.length cr)])) ?_ ?_;refine bq 5 aa<|cb aa (fun G=> ?_) fun G=> ?_;refine aH 5 aa<|e<|aM (HL B fb F V (bD<|r.getD 3 []).2.1 a4 aG hk ck ab) aa ?_;rintro cT bH ⟨⟨ah,aD,rfl,aT,bf⟩,hE65⟩;have aZ:=Wk.bl hE65 aq;have co:Md (fun k=>k=xb) w bH:=aP.trans' hE65 fun _ _ h=>h.elim;refine p mv<|au 4 aa<|e<|dd Gd aa aa (v:=ah) aT aZ (by show _ < 8; omega) fun cG aj bQ=> ?_;have bB:=aZ;have b0:=(bb.wk hE65).md aj<|fL bB aw;have bY:=(aG.wk hE65).md aj (TF.eq (L:= [216]) (dC bB) aw) aw;have bi:=(co).trans' aj fun _ _ h=>h;have bE:cG.heap[xb]? =some (.cells [ay (c.kind),bJ c.flag,.bool c.eB,str s1,str A,str [],ah,ay ln].toArray 214 (0,0)):=bQ;refine aQ 9 aa<|cd aa (fun ca=> ?_) fun ca=> ?_;obtain ⟨ch,ci⟩:aD≠0∧gx F.kind F.aliases (bD<|r.getD 3 []).2.1= .error aD:=by
  rcases bf with ⟨l,h,_⟩ | h;omega;exact h
 exact aJ 7 aa<|tr<|aR aa<|nb.no bi bE aT (Ka C ae Y<|(yN G<|bh G).trans ci) ch;obtain ⟨l,rfl,cj,b2⟩:∃ l,aD=0∧gx F.kind F.aliases (bD<|r.getD 3 []).2.1= .ok l∧Tg bH 0 3 l.length ah (l.map bJ):=by
  rcases bf with h | ⟨h,_⟩;exact h;omega
 exact aJ 1 aa<|tn<|⟨l,ah,((yN G<|bh G).trans cj),bE,aT,(b2.md aj<|fL aZ aw),bY,b0,bi,aa⟩
 exact aJ 1 aa<|tn<|⟨[],.slice none 0 0,(Jf G),aq,aa,(s9 _ _ _),aG,bb,aP,aa⟩
 rintro bO J ⟨l,vn,aS,a2,aW,b4,cN,b1,cq,cv⟩;refine bA cv<|aH 5 aa<|e<|dd l7 aa aa (v:=str [46]) aa a2 (by show _ < 8; omega) fun av aK bR=> ?_;have cE:=a2;have al:=(b1).md aK<|fL cE aw;have Z:=(cq).trans' aK fun _ _ h=>h;have bt:av.heap[xb]? =some (.cells [ay (c.kind),bJ c.flag,.bool c.eB,str s1,str A,str [46],vn,ay ln].toArray 214 (0,0)):=bR;have bc:=b4.md aK<|fL a2 aw;refine aQ 2 aa ?_;refine ei (fun cK ax=> ∃ (cd:Tx),(lg r= .ok cd)∧(ax.heap[xb]? =some (.cells [ay (c.kind),bJ c.flag,.bool c.eB,str s1,str A,str cd,vn,ay ln].toArray 214 (0,0)))∧(Tg ax 0 3 l.length vn<|l.map bJ)∧(Md (fun k=>k=xb) w ax)) ?_ ?_;refine bq 7 aa<|cd aa (fun ce=> ?_) fun ce=> ?_;have cQ:(r.getD 4 []).length≤70000:=aV _<|dR ab;have aU:r.length=5:=ab;refine aH 3 aa<|p (a6 cM aa aa ab<|aB.ok (al.cW.2)<|bS ab)<|p (ld1 aa<|bW.get (i:=4) al.cW.2 ab)<|e<|aM (wv (r.getD 4 []) av ab) aa ?_;rintro v82 bK ⟨rfl,O⟩;have bu:=Wk.bl O bt;have bn:Md (fun k=>k=xb) w bK:=Z.trans' O fun _ _ h=>h.elim;refine aQ 10 aa<|cb aa (fun ao=> ?_) fun ao=> ?_;exact aJ 7 aa<|tr<|aR aa<|nb.no bn bu aW (Kb C ae Y aS<|FR aU<|by simpa using ao) aw;refine aH 5 aa<|p (a6 cM aa aa ab<|aB.ok ((al.wk O).cW.2)<|bS ab)<|p (ld1 aa<|bW.get (i:=4) (al.wk O).cW.2 ab)<|e<|aM (JO (r.getD 4 []) bK ab) aa ?_;rintro cU bL ⟨⟨cL,rfl,bp⟩,hE89⟩;obtain ⟨ac,cc,rfl⟩:=cz bp;have bv:=Wk.bl hE89 bu;have bo:Md (fun k=>k=xb) w bL:=bn.trans' hE89 fun _ _ h=>h.elim;refine p mv<|au 2 aa<|p bm<|aQ 10 aa<|cd aa (fun cf=> ?_) fun cf=> ?_;exact aJ 8 aa<|tr<|aR aa<|nb.no bo bv aW (Kb C ae Y aS<|FT aU (by simpa using ao) ab) ab;refine aH 4 aa<|p mv<|e<|aM (W4 (dj<|r.getD 4 []).1 ac cc bL (aX bp).2 (by have :=FY (r.getD 4 []); omega) fun t cw=>P3 cw ab) aa ?_;rintro cV cJ ⟨rfl,aF⟩;have bw:=Wk.bl aF bv;have cp:Md (fun k=>k=xb) w cJ:=bo.trans' aF fun _ _ h=>h.elim;refine au 2 aa<|e<|dd l7 aa aa (v:=str<|mQ (dj<|r.getD 4 []).1) aa bw (by show _ < 8; omega) fun cH a9 bT=> ?_;have cB:cH.heap[xb]? =some (.cells [ay (c.kind),bJ c.flag,.bool c.eB,str s1,str A,str (mQ (dj<|r.getD 4 []).1),vn,ay ln].toArray 214 (0,0)):=bT;have cm:=cp.trans' a9 fun _ _ h=>h;have b3:=(((bc.wk O).wk hE89).wk aF).md a9<|fL bw aw;exact aC 1 aa<|tn<|⟨mQ (dj<|r.getD 4 []).1,(FU aU (by simpa using ao) ab),cB,b3,cm⟩
 exact aJ 1 aa<|tn<|⟨[46],(FV ab),bt,bc,Z⟩
 rintro cK ax ⟨cd,cg,cD,b5,cs⟩;exact aJ 6 aa<|aR aa<|nb.ok cs cD aW b5<|Xd C ae Y aS cg
theorem SD (G:ak) (H:gD) (F:aE) (k ln:Nat) (seen r:List Tx) (bB:Nat) (ar:Option Addr) (cr:Nat) (w:ak) (ah:na G w H F k ln seen) (hT:Tg w bB 9 r.length (.slice ar r.length cr) (r.map str)) (cY:r≠[]) (bp:∀ x∈r,x.length≤70000) (de:F.dp.length+F.aliases.length+F.bw.length+F.rules.length+(H.rows.drop k).length < 70000) (cL:r.getD 0 []≠fA→r.getD 0 []≠eN→0 < F.bw.length):
 ba az 213 (a7 [bj H.rb,.slice ar r.length cr]) w (fun v w'=>((∃ F',jx F ln r= .ok F'∧v=ay 0∧na G w' H F' k ln seen)∨(∃ e:Nat,jx F ln r= .error e∧e≠0∧v=ay e∧Hb.aV w'.heap H.rb 5=some (ay ln)))∧Wk G w'):=by
 obtain ⟨V,vh,J,ag,I,aF,bA⟩:=ah;have a3:=hT.cW;have dr:=ag.lo;have dl:=J.lo;have dh:=I.len;have dt:=mu.2 cY;have ds:=(dD.1 ag.cells).1;obtain ⟨cu,cx,cp⟩:=cz J.eC;have bk:=J.eC;rw [cp] at bk;have bx:Hb.aV w.heap H.fb 11=some (.slice cu F.bw.length cx):=by rw [← cp]; exact (a8 J.cells).trans rfl
 refine enter func213 aa ntmps213 aa<|bg 10 aa<|p (ld1 aa<|(a8 ag.cells).trans aa)<|p bm<|au 6 aa<|p (a6 cM aa aa ab<|aB.ok (a3.2)<|bS ab)<|p (ld1 aa<|bW.get (i:=0) a3.2 ab)<|aQ 9 aa<|cd aa (fun bZ=> ?_) fun bZ=> ?_;have ac:r.getD 0 []=fA:=bZ;refine bz 8 aa<|cd aa (fun cH=> ?_) fun cH=> ?_;exact aJ 9 aa<|aR aa<|⟨.inr ⟨111,by unfold jx; rw [if_pos ac,JV ab],aw,aa,ag.du⟩,aF⟩
 have b5:r.length=3:=ab;have cP:=bp _<|dR (d:= []) (i:=1) ab;have dn:=bp _<|dR (d:= []) (i:=2) ab;refine aH 5 aa<|p (a6 cM aa aa ab<|aB.ok (a3.2)<|bS ab)<|p (ld1 aa<|bW.get (i:=1) a3.2 ab)<|e<|aM (BM (r.getD 1 []) false w ab) aa ?_;rintro v30 c7 ⟨⟨aG,bq,rfl,fz⟩,hE30⟩;have ci:=hT.wk hE30;refine p mv<|aQ 13 aa<|cd aa (fun cI=> ?_) fun cI=> ?_;have cm:eG false (r.getD 1 [])= .error bq∧bq≠0:=by
  rcases fz with ⟨_,h⟩ | h;omega;exact h
 exact aJ 10 aa<|aR aa<|⟨.inr ⟨bq,by unfold jx; rw [if_pos ac,JW b5 cm.1],cm.2,aa,(ag.wk hE30).du⟩,aF.trans hE30⟩
 obtain ⟨cn,rfl⟩:eG false (r.getD 1 [])= .ok aG∧bq=0:=by
  rcases fz with h | ⟨_,h⟩;exact h;omega
 refine aH 5 aa<|p (a6 cM aa aa ab<|aB.ok (ci.cW.2)<|bS ab)<|p (ld1 aa<|bW.get (i:=2) ci.cW.2 ab)<|e<|aM (BM (r.getD 2 []) true c7 ab) aa ?_;rintro v40 dC ⟨⟨a0,cy,rfl,cX⟩,hE40⟩;have cg:=hE30.trans hE40;have O:=J.wk cg;refine p mv<|au 8 aa<|p mv<|p mv<|au 2 aa<|p (ld1 aa<|(a8 O.cells).trans aa)<|au 2 aa<|p (cV (ps:= [(0,str aG),(1,str a0)]) (L:= [str aG,str a0]) X3 aa<|aa)<|e<|lf Kx aa aa aa fun db dE df cC cA=> ?_;have br:=cg.trans cC.md;have A:=J.wk br;have aS:=ag.wk br;have dv:=br.size;refine e<|ap Kx (A.o9) aa ab aa (aB.dT cA) (aa) (aa) ab ab fun cq cs cj bt dw dj=> ?_;have aU:=aS.own A.o9 bt aw;have aq:=bt.bl A.cells<|dO A.o9 A.cells aw;have cS:bo cs G.heap.size 351 2 cq (F.dp++ [(aG,a0)]).length (lu<|F.dp++ [(aG,a0)]):=by rw [show lu (F.dp++ [(aG,a0)])=lu F.dp++ [str aG,str a0] from by simp [lu],bG]; exact cj
 have aY:Wk G cs:=(aF.trans br).trans' bt fun k hk h=>by have :=(dH A.o9 h).1; omega
 refine au 2 aa<|e<|dd Qm aa aa (v:=cq) (e9 cj) aq (by show _ < 13; omega) fun a2 Y aK=> ?_;have aN:=eL.AB (x:=(aG,a0)) A bt cS Y aK;have ao:=aU.pQ aq Y;have Z:Wk G a2:=aY.trans' Y fun k hk h=>by omega
 refine aC 11 aa<|aR aa ?_;rcases cX with ⟨av,rfl⟩ | ⟨av,bi⟩;exact ⟨.inl ⟨_,by unfold jx; rw [if_pos ac,JY b5 cn av],aa,⟨_,vh,aN,ao,⟨by simp only [bG,fg]; omega,I.sl,I.row,I.kd⟩,Z,bA⟩⟩,Z⟩;exact ⟨.inr ⟨cy,by unfold jx; rw [if_pos ac,JX b5 cn av],bi,aa,ao.du⟩,Z⟩;have ac:¬r.getD 0 []=fA:=bZ;refine bz 6 aa<|cd aa (fun b0=> ?_) fun b0=> ?_;have h1:r.getD 0 []=eN:=b0;refine bz 8 aa<|cd aa (fun cJ=> ?_) fun cJ=> ?_;exact aJ 9 aa<|aR aa<|⟨.inr ⟨111,by unfold jx; rw [if_neg ac,if_pos h1,EX ab],aw,aa,ag.du⟩,aF⟩
 have co:r.length=2:=ab;have cP:=bp _<|dR (d:= []) (i:=1) ab;refine bz 3 aa<|dZ fun aW=>bP 0 aa (mv) aW<|aT [1,2] aa aW<|cw 3 aa aW ((a8 J.cells).trans aa)<|aT [4] aa aW<|bP 5 aa (a6 cM aa aa ab<|aB.ok (aB.wk a3.2 aW)<|bS ab) aW<|cw 6 aa aW (bW.get (i:=1) a3.2 ab)<|he 7 aa aj<|aM (J0 F.kind (r.getD 1 []) w.drew I.kd ab) aa ?_;rintro dA c8 ⟨⟨da,rfl,ck⟩,a5⟩;obtain ⟨ce,cf,rfl⟩:=cz ck;have a5:=iQ a5;have O:=J.wk a5;have bc:(fun w'=>Wk w w') c8:=Md.mono a5 fun _ _ h=>h;refine ⟨bc,?_⟩;refine bP 8 aa (mv) bc<|aT [9,10] aa bc<|bP 11 aa (bm) bc<|aT [12] aa bc<|hn aj<|dq 3 aa<|p mv<|p mv<|au 2 aa<|p (ld1 aa<|(a8 O.cells).trans aa)<|p mv<|e<|gv Ky aa aa fun dc c9 dg ch cB=> ?_;have bs:=a5.trans ch.md;have A:=J.wk bs;have aS:=ag.wk bs;have dx:=bs.size;refine e<|ap Ky (A.e6) aa ab aa (aB.dT cB) (aa) (aa) ab ab fun v79 ct cl bv dy dk=> ?_;have aU:=aS.own A.e6 bv aw;have aq:=bv.bl A.cells<|dO A.e6 A.cells aw;have cD:Tg c9 0 3 (ed F.kind<|r.getD 1 []).1.length (.slice ce (ed F.kind<|r.getD 1 []).1.length cf) ((ed F.kind<|r.getD 1 []).1.map bJ):=((Tg.j5 ck).mono<|gY _).wk ch.md;have cU:bo ct G.heap.size 85 1 v79 (F.aliases++ [(ed F.kind<|r.getD 1 []).1]).length (V.sa++ [.slice ce (ed F.kind<|r.getD 1 []).1.length cf]):=by rw [bG]; exact cl
 have aY:Wk G ct:=(aF.trans bs).trans' bv fun k hk h=>by have :=(dH A.e6 h).1; omega
 refine au 2 aa<|e<|dd Qn aa aa (v:=v79) (e9 cl) aq (by show _ < 13; omega) fun a2 Y aK=> ?_;have aN:=eL.Az (x:=(ed F.kind<|r.getD 1 []).1) A cD bv cU Y aK;have ao:=aU.pQ aq Y;have Z:Wk G a2:=aY.trans' Y fun k hk h=>by omega
 refine aC 11 aa<|aR aa ?_;by_cases h:(ed F.kind<|r.getD 1 []).2=0;exact ⟨.inl ⟨_,by unfold jx; rw [if_neg ac,if_pos h1,xK co,yq h],by rw [h]; rfl,⟨_,vh,aN,ao,⟨by simp only [bG,fg]; omega,I.sl,I.row,I.kd⟩,Z,bA⟩⟩,Z⟩;exact ⟨.inr ⟨_,by unfold jx; rw [if_neg ac,if_pos h1,xK co,yp h],h,aa,ao.du⟩,Z⟩;have h1:¬r.getD 0 []=eN:=b0;have di:=cL ac h1;refine aH 10 aa<|gs (t:=86) aa (fun cO=> ?_) fun cO=> ?_;refine aQ 6 aa<|cd aa (fun cK=> ?_) fun cK=> ?_;exact aJ 7 aa<|aR aa<|⟨.inr ⟨111,by unfold jx; rw [if_neg ac,if_neg h1,C9 ab ab],aw,aa,ag.du⟩,aF⟩
 have b6:r.length=4∨r.length=5:=ab;refine bz 3 aa<|dZ fun C=>bP 0 aa (mv) C<|aT [1,2] aa C<|cw 3 aa C (bx)<|bP 4 aa (mv) C<|aT [5,6] aa C<|cw 7 aa C (bx)<|aT [8] aa C<|bP 9 aa (dQ<|F.bw.length - 1) C<|bP 10 aa (a6 yb aa aa ab<|aB.ok (aB.wk (aX bk).2 C)<|yt ab) C<|fz 11 aa (fun w' ah=>cQ tM aa (aa) fun j bh=>fI (f:=og) (m:=5) (fun _=>rfl) (aB.wk (aX bk).2 ah) (vC (by omega :F.bw.length - 1 < F.bw.length)) j bh) C<|he 12 aa aj<|gK tg fun bC ca cE aO bD=> ?_;have c1:=aO.size;have c4:=C.size;have bR:(fun w'=>Wk w w') ca:=C.trans aO.md;refine ⟨bR,?_⟩;refine he 13 aa aj<|gA rB aa aa aa aa bD aw fun am bM bH=> ?_;have aA:Wk w am:=(C.trans aO.md).trans' bM fun k hk h=>by omega
 have aZ:am.heap[bC]? =some (.cells (og<|ig F).toArray 216 (0,0)):=bH;have bT:(fun w'=>Wk w w') am:=aA;refine ⟨bT,?_⟩;refine hn aj<|dz 2 aa<|dZ fun E=>aT [0] aa E<|cw 1 aa E ((a8 aZ).trans aa)<|aT [2] aa E<|cw 3 aa E ((a8 aZ).trans aa)<|aT [4] aa E<|cw 5 aa E ((a8 aZ).trans aa)<|aT [6,7,8] aa E<|cw 9 aa E ((a8 (ag.wk aA).cells).trans aa)<|bP 10 aa (cV (ps:= [(0,ay ((ig F).kind)),(1,bJ (ig F).flag),(2,.bool (ig F).eB),(7,ay ln)]) (L:= [ay ((ig F).kind),bJ (ig F).flag,.bool (ig F).eB,.string ⟨⟨[]⟩⟩,.string ⟨⟨[]⟩⟩,.string ⟨⟨[]⟩⟩,.slice none 0 0,ay ln]) KK aa<|aa) E<|he 11 aa aj<|gK DT fun aI cb cF aP bE=> ?_;have c2:=aP.size;have bV:(fun w'=>Wk am w') cb:=E.trans aP.md;refine ⟨bV,?_⟩;refine he 12 aa aj<|gA AZ aa aa aa aa bE aw fun aD bN bI=> ?_;have a4:Wk am aD:=(E.trans aP.md).trans' bN fun k hk h=>by have :=E.size; omega
 have aL:=aA.trans a4;have b8:aD.heap[aI]? =some (.cells [ay ((ig F).kind),bJ (ig F).flag,.bool (ig F).eB,str [],str [],str [],.slice none 0 0,ay ln].toArray 214 (0,0)):=bI;have c0:=E.size;have cZ:=aA.size;have bX:(fun w'=>Wk am w') aD:=a4;refine ⟨bX,?_⟩;refine hn aj<|dq 3 aa<|p mv<|au 1 aa<|e<|aM (HS G.heap.size H.fb aI F V (ig F) ln r bB ar cr aD (J.wk aL).r I.kd ab b8 (hT.wk aL) b6 bp) aa ?_;rintro c6 al ⟨b1,L,a9,bK,bL,b7⟩;have ax:Wk w al:=aL.trans' b1 fun k hk h=>by omega
 have O:=J.wk ax;have bb:=ag.wk ax;have cR:¬(V.v12.ownBlock=some H.rb):=dO O.dB bb.cells aw;have b2:¬(V.v12.ownBlock=some H.fb):=dO O.dB O.cells aw;have b3:¬(V.v12.ownBlock=some aI):=fun h=>by have :=(dH J.dB h).2; omega
 refine p bm<|aQ 3 aa ?_;have ai:(fun w'=>Md (fun k=>V.v12.ownBlock=some k) al w') al.drew:=(Md.refl _ _).drew;refine gO (fun w'=>Md (fun k=>V.v12.ownBlock=some k) al w') 10 aa wide ai<|cT 0 aa (mv) ai<|cT 1 aa (mv) ai<|bU [2,3] aa ai<|eW 4 aa (fun w' ah=>ld1 aa<|Md.aV ah ((a8 O.cells).trans aa) b2) ai<|eW 5 aa (fun w' ah=>cQ sH aa (a9) fun j bh=>bO.bu ⟨_,Md.bl ah bL b3⟩ j) ai<|gN 6 aa aj<|lf zh aa aa a9 fun cv cc cG bQ bF=> ?_;have ae:=iQ bQ.md;have A:=O.wk ae;have aS:=bb.wk ae;have c5:=(ax.trans ae).size;have bd:(fun w'=>Md (fun k=>V.v12.ownBlock=some k) al w') cc:=Md.mono ae fun _ _ h=>h.elim;refine ⟨bd,?_⟩;refine gN 7 aa aj<|ap zh (A.dB) aa ab aa (aB.dT bF) ab (bK) ab ab fun v124 a1 bn an c3 cN=> ?_;have aU:=aS.own A.dB an aw;have aq:=an.bl A.cells<|dO A.dB A.cells aw;have aY:Wk G a1:=(aF.trans<|ax.trans ae).trans' an fun k hk h=>by have :=(dH A.dB h).1; omega
 have bf:(fun w'=>Md (fun k=>V.v12.ownBlock=some k) al w') a1:=bd.trans' an fun _ _ h=>h;refine ⟨bf,?_⟩;refine bU [8,9] aa bf<|dK 10 aa aj aj<|dd F6 aa aa (v:=v124) (e9 bn) aq (by show _ < 13; omega) fun a2 Y aK=> ?_;have ao:=aU.pQ aq Y;have Z:Wk G a2:=aY.trans' Y fun k hk h=>by omega
 refine eQ aj<|dq 3 aa<|p mv<|p bm<|aC 3 aa<|aR aa ?_;have b9:F.rules.length=V.rn.length:=by have :=A.nx.1; rw [fC] at this; exact this.symm
 rcases b7 with ⟨q,vn,av,rfl,rfl,bY⟩ | ⟨e,av,bi,rfl⟩;have b4:bo a1 G.heap.size 214 8 v124 (F.rules++ [q]).length (np<|(F.rules++ [q]).zip<|V.rn++ [vn]):=by
  rw [Ey b9,show np (F.rules.zip V.rn++ [q].zip [vn])=np (F.rules.zip V.rn)++jZ (q,vn) from by simp [np],bG];exact bn
 have aN:=eL.xO (x:=q) (vx:=vn) A (bY.wk ae) an b4 Y aK;exact ⟨.inl ⟨_,by unfold jx; rw [if_neg ac,if_neg h1,av],aa,⟨_,vh,aN,ao,⟨by simp only [bG,fg]; omega,I.sl,I.row,I.kd⟩,Z,bA⟩⟩,Z⟩;exact ⟨.inr ⟨e,by unfold jx; rw [if_neg ac,if_neg h1,av],bi,aa,ao.du⟩,Z⟩;have b6:r.length=4∨r.length=5:=ab;refine aQ 10 aa<|dZ fun C=>bP 0 aa (mv) C<|aT [1,2] aa C<|cw 3 aa C (bx)<|bP 4 aa (mv) C<|aT [5,6] aa C<|cw 7 aa C (bx)<|aT [8] aa C<|bP 9 aa (dQ<|F.bw.length - 1) C<|bP 10 aa (a6 yb aa aa ab<|aB.ok (aB.wk (aX bk).2 C)<|yt ab) C<|fz 11 aa (fun w' ah=>cQ tM aa (aa) fun j bh=>fI (f:=og) (m:=5) (fun _=>rfl) (aB.wk (aX bk).2 ah) (vC (by omega :F.bw.length - 1 < F.bw.length)) j bh) C<|he 12 aa aj<|gK tg fun bC ca cE aO bD=> ?_;have c1:=aO.size;have c4:=C.size;have bR:(fun w'=>Wk w w') ca:=C.trans aO.md;refine ⟨bR,?_⟩;refine he 13 aa aj<|gA rB aa aa aa aa bD aw fun am bM bH=> ?_;have aA:Wk w am:=(C.trans aO.md).trans' bM fun k hk h=>by omega
 have aZ:am.heap[bC]? =some (.cells (og<|ig F).toArray 216 (0,0)):=bH;have bT:(fun w'=>Wk w w') am:=aA;refine ⟨bT,?_⟩;refine hn aj<|dz 2 aa<|dZ fun E=>aT [0] aa E<|cw 1 aa E ((a8 aZ).trans aa)<|aT [2] aa E<|cw 3 aa E ((a8 aZ).trans aa)<|aT [4] aa E<|cw 5 aa E ((a8 aZ).trans aa)<|aT [6,7,8] aa E<|cw 9 aa E ((a8 (ag.wk aA).cells).trans aa)<|bP 10 aa (cV (ps:= [(0,ay ((ig F).kind)),(1,bJ (ig F).flag),(2,.bool (ig F).eB),(7,ay ln)]) (L:= [ay ((ig F).kind),bJ (ig F).flag,.bool (ig F).eB,.string ⟨⟨[]⟩⟩,.string ⟨⟨[]⟩⟩,.string ⟨⟨[]⟩⟩,.slice none 0 0,ay ln]) KK aa<|aa) E<|he 11 aa aj<|gK DT fun aI cb cF aP bE=> ?_;have c2:=aP.size;have bV:(fun w'=>Wk am w') cb:=E.trans aP.md;refine ⟨bV,?_⟩;refine he 12 aa aj<|gA AZ aa aa aa aa bE aw fun aD bN bI=> ?_;have a4:Wk am aD:=(E.trans aP.md).trans' bN fun k hk h=>by have :=E.size; omega
 have aL:=aA.trans a4;have b8:aD.heap[aI]? =some (.cells [ay ((ig F).kind),bJ (ig F).flag,.bool (ig F).eB,str [],str [],str [],.slice none 0 0,ay ln].toArray 214 (0,0)):=bI;have c0:=E.size;have cZ:=aA.size;have bX:(fun w'=>Wk am w') aD:=a4;refine ⟨bX,?_⟩;refine hn aj<|dq 3 aa<|p mv<|au 1 aa<|e<|aM (HS G.heap.size H.fb aI F V (ig F) ln r bB ar cr aD (J.wk aL).r I.kd ab b8 (hT.wk aL) b6 bp) aa ?_;rintro c6 al ⟨b1,L,a9,bK,bL,b7⟩;have ax:Wk w al:=aL.trans' b1 fun k hk h=>by omega
 have O:=J.wk ax;have bb:=ag.wk ax;have cR:¬(V.v12.ownBlock=some H.rb):=dO O.dB bb.cells aw;have b2:¬(V.v12.ownBlock=some H.fb):=dO O.dB O.cells aw;have b3:¬(V.v12.ownBlock=some aI):=fun h=>by have :=(dH J.dB h).2; omega
 refine p bm<|aQ 3 aa ?_;have ai:(fun w'=>Md (fun k=>V.v12.ownBlock=some k) al w') al.drew:=(Md.refl _ _).drew;refine gO (fun w'=>Md (fun k=>V.v12.ownBlock=some k) al w') 10 aa wide ai<|cT 0 aa (mv) ai<|cT 1 aa (mv) ai<|bU [2,3] aa ai<|eW 4 aa (fun w' ah=>ld1 aa<|Md.aV ah ((a8 O.cells).trans aa) b2) ai<|eW 5 aa (fun w' ah=>cQ sH aa (a9) fun j bh=>bO.bu ⟨_,Md.bl ah bL b3⟩ j) ai<|gN 6 aa aj<|lf zh aa aa a9 fun cv cc cG bQ bF=> ?_;have ae:=iQ bQ.md;have A:=O.wk ae;have aS:=bb.wk ae;have c5:=(ax.trans ae).size;have bd:(fun w'=>Md (fun k=>V.v12.ownBlock=some k) al w') cc:=Md.mono ae fun _ _ h=>h.elim;refine ⟨bd,?_⟩;refine gN 7 aa aj<|ap zh (A.dB) aa ab aa (aB.dT bF) ab (bK) ab ab fun v124 a1 bn an c3 cN=> ?_;have aU:=aS.own A.dB an aw;have aq:=an.bl A.cells<|dO A.dB A.cells aw;have aY:Wk G a1:=(aF.trans<|ax.trans ae).trans' an fun k hk h=>by have :=(dH A.dB h).1; omega
 have bf:(fun w'=>Md (fun k=>V.v12.ownBlock=some k) al w') a1:=bd.trans' an fun _ _ h=>h;refine ⟨bf,?_⟩;refine bU [8,9] aa bf<|dK 10 aa aj aj<|dd F6 aa aa (v:=v124) (e9 bn) aq (by show _ < 13; omega) fun a2 Y aK=> ?_;have ao:=aU.pQ aq Y;have Z:Wk G a2:=aY.trans' Y fun k hk h=>by omega
 refine eQ aj<|dq 3 aa<|p mv<|p bm<|aC 3 aa<|aR aa ?_;have b9:F.rules.length=V.rn.length:=by have :=A.nx.1; rw [fC] at this; exact this.symm
 rcases b7 with ⟨q,vn,av,rfl,rfl,bY⟩ | ⟨e,av,bi,rfl⟩;have b4:bo a1 G.heap.size 214 8 v124 (F.rules++ [q]).length (np<|(F.rules++ [q]).zip<|V.rn++ [vn]):=by
  rw [Ey b9,show np (F.rules.zip V.rn++ [q].zip [vn])=np (F.rules.zip V.rn)++jZ (q,vn) from by simp [np],bG];exact bn
 have aN:=eL.xO (x:=q) (vx:=vn) A (bY.wk ae) an b4 Y aK;exact ⟨.inl ⟨_,by unfold jx; rw [if_neg ac,if_neg h1,av],aa,⟨_,vh,aN,ao,⟨by simp only [bG,fg]; omega,I.sl,I.row,I.kd⟩,Z,bA⟩⟩,Z⟩;exact ⟨.inr ⟨e,by unfold jx; rw [if_neg ac,if_neg h1,av],bi,aa,ao.du⟩,Z⟩
end Go.Hb.Ap
end
section
namespace Go.Hb.EI
open Go.Hb.tK Go.Hb.Ap Go.Hb.xE Go.Hb.oK
theorem drop_nil {α:Type} {l:List α} {k:Nat} (h:l.length≤k):l.drop k= []:=iR h
theorem Uk {F:aE} {c:di} :ig {F with bw:=F.bw++ [c]} =c:=by
 unfold ig;simp [cH]
theorem O4 {eof ln x n:Nat} {F:aE} {rows:List Rw} {r:List Tx} (C:r.length=4) (hk:r.getD 0 []≠fA) (A:r.getD 0 []≠eN) (h:ic F (r.getD 1 [])= .ok x) (h1:r.getD 2 []= [89]∨r.getD 2 []= [78]) (h2:e8 (r.getD 3 []) 1024= .ok n) (h3:¬1024 < F.rules.length+n):
 hU eof F rows ln r=iu (kU r) eof n {F with bw:=F.bw++ [(⟨x,(if r.getD 0 []=dt then 2 else 1:Nat),(decide (r.getD 2 []= [89])),F.rules.length,n⟩:di)]} rows:=by
 rw [H7 C,SA hk A,Uk];unfold hU;rw [h];simp only;rw [if_neg (fun h3=>h1.elim h3.1 h3.2),h2];simp only;rw [if_neg h3]
 all_goals rfl
theorem WE {eof ln n:Nat} {F:aE} {rows:List Rw} {r:List Tx} (A:r.length=2) (hk:r.getD 0 []=fA) (h2:e8 (r.getD 1 []) 256= .ok n):ko eof F rows ln r=iu (kU r) eof n F rows:=by
 rw [H6 ab,hk,Sz];unfold ko;rw [h2]
 all_goals rfl
theorem NR {eof ln n:Nat} {F:aE} {seen:List Tx} {rows:List Rw} {r:List Tx} (C:r.length=2) (hk:r.getD 0 []=eN) (A:¬(fU∈seen∨dt∈seen)) (h2:e8 (r.getD 1 []) 1024= .ok n):j9 eof F seen rows ln r=iu (kU r) eof n F rows:=by
 rw [H6 ab,hk,Sy];unfold j9;rw [if_neg A,h2]
 all_goals rfl
theorem SG {F:aE} {V:eo} {i o x:Nat} (h5:F.sp.length=5) (hi:i < 5) (A:o=3 +i):(o3 F V).set o (bJ x)=o3 {F with sp:=F.sp.set i x} V:=by
 subst A;obtain ⟨k,cs,tr,sp,le,re,al,cl,ru⟩:=F
 match sp,h5 with
 | [a,b,c,d,e],_=>
   match i,hi with
   | 0,_=>rfl
   | 1,_=>rfl
   | 2,_=>rfl
   | 3,_=>rfl
   | 4,_=>rfl
theorem Dk {s:Tx} (h:s∈eh):eh.idxOf s < 5:=by
 have :∀ k∈eh,eh.idxOf k < 5:=aw;exact this s h
theorem Dj {s:Tx} (h:s∈eh):qQ s=(eh.idxOf s:Nat):=if_pos h
section
variable {eof ln:Nat} {F:aE} {seen:List Tx} {rows:List Rw} {r:List Tx}
theorem HW (h:r.getD 0 []∈eh):ca eof F seen rows ln r=kp F rows ln r:=by unfold ca; rw [if_pos h]
theorem SS (h:r.getD 0 []=iN):ca eof F seen rows ln r=kI F seen rows ln r:=by unfold ca; rw [h]; rfl
theorem HV (h:r.getD 0 []=ja):ca eof F seen rows ln r=mP F rows ln r:=by unfold ca; rw [h]; rfl
theorem HX (h:r.getD 0 []=jj):ca eof F seen rows ln r=mT F rows ln r:=by unfold ca; rw [h]; rfl
theorem BS (h:r.getD 0 []=kG):ca eof F seen rows ln r=kX F rows ln r:=by unfold ca; rw [h]; rfl
theorem HU (h:r.getD 0 []=fA):ca eof F seen rows ln r=ko eof F rows ln r:=by unfold ca; rw [h]; rfl
theorem yv (h:r.getD 0 []=eN):ca eof F seen rows ln r=j9 eof F seen rows ln r:=by unfold ca; rw [h]; rfl
theorem SR (h:r.getD 0 []=fU∨r.getD 0 []=dt):ca eof F seen rows ln r=hU eof F rows ln r:=by rcases h with h | h <;> (unfold ca; rw [h]; rfl)
theorem Wb {k:Tx} (hw:width k≠0) (A:k∉eh) (h1:k≠iN) (h2:k≠ja) (h3:k≠jj) (h4:k≠kG) (h5:k≠fA) (C:k≠eN):k=fU∨k=dt:=by
 unfold width at hw;rw [if_neg (by simp [A,h1,h2,h3,h4,h5,C])] at hw;by_cases h:k=fU∨k=dt
 · exact h
 · rw [if_neg h] at hw; exact absurd rfl hw
end
theorem gd.eq {A:ak} {H:gD} {seen:List Tx} {X Y:Except (Nat×Nat) (aE×List Rw)} {v:ag} {w:ak} (h:gd A H seen X v w) (he:Y=X):gd A H seen Y v w:=he ▸ h
theorem gd.er {A:ak} {H:gD} {seen:List Tx} {X:Except (Nat×Nat) (aE×List Rw)} {w:ak} {l e:Nat} (h:X= .error (l,e)) (he:e≠0) (C:Hb.aV w.heap H.rb 5=some (.int .i64 (l:Nat))) (hw:Wk A w):gd A H seen X (.int .i64 (e:Nat)) w:=⟨.inr ⟨l,e,h,he,rfl,C⟩,hw⟩
theorem BJ (I:ak) (H:gD) (F:aE) (k ln:Nat) (seen hd:List Tx) (bs:Nat) (an:Option Addr) (ax n:Nat) (w:ak) (aO:GS I H) (ap:na I w H F k ln seen) (hT:Tg I bs 9 hd.length (.slice an hd.length ax) (hd.map str)) (ca:hd.length=2∨hd.length=4) (ce:n≤70000) (bR:hd.getD 0 []≠fA→hd.getD 0 []≠eN→0 < F.bw.length):
 ba az 156 (a7 [bj H.rb,.slice an hd.length ax,ay n]) w (gd I H seen<|iu (kU hd) H.eof n F<|H.rows.drop k):=by
 have aG:∀ w,Wk I w→bW w.heap an hd:=fun w h=>(hT.wk h).cW.2;obtain ⟨a0,bt,bh⟩:∃ a c,H.vr= .slice a H.rows.length c:=by obtain ⟨B0,h1,_⟩:=aO; exact h1.slice
 have aX:∀ (w:ak) (k l:Nat) (s:List Tx) (vh:ag),iG w I.heap.size H k l s vh→Hb.aV w.heap H.rb 1=some (.slice a0 H.rows.length bt):=fun w k l s vh h=>by rw [← bh]; exact (a8 h.cells).trans rfl
 refine enter func156 aa ntmps156 aa<|bq 12 aa<|lp (fun a1 bo bn=> ∃ (i:Nat) (F':aE) (k' aY:Nat),(i≤n)∧(iu (kU hd) H.eof (n - i) F' (H.rows.drop k')=iu (kU hd) H.eof n F (H.rows.drop k))∧(na I bn H F' k' aY seen)∧(F'.bw=F.bw)∧(Sl bo [(0,bj H.rb),(1,.slice an hd.length ax),(2,ay n),(7,ay i)])∧(n - i=a1)) _ ⟨0,F,k,ln,ab,aa,ap,aa,aa,aa⟩ ?_;rintro a1 bo bn ⟨i,F',k',aY,hi,J,a4,a5,b3,rfl⟩;refine bA b3 ?_;have bI:=a4;obtain ⟨V,vh,bB,al,aL,a2,cb⟩:=a4;have cc:H.rows.length≤70000:=by obtain ⟨_,_,_,h⟩:=aO; exact h
 refine bq 8 aa<|cd aa (fun bN=> ?_) fun bN=> ?_;refine bz 6 aa<|dZ fun Z=>aT [0,1,2] aa Z<|cw 3 aa Z ((a8 al.cells).trans aa)<|aT [4,5,6] aa Z<|cw 7 aa Z (aX _ _ _ _ _ al)<|aT [8,9] aa Z<|hn aj ?_;have am:=al.wk Z;have bD:=bB.wk Z;have aN:=a2.trans Z;refine dz 1 aa<|cd aa (fun bO=> ?_) fun bO=> ?_;have b2:H.rows.drop k'= []:=drop_nil ab;rw [b2] at J;refine aH 6 aa<|p (ld1 aa<|(a8 am.cells).trans aa)<|au 2 aa<|e<|dd gM aa aa (v:=ay<|H.eof) aa am.cells (by show _ < 6; omega) fun b5 a3 bu=> ?_;have bG:=am.cU (k':=k') (ln':=H.eof) a3 bu;have bJ:Wk I b5:=aN.trans' a3 fun q bd h=>by have :=al.lo; omega
 exact aC 11 aa<|tr<|bc 2 aa<|aR aa<|gd.er (Sw J ab) aw bG.du bJ;obtain ⟨O,Y,ar,cr,b7,c',aK,bi,aA,bg,⟨br,aq⟩,hvl⟩:=aO.get aN (k:=k') ab;rw [bh] at bi;cases bi;have bT:=congrArg jr aK;simp only [cC] at bT;rw [aK] at J;have av:=aL.row (O,Y)<|by rw [aK]; exact mY ..
 have cf:0 < Y.length:=mu.2 av.1;have b9:=aL.len;refine bz 3 aa<|dZ fun G=>aT [0,1,2] aa G<|cw 3 aa G (aX _ _ _ _ _ am)<|aT [4,5,6] aa G<|cw 7 aa G ((a8 am.cells).trans aa)<|bP 8 aa (a6 oZ aa aa ab<|aB.ok (aA)<|mh ab) G<|aT [9] aa G<|cw 10 aa G (mi aA bg 1 aw)<|bP 11 aa (bm) G<|hn aj ?_;have ao:=am.wk G;refine dz 2 aa<|l9 14 fun E=>bU [0,1,2,3] aa E<|ma 4 aa E (aX _ _ _ _ _ ao)<|bU [5,6,7] aa E<|ma 8 aa E ((a8 ao.cells).trans aa)<|cT 9 aa (a6 oZ aa aa ab<|aB.ok (aA)<|mh ab) E<|bU [10] aa E<|ma 11 aa E (mi (aB.wk aA G) bg 0 aw)<|bU [12,13] aa E<|dK 14 aa aj aj<|dd gM aa aa (v:=ay O) aa (ao.wk E).cells (by show _ < 6; omega) fun b6 aP bv=> ?_;have aD:=(ao.wk E).cU (k':=k') (ln':=O) aP bv;have bE:=((bD.wk G).wk E).rb (ao.wk E) aP;have bL:Wk I b6:=((aN.trans G).trans E).trans' aP fun q bd h=>by have :=al.lo; omega
 refine eQ aj<|dq 7 aa<|p (ld1 aa<|(a8 aD.cells).trans aa)<|p (bC<|k'+1)<|au 2 aa<|e<|dd gM aa aa (v:=ay<|k'+1) aa aD.cells (by show _ < 6; omega) fun bk aS bx=> ?_;have aF:=aD.cU (k':=k'+1) (ln':=O) aS bx;have bF:=bE.rb aD aS;have ae:Wk I bk:=bL.trans' aS fun q bd h=>by have :=al.lo; omega
 refine aQ 4 aa<|dZ fun C=>bP 0 aa (mv) C<|bP 1 aa (a6 cM aa aa ab<|aB.ok ((aq.wk ae).cW.2)<|bS ab) C<|cw 2 aa C (bW.get (i:=0) (aq.wk ae).cW.2 ab)<|aT [3] aa C<|bP 4 aa (a6 cM aa aa ab<|aB.ok (aG _ ae)<|bS ab) C<|cw 5 aa C (bW.get (i:=0) (aG _ ae) ab)<|aT [6] aa C<|hn aj ?_;have ac:=ae.trans C;refine dz 1 aa<|cd aa (fun aU=> ?_) fun aU=> ?_;have ai:Y.getD 0 []≠hd.getD 0 []:=aU;exact aJ 9 aa<|tr<|bc 2 aa<|aR aa<|gd.er (BI J ab<|Td ai) aw (aF.wk C).du ac;have ai:Y.getD 0 []=hd.getD 0 []:=jG.1 aU;refine bz 2 aa ?_;refine ei (fun bp aZ=>(Y.take (kU hd).length=kU hd)∧(Wk bk aZ)∧(Sl bp [(0,bj H.rb),(1,.slice an hd.length ax),(2,ay n),(7,ay i),(8,.slice ar Y.length cr)])) ?_ ?_;refine bq 1 aa<|dZ fun A=>aT [0,1,2,3] aa A<|ji (t:=75) aa (fun bV=> ?_) fun bV=> ?_;refine cB 4 aa (fun _ _=>mv) A<|aT [5,6,7] aa A<|ji (t:=79) aa (fun bX=> ?_) fun bX=> ?_;exact aT [8,9,10,11,12,13,14,15] aa A<|bP 16 aa (wo aa) A<|hn aj<|bc 8 aa<|tr<|bc 2 aa<|tr<|bc 2 aa<|aR aa<|gd.er (BI J ab<|H9 ab<|.inl ab) aw ((aF.wk C).wk A).du<|ac.trans A;refine cB 8 aa (fun _ _=>mv) A<|cB 9 aa (fun _ _=>a6 cM aa aa ab<|aB.ok ((aq.wk ac).cW.2)<|bS ab) A<|cB 10 aa (fun w' ap=>ld1 aa<|Wk.aV ap<|bW.get (i:=1) (aq.wk ac).cW.2 ab) A<|aT [11] aa A<|cB 12 aa (fun _ _=>a6 cM aa aa ab<|aB.ok (aG _ ac)<|bS ab) A<|cB 13 aa (fun w' ap=>ld1 aa<|Wk.aV ap<|bW.get (i:=1) (aG _ ac) ab) A<|aT [14,15,16] aa A<|hn aj<|dz 1 aa<|cd aa (fun aW=> ?_) fun aW=> ?_;exact aJ 6 aa<|tr<|bc 2 aa<|tr<|bc 2 aa<|aR aa<|gd.er (BI J ab<|H9 ab<|.inr aW) aw ((aF.wk C).wk A).du<|ac.trans A;exact aJ 1 aa<|tn<|⟨(Ia ai av.1 fun _=>⟨ab,jG.1 aW⟩),(C.trans A),aa⟩
 exact aT [4,5,6,7,8,9,10,11,12,13,14,15,16] aa A<|hn aj<|bc 3 aa<|tn<|⟨(Ia ai av.1 fun h=>absurd h ab),(C.trans A),aa⟩
 rintro bp aZ ⟨bf,aI,b4⟩;refine bA b4<|aH 4 aa<|e<|aM (SD I H F' (k'+1) O seen Y br ar cr aZ ⟨V,vh,bF.wk aI,aF.wk aI,oJ.qE (aK ▸ aL),ae.trans aI,ab⟩ (aq.wk<|ae.trans aI) av.1 av.2.2 ab fun h1 h2=>by rw [a5]; exact bR (ai ▸ h1)<|ai ▸ h2) aa ?_;rintro v91 bl ⟨bZ,bM⟩;obtain ⟨b8,rfl,bb⟩:∃ e:Nat,v91=ay e∧((e=0∧∃ ah,jx F' O Y= .ok ah∧na I bl H ah (k'+1) O seen)∨(e≠0∧jx F' O Y= .error e∧Hb.aV bl.heap H.rb 5=some (ay O))):=by
  rcases bZ with ⟨ah,h1,h2,h3⟩ | ⟨e,h1,h2,h3,h4⟩;exact ⟨0,h2,.inl ⟨aa,ah,h1,h3⟩⟩;exact ⟨e,h3,.inr ⟨h2,h1,h4⟩⟩
 refine aQ 9 aa<|cd aa (fun bQ=> ?_) fun bQ=> ?_;obtain ⟨b1,bY,b0⟩:=bb.resolve_left fun h=>by omega
 exact aJ 9 aa<|tr<|bc 2 aa<|aR aa<|gd.er (Su J ab bf bY) b1 b0 bM;obtain ⟨_,ah,a9,bH⟩:=bb.resolve_right fun h=>by omega
 exact aJ 8 aa<|tn<|⟨_,ab,i+1,ah,k'+1,O,ab,(by rw [show n - (i+1)=n - i - 1 by omega]; exact Sx J ab bf a9),bH,((SC a9).1.trans a5),aa,aa⟩
 refine aJ 2 aa<|bK<|bc 8 aa<|aR aa ?_;rw [show n - i=0 by omega] at J;exact ⟨.inl ⟨F',k',aY,Sv J,aa,bI⟩,a2⟩
theorem Sg (E:ak) (H:gD) (F:aE) (k ln:Nat) (seen r:List Tx) (a1:Nat) (ar:Option Addr) (cr:Nat) (w:ak) (bK:GS E H) (I:na E w H F k ln seen) (hT:Tg E a1 9 r.length (.slice ar r.length cr) (r.map str)) (bq:∀ x∈r,x.length≤70000) (co:F.dp.length+F.aliases.length+F.bw.length+F.rules.length+(H.rows.drop k).length < 70000) (bp:r.length=4) (aP:r.getD 0 []=fU∨r.getD 0 []=dt):
 ba az 157 (a7 [bj H.rb,.slice ar r.length cr]) w (gd E H seen<|hU H.eof F (H.rows.drop k) ln r):=by
 have cn:=I;obtain ⟨V,vh,ah,G,ai,ag,b5⟩:=I;have C:∀ w,Wk E w→bW w.heap ar r:=fun w h=>(hT.wk h).cW.2;have cx:=G.lo;have cu:=ah.lo;have cs:=ai.len;have b0:=ai.sl;have cC:=(dD.1 G.cells).1;have b7:r.getD 0 []≠fA:=by rcases aP with h | h <;> rw [h] <;> decide
 have b8:r.getD 0 []≠eN:=by rcases aP with h | h <;> rw [h] <;> decide
 have cA:(r.getD 1 []).length≤70000:=bq _<|dR ab;have cB:(r.getD 3 []).length≤70000:=bq _<|dR ab;obtain ⟨a12,bv,ch⟩:=cz ah.dB;have bc:Hb.aV w.heap H.fb 12=some (.slice a12 F.rules.length bv):=by rw [← ch]; exact (a8 ah.cells).trans rfl
 refine enter func157 aa ntmps157 aa<|bg 9 aa<|p (a6 cM aa aa ab<|aB.ok (C _ ag)<|bS ab)<|p (ld1 aa<|bW.get (i:=1) (C _ ag) ab)<|e<|aM (HM E.heap.size H F V k ln seen vh (r.getD 1 []) w ah G ai.kd ab ab) aa ?_;rintro cI cj ⟨⟨x,aG,rfl,bi⟩,hE14⟩;have ac:=ag.trans hE14;refine p mv<|aQ 13 aa<|cd aa (fun b1=> ?_) fun b1=> ?_;have bh:ic F (r.getD 1 [])= .error aG∧aG≠0:=by
  rcases bi with ⟨_,_,h⟩ | h;omega;exact h
 exact aJ 8 aa<|aR aa<|gd.er (AS bh.1) bh.2 (G.wk hE14).du ac;obtain ⟨aF,cD,_⟩:ic F (r.getD 1 [])= .ok x∧x≠0∧aG=0:=by
  rcases bi with h | ⟨_,h⟩;exact h;omega
 refine bz 2 aa ?_;refine ei (fun bt aZ=>(r.getD 2 []= [89]∨r.getD 2 []= [78])∧(aZ=cj)∧(Sl bt [(0,bj H.rb),(1,.slice ar r.length cr),(5,bJ x)])) ?_ ?_;refine bg 3 aa<|p (a6 cM aa aa ab<|aB.ok (C _ ac)<|bS ab)<|p (ld1 aa<|bW.get (i:=2) (C _ ac) ab)<|au 2 aa<|gs (t:=24) aa (fun aO=> ?_) fun aO=> ?_;refine au 1 aa<|bI aa (a6 cM aa aa ab<|aB.ok (C _ ac)<|bS ab)<|bI aa (ld1 aa<|bW.get (i:=2) (C _ ac) ab)<|aQ 4 aa<|cd aa (fun aL=> ?_) fun aL=> ?_;exact aJ 6 aa<|tr<|aR aa<|gd.er (AT aF aO aL) aw (G.wk hE14).du ac;exact aJ 1 aa<|tn<|⟨(.inr<|jG.1 aL),aa,aa⟩
 exact aC 9 aa<|tn<|⟨(.inl<|jG.1 aO),aa,aa⟩
 rintro bt aZ ⟨aU,ci,ce⟩;refine bA ce ?_;subst ci;have aK:=ac;refine aH 3 aa<|p (a6 cM aa aa ab<|aB.ok (C _ aK)<|bS ab)<|p (ld1 aa<|bW.get (i:=3) (C _ aK) ab)<|e<|aM (s6 (r.getD 3 []) 1024 aZ ab ab) aa ?_;rintro cJ aX ⟨rfl,a3⟩;have aA:=aK.trans a3;have J:=hE14.trans a3;have cb:=rT (r.getD 3 []) 1024;refine p mv<|aQ 13 aa<|cd aa (fun b2=> ?_) fun b2=> ?_;refine aJ 8 aa<|aR aa ?_;have a2:=qN (s:=r.getD 3 []) (most:=1024) ab;show gd E H seen _ (.int .i64 (ee (r.getD 3 []) 1024).2) aX;rw [a2.2];exact gd.er (FG aF aU a2.1) aw (G.wk J).du aA;have aS:=o8 (by omega :(ee (r.getD 3 []) 1024).2=0);have ca:=cb ab;obtain ⟨n,aD⟩:∃ n,n=(ee (r.getD 3 []) 1024).1:=⟨_,rfl⟩
 rw [← aD] at aS ca;refine aH 8 aa<|p (ld1 aa<|(a8 (G.wk J).cells).trans aa)<|au 2 aa<|p (ld1 aa<|Wk.aV J bc)<|au 2 aa<|p (bC<|F.rules.length+(ee (r.getD 3 []) 1024).1)<|aQ 3 aa<|cd aa (fun b3=> ?_) fun b3=> ?_;exact aJ 7 aa<|aR aa<|gd.er (FH aF aU aS ab) aw (G.wk J).du aA;refine bz 3 aa<|dZ fun A=>uh 0 aa (bJ x) A<|aT [1] aa A<|bP 2 aa (a6 cM aa aa ab<|aB.ok (C _ aA)<|bS ab) A<|cw 3 aa A (bW.get (i:=2) (C _ aA) ab)<|aT [4,5,6,7] aa A<|cw 8 aa A ((a8 (G.wk J).cells).trans aa)<|aT [9,10] aa A<|cw 11 aa A (Wk.aV J bc)<|aT [12,13] aa A<|fz 14 aa (fun _ _=>cV (ps:= [(0,bJ x),(1,ay 2),(2,.bool (decide (r.getD 2 []= [89]))),(3,ay (F.rules.length)),(4,ay ((ee (r.getD 3 []) 1024).1))]) (L:= [bJ x,ay 2,.bool (decide (r.getD 2 []= [89])),ay (F.rules.length),ay ((ee (r.getD 3 []) 1024).1)]) KL aa<|aa) A<|he 15 aa aj<|gK tg fun ae ck cp av bD=> ?_;have cF:=av.size;have cE:=A.size;have bV:(fun w'=>Wk aX w') ck:=A.trans av.md;refine ⟨bV,?_⟩;refine he 16 aa aj<|gA rB aa aa aa aa bD aw fun aW a4 bx=> ?_;have ao:Wk w aW:=(J.trans<|A.trans av.md).trans' a4 fun k hk h=>by have :=J.size; omega
 have bf:aW.heap[ae]? =some (.cells [bJ x,ay 2,.bool (decide (r.getD 2 []= [89])),ay (F.rules.length),ay n].toArray 216 (0,0)):=by rw [aD]; exact bx
 have bb:w.heap.size≤ae:=by have :=J.size; omega
 have bX:(fun w'=>Wk aX w') aW:=(A.trans av.md).trans' a4 fun k hk h=>by omega
 refine ⟨bX,?_⟩;refine hn aj<|dz 1 aa ?_;refine ei (fun a0 Y=>(Y.heap[ae]? =some (.cells [bJ x,.int .i64 ((if r.getD 0 []=dt then 2 else 1:Nat):Nat),.bool (decide (r.getD 2 []= [89])),ay (F.rules.length),ay n].toArray 216 (0,0)))∧(Wk w Y)∧(w.heap.size≤ae)∧(a0 7=ay n)∧(Sl a0 [(0,bj H.rb),(1,.slice ar r.length cr),(5,bJ x),(8,bj ae)])) ?_ ?_;refine bg 3 aa<|p (a6 cM aa aa ab<|aB.ok (C _<|ag.trans ao)<|bS ab)<|p (ld1 aa<|bW.get (i:=0) (C _<|ag.trans ao) ab)<|aQ 3 aa<|cd aa (fun aN=> ?_) fun aN=> ?_;exact aH 2 aa<|e<|dd gM aa aa (v:=ay 1) aa bf (by show _ < 5; omega) fun cL bL bB=>aC 1 aa<|tn<|⟨(by rw [if_neg (show ¬r.getD 0 []=dt from fun h=>by have h2:r.getD 0 []=fU:=aN; rw [h2] at h; exact absurd h aw)]; exact bB),(ao.trans' bL fun k hk h=>by omega),bb,(by rw [aD]; rfl),aa⟩
 exact aJ 1 aa<|tn<|⟨(by rw [if_pos (aP.resolve_left aN)]; exact bf),ao,bb,(by rw [aD]; rfl),aa⟩
 rintro a0 Y ⟨b4,aq,cy,cg,cf⟩;refine bA cf<|fx 7 cg ?_;have am:=ah.wk aq;have ax:=G.wk aq;have bk:¬(V.v11.ownBlock=some H.rb):=dO am.eC ax.cells aw;have b9:¬(V.v11.ownBlock=some H.fb):=dO am.eC am.cells aw;have b6:¬(V.v11.ownBlock=some ae):=fun h=>by have :=(dH ah.eC h).2; omega
 refine bz 1 aa ?_;have O:(fun w'=>Md (fun k=>V.v11.ownBlock=some k) Y w') Y.drew:=(Md.refl _ _).drew;refine gO (fun w'=>Md (fun k=>V.v11.ownBlock=some k) Y w') 16 aa wide O<|bU [0,1,2] aa O<|eW 3 aa (fun w' I=>ld1 aa<|Md.aV I ((a8 ax.cells).trans aa) bk) O<|bU [4,5,6] aa O<|eW 7 aa (fun w' I=>ld1 aa<|Md.aV I ((a8 ax.cells).trans aa) bk) O<|bU [8,9] aa O<|eW 10 aa (fun w' I=>ld1 aa<|Md.aV I ((a8 am.cells).trans aa) b9) O<|eW 11 aa (fun w' I=>cQ tM aa (aa) fun j cv=>bO.bu ⟨_,Md.bl I b4 b6⟩ j) O<|gN 12 aa aj<|lf Kz aa aa aa fun cm cl cq bM bE=> ?_;have al:=iQ bM.md;have Z:=am.wk al;have bN:=ax.wk al;have cG:=(aq.trans al).size;have a5:(fun w'=>Md (fun k=>V.v11.ownBlock=some k) Y w') cl:=Md.mono al fun _ _ h=>h.elim;refine ⟨a5,?_⟩;refine gN 13 aa aj<|ap Kz (Z.eC) aa ab aa (aB.dT bE) (aa) (aa) ab ab fun br aY bn an cH ct=> ?_;have bQ:=bN.own Z.eC an aw;have bd:=an.bl Z.cells<|dO Z.eC Z.cells aw;have cc:bo aY E.heap.size 216 5 br (F.bw++ [(⟨x,(if r.getD 0 []=dt then 2 else 1:Nat),(decide (r.getD 2 []= [89])),F.rules.length,n⟩:di)]).length (rK<|F.bw++ [(⟨x,(if r.getD 0 []=dt then 2 else 1:Nat),(decide (r.getD 2 []= [89])),F.rules.length,n⟩:di)]):=by rw [show rK (F.bw++ [(⟨x,(if r.getD 0 []=dt then 2 else 1:Nat),(decide (r.getD 2 []= [89])),F.rules.length,n⟩:di)])=rK F.bw++og (⟨x,(if r.getD 0 []=dt then 2 else 1:Nat),(decide (r.getD 2 []= [89])),F.rules.length,n⟩:di) from by simp [rK],bG]; exact bn
 have bY:Wk E aY:=(ag.trans<|aq.trans al).trans' an fun k hk h=>by have :=(dH Z.eC h).1; omega
 have a9:(fun w'=>Md (fun k=>V.v11.ownBlock=some k) Y w') aY:=a5.trans' an fun _ _ h=>h;refine ⟨a9,?_⟩;refine bU [14,15] aa a9<|dK 16 aa aj aj<|dd Qo aa aa (v:=br) (e9 bn) bd (by show _ < 13; omega) fun bs aI bF=> ?_;have bH:=eL.AA (x:=(⟨x,(if r.getD 0 []=dt then 2 else 1:Nat),(decide (r.getD 2 []= [89])),F.rules.length,n⟩:di)) Z an cc aI bF;have bR:=bQ.pQ bd aI;have bZ:Wk E bs:=bY.trans' aI fun k hk h=>by omega
 exact eQ aj<|dq 6 aa<|e<|aM (BJ E H {F with bw:=F.bw++ [(⟨x,(if r.getD 0 []=dt then 2 else 1:Nat),(decide (r.getD 2 []= [89])),F.rules.length,n⟩:di)]} k ln seen r a1 ar cr n bs bK ⟨_,vh,bH,bR,⟨by simp only [bG,fg]; omega,b0,ai.row,ai.kd⟩,bZ,b5⟩ hT (.inr bp) ab fun _ _=>by simp only [bG,fg]; omega) aa fun cK cN bT=>p bm<|aC 3 aa<|aR aa<|gd.eq bT<|O4 bp b7 b8 aF aU aS ab
theorem SB (G:ak) (H:gD) (F:aE) (k ln:Nat) (seen r:List Tx) (aq:Nat) (ar:Option Addr) (cr:Nat) (w:ak) (aL:GS G H) (bb:na G w H F k ln seen) (hT:Tg G aq 9 r.length (.slice ar r.length cr) (r.map str)) (a4:∀ x∈r,x.length≤70000) (bB:F.dp.length+F.aliases.length+F.bw.length+F.rules.length+(H.rows.drop k).length < 70000) (hw:r.length=width (r.getD 0 [])) (bK:width (r.getD 0 [])≠0):
 ba az 97 (a7 [bj H.rb,.slice ar r.length cr]) w (gd G H seen<|ca H.eof F seen (H.rows.drop k) ln r):=by
 have bd:=bb;obtain ⟨V,vh,E,C,I,A,ap⟩:=bb;have J:∀ w,Wk G w→bW w.heap ar r:=fun w h=>(hT.wk h).cW.2;have b2:=C.lo;have b1:=E.lo;have b0:=I.len;have aK:=I.sl;have b3:=(dD.1 C.cells).1;have b4:0 < r.length:=ab;have O:2≤r.length→(r.getD 1 []).length≤70000:=fun h=>a4 _<|dR ab;refine enter func97 aa ntmps97 aa<|bg 8 aa<|p (a6 cM aa aa ab<|aB.ok (J _ A)<|bS ab)<|p (ld1 aa<|bW.get (i:=0) (J _ A) ab)<|au 6 aa<|e<|aM (BQ (r.getD 0 []) w) aa ?_;rintro v24 ai ⟨rfl,bN⟩;subst bN;refine aQ 10 aa<|cd aa (fun aV=> ?_) fun aV=> ?_;have ag:=uz.1 aV;have ac:r.length=2:=by rw [hw,Lv ag]
 have O:=O ab;refine aH 4 aa<|p (a6 cM aa aa ab<|aB.ok (J _ A)<|bS ab)<|p (ld1 aa<|bW.get (i:=1) (J _ A) ab)<|e<|aM (HM G.heap.size H F V k ln seen vh (r.getD 1 []) ai E C I.kd ab ab) aa ?_;rintro v32 cj ⟨⟨x,bZ,rfl,bF⟩,hE32⟩;have bx:=A.trans hE32;refine p mv<|au 11 aa<|p (ld1 aa<|(a8 (C.wk hE32).cells).trans aa)<|au 4 aa<|p (kF tP aa aa<|by rw [Dj ag]; have :=Dk ag; omega)<|e<|dd gM aa aa (v:=bJ x) aa (E.wk hE32).cells (by show 0 +3 +(qQ<|r.getD 0 []).toNat*1 < 13; rw [Dj ag]; have :=Dk ag; omega) fun bo aN bp=> ?_;have bI:=SG (F:=F) (V:=V) (x:=x) (o:=0 +3 +(qQ<|r.getD 0 []).toNat*1) E.gl (Dk ag)<|by rw [Dj ag]; omega
 have bq:bo.heap[H.fb]? =some (.cells (o3 {F with sp:=F.sp.set (eh.idxOf<|r.getD 0 []) x} V).toArray 154 (0,0)):=by rw [← bI]; exact bp
 have br:=(E.wk hE32).put (F':= {F with sp:=F.sp.set (eh.idxOf<|r.getD 0 []) x}) aN bq rfl rfl rfl rfl (by show (F.sp.set _ _).length=5; rw [List.length_set]; exact E.gl);have a9:=(C.wk hE32).fb (E.wk hE32) aN;have aO:Wk G bo:=bx.trans' aN fun k hk h=>by omega
 refine aC 10 aa<|aR aa ?_;rcases bF with ⟨a5,_,rfl⟩ | ⟨a5,bG⟩;exact ⟨.inl ⟨_,k,ln,(HW ag).trans (KF a5),aa,⟨V,vh,br,a9,⟨I.len,aK,I.row,I.kd⟩,aO,ap⟩⟩,aO⟩;exact gd.er ((HW ag).trans<|KE a5) bG a9.du aO;have bO:r.getD 0 []∉eh:=fun h=>aV<|uz.2 h;refine bz 15 aa<|cd aa (fun aW=> ?_) fun aW=> ?_;have h1:r.getD 0 []=iN:=aW;have ac:r.length=2:=by rw [hw,h1]; rfl
 have O:=O ab;exact aH 4 aa<|e<|aM (SE G H F k ln seen r aq ar cr ai bd (hT.wk A) ac a4) aa fun v50 ck bv=>p bm<|aC 5 aa<|aR aa<|gd.eq bv<|SS h1;have bP:¬r.getD 0 []=iN:=aW;refine bz 6 aa<|cd aa (fun aX=> ?_) fun aX=> ?_;have h2:r.getD 0 []=ja:=aX;have ac:r.length=2:=by rw [hw,h2]; rfl
 have O:=O ab;refine aH 3 aa<|p (a6 cM aa aa ab<|aB.ok (J _ A)<|bS ab)<|p (ld1 aa<|bW.get (i:=1) (J _ A) ab)<|e<|aM (wv (r.getD 1 []) ai ab) aa ?_;rintro ce cl ⟨rfl,am⟩;have aI:=A.trans am;refine aQ 10 aa<|cb aa (fun aY=> ?_) fun aY=> ?_;exact aJ 9 aa<|aR aa<|gd.er ((HV h2).trans<|Km<|by simpa using aY) aw (C.wk am).du aI;refine bz 3 aa<|l9 9 fun Z=>bU [0,1,2] aa Z<|ma 3 aa Z ((a8 (C.wk am).cells).trans aa)<|bU [4] aa Z<|cT 5 aa (a6 cM aa aa ab<|aB.ok (J _ aI)<|bS ab) Z<|ma 6 aa Z (bW.get (i:=1) (J _ aI) ab)<|bU [7,8] aa Z<|dK 9 aa aj aj<|dd l7 aa aa (v:=str<|r.getD 1 []) aa ((E.wk am).wk Z).cells (by show _ < 13; omega) fun aD Y ax=> ?_;have aA:=((E.wk am).wk Z).put (F':= {F with sL:=r.getD 1 []}) Y ax rfl rfl rfl rfl E.gl;have ao:=((C.wk am).wk Z).fb ((E.wk am).wk Z) Y;have ae:Wk G aD:=(aI.trans Z).trans' Y fun k hk h=>by omega
 exact eQ aj<|bc 9 aa<|aR aa<|⟨.inl ⟨_,k,ln,(HV h2).trans (Ko<|by simpa using aY),aa,⟨V,vh,aA,ao,⟨I.len,aK,I.row,I.kd⟩,ae,ap⟩⟩,ae⟩
 have bQ:¬r.getD 0 []=ja:=aX;refine bz 6 aa<|cd aa (fun aZ=> ?_) fun aZ=> ?_;have h3:r.getD 0 []=jj:=aZ;have ac:r.length=2:=by rw [hw,h3]; rfl
 have O:=O ab;refine aH 3 aa<|p (a6 cM aa aa ab<|aB.ok (J _ A)<|bS ab)<|p (ld1 aa<|bW.get (i:=1) (J _ A) ab)<|e<|aM (WT (r.getD 1 []) ai ab) aa ?_;rintro cf cm ⟨rfl,an⟩;have bA:=A.trans an;refine p mv<|au 11 aa<|p (ld1 aa<|(a8 (C.wk an).cells).trans aa)<|au 3 aa<|e<|dd l7 aa aa (v:=str (letE<|r.getD 1 []).1) aa (E.wk an).cells (by show _ < 13; omega) fun aD Y ax=> ?_;have aA:=(E.wk an).put (F':= {F with tr:=(letE<|r.getD 1 []).1}) Y ax rfl rfl rfl rfl E.gl;have ao:=(C.wk an).fb (E.wk an) Y;have ae:Wk G aD:=bA.trans' Y fun k hk h=>by omega
 refine aC 11 aa<|aR aa ?_;by_cases h:(letE<|r.getD 1 []).2=0;exact ⟨.inl ⟨_,k,ln,(HX h3).trans (K9 h),by rw [h]; rfl,⟨V,vh,aA,ao,⟨I.len,aK,I.row,I.kd⟩,ae,ap⟩⟩,ae⟩;exact gd.er ((HX h3).trans<|K8 h) h ao.du ae;have bR:¬r.getD 0 []=jj:=aZ;refine bz 6 aa<|cd aa (fun a0=> ?_) fun a0=> ?_;have h4:r.getD 0 []=kG:=a0;have ac:r.length=2:=by rw [hw,h4]; rfl
 have O:=O ab;refine aH 3 aa<|p (a6 cM aa aa ab<|aB.ok (J _ A)<|bS ab)<|p (ld1 aa<|bW.get (i:=1) (J _ A) ab)<|e<|aM (s6 (r.getD 1 []) 64 ai ab ab) aa ?_;rintro v91 cn ⟨rfl,ah⟩;have aP:=A.trans ah;refine p mv<|au 12 aa<|gs (t:=96) aa (fun bi=> ?_) fun bi=> ?_;exact aC 15 aa<|aR aa<|gd.er ((BS h4).trans<|I6 (qN bi).1) aw (C.wk ah).du aP;refine aQ 5 aa<|cd aa (fun bE=> ?_) fun bE=> ?_;exact aJ 9 aa<|aR aa<|gd.er ((BS h4).trans<|I7 (o8 ab) ab) aw (C.wk ah).du aP;refine aH 7 aa<|p (ld1 aa<|(a8 (C.wk ah).cells).trans aa)<|au 3 aa<|e<|dd gM aa aa (v:=ay<|(ee (r.getD 1 []) 64).1) aa (E.wk ah).cells (by show _ < 13; omega) fun aD Y ax=> ?_;have aA:=(E.wk ah).put (F':= {F with least:=(ee (r.getD 1 []) 64).1}) Y ax rfl rfl rfl rfl E.gl;have ao:=(C.wk ah).fb (E.wk ah) Y;have ae:Wk G aD:=aP.trans' Y fun k hk h=>by omega
 exact aC 10 aa<|aR aa<|⟨.inl ⟨_,k,ln,(BS h4).trans (I8 (o8 ab) ab),aa,⟨V,vh,aA,ao,⟨I.len,aK,I.row,I.kd⟩,ae,ap⟩⟩,ae⟩
 have bT:¬r.getD 0 []=kG:=a0;refine bz 6 aa<|cd aa (fun aS=> ?_) fun aS=> ?_;have h5:r.getD 0 []=fA:=aS;have ac:r.length=2:=by rw [hw,h5]; rfl
 have O:=O ab;refine aH 3 aa<|p (a6 cM aa aa ab<|aB.ok (J _ A)<|bS ab)<|p (ld1 aa<|bW.get (i:=1) (J _ A) ab)<|e<|aM (s6 (r.getD 1 []) 256 ai ab ab) aa ?_;rintro b5 bl ⟨rfl,aF⟩;have bf:=A.trans aF;have a2:=rT (r.getD 1 []) 256;refine p mv<|aQ 13 aa<|cd aa (fun bC=> ?_) fun bC=> ?_;refine aJ 10 aa<|aR aa ?_;have av:=qN (s:=r.getD 1 []) (most:=256) ab;show gd G H seen _ (.int .i64 (ee (r.getD 1 []) 256).2) bl;rw [av.2];exact gd.er ((HU h5).trans<|JZ av.1) aw (C.wk aF).du bf;exact aH 7 aa<|e<|aM (BJ G H F k ln seen r aq ar cr (ee (r.getD 1 []) 256).1 bl aL ⟨V,vh,E.wk aF,C.wk aF,I,bf,ap⟩ hT (.inl ac) (by have :=a2 ab; omega) fun h _=>absurd h5 h) aa fun b6 cg bs=>p bm<|aC 5 aa<|aR aa<|gd.eq bs<|(HU h5).trans<|WE ac h5<|o8 ab;have bV:¬r.getD 0 []=fA:=aS;refine bz 6 aa<|cd aa (fun aT=> ?_) fun aT=> ?_;have al:r.getD 0 []=eN:=aT;have ac:r.length=2:=by rw [hw,al]; rfl
 have O:=O ab;refine aH 3 aa<|e<|aM (BR G.heap.size H k ln seen vh fU ai C ab) aa ?_;rintro b7 bX ⟨rfl,bL⟩;subst bL;refine au 6 aa<|e<|aM (BR G.heap.size H k ln seen vh dt bX C ab) aa ?_;rintro b8 bY ⟨rfl,bM⟩;subst bM;refine au 8 aa<|gb (t:=130) aa (fun a1=> ?_) fun a1=> ?_;exact aC 14 aa<|aR aa<|gd.er ((yv al).trans<|Ay<|.inl<|of_decide_eq_true a1) aw C.du A;refine aQ 4 aa<|cb aa (fun aU=> ?_) fun aU=> ?_;exact aJ 9 aa<|aR aa<|gd.er ((yv al).trans<|Ay<|.inr<|of_decide_eq_true aU) aw C.du A;have bk:¬(fU∈seen∨dt∈seen):=fun h=>h.elim (of_decide_eq_false a1)<|of_decide_eq_false aU;refine aH 5 aa<|p (a6 cM aa aa ab<|aB.ok (J _ A)<|bS ab)<|p (ld1 aa<|bW.get (i:=1) (J _ A) ab)<|e<|aM (s6 (r.getD 1 []) 1024 bY ab ab) aa ?_;rintro b9 bn ⟨rfl,aG⟩;have bh:=A.trans aG;have a2:=rT (r.getD 1 []) 1024;refine p mv<|aQ 13 aa<|cd aa (fun bD=> ?_) fun bD=> ?_;refine aJ 10 aa<|aR aa ?_;have av:=qN (s:=r.getD 1 []) (most:=1024) ab;show gd G H seen _ (.int .i64 (ee (r.getD 1 []) 1024).2) bn;rw [av.2];exact gd.er ((yv al).trans<|EY bk av.1) aw (C.wk aG).du bh;exact aH 7 aa<|e<|aM (BJ G H F k ln seen r aq ar cr (ee (r.getD 1 []) 1024).1 bn aL ⟨V,vh,E.wk aG,C.wk aG,I,bh,ap⟩ hT (.inl ac) (by have :=a2 ab; omega) fun _ h=>absurd al h) aa fun v146 ch bt=>p bm<|aC 5 aa<|aR aa<|gd.eq bt<|(yv al).trans<|NR ac al bk<|o8 ab;have n6:¬r.getD 0 []=eN:=aT;have a3:=Wb bK bO bP bQ bR bT bV n6;have bH:r.length=4:=by rw [hw,Lw a3]
 exact aH 7 aa<|e<|aM (Sg G H F k ln seen r aq ar cr ai aL bd hT a4 bB bH a3) aa fun cc ci bu=>p bm<|aC 3 aa<|aR aa<|gd.eq bu<|SR a3
end Go.Hb.EI
end
section
namespace Go.Hb.kQ
open Go.Hb.tK Go.Hb.Ap Go.Hb.EI
theorem Tg.blt {w:ak} {B e n cp:Nat} {a:Option Addr} {xs:List ag} (h:Tg w B e n (.slice a n cp) xs) (G:xs≠[]):bk a < w.heap.size:=by
 obtain ⟨I,c',E,_,C⟩:=h;cases E;rcases C with rfl | ⟨J,cur,z2,rfl,_,A,_⟩
 · exact absurd aa G
 · exact (dD.1 A).1
def Np (w':ak) (B:Nat) (F:aE) (v:ag):Prop := ∃ B1 fb V,B≤B1∧v= .tuple #[.pointer (some ⟨fb,0,none⟩),.int .i64 0,.int .i64 0]∧eL w' B1 0 fb F V∧(∃ seen,oJ F [] seen)∧Nx F
def No (e:Nat×Nat) (v:ag):Prop :=v= .tuple #[.pointer none,.int .i64 (e.1:Nat),.int .i64 (e.2:Nat)]
theorem o4 {l:List (cJ×ag)} {i:Nat} {q:cJ×ag} (h:l[i]? =some q):np l≠[]:=fun h2=>by
 have h3:(np l).length=l.length*8:=mJ (f:=jZ) (m:=8) (fun _=>rfl) _;have h4:=(ff.1 h).1;rw [h2] at h3;have h5:0=l.length*8:=h3;omega
def mB (s:Tx) (w:ak) (v:ag) (w':ak):Prop :=(match fH s with | .ok F=>Np w' w.heap.size F v | .error e=>No e v)∧Wk w w'
theorem mB.no {s:Tx} {w w':ak} {l e:Nat} (h:fH s= .error (l,e)) (hm:Wk w w'):mB s w (.tuple #[.pointer none,.int .i64 (l:Nat),.int .i64 (e:Nat)]) w':=by
 unfold mB; rw [h]; exact ⟨rfl,hm⟩
theorem Wp (s:Tx) (w:ak) (hs:s.length≤1048576):
 ba az 55 (a7 [str s]) w (mB s w):=by
 refine enter func55 aa ntmps55 aa<|bg 10 aa<|e<|aM (J7 s _ hs) aa ?_;rintro v20 ed ⟨⟨a20,rfl,ck⟩,hE20⟩;refine p mv<|au 2 aa<|p bm<|aQ 10 aa<|cd aa (fun bO=> ?_) fun bO=> ?_;have cg:65536 < s.length:=tj fun h=>bO<|by rw [if_neg h]
 refine aJ 10 aa<|f3 aa aa aa aa ?_;have h:=mB.no (ES cg) hE20;show mB s w (.tuple #[.pointer none,.int .i64 0,.int .i64 (if 65536 < s.length then 10 else 0)]) ed;rw [if_pos cg];exact h;have am:¬65536 < s.length:=fun h=>bO<|by rw [if_pos h]; decide
 rw [if_neg am] at ck;obtain ⟨vs,ct,dY⟩:=ck;obtain ⟨ar,cr,rfl⟩:=cz ct;refine aH 5 aa<|e<|aM (CZ s _ hs) aa ?_;rintro eG E ⟨dW,bu⟩;obtain ⟨eF,el,rfl⟩:=cz dW;have ac:=hE20.trans bu;have eu:=o6 s;have ex:=y5 s;refine p bm<|au 4 aa<|p (cV (ps:= [(0,.int .i64 1),(4,.int .i64 3)]) (L:= [.int .i64 1,.string ⟨⟨[]⟩⟩,.string ⟨⟨[]⟩⟩,.int .i64 0,.int .i64 0,.int .i64 0,.int .i64 0,.int .i64 0,.int .i64 3,.slice none 0 0,.slice none 0 0,.slice none 0 0,.slice none 0 0]) XU aa<|aa)<|e<|nU aa fun A eN ep b7 c0=> ?_;have eC:=b7.size;refine p mv<|p mv<|au 1 aa<|p (bC<|(bL s).length+1)<|p (cV (ps:= [(0,bj A),(1,.slice ar (bT s).length cr),(3,ay ((bL s).length+1))]) (L:= [bj A,.slice ar (bT s).length cr,.int .i64 0,ay ((bL s).length+1),.slice none 0 0,.int .i64 0]) X2 aa<|aa)<|e<|nU aa fun C br er bE c2=> ?_;have eD:=bE.size;have c5:Wk E br:=b7.md.trans bE.md;have b5:GS E (⟨C,A,(bL s).length+1,.slice ar (bT s).length cr,vs,bT s⟩:gD):=⟨w.heap.size,(Tg.j5 ct).wk bu,dY.wk bu,by show (bT s).length≤70000; omega⟩
 have c6:eL br E.heap.size 0 A iJ ⟨.slice none 0 0,.slice none 0 0,.slice none 0 0,.slice none 0 0,[],[]⟩:=⟨Wk.bl bE.md c0,dE _ _ _ _,dE _ _ _ _,iT.nil _ _ _,dE _ _ _ _,dE _ _ _ _,iT.nil _ _ _,ab,rfl⟩
 have di:iG br E.heap.size (⟨C,A,(bL s).length+1,.slice ar (bT s).length cr,vs,bT s⟩:gD) 0 0 [] (.slice none 0 0):=⟨c2,dE _ _ _ _,by show E.heap.size≤C; omega⟩
 have dn:na E br (⟨C,A,(bL s).length+1,.slice ar (bT s).length cr,vs,bT s⟩:gD) iJ 0 0 []:=⟨_,_,c6,di,⟨by show 0 +0 +0 +0 +(bT s).length≤70000; omega,by show 0 +(bT s).length≤70000; omega,fun q ah=>by have h:=y6 (show q∈bT s from ah); exact ⟨h.2.2.1,ab,fun x d8=>by have :=(h.2.2.2.2 x d8).2; omega⟩,.inl rfl⟩,c5,gY _⟩
 have dS:Nx iJ:=⟨fun l bV=>(by cases bV),fun l bV=>by cases bV⟩
 refine aQ 5 aa<|lp (fun Z cI aD=> ∃ (bp:Nat) (F:aE) (k ln:Nat) (seen:List Tx),(ij (⟨C,A,(bL s).length+1,.slice ar (bT s).length cr,vs,bT s⟩:gD).eof bp F seen ((bT s).drop k)=ij ((bL s).length+1) (bT s).length iJ [] (bT s))∧(((bT s).drop k).length≤bp)∧(na E aD (⟨C,A,(bL s).length+1,.slice ar (bT s).length cr,vs,bT s⟩:gD) F k ln seen)∧(Nx F)∧(Sl cI [(5,.slice ar (bT s).length cr),(8,bj C)])∧(((bT s).drop k).length=Z)) _ ⟨(bT s).length,iJ,0,0,[],aa,(cE _),dn,dS,aa,aa⟩ ?_;rintro Z cI aD ⟨bp,F,k,ln,seen,O,ax,aY,bX,d0,rfl⟩;refine bA d0 ?_;obtain ⟨V,vh,ae,Y,I,aR,co⟩:=aY;have co:k≤(bT s).length:=co;refine bg 6 aa<|p (ld1 aa<|(a8 Y.cells).trans aa)<|aQ 5 aa<|cd aa (fun dD=> ?_) fun dD=> ?_;obtain ⟨n,r,a0,bs,cO,c',av,d5,aI,bo,⟨cN,bF⟩,cx⟩:=b5.get aR (k:=k)<|by show k < (bT s).length; omega
 have cy:bQ ar (bT s).length cr= .slice cO (bT s).length c':=d5;simp only [Value.slice.injEq,true_and] at cy;obtain ⟨rfl,rfl⟩:=cy;have aI:aB aD.heap ar (k3 vs):=aI;have bo:vs[k]? =some (n,.slice a0 r.length bs):=bo;have cx:vs.length=(bT s).length:=cx;have av:(bT s).drop k=(n,r)::(bT s).drop (k+1):=av;have I:oJ F ((bT s).drop k) seen:=I;rw [av] at O ax I;have cu:=I.row (n,r)<|mY ..;have ew:0 < r.length:=mu.2 cu.1;have du:=I.len;have dv:=I.sl;simp only [cC] at du dv ax;have cS:=oJ.qE I;have aL:∀ w,Wk E w→bW w.heap a0 r:=fun w h=>(bF.wk h).cW.2;refine aH 9 aa<|p (ld1 aa<|(a8 Y.cells).trans aa)<|p (a6 oZ aa aa ab<|aB.ok (aI)<|mh ab)<|au 1 aa<|p (ld1 aa<|mi aI bo 1 aw)<|p bm<|au 9 aa<|p (ld1 aa<|(a8 Y.cells).trans aa)<|p (a6 oZ aa aa ab<|aB.ok (aI)<|mh ab)<|au 1 aa<|p (ld1 aa<|mi aI bo 0 aw)<|au 2 aa<|e<|dd gM aa aa (v:=ay n) aa Y.cells (by show _ < 6; omega) fun ef bB c3=> ?_;have a3:=Y.cU (k':=k) (ln':=n) bB c3;have de:=ae.rb Y bB;have dt:Wk E ef:=aR.trans' bB fun q ah h=>by have :=Y.lo; omega
 refine au 8 aa<|p (ld1 aa<|(a8 a3.cells).trans aa)<|p (bC<|k+1)<|au 2 aa<|e<|dd gM aa aa (v:=ay<|k+1) aa a3.cells (by show _ < 6; omega) fun cF bD c4=> ?_;have dk:=a3.cU (k':=k+1) (ln':=n) bD c4;have df:=de.rb a3 bD;have bM:Wk E cF:=dt.trans' bD fun q ah h=>by have :=Y.lo; omega
 refine au 4 aa<|p mv<|p (a6 cM aa aa ab<|aB.ok (aL _ bM)<|bS ab)<|p (ld1 aa<|bW.get (i:=0) (aL _ bM) ab)<|e<|aM (SQ (r.getD 0 []) cF) aa ?_;rintro eH ee ⟨rfl,bv⟩;have aN:=bM.trans bv;have aW:=dk.wk bv;have dc:=df.wk bv;refine aQ 10 aa<|cd aa (fun dF=> ?_) fun dF=> ?_;have an:width (r.getD 0 [])=0:=ab;exact bz 1 aa<|dZ fun a4=>aT [0,1,2] aa a4<|cw 3 aa a4 ((a8 aW.cells).trans aa)<|aT [4,5,6] aa a4<|hn aj<|bc 4 aa<|tr<|bc 2 aa<|f3 aa aa aa aa<|mB.no (pL am<|JS O ax an)<|ac.trans<|aN.trans a4;have an:width (r.getD 0 [])≠0:=ab;refine aH 5 aa<|p mv<|aQ 5 aa<|cd aa (fun dG=> ?_) fun dG=> ?_;exact bz 1 aa<|dZ fun a5=>aT [0,1,2] aa a5<|cw 3 aa a5 ((a8 aW.cells).trans aa)<|aT [4,5,6] aa a5<|hn aj<|bc 4 aa<|tr<|bc 2 aa<|f3 aa aa aa aa<|mB.no (pL am<|JT O ax an ab)<|ac.trans<|aN.trans a5;have h1:r.length=width (r.getD 0 []):=ab;refine aH 5 aa<|p mv<|p (a6 cM aa aa ab<|aB.ok (aL _ aN)<|bS ab)<|p (ld1 aa<|bW.get (i:=0) (aL _ aN) ab)<|e<|aM (BR E.heap.size (⟨C,A,(bL s).length+1,.slice ar (bT s).length cr,vs,bT s⟩:gD) (k+1) n seen vh (r.getD 0 []) ee aW ab) aa ?_;rintro eI eg ⟨rfl,d7⟩;subst d7;refine aQ 3 aa ?_;refine ei (fun cJ b2=>(width (r.getD 0 [])=2→r.getD 0 []∉seen)∧(b2=eg)∧(Sl cJ [(5,.slice ar (bT s).length cr),(8,bj C),(9,.slice a0 r.length bs)])) ?_ ?_;refine bg 5 aa<|gs (t:=95) aa (fun dJ=> ?_) fun dJ=> ?_;refine aQ 4 aa<|cb aa (fun bR=> ?_) fun bR=> ?_;exact bz 1 aa<|dZ fun a9=>aT [0,1,2] aa a9<|cw 3 aa a9 ((a8 aW.cells).trans aa)<|aT [4,5,6] aa a9<|hn aj<|bc 2 aa<|tr<|bc 1 aa<|tr<|bc 2 aa<|f3 aa aa aa aa<|mB.no (pL am<|CV O ax an h1 ab<|of_decide_eq_true bR)<|ac.trans<|aN.trans a9;exact aJ 1 aa<|tn<|⟨(fun _=>of_decide_eq_false bR),aa,aa⟩
 exact aC 6 aa<|tn<|⟨(fun h=>absurd h ab),aa,aa⟩
 rintro cJ b2 ⟨cq,d6,d1⟩;refine bA d1 ?_;subst d6;refine aH 4 aa<|e<|aM (SB E (⟨C,A,(bL s).length+1,.slice ar (bT s).length cr,vs,bT s⟩:gD) F (k+1) n seen r cN a0 bs b2 b5 ⟨V,vh,dc,aW,cS,aN,by show k+1≤(bT s).length; omega⟩ bF cu.2.2 (by show _+((bT s).drop<|k+1).length < 70000; omega) h1 an) aa ?_;rintro ec aA ⟨dM,dr⟩;obtain ⟨em,rfl,cm⟩:∃ e:Nat,ec=ay e∧((e=0∧∃ F' k' ln',ca (⟨C,A,(bL s).length+1,.slice ar (bT s).length cr,vs,bT s⟩:gD).eof F seen ((bT s).drop<|k+1) n r= .ok (F',(bT s).drop k')∧na E aA (⟨C,A,(bL s).length+1,.slice ar (bT s).length cr,vs,bT s⟩:gD) F' k' ln' seen)∨(e≠0∧∃ l:Nat,ca (⟨C,A,(bL s).length+1,.slice ar (bT s).length cr,vs,bT s⟩:gD).eof F seen ((bT s).drop<|k+1) n r= .error (l,e)∧Hb.aV aA.heap C 5=some (ay l))):=by
  rcases dM with ⟨F',k',ln',h1,h2,h3⟩ | ⟨l,e,h1,h2,h3,h4⟩;exact ⟨0,h2,.inl ⟨aa,F',k',ln',h1,h3⟩⟩;exact ⟨e,h3,.inr ⟨h2,l,h1,h4⟩⟩
 refine aQ 10 aa<|cd aa (fun dw=> ?_) fun dw=> ?_;obtain ⟨cp,eE,dL,dQ⟩:=cm.resolve_left fun h=>by omega
 exact bz 1 aa<|dZ fun bb=>aT [0,1,2] aa bb<|cw 3 aa bb (dQ)<|aT [4,5,6,7] aa bb<|hn aj<|bc 4 aa<|tr<|bc 2 aa<|f3 aa aa aa aa<|mB.no (pL am<|CW O ax an h1 cq dL)<|ac.trans<|dr.trans bb;obtain ⟨_,F',k',ln',bf,dl⟩:=cm.resolve_right fun h=>by omega
 have cf:=CX O ax an h1 cq bf;obtain ⟨V2,eJ,c7,aq,bt,bd,dP⟩:=dl;obtain ⟨aF,aG,rfl⟩:=cz aq.hd;have dR:¬((bQ aF seen.length aG).ownBlock=some C):=dO aq.hd aq.cells aw;refine bz 2 aa ?_;have ag:(fun w'=>Md (fun q=>(bQ aF seen.length aG).ownBlock=some q) aA w') aA.drew:=(Md.refl _ _).drew;refine gO (fun w'=>Md (fun q=>(bQ aF seen.length aG).ownBlock=some q) aA w') 12 aa wide ag<|bU [0,1,2,3] aa ag<|eW 4 aa (fun w' aY=>ld1 aa<|Md.aV aY ((a8 aq.cells).trans aa) dR) ag<|bU [5] aa ag<|cT 6 aa (a6 cM aa aa ab<|aB.ok (aL _ bd)<|bS ab) ag<|eW 7 aa (fun w' aY=>ld1 aa<|bW.get (i:=0) (aB.md (aL _ bd) aY fun cp h=>by have h1:=Tg.blt bF cp; have h2:=(dH aq.hd h).1; omega) ab) ag<|gN 8 aa aj<|gv gk aa aa fun ej cB en dh cY=> ?_;have aS:=iQ dh.md;have aK:=aq.wk aS;have b8:(fun w'=>Md (fun q=>(bQ aF seen.length aG).ownBlock=some q) aA w') cB:=Md.mono aS fun _ _ h=>h.elim;refine ⟨b8,?_⟩;refine gN 9 aa aj<|ap gk (aK.hd) aa (by have :=bd.size; have :=aS.size; omega) aa (aB.dT cY) (aa) (aa) ab ab fun cA cD cs a2 ez et=> ?_;have ch:=a2.bl aK.cells<|dO aK.hd aK.cells aw;have dV:=nB cs;have b9:(fun w'=>Md (fun q=>(bQ aF seen.length aG).ownBlock=some q) aA w') cD:=b8.trans' a2 fun _ _ h=>h;refine ⟨b9,?_⟩;refine bU [10,11] aa b9<|dK 12 aa aj aj<|dd Ga aa aa (v:=cA) (e9 cs) ch (by show _ < 6; omega) fun b1 bx cX=> ?_;have c9:=c7.wk aS;have dp:TF cB [11] (fun q=>(bQ aF seen.length aG).ownBlock=some q):=TF.own aK.hd aw;have da:=c9.md a2 dp aw;have cc:TF cD [210] (fun q=>q=C):=TF.eq (dC ch) aw;have db:=da.md bx cc aw;have dj:iG b1 E.heap.size (⟨C,A,(bL s).length+1,.slice ar (bT s).length cr,vs,bT s⟩:gD) k' ln' (seen++ [r.getD 0 []]) cA:=⟨cX,cj dV bx cc aw,aq.lo⟩
 have ds:Wk E b1:=((bd.trans aS).trans' a2 fun q ah h=>by have :=(dH aK.hd h).1; omega).trans' bx fun q ah h=>by omega
 have ey:=rL bf;have ag:na E b1 (⟨C,A,(bL s).length+1,.slice ar (bT s).length cr,vs,bT s⟩:gD) F' k' ln' (seen++ [r.getD 0 []]):=⟨_,_,db,dj,⟨bt.len,by rw [bG,fg]; show seen.length+1 +((bT s).drop k').length≤70000; omega,bt.row,bt.kd⟩,ds,dP⟩
 have dU:=yx bX bf;exact eQ aj<|bc 1 aa<|tn<|⟨_,by rw [av]; have :=rL bf; simp only [cC]; omega,bp - 1,F',k',ln',seen++ [r.getD 0 []],cf.1,cf.2,ag,dU,aa,aa⟩
 have av:(bT s).drop k= []:=iR ab;rw [av,wy] at O;refine aJ 2 aa<|bK<|dq 7 aa<|p (ld1 aa<|(a8 Y.cells).trans aa)<|p bm<|aQ 9 aa ?_;obtain ⟨a12,cQ,cv⟩:=cz ae.dB;have aO:=ae.dB;rw [cv] at aO;have bh:Hb.aV aD.heap A 12=some (.slice a12 F.rules.length cQ):=by rw [← cv]; exact (a8 ae.cells).trans rfl
 have es:=I.len;refine lp (fun Z cK cG=> ∃ (i:Nat),(i≤F.rules.length)∧(∀ j q,j < i→F.rules[j]? =some q→oO F q=false)∧(Wk aD cG)∧(Sl cK [(12,bj A),(13,ay i)])∧(F.rules.length - i=Z)) _ ⟨0,ab,(fun j q cn=>by omega),(Md.refl _ _),aa,aa⟩ ?_;rintro Z cK cG ⟨i,hi,bk,a1,d2,rfl⟩;refine bA d2<|bq 2 aa ?_;have dx:=Wk.aV a1 bh;refine aH 5 aa<|p (ld1 aa<|dx)<|aQ 4 aa<|cd aa (fun dy=> ?_) fun dy=> ?_;refine bz 5 aa ?_;have cl:i < F.rules.length:=ab;obtain ⟨vn,d4,bH⟩:=iT.get ae.nx (i:=i)<|by rw [fC]; exact cl
 obtain ⟨q,aP⟩:∃ q,F.rules[i]? =some q:=⟨_,bY cl⟩
 have dX:(F.rules.map (·.next)).getD i []=q.next:=by rw [cH,fJ,aP]; rfl
 rw [dX] at bH;have ev:=bX.2 q<|gB aP;obtain ⟨cP,cR,rfl⟩:=bH.slice;have ai:(F.rules.zip V.rn)[i]? =some (q,.slice cP q.next.length cR):=by rw [j7]; exact ⟨aP,d4⟩
 refine bz 5 aa<|lp (fun Z cL b3=> ∃ (j:Nat),(j≤q.next.length)∧(∀ aZ,aZ < j→nz F (q.next.getD aZ 0)=true)∧(Wk aD b3)∧(Sl cL [(12,bj A),(13,ay i),(14,ay j)])∧(q.next.length - j=Z)) _ ⟨0,ab,(fun aZ dN=>by omega),a1,aa,aa⟩ ?_;rintro Z cL b3 ⟨j,cn,bZ,ao,d3,rfl⟩;refine bA d3<|bq 2 aa ?_;have ci:=Wk.aV ao bh;have bn:=aU aO ao;refine aH 5 aa<|p (ld1 aa<|ci)<|au 1 aa<|p (a6 oY aa aa ab<|aB.ok ((aX bn).2)<|o4 ai)<|au 1 aa<|p (ld1 aa<|fI (f:=jZ) (m:=8) (fun _=>rfl) (aX bn).2 ai 6 aw)<|aQ 4 aa<|cd aa (fun dz=> ?_) fun dz=> ?_;refine bz 5 aa ?_;have ce:=bH.wk ao;have d9:(q.next.map bJ)[j]? =some (bJ<|q.next.getD j 0):=by rw [fJ,cH,bY (by omega :j < q.next.length)]; rfl
 refine aH 4 aa<|p (ld1 aa<|ci)<|au 1 aa<|p (a6 oY aa aa ab<|aB.ok ((aX bn).2)<|o4 ai)<|au 1 aa<|p (ld1 aa<|fI (f:=jZ) (m:=8) (fun _=>rfl) (aX bn).2 ai 6 aw)<|au 1 aa<|p (a6 ke aa aa ab<|aB.ok (ce.cW.2)<|bS ab)<|p (ld1 aa<|aB.gV ce.cW.2 d9)<|au 7 aa<|e<|aM (BG E.heap.size 0 A F V (q.next.getD j 0) b3 (ae.wk ao) ab) aa ?_;rintro v164 eM ⟨rfl,b4⟩;have eB:=b4.size;refine p mv<|au 2 aa<|e<|al tg fun ek eK eo b6 cZ=>e<|c8 rB aa aa aa aa (cZ) (by simp) fun eh dg c1=> ?_;have J:Wk aD eh:=(ao.trans<|b4.trans b6.md).trans' dg fun q ah h=>by have :=ao.size; omega
 have eA:=b6.size;refine au 9 aa<|p (kF tP aa aa ab)<|p (ld1 aa<|(a8 (ae.wk J).cells).trans aa)<|au 2 aa<|gs (t:=174) aa (fun dI=> ?_) fun dI=> ?_;refine au 3 aa<|gb (t:=177) aa (fun bi=> ?_) fun bi=> ?_;refine au 4 aa<|p (wo aa)<|aQ 4 aa<|dZ fun G=>aT [0,1,2] aa G<|cw 3 aa G (Wk.aV J bh)<|aT [4] aa G<|bP 5 aa (a6 oY aa aa ab<|aB.ok ((aX<|aU aO J).2)<|o4 ai) G<|aT [6] aa G<|cw 7 aa G (fI (f:=jZ) (m:=8) (fun _=>rfl) (aX<|aU aO J).2 ai 7 aw)<|aT [8,9,10] aa G<|hn aj<|bc 4 aa<|tr<|bc 3 aa<|tr<|bc 2 aa<|f3 aa aa aa aa ?_;have bN:fH s= .error (q.line,118):=Ar am O.symm<|rH bk aP<|rr (j:=j) ab<|yU ab<|by simpa using bi
 exact mB.no bN<|ac.trans<|aR.trans<|J.trans G;refine au 1 aa<|bI aa (ld1 aa<|(c1.aV 1).trans aa)<|aQ 5 aa<|cd aa (fun dA=> ?_) fun dA=> ?_;refine bz 1 aa<|dZ fun G=>aT [0,1,2] aa G<|cw 3 aa G (Wk.aV J bh)<|aT [4] aa G<|bP 5 aa (a6 oY aa aa ab<|aB.ok ((aX<|aU aO J).2)<|o4 ai) G<|aT [6] aa G<|cw 7 aa G (fI (f:=jZ) (m:=8) (fun _=>rfl) (aX<|aU aO J).2 ai 7 aw)<|aT [8,9,10] aa G<|hn aj<|bc 4 aa<|tr<|bc 3 aa<|tr<|bc 2 aa<|f3 aa aa aa aa ?_;have bN:fH s= .error (q.line,118):=Ar am O.symm<|rH bk aP<|rr (j:=j) ab<|yT ab (by simpa using bi)<|by show ((eb F.bw<|q.next.getD j 0).getD oT).kind≠2; omega
 exact mB.no bN<|ac.trans<|aR.trans<|J.trans G;exact aJ 8 aa<|tn<|⟨_,ab,j+1,ab,(fun k hk=>by rcases fG k j with h | h <;> first | exact bZ k h | (rw [show k=j by omega]; exact Jv (by simpa using bi)<|by show ((eb F.bw<|q.next.getD j 0).getD oT).kind=2; omega)),J,aa,aa⟩
 exact aC 19 aa<|tn<|⟨_,ab,j+1,ab,(fun k hk=>by rcases fG k j with h | h <;> first | exact bZ k h | (rw [show k=j by omega]; exact Ju ab)),J,aa,aa⟩
 exact aJ 2 aa<|bK<|bc 8 aa<|tn<|⟨_,ab,i+1,ab,(fun k ea hk b0=>by rcases fG k i with h | h <;> first | exact bk k ea h b0 | (rw [show k=i by omega,aP] at b0; cases b0; exact Fc fun aZ dN=>bZ aZ ab)),ao,aa,aa⟩
 refine aJ 2 aa<|bK<|bc 11 aa<|f3 aa aa aa aa ?_;unfold mB;rw [EU am O.symm (G8 fun j q cn ah=>bk j q ab ah)];exact ⟨⟨E.heap.size,A,V,by have :=ac.size; omega,aa,ae.wk a1,⟨seen,by have I:=I; rw [show (gD.rows (⟨C,A,(bL s).length+1,.slice ar (bT s).length cr,vs,bT s⟩:gD)).drop k= [] from av] at I; exact I⟩,bX⟩,ac.trans<|aR.trans a1⟩
end Go.Hb.kQ
end
section
namespace Go.Hb.jt
open Go.Hb.tK Go.Hb.kQ
def Ni (w':ak) (X:Except Nat bp) (v:ag):Prop :=(∃ x a,X= .ok x∧v= .tuple #[.agg [str x.1,a].toArray,.int .i64 (0:Nat)]∧a.oneCell'=true∧Tg w' 0 3 x.2.length a (x.2.map bJ))∨(∃ e,X= .error e∧e≠0∧v= .tuple #[.agg [str [],.slice none 0 0].toArray,.int .i64 (e:Nat)])
theorem s9 (w:ak) (B e:Nat):Tg w B e 0 (.slice none 0 0) []:=Tg.j5 (size:=1)<|dE _ _ _ _
def nQ (w:ak) (B:Nat) (v:ag) (xs:List bp):Prop := ∃ vs,bo w B 87 2 v xs.length (kD<|xs.zip vs)∧iT w 0 3 vs (xs.map (·.2))
theorem nQ.md {G:Nat→Prop} {w w':ak} {B:Nat} {v:ag} {xs:List bp} (h:nQ w B v xs) (hm:Md G w w') {L:List Nat} (hT:TF w L G) (A:(L.contains 89 || L.contains 5)=false):nQ w' B v xs:=by
 simp only [po] at A;obtain ⟨vs,h1,h2⟩:=h;exact ⟨vs,cj h1 hm hT A.1,h2.md hm fun k hk cur z C=>hT.no (dC C) A.2 hk⟩
theorem nQ.wk {w w':ak} {B:Nat} {v:ag} {xs:List bp} (h:nQ w B v xs) (hm:Wk w w'):nQ w' B v xs:=h.md (L:= []) hm (fun _ hk=>hk.elim) rfl
def lY (F:aE) (t:Tx) (w:ak) (v:ag) (w':ak):Prop :=(match fD F t with | .ok xs=> ∃ a,v= .tuple #[a,.int .i64 0,.int .i64 0]∧nQ w' w.heap.size a xs | .error e=>v= .tuple #[.slice none 0 0,.int .i64 (e.1:Nat),.int .i64 (e.2:Nat)])∧Wk w w'
theorem lY.no {F:aE} {t:Tx} {w w':ak} {l e:Nat} (h:fD F t= .error (l,e)) (hm:Wk w w'):lY F t w (.tuple #[.slice none 0 0,.int .i64 (l:Nat),.int .i64 (e:Nat)]) w':=by
 unfold lY; rw [h]; exact ⟨rfl,hm⟩
theorem SF (B fb:Nat) (F:aE) (V:eo) (x:Nat) (w:ak) (A:eL w B 0 fb F V) (ai:F.bw.length≤70000):
 ba az 160 (a7 [bj fb,bJ x]) w (fun v w'=>v= .bool (eM F x)∧Wk w w'):=by
 have ap:=A.gl;refine enter func160 aa ntmps160 aa<|bq 12 aa<|lp (fun E Y C=> ∃ (i:Nat),(i≤5)∧(∀ j,j < i→F.sp.getD j 0≠x)∧(C=w)∧(Sl Y [(0,bj fb),(1,bJ x),(5,ay i)])∧(5 - i=E)) _ ⟨0,ab,(fun j J=>by omega),aa,aa,aa⟩ ?_;rintro E Y C ⟨i,hi,O,ac,aj,rfl⟩;refine bA aj ?_;subst ac;refine bq 7 aa<|cd aa (fun ah=> ?_) fun ah=> ?_;refine aH 10 aa<|p (kF tP aa aa ab)<|p (ld1 aa<|(a8 A.cells).trans<|HN (i:=i) ab)<|ep (bJ x)<|aQ 3 aa<|cd aa (fun I=> ?_) fun I=> ?_;exact aJ 8 aa<|tr<|bc 2 aa<|aR aa<|⟨by rw [Gj (show x∈F.sp from by obtain rfl :F.sp.getD i 0=x:=ab; exact dR ab)]; rfl,Md.refl _ _⟩
 exact aJ 8 aa<|tn<|⟨_,ab,i+1,ab,(fun j J=>by rcases fG j i with h | h <;> first | exact O j h | (rw [show j=i by omega]; exact fun h2=>I<|by rw [h2])),aa,aa,aa⟩
 refine aJ 2 aa<|bK<|dq 5 aa<|ep (bJ x)<|e<|aM (BG B 0 fb F V x C A ai) aa ?_;rintro v23 av ⟨rfl,G⟩;have aq:=G.size;exact p mv<|au 2 aa<|e<|al tg fun am aw ao ag Z=>e<|c8 rB aa aa aa aa (Z) (by simp) fun ax ae an=>aC 10 aa<|aR aa<|⟨by rw [Gk (vV fun j J=>O j ab)]; rfl,(G.trans ag.md).trans' ae fun k hk h=>by omega⟩
theorem Sm (B fb:Nat) (F:aE) (V:eo) (r:List Tx) (a0:Nat) (ar:Option Addr) (cr:Nat) (w:ak) (aS:eL w B 0 fb F V) (bd:∃ seen,oJ F [] seen) (bE:Nx F) (bs:Tg w a0 9 r.length (.slice ar r.length cr) (r.map str)) (bF:∀ x∈r,x.length≤70000) (bU:r.length≤70000):
 ba az 100 (a7 [bj fb,.slice ar r.length cr]) w (fun v w'=>Ni w' (gh F r) v∧Wk w w'):=by
 obtain ⟨seen,aP⟩:=bd;have bR:=aP.len;have bZ:=td<|r.getD 0 [];refine enter func100 aa ntmps100 aa<|bg 2 aa<|e<|gK LK fun aK aY bQ ae aO=> ?_;have b2:=ae.size;have hT:=bs.wk ae.md;have bh:=aS.wk ae.md;have av:bO aY.heap aK [str [],.slice none 0 0]:=⟨_,aO⟩
 refine aQ 11 aa<|cd aa (fun bt=> ?_) fun bt=> ?_;exact aH 2 aa<|p (cV (ps:= []) (L:= [.string ⟨⟨[]⟩⟩,.slice none 0 0]) qR aa<|aa)<|e<|c8 pP aa aa aa aa (av) (by simp) fun ce bp a9=>aC 5 aa<|eF aa (dU (cs:= [str [],.slice none 0 0]) aa pM aa fun j C=>a9.bu j) et<|⟨.inr ⟨111,GC ab,aw,aa⟩,ae.md.trans' bp fun q A h=>by omega⟩
 have G:r.length=1:=ab;have bV:(r.getD 0 []).length≤70000:=bF _<|dR ab;refine aH 5 aa<|p (a6 cM aa aa ab<|aB.ok (hT.cW.2)<|bS ab)<|p (ld1 aa<|bW.get (i:=0) hT.cW.2 ab)<|e<|aM (zd (r.getD 0 []) aY ab) aa ?_;rintro v22 bI ⟨rfl,J⟩;have aR:=ae.md.trans J;have b0:=J.size;refine p mv<|aQ 17 aa<|cd aa (fun bv=> ?_) fun bv=> ?_;exact aH 2 aa<|p (cV (ps:= []) (L:= [.string ⟨⟨[]⟩⟩,.slice none 0 0]) qR aa<|aa)<|au 1 aa<|e<|c8 pP aa aa aa aa (Wk.B J av) (by simp) fun cf br bb=>aC 5 aa<|eF aa (dU (cs:= [str [],.slice none 0 0]) aa pM aa fun j C=>bb.bu j) et<|⟨.inr ⟨_,x8 G ab,ab,aa⟩,aR.trans' br fun q A h=>by omega⟩
 have I:(bD<|r.getD 0 []).2.2.2=0:=ab;refine aH 5 aa<|e<|aM (wv (bD<|r.getD 0 []).1 bI ab) aa ?_;rintro v32 bL ⟨rfl,Z⟩;have ac:=aR.trans Z;have ag:=Wk.B (J.trans Z) av;have b1:=Z.size;refine au 10 aa<|gs (t:=36) aa (fun aX=> ?_) fun aX=> ?_;have aA:gL (bD<|r.getD 0 []).1=false∨(bD<|r.getD 0 []).1= []:= .inr<|fY ab;exact au 8 aa<|p (cV (ps:= []) (L:= [.string ⟨⟨[]⟩⟩,.slice none 0 0]) qR aa<|aa)<|e<|c8 pP aa aa aa aa (ag) (by simp) fun bN aq ap=>aC 5 aa<|eF aa (dU (cs:= [str [],.slice none 0 0]) aa pM aa fun j C=>ap.bu j) et<|⟨.inr ⟨21,x9 G I aA,aw,aa⟩,ac.trans' aq fun q A h=>by omega⟩
 refine aQ 5 aa<|cb aa (fun aD=> ?_) fun aD=> ?_;have aA:gL (bD<|r.getD 0 []).1=false∨(bD<|r.getD 0 []).1= []:=by
  first
   | exact .inl<|by simpa using aD
   | exact .inr<|fY ab
 exact aH 2 aa<|p (cV (ps:= []) (L:= [.string ⟨⟨[]⟩⟩,.slice none 0 0]) qR aa<|aa)<|e<|c8 pP aa aa aa aa (ag) (by simp) fun bN aq ap=>aC 5 aa<|eF aa (dU (cs:= [str [],.slice none 0 0]) aa pM aa fun j C=>ap.bu j) et<|⟨.inr ⟨21,x9 G I aA,aw,aa⟩,ac.trans' aq fun q A h=>by omega⟩
 have al:(bD<|r.getD 0 []).1≠[]:=fun h=>aX<|by rw [h]; rfl
 have ah:gL (bD<|r.getD 0 []).1=true :=by simpa using aD
 refine bz 10 aa<|cd aa (fun bw=> ?_) fun bw=> ?_;exact aH 2 aa<|p (cV (ps:= []) (L:= [.string ⟨⟨[]⟩⟩,.slice none 0 0]) qR aa<|aa)<|e<|c8 pP aa aa aa aa (ag) (by simp) fun b7 bi a2=>aC 5 aa<|eF aa (dU (cs:= [str [],.slice none 0 0]) aa pM aa fun j C=>a2.bu j) et<|⟨.inr ⟨22,GD G I ah al ab,aw,aa⟩,ac.trans' bi fun q A h=>by omega⟩
 refine bz 9 aa<|cb aa (fun ai=> ?_) fun ai=> ?_;exact aH 3 aa<|p (cV (ps:= [(0,str (bD<|r.getD 0 []).1)]) (L:= [str (bD<|r.getD 0 []).1,.slice none 0 0]) qR aa<|aa)<|e<|c8 pP aa aa aa aa (ag) (by simp) fun b8 bk a3=>aC 5 aa<|eF aa (dU (cs:= [str (bD<|r.getD 0 []).1,.slice none 0 0]) aa pM aa fun j C=>a3.bu j) et<|⟨.inl ⟨_,.slice none 0 0,GF G I ah al ab (by simpa using ai),aa,aa,s9 _ _ _⟩,ac.trans' bk fun q A h=>by omega⟩
 refine aH 6 aa<|e<|aM (HL B fb F V (bD<|r.getD 0 []).2.1 bL (bh.wk<|J.trans Z).r aP.kd ab ab) aa ?_;rintro b5 bM ⟨⟨bP,aL,rfl,bT,aW⟩,hE52⟩;have am:=ac.trans hE52;have ax:=Wk.B hE52 ag;have b3:=hE52.size;refine p mv<|au 2 aa<|p bm<|aQ 10 aa<|cd aa (fun aV=> ?_) fun aV=> ?_;have aG:aL≠0:=fun a1=>aV<|by rw [a1]; rfl
 rcases aW with ⟨l,h,_⟩ | ⟨bC,aj⟩;exact absurd h aG;exact aH 2 aa<|p (cV (ps:= []) (L:= [.string ⟨⟨[]⟩⟩,.slice none 0 0]) qR aa<|aa)<|au 1 aa<|e<|c8 pP aa aa aa aa (ax) (by simp) fun b9 bn a4=>aC 5 aa<|eF aa (dU (cs:= [str [],.slice none 0 0]) aa pM aa fun j C=>a4.bu j) et<|⟨.inr ⟨_,GG G I ah al ab (by simpa using ai) aj,bC,aa⟩,am.trans' bn fun q A h=>by omega⟩
 have aG:aL=0:=ab;have bB:=aW.resolve_right fun h=>h.1 aG;obtain ⟨set,_,aj,ao⟩:=bB;have bH:=ao.slice;obtain ⟨O,Y,A⟩:=bH;subst A;have bX:=yi bE.1 aj;refine bz 9 aa<|lp (fun aN aZ aI=> ∃ (j:Nat),(j≤set.length)∧(∀ q,q < j→eM F (set.getD q 0)=true)∧(Wk bM aI)∧(Sl aZ [(0,bj fb),(4,bj aK),(6,str (bD<|r.getD 0 []).1),(11,.slice O set.length Y),(12,ay j)])∧(set.length - j=aN)) _ ⟨0,ab,(fun q A=>by omega),(Md.refl _ _),aa,aa⟩ ?_;rintro aN aZ aI ⟨j,C,aU,E,bG,rfl⟩;refine bA bG<|bq 9 aa<|cd aa (fun bx=> ?_) fun bx=> ?_;refine aH 9 aa<|p (a6 ke aa aa ab<|aB.ok ((ao.wk E).cW.2)<|bS ab)<|p (ld1 aa<|aB.gV (ao.wk E).cW.2 (show (set.map bJ)[j]? =some (bJ<|set.getD j 0) by rw [fJ,cH,bY (by omega :j < set.length)]; rfl)) ?_;refine e<|aM (SF B fb F V (set.getD j 0) aI (aS.wk<|am.trans E) ab) aa ?_;rintro v70 b6 ⟨rfl,bf⟩;have an:=E.trans bf;have b4:=an.size;refine aQ 9 aa<|cb aa (fun aF=> ?_) fun aF=> ?_;exact aH 2 aa<|p (cV (ps:= []) (L:= [.string ⟨⟨[]⟩⟩,.slice none 0 0]) qR aa<|aa)<|e<|c8 pP aa aa aa aa (Wk.B an ax) (by simp) fun ca bo a5=>aC 6 aa<|tr<|bc 2 aa<|eF aa (dU (cs:= [str [],.slice none 0 0]) aa pM aa fun j C=>a5.bu j) et<|⟨.inr ⟨120,GH G I ah al ab (by simpa using ai) aj (i:=j) ab (by simpa using aF),aw,aa⟩,(am.trans an).trans' bo fun q A h=>by omega⟩
 exact aJ 8 aa<|tn<|⟨_,ab,j+1,ab,(fun q A=>by rcases fG q j with h | h <;> first | exact aU q h | (rw [show q=j by omega]; simpa using aF)),an,aa,aa⟩
 exact aJ 2 aa<|bK<|dq 6 aa<|p (cV (ps:= [(0,str (bD<|r.getD 0 []).1),(1,.slice O set.length Y)]) (L:= [str (bD<|r.getD 0 []).1,.slice O set.length Y]) qR aa<|aa)<|e<|c8 pP aa aa aa aa (Wk.B E ax) (by simp) fun cc aT a8=>aC 4 aa<|eF aa (dU (cs:= [str (bD<|r.getD 0 []).1,.slice O set.length Y]) aa pM aa fun j C=>a8.bu j) et<|⟨.inl ⟨((bD<|r.getD 0 []).1,set),.slice O set.length Y,Bb G I ah al ab (by simpa using ai) aj (fun j C=>aU j ab),aa,aa,(ao.wk E).md aT<|fL (Wk.bl ((J.trans<|Z.trans hE52).trans E) aO) aw⟩,(am.trans E).trans' aT fun q A h=>by omega⟩
end Go.Hb.jt
end
section
namespace Go.Hb
open Go.Hb.tK Go.Hb.kQ Go.Hb.jt
theorem H8 {r:List Tx} (h:r.length≠1):lO r=(0,111):=if_pos h
theorem Te {r:List Tx} (h:r.length=1):lO r=ee (r.getD 0 []) 8192:=if_neg fun h2=>h2 h
theorem Sj (B fb:Nat) (F:aE) (V:eo) (t:Tx) (w:ak) (b7:eL w B 0 fb F V) (b2:∃ seen,oJ F [] seen) (cn:Nx F) (hs:t.length≤1048576):
 ba az 56 (a7 [bj fb,str t]) w (lY F t w):=by
 refine enter func56 aa ntmps56 aa<|bg 10 aa<|e<|aM (J7 t _ hs) aa ?_;rintro v17 cH ⟨⟨a17,rfl,bt⟩,hE17⟩;refine p mv<|au 2 aa<|p bm<|aQ 10 aa<|cd aa (fun aR=> ?_) fun aR=> ?_;have bl:65536 < t.length:=tj fun h=>aR<|by rw [if_neg h]
 refine aJ 10 aa<|f3 aa aa aa aa ?_;have h:=lY.no (F:=F) (Gr bl) hE17;show lY F t w (.tuple #[.slice none 0 0,.int .i64 0,.int .i64 (if 65536 < t.length then 10 else 0)]) _;rw [if_pos bl];exact h;have ah:¬65536 < t.length:=fun h=>aR<|by rw [if_pos h]; decide
 rw [if_neg ah] at bt;obtain ⟨vs,bI,aZ⟩:=bt;obtain ⟨ar,cr,rfl⟩:=cz bI;have cV:=y5 t;have b3:=(aX bI).2;have cX:=aZ.1;refine aH 5 aa<|e<|aM (CZ t _ hs) aa ?_;rintro v24 am ⟨cp,an⟩;obtain ⟨cB,bU,rfl⟩:=cz cp;have I:=hE17.trans an;have cR:=o6 t;have C:=b3.wk an;refine p bm<|au 5 aa<|p mv<|aQ 4 aa<|cd aa (fun aS=> ?_) fun aS=> ?_;have cm:bT t= []:=fY ab;exact aH 2 aa<|p mv<|au 1 aa<|p (bC<|(bL t).length+1)<|aC 7 aa<|f3 aa aa aa aa<|lY.no (Gs ah cm) I;obtain ⟨⟨al,A⟩,rest,hrw⟩:∃ q rest,bT t=q::rest:=by
  cases h:bT t with
  | nil=>rw [h] at aS; exact absurd rfl aS
  | cons q rest=>exact ⟨q,rest,rfl⟩
 have bN:(bT t)[0]? =some (al,A):=by rw [hrw]; rfl
 obtain ⟨bQ,ai⟩:∃ p,vs[0]? =some p:=⟨_,bY ab⟩
 obtain ⟨aI,a5⟩:=aZ.2 0 bQ (al,A) ai bN;obtain ⟨cC,cD⟩:=bQ;obtain rfl :al=cC:=aI.symm;obtain ⟨a0,a4,cs⟩:=a5.slice;obtain rfl :cD= .slice a0 A.length a4:=cs;have bk:Tg am w.heap.size 9 A.length (.slice a0 A.length a4) (A.map str):=a5.wk an;have bB:∀ q∈bT t,q.2.length≤70000∧∀ x∈q.2,x.length≤70000:=fun q bM=>by
  have h:=y6 bM;exact ⟨ab,fun x cy=>by have :=(h.2.2.2.2 x cy).2; omega⟩
 have cl:A.length≤70000∧∀ x∈A,x.length≤70000:=bB (al,A)<|gB bN;refine aH 5 aa<|p mv<|p (a6 oZ aa aa ab<|aB.ok (C)<|mh ab)<|au 1 aa<|p (ld1 aa<|mi (i:=0) C ai 1 aw)<|aQ 4 aa<|cd aa (fun bn=> ?_) fun bn=> ?_;have bE:A.length≠1:=ab;obtain ⟨a8,bw,cb⟩:=A3 (F:=F) ah hrw<|by rw [H8 bE]; decide
 rw [H8 bE] at bw;obtain rfl :a8=111:=by have h:(111:Int)=a8:=bw; omega
 exact bz 1 aa<|dZ fun Z=>bP 0 aa (mv) Z<|bP 1 aa (a6 oZ aa aa ab<|aB.ok (C)<|mh ab) Z<|aT [2] aa Z<|cw 3 aa Z (mi (i:=0) C ai 0 aw)<|aT [4,5,6] aa Z<|hn aj<|bc 3 aa<|f3 aa aa aa aa<|lY.no cb<|I.trans Z;have cU:A.length=1:=by have h:¬((A.length:Nat):Int)≠1:=bn; omega
 refine aH 4 aa<|p mv<|p (a6 oZ aa aa ab<|aB.ok (C)<|mh ab)<|au 1 aa<|p (ld1 aa<|mi (i:=0) C ai 1 aw)<|p (a6 cM aa aa ab<|aB.ok (bk.cW.2)<|bS ab)<|p (ld1 aa<|bW.get (i:=0) bk.cW.2 ab)<|e<|aM (s6 (A.getD 0 []) 8192 am (by have :=cl.2 _ (dR (d:= []) (show 0 < A.length by omega)); omega) ab) aa ?_;rintro c2 c4 ⟨rfl,ao⟩;have b4:=I.trans ao;have ax:=Te (show A.length=1 by omega);refine p mv<|aQ 13 aa<|cd aa (fun br=> ?_) fun br=> ?_;obtain ⟨cK,bx,aO⟩:=A3 (F:=F) ah hrw<|by rw [ax]; exact br
 rw [ax] at bx;refine bz 1 aa<|dZ fun J=>bP 0 aa (mv) J<|bP 1 aa (a6 oZ aa aa ab<|aB.ok (C.wk ao)<|mh ab) J<|aT [2] aa J<|cw 3 aa J (mi (i:=0) (C.wk ao) ai 0 aw)<|aT [4,5,6,7] aa J<|hn aj<|bc 3 aa<|f3 aa aa aa aa ?_;have h:=lY.no aO<|b4.trans J;show lY F t w (.tuple #[.slice none 0 0,ay al,.int .i64 (ee (A.getD 0 []) 8192).2]) _;rw [bx];exact h;obtain ⟨n,aW,cS,aO⟩:=Gn (F:=F) ah hrw<|by rw [ax]; omega
 rw [ax] at aW;have ca:jg F ((bL t).length+1) (fD F t) [] (n - 0) ((bT t).drop<|0 +1):=by rw [aO,hrw]; exact jg.start
 obtain ⟨seen,b1⟩:=b2;refine bz 14 aa<|lp (fun a9 a2 ae=> ∃ (i:Nat) (xs:List bp) (vx:List ag) (aG:Option Addr) (co:Nat),(i+1≤(bT t).length∧i≤n)∧(xs.length=i)∧(jg F ((bL t).length+1) (fD F t) xs (n - i)<|(bT t).drop<|i+1)∧(bo ae am.heap.size 87 2 (.slice aG xs.length co) xs.length<|kD<|xs.zip vx)∧(iT ae 0 3 vx<|xs.map (·.2))∧(Wk am ae)∧(a2 10=ay n)∧(Sl a2 [(0,bj fb),(7,.slice ar (bT t).length cr),(9,.slice cB (bL t).length bU),(11,.slice aG xs.length co),(12,ay (i+1))])∧((bT t).length - i=a9)) _ ⟨0,[],[],none,0,ab,aa,ca,(dE _ _ _ _),(iT.nil _ _ _),ao,(by first | rfl | (rw [← aW]; rfl)),aa,aa⟩ ?_;rintro a9 a2 ae ⟨i,xs,vx,aG,co,hi,cA,G,hO,aP,E,cv,cu,rfl⟩;refine bA cu<|fx 10 cv<|bq 9 aa<|cd aa (fun cf=> ?_) fun cf=> ?_;refine bz 6 aa ?_;obtain ⟨⟨ln,r⟩,hri⟩:∃ q,(bT t)[i+1]? =some q:=⟨_,bY ab⟩
 have ci:(bT t).drop (i+1)=(ln,r)::(bT t).drop (i+2):=by rw [List.drop_eq_getElem_cons ab]; rw [bY ab] at hri; rw [Option.some.inj hri]
 obtain ⟨p,aD⟩:∃ p,vs[i+1]? =some p:=⟨_,bY ab⟩
 obtain ⟨aI,av⟩:=aZ.2 (i+1) p (ln,r) aD hri;obtain ⟨cF,cG⟩:=p;obtain rfl :ln=cF:=aI.symm;obtain ⟨a,c,ct⟩:=av.slice;obtain rfl :cG= .slice a r.length c:=ct;have av:Tg cH w.heap.size 9 r.length (.slice a r.length c) (r.map str):=av;have bD:r.length≤70000∧∀ x∈r,x.length≤70000:=bB (ln,r)<|gB hri;rw [ci] at G;refine bz 6 aa<|cd aa (fun cg=> ?_) fun cg=> ?_;refine bz 1 aa<|dZ fun O=>aT [0,1] aa O<|bP 2 aa (a6 oZ aa aa ab<|aB.ok (C.wk E)<|mh ab) O<|aT [3] aa O<|cw 4 aa O (mi (C.wk E) aD 0 aw)<|aT [5,6,7] aa O<|hn aj<|bc 5 aa<|tr<|bc 2 aa<|f3 aa aa aa aa ?_;rw [show n - i=0 by omega] at G;exact lY.no G.more<|I.trans<|E.trans O;refine aH 7 aa<|p (a6 oZ aa aa ab<|aB.ok (C.wk E)<|mh ab)<|au 1 aa<|p (ld1 aa<|mi (C.wk E) aD 1 aw)<|e<|aM (Sm B fb F V r w.heap.size a c ae (b7.wk<|I.trans E) ⟨seen,b1⟩ cn ((av.wk an).wk E) bD.2 bD.1) aa ?_;rintro v79 cI ⟨b6,bf⟩;obtain ⟨ac,a79,bX,rfl,bH,bv⟩:∃ (u:Tx) (a:ag) (e:Nat),v79= .tuple #[.agg [str u,a].toArray,ay e]∧a.oneCell'=true∧((e=0∧∃ l,gh F r= .ok (u,l)∧Tg cI 0 3 l.length a (l.map bJ))∨(e≠0∧gh F r= .error e)):=by
  rcases b6 with ⟨x,a,h1,h2,h3,h4⟩ | ⟨e,h1,h2,h3⟩;exact ⟨x.1,a,0,h2,h3,.inl ⟨aa,x.2,h1,h4⟩⟩;exact ⟨_,_,e,h3,aa,.inr ⟨h2,h1⟩⟩
 have cZ:=bf.size;refine p mv<|au 2 aa<|e<|gK LK fun a3 c3 cL aN bb=> ?_;have cY:=aN.size;refine e<|gA pP aa aa aa (zx bH) bb aw fun a1 bh bZ=> ?_;have bd:Wk ae a1:=(bf.trans aN.md).trans' bh fun q bM h=>by omega
 have ce:a1.heap[a3]? =some (.cells [str ac,a79].toArray 87 (0,0)):=bZ;have aK:=E.trans bd;refine aQ 10 aa<|cd aa (fun bs=> ?_) fun bs=> ?_;have aY:=bv.resolve_left fun h=>bs<|by rw [h.1]; rfl
 obtain ⟨cT,hex⟩:=aY;exact bz 1 aa<|dZ fun Y=>aT [0,1] aa Y<|bP 2 aa (a6 oZ aa aa ab<|aB.ok (C.wk aK)<|mh ab) Y<|aT [3] aa Y<|cw 4 aa Y (mi (C.wk aK) aD 0 aw)<|aT [5,6,7,8] aa Y<|hn aj<|bc 5 aa<|tr<|bc 2 aa<|f3 aa aa aa aa<|lY.no (G.bad ab hex)<|I.trans<|aK.trans Y;have cj:bX=0:=ab;have aY:=bv.resolve_right fun h=>h.1 cj;obtain ⟨_,aF,hex,b8⟩:=aY;refine aH 4 aa<|p (cQ pM aa (aa) (show ∀ j,j < 2→Hb.aV a1.heap a3 (0 +j)= [str ac,a79][j]? from fun j cP=>bO.bu ⟨_,ce⟩ j))<|e<|lf KD aa aa aa fun cJ c5 cN bi b0=> ?_;have aq:=bd.trans bi.md;have aA:=aU hO aq;have c0:=aq.size;refine e<|ap KD (aA) aa (by have :=E.size; omega) aa (aB.dT b0) (aa) (zx bH) ab ab fun v93 bR cq aL c1 cO=> ?_;have b5:=Wk.own (E.trans aq) aA aL<|cE _;have bF:bo bR am.heap.size 87 2 v93 (xs++ [(ac,aF)]).length (kD<|(xs++ [(ac,aF)]).zip<|vx++ [a79]):=by
  have ck:xs.length=vx.length:=by have :=aP.1; rw [fC] at this; omega
  rw [Ey ck,List.zip_cons_cons,List.zip_nil_right,GB,bG]; exact cq
 have cc:iT bR 0 3 (vx++ [a79]) ((xs++ [(ac,aF)]).map (·.2)):=by
  rw [gS];exact ((aP.wk aq).md aL<|iO aA aw).snoc (((b8.wk aN.md).md bh<|fL bb aw).wk bi.md |>.md aL (iO aA aw))
 obtain ⟨a93,bV,cx⟩:=cz bF;subst cx;exact p bm<|aC 8 aa<|tn<|⟨_,ab,i+1,xs++ [(ac,aF)],vx++ [a79],a93,bV,ab,(by rw [bG,cA]; rfl),(by rw [show n - (i+1)=n - i - 1 by omega]; exact G.step ab hex),bF,cc,b5,(by first | rfl | (rw [← aW]; rfl)),aa,aa⟩
 refine aJ 2 aa<|bK<|dz 11 aa<|cd aa (fun ch=> ?_) fun ch=> ?_;refine aH 4 aa<|p (bC<|(bL t).length+1)<|aC 7 aa<|f3 aa aa aa aa ?_;rw [iR ab] at G;exact lY.no (G.ends ab)<|I.trans E;refine aJ 11 aa<|f3 aa aa aa aa ?_;rw [iR ab,show n - i=0 by omega] at G;have b9:=G.done;unfold lY;rw [b9];exact ⟨⟨_,aa,⟨vx,eR hO I.size,aP⟩⟩,I.trans E⟩
end Go.Hb
end
namespace Go.Hb.jH
def Ny (F:aE):Prop := ∀ l∈F.aliases,∀ x∈l,x < 65536
theorem HE {kind:Nat} {s:Tx} {l:List Nat} (h:lj kind s= .ok l):∀ x∈l,x < 65536:=by
 unfold lj at h;split at h
 · cases h
 · cases h;intro x A;unfold ed at A
   repeat' split at A
   all_goals first
    | (cases A; done)
    | (rw [CB] at A
       obtain ⟨y,_,rfl⟩:=List.mem_map.1 A;exact Hi _ _)
theorem NO {kind ln:Nat} {row:List Tx} {l:List Nat} (h:kS kind ln row= .ok l):∀ x∈l,x < 65536:=by
 unfold kS at h;split at h
 · cases h
 · exact HE h
theorem RU {kind:Nat} {al:List (List Nat)} {s:Tx} {l:List Nat} (A:∀ l∈al,∀ x∈l,x < 65536) (h:gx kind al s= .ok l):∀ x∈l,x < 65536:=by
 unfold gx at h;split at h
 · exact HE h
 · split at h
   · cases h
   · split at h
     · cases h
     · cases h;rename_i n _ _;rw [cH];cases hg:al[n - 1]? with
       | none=>simp
       | some y=>exact A y<|gB hg
theorem Tj {eof ln:Nat} {F F':aE} {hs:List Tx} {rows rows':List Rw} {row:List Tx} (h:Ny F) (A:ca eof F hs rows ln row= .ok (F',rows')):Ny F':=by
 unfold ca at A
 repeat' split at A
 · unfold kp at A; repeat' split at A
   all_goals first | (cases A; done) | (cases A; exact h)
 · unfold kI at A; repeat' split at A
   all_goals first | (cases A; done) | (cases A; exact h)
 · unfold mP at A; repeat' split at A
   all_goals first | (cases A; done) | (cases A; exact h)
 · unfold mT at A; repeat' split at A
   all_goals first | (cases A; done) | (cases A; exact h)
 · unfold kX at A; repeat' split at A
   all_goals first | (cases A; done) | (cases A; exact h)
 · unfold ko at A; repeat' split at A
   all_goals first | (cases A; done) | (cases A; exact h)
 · unfold j9 at A;split at A
   · cases A
   · split at A
     · cases A
     · split at A
       · cases A
       · rename_i r E;cases A;intro l C;rcases jT.1 C with C | C
         · exact h l C
         · obtain ⟨_,_,h2⟩:=BN _ _ _ E l C;exact NO h2
 · unfold hU at A; repeat' split at A
   all_goals first | (cases A; done) | (cases A; exact h)
theorem Ww {eof:Nat} :∀ (k:Nat) (F F':aE) (hs:List Tx) (rows:List Rw),Ny F→ij eof k F hs rows= .ok F'→Ny F':=by
 intro k
 induction k with
 | zero=>intro F F' hs rows h A; rw [ij] at A; split at A <;> cases A; exact h
 | succ k E=>
   intro F F' hs rows h A;cases rows with
   | nil=>rw [wy] at A; cases A; exact h
   | cons q rows=>
     rw [ij] at A;split at A
     · cases A
     · split at A
       · cases A
       · split at A
         · cases A
         · split at A
           · cases A
           · rename_i r C;exact E _ _ _ _ (Tj (rows':=r.2) h C) A
theorem ET {s:Tx} {F:aE} (h:fH s= .ok F):Ny F:=by
 unfold fH at h;split at h
 · cases h
 · split at h
   · cases h
   · rename_i f A;split at h
     · cases h
     · cases h;exact Ww _ _ _ _ _ (fun l C=>by cases C) A
def xC (x:bp):Prop :=x.1.length≤64∧x.2.length≤64∧(∀ y∈x.2,y < 65536)
theorem x8 {F:aE} {row:List Tx} {x:bp} (h1:Nx F) (h2:Ny F) (h:gh F row= .ok x):xC x:=by
 unfold gh at h;split at h
 · cases h
 · split at h
   · cases h
   · split at h
     · cases h
     · split at h
       · cases h
       · split at h
         · cases h; exact ⟨by simp only; omega,by simp,fun y C=>by cases C⟩
         · split at h
           · cases h
           · rename_i A;split at h
             · cases h;exact ⟨by simp only; omega,yi h1.1 A,RU h2 A⟩
             · cases h
theorem Rh {F:aE} {eof:Nat} (h1:Nx F) (h2:Ny F):∀ {n:Nat} {rows:List Rw} {r:List bp},fk F eof n rows= .ok r→∀ x∈r,xC x:=by
 intro n
 induction n with
 | zero=>
   intro rows r h;cases rows with
   | nil=>rw [fk] at h; cases h; intro x A; cases A
   | cons q rows=>rw [fk] at h; cases h
 | succ n E=>
   intro rows r h;cases rows with
   | nil=>rw [fk] at h; cases h
   | cons q rows=>
     rw [fk] at h;split at h
     · cases h
     · rename_i he;split at h
       · cases h
       · rename_i C;cases h;intro x A;rcases fi.1 A with rfl | A
         · exact x8 h1 h2 he
         · exact E C x A
theorem Gp {F:aE} {t:Tx} {xs:List bp} (h1:Nx F) (h2:Ny F) (h:fD F t= .ok xs):(∀ x∈xs,xC x)∧xs.length≤8192:=by
 unfold fD at h;split at h
 · cases h
 · split at h
   · cases h
   · split at h
     · cases h
     · split at h
       · cases h
       · rename_i hn;refine ⟨Rh h1 h2 h,?_⟩;have C:=(Rj h).1;unfold e8 at hn;split at hn
         · cases hn
         · cases hn;rename_i A;have :=rT _ 8192<|jG.1 A;omega
theorem rI {F:aE} {s:Tx} {e:Nat} (h:ic F s= .error e):e≠0:=by
 unfold ic at h; repeat' split at h
 all_goals first | (cases h; done) | (cases h; decide) | (cases h; assumption)
theorem HD {k:Nat} {s:Tx} {e:Nat} (h:lj k s= .error e):e≠0:=by
 unfold lj at h; repeat' split at h
 all_goals first | (cases h; done) | (cases h; assumption)
theorem qO {s:Tx} {m:Int} {e:Nat} (h:e8 s m= .error e):e≠0:=by
 unfold e8 at h; repeat' split at h
 all_goals first | (cases h; done) | (cases h; decide)
theorem Ho {k:Nat} {al:List (List Nat)} {s:Tx} {e:Nat} (h:gx k al s= .error e):e≠0:=by
 unfold gx at h; repeat' split at h
 all_goals first | exact HD h | (cases h; done) | (cases h; decide)
theorem JD {b:Bool} {s:Tx} {e:Nat} (h:eG b s= .error e):e≠0:=by
 unfold eG at h; repeat' split at h
 all_goals first | (cases h; done) | (cases h; decide) | (cases h; assumption)
theorem NH {r:lZ} {e:Nat} (h:j8 r= .error e):e≠0:=by
 unfold j8 at h; repeat' split at h
 all_goals first | (cases h; done) | (cases h; assumption)
theorem Vl {k A:Nat} {al:List (List Nat)} {r:lZ} {e:Nat} (h:ll k al A r= .error e):e≠0:=by
 unfold ll at h; repeat' split at h
 all_goals first | exact Ho h | (cases h; done) | (cases h; decide)
theorem PU {r:List Tx} {e:Nat} (h:lg r= .error e):e≠0:=by
 unfold lg at h; repeat' split at h
 all_goals first | (cases h; done) | (cases h; decide) | (cases h; assumption)
theorem r4 {k ln:Nat} {al:List (List Nat)} {c:di} {r:List Tx} {e:Nat} (h:fV k al c ln r= .error e):e≠0:=by
 unfold fV at h; repeat' split at h
 all_goals first
  | (cases h; done)
  | (cases h; decide)
  | (cases h; exact JD<|by assumption)
  | (cases h; exact NH<|by assumption)
  | (cases h; exact Vl<|by assumption)
  | (cases h; exact PU<|by assumption)
theorem rZ {ln:Nat} {r:List Tx} {e:Nat} (h:k0 ln r= .error e):e≠0:=by
 unfold k0 at h; repeat' split at h
 all_goals first
  | (cases h; done)
  | (cases h; decide)
  | (cases h; exact JD<|by assumption)
theorem rp {k ln:Nat} {r:List Tx} {e:Nat} (h:kS k ln r= .error e):e≠0:=by
 unfold kS at h; repeat' split at h
 all_goals first | exact HD h | (cases h; decide)
theorem jy {α:Type} {hd:List Tx} {rd:Nat→List Tx→Except Nat α} {eof:Nat} (A:∀ l r e,rd l r= .error e→e≠0):∀ {n:Nat} {rows:List Rw} {l e:Nat},group hd rd eof n rows= .error (l,e)→e≠0:=by
 intro n
 induction n with
 | zero=>intro rows l e h; rw [group] at h; cases h
 | succ n C=>
   intro rows l e h;cases rows with
   | nil=>rw [group] at h; cases h; decide
   | cons q rows=>
     rw [group] at h;split at h
     · cases h; decide
     · split at h
       · rename_i he; cases h; exact A _ _ _ he
       · split at h
         · rename_i he; cases h; exact C he
         · cases h
theorem Ti {eof ln l e:Nat} {F:aE} {hs:List Tx} {rows:List Rw} {row:List Tx} (h:ca eof F hs rows ln row= .error (l,e)):e≠0:=by
 unfold ca at h
 repeat' split at h
 · unfold kp at h; repeat' split at h
   all_goals first
    | (cases h; done)
    | (cases h; decide)
    | (cases h; assumption)
    | (cases h; exact rI<|by assumption)
    | (cases h; exact qO<|by assumption)
    | (cases h; exact jy (fun _ _ _ h=>rZ h)<|by assumption)
    | (cases h; exact jy (fun _ _ _ h=>rp h)<|by assumption)
    | (cases h; exact jy (fun _ _ _ h=>r4 h)<|by assumption)
 · unfold kI at h; repeat' split at h
   all_goals first
    | (cases h; done)
    | (cases h; decide)
    | (cases h; assumption)
    | (cases h; exact rI<|by assumption)
    | (cases h; exact qO<|by assumption)
    | (cases h; exact jy (fun _ _ _ h=>rZ h)<|by assumption)
    | (cases h; exact jy (fun _ _ _ h=>rp h)<|by assumption)
    | (cases h; exact jy (fun _ _ _ h=>r4 h)<|by assumption)
 · unfold mP at h; repeat' split at h
   all_goals first
    | (cases h; done)
    | (cases h; decide)
    | (cases h; assumption)
    | (cases h; exact rI<|by assumption)
    | (cases h; exact qO<|by assumption)
    | (cases h; exact jy (fun _ _ _ h=>rZ h)<|by assumption)
    | (cases h; exact jy (fun _ _ _ h=>rp h)<|by assumption)
    | (cases h; exact jy (fun _ _ _ h=>r4 h)<|by assumption)
 · unfold mT at h; repeat' split at h
   all_goals first
    | (cases h; done)
    | (cases h; decide)
    | (cases h; assumption)
    | (cases h; exact rI<|by assumption)
    | (cases h; exact qO<|by assumption)
    | (cases h; exact jy (fun _ _ _ h=>rZ h)<|by assumption)
    | (cases h; exact jy (fun _ _ _ h=>rp h)<|by assumption)
    | (cases h; exact jy (fun _ _ _ h=>r4 h)<|by assumption)
 · unfold kX at h; repeat' split at h
   all_goals first
    | (cases h; done)
    | (cases h; decide)
    | (cases h; assumption)
    | (cases h; exact rI<|by assumption)
    | (cases h; exact qO<|by assumption)
    | (cases h; exact jy (fun _ _ _ h=>rZ h)<|by assumption)
    | (cases h; exact jy (fun _ _ _ h=>rp h)<|by assumption)
    | (cases h; exact jy (fun _ _ _ h=>r4 h)<|by assumption)
 · unfold ko at h; repeat' split at h
   all_goals first
    | (cases h; done)
    | (cases h; decide)
    | (cases h; assumption)
    | (cases h; exact rI<|by assumption)
    | (cases h; exact qO<|by assumption)
    | (cases h; exact jy (fun _ _ _ h=>rZ h)<|by assumption)
    | (cases h; exact jy (fun _ _ _ h=>rp h)<|by assumption)
    | (cases h; exact jy (fun _ _ _ h=>r4 h)<|by assumption)
 · unfold j9 at h; repeat' split at h
   all_goals first
    | (cases h; done)
    | (cases h; decide)
    | (cases h; assumption)
    | (cases h; exact rI<|by assumption)
    | (cases h; exact qO<|by assumption)
    | (cases h; exact jy (fun _ _ _ h=>rZ h)<|by assumption)
    | (cases h; exact jy (fun _ _ _ h=>rp h)<|by assumption)
    | (cases h; exact jy (fun _ _ _ h=>r4 h)<|by assumption)
 · unfold hU at h; repeat' split at h
   all_goals first
    | (cases h; done)
    | (cases h; decide)
    | (cases h; assumption)
    | (cases h; exact rI<|by assumption)
    | (cases h; exact qO<|by assumption)
    | (cases h; exact jy (fun _ _ _ h=>rZ h)<|by assumption)
    | (cases h; exact jy (fun _ _ _ h=>rp h)<|by assumption)
    | (cases h; exact jy (fun _ _ _ h=>r4 h)<|by assumption)
theorem Wv {eof:Nat} :∀ (k:Nat) (F:aE) (hs:List Tx) (rows:List Rw) (l e:Nat),rows.length≤k→ij eof k F hs rows= .error (l,e)→e≠0:=by
 intro k
 induction k with
 | zero=>
   intro F hs rows l e hk A;obtain rfl :=fY<|Nat.le_zero.1 hk;rw [wy] at A; cases A
 | succ k E=>
   intro F hs rows l e hk A;cases rows with
   | nil=>rw [wy] at A; cases A
   | cons q rows=>
     rw [ij] at A;split at A
     · cases A; decide
     · split at A
       · cases A; decide
       · split at A
         · cases A; decide
         · split at A
           · rename_i he; cases A; exact Ti he
           · rename_i r C;have h1:=rL (rows':=r.2) C;simp only [cC] at hk;exact E _ _ _ _ _ ab A
theorem NK {s:Tx} {l e:Nat} (h:fH s= .error (l,e)):e≠0:=by
 unfold fH at h;split at h
 · cases h; decide
 · split at h
   · rename_i he; cases h; exact Wv _ _ _ _ _ _ (cE _) he
   · split at h
     · cases h; decide
     · cases h
theorem Rb {F:aE} {row:List Tx} {e:Nat} (h:gh F row= .error e):e≠0:=by
 unfold gh at h
 repeat' split at h
 all_goals first
  | (cases h; done)
  | (cases h; decide)
  | (cases h; assumption)
  | (cases h; exact Ho<|by assumption)
theorem Rk {F:aE} {eof l e:Nat} :∀ {n:Nat} {rows:List Rw},fk F eof n rows= .error (l,e)→e≠0:=by
 intro n
 induction n with
 | zero=>
   intro rows h;cases rows with
   | nil=>rw [fk] at h; cases h
   | cons q rows=>rw [fk] at h; cases h; decide
 | succ n A=>
   intro rows h;cases rows with
   | nil=>rw [fk] at h; cases h; decide
   | cons q rows=>
     rw [fk] at h;split at h
     · rename_i he; cases h; exact Rb he
     · split at h
       · rename_i he; cases h; exact A he
       · cases h
theorem QV {F:aE} {t:Tx} {l e:Nat} (h:fD F t= .error (l,e)):e≠0:=by
 unfold fD at h;split at h
 · cases h; decide
 · split at h
   · cases h; decide
   · split at h
     · cases h; decide
     · split at h
       · rename_i he; cases h; exact qO he
       · exact Rk h
end Go.Hb.jH
section
namespace Go.Hb
open Go.Hb.fZ Go.Hb.jt Go.Hb.jH Go.Hb.kQ
noncomputable def k4 (a t:Tx):Option (aE×List bp):=match fH a with
 | .error _=>none
 | .ok F=>match fD F t with
   | .error _=>none
   | .ok xs=>some (F,xs)
theorem KX {a t:Tx} {e:Nat×Nat} (h:fH a= .error e):k4 a t=none:=by unfold k4; rw [h]
theorem KY {a t:Tx} {F:aE} {e:Nat×Nat} (h:fH a= .ok F) (h1:fD F t= .error e):k4 a t=none:=by unfold k4; rw [h]; simp only; rw [h1]
theorem Dw {a t:Tx} {F:aE} {xs:List bp} (h:fH a= .ok F) (h1:fD F t= .ok xs):k4 a t=some (F,xs):=by unfold k4; rw [h]; simp only; rw [h1]
structure ec (F:aE) (xs:List bp):Prop where
 len:F.dp.length+F.aliases.length+F.bw.length+F.rules.length≤70000
 nx:Nx F
 vG:∀ x∈xs,xC x
 xl:xs.length≤8192
 fs:tH F
 cls:qt F
 Q7:∀ x∈xs,lF x.2
 gl:F.sp.length=5
 ne:∀ x∈xs,1≤x.1.length
theorem Av {s:Tx} {F:aE} (h:fH s= .ok F):Nx F:=Au (Q:=Nx) ⟨fun l A=>(by cases A),fun l A=>by cases A⟩ (fun _ _ _ _ _ _ _ _ h C=>yx h C) h
theorem ec.of {a t:Tx} {F:aE} {xs:List bp} (h:fH a= .ok F) (h1:fD F t= .ok xs) (A:∃ seen,k6 F [] seen) (h5:F.sp.length=5):ec F xs:=by
 obtain ⟨seen,A⟩:=A;have E:=A.len;have C:=Gp (Av h) (ET h) h1;exact ⟨by simpa using E,Av h,C.1,C.2,(As h).1,(As h).2,QU (As h).1 h1,h5,QX h1⟩
theorem ec.jm {F:aE} {xs:List bp} (h:ec F xs) {i:Nat} {r:cJ} (A:F.rules[i]? =some r):r.next.length≤64∧lF r.next∧kh r:=⟨h.nx.2 r (gB A),h.fs.2 r<|gB A⟩
structure gE where
 fb:Nat
 mc:Nat
 wb:Nat
 mb:Nat
 V:fy
 V2:fy
 va:ag
 ve:ag
 vs:List ag
 ws:List ag
def Yr (F:aE) (U:gE):List ag:= .pointer (some ⟨U.fb,0,none⟩):: .pointer (some ⟨U.wb,0,none⟩)::(l3 F U.V2++ [U.ve])
structure fS (w:ak) (B tb:Nat) (U:gE) (F:aE) (xs:List bp):Prop where
 cells:w.heap[tb]? =some (.cells (Yr F U).toArray 105 (0,0))
 fl:dX w B U.fb U.mc F U.V
 ax:qq w B F U.V2
 wd:lE w B U.wb U.mb U.va U.vs xs
 oe:bo w B 53 2 U.ve xs.length (kD<|xs.zip U.ws)
 ef:eD w B 95 U.ws (xs.map (·.2))
theorem AG {G:Nat→Prop} {w w':ak} {B:Nat} {F:aE} {V:fy} (h:qq w B F V) (hm:Md G w w') {L:List Nat} (hT:TF w L G) (A:(L.contains 191 || L.contains 53 || L.contains 97 || L.contains 194 || L.contains 136)=false):qq w' B F V:=by
 simp only [po] at A;obtain ⟨⟨⟨⟨h1,h2⟩,h3⟩,h4⟩,h5⟩:=A;have C:∀ k,G k→∀ cur z,w.heap[k]?≠some (.cells cur 95 z):=fun k hk cur z E=>hT.no (dC E) h3 hk;exact ⟨cj h.o9 hm hT h1,cj h.e6 hm hT h2,h.al.md hm C,cj h.eC hm hT h4,cj h.dB hm hT h5,h.nx.md hm C⟩
theorem fS.IY {G:Nat→Prop} {w w':ak} {B tb:Nat} {U:gE} {F:aE} {xs:List bp} (h:fS w B tb U F xs) (hm:Md G w w') {L:List Nat} (hT:TF w L G) (A:(L.contains 166 || L.contains 191 || L.contains 53 || L.contains 97 || L.contains 194 || L.contains 136 || L.contains 186 || L.contains 55 || L.contains 5 || L.contains 107)=false) (J:¬G U.mc) (I:¬G U.mb):fS w' B tb U F xs:=by
 simp only [po] at A;obtain ⟨⟨⟨⟨⟨⟨⟨⟨⟨h1,h2⟩,h3⟩,h4⟩,h5⟩,h6⟩,h7⟩,h8⟩,h9⟩,h10⟩:=A;have C:∀ k,G k→∀ cur z,w.heap[k]?≠some (.cells cur 95 z):=fun k hk cur z E=>hT.no (dC E) h4 hk;exact ⟨hm.iK hT h.cells h10,h.fl.md hm hT (by rw [h1,h2,h3,h4,h5,h6]; rfl) J,AG h.ax hm hT (by rw [h2,h3,h4,h5,h6]; rfl),h.wd.md hm hT (by rw [h7,h8,h4,h9]; rfl) I,cj h.oe hm hT h8,h.ef.md hm C⟩
theorem fS.wk {w w':ak} {B tb:Nat} {U:gE} {F:aE} {xs:List bp} (h:fS w B tb U F xs) (hm:Wk w w'):fS w' B tb U F xs:=h.IY (L:= []) hm (fun _ hk=>hk.elim) rfl id id
theorem N9 {w w':ak} {B:Nat} {F:aE} {V:fy} (h:qq w B F V) (hm:Wk w w'):qq w' B F V:=AG (L:= []) h hm (fun _ hk=>hk.elim) rfl
theorem N7 {w:ak} {B B':Nat} {F:aE} {V:fy} (h:qq w B F V) (A:B'≤B):qq w B' F V:=⟨eR h.o9 A,eR h.e6 A,h.al.mono A,eR h.eC A,eR h.dB A,h.nx.mono A⟩
theorem Ws {s:Tx} {w w':ak} {v:ag} (h:qw s w v w'):∃ p E G I,v= .tuple #[.pointer p,.agg [.int .i64 E,.int .i64 G,.int .i64 I].toArray]∧((p=none∧∃ e,fH s= .error e)∨(∃ F fb mc V,p=some ⟨fb,0,none⟩∧fH s= .ok F∧dX w' w.heap.size fb mc F V∧(∃ seen,k6 F [] seen)∧Nx F))∧Wk w w':=by
 obtain ⟨h,A⟩:=h;cases hx:fH s with
 | error e=>rw [hx] at h; exact ⟨_,_,_,_,h,.inl ⟨rfl,e,rfl⟩,A⟩
 | ok F=>rw [hx] at h; obtain ⟨fb,mc,V,C,h1,h2,h3⟩:=h; exact ⟨_,_,_,_,C,.inr ⟨F,fb,mc,V,rfl,rfl,h1,h2,h3⟩,A⟩
theorem Q4 {F:aE} {s:Tx} {w w':ak} {v:ag} (h:mA F s w v w'):∃ p E G I,v= .tuple #[.pointer p,.agg [.int .i64 E,.int .i64 G,.int .i64 I].toArray]∧((p=none∧∃ e,fD F s= .error e)∨(∃ xs B wb mb va vs,p=some ⟨wb,0,none⟩∧fD F s= .ok xs∧w.heap.size≤B∧lE w' B wb mb va vs xs∧w.heap.size≤wb∧w.heap.size≤mb))∧Wk w w':=by
 obtain ⟨h,A⟩:=h;cases hx:fD F s with
 | error e=>rw [hx] at h; exact ⟨_,_,_,_,h,.inl ⟨rfl,e,rfl⟩,A⟩
 | ok xs=>rw [hx] at h; obtain ⟨B,wb,mb,va,vs,h1,C,h2,h3,h4⟩:=h; exact ⟨_,_,_,_,C,.inr ⟨xs,B,wb,mb,va,vs,rfl,rfl,h1,h2,h3,h4⟩,A⟩
def vq (a t:Tx) (w:ak) (v:ag) (w':ak):Prop :=(∃ p A C E,v= .tuple #[.pointer p,.agg [.int .i64 A,.int .i64 C,.int .i64 E].toArray]∧match k4 a t with
 | none=>p=none
 | some T=> ∃ B tb U,w.heap.size≤B∧p=some ⟨tb,0,none⟩∧fS w' B tb U T.1 T.2∧ec T.1 T.2)∧Wk w w'
theorem vq.no {a t:Tx} {w w':ak} {A C E:Int} (h:k4 a t=none) (hm:Wk w w'):vq a t w (.tuple #[.pointer none,.agg [.int .i64 A,.int .i64 C,.int .i64 E].toArray]) w':=⟨⟨none,A,C,E,rfl,by rw [h]⟩,hm⟩
theorem Zl {w:ak} {B B':Nat} {f:ag→Option ag} {xs:List bp} (h:nR w B f xs) (A:B'≤B):nR w B' f xs:=⟨fun s=>eR (h.own s) A,h.nil⟩
theorem Q5 {w:ak} {B B' wb mb:Nat} {va:ag} {vs:List ag} {xs:List bp} (h:lE w B wb mb va vs xs) (A:B'≤B):lE w B' wb mb va vs xs:=by
 obtain ⟨f,C,E⟩:=h.mp;exact ⟨h.cells,eR h.own A,h.fl.mono A,f,C,Zl E A⟩
theorem K5 (a t:Tx) (w:ak) (bK:a.length≤1048576) (bY:t.length≤1048576):
 ba az 22 (a7 [str a,str t]) w (vq a t w):=by
 refine enter func22 aa ntmps22 aa<|bg 3 aa<|e<|gK q4 fun C ah b5 ao ai=> ?_;have ci:=ao.size;refine au 5 aa<|e<|aM (NJ a ah bK) aa fun v12 bq bF=> ?_;have bQ:=Ws bF;obtain ⟨pp,bf,bh,bi,rfl,bd,aG⟩:=bQ;have ca:=aG.size;refine p mv<|au 2 aa<|e<|gK q4 fun aP cq b6 a1 bw=> ?_;have ck:=a1.size;refine p bm<|e<|gA kj aa aa aa aa bw aw fun Y aW aD=> ?_;have aF:Wk bq Y:=a1.md.trans' aW fun q G h=>by omega
 have aU:=aG.trans aF;have b9:=aW.size;have bW:bO Y.heap aP [.int .i64 bf,.int .i64 bh,.int .i64 bi]:=⟨_,aD⟩
 refine au 5 aa<|p mv<|p (lh xd aa aa)<|aQ 2 aa<|cb aa (fun av=> ?_) fun av=> ?_;obtain ⟨rfl,e,E⟩:pp=none∧∃ e,fH a= .error e:=by rcases bd with h | ⟨_,_,_,_,rfl,_⟩ <;> first | exact h | cases av
 refine bz 1 aa ?_;have ap:(fun w'=>Md (fun q=>q=C) Y w') Y.drew:=(Md.refl _ _).drew;refine dY (fun w'=>Md (fun q=>q=C) Y w') aa wide ap<|fz 0 aa (fun w' aL=>cQ lJ aa (aa) fun j O=>(Md.B aL bW fun h=>by omega).bu j) ap<|aT [1] aa ap<|he 2 aa aj<|gA kj aa aa aa aa (Wk.bl aU ai) aw fun b0 bD bs=> ?_;have a2:(fun w'=>Md (fun q=>q=C) Y w') b0:=ap.trans' bD fun q G h=>h;refine ⟨a2,?_⟩;exact hn aj<|bc 3 aa<|eF aa et (dU (cs:= [.int .i64 bf,.int .i64 bh,.int .i64 bi]) aa lJ aa fun j O=>(a8 bs).trans<|by match j,O with | 0,_=>rfl | 1,_=>rfl | 2,_=>rfl)<|vq.no (KX E)<|(ao.md.trans aU).trans' a2 fun q G h=>by omega
 obtain ⟨F,fb,mc,V,rfl,E,am,aS,a0⟩:=bd.resolve_left fun h=>by rw [h.1] at av; cases av
 refine aH 4 aa<|p mv<|au 1 aa<|e<|aM (QZ ah.heap.size fb mc F V t Y (am.wk aF) aS a0 bY) aa fun v21 cp bG=> ?_;have bR:=Q4 bG;obtain ⟨bZ,bk,bn,bo,rfl,bb,al⟩:=bR;have cc:=al.size;refine p mv<|au 2 aa<|p bm<|e<|gA kj aa aa aa aa (Wk.bl al aD) (by simp) fun I aK bt=> ?_;have aV:Wk bq I:=(aF.trans al).trans' aK fun q G h=>by omega
 have ac:=aG.trans aV;have cg:=aK.size;have bX:bO I.heap aP [.int .i64 bk,.int .i64 bn,.int .i64 bo]:=⟨_,bt⟩
 refine au 5 aa<|p mv<|p (lh DG aa aa)<|aQ 2 aa<|cb aa (fun ax=> ?_) fun ax=> ?_;obtain ⟨rfl,e,hd⟩:bZ=none∧∃ e,fD F t= .error e:=by rcases bb with h | ⟨_,_,_,_,_,_,rfl,_⟩ <;> first | exact h | cases ax
 refine bz 1 aa ?_;have aq:(fun w'=>Md (fun q=>q=C) I w') I.drew:=(Md.refl _ _).drew;refine dY (fun w'=>Md (fun q=>q=C) I w') aa wide aq<|fz 0 aa (fun w' aL=>cQ lJ aa (aa) fun j O=>(Md.B aL bX fun h=>by omega).bu j) aq<|aT [1] aa aq<|he 2 aa aj<|gA kj aa aa aa aa (Wk.bl ac ai) aw fun b1 bE bv=> ?_;have a3:(fun w'=>Md (fun q=>q=C) I w') b1:=aq.trans' bE fun q G h=>h;refine ⟨a3,?_⟩;exact hn aj<|bc 3 aa<|eF aa et (dU (cs:= [.int .i64 bk,.int .i64 bn,.int .i64 bo]) aa lJ aa fun j O=>(a8 bv).trans<|by match j,O with | 0,_=>rfl | 1,_=>rfl | 2,_=>rfl)<|vq.no (KY E hd)<|(ao.md.trans ac).trans' a3 fun q G h=>by omega
 obtain ⟨xs,B,wb,mb,va,vs,rfl,hd,b3,bJ,b8,b7⟩:=bb.resolve_left fun h=>by rw [h.1] at ax; cases ax
 have aN:=bJ.md (L:= [47]) aK (TF.eq (dC<|Wk.bl al aD) aw) aw fun h=>by omega
 have aJ:=am.wk aV;have bM:=Gp (Av E) (ET E) hd;obtain ⟨seen,aR⟩:=aS;have bN:=aR.len;refine aH 4 aa<|p mv<|p mv<|p (cV (ps:= [(0,bj fb),(1,bj wb)]) (L:= [bj fb,bj wb,.int .i64 0,.string ⟨⟨[]⟩⟩,.string ⟨⟨[]⟩⟩,.int .u16 0,.int .u16 0,.int .u16 0,.int .u16 0,.int .u16 0,.int .i64 0,.slice none 0 0,.slice none 0 0,.slice none 0 0,.slice none 0 0,.slice none 0 0]) XR aa<|aa)<|e<|nU aa fun aB ay b4 an aE=> ?_;have ce:=an.size;refine aQ 4 aa<|l9 14 fun A=>bU [0,1,2,3,4] aa A<|ma 5 aa A ((a8 aE).trans aa)<|bU [7,8,9] aa A<|ma 10 aa A ((a8 aE).trans aa)<|gN 6 aa aj<|aM (xI ah.heap.size fb mc F V ay.drew ((aJ.wk an.md).wk A) (by simp only [gr] at bN; omega) a0) aa ?_;rintro v37 br ⟨⟨V2,rfl,bL⟩,hE37⟩;have cf:=hE37.size;have co:=A.size;have a5:(fun w'=>Wk ay w') br:=A.trans hE37;refine ⟨a5,?_⟩;refine gN 11 aa aj<|aM (QI B wb mb va vs xs br (((aN.wk an.md).wk A).wk hE37) ab fun x E=>(bM.1 x E).2.1) aa ?_;rintro bp aA ⟨⟨ws,a9,bP,_⟩,hE42⟩;have ch:=hE42.size;have ag:=N9 bL hE42;have a6:=Wk.bl hE42<|Wk.bl hE37<|Wk.bl A aE;have a4:(fun w'=>Wk ay w') aA:=a5.trans hE42;refine ⟨a4,?_⟩;refine bU [12,13] aa a4<|dK 14 aa aj aj<|gA AY aa aa aa (AF (e9 ag.o9) (e9 ag.e6) (e9 ag.eC)<|e9 ag.dB) a6 (by simp) fun ct aY bA=> ?_;have cn:=aY.size;refine kK 15 aa (fun _=>nc aa) (fun h=>dM<|(show true =_ from by kernel_rfl).trans h)<|kK 16 aa (fun _=>fa RX aa) (fun h=>dM<|(show true =_ from by kernel_rfl).trans h)<|dK 17 aa aj aj<|dd F5 aa aa (v:=bp) (e9 a9) bA (by show 15 < 16; omega) fun aO aX bx=> ?_;have cl:=aX.size;have Z:=aY.trans' aX fun q G h=>h;have J:TF aA [107] (fun q=>q=aB):=TF.eq (dC a6) aw;have bC:Wk ay aA:=A.trans<|hE37.trans hE42;have ae:Wk I aA:=an.md.trans bC;have aI:Wk I aO:=ae.trans' Z fun q G h=>by omega
 obtain ⟨b2,bS,_⟩:=(aJ.wk ae).cm;obtain ⟨fm,bT,_⟩:=(aN.wk ae).mp;have bH:fS aO ah.heap.size aB ⟨fb,mc,wb,mb,V,V2,va,bp,vs,ws⟩ F xs:=⟨bx,(aJ.wk ae).md Z J aw (J.no (eJ bS) aw),AG (N7 ag ab) Z J aw,Q5 ((aN.wk ae).md Z J aw<|J.no (eJ bT) aw) ab,eR (cj a9 Z J aw) ab,(bP.md Z fun k hk cur z bV=>J.no (dC bV) aw hk).mono ab⟩
 refine eQ aj<|dq 4 aa<|p (cV (ps:= []) (L:= [.int .i64 0,.int .i64 0,.int .i64 0]) uA aa<|aa)<|au 1 aa<|e<|gA kj aa aa aa aa (Wk.bl (ac.trans aI) ai) aw fun cu aZ bB=>aC 3 aa<|eF aa et (dU (cs:= [.int .i64 0,.int .i64 0,.int .i64 0]) aa lJ aa fun j O=>(a8 bB).trans<|by match j,O with | 0,_=>rfl | 1,_=>rfl | 2,_=>rfl) ?_;refine ⟨⟨_,_,_,_,aa,?_⟩,(ao.md.trans<|ac.trans aI).trans' aZ fun q G h=>by omega⟩;rw [Dw E hd];have bI:TF aO [47] (fun q=>q=C):=TF.eq (dC<|Wk.bl (ac.trans aI) ai) aw;exact ⟨ah.heap.size,aB,_,ab,aa,bH.IY aZ bI aw (fun h:mc=C=>by have :=am.lo.2; omega) (fun h:mb=C=>by omega),ec.of E hd ⟨seen,aR⟩ am.gl⟩
end Go.Hb
end
section
namespace Go.Hb
open Go.Hb.fZ Go.Hb.jt Go.Hb.jH Go.Hb.kQ
def oc (xs:List bp) (n:Int):Tx:=if 0≤n∧n < xs.length then (xs.getD n.toNat ([],[])).1 else []
def s7 (F:aE) (n:Int):cJ:=if 0≤n∧n < F.rules.length then F.rules.getD n.toNat dF else dF
theorem tQ {xs:List bp} {k:Nat} {x:bp} (h:xs[k]? =some x):oc xs k=x.1∧flagsOf xs k=x.2∧k < xs.length∧xs.getD k ([],[])=x:=by
 have hk:=(ff.1 h).1;have hd:xs.getD k ([],[])=x:=by rw [cH,h]; rfl
 refine ⟨?_,?_,hk,hd⟩
 · unfold oc; rw [if_pos ab,kg,hd]
 · unfold flagsOf; rw [if_pos ab,kg,hd]
theorem tR {xs:List bp} {n:Int} (h:¬(0≤n∧n < xs.length)):oc xs n= []∧flagsOf xs n= []:=by
 unfold oc flagsOf; rw [if_neg h,if_neg h]; exact ⟨rfl,rfl⟩
theorem wO {F:aE} {k:Nat} {r:cJ} (h:F.rules[k]? =some r):s7 F k=r∧bV F k=r.next∧k < F.rules.length∧F.rules.getD k dF=r:=by
 have hk:=(ff.1 h).1;have hd:F.rules.getD k dF=r:=by rw [cH,h]; rfl
 refine ⟨?_,?_,hk,hd⟩
 · unfold s7; rw [if_pos ab,kg,hd]
 · unfold bV; rw [if_pos ab,kg,hd]
theorem wP {F:aE} {n:Int} (h:¬(0≤n∧n < F.rules.length)):s7 F n=dF∧bV F n= []:=by
 unfold s7 bV; rw [if_neg h,if_neg h]; exact ⟨rfl,rfl⟩
theorem Ys {w:ak} {B tb:Nat} {U:gE} {F:aE} {xs:List bp} (h:fS w B tb U F xs) {k:Nat} {x:bp} (E:xs[k]? =some x):∃ A ce a c,U.ve= .slice A xs.length ce∧Hb.aV w.heap tb 15=some (.slice A xs.length ce)∧aB w.heap A (kD<|xs.zip U.ws)∧(xs.zip U.ws)[k]? =some (x,.slice a x.2.length c)∧Tg w B 95 x.2.length (.slice a x.2.length c) (x.2.map bf):=by
 obtain ⟨A,ce,C⟩:=cz h.oe;have G:=h.oe;rw [C] at G;have hk:=(ff.1 E).1;obtain ⟨v,I,hT⟩:=eD.get h.ef (show k < (xs.map (·.2)).length by rw [fC]; exact hk);have J:(xs.map (·.2)).getD k []=x.2:=by rw [cH,fJ,E]; rfl
 rw [J] at hT;obtain ⟨a,c,rfl⟩:=hT.slice;exact ⟨A,ce,a,c,C,by rw [← C]; exact (a8 h.cells).trans aa,(aX G).2,j7.2 ⟨E,I⟩,hT⟩
theorem Yt {w:ak} {B tb:Nat} {U:gE} {F:aE} {xs:List bp} (h:fS w B tb U F xs):∃ A ce,Hb.aV w.heap tb 15=some (.slice A xs.length ce):=by
 obtain ⟨A,ce,C⟩:=cz h.oe;exact ⟨A,ce,by rw [← C]; exact (a8 h.cells).trans aa⟩
theorem Yu {w:ak} {B tb:Nat} {U:gE} {F:aE} {xs:List bp} (h:fS w B tb U F xs):∃ ar cr,Hb.aV w.heap tb 14=some (.slice ar F.rules.length cr):=by
 obtain ⟨ar,cr,A⟩:=cz h.ax.dB;exact ⟨ar,cr,by rw [← A]; exact (a8 h.cells).trans aa⟩
theorem N8 {w:ak} {B:Nat} {F:aE} {V:fy} (h:qq w B F V) {k:Nat} {r:cJ} (A:F.rules[k]? =some r):∃ ar cr a c,V.v12= .slice ar F.rules.length cr∧aB w.heap ar (iw<|F.rules.zip V.rn)∧(F.rules.zip V.rn)[k]? =some (r,.slice a r.next.length c)∧Tg w B 95 r.next.length (.slice a r.next.length c) (r.next.map bf):=by
 obtain ⟨ar,cr,E⟩:=cz h.dB;have C:=h.dB;rw [E] at C;have hk:=(ff.1 A).1;obtain ⟨v,G,hT⟩:=eD.get h.nx (show k < (F.rules.map (·.next)).length by rw [fC]; exact hk);have I:(F.rules.map (·.next)).getD k []=r.next:=by rw [cH,fJ,A]; rfl
 rw [I] at hT;obtain ⟨a,c,rfl⟩:=hT.slice;exact ⟨ar,cr,a,c,E,(aX C).2,j7.2 ⟨A,G⟩,hT⟩
structure ga (w:ak) (B tb fb:Nat) (V:eo) (ve:ag) (F:aE) (xs:List bp):Prop where
 cells:w.heap[tb]? =some (.cells [.pointer (some ⟨fb,0,none⟩),ve].toArray 78 (0,0))
 fl:eL w B 0 fb F V
 en:nQ w B ve xs
theorem ga.wk {w w':ak} {B tb fb:Nat} {V:eo} {ve:ag} {F:aE} {xs:List bp} (h:ga w B tb fb V ve F xs) (hm:Wk w w'):ga w' B tb fb V ve F xs:=⟨Wk.bl hm h.cells,h.fl.wk hm,h.en.wk hm⟩
theorem ga.eu {w:ak} {B tb fb:Nat} {V:eo} {ve:ag} {F:aE} {xs:List bp} (h:ga w B tb fb V ve F xs) {k:Nat} {x:bp} (E:xs[k]? =some x):∃ A ce ws a c,Hb.aV w.heap tb 1=some (.slice A xs.length ce)∧aB w.heap A (kD<|xs.zip ws)∧(xs.zip ws)[k]? =some (x,.slice a x.2.length c)∧Tg w 0 3 x.2.length (.slice a x.2.length c) (x.2.map bJ):=by
 obtain ⟨ws,C,I⟩:=h.en;obtain ⟨A,ce,G⟩:=cz C;rw [G] at C;have hk:=(ff.1 E).1;obtain ⟨v,J,hT⟩:=iT.get I (show k < (xs.map (·.2)).length by rw [fC]; exact hk);have O:(xs.map (·.2)).getD k []=x.2:=by rw [cH,fJ,E]; rfl
 rw [O] at hT;obtain ⟨a,c,rfl⟩:=hT.slice;exact ⟨A,ce,ws,a,c,by rw [← G]; exact (a8 h.cells).trans aa,(aX C).2,j7.2 ⟨E,J⟩,hT⟩
theorem ga.DK {w:ak} {B tb fb:Nat} {V:eo} {ve:ag} {F:aE} {xs:List bp} (h:ga w B tb fb V ve F xs):∃ A ce,Hb.aV w.heap tb 1=some (.slice A xs.length ce):=by
 obtain ⟨ws,C,G⟩:=h.en;obtain ⟨A,ce,E⟩:=cz C;exact ⟨A,ce,by rw [← E]; exact (a8 h.cells).trans aa⟩
theorem ga.DL {w:ak} {B tb fb:Nat} {V:eo} {ve:ag} {F:aE} {xs:List bp} (h:ga w B tb fb V ve F xs):∃ ar cr,Hb.aV w.heap fb 12=some (.slice ar F.rules.length cr):=by
 obtain ⟨ar,cr,A⟩:=cz h.fl.dB;exact ⟨ar,cr,by rw [← A]; exact (a8 h.fl.cells).trans aa⟩
theorem ga.jm {w:ak} {B tb fb:Nat} {V:eo} {ve:ag} {F:aE} {xs:List bp} (h:ga w B tb fb V ve F xs) {k:Nat} {r:cJ} (A:F.rules[k]? =some r):∃ ar cr a c,Hb.aV w.heap fb 12=some (.slice ar F.rules.length cr)∧aB w.heap ar (np<|F.rules.zip V.rn)∧(F.rules.zip V.rn)[k]? =some (r,.slice a r.next.length c)∧Tg w 0 3 r.next.length (.slice a r.next.length c) (r.next.map bJ):=by
 obtain ⟨ar,cr,E⟩:=cz h.fl.dB;have C:=h.fl.dB;rw [E] at C;have hk:=(ff.1 A).1;obtain ⟨v,G,hT⟩:=iT.get h.fl.nx (show k < (F.rules.map (·.next)).length by rw [fC]; exact hk);have I:(F.rules.map (·.next)).getD k []=r.next:=by rw [cH,fJ,A]; rfl
 rw [I] at hT;obtain ⟨a,c,rfl⟩:=hT.slice;exact ⟨ar,cr,a,c,by rw [← E]; exact (a8 h.fl.cells).trans aa,(aX C).2,j7.2 ⟨A,G⟩,hT⟩
theorem Ss {w:ak} {B B' B0 fb:Nat} {F:aE} {V:eo} (h:eL w B B0 fb F V) (A:B'≤B):eL w B' B0 fb F V:=⟨h.cells,eR h.o9 A,eR h.e6 A,h.al,eR h.eC A,eR h.dB A,h.nx,e7 A h.lo,h.gl⟩
theorem SH {w:ak} {B B':Nat} {v:ag} {xs:List bp} (h:nQ w B v xs) (A:B'≤B):nQ w B' v xs:=by
 obtain ⟨vs,h1,h2⟩:=h;exact ⟨vs,eR h1 A,h2⟩
theorem SM {s:Tx} {w w':ak} {v:ag} (h:mB s w v w'):∃ p l e,v= .tuple #[.pointer p,.int .i64 l,.int .i64 e]∧((e≠0∧∃ er,fH s= .error er)∨(e=0∧∃ F B fb V,p=some ⟨fb,0,none⟩∧fH s= .ok F∧w.heap.size≤B∧eL w' B 0 fb F V∧(∃ seen,oJ F [] seen)∧Nx F))∧Wk w w':=by
 obtain ⟨h,A⟩:=h;cases hx:fH s with
 | error e=>rw [hx] at h; exact ⟨_,_,_,h,.inl ⟨by have :=NK hx; omega,e,rfl⟩,A⟩
 | ok F=>rw [hx] at h; obtain ⟨B,fb,V,C,E,h1,h2,h3⟩:=h; exact ⟨_,_,_,E,.inr ⟨rfl,F,B,fb,V,rfl,rfl,C,h1,h2,h3⟩,A⟩
theorem SP {F:aE} {s:Tx} {w w':ak} {v:ag} (h:lY F s w v w'):∃ a l e,v= .tuple #[a,.int .i64 l,.int .i64 e]∧a.oneCell'=true∧((e≠0∧∃ er,fD F s= .error er)∨(e=0∧∃ xs,fD F s= .ok xs∧nQ w' w.heap.size a xs))∧Wk w w':=by
 obtain ⟨h,A⟩:=h;cases hx:fD F s with
 | error e=>rw [hx] at h; exact ⟨_,_,_,h,rfl,.inl ⟨by have :=QV hx; omega,e,rfl⟩,A⟩
 | ok xs=>rw [hx] at h; obtain ⟨a,E,h1⟩:=h; exact ⟨_,_,_,E,(by obtain ⟨ws,C,_⟩:=h1; exact e9 C),.inr ⟨rfl,xs,rfl,h1⟩,A⟩
def vm (a t:Tx) (w:ak) (v:ag) (w':ak):Prop :=(∃ p A C E,v= .tuple #[.pointer p,.agg [.int .i64 A,.int .i64 C,.int .i64 E].toArray]∧match k4 a t with
 | none=>p=none
 | some T=> ∃ B tb fb V ve,p=some ⟨tb,0,none⟩∧ga w' B tb fb V ve T.1 T.2)∧Wk w w'
theorem vm.no {a t:Tx} {w w':ak} {A C E:Int} (h:k4 a t=none) (hm:Wk w w'):vm a t w (.tuple #[.pointer none,.agg [.int .i64 A,.int .i64 C,.int .i64 E].toArray]) w':=⟨⟨none,A,C,E,rfl,by rw [h]⟩,hm⟩
theorem W9 (a t:Tx) (w:ak) (aT:a.length≤1048576) (aX:t.length≤1048576):
 ba az 29 (a7 [str a,str t]) w (vm a t w):=by
 refine enter func29 aa ntmps29 aa<|bg 3 aa<|e<|gK LJ fun an am a4 I ao=> ?_;have bb:=I.size;have ae:bO am.heap an [.int .i64 0,.int .i64 0,.int .i64 0]:=⟨_,ao⟩
 refine au 5 aa<|e<|aM (Wp a am aT) aa fun v12 aB aR=> ?_;have aV:=SM aR;obtain ⟨pp,aj,Z,rfl,ay,A⟩:=aV;have a6:=A.size;refine p mv<|au 3 aa<|p bm<|aQ 11 aa<|cd aa (fun ah=> ?_) fun ah=> ?_;obtain ⟨er,J⟩:=(ay.resolve_right fun h=>ah h.1).2;exact aH 4 aa<|p (cV (ps:= [(0,.int .i64 1),(1,.int .i64 aj),(2,.int .i64 Z)]) (L:= [.int .i64 1,.int .i64 aj,.int .i64 Z]) Dr aa<|aa)<|au 1 aa<|e<|c8 x2 aa aa aa aa (Wk.B A ae) (by simp) fun bc aN aF=>aC 4 aa<|eF aa et (dU (cs:= [.int .i64 1,.int .i64 aj,.int .i64 Z]) aa Ax aa fun j aq=>aF.bu j)<|vm.no (KX J)<|(I.md.trans A).trans' aN fun q aA h=>by omega
 obtain ⟨a5,F,B,fb,V,rfl,J,aK,ap,aJ,aP⟩:=ay.resolve_left fun h=>ah h.1;refine aH 4 aa<|p mv<|au 1 aa<|e<|aM (Sj B fb F V t aB ap aJ aP aX) aa fun v24 aY aS=> ?_;have aW:=SP aS;obtain ⟨a2,al,ac,rfl,a1,ax,C⟩:=aW;have a8:=C.size;refine p mv<|au 3 aa<|p bm<|aQ 11 aa<|cd aa (fun ai=> ?_) fun ai=> ?_;obtain ⟨er,hd⟩:=(ax.resolve_right fun h=>ai h.1).2;exact aH 4 aa<|p (cV (ps:= [(0,.int .i64 2),(1,.int .i64 al),(2,.int .i64 ac)]) (L:= [.int .i64 2,.int .i64 al,.int .i64 ac]) Dr aa<|aa)<|au 1 aa<|e<|c8 x2 aa aa aa aa (Wk.B (A.trans C) ae) (by simp) fun bd aO aG=>aC 4 aa<|eF aa et (dU (cs:= [.int .i64 2,.int .i64 al,.int .i64 ac]) aa Ax aa fun j aq=>aG.bu j)<|vm.no (KY J hd)<|(I.md.trans<|A.trans C).trans' aO fun q aA h=>by omega
 obtain ⟨BU,xs,hd,a0,av,aU⟩:=ax.resolve_left fun h=>ai h.1;obtain ⟨O,Y,rfl⟩:=cz av;have aL:nQ aY aB.heap.size (.slice O xs.length Y) xs:=⟨a0,av,aU⟩
 refine aH 4 aa<|p mv<|p mv<|p (cV (ps:= [(0,bj fb),(1,.slice O xs.length Y)]) (L:= [bj fb,.slice O xs.length Y]) X5 aa<|aa)<|e<|nU aa fun aD aZ a3 E aE=> ?_;have a9:=E.size;refine p (cV (ps:= []) (L:= [.int .i64 0,.int .i64 0,.int .i64 0]) Dr aa<|aa)<|au 1 aa<|e<|c8 x2 aa aa aa aa (Wk.B ((A.trans C).trans E.md) ae) (by simp) fun bf G aI=>aC 3 aa<|eF aa et (dU (cs:= [.int .i64 0,.int .i64 0,.int .i64 0]) aa Ax aa fun j aq=>aI.bu j) ?_;refine ⟨⟨_,_,_,_,aa,?_⟩,(I.md.trans<|(A.trans C).trans E.md).trans' G fun q aA h=>by omega⟩;rw [Dw J hd];have ag:TF aZ [71] (fun q=>q=an):=TF.eq (dC<|Wk.bl ((A.trans C).trans E.md) ao) aw;refine ⟨am.heap.size,aD,fb,V,_,aa,G.iK ag aE aw,Ss ((ap.wk<|C.trans E.md).md G ag aw) aK,SH ((aL.wk E.md).md G ag aw) ab⟩
end Go.Hb
end
