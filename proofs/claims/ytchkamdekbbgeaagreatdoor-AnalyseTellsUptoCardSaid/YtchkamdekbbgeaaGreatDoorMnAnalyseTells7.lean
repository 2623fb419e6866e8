/-
  Walks and plain laws that the law rests on, laid together. No conditions but those that each theorem names.
-/
import Derived.Test.YtchkamdekbbgeaaGreatDoorMnAnalyseTells6
set_option linter.unusedVariables false
set_option maxRecDepth 20000
set_option maxHeartbeats 1000000
open Array renaming toList_setIfInBounds→tF
open Bool renaming noConfusion→dA
open Go.Calls renaming mono→ju
open Go.Proofs.Tryz renaming prog→au
open Go.Value renaming bool→bO,slice→bD
open Go.World renaming ownsRow→bm,ownsRow_nil→dM
open List renaming drop_drop→tR,filter_append→Ir,flatMap_cons→jg,getD_eq_getElem?_getD→cM,getElem?_drop→qA,getElem?_eq_getElem→bZ,getElem?_eq_some_iff→eu,getElem?_map→eR,length_append→bK,length_filter_le→mT,length_mergeSort→BD,length_take→dB,map_append→gA,mem_cons→dR,mem_filter→pB,pairwise_cons→kZ,take_add_one→ud,take_append→qD,take_length→IM,take_of_length_le→eN,toArray→aX
open Nat renaming le_refl→cw,le_trans→dZ,mul_one→oE
open Go.Proofs.Tryz
open Go.Proofs Go.Hb.dx Go.Hb.eI Go.Hb.dV Go.Hb.eH Go.Hb.gi Go.Hb.fU Go.Hb.gL Go.Hb.gT Go.Hb.iP Go.Hb.n0 Go.Hb.pG

namespace Go.Hb
def Tp:Go.Shelf.Ren:=⟨fun n=>if n=125 then 66 else if n=128 then 123 else if n=129 then 124 else if n=190 then 35 else if n=258 then 65 else if n=302 then 114 else if n=303 then 115 else if n=304 then 116 else if n=305 then 117 else if n=306 then 118 else if n=307 then 119 else if n=308 then 120 else if n=309 then 121 else if n=310 then 122 else if n=329 then 184 else if n=330 then 185 else if n=333 then 183 else if n=334 then 186 else if n=335 then 187 else if n=336 then 188 else if n=344 then 231 else 0,fun n=>if n=0 then 0 else if n=3 then 3 else if n=4 then 4 else if n=5 then 5 else if n=9 then 9 else if n=31 then 35 else if n=46 then 145 else if n=51 then 240 else if n=53 then 242 else if n=131 then 237 else if n=182 then 232 else if n=183 then 233 else if n=218 then 287 else if n=222 then 291 else if n=228 then 335 else if n=229 then 219 else 0,fun n=>n⟩
theorem Fg:Go.Proofs.Lays.n190 au Tp where
 mixed:=ag
 f125:=ag
 f128:=ag
 f129:=ag
 f190:=ag
 f258:=ag
 f302:=ag
 f303:=ag
 f304:=ag
 f305:=ag
 f306:=ag
 f307:=ag
 f308:=ag
 f309:=ag
 f310:=ag
 f329:=ag
 f330:=ag
 f333:=ag
 f334:=ag
 f335:=ag
 f336:=ag
 f344:=ag
 t0:=ag
 a0:=fun _=>ag
 z0:=fun _=>ag
 v0:=fun _=>ag
 t3:=ag
 a3:=fun _=>ag
 z3:=fun _=>ag
 v3:=fun _=>ag
 t4:=ag
 a4:=fun _=>ag
 z4:=fun _=>ag
 v4:=fun _=>ag
 t5:=ag
 a5:=fun _=>ag
 z5:=fun _=>ag
 v5:=fun _=>ag
 t9:=ag
 a9:=fun _=>ag
 z9:=fun _=>ag
 v9:=fun _=>ag
 t31:=ag
 a31:=fun _=>ag
 z31:=fun _=>ag
 v31:=fun _=>ag
 t46:=ag
 a46:=fun _=>ag
 z46:=fun _=>ag
 v46:=fun _=>ag
 t51:=ag
 a51:=fun _=>ag
 z51:=fun _=>ag
 v51:=fun _=>ag
 t53:=ag
 a53:=fun _=>ag
 z53:=fun _=>ag
 v53:=fun _=>ag
 t131:=ag
 a131:=fun _=>ag
 z131:=fun _=>ag
 v131:=fun _=>ag
 t182:=ag
 a182:=fun _=>ag
 z182:=fun _=>ag
 v182:=fun _=>ag
 t183:=ag
 a183:=fun _=>ag
 z183:=fun _=>ag
 v183:=fun _=>ag
 t218:=ag
 a218:=fun _=>ag
 z218:=fun _=>ag
 v218:=fun _=>ag
 t222:=ag
 a222:=fun _=>ag
 z222:=fun _=>ag
 v222:=fun _=>ag
 t228:=ag
 a228:=fun _=>ag
 z228:=fun _=>ag
 v228:=fun _=>ag
 t229:=ag
 a229:=fun _=>ag
 z229:=fun _=>ag
 v229:=fun _=>ag
theorem GL (B n:Nat) (v:Value) (c:List (List UInt8)) (w:World) (E:bm w B 9 1 v n (c.map str)) (I:c.length < 4611686018427387904):
 ba au 35 [v].toArray w (fun V w'=>V= .tuple #[]∧bm w' B 9 1 v n ((c.mergeSort fun x y=>decide (x≤y)).map str)∧Md (fun k=>v.ownBlock=some k) w w'):=by
 have hn:c.length=n:=by have :=E.1; simpa using this
 have hlen:(c.mergeSort fun x y=>decide (x≤y)).length=c.length:=BD _
 rcases E.2 with ⟨rfl,Y⟩ | ⟨g,cap,cur,rfl,G,C,h1,h2,h3,h4⟩
 · have O:c= []:=List.eq_nil_of_length_eq_zero ab
   subst O
   refine ju (Any.slices_Sort_string_none Fg none 0 w) ?_
   rintro e w' ⟨rfl,rfl⟩
   exact ⟨_,aa,aa,by rw [List.mergeSort_nil]; exact E,Md.refl _ _⟩
 · subst hn
   rw [oE] at h4
   refine ju (calls_of_every_depth fun D=>AnyS.slices_Sort_string_alone Fg D g 0 cap c w (holds_of_block C h4) (Array.getElem?_eq_some_iff.1 C).1 I) ?_
   rintro e w' ⟨rfl,m,os,rfl⟩
   have A:=grownBy_sorted (w:=w) (g:=g) (n:=m) (os:=os) (c.mergeSort fun x y=>decide (x≤y)).toArray
   refine ⟨_,aa,aa,ownsRow_sorted hlen G C h1 h2 h3,⟨A.os,A.output,A.size,fun k hk J=>A.block k hk fun he=>J ?_⟩⟩
   simp only [Value.ownBlock]; exact he.symm
end Go.Hb
section
namespace Go.Hb
def fL:List Tx→List Tx
 | []=> []
 | [x]=> [x]
 | x::y::l=>if x=y then fL (y::l) else x::fL (y::l)
theorem NC (x y:Tx):∀ l:List Tx,fL (l++ [x,y])=if x=y then fL (l++ [x]) else fL (l++ [x])++ [y]:=by
 intro l
 induction l with
 | nil=>by_cases h:x=y <;> simp [fL,h]
 | cons a l c=>
   cases l with
   | nil=>by_cases h:a=x <;> by_cases h2:x=y <;> simp_all [fL]
   | cons b l=>
     simp only [List.cons_append] at c ⊢
     rw [fL,c,fL]
     by_cases h:a=b <;> by_cases h2:x=y <;> simp [h,h2]
theorem Dt (x:Tx):∀ l:List Tx,x∈fL l↔x∈l:=by
 intro l
 induction l with
 | nil=>simp [fL]
 | cons a l c=>
   cases l with
   | nil=>simp [fL]
   | cons b l=>
     rw [fL]
     by_cases h:a=b
     · subst h; rw [if_pos rfl,c]; simp
     · rw [if_neg h,dR,c,dR (a:=x) (b:=a)]
section
variable {d:Array Tx}
theorem AM (d:Array Tx) (i:Nat):d.toList.getD i []=d[i]! :=by
 rw [cM,Array.getElem?_toList]
 by_cases h:i < d.size
 · rw [Array.getElem?_eq_getElem h,getElem!_pos d i h]; rfl
 · rw [Array.getElem?_eq_none ab,getElem!_neg d i h]; rfl
theorem rI (d:Array Tx):d.toList.length=d.size:=by simp
theorem wv {i:Nat} (h:i < d.size):d.toList.take (i+1)=d.toList.take i++ [d[i]!]:=by
 rw [kT d.toList i [] (by simpa using h),AM]
theorem uU {q:Nat} (h1:1≤q) (h:q < d.size):fL (d.toList.take<|q+1)=if d[q - 1]! =d[q]! then fL (d.toList.take q) else fL (d.toList.take q)++ [d[q]!]:=by
 obtain ⟨q,rfl⟩:∃ k,q=k+1:=⟨q - 1,ab⟩
 rw [wv h,wv ab,List.append_assoc,Nat.add_sub_cancel]
 exact NC _ _ _
theorem uX {d2:Array Tx} {k j:Nat} (h:d.toList.drop k=d2.toList.drop k) (hk:k≤j):d[j]! =d2[j]! :=by
 have :=congrArg (fun l=>l.getD (j - k) []) h
 simp only [cM,qA,show k+(j - k)=j from by omega] at this
 rw [← AM,← AM]; simpa [cM] using this
theorem TX {k m:Nat} {v:Tx} (h:k < m):(d.setIfInBounds k v).toList.drop m=d.toList.drop m:=by
 rw [tF,List.drop_set,if_pos h]
theorem TY {k:Nat} {v:Tx} (h:k < d.size):(d.setIfInBounds k v).toList.take (k+1)=d.toList.take k++ [v]:=by
 rw [tF,List.set_eq_take_append_cons_drop,if_pos (by simpa using h),qD,dB,Array.length_toList,Nat.min_eq_left ab,Nat.add_sub_cancel_left,eN (by rw [dB]; omega)]
 rfl
theorem zt {h:Array Obj} {a:Option Addr} {i j:Nat} (c:aG h a ((LE str d).drop i)) (hi:i+j < d.size):Hb.aM h (bk a) (fo a+j*1)=some (str d[i+j]!):=by
 refine c.iD ?_
 rw [qA]; exact zy hi
theorem zu {i:Nat} (h:i < d.size):(LE str d).drop i≠[]:=by
 intro e; have :=congrArg List.length e; rw [List.length_drop,oV,List.length_nil] at this; omega
theorem rF {w:World} {B e n cp i:Nat} {a:Option Addr} (h:w.ownsRow B e 1 (.slice a n cp) n (LE str d)):aG w.heap (eh a cp i 1) ((LE str d).drop i):=by
 have :=(aU h).2.drop (cap:=cp) (k:=i) (size:=1)<|by rw [oV]; have h1:=ec h; have h2:=(aU h).1; omega
 rwa [oE] at this
theorem UY (d:Array Tx) (k:Nat):(LE str d).take k=(d.toList.take k).map str:=by simp [LE,List.map_take]
theorem SC {w:World} {B e size n cp:Nat} {a:Option Addr} {xs:List Value} (h:bm w B e size (.slice a n cp) n xs) (hn:0 < n):a≠none:=by
 rintro rfl
 rcases h.2 with ⟨_,h5⟩ | ⟨g,cap,cur,h4,_⟩
 · omega
 · simp at h4
end
theorem Df (d:Array Tx) (B n cp:Nat) (c:Option Addr) (w:World) (hO:w.ownsRow B 9 1 (.slice c n cp) n (LE str d)) (bs:n≤4000000000000):
 ba au 36 (aX [.slice c n cp]) w (fun v w'=> ∃ k,v= .slice c k cp∧k=(fL d.toList).length∧bm w' B 9 1 (.slice c k cp) k ((fL d.toList).map str)∧Md (fun q=>(bD c n cp).ownBlock=some q) w w'):=by
 have bq:=ec hO
 have bo:=(aU hO).1
 refine enter func36 aa ntmps36 aa<|ak fun aF=>aw<|aF<|az fun aO=>ak fun aP=>ao (.slice c n cp)<|p (bM e8 aa aa)<|p (lt aa aa)<|nl<|aP<|cd aa (fun a2=> ?_) fun a2=> ?_
 refine ak fun ap=>ao (.slice c n cp)<|p (bV (.slice c n cp) aa)<|nl<|ap<|rt<|tr<|a6 aa ?_
 have am:fL d.toList=d.toList:=by
  have ax:d.toList.length < 2:=by rw [rI]; omega
  revert ax
  generalize d.toList=l
  intro ax
  match l,ax with
  | [],_=>rfl
  | [x],_=>rfl
 exact ⟨n,aa,by rw [am,rI]; omega,by rw [am]; exact hO,Md.refl _ _⟩
 refine aQ<|aO<|az fun ap=>ak fun aS=>aw<|aS<|aE<|lp (fun Y aB ae=> ∃ (i:Nat),(1≤i∧i≤n∧2≤n)∧(fL (d.toList.take i)=d.toList.take i)∧(Wk w ae)∧(aB 0= .slice c n cp)∧(aB 3=aj i)∧(n - i=Y)) _ ⟨1,ab,(by have h1:=wv (d:=d) (i:=0) ab; rw [h1]; rfl),(Md.refl _ _),aa,aa,aa⟩ ?_
 rintro Y aB ae ⟨i,hi,Z,I,bg,bh,rfl⟩
 refine fx 0 bg<|fx 3 bh<|az fun aT=>ak fun aV=>ao (aj i)<|ao (.slice c n cp)<|p (bM e8 aa aa)<|p (lt aa aa)<|nl<|aV<|cd aa (fun a0=> ?_) fun a0=> ?_
 refine aQ<|aT<|az fun aq=>aE<|az fun aW=> ?_
 have C:(fun w'=>Wk ae w') ae.drew:=(Md.refl _ _).drew
 refine cD (fun w'=>Wk ae w') aa wide C<|bT 0 aa (.slice c n cp) C<|bT 1 aa (aj i) C<|aR 2 aa (fun _ _=>a7 c8 aa aa ab<|aG.ok ((aU hO).2)<|bL ab) C<|aR 3 aa (fun w' J=>ld cB aa<|Wk.aM J<|cE (i:=i) (aU<|a8 hO I).2 ab) C<|bT 4 aa (.slice c n cp) C<|bT 5 aa (aj i) C<|aR 6 aa (fun _ _=>c6 ((i - 1:Nat):Int) aa aa<|bf ab ab) C<|aR 7 aa (fun _ _=>a7 c8 aa aa ab<|aG.ok ((aU hO).2)<|bL ab) C<|aR 8 aa (fun w' J=>ld cB aa<|Wk.aM J<|cE (i:=i - 1) (aU<|a8 hO I).2 ab) C<|aR 9 aa (fun _ _=>iS aa aa) C<|hn ag<|aW<|cd aa (fun ay=> ?_) fun ay=> ?_
 have heq:d[i - 1]! =d[i]! :=ay.symm
 refine ak fun aH=>ao (.slice c n cp)<|ao (aj i)<|p (qi c8 aa aa ab)<|aw<|aH<|az fun aI=>ak fun aJ=>aw<|aJ<|aE<|lp (fun Y ah V=> ∃ (k i2:Nat) (E:Array Tx),(1≤k∧k < i+i2∧1≤i2∧i2≤n - i)∧(E.toList.drop k=d.toList.drop k)∧(E.toList.take k=fL (d.toList.take<|i+i2))∧(V.ownsRow B 9 1 (.slice c n cp) n<|LE str E)∧(Md (fun q=>(bD c n cp).ownBlock=some q) w V)∧(ah 0= .slice c n cp)∧(ah 3=aj k)∧(ah 4= .slice (eh c cp i 1) (n - i) (cp - i))∧(ah 5=aj i2)∧(n - i2=Y)) _ ⟨i,1,d,ab,aa,(by rw [uU ab ab,if_pos heq,Z]),(a8 hO<|Md.trans I (Md.refl _ _).drew),((Md.trans I (Md.refl _ _).drew).mono fun _ _ h=>h.elim),aa,aa,aa,aa,aa⟩ ?_
 rintro Y ah V ⟨k,i2,E,hk,O,ac,G,av,bi,bj,bk,bl,rfl⟩
 refine fx 0 bi<|fx 3 bj<|fx 4 bk<|fx 5 bl ?_
 have bp:=ec G
 refine az fun aK=>ak fun aL=>ao (aj i2)<|ao (.slice (eh c cp i 1) (n - i)<|cp - i)<|p (bM e8 aa aa)<|p (lt aa aa)<|nl<|aL<|cd aa (fun a1=> ?_) fun a1=> ?_
 refine aQ<|aK<|az fun ai=>aE<|az fun an=> ?_
 have A:(fun w'=>Wk V w') V.drew:=(Md.refl _ _).drew
 refine cD (fun w'=>Wk V w') aa wide A<|bT 0 aa (.slice (eh c cp i 1) (n - i)<|cp - i) A<|bT 1 aa (aj i2) A<|aR 2 aa (fun _ _=>a7 c8 aa aa ab<|aG.ok (rF G)<|zu ab) A<|aR 3 aa (fun w' J=>ld cB aa<|Wk.aM J<|zt (j:=i2) (rF G) ab) A<|bT 4 aa (.slice (eh c cp i 1) (n - i)<|cp - i) A<|bT 5 aa (aj i2) A<|aR 6 aa (fun _ _=>c6 ((i2 - 1:Nat):Int) aa aa<|bf ab ab) A<|aR 7 aa (fun _ _=>a7 c8 aa aa ab<|aG.ok (rF G)<|zu ab) A<|aR 8 aa (fun w' J=>ld cB aa<|Wk.aM J<|zt (j:=i2 - 1) (rF G) ab) A<|aR 9 aa (fun _ _=>rv aa aa) A<|hn ag<|an<|cd aa (fun aA=> ?_) fun aA=> ?_
 have al:=a8 G A
 have g1:=uX O (show k≤i+i2 by omega)
 have g2:=uX O (show k≤i+(i2 - 1) by omega)
 have a5:¬d[i+i2 - 1]! =d[i+i2]! :=by rw [show i+i2 - 1=i+(i2 - 1) by omega,← g1,← g2]; exact fun h=>aA h.symm
 exact ak fun aN=>ao (.slice c n cp)<|ao (aj k)<|ao (.slice (eh c cp i 1) (n - i)<|cp - i)<|ao (aj i2)<|p (a7 c8 aa aa ab<|aG.ok (rF al)<|zu ab)<|p (ld cB aa<|zt (j:=i2) (rF al) ab)<|p (a7 c8 aa aa ab<|aG.ok ((aU al).2)<|bL ab)<|e<|e7 (u:=E[i+i2]!) (k) al oP aa aa aa ab fun bt aY bb=>nl<|aN<|rg aa<|ao (aj k)<|p (bG ((k+1:Nat):Int) aa aa<|bf ab ab)<|p aC<|nl<|bn<|ai<|rg aa<|ao (aj i2)<|p (bG ((i2+1:Nat):Int) aa aa<|bf ab ab)<|p aC<|nl<|tn<|⟨_,ab,k+1,i2+1,E.setIfInBounds k E[i+i2]!,ab,(by rw [TX ab]; have h3:=congrArg (List.drop 1) O; rwa [tR,tR] at h3),(by rw [TY ab,ac,show i+(i2+1)=i+i2+1 from aa,uU ab ab,if_neg a5,g1]),bb,(Md.trans av<|Md.trans (A.mono fun _ _ h=>h.elim) aY),aa,aa,aa,aa,aa⟩
 have g1:=uX O (show k≤i+i2 by omega)
 have g2:=uX O (show k≤i+(i2 - 1) by omega)
 have a3:d[i+i2 - 1]! =d[i+i2]! :=by rw [show i+i2 - 1=i+(i2 - 1) by omega,← g1,← g2]; exact (Classical.not_not.1 aA).symm
 exact aQ<|bn<|ai<|rg aa<|ao (aj i2)<|p (bG ((i2+1:Nat):Int) aa aa<|bf ab ab)<|p aC<|nl<|tn<|⟨_,ab,k,i2+1,E,ab,O,(by rw [ac,show i+(i2+1)=i+i2+1 from aa,uU ab ab,if_pos a3]),(a8 G (Md.refl _ _).drew),av.drew,aa,aa,aa,aa,aa⟩
 refine ext<|bc<|bc<|be<|aI<|ak fun ai=>ao (.slice c n cp)<|ao (aj k)<|p (qi c8 aa aa ab)<|e<|C7 (k:=k) e8 Wm aa G aa aa ab fun bu aZ bd=>nl<|ai<|ak fun an=>ao (.slice c n cp)<|ao (aj k)<|p (qh c8 aa aa ab)<|aw<|an<|rt<|br<|tr<|tr<|br<|tr<|a6 aa ?_
 have am:d.toList.take (i+i2)=d.toList:=eN<|by rw [rI]; omega
 rw [am] at ac
 have a4:k=(fL d.toList).length:=by rw [← ac,dB,rI]; omega
 refine ⟨k,aa,a4,?_,Md.trans av aZ⟩
 have aD:=Ag bd (show k≤n by omega)<|SC hO ab
 rw [oE,qD,eN (l:=(LE str E).take k) (by rw [dB]; omega),dB,oV,show k - min k E.size=0 by omega,List.take_zero,List.append_nil,UY,ac] at aD
 exact aD
 have a9:¬d[i - 1]! =d[i]! :=fun h=>ay h.symm
 exact aQ<|bn<|aq<|rg aa<|ao (aj i)<|p (ad aa aa<|cH ab)<|p aC<|nl<|tn<|⟨_,ab,i+1,ab,(by rw [uU ab ab,if_neg a9,Z,wv ab]),(Md.trans I (Md.refl _ _).drew),aa,aa,aa⟩
 refine ext<|bc<|bc<|be<|ap<|ak fun aq=>ao (.slice c n cp)<|p (bV (.slice c n cp) aa)<|nl<|aq<|rt<|a6 aa ?_
 rw [show d.toList.take i=d.toList from eN (by rw [rI]; omega)] at Z
 exact ⟨n,aa,by rw [Z,rI]; omega,by rw [Z]; exact a8 hO I,I.mono fun _ _ h=>h.elim⟩
end Go.Hb
end
section
namespace Go.Hb
noncomputable def eo (F:aB) (xs:List bh) (l:List bF):List Tx:=(l.filter fun d=> !gq F xs d.ca 1).map fun d=>gQ xs d.ca
section
variable {F:aB} {xs:List bh} {l:List bF} {i:Nat} {d:bF}
theorem UA (h:l[i]? =some d) (hm:gq F xs d.ca 1=false):eo F xs (l.take<|i+1)=eo F xs (l.take i)++ [gQ xs d.ca]:=by
 unfold eo
 rw [ud,h,Ir,gA]
 simp [hm]
theorem wj (h:l[i]? =some d) (hm:gq F xs d.ca 1=true):eo F xs (l.take<|i+1)=eo F xs (l.take i):=by
 unfold eo
 rw [ud,h,Ir,gA]
 simp [hm]
theorem AH (F:aB) (xs:List bh) (l:List bF):(eo F xs l).length≤l.length:=by unfold eo; rw [List.length_map]; exact mT _ _
theorem FD {s:Tx} :s∈eo F xs l↔∃ d∈l,gq F xs d.ca 1=false∧gQ xs d.ca=s:=by
 unfold eo
 rw [List.mem_map]
 constructor
 · rintro ⟨d,hd,rfl⟩
   have h:=pB.1 hd
   exact ⟨d,h.1,by simpa using h.2,aa⟩
 · rintro ⟨d,hd,hm,rfl⟩
   exact ⟨d,pB.2 ⟨hd,by rw [hm]; rfl⟩,aa⟩
end
def wh (l:List Tx):List Tx:=fL<|l.mergeSort fun x y=>decide (x≤y)
theorem zz (x y:Tx):decide (x≤y)= !iM y x:=by
 have h:iM y x=decide (y < x):=Go.Proofs.bytesLess_eq y x
 rw [h]
 by_cases c:y < x
 · rw [decide_eq_true c,decide_eq_false (fun h=>h c)]; rfl
 · rw [decide_eq_false c,decide_eq_true (show x≤y from c)]; rfl
theorem NB:∀ l:List Tx,(l.Pairwise fun a b=>iM b a=false)→(fL l).Pairwise fun a b=>iM a b=true :=by
 intro l
 induction l with
 | nil=>intro _; exact List.Pairwise.nil
 | cons a l A=>
   intro h
   cases l with
   | nil=>simp [fL]
   | cons b l=>
     rw [kZ] at h
     rw [fL]
     by_cases h1:a=b
     · rw [if_pos h1]; exact A h.2
     · rw [if_neg h1,kZ]
       refine ⟨fun y c=> ?_,A h.2⟩
       have c:=(Dt y _).1 c
       have h2:iM a b=true :=by
        rcases tp a b with h3 | h3 | h3
        · exact h3
        · exact absurd h3 h1
        · rw [h.1 b (by simp)] at h3; cases h3
       rcases dR.1 c with rfl | c
       · exact h2
       · have h4:=(kZ.1 h.2).1 y c
         rcases tp b y with h5 | h5 | h5
         · exact Aw h2 h5
         · exact h5 ▸ h2
         · rw [h4] at h5; cases h5
theorem Ur (l:List Tx):(wh l).Pairwise fun a b=>iM a b=true :=by
 refine NB _ ?_
 have h:=List.pairwise_mergeSort (le:=fun x y:Tx=>decide (x≤y)) (fun a b c h1 h2=> ?_) (fun a b=> ?_) l
 · exact h.imp fun {a b} A=>by rw [zz] at A; simpa using A
 · simp only [zz,Bool.not_eq_true'] at h1 h2 ⊢
   rcases tp a b with h3 | rfl | h3
   · rcases tp b c with h4 | rfl | h4
     · exact Av<|Aw h3 h4
     · exact h1
     · rw [h2] at h4; cases h4
   · exact h2
   · rw [h1] at h3; cases h3
 · simp only [zz]
   rcases tp a b with h3 | rfl | h3
   · rw [Av h3]; rfl
   · rw [GI]; rfl
   · rw [Av h3]; simp
theorem GO {l:List Tx} {x:Tx} :x∈wh l↔x∈l:=by unfold wh; rw [Dt]; exact (List.mergeSort_perm l _).mem_iff
theorem Q4 (l:List Tx):LE str l.toArray=l.map str:=by simp [LE]
noncomputable def ep (F:aB) (xs:List bh) (w:Tx):List Tx:=wh<|eo F xs<|bP F xs w
theorem GU (B tb:Nat) (U:eS) (F:aB) (xs:List bh) (wd:Tx) (w:World) (aI:eA w B tb U F xs) (V:eJ F xs) (aH:F.rules.length≤1024) (bY:wd.length≤2097152):
 ba au 19 (aX [aV tb,str wd]) w (fun v w'=>bm w' w.heap.size 9 1 v (ep F xs wd).length ((ep F xs wd).map str)∧Wk w w'):=by
 have bH:=xZ aH V.xl
 refine enter func19 aa ntmps19 aa<|ak fun aP=>aw<|aP<|ak fun aS=>p aC<|nl<|aS<|az fun aT=>ak fun aW=>p mv<|p mv<|e<|cl qQ (Ar B tb U F xs wd w aI V aH bY) aa fun v12 G bA=> ?_
 obtain ⟨am,ae⟩:=bA
 obtain ⟨a1,a9,rfl⟩:=cQ am
 have b7:(bP F xs wd).length≤2209777459200:=dZ (mT _ _) bH
 have aJ:=aI.wk ae
 have ce:=ae.size
 refine p (bM l2 aa aa)<|p mv<|nl<|aW<|aE<|lp (fun ax J I=> ∃ (i:Nat) (c:Option Addr) (A:Nat),(i≤(bP F xs wd).length)∧(Wk G I)∧(bm I G.heap.size 9 1 (.slice c (eo F xs<|(bP F xs wd).take<|i).length A) (eo F xs<|(bP F xs wd).take<|i).length<|(eo F xs<|(bP F xs wd).take<|i).map str)∧(J 0=aV tb)∧(J 5= .slice c (eo F xs<|(bP F xs wd).take<|i).length A)∧(J 12= .slice a1 (bP F xs wd).length a9)∧(J 13=aj ((bP F xs wd).length))∧(J 14=aj i)∧((bP F xs wd).length - i=ax)) _ ⟨0,none,0,ab,(Md.refl _ _),(dM _ _ _ _),aa,(by first | rfl | (rw [wj hd E]; rfl)),aa,aa,aa,aa⟩ ?_
 rintro ax J I ⟨i,c,A,hi,C,aN,bT,bX,bU,bV,bW,rfl⟩
 refine fx 0 bT<|fx 5 bX<|fx 12 bU<|fx 13 bV<|fx 14 bW ?_
 have b9:(eo F xs<|(bP F xs wd).take<|i).length≤(bP F xs wd).length:=dZ (AH ..)<|by rw [dB]; omega
 refine ak fun aY=>p (lt aa aa)<|nl<|aY<|az fun aZ=>cd aa (fun bL=> ?_) fun bL=> ?_
 refine aQ<|aZ<|az fun O=>aE<|az fun ad=> ?_
 obtain ⟨d,hd⟩:∃ d,(bP F xs wd)[i]? =some d:=⟨_,bZ ab⟩
 refine rg aa<|p (a7 pZ aa aa ab<|aG.ok ((aU am).2.wk C)<|sG ab)<|p (cK k6 aa (aa)<|gY (f:=dz) (m:=5) (fun _=>rfl) ((aU am).2.wk C) hd)<|e<|al xa fun a4 cs ah aD bk=> ?_
 have cm:=aD.size
 refine e<|cG uT aa aa aa aa (bk) (by simp) fun aq bw bi=> ?_
 have ag:Wk I aq:=aD.md.trans' bw fun q bS h=>by omega
 have ah:bE aq.heap a4 (dz d):=bi
 have aA:=C.trans ag
 have cj:=ag.size
 refine nl<|ad<|ak fun a0=>ao (aV tb)<|p (fa lj aa)<|p (ld bR aa<|ah.bp 1)<|e<|cl pT (q4 B tb U F xs (d.ca:Nat) aq (aJ.wk aA) V) aa fun v22 b1 bB=> ?_
 obtain ⟨⟨a22,rfl,bN⟩,hE22⟩:=bB
 obtain ⟨a2,bb,rfl⟩:=cQ bN
 have cf:=hE22.size
 refine p mv<|p (xt aa aa)<|p (xt aa aa)<|e<|al nH fun a5 ct aK aF bl=> ?_
 have cn:=aF.size
 refine e<|cG iR aa aa aa aa (bl) (by simp) fun av bx bj=> ?_
 have bs:Wk b1 av:=aF.md.trans' bx fun q bS h=>by omega
 have aK:bE av.heap a5 [str (gQ xs d.ca),.slice a2 (flagsOf xs d.ca).length bb]:=bj
 have Y:=hE22.trans bs
 have bI:=Wk.B Y ah
 have ck:=Y.size
 refine aw<|a0<|ak fun aR=>ao (aV tb)<|p (fa lj aa)<|p (ld bR aa<|bI.bp 1)<|e<|cl uL (vA B tb U F xs (d.ca:Nat) 1 av (aJ.wk<|aA.trans Y) V) aa fun v28 co bC=> ?_
 obtain ⟨rfl,ay⟩:=bC
 have Z:=(ag.trans Y).trans ay
 have bJ:=Wk.B ay aK
 have an:=a8 aN Z
 have cg:=Z.size
 refine p (no aa)<|nl<|aR<|cb aa (fun ai=> ?_) fun ai=> ?_
 have E:gq F xs d.ca 1=false :=by simpa using ai
 refine rg aa<|ao (.slice c (eo F xs<|(bP F xs wd).take<|i).length A)<|p (fa sV aa)<|p (ld cB aa<|bJ.bp 0)<|e<|kG jP aa aa fun b4 cp b5 ac bg=> ?_
 have ch:=ac.size
 refine e<|ap jP (a8 an ac.md) aa (by have :=C.size; omega) aa (aG.fO bg) (aa) (aa) ab ab fun b0 b2 bO bt ci b6=> ?_
 have bo:=Wk.own ((C.trans Z).trans ac.md) (a8 an ac.md) bt<|cw _
 have aL:bm b2 G.heap.size 9 1 b0 (eo F xs<|(bP F xs wd).take<|i+1).length ((eo F xs<|(bP F xs wd).take<|i+1).map str):=by rw [UA hd E,bK,gA]; exact bO
 obtain ⟨a3,bd,rfl⟩:=cQ aL
 exact p aC<|nl<|bn<|O<|rg aa<|p (bG ((i+1:Nat):Int) aa aa<|bf ab ab)<|p mv<|nl<|tn<|⟨_,ab,i+1,a3,bd,ab,bo,aL,aa,(by first | rfl | (rw [wj hd E]; rfl)),aa,aa,aa,aa⟩
 have E:gq F xs d.ca 1=true :=by simpa using ai
 exact aQ<|bn<|O<|rg aa<|p (bG ((i+1:Nat):Int) aa aa<|bf ab ab)<|p mv<|nl<|tn<|⟨_,ab,i+1,c,A,ab,(C.trans Z),(by rw [wj hd E]; exact an),aa,(by first | rfl | (rw [wj hd E]; rfl)),aa,aa,aa,aa⟩
 refine ext<|bc<|bc<|be<|aT<|az fun O=> ?_
 have bz:(eo F xs<|(bP F xs wd).take<|i)=(eo F xs<|bP F xs wd):=by rw [eN ab]
 have aO:bm I G.heap.size 9 1 (.slice c (eo F xs<|(bP F xs wd).take<|i).length A) (eo F xs<|(bP F xs wd).take<|i).length ((eo F xs<|bP F xs wd).map str):=by
  have h:=aN
  rw [show (eo F xs<|(bP F xs wd).take<|i).map str=(eo F xs<|bP F xs wd).map str from congrArg (List.map str) bz] at h
  exact h
 have cc:(eo F xs<|bP F xs wd).length≤(bP F xs wd).length:=AH ..
 refine rg aa<|ao (.slice c (eo F xs<|(bP F xs wd).take<|i).length A)<|e<|cl CK (GL G.heap.size (eo F xs<|(bP F xs wd).take<|i).length (.slice c (eo F xs<|(bP F xs wd).take<|i).length A) (eo F xs<|bP F xs wd) I aO ab) aa fun v37 b3 bD=> ?_
 obtain ⟨rfl,aM,bu⟩:=bD
 have bq:=Wk.own C aO bu<|cw _
 have b8:=BD (le:=fun x y:Tx=>decide (x≤y))<|eo F xs<|bP F xs wd
 refine nl<|O<|ak fun ad=>ao (.slice c (eo F xs<|(bP F xs wd).take<|i).length A)<|e<|cl CL (Df ((eo F xs<|bP F xs wd).mergeSort fun x y=>decide (x≤y)).toArray G.heap.size (eo F xs<|(bP F xs wd).take<|i).length A c b3 (by rw [Q4]; exact aM) ab) aa fun v39 cq bF=> ?_
 obtain ⟨k,rfl,hk,bQ,bv⟩:=bF
 have br:=Wk.own bq aM bv<|cw _
 exact aw<|ad<|rt<|a6 aa<|⟨by rw [← show k=(ep F xs wd).length from hk]; exact fk bQ ab,ae.trans br⟩
theorem UG (wd:Tx) (w:World):
 ba au 19 (aX [.pointer none,str wd]) w (fun v w'=>bm w' w.heap.size 9 1 v 0 []∧Wk w w'):=by
 refine enter func19 aa ntmps19 aa<|ak fun G=>aw<|G<|ak fun I=>p aC<|nl<|I<|az fun J=>ak fun O=>p mv<|p mv<|e<|cl qQ (Aq wd w) aa fun v12 ax aj=> ?_
 obtain ⟨rfl,ac⟩:=aj
 refine p (bM l2 aa aa)<|p mv<|nl<|O<|aE<|lp (fun C A c=>(Wk ax c)∧(A 0= .pointer none)∧(A 5= .slice none 0 0)∧(A 13= .int .i64 0)∧(A 14= .int .i64 0)∧(0=C)) _ ⟨(Md.refl _ _),aa,aa,aa,aa,aa⟩ ?_
 rintro C A c ⟨ag,an,av,ap,aq,rfl⟩
 refine fx 0 an<|fx 5 av<|fx 13 ap<|fx 14 aq<|ak fun V=>p (lt aa aa)<|nl<|V<|az fun aA=>cd aa (fun h=>absurd h ab) fun aB=>ext<|bc<|bc<|be<|J<|ak fun Y=>ao (.slice none 0 0)<|e<|cl CK (GL c.heap.size 0 (.slice none 0 0) [] c (dM _ _ _ _) ay) aa fun v37 E al=> ?_
 obtain ⟨rfl,aD,ah⟩:=al
 have ad:Wk c E:=ah.mono fun k _ h=>by cases h
 refine nl<|Y<|ak fun Z=>ao (.slice none 0 0)<|e<|cl CL (Df #[] c.heap.size 0 0 none E (dM _ _ _ _) ay) aa fun v39 aG am=> ?_
 obtain ⟨k,rfl,hk,aF,ai⟩:=am
 have ae:=ad.trans<|ai.mono fun k _ h=>by cases h
 obtain rfl :k=0:=hk
 exact aw<|Z<|rt<|a6 aa<|⟨dM _ _ _ _,(ac.trans ag).trans ae⟩
end Go.Hb
end
namespace Go.Hb
theorem Qu (f:Value) (w:World):
 ba au 113 (aX [.slice none 0 0,f]) w (fun v w'=>v= .int .i64 (-1)∧Wk w w'):=by
 refine enter func113 aa ntmps113 aa<|ak fun E=>aw<|E<|az fun G=>ak fun I=>p mv<|p (bM l2 aa aa)<|p mv<|nl<|I<|aE<|lp (fun A c C=>(Wk w C)∧(c 7= .int .i64 0)∧(c 8= .int .i64 0)∧(0=A)) _ ⟨(Md.refl _ _),aa,aa,aa⟩ ?_
 rintro A c C ⟨V,Y,Z,rfl⟩
 exact fx 7 Y<|fx 8 Z<|ak fun J=>p (lt aa aa)<|nl<|J<|az fun ac=>cd aa (fun h=>absurd h ab) fun ad=>ext<|bc<|bc<|be<|G<|ak fun O=>p aC<|nl<|O<|rt<|a6 aa<|⟨aa,V⟩
theorem M3 (f:Value) (w:World):
 ba au 63 (aX [.slice none 0 0,f]) w (fun v w'=>v= .bool false∧Wk w w'):=by
 refine enter func63 aa ntmps63 aa<|ak fun c=>aw<|c<|ak fun A=>p mv<|p mv<|e<|cl Ch (Qu f w) aa fun G I E=> ?_
 obtain ⟨rfl,C⟩:=E
 exact p (ge aa aa)<|aw<|A<|rt<|a6 aa<|⟨aa,C⟩
theorem Dd (wd:Tx) (fb:Bool) (w:World):
 ba au 33 (aX [.pointer none,str wd,.bool fb]) w (fun v w'=>v= .bool false∧Wk w w'):=by
 refine enter func33 aa ntmps33 aa<|ak fun A=>e<|sw aa aa fun E al ah Z I=>e<|sw aa aa fun G ad ai c ag=> ?_
 have J:=Wk.aE c.md I
 have V:=Z.md.trans c.md
 refine aw<|A<|ak fun C=>p (ld sr aa<|(bj J).trans aa)<|p mv<|e<|cl qQ (Aq wd ad) aa fun v9 ae ac=> ?_
 obtain ⟨rfl,Y⟩:=ac
 refine p zL<|e<|cl CP (M3 (.func (.func 64) #[] #[aV E,aV G]) ae) aa fun v11 aj ab=> ?_
 obtain ⟨rfl,O⟩:=ab
 exact aw<|C<|rt<|a6 aa<|⟨aa,(V.trans Y).trans O⟩
theorem BX (wd:Tx) (w:World):
 ba au 14 (aX [.pointer none,str wd]) w (fun v w'=>v= .bool false∧Wk w w'):=by
 refine enter func14 aa ntmps14 aa<|ak fun c=>aw<|c<|ak fun A=>p mv<|p mv<|e<|cl uM (Dd wd false w) aa fun G I E=> ?_
 obtain ⟨rfl,C⟩:=E
 exact aw<|A<|rt<|a6 aa<|⟨aa,C⟩
theorem Pw (wd:Tx) (w:World):
 ba au 15 (aX [.pointer none,str wd]) w (fun v w'=>v= .bool false∧Wk w w'):=by
 refine enter func15 aa ntmps15 aa<|ak fun c=>aw<|c<|ak fun A=>p mv<|p mv<|e<|cl uM (Dd wd true w) aa fun G I E=> ?_
 obtain ⟨rfl,C⟩:=E
 exact aw<|A<|rt<|a6 aa<|⟨aa,C⟩
theorem Jf (wd:Tx) (w:World):
 ba au 16 (aX [.pointer none,str wd]) w (fun v w'=>v= .bool false∧Wk w w'):=by
 refine enter func16 aa ntmps16 aa<|ak fun c=>aw<|c<|ak fun A=>p mv<|p mv<|e<|cl uH (BX wd w) aa fun G I E=> ?_
 obtain ⟨rfl,C⟩:=E
 exact p mv<|aJ aa<|aJ aa<|aJ aa<|aJ aa<|p (bH aa)<|p aC<|nl<|A<|rt<|a6 aa<|⟨aa,C⟩
theorem Qc {eof ln:Nat} {F F':aB} {hs:List Tx} {rows rows':List Rw} {row:List Tx} (c:bX eof F hs rows ln row= .ok (F',rows')):F'.rules=F.rules∨F'.rules.length≤1024:=by
 unfold bX at c
 split at c
 · unfold jt at c; split at c <;> cases c; exact .inl rfl
 split at c
 · unfold ke at c
   split at c
   · cases c
   · split at c <;> cases c; exact .inl rfl
 split at c
 · unfold l0 at c; split at c <;> cases c; exact .inl rfl
 split at c
 · unfold l1 at c; split at c <;> cases c; exact .inl rfl
 split at c
 · unfold kf at c
   split at c
   · cases c
   · split at c <;> cases c; exact .inl rfl
 split at c
 · unfold kh at c
   split at c
   · cases c
   · split at c <;> cases c; exact .inl rfl
 split at c
 · unfold jG at c
   split at c
   · cases c
   · split at c
     · cases c
     · split at c <;> cases c; exact .inl rfl
 unfold gP at c
 split at c
 · cases c
 split at c
 · cases c
 split at c
 · cases c
 split at c
 · cases c
 split at c
 · cases c
 rename_i r A
 cases c
 have h1:=(sY _ _ _ A).2.1
 refine .inr ?_
 rw [bK]
 omega
theorem Jq {s:Tx} {F:aB} (h:fF s= .ok F):F.rules.length≤1024:=by
 refine xR (Q:=fun F=>F.rules.length≤1024) (Nat.zero_le _) ?_ h
 intro eof ln F F' hs rows rows' row c A
 rcases Qc A with h | h
 · rw [h]; exact c
 · exact h
theorem UX {a t:Tx} {T:aB×List bh} (h:kS a t=some T):T.1.rules.length≤1024:=by
 unfold kS at h
 split at h
 · cases h
 · rename_i F c
   split at h
   · cases h
   · cases h; exact Jq c
theorem VL:kS rN wT=some (fC,gS):=GX VB VF
theorem Hj:k8 fC gS gS.length= [⟨[103,97,115],0,-1,-1,-1⟩,⟨[103,97],1,-1,-1,-1⟩,⟨[103,97,115],1,0,-1,-1⟩]:=by
 unfold k8
 rw [show List.range gS.length= [0,1] by rfl,jg,jg,List.flatMap_nil,VD,VE]
 rfl
theorem Hk:bP fC gS [103,97,115]=wU:=by unfold bP; rw [Hj]; decide
theorem VG:bP fC gS [103]= []:=by unfold bP; rw [Hj]; decide
theorem VM:iy fC gS [103,97,115] 9=wU:=by unfold iy; rw [Hk]; rfl
theorem VA:(jK fC gS [103,97,115] false && !jK fC gS [103,97,115] true)=true :=by unfold jK; rw [Hk]; decide
theorem VH:(jK fC gS [103] false && !jK fC gS [103] true)=false :=by unfold jK; rw [VG]; rfl
theorem Ho (w:World):
 ba au 10 (aX []) w (fun v w'=>v= .bool true∧Wk w w'):=by
 refine enter func10 aa ntmps10 aa<|ak fun ad=>aw<|ad<|ak fun ae=>e<|cl qP (AO rN wT w ay ay) aa fun v5 az ao=> ?_
 obtain ⟨⟨pp,aO,aP,aQ,rfl,ac⟩,hE5⟩:=ao
 rw [VL] at ac
 obtain ⟨B,tb,U,aF,rfl,aq,A⟩:=ac
 refine p mv<|p (xt aa aa)<|p (xt aa aa)<|e<|al nG fun aB aS aH C ai=> ?_
 have aN:=C.size
 refine p aC<|e<|cG iF aa aa aa aa (ai) (by simp) fun G O aE=> ?_
 have aj:Wk w G:=(hE5.trans C.md).trans' O fun q av h=>by have :=hE5.size; omega
 have am:Wk az G:=C.md.trans' O fun q av h=>by omega
 have ab:=aq.wk am
 have E:fC.rules.length≤1024:=ay
 refine nl<|ae<|ak fun ag=>p mv<|e<|cl ko (Hp B tb U fC gS [103,97,115] 9 G ab A E ay) aa fun v9 aA ap=> ?_
 obtain ⟨c,J⟩:=ap
 rw [VM] at c
 obtain ⟨a9,aD,rfl⟩:=cQ c
 have Z:=ab.wk J
 refine aw<|ag<|ak fun ah=>p mv<|p (bM l2 aa aa)<|p (cg aa aa)<|p mv<|gs (t:=13) aa (fun aI=> ?_) fun h=>absurd aa h
 refine aK aa mv<|aK aa (a7 pZ aa aa ay<|aG.ok (rB c)<|sG ay)<|aK aa (fa lj aa)<|aK aa (ld bR aa<|gY (f:=dz) (m:=5) (i:=0) (fun _=>rfl) (rB c) (show wU[0]? =some ⟨[103,97,115],0,-1,-1,-1⟩ from aa) 1 ay)<|aK aa (cg aa aa)<|p (bN aa)<|p mv<|gs (t:=20) aa (fun aJ=> ?_) fun h=>absurd aa h
 refine aK aa mv<|aK aa (a7 pZ aa aa ay<|aG.ok (rB c)<|sG ay)<|aK aa (cK k6 aa (aa)<|gY (f:=dz) (m:=5) (i:=1) (fun _=>rfl) (rB c) (show wU[1]? =some ⟨[103,97,115],1,0,-1,-1⟩ from aa))<|aK aa (c7 (ps:= [(0,str [103,97,115]),(1,.int .i64 1),(2,.int .i64 0),(3,.int .i64 (-1)),(4,.int .i64 (-1))]) (L:= [str [103,97,115],.int .i64 1,.int .i64 0,.int .i64 (-1),.int .i64 (-1)]) AG aa<|aa)<|aK aa (OA aa aa)<|p (bN aa)<|p mv<|gs (t:=27) aa (fun aL=> ?_) fun h=>absurd ⟨aa,aa,aa,aa,aa⟩ h
 refine aK aa mv<|eg aa aa aa<|cl uI (xP B tb U fC gS [103,97,115] aA Z A E ay) aa fun aR ax V=> ?_
 rw [VA] at V
 obtain ⟨rfl,I⟩:=V
 refine p (bN aa)<|p mv<|gb (t:=31) aa (fun aM=> ?_) fun h=>absurd ((aa).symm.trans h) dA
 refine aK aa mv<|eg aa aa aa<|cl uI (xP B tb U fC gS [103] ax (Z.wk I) A E ay) aa fun v33 aT Y=> ?_
 rw [VH] at Y
 obtain ⟨rfl,an⟩:=Y
 exact aK aa (no aa)<|p (bN aa)<|aw<|ah<|rt<|a6 aa<|⟨aa,((aj.trans J).trans I).trans an⟩
end Go.Hb
section
namespace Go.Hb
open Go.Hb.uj
theorem VO {F:aB} {xs:List bh} {w:Tx} {m:Nat} (hm:m≤1000):(iy F xs w (m:Int)).length≤m:=by
 unfold iy; rw [dB]; omega
end Go.Hb
end
section
namespace Go.Hb
open Go.Hb.uj
theorem Qn {S:List Tx} {s:Tx} {k:Nat} (h:decide (s∈S.take k)=true):true =decide (s∈S.take (k+1)):=by
 refine (decide_eq_true ?_).symm
 rw [ud]; exact List.mem_append_left _<|of_decide_eq_true h
theorem Qm {S:List Tx} {s u:Tx} {k:Nat} (h:decide (s∈S.take k)=false) (hu:S[k]? =some u):decide (u=s)=decide (s∈S.take (k+1)):=by
 refine decide_eq_decide.2 ?_
 rw [ud,hu]
 constructor
 · rintro rfl; exact List.mem_append_right _<|by simp
 · intro hm
   rcases List.mem_append.1 hm with hm | hm
   · exact absurd hm<|of_decide_eq_false h
   · simpa using (show s=u by simpa using hm).symm
end Go.Hb
end
section
namespace Go.Hb
noncomputable def gD (F:aB) (xs:List bh) (l:List bF) (fb:Bool) (i:Nat):Bool:=(l.take i).any fun d=>decide (gq F xs d.ca 1=fb)
section
variable {F:aB} {xs:List bh} {l:List bF} {fb:Bool} {i:Nat} {d:bF}
theorem EE (F:aB) (xs:List bh) (l:List bF) (fb:Bool):false =gD F xs l fb 0:=by unfold gD; simp
theorem EC (h:l[i]? =some d):gD F xs l fb (i+1)=(gD F xs l fb i || decide (gq F xs d.ca 1=fb)):=by unfold gD; rw [ud,h,List.any_append]; simp
theorem ED (h:l[i]? =some d) (hm:gq F xs d.ca 1=fb):true =gD F xs l fb (i+1):=by rw [EC h,decide_eq_true hm,Bool.or_true]
theorem EB (h:l[i]? =some d) (hm:¬gq F xs d.ca 1=fb):gD F xs l fb i=gD F xs l fb (i+1):=by rw [EC h,decide_eq_false hm,Bool.or_false]
end
theorem EA {F:aB} {xs:List bh} {w:Tx} {fb:Bool} {i:Nat} (h:i=(bP F xs w).length):jK F xs w fb=gD F xs (bP F xs w) fb i:=by unfold jK gD; rw [h,IM]
theorem VP {F:aB} {xs:List bh} {w:Tx} (h:¬((iy F xs w 1000).length:Int)=1000):iy F xs w 1000=bP F xs w:=by
 unfold iy at*
 rw [dB] at h
 exact eN ab
theorem GQ {F:aB} {xs:List bh} {w:Tx} {d:bF} (h:d∈bP F xs w) (hm:gq F xs d.ca 1=false):gQ xs d.ca∈ep F xs w:=GO.2<|FD.2 ⟨d,h,hm,rfl⟩
theorem UC (F:aB) (xs:List bh) (w:Tx):decide (((ep F xs w).length:Int) > 0)=jK F xs w false :=by
 rw [Bool.eq_iff_iff,decide_eq_true_iff]
 unfold jK
 rw [List.any_eq_true]
 constructor
 · intro h
   obtain ⟨s,hs⟩:∃ s,s∈ep F xs w:=by
    cases hq:ep F xs w with
    | nil=>rw [hq] at h; simp at h
    | cons a l=>exact ⟨a,List.mem_cons_self ..⟩
   obtain ⟨d,hd,hm,_⟩:=FD.1<|GO.1 hs
   exact ⟨d,hd,decide_eq_true hm⟩
 · rintro ⟨d,hd,hm⟩
   have :=List.length_pos_of_mem<|GQ hd<|of_decide_eq_true hm
   omega
theorem UB {F:aB} {xs:List bh} {w:Tx} {i:Nat} {a b:Tx} (C:0 < i) (c:(ep F xs w)[i - 1]? =some a) (A:(ep F xs w)[i]? =some b):iM a b=true :=by
 have h:=List.pairwise_iff_getElem.1<|Ur<|eo F xs<|bP F xs w
 obtain ⟨h1,rfl⟩:=eu.1 c
 obtain ⟨h2,rfl⟩:=eu.1 A
 exact h (i - 1) i h1 h2 ab
theorem NA:∀ l:List Tx,(fL l).length≤l.length:=by
 intro l
 induction l with
 | nil=>exact cw _
 | cons a l c=>
   cases l with
   | nil=>exact cw _
   | cons b l=>rw [fL]; split <;> simp only [List.length_cons] at* <;> omega
theorem U9 (a t wd:Tx) (w:World) (cF:a.length≤1048576) (dq:t.length≤1048576) (dL:wd.length≤1048576) (F:aB) (xs:List bh) (bI:kS a t=some (F,xs)):
 ba au 6 (aX [str a,str t,str wd]) w (fun v w'=>v= .bool true∧Wk w w'):=by
 have ac:F.rules.length≤1024:=UX bI
 refine enter func6 aa ntmps6 aa<|ak fun bQ=>aw<|bQ<|az fun bW=>ak fun b2=>e<|cl kH (Ho w) aa fun v22 dt cw=> ?_
 obtain ⟨rfl,bm⟩:=cw
 have dO:=bm.size
 refine p (no aa)<|nl<|b2<|cf (aa)<|aQ<|bW<|ak fun b3=>p mv<|p mv<|e<|cl qP (AO a t dt cF dq) aa fun dX bJ cx=> ?_
 obtain ⟨⟨pp,dT,dU,dV,rfl,bB⟩,hE27⟩:=cx
 rw [bI] at bB
 have dP:=hE27.size
 obtain ⟨B,tb,U,dD,rfl,aY,C⟩:=bB
 have aY:eA bJ B tb U F xs:=aY
 have C:eJ F xs:=C
 refine p mv<|p (xt aa aa)<|p (xt aa aa)<|e<|al nG fun dB d3 dE bv ck=> ?_
 have dS:=bv.size
 refine p aC<|e<|cG iF aa aa aa aa (ck) (by simp) fun bL ct dC=> ?_
 have bo:Wk bJ bL:=bv.md.trans' ct fun q bC h=>by omega
 have co:=(bm.trans hE27).trans bo
 have bw:=aY.wk bo
 refine nl<|b3<|ak fun b4=>p mv<|p mv<|e<|cl ko (Hp B tb U F xs wd 1000 bL bw C ac ab) aa fun v32 du cy=> ?_
 obtain ⟨a4,aS⟩:=cy
 obtain ⟨bd,bi,rfl⟩:=cQ a4
 have ag:=bw.wk aS
 have dQ:=aS.size
 have aT:=co.trans aS
 refine aw<|b4<|az fun b5=>ak fun b6=>p mv<|p (bM l2 aa aa)<|p (cg aa aa)<|nl<|b6<|cd aa (fun bj=> ?_) fun bj=> ?_
 exact ak fun aO=>aw<|aO<|rt<|tr<|a6 aa<|⟨aa,aT⟩
 have bx:=VP bj
 have dI:(iy F xs wd 1000).length≤1000:=VO (m:=1000) ay
 have dJ:(iy F xs wd 1000).length=(bP F xs wd).length:=by rw [bx]
 have dK:(ep F xs wd).length≤4000000000000:=by
  have h1:(ep F xs wd).length≤_:=NA _
  have h2:=BD (le:=fun x y:Tx=>decide (x≤y))<|eo F xs<|bP F xs wd
  have h3:=AH F xs<|bP F xs wd
  omega
 have am:=EE F xs (bP F xs wd) false
 have an:=EE F xs (bP F xs wd) true
 refine aQ<|b5<|ak fun aO=>p aC<|aw<|aO<|az fun b7=>ak fun bS=>p mv<|p (bM l2 aa aa)<|p mv<|nl<|bS<|aE<|lp (fun G I aF=> ∃ (i:Nat),(i≤(iy F xs wd 1000).length)∧(Wk du aF)∧(I 2=str wd)∧(I 7=aV tb)∧(I 10= .bool (gD F xs (bP F xs wd) false<|i))∧(I 11= .bool (gD F xs (bP F xs wd) true<|i))∧(I 36= .slice bd (iy F xs wd 1000).length bi)∧(I 37=aj ((iy F xs wd 1000).length))∧(I 38=aj i)∧((iy F xs wd 1000).length - i=G)) _ ⟨0,ab,(Md.refl _ _),aa,aa,(congrArg bO am),(congrArg bO an),aa,aa,aa,aa⟩ ?_
 rintro G I aF ⟨i,hi,Y,cU,cZ,cS,cT,cV,cW,cY,rfl⟩
 refine fx 2 cU<|fx 7 cZ<|fx 10 cS<|fx 11 cT<|fx 36 cV<|fx 37 cW<|fx 38 cY<|ak fun bT=>p (lt aa aa)<|nl<|bT<|az fun bU=>cd aa (fun cM=> ?_) fun cM=> ?_
 refine aQ<|bU<|az fun aq=>aE<|az fun aI=> ?_
 obtain ⟨d,hd⟩:∃ d,(iy F xs wd 1000)[i]? =some d:=⟨_,bZ ab⟩
 have ah:(bP F xs wd)[i]? =some d:=by rw [← bx]; exact hd
 refine rg aa<|p (a7 pZ aa aa ab<|aG.ok ((rB a4).wk Y)<|sG ab)<|p (cK k6 aa (aa)<|gY (f:=dz) (m:=5) (fun _=>rfl) ((rB a4).wk Y) hd)<|e<|al xa fun b9 d1 a0 bt ch=> ?_
 have dM:=bt.size
 refine e<|cG uT aa aa aa aa (ch) (by simp) fun a9 cq ce=> ?_
 have cm:Wk aF a9:=bt.md.trans' cq fun q bC h=>by omega
 have a0:bE a9.heap b9 (dz d):=ce
 have bs:=Y.trans cm
 refine nl<|aI<|az fun aL=>ak fun aM=>ao (aV tb)<|p (fa lj aa)<|p (ld bR aa<|a0.bp 1)<|e<|cl uL (vA B tb U F xs (d.ca:Nat) 1 a9 (ag.wk bs) C) aa fun v45 dv cz=> ?_
 obtain ⟨rfl,bq⟩:=cz
 have aR:=bs.trans bq
 have cH:=Wk.B bq a0
 refine nl<|aM<|cb aa (fun a1=> ?_) fun a1=> ?_
 have ad:gq F xs d.ca 1=true :=a1
 have am:=EB (F:=F) (xs:=xs) (fb:=false) ah<|by rw [ad]; decide
 have an:=ED (F:=F) (xs:=xs) (fb:=true) ah ad
 exact ak fun ae=>aw<|ae<|ext<|bc<|be<|aq<|rg aa<|p (bG ((i+1:Nat):Int) aa aa<|bf ab ab)<|p mv<|nl<|tn<|⟨_,ab,i+1,ab,aR,aa,aa,(congrArg bO am),(congrArg bO an),aa,aa,aa,aa⟩
 have ad:gq F xs d.ca 1=false :=a1
 have am:=ED (F:=F) (xs:=xs) (fb:=false) ah ad
 have an:=EB (F:=F) (xs:=xs) (fb:=true) ah<|by rw [ad]; decide
 refine aQ<|aL<|ak fun ae=>aw<|ae<|az fun J=>rg aa<|ao (aV tb)<|p (fa lj aa)<|p (ld bR aa<|cH.bp 1)<|e<|cl pT (q4 B tb U F xs (d.ca:Nat) dv (ag.wk aR) C) aa fun v50 dw cA=> ?_
 obtain ⟨⟨a50,rfl,cR⟩,hE50⟩:=cA
 obtain ⟨b8,cc,rfl⟩:=cQ cR
 have dR:=hE50.size
 refine p mv<|p (xt aa aa)<|p (xt aa aa)<|e<|al nH fun bg d2 bz bu ci=> ?_
 have dN:=bu.size
 refine e<|cG iR aa aa aa aa (ci) (by simp) fun bb cs cj=> ?_
 have cn:Wk dw bb:=bu.md.trans' cs fun q bC h=>by omega
 have bz:bE bb.heap bg [str (gQ xs d.ca),.slice b8 (flagsOf xs d.ca).length cc]:=cj
 have bl:=aR.trans<|hE50.trans cn
 refine aw<|J<|ak fun aN=>aw<|aN<|az fun av=>ak fun bX=>ao (aV tb)<|ao (str wd)<|e<|cl yd (GU B tb U F xs wd bb (ag.wk bl) C ac ab) aa fun v55 dx cC=> ?_
 obtain ⟨a5,br⟩:=cC
 obtain ⟨O,V,rfl⟩:=cQ a5
 have cI:=Wk.B br bz
 have cp:=bl.trans br
 have dp:=GQ (List.mem_of_getElem? ah) ad
 refine p (bM e8 aa aa)<|p mv<|nl<|bX<|aE ?_
 have ai:false =decide ((gQ xs d.ca)∈(ep F xs wd).take 0):=by simp
 refine lp (fun G c bK=> ∃ (k:Nat),(k≤(ep F xs wd).length)∧(Wk dx bK)∧(c 2=str wd)∧(c 7=aV tb)∧(c 10= .bool true)∧(c 11= .bool (gD F xs (bP F xs wd) true<|i))∧(c 36= .slice bd (iy F xs wd 1000).length bi)∧(c 37=aj ((iy F xs wd 1000).length))∧(c 38=aj i)∧(c 14=aV bg)∧(c 16= .bool (decide ((gQ xs d.ca)∈(ep F xs wd).take k)))∧(c 55= .slice O (ep F xs wd).length V)∧(c 56=aj ((ep F xs wd).length))∧(c 57=aj k)∧((ep F xs wd).length - k=G)) _ ⟨0,ab,(Md.refl _ _),aa,aa,aa,aa,aa,aa,aa,aa,(congrArg bO ai),aa,aa,aa,aa⟩ ?_
 rintro G c bK ⟨k,hk,Z,c4,dd,c0,c1,c5,c7,c9,c2,c3,da,db,dc,rfl⟩
 refine fx 2 c4<|fx 7 dd<|fx 10 c0<|fx 11 c1<|fx 36 c5<|fx 37 c7<|fx 38 c9<|fx 14 c2<|fx 16 c3<|fx 55 da<|fx 56 db<|fx 57 dc<|ak fun bY=>p (lt aa aa)<|nl<|bY<|az fun b0=>cd aa (fun cP=> ?_) fun cP=> ?_
 refine aQ<|b0<|az fun ax=>aE<|az fun b1=> ?_
 obtain ⟨u,hu⟩:∃ u,(ep F xs wd)[k]? =some u:=⟨_,bZ ab⟩
 refine rg aa<|p (a7 c8 aa aa ab<|aG.ok ((aU a5).2.wk Z)<|cX ab)<|p (ld cB aa<|aG.iD ((aU a5).2.wk Z) (show ((ep F xs wd).map str)[k]? =some (str u) by rw [eR,hu]; rfl)) ?_
 refine aw<|b1<|rg aa<|ao (.bool<|decide ((gQ xs d.ca)∈(ep F xs wd).take k))<|ao (.bool<|decide ((gQ xs d.ca)∈(ep F xs wd).take k))<|gb (t:=62) aa (fun a3=> ?_) fun a3=> ?_
 have ai:=Qn a3
 exact aJ aa<|aJ aa<|aJ aa<|aJ aa<|p (bN aa)<|p aC<|nl<|bn<|ax<|rg aa<|p (bG ((k+1:Nat):Int) aa aa<|bf ab ab)<|p mv<|nl<|tn<|⟨_,ab,k+1,ab,Z,aa,aa,aa,aa,aa,aa,aa,aa,(congrArg bO ai),aa,aa,aa,aa⟩
 have ai:=Qm (by simpa using a3) hu
 exact aK aa mv<|aK aa (fa sV aa)<|aK aa (ld cB aa<|(Wk.B Z cI).bp 0)<|aK aa (iS aa aa)<|p (bH aa)<|p aC<|nl<|bn<|ax<|rg aa<|p (bG ((k+1:Nat):Int) aa aa<|bf ab ab)<|p mv<|nl<|tn<|⟨_,ab,k+1,ab,Z,aa,aa,aa,aa,aa,aa,aa,aa,(congrArg bO ai),aa,aa,aa,aa⟩
 refine ext<|bc<|bc<|be<|av<|az fun ax=> ?_
 have cJ:decide ((gQ xs d.ca)∈(ep F xs wd).take k)=true :=by rw [show k=(ep F xs wd).length by omega,IM]; exact decide_eq_true dp
 exact rg aa<|ao (.bool<|decide ((gQ xs d.ca)∈(ep F xs wd).take k))<|p (no aa)<|nl<|ax<|cf (congrArg bO<|by rw [cJ]; rfl)<|aQ<|bn<|aq<|rg aa<|p (bG ((i+1:Nat):Int) aa aa<|bf ab ab)<|p mv<|nl<|tn<|⟨_,ab,i+1,ab,(cp.trans Z),aa,aa,(congrArg bO am),(congrArg bO an),aa,aa,aa,aa⟩
 refine ext<|bc<|bc<|be<|b7<|ak fun aq=>ao (aV tb)<|ao (str wd)<|e<|cl yd (GU B tb U F xs wd aF (ag.wk Y) C ac ab) aa fun dY dy cD=> ?_
 obtain ⟨ap,aW⟩:=cD
 obtain ⟨O,V,rfl⟩:=cQ ap
 have aZ:=(ag.wk Y).wk aW
 refine aw<|aq<|az fun aI=>ak fun aL=>p mv<|p (bM e8 aa aa)<|p mv<|nl<|aL<|aE<|lp (fun G E a8=> ∃ (j:Nat),(j≤(ep F xs wd).length)∧(Wk dy a8)∧(E 2=str wd)∧(E 7=aV tb)∧(E 10= .bool (gD F xs (bP F xs wd) false<|i))∧(E 11= .bool (gD F xs (bP F xs wd) true<|i))∧(E 19= .slice O (ep F xs wd).length V)∧(E 75= .slice O (ep F xs wd).length V)∧(E 76=aj ((ep F xs wd).length))∧(E 77=aj j)∧((ep F xs wd).length - j=G)) _ ⟨0,ab,(Md.refl _ _),aa,aa,aa,aa,aa,aa,aa,aa,aa⟩ ?_
 rintro G E a8 ⟨j,dH,A,dh,di,de,df,dg,dj,dk,dl,rfl⟩
 refine fx 2 dh<|fx 7 di<|fx 10 de<|fx 11 df<|fx 19 dg<|fx 75 dj<|fx 76 dk<|fx 77 dl<|ak fun aM=>p (lt aa aa)<|nl<|aM<|az fun ae=>cd aa (fun cO=> ?_) fun cO=> ?_
 refine aQ<|ae<|az fun J=>aE<|az fun aN=> ?_
 obtain ⟨u,hu⟩:∃ u,(ep F xs wd)[j]? =some u:=⟨_,bZ ab⟩
 refine rg aa<|ao (aj j)<|p (a7 c8 aa aa ab<|aG.ok ((aU ap).2.wk A)<|cX ab)<|p (ld cB aa<|aG.iD ((aU ap).2.wk A) (show ((ep F xs wd).map str)[j]? =some (str u) by rw [eR,hu]; rfl)) ?_
 refine p (bV (aj j) aa)<|aw<|aN<|ak fun av=>ao (aj j)<|p (gt aa aa)<|p mv<|gs (t:=84) aa (fun cN=> ?_) fun cN=> ?_
 obtain ⟨dr,bF⟩:∃ s,(ep F xs wd)[j - 1]? =some s:=⟨_,bZ ab⟩
 have dn:=UB ab bF hu
 refine aK aa (aH (.slice O (ep F xs wd).length V) aa)<|aK aa (aH (aj j) aa)<|aK aa (c6 ((j - 1:Nat):Int) aa aa<|bf ab ab)<|aK aa (a7 c8 aa aa ab<|aG.ok ((aU ap).2.wk A)<|cX ab)<|aK aa (ld cB aa<|aG.iD ((aU ap).2.wk A) (show ((ep F xs wd).map str)[j - 1]? =some (str dr) by rw [eR,bF]; rfl)) ?_
 exact aK aa mv<|aK aa (PI aa aa)<|p (bN aa)<|nl<|av<|cf (congrArg bO<|by rw [dn]; rfl)<|aQ<|bn<|J<|rg aa<|p (bG ((j+1:Nat):Int) aa aa<|bf ab ab)<|p mv<|nl<|tn<|⟨_,ab,j+1,ab,A,aa,aa,aa,aa,aa,aa,aa,aa,aa⟩
 exact aJ aa<|aJ aa<|aJ aa<|aJ aa<|aJ aa<|aJ aa<|aJ aa<|p (bH aa)<|nl<|av<|cf aa<|aQ<|bn<|J<|rg aa<|p (bG ((j+1:Nat):Int) aa aa<|bf ab ab)<|p mv<|nl<|tn<|⟨_,ab,j+1,ab,A,aa,aa,aa,aa,aa,aa,aa,aa,aa⟩
 refine ext<|bc<|bc<|be<|aI<|az fun J=> ?_
 have aD:jK F xs wd false =(gD F xs (bP F xs wd) false<|i):=EA ab
 have bD:jK F xs wd true =(gD F xs (bP F xs wd) true<|i):=EA ab
 have bA:decide (((ep F xs wd).length:Int) > 0)=(gD F xs (bP F xs wd) false<|i):=(UC F xs wd).trans aD
 refine rg aa<|ao (aV tb)<|ao (str wd)<|e<|cl uH (BY B tb U F xs wd a8 (aZ.wk A) C ac ab) aa fun dZ dA cE=> ?_
 obtain ⟨rfl,aA⟩:=cE
 refine ao (.bool<|gD F xs (bP F xs wd) false<|i)<|p (mB u4 aa aa)<|p mv<|gs (t:=99) aa (fun dG=> ?_) fun h=>absurd aD h
 refine aK aa (aH (aV tb) aa)<|aK aa (aH (str wd) aa)<|eg aa aa aa<|cl pS (Ep B tb U F xs wd dA ((aZ.wk A).wk aA) C ac ab) aa fun dW ds cu=> ?_
 obtain ⟨rfl,aP⟩:=cu
 refine aK aa (aH (.bool<|gD F xs (bP F xs wd) true<|i) aa)<|aK aa (mB u4 aa aa)<|p (bN aa)<|p mv<|gs (t:=106) aa (fun dF=> ?_) fun h=>absurd bD h
 refine aK aa (aH (aV tb) aa)<|aK aa (aH (str wd) aa)<|eg aa aa aa<|cl uI (xP B tb U F xs wd ds (((aZ.wk A).wk aA).wk aP) C ac ab) aa fun v109 d0 cv=> ?_
 obtain ⟨rfl,bk⟩:=cv
 refine aK aa (aH (.bool<|gD F xs (bP F xs wd) false<|i) aa)<|aK aa (aH (.bool<|gD F xs (bP F xs wd) false<|i) aa)<|gb (t:=111) aa (fun a2=> ?_) fun a2=> ?_
 refine aK aa (aH (.bool<|gD F xs (bP F xs wd) true<|i) aa)<|aK aa (no aa)<|aK aa (bN aa)<|aK aa (mB u4 aa aa)<|p (bN aa)<|p mv<|gs (t:=117) aa (fun cL=> ?_) fun h=>absurd (by rw [aD,bD,a2]; rfl) h
 exact aK aa (aH (.slice O (ep F xs wd).length V) aa)<|aK aa (bM e8 aa aa)<|aK aa (gt aa aa)<|aK aa (aH (.bool<|gD F xs (bP F xs wd) false<|i) aa)<|aK aa (mB u4 aa aa)<|p (bN aa)<|p aC<|nl<|J<|rt<|a6 aa<|⟨congrArg bO (decide_eq_true bA),(((aT.trans Y).trans<|aW.trans A).trans<|aA.trans aP).trans bk⟩
 refine aJ aa<|aJ aa<|aK aa (bH aa)<|aK aa (mB u4 aa aa)<|p (bN aa)<|p mv<|gs (t:=117) aa (fun cL=> ?_) fun h=>absurd (by rw [aD,a2]; rfl) h
 exact aK aa (aH (.slice O (ep F xs wd).length V) aa)<|aK aa (bM e8 aa aa)<|aK aa (gt aa aa)<|aK aa (aH (.bool<|gD F xs (bP F xs wd) false<|i) aa)<|aK aa (mB u4 aa aa)<|p (bN aa)<|p aC<|nl<|J<|rt<|a6 aa<|⟨congrArg bO (decide_eq_true bA),(((aT.trans Y).trans<|aW.trans A).trans<|aA.trans aP).trans bk⟩
theorem U7 (a t wd:Tx) (w:World) (a7:a.length≤1048576) (bp:t.length≤1048576) (bQ:wd.length≤1048576) (bq:kS a t=none):
 ba au 6 (aX [str a,str t,str wd]) w (fun v w'=>v= .bool true∧Wk w w'):=by
 refine enter func6 aa ntmps6 aa<|ak fun ah=>aw<|ah<|az fun ax=>ak fun aA=>e<|cl kH (Ho w) aa fun v22 bt a1=> ?_
 obtain ⟨rfl,Z⟩:=a1
 have bR:=Z.size
 refine p (no aa)<|nl<|aA<|cf (aa)<|aQ<|ax<|ak fun aB=>p mv<|p mv<|e<|cl qP (AO a t bt a7 bp) aa fun bY bu a2=> ?_
 obtain ⟨⟨pp,bU,bV,bW,rfl,E⟩,hE27⟩:=a2
 rw [bq] at E
 have bS:=hE27.size
 have E:pp=none:=E
 subst E
 refine p mv<|p (xt aa aa)<|p (xt aa aa)<|e<|al nG fun bA b1 bD ac aM=> ?_
 have bT:=ac.size
 refine p aC<|e<|cG iF aa aa aa aa (aM) (by simp) fun ag aY bC=> ?_
 have aP:Wk bu ag:=ac.md.trans' aY fun q bP h=>by omega
 have aS:=(Z.trans hE27).trans aP
 refine nl<|aB<|ak fun aD=>p mv<|p mv<|e<|cl ko (VW wd 1000 ag) aa fun v32 ad a3=> ?_
 obtain ⟨G,aR⟩:=a3
 have G:bm ad _ _ 5 v32 ([]:List bF).length []:=G
 obtain ⟨bz,bB,rfl⟩:=cQ G
 refine aw<|aD<|az fun aF=>ak fun aG=>p mv<|p (bM l2 aa aa)<|p (cg aa aa)<|nl<|aG<|cd aa (fun h=>absurd h ay) fun bE=>aQ<|aF<|ak fun aI=>p aC<|aw<|aI<|az fun aL=>ak fun ai=>p mv<|p (bM l2 aa aa)<|p mv<|nl<|ai<|aE<|lp (fun C A J=>(Wk ad J)∧(A 2=str wd)∧(A 7= .pointer none)∧(A 10= .bool false)∧(A 11= .bool false)∧(A 37= .int .i64 0)∧(A 38= .int .i64 0)∧(0=C)) _ ⟨(Md.refl _ _),aa,aa,aa,aa,aa,aa,aa⟩ ?_
 rintro C A J ⟨aV,bb,bg,a8,a9,bd,bf,rfl⟩
 refine fx 2 bb<|fx 7 bg<|fx 10 a8<|fx 11 a9<|fx 37 bd<|fx 38 bf<|ak fun aj=>p (lt aa aa)<|nl<|aj<|az fun bw=>cd aa (fun h=>absurd h ab) fun bG=>ext<|bc<|bc<|be<|aL<|ak fun am=>ao (.pointer none)<|ao (str wd)<|e<|cl yd (UG wd J) aa fun br ae a4=> ?_
 obtain ⟨I,aT⟩:=a4
 have I:bm ae _ _ 1 br ([]:List Tx).length []:=I
 obtain ⟨V,Y,rfl⟩:=cQ I
 refine aw<|am<|az fun an=>ak fun ap=>p mv<|p (bM e8 aa aa)<|p mv<|nl<|ap<|aE<|lp (fun C c O=>(Wk ae O)∧(c 2=str wd)∧(c 7= .pointer none)∧(c 10= .bool false)∧(c 11= .bool false)∧(c 19= .slice V ([]:List Tx).length Y)∧(c 76= .int .i64 0)∧(c 77= .int .i64 0)∧(0=C)) _ ⟨(Md.refl _ _),aa,aa,aa,aa,aa,aa,aa,aa⟩ ?_
 rintro C c O ⟨aW,bk,bl,bh,bi,bj,bn,bo,rfl⟩
 refine fx 2 bk<|fx 7 bl<|fx 10 bh<|fx 11 bi<|fx 19 bj<|fx 76 bn<|fx 77 bo<|ak fun aq=>p (lt aa aa)<|nl<|aq<|az fun bx=>cd aa (fun h=>absurd h ab) fun bI=>ext<|bc<|bc<|be<|an<|ak fun av=>ao (.pointer none)<|ao (str wd)<|e<|cl uH (BX wd O) aa fun bZ bv a5=> ?_
 obtain ⟨rfl,aU⟩:=a5
 refine ao (.bool false)<|p (mB u4 aa aa)<|p mv<|gs (t:=99) aa (fun bO=> ?_) fun h=>absurd aa h
 refine aK aa (aH (.pointer none) aa)<|aK aa (aH (str wd) aa)<|eg aa aa aa<|cl pS (Pw wd bv) aa fun bX bs aZ=> ?_
 obtain ⟨rfl,aN⟩:=aZ
 refine aK aa (aH (.bool false) aa)<|aK aa (mB u4 aa aa)<|p (bN aa)<|p mv<|gs (t:=106) aa (fun bJ=> ?_) fun h=>absurd aa h
 refine aK aa (aH (.pointer none) aa)<|aK aa (aH (str wd) aa)<|eg aa aa aa<|cl uI (Jf wd bs) aa fun v109 b0 a0=> ?_
 obtain ⟨rfl,aO⟩:=a0
 refine aK aa (aH (.bool false) aa)<|aK aa (aH (.bool false) aa)<|gb (t:=111) aa (fun h=>absurd (h.symm.trans<|aa) dA) fun bK=>aJ aa<|aJ aa<|aK aa (bH aa)<|aK aa (mB u4 aa aa)<|p (bN aa)<|p mv<|gs (t:=117) aa (fun bL=> ?_) fun h=>absurd aa h
 exact aK aa (aH (.slice V ([]:List Tx).length Y) aa)<|aK aa (bM e8 aa aa)<|aK aa (gt aa aa)<|aK aa (aH (.bool false) aa)<|aK aa (mB u4 aa aa)<|p (bN aa)<|p aC<|nl<|av<|rt<|a6 aa<|⟨aa,((((aS.trans aR).trans aV).trans<|aT.trans aW).trans<|aU.trans aN).trans aO⟩
theorem Va (a t wd:Tx) (w:World) (c:a.length≤1048576) (A:t.length≤1048576) (C:wd.length≤1048576):ba au 6 [str a,str t,str wd].toArray w (fun v w'=>v= .bool true∧Wk w w'):=by
 cases hx:kS a t with
 | none=>exact U7 a t wd w c A C hx
 | some Y=>obtain ⟨F,xs⟩:=Y; exact U9 a t wd w c A C F xs hx
end Go.Hb
end
