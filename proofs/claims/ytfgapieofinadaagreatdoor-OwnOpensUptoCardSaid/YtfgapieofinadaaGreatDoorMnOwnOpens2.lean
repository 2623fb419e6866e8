/-
  Walks and plain laws that the law rests on, laid together. No conditions but those that each theorem names.
-/
import Derived.Test.YtfgapieofinadaaGreatDoorMnOwnOpens1
set_option linter.unusedVariables false
open Array renaming ext_getElem?→xN,foldl_toList→xO,getElem?_eq_some_iff→cr,getElem?_modify→xQ,getElem?_setIfInBounds_ne→ny,getElem?_setIfInBounds_self_of_lt→oC,toList_filter→ss,toList_inj→su,toList_map→ju,toList_modify→ur,toList_push→xT,toList_zip→HU
open Go.Builtin renaming delete_→sA
open Go.Calls renaming mono→jv
open Go.CallsD renaming mono→H7
open Go renaming Code→cj,Edge→cH,Exit→bM,Func→jw,FuncId→eX,Oper→aJ,Operand→bA,Program→av,TypeId→au,Value→ah,World→ai
open Go.Code renaming wp_mono→H9
open Go.Deferred renaming ofValue→mE
open Go.Extern.BytealgIndexByte renaming indexByte→Rg
open Go.Fence renaming wide→fX
open Go.Instr renaming beginRound→Ih,field→Ii,mapUpdate→sB,sliceAt→p7,sliceBounds→mG,typeAssert→Io
open Go.Lib renaming indexByte→Ip
open Go.Oper renaming semAt_eq→uA,upon→jX,uponIn→sE,wp→iB
open Go.Program renaming underlying→Iu
open Go.Region renaming Mode→qg,ready→fF
open Go.Rows renaming mono→BD
open Go.Sem renaming run→lK
open Go.Value renaming ownBlock→dM
open Go.Value.slice renaming injEq→mI
open Go.World renaming alloc_heap_new→x7,putObj_heap_other→lL,putObj_heap_same→qi,setCell→x8,size_alloc→x9
open List.Nodup renaming sublist→IA
open List.Sublist renaming map→BG
open List renaming eraseIdx_sublist→IG,filter_cons→uE,filter_eq_self→IH,foldl_cons→uH,getD_eq_getElem?_getD→cW,getElem?_cons_succ→jZ,getElem?_cons_zero→ky,getElem?_eq_some_iff→dX,getElem?_inj→BJ,getElem?_map→ij,getElem?_of_mem→BK,getElem?_toArray→nE,length_append→bp,length_cons→cn,length_map→qo,length_nil→fq,length_replicate→BM,length_singleton→dC,length_take→bX,mapM_toArray→yc,map_append→kA,map_cons→fZ,map_map→yd,mem_append→dz,mem_cons→ew,mem_cons_of_mem→mK,mem_cons_self→lN,mem_eraseIdx_iff_getElem?→IW,mem_map→iU,mem_map_of_mem→qq,mem_of_getElem?→kX,mem_of_mem_eraseIdx→BN,mem_singleton→fu,nodup_append→yh,nodup_cons→sG,nodup_nil→yi,perm_ext_iff_of_nodup→I2,replicate→eM,size_toArray→fP,take_append→I7,take_of_length_le→iV
open Nat renaming ble→bL,le_refl→bf,lt_or_ge→dN,min_eq_left→sI,mul_le_mul_right→qw,sub_self→sK
open Option renaming map_eq_some_iff→iW,map_some→e7
open Option.some renaming inj→gF,injEq→bR
open Prod renaming fst→dj
open Go.Proofs.Tryz
open Go.RowKit

section
namespace Go.Hb
open Go.ChangeMaps
open Classical
structure jB (es:List MapEntry) (c:Nat):Prop where
 lt:∀ e∈es,e.born < c
 nd:(es.map (·.born)).Nodup
structure ja (es:List MapEntry) (bj:ah→Prop) (f:ah→Option ah):Prop where
 ks:∀ e∈es,bj e.key
 nd:(es.map (·.key)).Nodup
 iff :∀ k v,f k=some v↔∃ e∈es,e.key=k∧e.val=v
def cJ (h:Array Obj) (b:Nat) (bj:ah→Prop) (f:ah→Option ah):Prop := ∃ es c,h[b]? =some (.map es c)∧jB es.toList c∧ja es.toList bj f
theorem cJ.od {h:Array Obj} {b:Nat} {bj:ah→Prop} {f:ah→Option ah} (hm:cJ h b bj f):jC h b bj f:=by
 obtain ⟨es,c,A,_,C⟩:=hm;refine ⟨_,⟨es,c,A,U⟩,fun p hp=> ?_,?_,fun k v=> ?_⟩
 · obtain ⟨e,he,rfl⟩:=iU.1 hp; exact C.ks e he
 · rw [yd]; exact C.nd
 · rw [C.iff,iU];exact ⟨fun ⟨e,he,A,E⟩=>⟨e,he,by rw [A,E]⟩,fun ⟨e,he,A⟩=>⟨e,he,congrArg dj A,congrArg Prod.snd A⟩⟩
theorem cJ.md {F:Nat→Prop} {w w':ai} {b:Nat} {bj:ah→Prop} {f:ah→Option ah} (h:cJ w.heap b bj f) (hm:Md F w w') (E:¬F b):cJ w'.heap b bj f:=by
 obtain ⟨es,c,A,C⟩:=h;exact ⟨es,c,by rw [hm.dA b (cr.1 A).1 E]; exact A,C⟩
theorem cJ.wk {w w':ai} {b:Nat} {bj:ah→Prop} {f:ah→Option ah} (h:cJ w.heap b bj f) (hm:Wk w w'):cJ w'.heap b bj f:=h.md hm id
theorem cJ.lt {h:Array Obj} {b:Nat} {bj:ah→Prop} {f:ah→Option ah} (hm:cJ h b bj f):b < h.size:=hm.od.lt
theorem cJ.nil {h:Array Obj} {b:Nat} {bj:ah→Prop} {c:Nat} (hm:h[b]? =some (.map #[] c)):cJ h b bj fun _=>none:=
 ⟨#[],c,hm,⟨fun _ h=>by simp at h,by simp⟩,fun _ h=>by simp at h,by simp,fun k v=>by simp⟩
theorem cJ.fA {h:Array Obj} {b:Nat} {bj:ah→Prop} {f:ah→Option ah} (hm:cJ h b bj f) {cur:Array ah} {e:au} {z:Nat×Nat} :h[b]?≠some (.cells cur e z):=hm.od.fA
theorem ja.push {es:List MapEntry} {bj:ah→Prop} {f:ah→Option ah} {kx v:ah} {c:Nat} (h:ja es bj f) (hi:bj kx) (I:∀ e∈es,e.key≠kx):ja (es++ [{key:=kx,val:=v,born:=c}]) bj (jm f kx v) where
 ks e he:=by
  rcases dz.1 he with he | he
  · exact h.ks e he
  · rw [fu.1 he]; exact hi
 nd:=by
  rw [kA,yh];refine ⟨h.nd,by simp,fun a ha b hb J=> ?_⟩;obtain ⟨e,he,rfl⟩:=iU.1 ha;simp at hb;exact I e he<|by rw [J,hb]
 iff k u:=by
  unfold jm;by_cases E:k=kx
  · subst E;rw [if_pos rfl];constructor
    · intro A; cases A; exact ⟨_,List.mem_append_right _ (fu.2 rfl),rfl,rfl⟩
    · rintro ⟨e,he,A,C⟩;rcases dz.1 he with he | he
      · exact absurd A<|I e he
      · rw [fu.1 he] at C; rw [← C]
  · rw [if_neg E,h.iff];constructor
    · rintro ⟨e,he,A⟩; exact ⟨e,List.mem_append_left _ he,A⟩
    · rintro ⟨e,he,A,C⟩;rcases dz.1 he with he | he
      · exact ⟨e,he,A,C⟩
      · rw [fu.1 he] at A; exact absurd A.symm E
theorem jB.push {es:List MapEntry} {kx v:ah} {c:Nat} (h:jB es c):jB (es++ [{key:=kx,val:=v,born:=c}]) (c+1) where
 lt e he:=by
  rcases dz.1 he with he | he
  · have :=h.lt e he; omega
  · rw [fu.1 he]; exact Nat.lt_succ_self _
 nd:=by
  rw [kA,yh];refine ⟨h.nd,by simp,fun a ha b hb A=> ?_⟩;obtain ⟨e,he,rfl⟩:=iU.1 ha;simp at hb;have :=h.lt e he; omega
theorem wj {α:Type} (l:List α) (g:α→α) (i j:Nat):(l.modify i g)[j]? =if i=j then (l[j]?).map g else l[j]? :=by grind
theorem rj {α:Type} {l:List α} {g:α→α} {i:Nat} {e:α} (hi:l[i]? =some e) (x:α):x∈l.modify i g↔x=g e∨∃ j,j≠i∧l[j]? =some x:=by
 rw [List.mem_iff_getElem?];constructor
 · rintro ⟨j,A⟩;rw [wj] at A;by_cases h:i=j
   · subst h; rw [if_pos rfl,hi] at A; exact .inl (gF A).symm
   · rw [if_neg h] at A;exact .inr ⟨j,fun e=>h e.symm,A⟩
 · rintro (rfl | ⟨j,A,h⟩)
   · exact ⟨i,by rw [wj,if_pos U,hi]; rfl⟩
   · exact ⟨j,by rw [wj,if_neg (fun e=>A e.symm),h]⟩
theorem E8 {α β:Type} {l:List α} (g:α→α) (p:α→β) (hp:∀ x,p (g x)=p x) (i:Nat):(l.modify i g).map p=l.map p:=by
 apply List.ext_getElem?;intro j;rw [ij,ij,wj];cases l[j]? with
 | none=>by_cases h:i=j <;> simp [h]
 | some x=>by_cases h:i=j <;> simp [h,hp]
theorem ja.Pd {es:List MapEntry} {bj:ah→Prop} {f:ah→Option ah} {v:ah} {i:Nat} {e:MapEntry} (h:ja es bj f) (hi:es[i]? =some e):ja (es.modify i fun e=> {e with val:=v}) bj (jm f e.key v) where
 ks x E:=by
  rcases (rj hi x).1 E with rfl | ⟨j,_,A⟩
  · exact h.ks e<|kX hi
  · exact h.ks x<|kX A
 nd:=by rw [E8 (fun e:MapEntry=> {e with val:=v}) (·.key) (fun _=>rfl)]; exact h.nd
 iff k u:=by
  have U:∀ {j:Nat} {x:MapEntry},es[j]? =some x→x.key=e.key→j=i:=fun {j x} A I=>by
   have O:=(dX.1 A).1;exact (BJ (by simpa using O) h.nd).1<|by rw [ij,ij,A,hi,e7,e7,I]
  unfold jm;by_cases I:k=e.key
  · subst I;rw [if_pos rfl];constructor
    · intro C; cases C; exact ⟨_,(rj hi _).2 (.inl rfl),rfl,rfl⟩
    · rintro ⟨x,E,C,J⟩;rcases (rj hi x).1 E with rfl | ⟨j,A,M⟩
      · rw [← J]
      · exact absurd (U M C) A
  · rw [if_neg I,h.iff];constructor
    · rintro ⟨x,E,C,J⟩;obtain ⟨j,A⟩:=BK E;have L:j≠i:=fun L=>by subst L; rw [hi] at A; cases A; exact I C.symm
      exact ⟨x,(rj hi x).2 (.inr ⟨j,L,A⟩),C,J⟩
    · rintro ⟨x,E,C,J⟩;rcases (rj hi x).1 E with rfl | ⟨j,_,M⟩
      · exact absurd C.symm I
      · exact ⟨x,kX M,C,J⟩
section
variable {P:av} {N:Fm} {σ:Nat→ah} {w:ai} {dst:Option Nat} {ty:au} {pos :String} {af:Array cH} {g:Option (Nat×Bool)} {x y z:bA} {K:(Nat→ah)→ai→Prop}
variable {t k e:au} {bj:ah→Prop} {b:Nat} {f:ah→Option ah} {kx v zv:ah}
end
def im (h:Array Obj) (r b:Nat) (left :List (ah×ah)):Prop :=
 ∃ (es:Array MapEntry) (c:Nat) (seen:Array Nat) (A:Nat),h[r]? =some (.mapIter (some b) c seen A)∧c≤A∧h[b]? =some (.map es c)∧jB es.toList c∧(leftOf es seen).toList.map (fun e=>(e.key,e.val))=left
def jb (h:Array Obj) (r b:Nat) (left :List (ah×ah)) (A:ah×ah):Prop :=
 ∃ (es:Array MapEntry) (c:Nat) (seen:Array Nat) (e:MapEntry),h[r]? =some (.mapIter (some b) c (seen.push e.born) c)∧h[b]? =some (.map es c)∧jB es.toList c∧(leftOf es<|seen.push e.born).toList.map (fun e=>(e.key,e.val))=left∧e∈es.toList∧(e.key,e.val)=A
theorem jb.rk {h:Array Obj} {r b:Nat} {left :List (ah×ah)} {A:ah×ah} (hm:jb h r b left A):im h r b left :=by grind [jb,im]
theorem im.md {F:Nat→Prop} {w w':ai} {r b:Nat} {left :List (ah×ah)} (h:im w.heap r b left) (hm:Md F w w') (hr:¬F r) (hb:¬F b):im w'.heap r b left :=by
 obtain ⟨es,c,seen,E,A,I,C,J⟩:=h;exact ⟨es,c,seen,E,by rw [hm.dA r (cr.1 A).1 hr]; exact A,I,by rw [hm.dA b (cr.1 C).1 hb]; exact C,J⟩
theorem jb.md {F:Nat→Prop} {w w':ai} {r b:Nat} {left :List (ah×ah)} {E:ah×ah} (h:jb w.heap r b left E) (hm:Md F w w') (hr:¬F r) (hb:¬F b):jb w'.heap r b left E:=by
 obtain ⟨es,c,seen,e,A,C,I⟩:=h;exact ⟨es,c,seen,e,by rw [hm.dA r (cr.1 A).1 hr]; exact A,by rw [hm.dA b (cr.1 C).1 hb]; exact C,I⟩
section
variable {P:av} {N:Fm} {σ:Nat→ah} {w:ai} {dst:Option Nat} {ty:au} {pos :String} {af:Array cH} {g:Option (Nat×Bool)} {x y z:bA} {K:(Nat→ah)→ai→Prop}
variable {t k e:au} {bj:ah→Prop} {b:Nat} {f:ah→Option ah} {kx v zv:ah}
theorem wU (M:P.underlying t=some (.map k e)) (hm:cJ w.heap b bj f) (O:ev N σ x= .map (some b))
 (U:∀ r w' left,r=w.heap.size→Nw w w'→im w'.heap r b left→(∀ p∈left,bj p.1)→(left.map dj).Nodup→(∀ k v,f k=some v↔(k,v)∈left)→K (dq σ dst<|.pointer<|some ⟨r,0,none⟩) w'):
 cy P N ⟨dst,.range t x,ty,pos,af,g⟩ σ w K:=by
 obtain ⟨es,c,hr,J,E⟩:=hm;have L:=(cr.1 hr).1;refine lH (v:=fun r=> .pointer<|some ⟨r,0,none⟩) (ob:= .mapIter (some b) c #[] c) ?_ (fun r w' A C I=>U r w' (es.toList.map fun e=>(e.key,e.val)) A C ⟨es,c,#[],c,I,bf _,by rw [C.md.dA b L id]; exact hr,J,by unfold leftOf; simp only [ss]; rw [IH.2 (fun x _=>by simp)]⟩ ?_ ?_ ?_)
 · simp [execOp,O,Instr.range,bS M,run_getObj_map hr]
 · intro p hp; obtain ⟨e,he,rfl⟩:=iU.1 hp; exact E.ks e he
 · rw [yd]; exact E.nd
 · intro k v;rw [E.iff,iU];exact ⟨fun ⟨e,he,A,C⟩=>⟨e,he,by rw [A,C]⟩,fun ⟨e,he,A⟩=>⟨e,he,congrArg dj A,congrArg Prod.snd A⟩⟩
theorem M0 {es:Array MapEntry} {seen:Array Nat} {e:MapEntry} (hn:(es.toList.map (·.born)).Nodup) (he:e∈(leftOf es seen).toList):(leftOf es seen).toList.Perm (e::(leftOf es<|seen.push e.born).toList):=by
 have C:(leftOf es<|seen.push e.born).toList=(leftOf es seen).toList.filter fun x=>x.born !=e.born:=by
  unfold leftOf;simp only [ss,List.filter_filter];congr 1;funext x;have I:(seen.push e.born).contains x.born=(seen.contains x.born || x.born==e.born):=by
   rw [Bool.eq_iff_iff]; simp [Array.mem_push]
  rw [I,Bool.not_or,Bool.and_comm]; rfl
 have A:((leftOf es seen).toList.map (·.born)).Nodup:=by
  unfold leftOf;rw [ss];exact (List.filter_sublist.map _).nodup hn
 rw [C];generalize (leftOf es seen).toList=l at he A;clear C
 induction l with
 | nil=>cases he
 | cons a l ih=>
   rw [fZ,sG] at A;by_cases ha:a=e
   · subst ha;have E:(a::l).filter (fun x=>x.born !=a.born)=l:=by
      rw [uE,if_neg (by simp)];exact IH.2 fun x L=>by
       have :x.born≠a.born:=fun h=>A.1<|h ▸ qq L;simpa using this
     rw [E]
   · have ji:e∈l:=by
      rcases ew.1 he with h | h
      · exact absurd h.symm ha
      · exact h
     have J:a.born≠e.born:=fun h=>A.1<|h ▸ qq ji;rw [uE,if_pos (by simpa using J)];exact ((ih ji A.2).cons a).trans<|List.Perm.swap e a _
theorem NP {r:Nat} {left :List (ah×ah)} (hm:im w.heap r b left) (M:ev N σ x= .pointer (some ⟨r,0,none⟩))
 (h0:left = []→K (dq σ dst<|.tuple #[.bool false]) w)
 (V:∀ A left' w',left.Perm (A::left')→Md (fun j=>j=r) w w'→jb w'.heap r b left' A→K (dq σ dst<|.tuple #[.bool true,A.1,A.2]) w'):
 cy P N ⟨dst,.next x false,ty,pos,af,g⟩ σ w K:=by
 obtain ⟨es,c,seen,O,hr,aa,hb,C,rfl⟩:=hm;rcases run_next_at (P:=P) w ty r b c O seen es c hr hb C.lt aa with ⟨Z,I⟩ | ⟨e,he,w1,J,I⟩
 · refine jU (v:= .tuple #[.bool false]) ?_<|h0<|by rw [Array.eq_empty_of_size_eq_zero Z]; rfl
   simp [execOp,M,I]
 · have E:w1.heap=w.heap:=by rcases J with rfl | rfl <;> rfl
   have L:Md (fun j=>j=r) w (setBlock w1 r<|.mapIter (some b) c (seen.push e.born) c):=by
    refine ⟨?_,?_,?_,fun j _ ab=> ?_⟩
    · rcases J with rfl | rfl <;> rfl
    · rcases J with rfl | rfl <;> rfl
    · simp [setBlock,E]
    · simp only [setBlock,E]; rw [ny (fun e=>ab e.symm)]
   have ac:r≠b:=fun h=>by subst h; rw [hr] at hb; cases hb
   refine jU (v:= .tuple #[.bool true,e.key,e.val]) ?_ (V (e.key,e.val) _ _ (by have :=(M0 C.nd he).map (fun e=>(e.key,e.val)); exact this) L ⟨es,c,seen,e,?_,?_,C,U,?_,U⟩)
   · simp [execOp,M,I]
   · simp only [setBlock,E]; rw [oC (cr.1 hr).1]
   · rw [L.dA b (cr.1 hb).1 (fun h=>ac h.symm)]; exact hb
   · unfold leftOf at he;rw [ss] at he;exact (List.mem_filter.1 he).1
def Fk (b:Bool) (A:ah×ah):ah:=match b with | true => .tuple #[.bool true,A.1,A.2] | false => .tuple #[.bool false]
theorem wu {A:Bool} {E:ah×ah} (C:ev N σ x=Fk A E):(execOp (ev N σ) ⟨dst,.extract x 0,ty,pos,af,g⟩).run P w= .ok (.value<|.bool A) w:=by
 cases A
 · exact xt C U
 · exact xt C U
theorem wq {r:Nat} {left :List (ah×ah)} (hm:im w.heap r b left) (M:ev N σ x= .pointer (some ⟨r,0,none⟩))
 (h:∀ C A left' w',(C=false→left = []∧w'=w)→(C=true→left.Perm (A::left')∧Md (fun j=>j=r) w w'∧jb w'.heap r b left' A)→K (dq σ dst<|Fk C A) w'):
 cy P N ⟨dst,.next x false,ty,pos,af,g⟩ σ w K:=
 NP hm M (fun L=>h false (.nilFunc,.nilFunc) [] w (fun _=>⟨L,rfl⟩) fun h=>by cases h) (fun A left' w' E I J=>h true A left' w' (fun h=>by cases h) fun _=>⟨E,I,J⟩)
theorem vA {r:Nat} {left :List (ah×ah)} {A:ah×ah} (hm:jb w.heap r b left A) (L:ev N σ x= .pointer (some ⟨r,0,none⟩)):
 (execOp (ev N σ) ⟨dst,.entry x,ty,pos,af,g⟩).run P w= .ok (.value<|.tuple #[A.1,A.2]) w:=by
 obtain ⟨es,c,seen,e,C,E,I,_,J,rfl⟩:=hm;have :=run_entry_at (P:=P) w r b c seen es c e C E J I.nd;simp [execOp,L,this]
end
end Go.Hb
end
section
namespace Go.Hb
open Go.ChangeMaps
open Classical
noncomputable def mX (f:ah→Option ah) (k:ah):ah→Option ah:=fun q=>if q=k then none else f q
theorem Ll {f:ah→Option ah} {k:ah} (h:f k=none):mX f k=f:=by
 funext q; unfold mX;by_cases A:q=k
 · subst A; rw [if_pos rfl,h]
 · rw [if_neg A]
def fG (f:ah→Option ah) (n:Nat):Prop := ∃ l:List ah,l.Nodup∧l.length=n∧∀ k,(∃ v,f k=some v)↔k∈l
theorem fG.uniq {f:ah→Option ah} {n m:Nat} (h:fG f n) (A:fG f m):n=m:=by
 obtain ⟨l,C,rfl,E⟩:=h;obtain ⟨I,g1,rfl,g3⟩:=A;exact ((I2 C g1).2 fun k=>by rw [← E,← g3]).length_eq
theorem fG.nil:fG (fun _=>none) 0:=⟨[],yi,rfl,fun k=>by simp⟩
theorem fG.new {f:ah→Option ah} {n:Nat} {k v:ah} (h:fG f n) (I:f k=none):fG (jm f k v) (n+1):=by
 obtain ⟨l,E,rfl,C⟩:=h;have hn:k∉l:=fun hm=>by obtain ⟨u,hu⟩:=(C k).2 hm; rw [I] at hu; cases hu
 refine ⟨k::l,sG.2 ⟨hn,E⟩,U,fun q=> ?_⟩;unfold jm;by_cases A:q=k
 · subst A; simp
 · rw [if_neg A,C,ew]; simp [A]
theorem fG.fB {f:ah→Option ah} {n:Nat} {k v u:ah} (h:fG f n) (I:f k=some u):fG (jm f k v) n:=by
 obtain ⟨l,E,rfl,A⟩:=h;refine ⟨l,E,U,fun q=> ?_⟩;unfold jm;by_cases C:q=k
 · subst C; rw [if_pos rfl]; exact ⟨fun _=>(A q).1 ⟨u,I⟩,fun _=>⟨v,rfl⟩⟩
 · rw [if_neg C,A]
theorem fG.zero {f:ah→Option ah} (h:fG f 0) (k:ah):f k=none:=by
 obtain ⟨l,E,A,C⟩:=h;have :l= []:=List.length_eq_zero_iff.1 A;subst this;cases hf:f k with
 | none=>rfl
 | some v=>exact absurd ((C k).1 ⟨v,hf⟩)<|by simp
theorem cJ.eT {h:Array Obj} {b:Nat} {bj:ah→Prop} {f:ah→Option ah} (hm:cJ h b bj f):∃ es c,h[b]? =some (.map es c)∧fG f es.size:=by
 obtain ⟨es,c,E,_,A⟩:=hm;refine ⟨es,c,E,es.toList.map (·.key),A.nd,by simp,fun k=> ?_⟩;rw [iU];exact ⟨fun ⟨v,I⟩=>let ⟨e,he,C,_⟩:=(A.iff k v).1 I; ⟨e,he,C⟩,fun ⟨e,he,C⟩=>⟨e.val,(A.iff k _).2 ⟨e,he,C,U⟩⟩⟩
theorem ja.del {es:List MapEntry} {bj:ah→Prop} {f:ah→Option ah} {i:Nat} {e:MapEntry} (h:ja es bj f) (hi:es[i]? =some e):ja (es.eraseIdx i) bj (mX f e.key) where
 ks x E:=h.ks x<|BN E
 nd:=IA (BG _<|IG _ _) h.nd
 iff k u:=by
  have U:∀ {j:Nat} {x:MapEntry},es[j]? =some x→x.key=e.key→j=i:=fun {j x} C I=>by
   have O:=(dX.1 C).1;exact (BJ (by simpa using O) h.nd).1<|by rw [ij,ij,C,hi,e7,e7,I]
  unfold mX;by_cases I:k=e.key
  · subst I;rw [if_pos rfl];constructor
    · intro A; cases A
    · rintro ⟨x,E,A,J⟩;obtain ⟨j,C,M⟩:=IW.1 E;exact absurd (U M A) C
  · rw [if_neg I,h.iff];constructor
    · rintro ⟨x,E,A,J⟩;obtain ⟨j,C⟩:=BK E;have L:j≠i:=fun L=>by subst L; rw [hi] at C; cases C; exact I A.symm
      exact ⟨x,IW.2 ⟨j,L,C⟩,A,J⟩
    · rintro ⟨x,E,A,J⟩;exact ⟨x,BN E,A,J⟩
theorem jB.del {es:List MapEntry} {c:Nat} (h:jB es c) (i:Nat):jB (es.eraseIdx i) c:=
 ⟨fun e he=>h.lt e (BN he),IA (BG _<|IG _ _) h.nd⟩
theorem DS {α:Type} {p:α→Bool} :∀ {l:List α} {i:Nat} {x:α},l[i]? =some x→p x=false→(l.eraseIdx i).filter p=l.filter p
 | a::l,0,x,h,hp=>by
   simp only [ky,bR] at h;subst h;simp [hp]
 | a::l,i+1,x,h,hp=>by
   simp only [jZ] at h;simp only [List.eraseIdx_cons_succ,uE,DS h hp]
section
variable {P:av} {N:Fm} {σ:Nat→ah} {w:ai} {dst:Option Nat} {ty:au} {pos :String} {af:Array cH} {g:Option (Nat×Bool)} {x y z:bA} {K:(Nat→ah)→ai→Prop}
variable {t k e:au} {bj:ah→Prop} {b:Nat} {f:ah→Option ah} {kx v zv:ah}
theorem Qu (Z:P.underlying t=some (.map k e)) (A:lQ P k bj) (hm:cJ w.heap b bj f) (hi:bj kx):
 ∃ w',(sB t (.map<|some b) kx v).run P w= .ok () w'∧Md (fun j=>j=b) w w'∧cJ w'.heap b bj (jm f kx v):=by
 obtain ⟨es,c,hr,C,L⟩:=hm;have hb:=(cr.1 hr).1;rcases A.key.find w kx es.toList hi L.ks with ⟨I,ac⟩ | ⟨j,e',I,E,J⟩
 · refine ⟨{w with heap:=w.heap.setIfInBounds b<|.map (es.push {key:=kx,val:=v,born:=c})<|c+1},by simp [sB,bS Z,run_getObj_map hr,A.key.check _ w kx hi,I,setObj,lK,hr],⟨U,U,by simp,fun i _ O=>by simp only; rw [ny (fun e=>O e.symm)]⟩,es.push {key:=kx,val:=v,born:=c},c+1,by simp only; rw [oC hb],?_,?_⟩
   · rw [xT]; exact C.push
   · rw [xT]; exact L.push hi ac
 · have V:es[j]? =some e':=by simpa using E
   have ae:(es.modify j fun e=> {e with key:=kx,val:=v})=es.modify j fun e=> {e with val:=v} :=by
    apply xN;intro i;rw [xQ,xQ];by_cases M:j=i
    · subst M; rw [if_pos rfl,if_pos rfl,V,← J]; rfl
    · rw [if_neg M,if_neg M]
   refine ⟨{w with heap:=w.heap.setIfInBounds b<|.map (es.modify j fun e=> {e with key:=kx,val:=v}) c},?_,⟨U,U,by simp,fun i _ O=>by simp only; rw [ny (fun e=>O e.symm)]⟩,es.modify j fun e=> {e with val:=v},c,by simp only; rw [oC hb,ae],⟨fun x aa=> ?_,?_⟩,?_⟩
   · have ad:=A.stays w kx hi;simp [sB,bS Z,run_getObj_map hr,A.key.check _ w kx hi,I,V,J,ad,setObj,lK,hr]
   · rw [ur] at aa;rcases (rj E x).1 aa with rfl | ⟨i,_,ab⟩
     · exact C.lt e'<|kX E
     · exact C.lt x<|kX ab
   · rw [ur,E8 (fun e:MapEntry=> {e with val:=v}) (·.born) (fun _=>rfl)]; exact C.nd
   · rw [ur,← J]; exact L.Pd E
theorem xy (L:P.underlying t=some (.map k e)) (A:lQ P k bj) (hm:cJ w.heap b bj f) (M:ev N σ x= .map (some b)) (O:ev N σ y=kx) (V:ev N σ z=v) (hi:bj kx)
 (Z:∀ w',Md (fun j=>j=b) w w'→cJ w'.heap b bj (jm f kx v)→K σ w'):cy P N ⟨none,.mapUpdate t x y z,ty,pos,af,g⟩ σ w K:=by
 obtain ⟨w',C,E,I⟩:=Qu (v:=v) L A hm hi;have J:(execOp (ev N σ) ⟨none,.mapUpdate t x y z,ty,pos,af,g⟩).run P w= .ok .skip w':=by
  simp [execOp,M,O,V,C]
 unfold cy iB;rw [ej,J];exact ⟨σ,U,Z w' E I⟩
theorem Lj {kt:au} (aj:P.underlying t=some (.map k e)) (I:lQ P k bj) (hm:cJ w.heap b bj f) (hi:bj kx) (av:ev N σ x= .map (some b)) (aw:ev N σ y=kx):
 ∃ w',(execOp (ev N σ) ⟨dst,.call ⟨.builtin .delete,#[x,y],#[t,kt]⟩,ty,pos,af,g⟩).run P w= .ok (.value undef) w'∧Md (fun j=>j=b) w w'∧cJ w'.heap b bj (mX f kx)∧
   ∀ r left E,E.1=kx→jb w.heap r b left E→im w'.heap r b left :=by
 have ag:∀ {w':ai},(sA #[t,kt] ty #[.map (some b),kx]).run P w= .ok undef w'→(execOp (ev N σ) ⟨dst,.call ⟨.builtin .delete,#[x,y],#[t,kt]⟩,ty,pos,af,g⟩).run P w= .ok (.value undef) w':=by
  intro w' h;simp [execOp,resolve,invoke,builtin,av,aw,h]
 obtain ⟨es,c,hr,L,A⟩:=hm;have hb:=(cr.1 hr).1;rcases I.key.find w kx es.toList hi A.ks with ⟨J,aq⟩ | ⟨j,e',J,Z,ac⟩
 · have O:f kx=none:=by
    cases O:f kx with
    | none=>rfl
    | some u=>obtain ⟨al,an,am,_⟩:=(A.iff kx u).1 O; exact absurd am<|aq al an
   have ah:w.heap.setIfInBounds b (.map es c)=w.heap:=by
    apply xN;intro i;rw [Array.getElem?_setIfInBounds];by_cases ad:b=i
    · subst ad; rw [if_pos rfl,if_pos hb,hr]
    · rw [if_neg ad]
   refine ⟨{w with heap:=w.heap.setIfInBounds b<|.map es c},ag ?_,⟨U,U,by simp,fun i _ aa=>by simp only; rw [ny (fun e=>aa e.symm)]⟩,?_,fun r left E ae M=> ?_⟩
   · simp [sA,bS aj,run_getObj_map hr,I.key.check _ w _ hi,J,setObj,lK,hr];rfl
   · simp only [ah]; rw [Ll O]; exact ⟨es,c,hr,L,A⟩
   · simp only [ah]; exact M.rk
 · have aB:=(dX.1 Z).1;have C:(es.eraseIdxIfInBounds j).toList=es.toList.eraseIdx j:=by simp
   refine ⟨{w with heap:=w.heap.setIfInBounds b<|.map (es.eraseIdxIfInBounds j) c},ag ?_,⟨U,U,by simp,fun i _ aa=>by simp only; rw [ny (fun e=>aa e.symm)]⟩,⟨es.eraseIdxIfInBounds j,c,by simp only; rw [oC hb],by rw [C]; exact L.del j,by rw [C,← ac]; exact A.del Z⟩,fun r left E ae M=> ?_⟩
   · simp [sA,bS aj,run_getObj_map hr,I.key.check _ w _ hi,J,setObj,lK,hr];rfl
   · obtain ⟨aA,c2,seen,ab,m1,ak,aC,ax,ay,az⟩:=M;rw [hr] at ak; cases ak;have ar:r≠b:=fun h=>by subst h; rw [m1] at hr; cases hr
     have ji:ab.key=e'.key:=by rw [ac,← ae,← az]
     obtain ⟨i,V⟩:=BK ay;have ao:i=j:=by
      have ap:=(dX.1 V).1;exact (BJ (by simpa using ap) A.nd).1<|by rw [ij,ij,V,Z,e7,e7,ji]
     subst ao;refine ⟨es.eraseIdxIfInBounds i,c,seen.push ab.born,c,?_,bf _,?_,by rw [C]; exact L.del i,?_⟩
     · simp only; rw [ny (fun e=>ar e.symm)]; exact m1
     · simp only; rw [oC hb]
     · rw [← ax];unfold leftOf;rw [ss,ss,C,DS V (by simp)]
theorem C8 {kt:au} (M:P.underlying t=some (.map k e)) (C:lQ P k bj) (hm:cJ w.heap b bj f) (O:ev N σ x= .map (some b)) (U:ev N σ y=kx) (hi:bj kx)
 (V:∀ w',Md (fun j=>j=b) w w'→cJ w'.heap b bj (mX f kx)→(∀ r left A,A.1=kx→jb w.heap r b left A→im w'.heap r b left)→K (dq σ dst undef) w'):cy P N ⟨dst,.call ⟨.builtin .delete,#[x,y],#[t,kt]⟩,ty,pos,af,g⟩ σ w K:=by
 obtain ⟨w',E,I,J,L⟩:=Lj (dst:=dst) (ty:=ty) (pos :=pos) (af:=af) (g:=g) (kt:=kt) M C hm hi O U;exact jU E<|V w' I J L
theorem vW {at_:Array au} {n:Nat} (C:P.underlying t=some (.map k e)) (ha:at_= #[t]) (E:ev N σ x= .map (some b)) (hm:cJ w.heap b bj f) (hn:fG f n):
 (execOp (ev N σ) ⟨dst,.call ⟨.builtin .len,#[x],at_⟩,ty,pos,af,g⟩).run P w= .ok (.value<|.int .i64 n) w:=by
 obtain ⟨es,c,hr,A⟩:=hm.eT;have :=EN (dst:=dst) (ty:=ty) (pos :=pos) (af:=af) (g:=g) C ha E hr;rw [hn.uniq A]; exact this
end
end Go.Hb
end
section
namespace Go.Hb
open Classical
theorem pN {a b:List UInt8} (h:str a=str b):a=b:=by unfold str at h; cases h; rfl
noncomputable def mT (g:List UInt8→Option Int):ah→Option ah:=fun v=>if h:∃ x,v=str x then (g h.choose).map fun n=> .int .i64 n else none
variable {g q a b:List UInt8→Option Int} {x:List UInt8} {n:Int} {left left':List (ah×ah)}
theorem iK (g:List UInt8→Option Int) (x:List UInt8):mT g (str x)=(g x).map fun n=> .int .i64 n:=by
 have h:∃ y,str x=str y:=⟨x,rfl⟩
 unfold mT;rw [dif_pos h,← pN h.choose_spec]
theorem vY {v:ah} (h:¬dT v):mT g v=none:=dif_neg h
theorem z7 {h:ah→Option ah} (C:∀ x,h (str x)=(g x).map fun n=> .int .i64 n) (E:∀ v,¬dT v→h v=none):h=mT g:=by
 funext v;by_cases A:dT v
 · obtain ⟨x,rfl⟩:=A; rw [C,iK]
 · rw [E v A,vY A]
theorem q8:mT (fun _=>none)=fun _=>none:=(z7 (fun x=>rfl) fun v _=>rfl).symm
theorem q9:jm (mT g) (str x) (.int .i64 n)=mT (fun y=>if y=x then some n else g y):=by
 refine z7 (fun y=> ?_) (fun v A=> ?_)
 · unfold jm;by_cases e:y=x
   · subst e; simp
   · rw [if_neg (fun h=>e<|pN h),iK,if_neg e]
 · unfold jm;rw [if_neg (fun h=>A ⟨x,h⟩),vY A]
theorem EV:mX (mT g) (str x)=mT (fun y=>if y=x then none else g y):=by
 refine z7 (fun y=> ?_) (fun v A=> ?_)
 · unfold mX;by_cases e:y=x
   · subst e; simp
   · rw [if_neg (fun h=>e<|pN h),iK,if_neg e]
 · unfold mX;rw [if_neg (fun h=>A ⟨x,h⟩),vY A]
theorem z8 {v u:ah} (h:mT g v=some u):∃ x n,v=str x∧u= .int .i64 n∧g x=some n:=by
 by_cases A:dT v
 · obtain ⟨x,rfl⟩:=A;rw [iK] at h;obtain ⟨n,C,E⟩:=iW.1 h;exact ⟨x,n,U,E.symm,C⟩
 · rw [vY A] at h; cases h
structure Lf (q:List UInt8→Option Int) (left :List (ah×ah)):Prop where
 ok:∀ p∈left,∃ x n,p=(str x,.int .i64 n)∧q x=some n
 nd:(left.map dj).Nodup
noncomputable def gV (left :List (ah×ah)) (a b:List UInt8→Option Int):List UInt8→Option Int:=fun x=>if str x∈left.map dj then a x else b x
theorem Lf.start (J:∀ p∈left,dT p.1) (hn:(left.map dj).Nodup) (I:∀ k v,mT q k=some v↔(k,v)∈left):Lf q left :=by
 refine ⟨fun p hp=> ?_,hn⟩;obtain ⟨k,v⟩:=p;obtain ⟨x,n,A,C,E⟩:=z8<|(I k v).2 hp;exact ⟨x,n,by rw [A,C],E⟩
theorem yV (E:∀ k v,mT q k=some v↔(k,v)∈left) (C:∀ x,q x=none→a x=b x):gV left a b=a:=by
 funext x;unfold gV;by_cases A:str x∈left.map dj
 · rw [if_pos A]
 · rw [if_neg A,C x];cases hq:q x with
   | none=>rfl
   | some n=>
     exfalso;apply A;have :(str x,.int .i64 n)∈left :=(E _ _).1<|by rw [iK,hq]; rfl
     exact iU.2 ⟨_,this,U⟩
theorem yU:gV [] a b=b:=by funext x; simp [gV]
theorem Lf.step {E:ah×ah} (h:Lf q left) (hp:left.Perm (E::left')):∃ x n,E=(str x,.int .i64 n)∧q x=some n∧Lf q left'∧str x∈left.map dj∧
 (∀ a b,gV left a b x=a x)∧∀ a b,gV left' a b=fun y=>if y=x then b x else gV left a b y:=by
 obtain ⟨x,n,rfl,I⟩:=h.ok E<|hp.mem_iff.2 lN;have C:=(hp.map dj).nodup_iff.1 h.nd;simp only [fZ,sG] at C;have hm:str x∈left.map dj:=(hp.map dj).mem_iff.2<|by simp
 refine ⟨x,n,U,I,⟨fun p hm=>h.ok p (hp.mem_iff.2<|mK _ hm),C.2⟩,hm,fun a b=>if_pos hm,fun a b=> ?_⟩;funext y;unfold gV;by_cases e:y=x
 · subst e; rw [if_neg C.1,if_pos rfl]
 · rw [if_neg e];have :str y∈left.map dj↔str y∈left'.map dj:=by
    rw [(hp.map dj).mem_iff];simp only [fZ,ew];exact ⟨fun h=>h.resolve_left fun h=>e (pN h),.inr⟩
   by_cases A:str y∈left.map dj
   · rw [if_pos A,if_pos (this.1 A)]
   · rw [if_neg A,if_neg (fun h=>A<|this.2 h)]
def eR {α β:Type} (R:α→β→Prop):List α→List β→Prop
 | [],[]=>True
 | a::l,b::m=>R a b∧eR R l m
 | _,_=>False
theorem eR.imp {α β:Type} {R S:α→β→Prop} (A:∀ a b,R a b→S a b):∀ {l:List α} {m:List β},eR R l m→eR S l m
 | [],[],_=>trivial
 | _::_,_::_,⟨h1,h2⟩=>⟨A _ _ h1,eR.imp A h2⟩
 | [],_::_,h=>h.elim
 | _::_,[],h=>h.elim
theorem eR.len {α β:Type} {R:α→β→Prop} :∀ {l:List α} {m:List β},eR R l m→l.length=m.length
 | [],[],_=>rfl
 | _::_,_::_,⟨_,h2⟩=>congrArg (· +1) h2.len
 | [],_::_,h=>h.elim
 | _::_,[],h=>h.elim
theorem eR.snoc {α β:Type} {R:α→β→Prop} {a:α} {b:β} (A:R a b):∀ {l:List α} {m:List β},eR R l m→eR R (l++ [a]) (m++ [b])
 | [],[],_=>⟨A,trivial⟩
 | _::_,_::_,⟨h1,h2⟩=>⟨h1,h2.snoc A⟩
 | [],_::_,h=>h.elim
 | _::_,[],h=>h.elim
theorem eR.pop {α β:Type} {R:α→β→Prop} {b:β} :∀ {l:List α} {m:List β},eR R l (m++ [b])→∃ A a,l=A++ [a]∧eR R A m∧R a b
 | [],[],h=>h.elim
 | [],_::_,h=>h.elim
 | [a],[],⟨h1,_⟩=>⟨[],a,rfl,trivial,h1⟩
 | _::_::_,[],⟨_,h2⟩=>h2.elim
 | a::l,b'::m,⟨h1,h2⟩=>by
   obtain ⟨A,x,rfl,C,E⟩:=eR.pop h2;exact ⟨a::A,x,U,⟨h1,C⟩,E⟩
noncomputable def fl (g:List UInt8→Option Int) (l:List (List UInt8)):List UInt8→Option Int:=fun x=>if x∈l then some ((g x).getD 0) else none
def gk (A:Int) (q:List UInt8→Option Int):List UInt8→Option Int:=fun x=>match q x with
 | some o=>if o=A then none else some o
 | none=>none
def eD (A:Int) (q g:List UInt8→Option Int):List UInt8→Option Int:=fun x=>match q x with
 | some _=>some A
 | none=>g x
def gx (q g:List UInt8→Option Int):List UInt8→Option Int:=fun x=>match q x with
 | some o=>if o=0 then none else some o
 | none=>g x
theorem FO {A:Int} (h:q x=none):eD A q g x=g x:=by unfold eD; rw [h]
theorem FP {A:Int} (h:q x=some n):eD A q g x=some A:=by unfold eD; rw [h]
def dh (g:List UInt8→Option Int) (n:Nat):Prop :=fG (mT g) n
theorem QJ:fl g []=fun _=>none:=by funext x; simp [fl]
theorem QI {l:List (List UInt8)} (h:x∉l):mT (fl g<|l++ [x])=jm (mT<|fl g l) (str x) (.int .i64<|(g x).getD 0):=by
 rw [q9];congr 1;funext y;unfold fl;by_cases e:y=x
 · subst e; simp
 · simp [e]
theorem QL {l:List (List UInt8)} (h:x∈l):fl g (l++ [x])=fl g l:=by
 funext y;unfold fl;by_cases e:y=x
 · subst e; simp [h]
 · simp [e]
noncomputable def gr (g:List UInt8→Option Int) (l:List (List UInt8)):List UInt8→Option Int:=fun x=>if x∈l then some 1 else g x
theorem O0:gr g []=g:=by funext x; simp [gr]
theorem Gg {l:List (List UInt8)} :mT (gr g<|l++ [x])=jm (mT<|gr g l) (str x) (.int .i64 1):=by
 rw [q9];congr 1;funext y;unfold gr;by_cases e:y=x
 · subst e; simp
 · simp [e]
theorem OZ {l:List (List UInt8)} {m:Nat} (A:dh (gr g l) m) (h:x∉l) (C:g x=none):dh (gr g<|l++ [x]) (m+1):=by
 unfold dh at A ⊢;rw [Gg];exact A.new<|by rw [iK]; simp [gr,h,C]
theorem Gh {l:List (List UInt8)} {m:Nat} (A:dh (gr g l) m) (h:x∈l∨∃ o,g x=some o):dh (gr g<|l++ [x]) m:=by
 unfold dh at A ⊢;rw [Gg];by_cases C:x∈l
 · exact A.fB (u:= .int .i64 1)<|by rw [iK]; simp [gr,C]
 · obtain ⟨o,E⟩:=h.resolve_left C;exact A.fB (u:= .int .i64 o)<|by rw [iK]; simp [gr,C,E]
theorem HC (g:List UInt8→Option Int) (l:List (List UInt8)) (x:List UInt8):(mT (fl g l)<|str x).getD (.int .i64 0)= .int .i64 (if x∈l then (g x).getD 0 else 0):=by
 rw [iK]; unfold fl;by_cases h:x∈l <;> simp [h]
theorem QK (g:List UInt8→Option Int) (l:List (List UInt8)) (x:List UInt8):(mT (fl g l)<|str x).isSome=decide (x∈l):=by
 rw [iK]; unfold fl;by_cases h:x∈l <;> simp [h]
theorem vX (g:List UInt8→Option Int) (x:List UInt8):(mT g<|str x).getD (.int .i64 0)= .int .i64 ((g x).getD 0):=by
 rw [iK]; cases g x <;> rfl
theorem Ef {l:List (List UInt8)} {i m:Nat} (h:∀ x∈l,x.length≤m) (hi:i < l.length):(l.getD i []).length≤m:=h _<|gK hi
theorem fG.congr {f h:ah→Option ah} {m:Nat} (I:fG f m) (he:∀ k,(∃ v,f k=some v)↔∃ v,h k=some v):fG h m:=by
 obtain ⟨l,A,C,E⟩:=I;exact ⟨l,A,C,fun k=>(he k).symm.trans<|E k⟩
theorem tG (g:List UInt8→Option Int) (v:ah):(∃ u,mT g v=some u)↔∃ x o,v=str x∧g x=some o:=by
 constructor
 · rintro ⟨u,hu⟩;obtain ⟨x,o,A,_,C⟩:=z8 hu;exact ⟨x,o,A,C⟩
 · rintro ⟨x,o,rfl,h⟩;exact ⟨_,by rw [iK,h]; rfl⟩
theorem dh.congr {m:Nat} (I:dh a m) (he:∀ x,(∃ o,a x=some o)↔∃ o,b x=some o):dh b m:=by
 refine fG.congr I fun k=> ?_;rw [tG,tG];exact ⟨fun ⟨x,o,A,C⟩=>let ⟨E,h'⟩:=(he x).1 ⟨o,C⟩; ⟨x,E,A,h'⟩,fun ⟨x,o,A,C⟩=>let ⟨E,h'⟩:=(he x).2 ⟨o,C⟩; ⟨x,E,A,h'⟩⟩
noncomputable def c8 (A:Int) (g:List UInt8→Option Int) (l:List (List UInt8)):List UInt8→Option Int:=gk A<|fl g l
theorem FQ {C:Int} (hw:C≠0) {l:List (List UInt8)} {m:Nat} (I:dh (gr g l) m):dh (eD C (c8 C g l) g) m:=by
 refine I.congr fun x=> ?_;unfold eD c8 gk fl gr;by_cases A:x∈l
 · cases hg:g x with
   | none=>simp [A,Ne.symm hw]
   | some o=>
     by_cases E:o=C
     · simp [A,E]
     · simp [A,E]
 · simp [A]
theorem dh.pos {m:Nat} (E:dh q m) (hm:m≠0):∃ x o,q x=some o:=by
 obtain ⟨l,I,A,C⟩:=E;cases l with
 | nil=>exact absurd A.symm hm
 | cons k l=>
   obtain ⟨x,o,_,h⟩:=(tG q k).1<|(C k).2 lN;exact ⟨x,o,h⟩
theorem Od {A:Int} (hw:A≠0) (C:∀ x,g x≠some 0) (x:List UInt8):eD A q g x≠some 0:=by
 unfold eD;split
 · intro h; exact hw<|gF h
 · exact C x
theorem yG {A:Int} {l:List (List UInt8)} (E:∀ x,g x≠some 0):gx (c8 A g l) (eD A (c8 A g l) g)=g:=by
 funext x;unfold gx eD c8 gk fl;by_cases C:x∈l
 · cases hgx:g x with
   | none=>by_cases h:(0:Int)=A <;> simp [C,h]
   | some o=>
     have I:o≠0:=fun h=>E x<|by rw [hgx,h]
     by_cases h:o=A <;> simp [C,h,I]
 · simp [C]
theorem JL (A:∀ x,g x≠some 0) (x:List UInt8):gx q g x≠some 0:=by
 unfold gx;split
 · rename_i o _;by_cases h:o=0
   · rw [if_pos h]; simp
   · rw [if_neg h]; intro C; exact h<|gF C
 · exact A x
theorem MO (A:∀ k v,mT q k=some v↔(k,v)∈left) (y:List UInt8):(∃ o,q y=some o)↔y∈([]:List (List UInt8))∨str y∈left.map dj:=by
 constructor
 · rintro ⟨o,I⟩;exact .inr<|iU.2 ⟨_,(A (str y)<|.int .i64 o).1 (by rw [iK,I]; rfl),U⟩
 · rintro (h | h)
   · cases h
   · obtain ⟨⟨k,v⟩,hp,hk⟩:=iU.1 h;obtain ⟨x,o,C,_,E⟩:=z8<|(A k v).2 hp;have :x=y:=pN<|C.symm.trans hk;exact ⟨o,by rw [← this]; exact E⟩
theorem wo {α:Type} :∀ {a b:List α},a.Nodup→(∀ x∈a,x∈b)→a.length≤b.length
 | [],_,_,_=>Nat.zero_le _
 | x::a,b,hn,hs=>by
   rw [sG] at hn;obtain ⟨s,t,rfl⟩:=List.append_of_mem<|hs x lN;have :=wo (b:=s++t) hn.2 fun y A=>by
    have C:=hs y<|mK _ A;rw [dz,ew] at C;rw [dz];rcases C with h | rfl | h
    · exact .inl h
    · exact absurd A hn.1
    · exact .inr h
   simp only [bp,cn] at this ⊢;omega
theorem dh.le {m:Nat} {l:List (List UInt8)} (C:dh q m) (hn:l.Nodup) (E:∀ x∈l,∃ o,q x=some o):l.length≤m:=by
 obtain ⟨ks,M,rfl,A⟩:=C;have h:=wo (a:=l.map str) (b:=ks) (List.pairwise_map.2<|hn.imp fun h e=>h<|pN e) fun v J=>by
  obtain ⟨x,L,rfl⟩:=iU.1 J;obtain ⟨o,I⟩:=E x L;exact (A _).1 ⟨.int .i64 o,by rw [iK,I]; rfl⟩
 rwa [qo] at h
end Go.Hb
end
section
namespace Go.Hb
section
variable {P:av} {N:Fm} {σ:Nat→ah} {w:ai} {dst:Option Nat} {ty:au} {pos :String} {af:Array cH} {g:Option (Nat×Bool)} {x y:bA}
theorem DJ (d:Nat) {t e:au} {a:Option Addr} {n c:Nat} (hu:P.underlying t=some (.slice e)):(Op.equalIn (d+1) t (.slice a n c)<|.slice none 0 0).run P w= .ok a.isNone w:=by
 cases a <;> simp [Op.equalIn,bS hu]
end
theorem N7 {w:ai} {B e size n k C:Nat} {a:Option Addr} {xs:List ah} (h:w.ownsRow B e size (.slice a n C) n xs) (E:k≤n) (ha:a≠none):w.ownsRow B e size (.slice a k C) k (xs.take<|k*size):=by
 obtain ⟨h0,h⟩:=h;refine ⟨by rw [bX,h0]; exact sI (qw _ E),?_⟩;rcases h with ⟨A,_⟩ | ⟨g,cap,cur,A,I,J,V,L,M,O⟩
 · simp only [mI] at A; exact absurd A.1 ha
 · simp only [mI,true_and] at A;obtain ⟨rfl,rfl⟩:=A;refine .inr ⟨g,_,cur,U,I,J,ag,L,M,?_⟩;rw [← O,List.take_take,sI (qw _ E)]
section
variable {P:av} {N:Fm} {σ:Nat→ah} {w:ai} {dst:Option Nat} {ty:au} {pos :String} {af:Array cH} {g:Option (Nat×Bool)} {x y z u:bA} {K:(Nat→ah)→ai→Prop}
theorem GC {t n len cap:Nat} {a:Option Addr} {k I J:IntKind} {i j m:Nat} (he:dH P t=some n) (A:ev N σ x= .slice a len cap) (C:ev N σ y= .int k (i:Nat)) (E:ev N σ z= .int I (j:Nat)) (hu:ev N σ u= .int J (m:Nat)) (h:i≤j∧j≤m∧m≤cap):
 (execOp (ev N σ) ⟨dst,.slice t x (some y) (some z) (some u),ty,pos,af,g⟩).run P w= .ok (.value<|.slice (dV a m i n) (j - i)<|m - i) w:=by
 have L:(0:Int)≤(i:Int):=ag;have M:(0:Int)≤(j:Int):=ag;have O:(0:Int)≤(m:Int):=ag;unfold dH at he;cases hd:P.underlying t with
 | none=>rw [hd] at he; cases he
 | some d=>
   rw [hd] at he;cases d <;> first | (cases he; done) | skip
   rename_i e;cases hi':P.info? e with
   | none=>simp [hi'] at he
   | some q=>
     simp only [hi',e7,bR] at he;subst he;simp only [execOp,p7,Instr.slice,A,C,E,hu,e7,mG,Instr.sliceBound,asIntOf];simp [bS hd,eh hi',sizeOf,h.1,h.2.1,h.2.2,dV]
theorem JG {t e size bytes B n m A c C:Nat} {xs news:List ah} {a:Option Addr} (ac:eJ P t e size bytes=true) (V:w.ownsRow B e size (.slice (some ⟨C,0,none⟩) n A) n xs) (ae:ev N σ x= .slice (some ⟨C,0,none⟩) n A)
 (ag:ev N σ y= .slice a m c) (M:aU w.heap a news) (ha:a≠none) (U:news.length=m*size) (O:news.all Value.oneCell'=true) (aa:n+m≤A)
 (k:∀ w',Md (fun q=>q=C) w w'→w'.ownsRow B e size (.slice (some ⟨C,0,none⟩) (n+m) A) (n+m) (xs++news)→K (dq σ dst<|.slice (some ⟨C,0,none⟩) (n+m) A) w'):
 cy P N ⟨dst,.call ⟨.builtin .append,#[x,y],#[t,t]⟩,ty,pos,af,g⟩ σ w K:=by
 obtain ⟨hu,i,zv,hi,ak,ab,ai,al,aj⟩:=ow ac;obtain ⟨ad,rfl⟩:∃ ad,a=some ad:=by cases a with | none=>exact absurd rfl ha | some ad=>exact ⟨ad,rfl⟩
 have hn:∀ j v,news[j]? =some v→w.cell? (ad.add j)=some v:=fun j v J=>by
  have L:news≠[]:=fun e=>by rw [e] at J; simp at J
  have E:=M.ok L;simp only [bR] at E;rw [E,gw,j4]; exact M.aO j v J
 obtain ⟨w',hr,E,I⟩:=Go.run_append_fits (P:=P) (w:=w) B t ty e i size hu hi ab C n A xs V ad m c news U hn (sR O) aa;refine jU (w':=w') (v:= .slice (some ⟨C,0,none⟩) (n+m) A) ?_<|k w' ⟨I.os,I.output,I.size,fun q Z L=>I.block q Z fun e=>L<|gF e⟩ E;simp [execOp,resolve,invoke,builtin,ae,ag,hr]
end
end Go.Hb
end
section
namespace Go.Hb
theorem Gv {L:List ah} {o:Nat} {v:ah} (h:o < L.length):(L.set o v).take (o+1)=L.take o++ [v]:=by grind [List.set_eq_take_append_cons_drop,I7,bX,sI,Nat.add_sub_cancel_left,iV]
theorem Gu {L:List ah} {o m:Nat} {v:ah} (h:o < m):(L.set o v).drop m=L.drop m:=by
 rw [List.drop_set,if_pos h]
theorem O8 (b e:Nat):∀ (vs:List ah) (o:Nat) (L:List ah) (w:ai),w.heap[b]? =some (.cells L.toArray e (0,0))→o+vs.length≤L.length→
 (w.setCells b o vs).heap[b]? =some (.cells (L.take o++vs++L.drop (o+vs.length)).toArray e (0,0))∧Md (fun k=>k=b) w (w.setCells b o vs):=by
 intro vs
 induction vs with
 | nil=>intro o L w hb _; exact ⟨by simpa [World.setCells] using hb,Md.refl _ _⟩
 | cons v r ih=>
   intro o L w hb M;simp only [cn] at M;have A:(w.setCell ⟨b,o,none⟩ v).heap[b]? =some (.cells (L.set o v).toArray e (0,0)):=by
    have O:=(cr.1 hb).1;have U:w.heap[b]= .cells L.toArray e (0,0):=(cr.1 hb).2;simp only [x8];rw [Array.getElem?_eq_getElem (by simpa using O),Array.getElem_modify];simp [U,List.setIfInBounds_toArray]
   have I:Md (fun k=>k=b) w (w.setCell ⟨b,o,none⟩ v):=⟨rfl,rfl,by simp [x8],fun k _ J=>Below.heap_setCell w _ v k J⟩
   obtain ⟨C,E⟩:=ih (o+1) (L.set o v) _ A<|by rw [List.length_set]; omega
   refine ⟨?_,Md.trans I E⟩;show ((w.setCell ⟨b,o,none⟩ v).setCells b (o+1) r).heap[b]? =_;rw [C,Gv ag,Gu ag,cn,show o+1 +r.length=o+(r.length+1) from by omega];simp
section
variable {P:av} {N:Fm} {σ:Nat→ah} {w:ai} {ty:au} {pos :String} {af:Array cH} {g:Option (Nat×Bool)} {x:bA} {K:(Nat→ah)→ai→Prop}
theorem Ky {t e B n A c' m:Nat} {a:Option Addr} {xs:List ah} {z:ah} (al:P.underlying t=some (.slice e)) (an:zeroV P e=some z) (J:z.oneCell'=true) (ad:w.ownsRow B e 1 (.slice a n A) n xs) (ha:a≠none)
 (L:ev N σ x= .slice (dV a A n 1) m c') (hm:0 < m∧n+m≤A) (ao:∀ w',Md (fun q=>(Value.slice a n A).ownBlock=some q) w w'→w'.ownsRow B e 1 (.slice a n A) n xs→K σ w'):
 cy P N ⟨none,.call ⟨.builtin .clear,#[x],#[t]⟩,ty,pos,af,g⟩ σ w K:=by
 obtain ⟨h0,h⟩:=ad;rcases h with ⟨h,rfl⟩ | ⟨C,ap,cur,h,Z,ab,hle,aa,ak,am⟩
 · simp only [mI] at h; exact absurd h.1 ha
 · simp only [mI,true_and] at h;obtain ⟨rfl,rfl⟩:=h;have aj:dV (some ⟨C,0,none⟩) A n 1=some ⟨C,n,none⟩:=by
    unfold dV; rw [if_neg ag]; simp [gw]
   rw [aj] at L;have I:w.heap[C]? =some (.cells cur.toList.toArray e (0,0)):=by simpa using ab
   have E:cur.toList.length=A*1:=by rw [Array.length_toList]; exact ak
   have ai:=Lib.run_clear_slice (P:=P) w t e ty z al (fun w=>Bs an w) (by cases z <;> first | rfl | (cases J; done)) J C n m c' hm.1
    (fun j ac=>by rw [j4,eC I]; simp; omega) (fun j ac=>by simp only [World.frozen?,show w.heap[C]? =_ from I]; simp)
   obtain ⟨O,V⟩:=O8 C e (eM m z) n cur.toList w I<|by rw [BM,E]; omega
   refine jU (w':=w.setCells C n<|eM m z) (v:= .tuple #[]) ?_ (ao _ (V.mono fun q _ ae=>by subst ae; rfl) ⟨h0,.inr ⟨C,A,_,U,Z,O,hle,aa,?_,?_⟩⟩)
   · simp [execOp,resolve,invoke,builtin,L,ai]
   · simp only [fP,bp,bX,List.length_drop,BM,E]; omega
   · rw [BM,Nat.mul_one];have M:(cur.toList.take n++eM m z++cur.toList.drop (n+m)).toArray.toList=cur.toList.take n++(eM m z++cur.toList.drop (n+m)):=List.append_assoc _ _ _;rw [M,I7,bX,E,sI ag,sK,List.take_zero,List.append_nil,iV (by rw [bX]; omega),← am,Nat.mul_one]
end
end Go.Hb
end
namespace Go.Hb
def ns (g:List UInt8→Option Int) (x:List UInt8):List UInt8:=(if 0 < (g x).getD 0 then 43 else 45)::(eG x++ [10])
def gQ (g:List UInt8→Option Int) (xs:List (List UInt8)):List UInt8:=xs.flatMap<|ns g
theorem Hi {g:List UInt8→Option Int} {xs:List (List UInt8)} {i:Nat} (h:i < xs.length):gQ g (xs.take<|i+1)=gQ g (xs.take i)++ns g (xs.getD i []):=by
 unfold gQ;rw [ib xs i [] h,List.flatMap_append,List.flatMap_singleton]
theorem xu {g:List UInt8→Option Int} :∀ {xs:List (List UInt8)},(∀ x∈xs,x.length≤64)→(gQ g xs).length≤xs.length*130
 | [],_=>bf _
 | x::xs,h=>by
   have A:=xu (g:=g) (xs:=xs) fun y C=>h y<|mK _ C;have E:=sj x;have I:=h x lN;unfold gQ at A ⊢;rw [List.flatMap_cons,bp];simp only [ns,cn,bp,fq];omega
def gU (g:List UInt8→Option Int) (xs:List (List UInt8)):Prop :=xs.Nodup∧∀ y,y∈xs↔∃ o,g y=some o
structure eA (g:List UInt8→Option Int):Prop where
 val:∀ x o,g x=some o→o=1∨o= -1
 wd:∀ x o,g x=some o→dL x=true
theorem LX {g:List UInt8→Option Int} {xs E:List (List UInt8)} (A:gU g xs) (C:gU g E):xs.Perm E:=(I2 A.1 C.1).2 fun y=>(A.2 y).trans (C.2 y).symm
theorem DU {g:List UInt8→Option Int} {xs A:List (List UInt8)} (I:gU g xs) (J:gU g A) (L:xs.Pairwise fun a b=>a≤b) (M:A.Pairwise fun a b=>a≤b):xs=A:=
 List.Perm.eq_of_pairwise (fun a b _ _ C E=>List.le_antisymm C E) L M (LX I J)
theorem eA.nil:eA fun _=>none:=⟨fun x o h=>(by cases h),fun x o h=>by cases h⟩
theorem eA.put {A:Int} {g:List UInt8→Option Int} {l:List (List UInt8)} (E:eA g) (hw:A=1∨A= -1) (J:∀ x∈l,dL x=true):eA (eD A (c8 A g l) g):=by
 refine ⟨fun x o h=> ?_,fun x o h=> ?_⟩
 · unfold eD at h;split at h
   · cases h; exact hw
   · exact E.val x o h
 · unfold eD at h;split at h
   · rename_i q C;unfold c8 gk fl at C;by_cases I:x∈l
     · exact J x I
     · rw [if_neg I] at C; cases C
   · exact E.wd x o h
theorem Ko {A:Int} {g:List UInt8→Option Int} {l:List (List UInt8)} {x:List UInt8} {o:Int} (hw:A≠0) (h:c8 A g l x=some o):eD A (c8 A g l) g≠g:=fun e=>by
 have C:=congrFun e x;rw [FP h] at C;unfold c8 gk fl at h;by_cases E:x∈l
 · rw [if_pos E,← C] at h;simp at h
 · rw [if_neg E] at h; cases h
theorem dh.ge {q:List UInt8→Option Int} {m:Nat} {l:List (List UInt8)} (E:dh q m) (I:∀ x,(∃ o,q x=some o)→x∈l):m≤l.length:=by
 obtain ⟨ks,A,rfl,C⟩:=E;have h:=wo (a:=ks) (b:=l.map str) A fun v L=>by
  obtain ⟨x,o,rfl,J⟩:=(tG q v).1<|(C v).2 L;exact iU.2 ⟨x,I x ⟨o,J⟩,U⟩
 rwa [qo] at h
theorem gU.eT {g:List UInt8→Option Int} {xs:List (List UInt8)} {n:Nat} (A:gU g xs) (C:dh g n):xs.length=n:=by
 have E:=C.le A.1 fun x hm=>(A.2 x).1 hm;have I:=C.ge fun x h=>(A.2 x).2 h;omega
noncomputable def se (g:List UInt8→Option Int):List UInt8:= @dite _ (∃ xs,gU g xs∧xs.Pairwise fun a b=>a≤b) (Classical.propDecidable _) (fun h=>gQ g h.choose) fun _=> []
theorem A8 {g:List UInt8→Option Int} {xs:List (List UInt8)} (h:gU g xs) (C:xs.Pairwise fun a b=>a≤b):gQ g xs=se g:=by
 have A:∃ xs,gU g xs∧xs.Pairwise fun a b=>a≤b:=⟨xs,h,C⟩
 unfold se;rw [dif_pos A,DU h A.choose_spec.1 C A.choose_spec.2]
theorem eA.len {g:List UInt8→Option Int} (h:eA g):∀ x o,g x=some o→x.length≤64:=fun x o A=>(of_decide_eq_true<|h.wd x o A).2.1
theorem eA.nz {g:List UInt8→Option Int} (h:eA g):∀ x,g x≠some 0:=fun x e=>by rcases h.val x 0 e with h | h <;> cases h
def dG:List UInt8→Option Int:=fun _=>none
structure kB (g0:List UInt8→Option Int) (hist gs:List (List UInt8→Option Int)) (g:List UInt8→Option Int):Prop where
 len:gs.length=hist.length+1
 zero:gs.getD 0 dG=g0
 last:gs.getD hist.length dG=g
 back:∀ k,k < hist.length→gx (hist.getD k dG) (gs.getD (k+1) dG)=gs.getD k dG
 ok:∀ k,k < gs.length→eA (gs.getD k dG)∧∃ m,dh (gs.getD k dG) m∧m≤500
abbrev sN (hist gs:List (List UInt8→Option Int)) (g:List UInt8→Option Int):Prop :=kB (fun _=>none) hist gs g
theorem sN.start:sN [] [fun _=>none] fun _=>none:=
 ⟨rfl,rfl,rfl,fun k h=>by simp at h,fun k h=>by
  obtain rfl :k=0:=by simpa using h
  exact ⟨eA.nil,0,⟨[],yi,U,fun k=>⟨fun ⟨v,h⟩=>(by rw [List.getD_cons_zero,q8] at h; cases h),fun h=>by simp at h⟩⟩,ag⟩⟩
theorem nU {α:Type} {l m:List α} {i:Nat} {d:α} (h:i < l.length):(l++m).getD i d=l.getD i d:=by
 rw [cW,List.getElem?_append_left h,cW]
theorem vN {α:Type} {l:List α} {a d:α} {i:Nat} (h:i=l.length):(l++ [a]).getD i d=a:=by
 subst h;rw [cW,List.getElem?_append_right (bf _),sK]; rfl
theorem kB.one {g0:List UInt8→Option Int} {m:Nat} (C:eA g0) (A:dh g0 m) (hm:m≤500):kB g0 [] [g0] g0:=
 ⟨rfl,rfl,rfl,fun k h=>by simp at h,fun k h=>by
  obtain rfl :k=0:=by simpa using h
  exact ⟨C,m,A,hm⟩⟩
theorem kB.add {g0:List UInt8→Option Int} {hist gs:List (List UInt8→Option Int)} {g g' q:List UInt8→Option Int} {m:Nat} (h:kB g0 hist gs g) (I:eA g') (E:dh g' m) (hm:m≤500) (hb:gx q g'=g):kB g0 (hist++ [q]) (gs++ [g']) g':=by
 have J:=h.len;refine ⟨by simp only [bp,cn,fq]; omega,by rw [nU ag]; exact h.zero,by rw [bp,dC]; exact vN ag,fun k C=> ?_,fun k C=> ?_⟩
 · rw [bp,dC] at C;rcases dN k hist.length with A | A
   · rw [nU A,nU ag,nU ag]; exact h.back k A
   · obtain rfl :k=hist.length:=ag;rw [vN rfl,vN ag,nU ag,h.last]; exact hb
 · rw [bp,dC] at C;rcases dN k gs.length with A | A
   · rw [nU A]; exact h.ok k A
   · obtain rfl :k=gs.length:=ag;rw [vN rfl]; exact ⟨I,m,E,hm⟩
end Go.Hb
section
namespace Go.Hb
def iR (P:av) (N:Fm) (c:cj) (B:bM→Act→ai→Prop) (σ:Nat→ah) (w:ai):Prop :=c.wpIn (fe N.r) 0 P B (act N σ) w
def qb (N:Fm) (B:bM→Act→ai→Prop):bM→(Nat→ah)→ai→Prop :=fun e σ w=>B e (act N σ) w
section
variable {P:av} {N:Fm} {B:bM→Act→ai→Prop} {σ:Nat→ah} {w:ai}
theorem eK {x y:cj} (h:iR P N x (Exit.then (y.wpIn (fe N.r) 0 P B) B) σ w):iR P N (.seq x y) B σ w:=wpIn_seq h
theorem cD {y:cj} (h:iR P N y B σ w):qb N (Exit.then (y.wpIn (fe N.r) 0 P B) B) .normal σ w:=h
theorem prt {y:Act→ai→Prop} (h:qb N B .ret σ w):qb N (Exit.then y B) .ret σ w:=h
theorem AG (h:qb N B .ret σ w):iR P N .ret B σ w:=wpIn_ret h
theorem Px {x y:cj} (A:(Nat→ah)→ai→Prop) (h:iR P N x (Exit.then (fun a w=> ∃ σ,a=act N σ∧A σ w) B) σ w) (I:∀ σ w,A σ w→iR P N y B σ w):iR P N (.seq x y) B σ w:=by
 refine wpIn_seq<|wpIn_mono h ?_;intro e a w C;cases e with
 | normal=>obtain ⟨σ,rfl,E⟩:=C; exact I _ _ E
 | _=>exact C
theorem CI {A:(Nat→ah)→ai→Prop} (h:A σ w):qb N (Exit.then (fun a w=> ∃ σ,a=act N σ∧A σ w) B) .normal σ w:=⟨σ,rfl,h⟩
theorem Pe {c:cj} {L:List (Nat×ah)} (h:Sl σ L) (A:iR P N c B (ug σ L) w):iR P N c B σ w:=by rw [Ba h] at A; exact A
theorem eV {c:cj} (h:bU P N c (qb N B) σ w):iR P N c B σ w:=by
 unfold bU at h;refine wpIn_mono h ?_;intro e a w A;cases e with
 | panic c=>obtain ⟨σ,rfl,C⟩:=A; exact C σ fun _ _=>rfl
 | outgrown=>exact A.elim
 | _=>obtain ⟨σ,rfl,C⟩:=A; exact C
end
theorem pK (fn:jw) (args:List ah) (F:List Nat) (hn:bL args.length fn.ntmps=true):({tmps:=args.toArray++Array.replicate (fn.ntmps - args.toArray.size) undef,defers:= []} :Act)=act ⟨fn.ntmps,[],F,none⟩ (eE args):=by
 have E:args.length≤fn.ntmps:=by simpa using hn
 refine vf U fun i=> ?_;rw [kD];simp only [eE,cW,fP];by_cases A:i < args.length
 · rw [Array.getElem?_append_left (by simpa using A),if_pos ag];simp [A]
 · rw [Array.getElem?_append_right (by simpa using A)];simp only [fP,Array.getElem?_replicate];by_cases C:i < fn.ntmps
   · rw [if_pos ag,if_pos C,List.getElem?_eq_none ag]; rfl
   · rw [if_neg ag,if_neg C]
abbrev Bm (P:av) (fn:jw) (R:ah→ai→Prop):bM→Act→ai→Prop :=bodyPostM fX 0 P fn (fun e w'=> ∃ v,e= .returned v∧R v w')
theorem Dy {P:av} {f:eX} {N:Nat} {fn:jw} {c:cj} {args:List ah} {w:ai} {R:ah→ai→Prop} (F:List Nat) (C:P.funcs[f]? =some fn) (hb:fn.body=some c)
 (A:fn.ntmps=N) (hn:bL args.length N=true) (h:iR P ⟨N,[],F,none⟩ c (Bm P fn R) (eE args) w):aY P f args.toArray w R:=by
 subst A;refine callsIn_wide.1<|callsIn_of_wp_marks (F:=fX) (n:=0) C hb trivial ?_;rw [pK fn args F hn];exact h
section
variable {P:av} {n:Nat} {F:List Nat} {σ:Nat→ah} {w:ai} {fn:jw} {R:ah→ai→Prop}
theorem MV {e:bM} (he:e= .ret∨e= .normal) {v:ah} (hr:(results fn (act ⟨n,[],F,none⟩ σ).tmps).run P w= .ok v w) (A:R v w):qb ⟨n,[],F,none⟩ (Bm P fn R) e σ w:=by
 rcases he with rfl | rfl <;> exact ⟨v,hr,v,rfl,A⟩
theorem LO {t u:Nat} {v A:ah} (h:fn.results= #[.tmp t,.tmp u]) (E:ev ⟨n,[],F,none⟩ σ (.tmp t)=v) (hu:ev ⟨n,[],F,none⟩ σ (.tmp u)=A) (C:R (.tuple #[v,A]) w):qb ⟨n,[],F,none⟩ (Bm P fn R) .ret σ w:=
 MV (.inl rfl) (by rw [results_tmp2 h,kU,kU,E,hu]) C
theorem EJ {D:Nat} {v:ah} (A:w.heap[D]? =some (.deferred<|some [])) (hr:∀ w',(results fn (act ⟨n,[{target:= .collected D,args:= #[]}],F,none⟩ σ).tmps).run P w'= .ok v w') (C:R v (w.putObj D<|.deferred none)):
 qb ⟨n,[{target:= .collected D,args:= #[]}],F,none⟩ (Bm P fn R) .ret σ w:=
 ⟨FrameMode.noConfusion,.inl ⟨_,_,rfl,run_takeDeferred A,⟨v,hr _,v,rfl,C⟩⟩⟩
theorem LN {D t:Nat} {v:ah} (h:fn.results= #[.tmp t]) (E:ev ⟨n,[{target:= .collected D,args:= #[]}],F,none⟩ σ (.tmp t)=v) (A:w.heap[D]? =some (.deferred<|some [])) (C:R v (w.putObj D<|.deferred none)):
 qb ⟨n,[{target:= .collected D,args:= #[]}],F,none⟩ (Bm P fn R) .ret σ w:=
 EJ A (fun w'=>by rw [results_tmp h,kU,E]) C
theorem LP {D t u:Nat} {v A:ah} (h:fn.results= #[.tmp t,.tmp u]) (I:ev ⟨n,[{target:= .collected D,args:= #[]}],F,none⟩ σ (.tmp t)=v) (hu:ev ⟨n,[{target:= .collected D,args:= #[]}],F,none⟩ σ (.tmp u)=A)
 (C:w.heap[D]? =some (.deferred<|some [])) (E:R (.tuple #[v,A]) (w.putObj D<|.deferred none)):qb ⟨n,[{target:= .collected D,args:= #[]}],F,none⟩ (Bm P fn R) .ret σ w:=
 EJ C (fun w'=>by rw [results_tmp2 h,kU,kU,I,hu]) E
end
theorem rA {w:ai} {B t size n pp E:Nat} {v:ah} {xs:List ah} {cs:Array ah} {z:Nat×Nat} (h:w.ownsRow B t size v n xs) (hp:w.heap[pp]? =some (.cells cs E z)) (J:t≠E):v.ownBlock≠some pp:=by
 intro A;rcases h.2 with ⟨C,_⟩ | ⟨g,cap,cur,C,_,I,_⟩
 · rw [C] at A; simp [dM] at A
 · rw [C] at A;simp only [dM,bR] at A;subst A;rw [I] at hp;simp only [bR,Obj.cells.injEq] at hp;exact J hp.2.1
section
variable {P:av} {N:Fm} {σ:Nat→ah} {w:ai} {dst:Option Nat} {ty:au} {pos :String} {af:Array cH} {g:Option (Nat×Bool)} {x:bA} {K:(Nat→ah)→ai→Prop}
theorem vj {e:au} {v:ah} (C:ev N σ x=v) (A:v.oneCell'=true) (k:∀ b w',b=w.heap.size→Nw w w'→w'.heap[b]? =some (.cells [v].toArray e (0,0))→K (dq σ dst<|.pointer<|some ⟨b,0,none⟩) w'):
 cy P N ⟨dst,.box e x,ty,pos,af,g⟩ σ w K:=by
 refine lH (v:=fun b=> .pointer<|some ⟨b,0,none⟩) (ob:= .cells [v].toArray e (0,0)) ?_ k;have :=mj A;simp [execOp,Instr.box,C,this,newVar,newRow]
end
theorem pB (w:ai) (k:Nat) (o:Obj):Md (fun j=>j=k) w (w.putObj k o):=
 ⟨rfl,rfl,by simp [World.putObj],fun j _ A=>lL A⟩
def fR (w w':ai):Prop := ∀ (k:Nat) (o:Obj),w.heap[k]? =some o→((∀ cur e z,o≠.cells cur e z)∧∀ es c,o≠.map es c)→w'.heap[k]? =some o
theorem fR.trans {a b c:ai} (h:fR a b) (A:fR b c):fR a c:=fun k o C hn=>A k o (h k o C hn) hn
theorem fR.md {F:Nat→Prop} {w w':ai} (hm:Md F w w') (C:∀ k,F k→∃ cur e z,w.heap[k]? =some (.cells cur e z)):fR w w':=fun k o A hn=>by
 rw [hm.dA k (cr.1 A).1 (fun E=>by obtain ⟨c,e,z,h⟩:=C k E; rw [A] at h; exact hn.1 _ _ _<|gF h)]; exact A
theorem fR.wk {w w':ai} (hm:Wk w w'):fR w w':=fR.md hm fun _ h=>h.elim
theorem tP {w:ai} {B e size n:Nat} {v:ah} {xs:List ah} (h:w.ownsRow B e size v n xs):∀ k,v.ownBlock=some k→∃ cur e z,w.heap[k]? =some (.cells cur e z):=by
 intro k A;rcases h.2 with ⟨rfl,_⟩ | ⟨g,cap,E,rfl,_,C,_⟩
 · simp [dM] at A
 · simp only [dM,bR] at A; subst A; exact ⟨_,_,_,C⟩
def BZ {α:Type} (B:Nat) (A:List α→ai→Prop):Prop := ∀ pre W W' (F:Nat→Prop),A pre W→Md F W W'→(∀ k,F k→B≤k∧∀ cur e z,W.heap[k]?≠some (.cells cur e z))→A pre W'
section
variable {F:Nat→Prop} {W W':ai} {B:Nat}
theorem xo {b e:Nat} {cs:Array ah} {z:Nat×Nat} (h:W.heap[b]? =some (.cells cs e z)) (hm:Md F W W') (A:∀ k,F k→B≤k∧∀ cur e z,W.heap[k]?≠some (.cells cur e z)):W'.heap[b]? =some (.cells cs e z):=by
 rw [hm.dA b (cr.1 h).1 (fun C=>(A b C).2 _ _ _ h)]; exact h
theorem G1 {B' e size n:Nat} {v:ah} {xs:List ah} (h:W.ownsRow B' e size v n xs) (hm:Md F W W') (C:∀ k,F k→B≤k∧∀ cur e z,W.heap[k]?≠some (.cells cur e z)):W'.ownsRow B' e size v n xs:=
 cB h hm fun k I E=>by obtain ⟨c,e,z,A⟩:=tP h k I; exact (C k E).2 _ _ _ A
theorem G2 {w:ai} (h:Wk w W) (hm:Md F W W') (E:w.heap.size≤B) (A:∀ k,F k→B≤k∧∀ cur e z,W.heap[k]?≠some (.cells cur e z)):Wk w W':=Md.trans' h hm fun k I C=>by have :=(A k C).1; omega
end
def BV {α:Type} (P:av) (L:Nat) (lb:Array ah) (J:α→Array ah) (xs:List α) (I:ai→Prop):Prop :=
 ∀ (l:Nat) (A:List α→ai→Prop) (W:ai),A [] W→(∀ pre W,A pre W→I W)→(∀ pre C E,A pre C→Wk C E→A pre E)→
   (∀ pre x rest C,xs=pre++x::rest→A pre C→YieldAt fX 0 P l (J x) C fun e W'=>e= .returned (.bool true)∧A (pre++ [x]) W')→
   Calls P L (#[.func (.yield l) #[] #[]]++lb) W fun e W'=>(∃ v,e= .returned v)∧A xs W'
def F0 (R:ai→Prop):bM→(Nat→ah)→ai→Prop
 | .normal,_,w=>R w
 | _,_,_=>False
theorem yC (N:Fm):∀ (l:List (Tmp×ah)) (σ:Nat→ah),l.foldl (fun t p=>t.setIfInBounds p.1 p.2) (act N σ).tmps=(act N<|l.foldl (fun s p=>bI s p.1 p.2) σ).tmps:=by
 intro l
 induction l with
 | nil=>intro σ; rfl
 | cons p l ih=>
   intro σ;rw [uH,uH,← ih];congr 1;have :=congrArg Act.tmps<|gi N σ (some p.1) p.2;exact this
theorem Oy {α:Type} {P:av} {id n:Nat} {g:bA} {ps:Array Tmp} {ac body:cj} {Z:List Nat} {σ:Nat→ah} {w:ai} {B:bM→Act→ai→Prop} {aa:Nat} {lb:Array ah}
 (M:α→Array ah) (xs:List α) (ao:ai→Prop) (E:List α→ai→Prop) (aI:ev ⟨n,[],Z,none⟩ σ g= .func (.func aa) #[] lb) (aE:gv P aa) (aP:∀ x,(M x).size=ps.size)
 (aK:BV P aa lb M xs ao) (aA:E [] w) (aF:∀ pre W,E pre W→ao W) (aj:BZ w.heap.size E) (ax:α→Nat→ah)
 (ha:∀ (l:Nat) (x:α) (W:ai) (K:(Nat→ah)→ai→Prop),K (ax x) W→bU P ⟨n,[],[],some l⟩ ac (iP K fun _ _ _=>False) ((ps.toList.zip (M x).toList).foldl (fun s p=>bI s p.1 p.2) σ) W)
 (hb:∀ (l:Nat) (pre:List α) (x:α) (rest:List α) (W:ai),xs=pre++x::rest→E pre W→bU P ⟨n,[],[],some l⟩ body (F0 fun W'=>fR W W'∧E (pre++ [x]) W') (ax x) W)
 (aG:∀ (D:Nat) (W:ai),w.heap.size≤D→E xs W→W.heap[D]? =some (.deferred<|some [])→qb ⟨n,[{target:= .collected D,args:= #[]}],Z,none⟩ B .normal σ W):
 iR P ⟨n,[],Z,none⟩ (.block id<|.rangeFunc g ps ac body) B σ w:=by
 refine wpIn_block<|wpIn_rangeFunc ?_;intro fn _;obtain ⟨rc,V⟩:∃ rc:LoopState→Option cj→Loop,rc=fun st aS=> {state:=st,pending:=aS,fn,tmps:=(act ⟨n,[],Z,none⟩ σ).tmps,params:=ps,assign:=ac,body,defers:=w.heap.size} :=⟨_,rfl⟩
 obtain ⟨I,ak⟩:∃ I,(w.alloc<|.deferred<|some []).alloc (.loop<|rc .ready none)=I:=⟨_,rfl⟩
 have aD:I.heap[w.heap.size+1]? =some (.loop<|rc .ready none):=by
  rw [← ak]; have :=x7 (w.alloc<|.deferred<|some []) (.loop<|rc .ready none); rwa [x9] at this
 have aC:I.heap[w.heap.size]? =some (.deferred<|some []):=by
  rw [← ak]; exact (Below.heap_alloc _ _ _<|by simp).trans<|x7 w _
 have hn:∀ (W:ai) (o:Obj),Wk W (W.alloc o):=fun W o=>(An W o).md;have aB:E [] I:=by rw [← ak]; exact aj _ _ _ _ (aj _ _ _ _ aA (hn _ _) fun _ h=>h.elim) (hn _ _) fun _ h=>h.elim
 have aH:(act ⟨n,[],Z,none⟩ σ).eval g= .func (.func aa) #[] lb:=by rw [ej]; exact aI
 refine ⟨w.heap.size+1,[{target:= .collected w.heap.size,args:= #[]}],I,{target:= .fn (.func aa) lb,args:= #[.func (.yield<|w.heap.size+1) #[] #[]]},I,aa,
  #[.func (.yield<|w.heap.size+1) #[] #[]]++lb,I,?_,?_,fun _ _=>trivial,?_,fun h0=>(by cases h0),?_⟩
 · rw [← ak,V]; exact run_enterLoop_outer _ _ _ _ _
 · simp only [resolve,aH];simp [go_sem]
 · have :=aE (#[.func (.yield<|w.heap.size+1) #[] #[]]++lb) I;simp [invoke,go_sem,this]
 · have am:∀ (pre:List α) (W:ai) (o an:Obj),E pre W→W.heap[w.heap.size+1]? =some o→(∀ cur e z,o≠.cells cur e z)→E pre (W.putObj (w.heap.size+1) an):=fun pre W o an ad ae az=>
    aj _ _ _ _ ad (pB W _ an) fun k ab=>⟨ag,fun cur e z ap=>by subst ab; rw [ae] at ap; exact az _ _ _<|gF ap⟩
   refine callsIn_wide.2 (jv (aK (w.heap.size+1)
    (fun pre W=>E pre W∧W.heap[w.heap.size+1]? =some (.loop<|rc .ready none)∧W.heap[w.heap.size]? =some (.deferred<|some []))
    I ⟨aB,aD,aC⟩ (fun pre W h=>aF pre W h.1)
    (fun pre A C h hm=>⟨aj _ _ _ _ h.1 hm (fun _ h=>h.elim),(hm.dA _ (cr.1 h.2.1).1 fun h=>h).trans h.2.1,(hm.dA _ (cr.1 h.2.2).1 fun h=>h).trans h.2.2⟩) ?_) ?_)
   · rintro pre x rest W aR ⟨hi,O,ab⟩;have aO:w.heap.size+1 < W.heap.size:=(cr.1 O).1;have au:=run_yield (P:=P) (args:=M x) O<|by rw [V]; exact aP x
     rw [V] at au;refine ⟨fn,_,ac,body,au,roundIn_of_wpIn (F:=fX) trivial ?_⟩;have aQ:((ps.zip<|M x).foldl (fun tmps (p:Tmp×ah)=>tmps.setIfInBounds p.1 p.2) (act ⟨n,[],Z,none⟩ σ).tmps)=(act ⟨n,[],[],some<|w.heap.size+1⟩<|(ps.toList.zip (M x).toList).foldl (fun s p=>bI s p.1 p.2) σ).tmps:=by
      rw [← xO,HU];exact yC ⟨n,[],[],some<|w.heap.size+1⟩ _ σ
     have ad:=ha (w.heap.size+1) x W (fun σ' W'=> ∃ aw,(Ih<|w.heap.size+1).run P W'= .ok () aw∧
      body.wpIn (fX.inRound<|w.heap.size+1) 0 P (roundPost P (w.heap.size+1) fun e W'=>e= .returned (.bool true)∧E (pre++ [x]) W'∧W'.heap[w.heap.size+1]? =some (.loop<|rc .ready none)∧W'.heap[w.heap.size]? =some (.deferred<|some [])) (act ⟨n,[],[],some<|w.heap.size+1⟩ σ') aw) ?_
     · unfold bU at ad;have ay:({tmps:=(ps.zip<|M x).foldl (fun tmps (p:Tmp×ah)=>tmps.setIfInBounds p.1 p.2) (act ⟨n,[],Z,none⟩ σ).tmps,defers:= []} :Act)=act ⟨n,[],[],some<|w.heap.size+1⟩ ((ps.toList.zip (M x).toList).foldl (fun s p=>bI s p.1 p.2) σ):=by rw [aQ]; rfl
       rw [ay];refine wpIn_mono ad ?_;intro e a w' J;cases e with
       | normal=>obtain ⟨σ',rfl,L⟩:=J; exact L
       | panic c=>obtain ⟨σ',rfl,L⟩:=J; exact L σ' fun _ _=>rfl
       | outgrown=>exact J.elim
       | _=>obtain ⟨σ',rfl,L⟩:=J; exact L
     refine ⟨_,run_beginRound O (by rw [V]),?_⟩;have aN:(W.putObj (w.heap.size+1)<|.loop {rc .ready none with state:= .busy}).heap[w.heap.size+1]? =some (.loop {rc .ready none with state:= .busy}):=qi aO;have aL:(W.putObj (w.heap.size+1)<|.loop {rc .ready none with state:= .busy}).heap[w.heap.size]? =some (.deferred<|some []):=(lL ag).trans ab;have ae:=hb (w.heap.size+1) pre x rest _ aR<|am _ _ _ (.loop {rc .ready none with state:= .busy}) hi O fun _ _ _ h=>by cases h
     unfold bU at ae;refine wpIn_mono ae ?_;intro e a aU J;cases e with
     | normal=>
       obtain ⟨σ',rfl,aq,aJ⟩:=J;have al:=aq _ _ aN ⟨(fun _ _ _ h=>by cases h),fun _ _ h=>by cases h⟩;have aM:=aq _ _ aL ⟨(fun _ _ _ h=>by cases h),fun _ _ h=>by cases h⟩;have hr:=run_endRound (P:=P) none al;rw [V] at hr al ⊢;exact ⟨_,_,hr,U,am _ _ _ _ aJ al (fun _ _ _ h=>by cases h),qi (cr.1 al).1,(lL ag).trans aM⟩
     | panic c=>obtain ⟨σ',rfl,L⟩:=J; exact (L σ' fun _ _=>rfl).elim
     | outgrown=>exact J.elim
     | _=>obtain ⟨σ',rfl,L⟩:=J; exact L.elim
   · rintro e aT ⟨⟨v,rfl⟩,hi,O,ab⟩;have ar:=run_endLoop (P:=P) O<|by rw [V]; simp
     rw [V] at ar;refine ⟨none,_,ar,?_⟩;rw [V] at O;exact aG w.heap.size _ (bf _) (am _ _ _ _ hi O fun _ _ _ h=>by cases h)<|(lL ag).trans ab
section
variable {P:av} {N:Fm} {ops:Array aJ} {Q:bM→(Nat→ah)→ai→Prop} {rest:List aJ} {σ:Nat→ah} {w:ai} {d':Option Nat} {d:Nat} {op:Op} {ty:au} {pos :String} {af:Array cH} {v:ah}
def mB (P:av) (N:Fm) (ops:Array aJ) (Q:bM→(Nat→ah)→ai→Prop) (l:List aJ) (σ:Nat→ah) (w:ai):Prop :=wpListIn (fe N.r) 0 P ops (lift N Q) l (act N σ) w
theorem FY {id:Nat} {l:List aJ} (h:mB P N l.toArray Q l σ w):bU P N (.region id l.toArray false) Q σ w:=by
 unfold bU; exact wpIn_region_lit h
theorem Fe (h:Q .normal σ w):mB P N ops Q [] σ w:=⟨σ,rfl,h⟩
def Ak (o:Op):Bool:=match o with | .defer _=>false | _=>true
theorem NJ {o:Op} (h:Ak o=true):∀ c,o≠.defer c:=fun c e=>by subst e; cases h
theorem ey (hn:Ak op=true) (h:cy P N ⟨d',op,ty,pos,af,none⟩ σ w (fun σ w=>mB P N ops Q rest σ w)):mB P N ops Q (⟨d',op,ty,pos,af,none⟩::rest) σ w:=by
 unfold mB wpListIn;rw [if_pos (gR _ rfl _)];refine ⟨fun f _=>lY _ f,?_⟩;rw [o6,uA _ _ _ (NJ hn)];unfold cy iB at h;generalize (execOp (act N σ).eval ⟨d',op,ty,pos,af,none⟩).run P w=x at h ⊢;cases x with
 | ok n w'=>
   cases n <;> simp only [jX,sE] at h ⊢ <;>
    first
     | (obtain ⟨σ',ha,A⟩:=h; rw [ha]; exact A)
     | (refine ⟨fun h0=>(by rw [o5] at h0; cases h0),CallsIn.mono (vJ h) fun e w'' he=> ?_⟩
        cases e with
        | returned v=>obtain ⟨σ',ha,A⟩:=he; simp only; rw [ha]; exact A
        | panicked c=>exact he.elim
        | outgrown=>obtain ⟨_,_,C⟩:=he; exact C.elim)
     | (refine ⟨fun h0=>(by rw [o5] at h0; cases h0),RowsIn.mono (DP h) fun v w'' he=> ?_⟩
        obtain ⟨σ',ha,A⟩:=he; rw [ha]; exact A)
 | halt x w'=>cases x <;> simp only [jX] at h
theorem py (hn:Ak op=true) (h:(execOp (ev N σ) ⟨some d,op,ty,pos,af,none⟩).run P w= .ok (.value v) w) (k:mB P N ops Q rest (bI σ d v) w):mB P N ops Q (⟨some d,op,ty,pos,af,none⟩::rest) σ w:=
 ey hn (jU h k)
theorem HL {l:Nat} {fo:bA} {args:Array bA} {A:Array au} {L:List ah} {R:ai→Prop} (M:ev N σ fo= .func (.yield l) #[] #[]) (I:args.toList.map (ev N σ)=L)
 (U:YieldAt fX 0 P l L.toArray w fun e W'=>e= .returned (.bool true)∧R W') (k:∀ W',R W'→mB P N ops Q rest (bI σ d<|.bool true) W'):
 mB P N ops Q (⟨some d,.call ⟨.value fo,args,A⟩,ty,pos,af,none⟩::rest) σ w:=by
 obtain ⟨fn,tmps,a,b,J,C⟩:=U;unfold mB wpListIn;rw [if_pos (gR _ rfl _)];refine ⟨fun f _=>lY _ f,?_⟩;rw [o6,uA _ _ _ (fun c e=>by cases e),ej];have hm:args.map (ev N σ)=L.toArray:=by rw [← I,← ju]
 have O:(execOp (ev N σ) ⟨some d,.call ⟨.value fo,args,A⟩,ty,pos,af,none⟩).run P w= .ok (.round l fn tmps a b) w:=by
  simp [execOp,resolve,M,mE,invoke,hm,J]
 rw [O];simp only [sE];refine ⟨fun h0=>(by rw [o5] at h0; cases h0),?_⟩;have E:RoundIn (fe N.r) (0 - 1) P l fn tmps a b w fun e W'=>e= .returned (.bool true)∧R W':=by
  cases hr:N.r with
  | none=>exact C
  | some k=>exact C
 refine RoundIn.mono E ?_;rintro e W' ⟨rfl,hw⟩;simp only;rw [gi];exact k W' hw
end
end Go.Hb
end
namespace Go.Hb
def BW {α:Type} (P:av) (L:Nat) (lb:Array ah) (J:α→Array ah) (Ok:List α→α→Prop) (Fin:List α→Prop) (I:ai→Prop):Prop :=
 ∀ (l:Nat) (A:List α→ai→Prop) (W:ai),A [] W→(∀ pre W,A pre W→I W)→(∀ pre C E (F:Nat→Prop),A pre C→Md F C E→(∀ k,F k→W.heap.size≤k∧∀ cur e z,C.heap[k]?≠some (.cells cur e z))→A pre E)→
   (∀ pre x C,Ok pre x→A pre C→YieldAt fX 0 P l (J x) C fun e W'=>e= .returned (.bool true)∧fR C W'∧A (pre++ [x]) W')→
   Calls P L (#[.func (.yield l) #[] #[]]++lb) W fun e W'=>(∃ v,e= .returned v)∧∃ xs,Fin xs∧A xs W'
theorem Oz {α:Type} {P:av} {id n:Nat} {g:bA} {ps:Array Tmp} {ae body:cj} {aa:List Nat} {σ:Nat→ah} {w:ai} {B:bM→Act→ai→Prop} {ab:Nat} {lb:Array ah}
 (V:α→Array ah) (Ok:List α→α→Prop) (Fin:List α→Prop) (au:ai→Prop) (E:List α→ai→Prop) (aL:ev ⟨n,[],aa,none⟩ σ g= .func (.func ab) #[] lb) (aH:gv P ab) (aT:∀ x,(V x).size=ps.size)
 (aN:BW P ab lb V Ok Fin au) (aD:E [] w) (aI:∀ pre W,E pre W→au W) (am:BZ w.heap.size E) (aA:α→Nat→ah)
 (ha:∀ (l:Nat) (x:α) (W:ai) (K:(Nat→ah)→ai→Prop),K (aA x) W→bU P ⟨n,[],[],some l⟩ ae (iP K fun _ _ _=>False) ((ps.toList.zip (V x).toList).foldl (fun s p=>bI s p.1 p.2) σ) W)
 (hb:∀ (l:Nat) (pre:List α) (x:α) (W:ai),Ok pre x→E pre W→bU P ⟨n,[],[],some l⟩ body (F0 fun W'=>fR W W'∧E (pre++ [x]) W') (aA x) W)
 (aJ:∀ (D:Nat) (W:ai) (xs:List α),Fin xs→w.heap.size≤D→E xs W→W.heap[D]? =some (.deferred<|some [])→qb ⟨n,[{target:= .collected D,args:= #[]}],aa,none⟩ B .normal σ W):
 iR P ⟨n,[],aa,none⟩ (.block id<|.rangeFunc g ps ae body) B σ w:=by
 refine wpIn_block<|wpIn_rangeFunc ?_;intro fn _;obtain ⟨rc,O⟩:∃ rc:LoopState→Option cj→Loop,rc=fun st aW=> {state:=st,pending:=aW,fn,tmps:=(act ⟨n,[],aa,none⟩ σ).tmps,params:=ps,assign:=ae,body,defers:=w.heap.size} :=⟨_,rfl⟩
 obtain ⟨I,ac⟩:∃ I,(w.alloc<|.deferred<|some []).alloc (.loop<|rc .ready none)=I:=⟨_,rfl⟩
 have aG:I.heap[w.heap.size+1]? =some (.loop<|rc .ready none):=by
  rw [← ac]; have :=x7 (w.alloc<|.deferred<|some []) (.loop<|rc .ready none); rwa [x9] at this
 have aF:I.heap[w.heap.size]? =some (.deferred<|some []):=by
  rw [← ac]; exact (Below.heap_alloc _ _ _<|by simp).trans<|x7 w _
 have aZ:I.heap.size=w.heap.size+2:=by rw [← ac,x9,x9]
 have hn:∀ (W:ai) (o:Obj),Wk W (W.alloc o):=fun W o=>(An W o).md;have aE:E [] I:=by rw [← ac]; exact am _ _ _ _ (am _ _ _ _ aD (hn _ _) fun _ h=>h.elim) (hn _ _) fun _ h=>h.elim
 have aK:(act ⟨n,[],aa,none⟩ σ).eval g= .func (.func ab) #[] lb:=by rw [ej]; exact aL
 refine ⟨w.heap.size+1,[{target:= .collected w.heap.size,args:= #[]}],I,{target:= .fn (.func ab) lb,args:= #[.func (.yield<|w.heap.size+1) #[] #[]]},I,ab,
  #[.func (.yield<|w.heap.size+1) #[] #[]]++lb,I,?_,?_,fun _ _=>trivial,?_,fun h0=>(by cases h0),?_⟩
 · rw [← ac,O]; exact run_enterLoop_outer _ _ _ _ _
 · simp only [resolve,aK];simp [go_sem]
 · have :=aH (#[.func (.yield<|w.heap.size+1) #[] #[]]++lb) I;simp [invoke,go_sem,this]
 · have aq:∀ (pre:List α) (W:ai) (o ar:Obj),E pre W→W.heap[w.heap.size+1]? =some o→(∀ cur e z,o≠.cells cur e z)→E pre (W.putObj (w.heap.size+1) ar):=fun pre W o ar aj ak aC=>
    am _ _ _ _ aj (pB W _ ar) fun k Z=>⟨ag,fun cur e z aw=>by subst Z; rw [ak] at aw; exact aC _ _ _<|gF aw⟩
   refine callsIn_wide.2 (jv (aN (w.heap.size+1)
    (fun pre W=>E pre W∧W.heap[w.heap.size+1]? =some (.loop<|rc .ready none)∧W.heap[w.heap.size]? =some (.deferred<|some []))
    I ⟨aE,aG,aF⟩ (fun pre W h=>aI pre W h.1)
    (fun pre A C F h hm al=>⟨am _ _ _ _ h.1 hm (fun k Z=>⟨by have :=(al k Z).1; omega,(al k Z).2⟩),(hm.dA _ (cr.1 h.2.1).1 fun h=>by have :=(al _ h).1; omega).trans h.2.1,(hm.dA _ (cr.1 h.2.2).1 fun h=>by have :=(al _ h).1; omega).trans h.2.2⟩) ?_) ?_)
   · rintro pre x W aV ⟨hi,J,Z⟩;have aR:w.heap.size+1 < W.heap.size:=(cr.1 J).1;have ay:=run_yield (P:=P) (args:=V x) J<|by rw [O]; exact aT x
     rw [O] at ay;refine ⟨fn,_,ae,body,ay,roundIn_of_wpIn (F:=fX) trivial ?_⟩;have aU:((ps.zip<|V x).foldl (fun tmps (p:Tmp×ah)=>tmps.setIfInBounds p.1 p.2) (act ⟨n,[],aa,none⟩ σ).tmps)=(act ⟨n,[],[],some<|w.heap.size+1⟩<|(ps.toList.zip (V x).toList).foldl (fun s p=>bI s p.1 p.2) σ).tmps:=by
      rw [← xO,HU];exact yC ⟨n,[],[],some<|w.heap.size+1⟩ _ σ
     have aj:=ha (w.heap.size+1) x W (fun σ' W'=> ∃ az,(Ih<|w.heap.size+1).run P W'= .ok () az∧
      body.wpIn (fX.inRound<|w.heap.size+1) 0 P (roundPost P (w.heap.size+1) fun e W'=>e= .returned (.bool true)∧fR W W'∧E (pre++ [x]) W'∧W'.heap[w.heap.size+1]? =some (.loop<|rc .ready none)∧W'.heap[w.heap.size]? =some (.deferred<|some [])) (act ⟨n,[],[],some<|w.heap.size+1⟩ σ') az) ?_
     · unfold bU at aj;have aB:({tmps:=(ps.zip<|V x).foldl (fun tmps (p:Tmp×ah)=>tmps.setIfInBounds p.1 p.2) (act ⟨n,[],aa,none⟩ σ).tmps,defers:= []} :Act)=act ⟨n,[],[],some<|w.heap.size+1⟩ ((ps.toList.zip (V x).toList).foldl (fun s p=>bI s p.1 p.2) σ):=by rw [aU]; rfl
       rw [aB];refine wpIn_mono aj ?_;intro e a w' L;cases e with
       | normal=>obtain ⟨σ',rfl,M⟩:=L; exact M
       | panic c=>obtain ⟨σ',rfl,M⟩:=L; exact M σ' fun _ _=>rfl
       | outgrown=>exact L.elim
       | _=>obtain ⟨σ',rfl,M⟩:=L; exact M
     refine ⟨_,run_beginRound J (by rw [O]),?_⟩;have aQ:(W.putObj (w.heap.size+1)<|.loop {rc .ready none with state:= .busy}).heap[w.heap.size+1]? =some (.loop {rc .ready none with state:= .busy}):=qi aR;have aO:(W.putObj (w.heap.size+1)<|.loop {rc .ready none with state:= .busy}).heap[w.heap.size]? =some (.deferred<|some []):=(lL ag).trans Z;have ak:=hb (w.heap.size+1) pre x _ aV<|aq _ _ _ (.loop {rc .ready none with state:= .busy}) hi J fun _ _ _ h=>by cases h
     unfold bU at ak;refine wpIn_mono ak ?_;intro e a aY L;cases e with
     | normal=>
       obtain ⟨σ',rfl,ap,aM⟩:=L;have ad:=ap _ _ aQ ⟨(fun _ _ _ h=>by cases h),fun _ _ h=>by cases h⟩;have aP:=ap _ _ aO ⟨(fun _ _ _ h=>by cases h),fun _ _ h=>by cases h⟩;have hr:=run_endRound (P:=P) none ad;rw [O] at hr ad ⊢;refine ⟨_,_,hr,U,fun k o ao aS=> ?_,aq _ _ _ _ aM ad (fun _ _ _ h=>by cases h),qi (cr.1 ad).1,(lL ag).trans aP⟩;by_cases an:k=w.heap.size+1
       · subst an;rw [J,O] at ao;rw [← ao];exact qi (cr.1 ad).1
       · exact (lL an).trans<|ap k o ((lL an).trans ao) aS
     | panic c=>obtain ⟨σ',rfl,M⟩:=L; exact (M σ' fun _ _=>rfl).elim
     | outgrown=>exact L.elim
     | _=>obtain ⟨σ',rfl,M⟩:=L; exact M.elim
   · rintro e aX ⟨⟨v,rfl⟩,xs,hfin,hi,J,Z⟩;have ax:=run_endLoop (P:=P) J<|by rw [O]; simp
     rw [O] at ax;refine ⟨none,_,ax,?_⟩;rw [O] at J;exact aJ w.heap.size _ xs hfin (bf _) (aq _ _ _ _ hi J fun _ _ _ h=>by cases h)<|(lL ag).trans Z
end Go.Hb
section
namespace Go.Hb
section
variable {P:av} {N:Fm} {σ:Nat→ah} {w:ai} {fn:jw} {R:ah→ai→Prop}
theorem Ni {t b off :Nat} {v:ah} (hu:dD P t=some none) (A:Hb.aO w.heap b off =some v):(loadVar t ⟨b,off,none⟩).run P w= .ok v w:=by
 have C:w.cell? ⟨b,off,none⟩=some v:=by rw [j4]; exact A
 unfold dD at hu;cases hd:P.underlying t with
 | none=>rw [hd] at hu; cases hu
 | some d=>
   rw [hd] at hu;cases d <;> first
    | (simp only [iW] at hu; obtain ⟨_,_,h⟩:=hu; cases h; done)
    | simp [loadVar,isAgg,bS hd,run_load,C]
theorem Nj {t n b off :Nat} {cs:List ah} (hu:dD P t=some (some n)) (I:cs.length=n) (C:∀ j,j < n→Hb.aO w.heap b (off+j)=cs[j]?):(loadVar t ⟨b,off,none⟩).run P w= .ok (.agg cs.toArray) w:=by
 have E:(loadCells ⟨b,off,none⟩ n).run P w= .ok cs.toArray w:=by
  subst I;refine run_loadCells_list (P:=P) w ⟨b,off,none⟩ cs fun j v A=> ?_;rw [gw,j4];exact (C j (dX.1 A).1).trans A
 unfold dD at hu;cases hd:P.underlying t with
 | none=>rw [hd] at hu; cases hu
 | some d=>
   rw [hd] at hu;cases hi:P.info? t with
   | none=>simp [Iu,hi] at hd
   | some i=>
     rw [hi] at hu;cases d <;> first
      | (cases hu; done)
      | (simp only [e7,bR] at hu; subst hu
         simp [loadVar,isAgg,bS hd,sizeOf,eh hi,E])
def mM (P:av) (N:Fm) (σ:Nat→ah) (w:ai):ResultVar→ah→Prop
 | .tmp t,v=>ev N σ (.tmp t)=v
 | .cell a t,v=> ∃ ad,ev N σ (.tmp a)= .pointer (some ad)∧(loadVar t ad).run P w= .ok v w
theorem np {t:Tmp} :mM P N σ w (.tmp t) (ev N σ<|.tmp t):=rfl
theorem kR {a t b off :Nat} {v:ah} (C:ev N σ (.tmp a)= .pointer (some ⟨b,off,none⟩)) (hu:dD P t=some none) (A:Hb.aO w.heap b off =some v):mM P N σ w (.cell a t) v:=⟨_,C,Ni hu A⟩
theorem jn {a t n b off :Nat} {cs:List ah} (E:ev N σ (.tmp a)= .pointer (some ⟨b,off,none⟩)) (hu:dD P t=some (some n)) (C:cs.length=n) (A:∀ j,j < n→Hb.aO w.heap b (off+j)=cs[j]?):mM P N σ w (.cell a t) (.agg cs.toArray):=⟨_,E,Nj hu C A⟩
def nq (tmps:Array ah):ResultVar→Sem ah
 | .tmp t=>pure<|tmps.getD t undef
 | .cell a t=>do loadVar t (← asAddr (tmps.getD a undef))
theorem lG {r:ResultVar} {v:ah} (h:mM P N σ w r v):(nq (act N σ).tmps r).run P w= .ok v w:=by
 cases r with
 | tmp t=>
   show lK P (pure<|(act N σ).tmps.getD t undef) w=_;rw [kU]; simp only [mM] at h; rw [h]; rfl
 | cell a t=>
   obtain ⟨ad,A,C⟩:=h;show lK P (do loadVar t (← asAddr ((act N σ).tmps.getD a undef))) w=_;rw [kU,A];simp [asAddr,C]
theorem OG {tmps:Array ah} {r:ResultVar} {v:ah} (h:fn.results= #[r]) (A:(nq tmps r).run P w= .ok v w):(results fn tmps).run P w= .ok v w:=by
 have C:(results fn tmps)=(do let vs ← #[r].mapM (nq tmps); pure (if h:vs.size=1 then vs[0] else .tuple vs)):=by
  unfold results; rw [h]; rfl
 rw [C]; simp [yc,A]
theorem wX {tmps:Array ah} {r s:ResultVar} {v u:ah} (h:fn.results= #[r,s]) (A:(nq tmps r).run P w= .ok v w) (C:(nq tmps s).run P w= .ok u w):(results fn tmps).run P w= .ok (.tuple #[v,u]) w:=by
 have E:(results fn tmps)=(do let vs ← #[r,s].mapM (nq tmps); pure (if h:vs.size=1 then vs[0] else .tuple vs)):=by
  unfold results; rw [h]; rfl
 rw [E]; simp [yc,A,C]
theorem zh {r:ResultVar} {v:ah} (h:fn.results= #[r]) (A:mM P N σ w r v) (C:R v w):fin P fn N R .ret σ w:=⟨v,OG h (lG A),C⟩
theorem nR {r s:ResultVar} {v u:ah} (h:fn.results= #[r,s]) (A:mM P N σ w r v) (C:mM P N σ w s u) (E:R (.tuple #[v,u]) w):fin P fn N R .ret σ w:=⟨_,wX h (lG A) (lG C),E⟩
end
end Go.Hb
end
section
namespace Go.Hb
def oS (P:av) (f:eX) (args:Array ah) (w:ai) (R:ah→ai→Prop) (A:List PanicEntry→ai→Prop):Prop :=
 Calls P f args w fun e w'=>(∃ v,e= .returned v∧R v w')∨∃ c,e= .panicked c∧A c w'
def DT (P:av) (fn:jw) (N:Fm) (R:ah→ai→Prop) (A:List PanicEntry→ai→Prop):bM→(Nat→ah)→ai→Prop
 | .normal,σ,w=> ∃ v,(results fn (act N σ).tmps).run P w= .ok v w∧R v w
 | .ret,σ,w=> ∃ v,(results fn (act N σ).tmps).run P w= .ok v w∧R v w
 | .panic c,_,w=>A c w
 | _,_,_=>False
theorem tu {P:av} {fn:jw} {N:Fm} {R:ah→ai→Prop} {A:List PanicEntry→ai→Prop} {e:bM} {σ:Nat→ah} {w:ai} (h:fin P fn N R e σ w):DT P fn N R A e σ w:=by
 cases e <;> first | exact h | exact h.elim
theorem th {P:av} {f:eX} {N:Nat} {fn:jw} {c:cj} {args:List ah} {w:ai} {R:ah→ai→Prop} {I:List PanicEntry→ai→Prop} (L:P.funcs[f]? =some fn) (hb:fn.body=some c)
 (J:fn.ntmps=N) (hn:bL args.length N=true) (h:bU P ⟨N,[],[],none⟩ c (DT P fn ⟨N,[],[],none⟩ R I) (eE args) w):oS P f args.toArray w R I:=by
 subst J;refine calls_of_wp L hb ?_;rw [pK fn args [] hn];unfold bU at h;refine H9 ?_<|wpIn_wide.1 h;intro e a w A;cases e with
 | normal=>obtain ⟨σ,rfl,v,hr,E⟩:=A; exact ⟨rfl,v,hr,.inl ⟨v,rfl,E⟩⟩
 | ret=>obtain ⟨σ,rfl,v,hr,E⟩:=A; exact ⟨rfl,v,hr,.inl ⟨v,rfl,E⟩⟩
 | exit id=>obtain ⟨σ,rfl,C⟩:=A; exact C.elim
 | goto l=>obtain ⟨σ,rfl,C⟩:=A; exact C.elim
 | panic c=>obtain ⟨σ,rfl,C⟩:=A; exact ⟨rfl,.inr ⟨c,rfl,C σ fun _ _=>rfl⟩⟩
 | outgrown=>exact A.elim
section
variable {P:av} {N:Fm} {Q:bM→(Nat→ah)→ai→Prop} {σ:Nat→ah} {w:ai} {ops:Array aJ} {rest:List aJ} {dst:Option Nat} {ty:au} {pos :String} {af:Array cH} {g:Option (Nat×Bool)} {x:bA}
def pR (P:av) (N:Fm) (o:aJ) (σ:Nat→ah) (w:ai) (K:(Nat→ah)→ai→Prop) (A:List PanicEntry→ai→Prop):Prop :=
 iB P o (act N σ) w (fun a w=> ∃ σ,a=act N σ∧K σ w) (fun e a w=>match e with | .panic c=>a=act N σ∧A c w | _=>False)
theorem Bo {o:aJ} {K:(Nat→ah)→ai→Prop} {C:List PanicEntry→ai→Prop} {A:Act→ai→Prop} (h:pR P N o σ w K C) (L:∀ σ w,K σ w→A (act N σ) w) (hp:∀ c w',C c w'→∀ σ',(∀ i∈N.F,σ' i=σ i)→Q (.panic c) σ' w'):o.wp P (act N σ) w A (lift N Q):=by
 unfold pR at h;unfold iB at*;generalize (execOp (act N σ).eval o).run P w=r at h ⊢;have E:∀ a w,(∃ σ,a=act N σ∧K σ w)→A a w:=by rintro a w ⟨σ,rfl,h⟩; exact L _ _ h
 have I:∀ c (a:Act) w',(a=act N σ∧C c w')→lift N Q (.panic c) a w':=by rintro c a w' ⟨rfl,h⟩; exact ⟨σ,rfl,hp c w' h⟩
 cases r with
 | ok n w'=>
   cases n <;> simp only [jX] at h ⊢ <;>
    first
     | exact E _ _ h
     | exact jv h (fun e w'' he=>by
      cases e with
      | returned v=>exact E _ _ he
      | panicked c=>exact I _ _ _ ⟨rfl,he.2⟩
      | outgrown=>obtain ⟨_,_,J⟩:=he; exact J.elim)
     | exact BD h fun _ _ he=>E _ _ he
 | halt x w'=>cases x <;> simp only [jX] at h ⊢ <;> exact I _ _ _ ⟨rfl,h.2⟩
theorem fN {f:eX} {args:Array bA} {C:Array au} {L:List ah} {R:ah→ai→Prop} {A:List PanicEntry→ai→Prop} {K:(Nat→ah)→ai→Prop} (O:gv P f) (hr:oS P f L.toArray w R A) (I:args.toList.map (ev N σ)=L)
 (k:∀ v w',R v w'→K (dq σ dst v) w'):pR P N ⟨dst,.call ⟨.value (.func f),args,C⟩,ty,pos,af,g⟩ σ w K A:=by
 unfold pR iB;have hm:args.map (ev N σ)=L.toArray:=by rw [← I,← ju]
 have U:(execOp (ev N σ) ⟨dst,.call ⟨.value (.func f),args,C⟩,ty,pos,af,g⟩).run P w= .ok (.enter f L.toArray) w:=by
  have E:=O L.toArray w;simp [execOp,resolve,ev,mE,invoke,hm,E]
 rw [ej,U];simp only [jX];refine jv hr ?_;rintro e w' (⟨v,rfl,M⟩ | ⟨c,rfl,J⟩)
 · exact ⟨_,gi ..,k v w' M⟩
 · exact ⟨trivial,J⟩
theorem eP {o:aJ} {A:List PanicEntry→ai→Prop} (E:o.guard=none) (h:pR P N o σ w (fun σ w=>cG P N ops Q rest σ w) A) (hp:∀ c w',A c w'→∀ σ',(∀ i∈N.F,σ' i=σ i)→Q (.panic c) σ' w'):cG P N ops Q (o::rest) σ w:=by
 unfold cG wpList;rw [if_pos (gR o E _)];refine .inl<|Bo h (fun σ w C=> ?_) hp;unfold cG at C; exact C
theorem N8 {t:au} {v:ah} (A:ev N σ x= .iface t v) (hp:∀ σ',(∀ i∈N.F,σ' i=σ i)→Q (.panic [{v:= .iface t v,recovered:=false}]) σ' w):cG P N ops Q (⟨dst,.panic x,ty,pos,af,none⟩::rest) σ w:=by
 unfold cG wpList;rw [if_pos (gR _ rfl _)];refine .inl ?_;unfold iB;have hr:(execOp (ev N σ) ⟨dst,.panic x,ty,pos,af,none⟩).run P w= .halt (.panic<|.iface t v) w:=by
  simp [execOp,A,Instr.panic]
 rw [ej,hr];exact ⟨σ,U,hp⟩
theorem Nz {t:au} {d:TypeDesc} {v:ah} (hu:P.underlying t=some d) (A:(match d with | .interface _=>false | _=>true)=true) (C:ev N σ x=v):(execOp (ev N σ) ⟨dst,.makeInterface t x,ty,pos,af,g⟩).run P w= .ok (.value<|.iface t v) w:=by
 cases d <;> first | (cases A; done) | simp [execOp,Instr.makeInterface,C,bS hu]
def mc (P:av) (t:au):Bool:=match P.underlying t with | some (.interface _)=>false | some _=>true | none=>false
theorem Ag {t:au} {v:ah} (h:mc P t=true) (A:ev N σ x=v):(execOp (ev N σ) ⟨dst,.makeInterface t x,ty,pos,af,g⟩).run P w= .ok (.value<|.iface t v) w:=by
 unfold mc at h;cases hd:P.underlying t with
 | none=>rw [hd] at h; cases h
 | some d=>rw [hd] at h; exact Nz hd (by cases d <;> first | rfl | cases h) A
theorem G6 {xt a:au} {zv:ah} (hu:mc P a=true) (C:zeroV P a=some zv) (A:ev N σ x= .nilIface):(execOp (ev N σ) ⟨dst,.typeAssert x xt a true,ty,pos,af,g⟩).run P w= .ok (.value<|.tuple #[zv,.bool false]) w:=by
 unfold mc at hu;cases hd:P.underlying a with
 | none=>rw [hd] at hu; cases hu
 | some d=>rw [hd] at hu; cases d <;> first | (cases hu; done) | simp [execOp,Io,A,bS hd,Bs C]
theorem G5 {xt a:au} {v:ah} (hu:mc P a=true) (A:ev N σ x= .iface a v):(execOp (ev N σ) ⟨dst,.typeAssert x xt a true,ty,pos,af,g⟩).run P w= .ok (.value<|.tuple #[v,.bool true]) w:=by
 unfold mc at hu;cases hd:P.underlying a with
 | none=>rw [hd] at hu; cases hu
 | some d=>rw [hd] at hu; cases d <;> first | (cases hu; done) | simp [execOp,Io,A,bS hd]
variable {S:ai→Prop} {fuel:Nat} {listed:Array Bool}
theorem Mj {o:aJ} {C:List PanicEntry→ai→Prop} (i:Nat) (hi:ops[i]? =some o) (hr:kN ops listed i=true) (E:o.guard=none)
 (h:pR P N o σ w (fun σ w=>S w∧dr P N ops Q S fuel (listed.setIfInBounds i true) σ w) C) (hp:∀ c w',C c w'→∀ σ',(∀ i∈N.F,σ' i=σ i)→Q (.panic c) σ' w'):dr P N ops Q S (fuel+1) listed σ w:=by
 unfold dr at*;refine wpAnyH_all (rs:= [i]) (by simpa [kN] using hr) (by simp) ?_;intro k A;obtain rfl :k=i:=by simpa using A
 unfold wpOp;simp only [hi];rw [if_pos (gR _ E _)];exact .inl<|Bo h (fun σ w A=>A) hp
end
section
variable {P:av} {N:Fm} {Q:bM→(Nat→ah)→ai→Prop} {σ:Nat→ah} {w:ai} {ops:Array aJ} {S:ai→Prop} {fuel:Nat} {listed:Array Bool}
end
section
variable {P:av} {N:Fm} {Q:bM→(Nat→ah)→ai→Prop} {σ:Nat→ah} {w:ai} {ops:Array aJ} {S:ai→Prop} {fuel r:Nat} {listed:Array Bool}
theorem MZ {o:aJ} {C:List PanicEntry→ai→Prop} (i:Nat) (hi:ops[i]? =some o) (hr:kN ops listed i=true) (I:o.guard=none)
 (h:pR P N o σ w (fun σ w=>S w∧db P N ops Q S r fuel (listed.setIfInBounds i true) σ w) C) (hp:∀ c w',C c w'→∀ σ',(∀ i∈N.F,σ' i=σ i)→Q (.panic c) σ' w'):db P N ops Q S r (fuel+1) listed σ w:=by
 unfold db at*;have E:fF .any ops listed= [i]:=by simpa [kN] using hr
 refine ⟨fun h0=>absurd (E ▸ h0) (by simp),fun k A=> ?_⟩;rw [E] at A;obtain rfl :k=i:=by simpa using A
 unfold wpOp;simp only [hi];rw [if_pos (gR _ I _)];exact .inl<|Bo h (fun σ w A=>⟨fun _=>A.1,A.2⟩) hp
end
abbrev nH (P:av) (fn:jw) (R:ah→ai→Prop):bM→Act→ai→Prop :=bodyPostD P fn (fun e w'=> ∃ v,e= .returned v∧R v w')
theorem Lz {P:av} {f:eX} {N:Nat} {fn:jw} {c:cj} {args:List ah} {w:ai} {R:ah→ai→Prop} (F:List Nat) (C:P.funcs[f]? =some fn) (hb:fn.body=some c)
 (A:fn.ntmps=N) (hn:bL args.length N=true) (h:iR P ⟨N,[],F,none⟩ c (nH P fn R) (eE args) w):aY P f args.toArray w R:=by
 subst A;refine calls_of_wp_defers C hb ?_;rw [pK fn args F hn];exact wpIn_wide.1 h
section
variable {P:av} {n:Nat} {D:List Deferred} {F:List Nat} {σ:Nat→ah} {w:ai} {fn:jw} {R:ah→ai→Prop} {B:bM→Act→ai→Prop}
theorem LQ {v:ah} (hr:(results fn (act ⟨n,[],F,none⟩ σ).tmps).run P w= .ok v w) (A:R v w):qb ⟨n,[],F,none⟩ (nH P fn R) .ret σ w:=⟨v,hr,v,rfl,A⟩
theorem M3:¬LetsOut (nH P fn R):=fun ⟨_,_,h⟩=>by obtain ⟨v,h,_⟩:=h; cases h
theorem mW {id d:Nat} {f:eX} (O:¬LetsOut B) {cs:Array bA} {I J:au} {p1 p2:String} {C E:Array cH} {y:cj} (A:Array ah) (Z:cs.toList.map (ev ⟨n,[],F,none⟩ σ)=A.toList) (ab:d < n)
 (h:iR P ⟨n,[{target:= .fn (.func f) A,args:= #[]}],F,none⟩ y B (bI σ d<|.func (.func f) #[] A) w):
 iR P ⟨n,[],F,none⟩ (.region id #[⟨some d,.makeFunc (.func f) #[] cs,I,p1,C,none⟩,⟨none,.defer ⟨.value (.tmp d),#[],#[]⟩,J,p2,E,none⟩] false) (Exit.then (y.wpIn (fe none) 0 P B) B) σ w:=by
 have aa:cs.map (ev ⟨n,[],F,none⟩ σ)=A:=su.1<|by rw [ju]; exact Z
 refine wpIn_region ?_;have V:¬LetsOut (Exit.then (y.wpIn (fe none) 0 P B) B):=fun ⟨a,w,h⟩=>O ⟨a,w,h⟩;refine zI (r:=none) V U _ _ _ ?_;show wpOps P _ _ [0,1] _ _;simp only [wpOps,nE,ky,jZ];rw [if_pos (gR _ rfl _)];refine .inl ?_;unfold iB;have L:(execOp (act ⟨n,[],F,none⟩ σ).eval ⟨some d,.makeFunc (.func f) #[] cs,I,p1,C,none⟩).run P w= .ok (.value<|.func (.func f) #[] A) w:=by
  rw [ej,mf,aa]; simp
 rw [L];simp only [jX];rw [if_pos (gR _ rfl _),gi];refine .inl ?_;have M:(execOp (act ⟨n,[],F,none⟩<|dq σ (some d)<|.func (.func f) #[] A).eval ⟨none,.defer ⟨.value (.tmp d),#[],#[]⟩,J,p2,E,none⟩).run P w= .ok (.defer {target:= .fn (.func f) A,args:= #[]}) w:=by
  have ac:ev ⟨n,[],F,none⟩ (bI σ d<|.func (.func f) #[] A) (.tmp d)= .func (.func f) #[] A:=by
   show cond (Nat.blt d n) (bI σ d _ d) undef=_;rw [show Nat.blt d n=true from by simpa using ab];show bI σ d _ d=_;unfold bI; simp
  rw [ej];show (execOp (ev ⟨n,[],F,none⟩<|bI σ d<|.func (.func f) #[] A) _).run P w=_;simp [execOp,resolve,ac,mE]
 rw [M];exact h
end
theorem N2 {P:av} {ops:Array aJ} {Q:bM→Act→List Frame→ai→Prop} {cs:List Frame} (A:¬LetsOut fun e a w=>Q e a cs w):∀ (l:List Nat) (a:Act) (w:ai),wpOps P ops (fun e a w=>Q e a cs w) l a w→wpOpsS P ops Q l a cs w:=by
 intro l
 induction l with
 | nil=>exact fun _ _ h=>h
 | cons i l ih=>
   intro a w h;simp only [wpOps] at h;simp only [wpOpsS];cases ho:ops[i]? with
   | none=>simp only [ho] at h ⊢; exact ih a w h
   | some o=>
     simp only [ho] at h ⊢;by_cases hw:Region.wanted o (yielded ops a.tmps)=true
     · rw [if_pos hw] at h ⊢;rcases h with h | h
       · unfold iB at h;generalize (execOp a.eval o).run P w=x at h;cases x with
         | ok n w'=>
           cases n <;> simp only [jX] at h ⊢ <;>
            first
             | exact ih _ _ h
             | exact jv h fun e w'' he=>by cases e <;> first | exact ih _ _ he | exact he
             | exact BD h fun v w'' he=>ih _ _ he
         | halt x w'=>cases x <;> simp only [jX] at h ⊢ <;> exact h
       · exact absurd h.2 A
     · rw [if_neg hw] at h ⊢;exact ih _ _ h
theorem M6 {P:av} {ops:Array aJ} {Q C:bM→Act→ai→Prop} (A:∀ e a w,Q e a w→C e a w) (E:¬LetsOut Q):∀ (l:List aJ) (a:Act) (w:ai),wpList P ops Q l a w→wpList P ops C l a w:=by
 intro l
 induction l with
 | nil=>exact fun _ _ h=>A _ _ _ h
 | cons o l ih=>
   intro a w h;unfold wpList at h ⊢;split at h
   · rename_i hw;rw [if_pos hw];rcases h with h | h
     · left;unfold iB at h ⊢;generalize (execOp a.eval o).run P w=x at h;cases x with
       | ok n w'=>
         cases n <;> simp only [jX] at h ⊢ <;>
          first
           | exact ih _ _ h
           | exact jv h (fun e w'' he=>by
            cases e with
            | returned v=>exact ih _ _ he
            | panicked c=>exact A _ _ _ he
            | outgrown=>exact absurd he E)
           | exact BD h fun v w'' he=>ih _ _ he
       | halt x w'=>cases x <;> simp only [jX] at h ⊢ <;> exact A _ _ _ h
     · exact absurd h.2 E
   · rename_i hw;rw [if_neg hw]; exact ih _ _ h
theorem CB {P:av} {f:eX} {fn:jw} {id N d:Nat} {ty:au} {pos :String} {af:Array cH} {rest:List aJ} {y:cj} {args:List ah} {w:ai} {u I:FrameMode} {v:ah} {R:ai→Prop}
 (ag:P.funcs[f]? =some fn) (hb:fn.body=some (.seq (.region id (⟨some d,.call ⟨.builtin .recover,#[],#[]⟩,ty,pos,af,none⟩::rest).toArray false) y)) (ad:fn.ntmps=N) (hn:bL args.length N=true)
 (aj:∀ (C:Frame) (cs:List Frame),C.mode=u→(recoverD (C::cs)=some (v,{C with mode:=I} ::cs))∨(recoverD (C::cs)=none∧v= .nilIface∧I=u))
 (h:cG P ⟨N,[],[],none⟩ (⟨some d,.call ⟨.builtin .recover,#[],#[]⟩,ty,pos,af,none⟩::rest).toArray (iP (fun σ w=>bU P ⟨N,[],[],none⟩ y (fin P fn ⟨N,[],[],none⟩ fun _ w=>R w) σ w)<|fin P fn ⟨N,[],[],none⟩ fun _ w=>R w) rest (bI (eE args) d v) w):
 CallsD P f args.toArray u w fun e J w'=> ∃ v,e= .returned v∧J=I∧R w':=by
 subst ad;refine callsD_of_wpS ag hb ?_;intro C cs hu;rw [pK fn args [] hn];refine wpS_seq<|wpS_region ?_;have ak:List.range (⟨some d,.call ⟨.builtin .recover,#[],#[]⟩,ty,pos,af,none⟩::rest).toArray.size=0::(List.range' 1 rest.length):=by
  rw [fP,cn,List.range_eq_range',List.range'_succ]
 rw [ak];simp only [wpOpsS,nE,ky];rw [if_pos (gR _ rfl _)];have al:(execOp (act ⟨fn.ntmps,[],[],none⟩<|eE args).eval ⟨some d,.call ⟨.builtin .recover,#[],#[]⟩,ty,pos,af,none⟩).run P w= .ok .recover w:=by
  rw [ej];simp [execOp,resolve,invoke,builtin]
 rw [al];simp only;obtain ⟨L,O⟩:∃ L,L=({C with mode:=I} ::cs:List Frame):=⟨_,rfl⟩
 have ae:∀ X:Act→List Frame→Prop,X ((act ⟨fn.ntmps,[],[],none⟩<|eE args).put (some d) v) L→
  (match recoverD (C::cs) with
   | some (v,U)=>X ((act ⟨fn.ntmps,[],[],none⟩<|eE args).put (some d) v) U
   | none=>X ((act ⟨fn.ntmps,[],[],none⟩<|eE args).put (some d) .nilIface) (C::cs)):=by
  intro X Z;rcases aj C cs hu with M | ⟨M,ab,ac⟩;rw [M]; subst O; exact Z;rw [M]; subst ab ac;have :({C with mode:=I} :Frame)=C:=by subst hu; rfl
  rw [this] at O; subst O; exact Z
 refine ae (fun a U=>wpOpsS P _ _ _ a U w) ?_;rw [gi];refine N2 ?_ _ _ _ ?_;rintro ⟨a,w,h⟩;simp only [Exit.thenS,bodyPostS] at h;obtain ⟨_,_,h,_⟩:=h; cases h;have M:=wpOps_eq_wpList (P:=P) (ops:=(⟨some d,.call ⟨.builtin .recover,#[],#[]⟩,ty,pos,af,none⟩::rest).toArray) (Q:=fun e a w'=>Exit.thenS (Code.wpS P y (bodyPostS P fn C cs fun e J w'=> ∃ v,e= .returned v∧J=I∧R w')) (bodyPostS P fn C cs fun e J w'=> ∃ v,e= .returned v∧J=I∧R w') e a L w') rest 1 fun j=>by simp [Nat.add_comm]
 rw [M];unfold cG at h;refine M6 ?_ zS _ _ _ h;intro e a w' E;have aa:∀ (e:bM) (σ:Nat→ah) (w':ai),fin P fn ⟨fn.ntmps,[],[],none⟩ (fun _ w=>R w) e σ w'→bodyPostS P fn C cs (fun e J w'=> ∃ v,e= .returned v∧J=I∧R w') e (act ⟨fn.ntmps,[],[],none⟩ σ) L w':=by
  intro e σ w' A;cases e with
  | normal=>obtain ⟨v,hr,V⟩:=A; exact ⟨rfl,I,O,v,hr,v,rfl,rfl,V⟩
  | ret=>obtain ⟨v,hr,V⟩:=A; exact ⟨rfl,I,O,v,hr,v,rfl,rfl,V⟩
  | _=>exact A.elim
 cases e with
 | normal=>
   obtain ⟨σ,rfl,A⟩:=E;refine wpS_of_wp ?_;simp only [iP] at A;unfold bU at A;refine H9 ?_<|wpIn_wide.1 A;intro e a w' E;cases e with
   | panic c=>obtain ⟨σ,rfl,A⟩:=E; exact (A σ fun _ _=>rfl).elim
   | outgrown=>exact E.elim
   | _=>obtain ⟨σ,rfl,A⟩:=E; exact aa _ σ w' A
 | panic c=>obtain ⟨σ,rfl,A⟩:=E; exact (A σ fun _ _=>rfl).elim
 | outgrown=>exact E.elim
 | ret=>obtain ⟨σ,rfl,A⟩:=E; exact aa .ret σ w' A
 | exit i=>obtain ⟨σ,rfl,A⟩:=E; exact A.elim
 | goto i=>obtain ⟨σ,rfl,A⟩:=E; exact A.elim
section
variable {P:av} {n:Nat} {F:List Nat} {σ:Nat→ah} {w:ai} {fn:jw} {R:ah→ai→Prop}
theorem LS {g:eX} {A:Array ah} {M:ai→Prop} (hu:(invoke (.fn (.func g) A) #[]).run P w= .ok (.enter g A) w)
 (J:CallsD P g A .returning w fun e L w'=> ∃ v,e= .returned v∧L= .returning∧M w') (I:∀ w',M w'→∃ v,(results fn (act ⟨n,[{target:= .fn (.func g) A,args:= #[]}],F,none⟩ σ).tmps).run P w'= .ok v w'∧R v w'):
 qb ⟨n,[{target:= .fn (.func g) A,args:= #[]}],F,none⟩ (nH P fn R) .ret σ w:=by
 refine leaves_cons (by simp) hu ?_;refine H7 J ?_;rintro e O w' ⟨v,rfl,rfl,hm⟩;obtain ⟨v2,C,E⟩:=I w' hm;exact ⟨v2,C,v2,U,E⟩
theorem LU {g:eX} {A:Array ah} {M:ai→Prop} {v:ah} (hu:(invoke (.fn (.func g) A) #[]).run P w= .ok (.enter g A) w)
 (J:CallsD P g A (.panicking [{v:=v,recovered:=false}]) w fun e L w'=> ∃ x,e= .returned x∧L= .panicking [{v:=v,recovered:=true}]∧M w') (I:∀ w',M w'→∃ v,(results fn (act ⟨n,[{target:= .fn (.func g) A,args:= #[]}],F,none⟩ σ).tmps).run P w'= .ok v w'∧R v w'):
 qb ⟨n,[{target:= .fn (.func g) A,args:= #[]}],F,none⟩ (nH P fn R) (.panic [{v:=v,recovered:=false}]) σ w:=by
 refine leaves_cons (by simp) hu ?_;refine H7 J ?_;rintro e O w' ⟨x,rfl,rfl,hm⟩;obtain ⟨v2,C,E⟩:=I w' hm;exact ⟨v2,C,v2,U,E⟩
end
end Go.Hb
end
section
namespace Go.Hb
section
variable {B B':Nat} {fp fp' fp'':Nat→Prop} {w w' w'':ai}
end
section
variable {F fp:Nat→Prop} {W W':ai} {B:Nat}
end
section
variable {P:av} {N:Fm} {ops:Array aJ} {Q:bM→(Nat→ah)→ai→Prop} {rest:List aJ} {σ:Nat→ah} {w:ai} {d':Option Nat} {d:Nat} {op:Op} {ty:au} {pos :String} {af:Array cH} {v:ah}
end
section
variable {P:av} {n:Nat} {F:List Nat} {σ:Nat→ah} {w:ai} {fn:jw} {R:ah→ai→Prop}
end
def zi (P:av) (s f:Nat):Option Nat:=
 match P.underlying s with
 | some (.struct A)=>match A[f]? with
   | some fd=>if dD P fd.type=some none then some fd.offset else none
   | none=>none
 | _=>none
theorem Ge {P:av} {t:Nat} (hu:dD P t=some none) (w:ai):(isAgg t).run P w= .ok false w:=by
 unfold dD at hu;cases hd:P.underlying t with
 | none=>rw [hd] at hu; cases hu
 | some d=>
   rw [hd] at hu;cases d <;> first
    | (simp only [iW] at hu; obtain ⟨_,_,h⟩:=hu; cases h; done)
    | simp [isAgg,bS hd]
theorem LR {P:av} {N:Fm} {σ:Nat→ah} {w:ai} {dst:Option Nat} {ty:au} {pos :String} {af:Array cH} {g:Option (Nat×Bool)} {x:bA} {s f n:Nat} {cs:Array ah} {v:ah} (A:zi P s f=some n) (I:ev N σ x= .agg cs) (E:cs[n]? =some v):
 (execOp (ev N σ) ⟨dst,.field s x f,ty,pos,af,g⟩).run P w= .ok (.value v) w:=by
 unfold zi at A;split at A
 · rename_i J hu;split at A
   · rename_i fd C;split at A
     · rename_i ha;cases A;simp [execOp,Ii,bS hu,C,I,asAgg,part,Ge ha,E]
     · cases A
   · cases A
 · cases A
section
variable {P:av} {ops:Array aJ} {Q:bM→Act→ai→Prop} {S:ai→Prop} {md:qg}
def HF (P:av) (md:qg) (ops:Array aJ) (Q:bM→Act→ai→Prop) (S:ai→Prop):Nat→Array Bool→Act→ai→Prop
 | 0,listed,a,w=>fF md ops listed= []∧Q .normal a w
 | fuel+1,listed,a,w=>
   (fF md ops listed= []→Q .normal a w)∧
   ∀ i∈fF md ops listed,wpOpIn fX 0 P ops Q i (fun a' w'=>S w'∧HF P md ops Q S fuel (listed.setIfInBounds i true) a' w') a w
end
def QR (P:av) (N:Fm) (ops:Array aJ) (Q:bM→(Nat→ah)→ai→Prop) (S:ai→Prop) (fuel:Nat) (listed:Array Bool) (σ:Nat→ah) (w:ai):Prop :=
 HF P .any ops (lift N Q) S fuel listed (act N σ) w
section
variable {P:av} {N:Fm} {ops:Array aJ} {Q:bM→(Nat→ah)→ai→Prop} {σ:Nat→ah} {w:ai} {d':Option Nat} {d:Nat} {op:Op} {ty:au} {pos :String} {af:Array cH} {v:ah}
variable {S:ai→Prop} {fuel:Nat} {listed:Array Bool}
end
attribute [irreducible] QR
end Go.Hb
end
section
namespace Go.Hb
section
variable {P:av} {N:Fm} {σ:Nat→ah} {w:ai} {dst:Option Nat} {ty:au} {pos :String} {af:Array cH} {g:Option (Nat×Bool)} {x:bA}
theorem JJ {t n C b:Nat} (he:mP P t=some (n,C)) (A:ev N σ x= .pointer (some ⟨b,0,none⟩)):
 (execOp (ev N σ) ⟨dst,.slice t x none none none,ty,pos,af,g⟩).run P w= .ok (.value<|.slice (some ⟨b,0,none⟩) n n) w:=by
 unfold mP at he;cases hd:P.underlying t with
 | none=>rw [hd] at he; cases he
 | some d=>
   rw [hd] at he;cases d <;> first | (cases he; done) | skip
   rename_i m e;cases hi:P.info? e with
   | none=>simp [hi] at he
   | some j=>
     simp only [hi,e7,bR,Prod.mk.injEq] at he;obtain ⟨rfl,rfl⟩:=he;simp [execOp,p7,Instr.sureAddr,mG,A,bS hd,sizeOf,eh hi,gw]
def zj (P:av) (t f:Nat):Option (Nat×Nat):=
 match P.underlying t with
 | some (.struct A)=>(A[f]?).map fun d=>(d.type,d.offset)
 | _=>none
theorem L1 {t f A off n:Nat} {cs vs:List ah} (h:zj P t f=some (A,off)) (ha:dD P A=some (some n)) (I:ev N σ x= .agg cs.toArray) (E:(cs.drop off).take n=vs):
 (execOp (ev N σ) ⟨dst,.field t x f,ty,pos,af,g⟩).run P w= .ok (.value<|.agg vs.toArray) w:=by
 subst E;unfold zj at h;cases hd:P.underlying t with
 | none=>rw [hd] at h; cases h
 | some d=>
   rw [hd] at h;cases d <;> first | (cases h; done) | skip
   rename_i J;simp only [iW] at h;obtain ⟨fd,C,he⟩:=h;cases he;unfold dD at ha;cases hd2:P.underlying fd.type with
   | none=>rw [hd2] at ha; cases ha
   | some d2=>
     rw [hd2] at ha;cases hi:P.info? fd.type with
     | none=>simp [Iu,hi] at hd2
     | some i=>
       rw [hi] at ha;have L:cs.toArray.extract fd.offset (fd.offset+n)=((cs.drop fd.offset).take n).toArray:=by simp
       cases d2 <;> first
        | (cases ha; done)
        | (simp only [e7,bR] at ha; subst ha
           simp [execOp,Ii,bS hd,C,I,asAgg,part,isAgg,bS hd2,sizeOf,eh hi])
end
end Go.Hb
end
section
namespace Go.Hb
theorem My (c:UInt8):∀ l:List UInt8,Ip l c=fy c l:=by
 intro l
 induction l with
 | nil=>rfl
 | cons b l ih=>
   unfold Ip;rw [ih];rw [show fy c (b::l)=if (b::l).idxOf c < (b::l).length then ((b::l).idxOf c:Int) else -1 from rfl,List.idxOf_cons];by_cases h:(b==c)=true
   · rw [if_pos h,h]; rfl
   · have E:(b==c)=false :=by simpa using h
     rw [if_neg h,E];simp only [cond_false,cn];by_cases C:l.idxOf c < l.length
     · have A:fy c l=l.idxOf c:=if_pos C;rw [A,if_neg (fun hb=>by have :=eq_of_beq hb; omega),if_pos ag]; rfl
     · have A:fy c l= -1:=if_neg C;rw [A,if_pos aI,if_neg ag]
theorem OU {P:av} {f:eX} {fn:jw} (C:P.funcs[f]? =some fn) (E:(fn.name== "runtime.NumGoroutine")=false) (hb:fn.body.isNone=true) (hn:Extern.findNext fn=none)
 (he:Extern.find fn=some Rg) (l:List UInt8) (c:UInt8) (w:ai):(callFunc f #[str l,.int .u8 c.toNat]).run P w= .ok (.value<|.int .i64<|fy c l) w:=by
 rw [run_callFunc_extern C E hb hn he];unfold str;rw [Lib.run_indexByteString];have A:((c.toNat:Int)).toNat.toUInt8=c:=UInt8.toNat_inj.1<|by simp
 rw [A,My];rfl
section
variable {P:av} {N:Fm} {σ:Nat→ah} {w:ai} {dst:Option Nat} {ty:au} {pos :String} {af:Array cH} {g:Option (Nat×Bool)}
theorem KA {f:eX} {a b v:ah} {args:Array bA} {A:Array au} (h:(callFunc f #[a,b]).run P w= .ok (.value v) w) (C:args.toList.map (ev N σ)= [a,b]):
 (execOp (ev N σ) ⟨dst,.call ⟨.value (.func f),args,A⟩,ty,pos,af,g⟩).run P w= .ok (.value v) w:=by
 have :args.map (ev N σ)= #[a,b]:=by rw [← su,ju,C]
 simp [execOp,resolve,ev,mE,invoke,this,h]
end
end Go.Hb
end
