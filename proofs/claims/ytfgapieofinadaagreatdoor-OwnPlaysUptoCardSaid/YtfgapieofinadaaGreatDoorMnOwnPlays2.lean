/-
  Walks and plain laws that the law rests on, laid together. No conditions but those that each theorem names.
-/
import Derived.Test.YtfgapieofinadaaGreatDoorMnOwnPlays1
set_option linter.unusedVariables false
open Array renaming ext_getElem?→ya,foldl_toList→yb,getElem?_eq_some_iff→cx,getElem?_modify→yd,getElem?_setIfInBounds_ne→nF,getElem?_setIfInBounds_self_of_lt→oL,toList_filter→sE,toList_inj→sF,toList_map→jx,toList_modify→uG,toList_push→yg,toList_zip→Ik
open Bool renaming eq_iff_iff→oM
open Go.Builtin renaming delete_→sI
open Go.Calls renaming mono→jy
open Go.CallsD renaming mono→Iv
open Go renaming Code→cm,Edge→cI,Exit→bM,Func→jz,FuncId→e9,IntKind→bX,Oper→aO,Operand→bu,Program→av,TypeId→au,Value→ah,World→ai
open Go.Code renaming wp_mono→Ix
open Go.Deferred renaming ofValue→mK
open Go.Extern.BytealgIndexByte renaming indexByte→RY
open Go.Fence renaming wide→ga
open Go.Instr renaming beginRound→IE,checkKey→mL,field→IF,findKey→qh,findNow→qi,keyThatStays→uK,mapUpdate→sJ,sameBits→II,sameNow→BN,sliceAt→qk,sliceBounds→mM,sureAddr→oN,typeAssert→IJ
open Go.Lib renaming indexByte→IK
open Go.Oper renaming semAt_eq→uO,upon→j3,uponIn→sM,wp→iD
open Go.Program renaming underlying→IP
open Go.Region renaming Mode→qt,ready→fH
open Go.Rows renaming mono→BT
open Go.Sem renaming run→lQ
open Go.Value renaming ownBlock→dL
open Go.Value.slice renaming injEq→mO
open Go.World renaming alloc_heap_new→yo,putObj_heap_other→lR,putObj_heap_same→qx,setCell→yp,size_alloc→yq
open List.Nodup renaming sublist→IY
open List.Sublist renaming map→BV
open List renaming eraseIdx_sublist→I5,filter_cons→uS,filter_eq_self→I6,foldl_cons→uV,getD_eq_getElem?_getD→cQ,getElem?_cons_succ→jA,getElem?_cons_zero→jB,getElem?_eq_some_iff→dt,getElem?_inj→BY,getElem?_map→gy,getElem?_of_mem→BZ,getElem?_toArray→nJ,length_append→bo,length_cons→cg,length_map→nK,length_nil→fu,length_replicate→B4,length_singleton→dE,length_take→bY,mapM_toArray→yw,map_append→kE,map_cons→eS,map_map→yx,mem_append→dz,mem_cons→ej,mem_cons_of_mem→mQ,mem_cons_self→lS,mem_eraseIdx_iff_getElem?→Jj,mem_map→iZ,mem_map_of_mem→qA,mem_of_getElem?→lj,mem_of_mem_eraseIdx→B5,mem_singleton→fv,nodup_append→yB,nodup_cons→sP,nodup_nil→yC,perm_ext_iff_of_nodup→Jp,replicate→eM,size_toArray→fS,take_append→Ju,take_of_length_le→ja
open Nat renaming ble→bL,le_refl→bf,lt_or_ge→dM,min_eq_left→sQ,mul_le_mul_right→qB,sub_self→sS
open Option renaming map_eq_some_iff→il,map_some→fg
open Option.some renaming inj→gJ,injEq→bR
open Prod renaming fst→dj
open Prod.mk renaming injEq→kF
open Go.Proofs.Tryz
open Go.RowKit Classical

section
namespace Go.Hb
def mW (P:av) (t:au):Option (Nat×Nat):=
 match P.underlying t with
 | some (.array n e)=>(P.info? e).map fun i=>(n,i.size)
 | _=>none
section
variable {P:av} {N:Fm} {σ:Nat→ah} {w:ai} {dst:Option Nat} {ty:au} {pos :String} {af:Array cI} {g:Option (Nat×Bool)} {x y:bu}
theorem pC {t n A b off :Nat} {k:bX} {i:Int} (he:mW P t=some (n,A)) (C:ev N σ x= .pointer (some ⟨b,off,none⟩)) (E:ev N σ y= .int k i) (h0:0≤i∧i < n):
 (execOp (ev N σ) ⟨dst,.indexAddr t x y,ty,pos,af,g⟩).run P w= .ok (.value<|.pointer<|some ⟨b,off+i.toNat*A,none⟩) w:=by
 unfold mW at he;cases hd:P.underlying t with
 | none=>rw [hd] at he; cases he
 | some d=>
   rw [hd] at he;cases d <;> first | (cases he; done) | skip
   rename_i m e;cases hi:P.info? e with
   | none=>simp [hi] at he
   | some j=>
     simp only [hi,fg,bR,kF] at he;obtain ⟨rfl,rfl⟩:=he;simp [execOp,Instr.indexAt,oN,C,E,asIntOf,bS hd,h0.1,h0.2,sizeOf,eh hi,fw]
end
theorem NY {h:Array Obj} {b:Nat} {a:List UInt8} (A:aD h b (marksOf a)) (c:UInt8):Hb.aH h b (0 +((c.toNat:Nat):Int).toNat*1)=some (.bool<|decide (c∈a)):=by
 rw [A.aH,show 0 +((c.toNat:Nat):Int).toNat*1=c.toNat from by omega]; exact NV a c
theorem NZ {h:Array Obj} {b:Nat} {a:List UInt8} {c:UInt8} (A:aD h b ((marksOf a).set (0 +((c.toNat:Nat):Int).toNat*1)<|.bool true)):aD h b (marksOf<|a++ [c]):=by
 rw [show 0 +((c.toNat:Nat):Int).toNat*1=c.toNat from by omega,NX] at A; exact A
end Go.Hb
end
section
set_option linter.unusedSimpArgs false
namespace Go.Hb
structure lV (P:av) (k:au) (bj:ah→Prop):Prop where
 key:qG P k bj
 stays:∀ w v,bj v→(uK v v).run P w= .ok v w
def dU (v:ah):Prop := ∃ s:List UInt8,v=str s
def EH (q:bX) (v:ah):Prop := ∃ a:Int,v= .int q a
theorem Ed {d:TypeDesc} {bj:ah→Prop} (M:∀ x y,bj x→bj y→∃ A,BN d x y=some A∧(A=true↔x=y)) {x:ah} (O:bj x):∀ (es:List MapEntry) (i:Nat),(∀ e∈es,bj e.key)→
 (qi d x es i=some none∧∀ e∈es,e.key≠x)∨∃ j e,qi d x es i=some (some (i+j,e.val))∧es[j]? =some e∧e.key=x
 | [],i,_=> .inl ⟨rfl,fun _ h=>by simp at h⟩
 | e::es,i,h=>by
   obtain ⟨A,C,L⟩:=M x e.key O<|h e<|by simp
   cases A with
   | true =>exact .inr ⟨0,e,by simp [qi,C],rfl,(L.1 rfl).symm⟩
   | false =>
     have Z:e.key≠x:=fun V=>by cases L.2 V.symm
     rcases Ed M O es (i+1) (fun e he=>h e<|by simp [he]) with ⟨E,I⟩ | ⟨j,e',E,I,U⟩
     · refine .inl ⟨by simp [qi,C,E],fun e' J=> ?_⟩;rcases ej.1 J with rfl | J
       · exact Z
       · exact I e' J
     · refine .inr ⟨j+1,e',?_,I,U⟩;simp only [qi,C,E]; rw [show i+1 +j=i+(j+1) from by omega]
theorem EP {P:av} {k:au} {d:TypeDesc} {bj:ah→Prop} (I:P.underlying k=some d) (M:∀ x y,bj x→bj y→∃ E,BN d x y=some E∧(E=true↔x=y)) (L:∀ em w v,bj v→(mL em 10000 k v).run P w= .ok () w):qG P k bj where
 check:=L
 find w x es hx hes:=by
  rcases Ed M hx es 0 hes with ⟨A,C⟩ | ⟨j,e,A,C,J⟩
  · exact .inl ⟨by simp [qh,bS I,A],C⟩
  · exact .inr ⟨j,e,by simp [qh,bS I,A],C,J⟩
theorem CD (a b:ByteArray):(a==b)=decide (a=b):=by
 rw [oM,decide_eq_true_iff];show ((a.data==b.data)=true)↔_;rw [beq_iff_eq];exact ⟨fun h=>by cases a; cases b; cases h; rfl,fun h=>by rw [h]⟩
theorem z1 {P:av} {k:au} (A:P.underlying k=some .string):lV P k dU where
 key:=EP A (by
  rintro _ _ ⟨a,rfl⟩ ⟨b,rfl⟩;refine ⟨_,U,?_⟩;rw [CD,decide_eq_true_iff];constructor
  · intro h; unfold str; rw [h]
  · intro h; unfold str at h; cases h; rfl) (by rintro em w _ ⟨a,rfl⟩; exact CU (n:=9999) A w)
 stays w v hv:=by obtain ⟨a,rfl⟩:=hv; simp [uK,II,str,CD]
theorem KG {P:av} {k:au} {q r:bX} {em:Bool} {n:Nat} {a:Int} (A:P.underlying k=some (.int q)) (w:ai):(mL em (n+1) k<|.int r a).run P w= .ok () w:=by
 simp only [mL,Sem.run_bind,bS A,Result.andThen_ok,Sem.run_pure]
theorem EO {P:av} {k:au} {q r:bX} (A:P.underlying k=some (.int q)):lV P k (EH r) where
 key:=EP A (by
  rintro _ _ ⟨a,rfl⟩ ⟨b,rfl⟩;refine ⟨decide (a=b),by simp [BN]; rfl,?_⟩;rw [decide_eq_true_iff];exact ⟨fun h=>by rw [h],fun h=>by cases h; rfl⟩) (by rintro em w _ ⟨a,rfl⟩; exact KG (n:=9999) A w)
 stays w v hv:=by obtain ⟨a,rfl⟩:=hv; simp [uK,II]
def jG (h:Array Obj) (b:Nat) (bj:ah→Prop) (f:ah→Option ah):Prop :=
 ∃ kvs,lW h b kvs∧(∀ p∈kvs,bj p.1)∧(kvs.map dj).Nodup∧∀ k v,f k=some v↔(k,v)∈kvs
theorem jG.md {F:Nat→Prop} {w w':ai} {b:Nat} {bj:ah→Prop} {f:ah→Option ah} (h:jG w.heap b bj f) (hm:Md F w w') (A:¬F b):jG w'.heap b bj f:=
 let ⟨kvs,h1,h2⟩:=h; ⟨kvs,h1.md hm A,h2⟩
theorem jG.lt {h:Array Obj} {b:Nat} {bj:ah→Prop} {f:ah→Option ah} (hm:jG h b bj f):b < h.size:=let ⟨_,h1,_⟩:=hm; h1.lt
theorem jG.isMap {h:Array Obj} {b:Nat} {bj:ah→Prop} {f:ah→Option ah} (hm:jG h b bj f):∃ es c,h[b]? =some (.map es c):=let ⟨_,⟨es,c,h1,_⟩,_⟩:=hm; ⟨es,c,h1⟩
theorem jG.fB {h:Array Obj} {b:Nat} {bj:ah→Prop} {f:ah→Option ah} (hm:jG h b bj f) {cur:Array ah} {e:au} {z:Nat×Nat} :h[b]?≠some (.cells cur e z):=by
 obtain ⟨es,c,A⟩:=hm.isMap; rw [A]; intro h; cases h
noncomputable def jr (f:ah→Option ah) (k v:ah):ah→Option ah:=fun q=>if q=k then some v else f q
section
variable {P:av} {N:Fm} {σ:Nat→ah} {w:ai} {dst:Option Nat} {ty:au} {pos :String} {af:Array cI} {g:Option (Nat×Bool)} {x y z:bu} {K:(Nat→ah)→ai→Prop}
variable {t k e:au} {bj:ah→Prop} {b:Nat} {f:ah→Option ah} {kx v zv:ah}
theorem E5 {ok:Bool} (L:P.underlying t=some (.map k e)) (V:zeroV P e=some zv) (C:lV P k bj) (hm:jG w.heap b bj f) (M:ev N σ x= .map (some b)) (O:ev N σ y=kx) (hi:bj kx):
 (execOp (ev N σ) ⟨dst,.lookup t x y ok,ty,pos,af,g⟩).run P w= .ok (.value (if ok then .tuple #[(f kx).getD zv,.bool (f kx).isSome] else (f kx).getD zv)) w:=by
 obtain ⟨kvs,E,I,U,J⟩:=hm;cases hf:f kx with
 | none=>exact E4 L V C.key E I M O hi fun v A=>by rw [← J] at A; rw [hf] at A; cases A
 | some v=>exact E3 L C.key E I M O hi U<|(J kx v).1 hf
theorem tO (C:P.underlying t=some (.map k e)) (L:zeroV P e=some zv) (A:lV P k bj) (hm:jG w.heap b bj f) (I:ev N σ x= .map (some b)) (J:ev N σ y=kx) (hi:bj kx) (E:(f kx).getD zv=v):
 (execOp (ev N σ) ⟨dst,.lookup t x y false,ty,pos,af,g⟩).run P w= .ok (.value v) w:=by
 rw [E5 C L A hm I J hi,E]; rfl
theorem NF {ob:Bool} (E:P.underlying t=some (.map k e)) (M:zeroV P e=some zv) (A:lV P k bj) (hm:jG w.heap b bj f) (J:ev N σ x= .map (some b)) (L:ev N σ y=kx) (hi:bj kx) (I:(f kx).getD zv=v) (C:(f kx).isSome=ob):
 (execOp (ev N σ) ⟨dst,.lookup t x y true,ty,pos,af,g⟩).run P w= .ok (.value<|.tuple #[v,.bool ob]) w:=by
 rw [E5 E M A hm J L hi,I,C]; rfl
end
end Go.Hb
end
section
namespace Go.Hb
open Go.ChangeMaps
structure jF (es:List MapEntry) (c:Nat):Prop where
 lt:∀ e∈es,e.born < c
 nd:(es.map (·.born)).Nodup
structure je (es:List MapEntry) (bj:ah→Prop) (f:ah→Option ah):Prop where
 ks:∀ e∈es,bj e.key
 nd:(es.map (·.key)).Nodup
 iff :∀ k v,f k=some v↔∃ e∈es,e.key=k∧e.val=v
def cJ (h:Array Obj) (b:Nat) (bj:ah→Prop) (f:ah→Option ah):Prop := ∃ es c,h[b]? =some (.map es c)∧jF es.toList c∧je es.toList bj f
theorem cJ.ow {h:Array Obj} {b:Nat} {bj:ah→Prop} {f:ah→Option ah} (hm:cJ h b bj f):jG h b bj f:=by
 obtain ⟨es,c,A,_,C⟩:=hm;refine ⟨_,⟨es,c,A,U⟩,fun p hp=> ?_,?_,fun k v=> ?_⟩
 · obtain ⟨e,he,rfl⟩:=iZ.1 hp; exact C.ks e he
 · rw [yx]; exact C.nd
 · rw [C.iff,iZ];exact ⟨fun ⟨e,he,A,E⟩=>⟨e,he,by rw [A,E]⟩,fun ⟨e,he,A⟩=>⟨e,he,congrArg dj A,congrArg Prod.snd A⟩⟩
theorem cJ.md {F:Nat→Prop} {w w':ai} {b:Nat} {bj:ah→Prop} {f:ah→Option ah} (h:cJ w.heap b bj f) (hm:Md F w w') (E:¬F b):cJ w'.heap b bj f:=by
 obtain ⟨es,c,A,C⟩:=h;exact ⟨es,c,by rw [hm.dC b (cx.1 A).1 E]; exact A,C⟩
theorem cJ.wk {w w':ai} {b:Nat} {bj:ah→Prop} {f:ah→Option ah} (h:cJ w.heap b bj f) (hm:Wk w w'):cJ w'.heap b bj f:=h.md hm id
theorem cJ.lt {h:Array Obj} {b:Nat} {bj:ah→Prop} {f:ah→Option ah} (hm:cJ h b bj f):b < h.size:=hm.ow.lt
theorem cJ.nil {h:Array Obj} {b:Nat} {bj:ah→Prop} {c:Nat} (hm:h[b]? =some (.map #[] c)):cJ h b bj fun _=>none:=
 ⟨#[],c,hm,⟨fun _ h=>by simp at h,by simp⟩,fun _ h=>by simp at h,by simp,fun k v=>by simp⟩
theorem cJ.fB {h:Array Obj} {b:Nat} {bj:ah→Prop} {f:ah→Option ah} (hm:cJ h b bj f) {cur:Array ah} {e:au} {z:Nat×Nat} :h[b]?≠some (.cells cur e z):=hm.ow.fB
theorem je.push {es:List MapEntry} {bj:ah→Prop} {f:ah→Option ah} {kx v:ah} {c:Nat} (h:je es bj f) (hi:bj kx) (I:∀ e∈es,e.key≠kx):je (es++ [{key:=kx,val:=v,born:=c}]) bj (jr f kx v) where
 ks e he:=by
  rcases dz.1 he with he | he
  · exact h.ks e he
  · rw [fv.1 he]; exact hi
 nd:=by
  rw [kE,yB];refine ⟨h.nd,by simp,fun a ha b hb J=> ?_⟩;obtain ⟨e,he,rfl⟩:=iZ.1 ha;simp at hb;exact I e he<|by rw [J,hb]
 iff k u:=by
  unfold jr;by_cases E:k=kx
  · subst E;rw [if_pos rfl];constructor
    · intro A; cases A; exact ⟨_,List.mem_append_right _ (fv.2 rfl),rfl,rfl⟩
    · rintro ⟨e,he,A,C⟩;rcases dz.1 he with he | he
      · exact absurd A<|I e he
      · rw [fv.1 he] at C; rw [← C]
  · rw [if_neg E,h.iff];constructor
    · rintro ⟨e,he,A⟩; exact ⟨e,List.mem_append_left _ he,A⟩
    · rintro ⟨e,he,A,C⟩;rcases dz.1 he with he | he
      · exact ⟨e,he,A,C⟩
      · rw [fv.1 he] at A; exact absurd A.symm E
theorem jF.push {es:List MapEntry} {kx v:ah} {c:Nat} (h:jF es c):jF (es++ [{key:=kx,val:=v,born:=c}]) (c+1) where
 lt e he:=by
  rcases dz.1 he with he | he
  · have :=h.lt e he; omega
  · rw [fv.1 he]; exact Nat.lt_succ_self _
 nd:=by
  rw [kE,yB];refine ⟨h.nd,by simp,fun a ha b hb A=> ?_⟩;obtain ⟨e,he,rfl⟩:=iZ.1 ha;simp at hb;have :=h.lt e he; omega
theorem wW {α:Type} (l:List α) (g:α→α) (i j:Nat):(l.modify i g)[j]? =if i=j then (l[j]?).map g else l[j]? :=by grind
theorem ru {α:Type} {l:List α} {g:α→α} {i:Nat} {e:α} (hi:l[i]? =some e) (x:α):x∈l.modify i g↔x=g e∨∃ j,j≠i∧l[j]? =some x:=by
 rw [List.mem_iff_getElem?];constructor
 · rintro ⟨j,A⟩;rw [wW] at A;by_cases h:i=j
   · subst h; rw [if_pos rfl,hi] at A; exact .inl (gJ A).symm
   · rw [if_neg h] at A;exact .inr ⟨j,fun e=>h e.symm,A⟩
 · rintro (rfl | ⟨j,A,h⟩)
   · exact ⟨i,by rw [wW,if_pos U,hi]; rfl⟩
   · exact ⟨j,by rw [wW,if_neg (fun e=>A e.symm),h]⟩
theorem Fu {α β:Type} {l:List α} (g:α→α) (p:α→β) (hp:∀ x,p (g x)=p x) (i:Nat):(l.modify i g).map p=l.map p:=by
 apply List.ext_getElem?;intro j;rw [gy,gy,wW];cases l[j]? with
 | none=>by_cases h:i=j <;> simp [h]
 | some x=>by_cases h:i=j <;> simp [h,hp]
theorem je.PM {es:List MapEntry} {bj:ah→Prop} {f:ah→Option ah} {v:ah} {i:Nat} {e:MapEntry} (h:je es bj f) (hi:es[i]? =some e):je (es.modify i fun e=> {e with val:=v}) bj (jr f e.key v) where
 ks x E:=by
  rcases (ru hi x).1 E with rfl | ⟨j,_,A⟩
  · exact h.ks e<|lj hi
  · exact h.ks x<|lj A
 nd:=by rw [Fu (fun e:MapEntry=> {e with val:=v}) (·.key) (fun _=>rfl)]; exact h.nd
 iff k u:=by
  have U:∀ {j:Nat} {x:MapEntry},es[j]? =some x→x.key=e.key→j=i:=fun {j x} A I=>by
   have O:=(dt.1 A).1;exact (BY (by simpa using O) h.nd).1<|by rw [gy,gy,A,hi,fg,fg,I]
  unfold jr;by_cases I:k=e.key
  · subst I;rw [if_pos rfl];constructor
    · intro C; cases C; exact ⟨_,(ru hi _).2 (.inl rfl),rfl,rfl⟩
    · rintro ⟨x,E,C,J⟩;rcases (ru hi x).1 E with rfl | ⟨j,A,M⟩
      · rw [← J]
      · exact absurd (U M C) A
  · rw [if_neg I,h.iff];constructor
    · rintro ⟨x,E,C,J⟩;obtain ⟨j,A⟩:=BZ E;have L:j≠i:=fun L=>by subst L; rw [hi] at A; cases A; exact I C.symm
      exact ⟨x,(ru hi x).2 (.inr ⟨j,L,A⟩),C,J⟩
    · rintro ⟨x,E,C,J⟩;rcases (ru hi x).1 E with rfl | ⟨j,_,M⟩
      · exact absurd C.symm I
      · exact ⟨x,lj M,C,J⟩
section
variable {P:av} {N:Fm} {σ:Nat→ah} {w:ai} {dst:Option Nat} {ty:au} {pos :String} {af:Array cI} {g:Option (Nat×Bool)} {x y z:bu} {K:(Nat→ah)→ai→Prop}
variable {t k e:au} {bj:ah→Prop} {b:Nat} {f:ah→Option ah} {kx v zv:ah}
end
def ir (h:Array Obj) (r b:Nat) (left :List (ah×ah)):Prop :=
 ∃ (es:Array MapEntry) (c:Nat) (seen:Array Nat) (A:Nat),h[r]? =some (.mapIter (some b) c seen A)∧c≤A∧h[b]? =some (.map es c)∧jF es.toList c∧(leftOf es seen).toList.map (fun e=>(e.key,e.val))=left
def jg (h:Array Obj) (r b:Nat) (left :List (ah×ah)) (A:ah×ah):Prop :=
 ∃ (es:Array MapEntry) (c:Nat) (seen:Array Nat) (e:MapEntry),h[r]? =some (.mapIter (some b) c (seen.push e.born) c)∧h[b]? =some (.map es c)∧jF es.toList c∧(leftOf es<|seen.push e.born).toList.map (fun e=>(e.key,e.val))=left∧e∈es.toList∧(e.key,e.val)=A
theorem jg.ry {h:Array Obj} {r b:Nat} {left :List (ah×ah)} {A:ah×ah} (hm:jg h r b left A):ir h r b left :=by grind [jg,ir]
theorem ir.md {F:Nat→Prop} {w w':ai} {r b:Nat} {left :List (ah×ah)} (h:ir w.heap r b left) (hm:Md F w w') (hr:¬F r) (hb:¬F b):ir w'.heap r b left :=by
 obtain ⟨es,c,seen,E,A,I,C,J⟩:=h;exact ⟨es,c,seen,E,by rw [hm.dC r (cx.1 A).1 hr]; exact A,I,by rw [hm.dC b (cx.1 C).1 hb]; exact C,J⟩
theorem jg.md {F:Nat→Prop} {w w':ai} {r b:Nat} {left :List (ah×ah)} {E:ah×ah} (h:jg w.heap r b left E) (hm:Md F w w') (hr:¬F r) (hb:¬F b):jg w'.heap r b left E:=by
 obtain ⟨es,c,seen,e,A,C,I⟩:=h;exact ⟨es,c,seen,e,by rw [hm.dC r (cx.1 A).1 hr]; exact A,by rw [hm.dC b (cx.1 C).1 hb]; exact C,I⟩
section
variable {P:av} {N:Fm} {σ:Nat→ah} {w:ai} {dst:Option Nat} {ty:au} {pos :String} {af:Array cI} {g:Option (Nat×Bool)} {x y z:bu} {K:(Nat→ah)→ai→Prop}
variable {t k e:au} {bj:ah→Prop} {b:Nat} {f:ah→Option ah} {kx v zv:ah}
theorem xn (M:P.underlying t=some (.map k e)) (hm:cJ w.heap b bj f) (O:ev N σ x= .map (some b))
 (U:∀ r w' left,r=w.heap.size→Nw w w'→ir w'.heap r b left→(∀ p∈left,bj p.1)→(left.map dj).Nodup→(∀ k v,f k=some v↔(k,v)∈left)→K (dq σ dst<|.pointer<|some ⟨r,0,none⟩) w'):
 cz P N ⟨dst,.range t x,ty,pos,af,g⟩ σ w K:=by
 obtain ⟨es,c,hr,J,E⟩:=hm;have L:=(cx.1 hr).1;refine lN (v:=fun r=> .pointer<|some ⟨r,0,none⟩) (ob:= .mapIter (some b) c #[] c) ?_ (fun r w' A C I=>U r w' (es.toList.map fun e=>(e.key,e.val)) A C ⟨es,c,#[],c,I,bf _,by rw [C.md.dC b L id]; exact hr,J,by unfold leftOf; simp only [sE]; rw [I6.2 (fun x _=>by simp)]⟩ ?_ ?_ ?_)
 · simp [execOp,O,Instr.range,bS M,run_getObj_map hr]
 · intro p hp; obtain ⟨e,he,rfl⟩:=iZ.1 hp; exact E.ks e he
 · rw [yx]; exact E.nd
 · intro k v;rw [E.iff,iZ];exact ⟨fun ⟨e,he,A,C⟩=>⟨e,he,by rw [A,C]⟩,fun ⟨e,he,A⟩=>⟨e,he,congrArg dj A,congrArg Prod.snd A⟩⟩
theorem Nx {es:Array MapEntry} {seen:Array Nat} {e:MapEntry} (hn:(es.toList.map (·.born)).Nodup) (he:e∈(leftOf es seen).toList):(leftOf es seen).toList.Perm (e::(leftOf es<|seen.push e.born).toList):=by
 have C:(leftOf es<|seen.push e.born).toList=(leftOf es seen).toList.filter fun x=>x.born !=e.born:=by
  unfold leftOf;simp only [sE,List.filter_filter];congr 1;funext x;have I:(seen.push e.born).contains x.born=(seen.contains x.born || x.born==e.born):=by
   rw [oM]; simp [Array.mem_push]
  rw [I,Bool.not_or,Bool.and_comm]; rfl
 have A:((leftOf es seen).toList.map (·.born)).Nodup:=by
  unfold leftOf;rw [sE];exact (List.filter_sublist.map _).nodup hn
 rw [C];generalize (leftOf es seen).toList=l at he A;clear C
 induction l with
 | nil=>cases he
 | cons a l ih=>
   rw [eS,sP] at A;by_cases ha:a=e
   · subst ha;have E:(a::l).filter (fun x=>x.born !=a.born)=l:=by
      rw [uS,if_neg (by simp)];exact I6.2 fun x L=>by
       have :x.born≠a.born:=fun h=>A.1<|h ▸ qA L;simpa using this
     rw [E]
   · have jm:e∈l:=by
      rcases ej.1 he with h | h
      · exact absurd h.symm ha
      · exact h
     have J:a.born≠e.born:=fun h=>A.1<|h ▸ qA jm;rw [uS,if_pos (by simpa using J)];exact ((ih jm A.2).cons a).trans<|List.Perm.swap e a _
theorem Oi {r:Nat} {left :List (ah×ah)} (hm:ir w.heap r b left) (M:ev N σ x= .pointer (some ⟨r,0,none⟩))
 (h0:left = []→K (dq σ dst<|.tuple #[.bool false]) w)
 (V:∀ A left' w',left.Perm (A::left')→Md (fun j=>j=r) w w'→jg w'.heap r b left' A→K (dq σ dst<|.tuple #[.bool true,A.1,A.2]) w'):
 cz P N ⟨dst,.next x false,ty,pos,af,g⟩ σ w K:=by
 obtain ⟨es,c,seen,O,hr,aa,hb,C,rfl⟩:=hm;rcases run_next_at (P:=P) w ty r b c O seen es c hr hb C.lt aa with ⟨Z,I⟩ | ⟨e,he,w1,J,I⟩
 · refine j0 (v:= .tuple #[.bool false]) ?_<|h0<|by rw [Array.eq_empty_of_size_eq_zero Z]; rfl
   simp [execOp,M,I]
 · have E:w1.heap=w.heap:=by rcases J with rfl | rfl <;> rfl
   have L:Md (fun j=>j=r) w (setBlock w1 r<|.mapIter (some b) c (seen.push e.born) c):=by
    refine ⟨?_,?_,?_,fun j _ ab=> ?_⟩
    · rcases J with rfl | rfl <;> rfl
    · rcases J with rfl | rfl <;> rfl
    · simp [setBlock,E]
    · simp only [setBlock,E]; rw [nF (fun e=>ab e.symm)]
   have ac:r≠b:=fun h=>by subst h; rw [hr] at hb; cases hb
   refine j0 (v:= .tuple #[.bool true,e.key,e.val]) ?_ (V (e.key,e.val) _ _ (by have :=(Nx C.nd he).map (fun e=>(e.key,e.val)); exact this) L ⟨es,c,seen,e,?_,?_,C,U,?_,U⟩)
   · simp [execOp,M,I]
   · simp only [setBlock,E]; rw [oL (cx.1 hr).1]
   · rw [L.dC b (cx.1 hb).1 (fun h=>ac h.symm)]; exact hb
   · unfold leftOf at he;rw [sE] at he;exact (List.mem_filter.1 he).1
def FG (b:Bool) (A:ah×ah):ah:=match b with | true => .tuple #[.bool true,A.1,A.2] | false => .tuple #[.bool false]
theorem wZ {A:Bool} {E:ah×ah} (C:ev N σ x=FG A E):(execOp (ev N σ) ⟨dst,.extract x 0,ty,pos,af,g⟩).run P w= .ok (.value<|.bool A) w:=by
 cases A
 · exact xt C U
 · exact xt C U
theorem wY {r:Nat} {left :List (ah×ah)} (hm:ir w.heap r b left) (M:ev N σ x= .pointer (some ⟨r,0,none⟩))
 (h:∀ C A left' w',(C=false→left = []∧w'=w)→(C=true→left.Perm (A::left')∧Md (fun j=>j=r) w w'∧jg w'.heap r b left' A)→K (dq σ dst<|FG C A) w'):
 cz P N ⟨dst,.next x false,ty,pos,af,g⟩ σ w K:=
 Oi hm M (fun L=>h false (.nilFunc,.nilFunc) [] w (fun _=>⟨L,rfl⟩) fun h=>by cases h) (fun A left' w' E I J=>h true A left' w' (fun h=>by cases h) fun _=>⟨E,I,J⟩)
theorem vS {r:Nat} {left :List (ah×ah)} {A:ah×ah} (hm:jg w.heap r b left A) (L:ev N σ x= .pointer (some ⟨r,0,none⟩)):
 (execOp (ev N σ) ⟨dst,.entry x,ty,pos,af,g⟩).run P w= .ok (.value<|.tuple #[A.1,A.2]) w:=by
 obtain ⟨es,c,seen,e,C,E,I,_,J,rfl⟩:=hm;have :=run_entry_at (P:=P) w r b c seen es c e C E J I.nd;simp [execOp,L,this]
end
end Go.Hb
end
section
namespace Go.Hb
open Go.ChangeMaps
noncomputable def na (f:ah→Option ah) (k:ah):ah→Option ah:=fun q=>if q=k then none else f q
theorem LN {f:ah→Option ah} {k:ah} (h:f k=none):na f k=f:=by
 funext q; unfold na;by_cases A:q=k
 · subst A; rw [if_pos rfl,h]
 · rw [if_neg A]
def fI (f:ah→Option ah) (n:Nat):Prop := ∃ l:List ah,l.Nodup∧l.length=n∧∀ k,(∃ v,f k=some v)↔k∈l
theorem fI.uniq {f:ah→Option ah} {n m:Nat} (h:fI f n) (A:fI f m):n=m:=by
 obtain ⟨l,C,rfl,E⟩:=h;obtain ⟨I,g1,rfl,g3⟩:=A;exact ((Jp C g1).2 fun k=>by rw [← E,← g3]).length_eq
theorem fI.nil:fI (fun _=>none) 0:=⟨[],yC,rfl,fun k=>by simp⟩
theorem fI.new {f:ah→Option ah} {n:Nat} {k v:ah} (h:fI f n) (I:f k=none):fI (jr f k v) (n+1):=by
 obtain ⟨l,E,rfl,C⟩:=h;have hn:k∉l:=fun hm=>by obtain ⟨u,hu⟩:=(C k).2 hm; rw [I] at hu; cases hu
 refine ⟨k::l,sP.2 ⟨hn,E⟩,U,fun q=> ?_⟩;unfold jr;by_cases A:q=k
 · subst A; simp
 · rw [if_neg A,C,ej]; simp [A]
theorem fI.fC {f:ah→Option ah} {n:Nat} {k v u:ah} (h:fI f n) (I:f k=some u):fI (jr f k v) n:=by
 obtain ⟨l,E,rfl,A⟩:=h;refine ⟨l,E,U,fun q=> ?_⟩;unfold jr;by_cases C:q=k
 · subst C; rw [if_pos rfl]; exact ⟨fun _=>(A q).1 ⟨u,I⟩,fun _=>⟨v,rfl⟩⟩
 · rw [if_neg C,A]
theorem fI.zero {f:ah→Option ah} (h:fI f 0) (k:ah):f k=none:=by
 obtain ⟨l,E,A,C⟩:=h;have :l= []:=List.length_eq_zero_iff.1 A;subst this;cases hf:f k with
 | none=>rfl
 | some v=>exact absurd ((C k).1 ⟨v,hf⟩)<|by simp
theorem cJ.eV {h:Array Obj} {b:Nat} {bj:ah→Prop} {f:ah→Option ah} (hm:cJ h b bj f):∃ es c,h[b]? =some (.map es c)∧fI f es.size:=by
 obtain ⟨es,c,E,_,A⟩:=hm;refine ⟨es,c,E,es.toList.map (·.key),A.nd,by simp,fun k=> ?_⟩;rw [iZ];exact ⟨fun ⟨v,I⟩=>let ⟨e,he,C,_⟩:=(A.iff k v).1 I; ⟨e,he,C⟩,fun ⟨e,he,C⟩=>⟨e.val,(A.iff k _).2 ⟨e,he,C,U⟩⟩⟩
theorem je.del {es:List MapEntry} {bj:ah→Prop} {f:ah→Option ah} {i:Nat} {e:MapEntry} (h:je es bj f) (hi:es[i]? =some e):je (es.eraseIdx i) bj (na f e.key) where
 ks x E:=h.ks x<|B5 E
 nd:=IY (BV _<|I5 _ _) h.nd
 iff k u:=by
  have U:∀ {j:Nat} {x:MapEntry},es[j]? =some x→x.key=e.key→j=i:=fun {j x} C I=>by
   have O:=(dt.1 C).1;exact (BY (by simpa using O) h.nd).1<|by rw [gy,gy,C,hi,fg,fg,I]
  unfold na;by_cases I:k=e.key
  · subst I;rw [if_pos rfl];constructor
    · intro A; cases A
    · rintro ⟨x,E,A,J⟩;obtain ⟨j,C,M⟩:=Jj.1 E;exact absurd (U M A) C
  · rw [if_neg I,h.iff];constructor
    · rintro ⟨x,E,A,J⟩;obtain ⟨j,C⟩:=BZ E;have L:j≠i:=fun L=>by subst L; rw [hi] at C; cases C; exact I A.symm
      exact ⟨x,Jj.2 ⟨j,L,C⟩,A,J⟩
    · rintro ⟨x,E,A,J⟩;exact ⟨x,B5 E,A,J⟩
theorem jF.del {es:List MapEntry} {c:Nat} (h:jF es c) (i:Nat):jF (es.eraseIdx i) c:=
 ⟨fun e he=>h.lt e (B5 he),IY (BV _<|I5 _ _) h.nd⟩
theorem D9 {α:Type} {p:α→Bool} :∀ {l:List α} {i:Nat} {x:α},l[i]? =some x→p x=false→(l.eraseIdx i).filter p=l.filter p
 | a::l,0,x,h,hp=>by
   simp only [jB,bR] at h;subst h;simp [hp]
 | a::l,i+1,x,h,hp=>by
   simp only [jA] at h;simp only [List.eraseIdx_cons_succ,uS,D9 h hp]
section
variable {P:av} {N:Fm} {σ:Nat→ah} {w:ai} {dst:Option Nat} {ty:au} {pos :String} {af:Array cI} {g:Option (Nat×Bool)} {x y z:bu} {K:(Nat→ah)→ai→Prop}
variable {t k e:au} {bj:ah→Prop} {b:Nat} {f:ah→Option ah} {kx v zv:ah}
theorem Q5 (Z:P.underlying t=some (.map k e)) (A:lV P k bj) (hm:cJ w.heap b bj f) (hi:bj kx):
 ∃ w',(sJ t (.map<|some b) kx v).run P w= .ok () w'∧Md (fun j=>j=b) w w'∧cJ w'.heap b bj (jr f kx v):=by
 obtain ⟨es,c,hr,C,L⟩:=hm;have hb:=(cx.1 hr).1;rcases A.key.find w kx es.toList hi L.ks with ⟨I,ac⟩ | ⟨j,e',I,E,J⟩
 · refine ⟨{w with heap:=w.heap.setIfInBounds b<|.map (es.push {key:=kx,val:=v,born:=c})<|c+1},by simp [sJ,bS Z,run_getObj_map hr,A.key.check _ w kx hi,I,setObj,lQ,hr],⟨U,U,by simp,fun i _ O=>by simp only; rw [nF (fun e=>O e.symm)]⟩,es.push {key:=kx,val:=v,born:=c},c+1,by simp only; rw [oL hb],?_,?_⟩
   · rw [yg]; exact C.push
   · rw [yg]; exact L.push hi ac
 · have V:es[j]? =some e':=by simpa using E
   have ae:(es.modify j fun e=> {e with key:=kx,val:=v})=es.modify j fun e=> {e with val:=v} :=by
    apply ya;intro i;rw [yd,yd];by_cases M:j=i
    · subst M; rw [if_pos rfl,if_pos rfl,V,← J]; rfl
    · rw [if_neg M,if_neg M]
   refine ⟨{w with heap:=w.heap.setIfInBounds b<|.map (es.modify j fun e=> {e with key:=kx,val:=v}) c},?_,⟨U,U,by simp,fun i _ O=>by simp only; rw [nF (fun e=>O e.symm)]⟩,es.modify j fun e=> {e with val:=v},c,by simp only; rw [oL hb,ae],⟨fun x aa=> ?_,?_⟩,?_⟩
   · have ad:=A.stays w kx hi;simp [sJ,bS Z,run_getObj_map hr,A.key.check _ w kx hi,I,V,J,ad,setObj,lQ,hr]
   · rw [uG] at aa;rcases (ru E x).1 aa with rfl | ⟨i,_,ab⟩
     · exact C.lt e'<|lj E
     · exact C.lt x<|lj ab
   · rw [uG,Fu (fun e:MapEntry=> {e with val:=v}) (·.born) (fun _=>rfl)]; exact C.nd
   · rw [uG,← J]; exact L.PM E
theorem xP (L:P.underlying t=some (.map k e)) (A:lV P k bj) (hm:cJ w.heap b bj f) (M:ev N σ x= .map (some b)) (O:ev N σ y=kx) (V:ev N σ z=v) (hi:bj kx)
 (Z:∀ w',Md (fun j=>j=b) w w'→cJ w'.heap b bj (jr f kx v)→K σ w'):cz P N ⟨none,.mapUpdate t x y z,ty,pos,af,g⟩ σ w K:=by
 obtain ⟨w',C,E,I⟩:=Q5 (v:=v) L A hm hi;have J:(execOp (ev N σ) ⟨none,.mapUpdate t x y z,ty,pos,af,g⟩).run P w= .ok .skip w':=by
  simp [execOp,M,O,V,C]
 unfold cz iD;rw [ek,J];exact ⟨σ,U,Z w' E I⟩
theorem LL {kt:au} (aj:P.underlying t=some (.map k e)) (I:lV P k bj) (hm:cJ w.heap b bj f) (hi:bj kx) (av:ev N σ x= .map (some b)) (aw:ev N σ y=kx):
 ∃ w',(execOp (ev N σ) ⟨dst,.call ⟨.builtin .delete,#[x,y],#[t,kt]⟩,ty,pos,af,g⟩).run P w= .ok (.value undef) w'∧Md (fun j=>j=b) w w'∧cJ w'.heap b bj (na f kx)∧
   ∀ r left E,E.1=kx→jg w.heap r b left E→ir w'.heap r b left :=by
 have ag:∀ {w':ai},(sI #[t,kt] ty #[.map (some b),kx]).run P w= .ok undef w'→(execOp (ev N σ) ⟨dst,.call ⟨.builtin .delete,#[x,y],#[t,kt]⟩,ty,pos,af,g⟩).run P w= .ok (.value undef) w':=by
  intro w' h;simp [execOp,resolve,invoke,builtin,av,aw,h]
 obtain ⟨es,c,hr,L,A⟩:=hm;have hb:=(cx.1 hr).1;rcases I.key.find w kx es.toList hi A.ks with ⟨J,aq⟩ | ⟨j,e',J,Z,ac⟩
 · have O:f kx=none:=by
    cases O:f kx with
    | none=>rfl
    | some u=>obtain ⟨al,an,am,_⟩:=(A.iff kx u).1 O; exact absurd am<|aq al an
   have ah:w.heap.setIfInBounds b (.map es c)=w.heap:=by
    apply ya;intro i;rw [Array.getElem?_setIfInBounds];by_cases ad:b=i
    · subst ad; rw [if_pos rfl,if_pos hb,hr]
    · rw [if_neg ad]
   refine ⟨{w with heap:=w.heap.setIfInBounds b<|.map es c},ag ?_,⟨U,U,by simp,fun i _ aa=>by simp only; rw [nF (fun e=>aa e.symm)]⟩,?_,fun r left E ae M=> ?_⟩
   · simp [sI,bS aj,run_getObj_map hr,I.key.check _ w _ hi,J,setObj,lQ,hr];rfl
   · simp only [ah]; rw [LN O]; exact ⟨es,c,hr,L,A⟩
   · simp only [ah]; exact M.ry
 · have aB:=(dt.1 Z).1;have C:(es.eraseIdxIfInBounds j).toList=es.toList.eraseIdx j:=by simp
   refine ⟨{w with heap:=w.heap.setIfInBounds b<|.map (es.eraseIdxIfInBounds j) c},ag ?_,⟨U,U,by simp,fun i _ aa=>by simp only; rw [nF (fun e=>aa e.symm)]⟩,⟨es.eraseIdxIfInBounds j,c,by simp only; rw [oL hb],by rw [C]; exact L.del j,by rw [C,← ac]; exact A.del Z⟩,fun r left E ae M=> ?_⟩
   · simp [sI,bS aj,run_getObj_map hr,I.key.check _ w _ hi,J,setObj,lQ,hr];rfl
   · obtain ⟨aA,c2,seen,ab,m1,ak,aC,ax,ay,az⟩:=M;rw [hr] at ak; cases ak;have ar:r≠b:=fun h=>by subst h; rw [m1] at hr; cases hr
     have jm:ab.key=e'.key:=by rw [ac,← ae,← az]
     obtain ⟨i,V⟩:=BZ ay;have ao:i=j:=by
      have ap:=(dt.1 V).1;exact (BY (by simpa using ap) A.nd).1<|by rw [gy,gy,V,Z,fg,fg,jm]
     subst ao;refine ⟨es.eraseIdxIfInBounds i,c,seen.push ab.born,c,?_,bf _,?_,by rw [C]; exact L.del i,?_⟩
     · simp only; rw [nF (fun e=>ar e.symm)]; exact m1
     · simp only; rw [oL hb]
     · rw [← ax];unfold leftOf;rw [sE,sE,C,D9 V (by simp)]
theorem Dq {kt:au} (M:P.underlying t=some (.map k e)) (C:lV P k bj) (hm:cJ w.heap b bj f) (O:ev N σ x= .map (some b)) (U:ev N σ y=kx) (hi:bj kx)
 (V:∀ w',Md (fun j=>j=b) w w'→cJ w'.heap b bj (na f kx)→(∀ r left A,A.1=kx→jg w.heap r b left A→ir w'.heap r b left)→K (dq σ dst undef) w'):cz P N ⟨dst,.call ⟨.builtin .delete,#[x,y],#[t,kt]⟩,ty,pos,af,g⟩ σ w K:=by
 obtain ⟨w',E,I,J,L⟩:=LL (dst:=dst) (ty:=ty) (pos :=pos) (af:=af) (g:=g) (kt:=kt) M C hm hi O U;exact j0 E<|V w' I J L
theorem wO {at_:Array au} {n:Nat} (C:P.underlying t=some (.map k e)) (ha:at_= #[t]) (E:ev N σ x= .map (some b)) (hm:cJ w.heap b bj f) (hn:fI f n):
 (execOp (ev N σ) ⟨dst,.call ⟨.builtin .len,#[x],at_⟩,ty,pos,af,g⟩).run P w= .ok (.value<|.int .i64 n) w:=by
 obtain ⟨es,c,hr,A⟩:=hm.eV;have :=E6 (dst:=dst) (ty:=ty) (pos :=pos) (af:=af) (g:=g) C ha E hr;rw [hn.uniq A]; exact this
end
end Go.Hb
end
section
namespace Go.Hb
theorem pX {a b:List UInt8} (h:str a=str b):a=b:=by unfold str at h; cases h; rfl
noncomputable def mT (g:List UInt8→Option Int):ah→Option ah:=fun v=>if h:∃ x,v=str x then (g h.choose).map fun n=> .int .i64 n else none
variable {g q a b:List UInt8→Option Int} {x:List UInt8} {n:Int} {left left':List (ah×ah)}
theorem iP (g:List UInt8→Option Int) (x:List UInt8):mT g (str x)=(g x).map fun n=> .int .i64 n:=by
 have h:∃ y,str x=str y:=⟨x,rfl⟩
 unfold mT;rw [dif_pos h,← pX h.choose_spec]
theorem wQ {v:ah} (h:¬dU v):mT g v=none:=dif_neg h
theorem Am {h:ah→Option ah} (C:∀ x,h (str x)=(g x).map fun n=> .int .i64 n) (E:∀ v,¬dU v→h v=none):h=mT g:=by
 funext v;by_cases A:dU v
 · obtain ⟨x,rfl⟩:=A; rw [C,iP]
 · rw [E v A,wQ A]
theorem rj:mT (fun _=>none)=fun _=>none:=(Am (fun x=>rfl) fun v _=>rfl).symm
theorem rk:jr (mT g) (str x) (.int .i64 n)=mT (fun y=>if y=x then some n else g y):=by
 refine Am (fun y=> ?_) (fun v A=> ?_)
 · unfold jr;by_cases e:y=x
   · subst e; simp
   · rw [if_neg (fun h=>e<|pX h),iP,if_neg e]
 · unfold jr;rw [if_neg (fun h=>A ⟨x,h⟩),wQ A]
theorem Fe:na (mT g) (str x)=mT (fun y=>if y=x then none else g y):=by
 refine Am (fun y=> ?_) (fun v A=> ?_)
 · unfold na;by_cases e:y=x
   · subst e; simp
   · rw [if_neg (fun h=>e<|pX h),iP,if_neg e]
 · unfold na;rw [if_neg (fun h=>A ⟨x,h⟩),wQ A]
theorem An {v u:ah} (h:mT g v=some u):∃ x n,v=str x∧u= .int .i64 n∧g x=some n:=by
 by_cases A:dU v
 · obtain ⟨x,rfl⟩:=A;rw [iP] at h;obtain ⟨n,C,E⟩:=il.1 h;exact ⟨x,n,U,E.symm,C⟩
 · rw [wQ A] at h; cases h
structure Lf (q:List UInt8→Option Int) (left :List (ah×ah)):Prop where
 ok:∀ p∈left,∃ x n,p=(str x,.int .i64 n)∧q x=some n
 nd:(left.map dj).Nodup
noncomputable def gY (left :List (ah×ah)) (a b:List UInt8→Option Int):List UInt8→Option Int:=fun x=>if str x∈left.map dj then a x else b x
theorem Lf.start (J:∀ p∈left,dU p.1) (hn:(left.map dj).Nodup) (I:∀ k v,mT q k=some v↔(k,v)∈left):Lf q left :=by
 refine ⟨fun p hp=> ?_,hn⟩;obtain ⟨k,v⟩:=p;obtain ⟨x,n,A,C,E⟩:=An<|(I k v).2 hp;exact ⟨x,n,by rw [A,C],E⟩
theorem zg (E:∀ k v,mT q k=some v↔(k,v)∈left) (C:∀ x,q x=none→a x=b x):gY left a b=a:=by
 funext x;unfold gY;by_cases A:str x∈left.map dj
 · rw [if_pos A]
 · rw [if_neg A,C x];cases hq:q x with
   | none=>rfl
   | some n=>
     exfalso;apply A;have :(str x,.int .i64 n)∈left :=(E _ _).1<|by rw [iP,hq]; rfl
     exact iZ.2 ⟨_,this,U⟩
theorem zf:gY [] a b=b:=by funext x; simp [gY]
theorem Lf.step {E:ah×ah} (h:Lf q left) (hp:left.Perm (E::left')):∃ x n,E=(str x,.int .i64 n)∧q x=some n∧Lf q left'∧str x∈left.map dj∧
 (∀ a b,gY left a b x=a x)∧∀ a b,gY left' a b=fun y=>if y=x then b x else gY left a b y:=by
 obtain ⟨x,n,rfl,I⟩:=h.ok E<|hp.mem_iff.2 lS;have C:=(hp.map dj).nodup_iff.1 h.nd;simp only [eS,sP] at C;have hm:str x∈left.map dj:=(hp.map dj).mem_iff.2<|by simp
 refine ⟨x,n,U,I,⟨fun p hm=>h.ok p (hp.mem_iff.2<|mQ _ hm),C.2⟩,hm,fun a b=>if_pos hm,fun a b=> ?_⟩;funext y;unfold gY;by_cases e:y=x
 · subst e; rw [if_neg C.1,if_pos rfl]
 · rw [if_neg e];have :str y∈left.map dj↔str y∈left'.map dj:=by
    rw [(hp.map dj).mem_iff];simp only [eS,ej];exact ⟨fun h=>h.resolve_left fun h=>e (pX h),.inr⟩
   by_cases A:str y∈left.map dj
   · rw [if_pos A,if_pos (this.1 A)]
   · rw [if_neg A,if_neg (fun h=>A<|this.2 h)]
def eT {α β:Type} (R:α→β→Prop):List α→List β→Prop
 | [],[]=>True
 | a::l,b::m=>R a b∧eT R l m
 | _,_=>False
theorem eT.imp {α β:Type} {R S:α→β→Prop} (A:∀ a b,R a b→S a b):∀ {l:List α} {m:List β},eT R l m→eT S l m
 | [],[],_=>trivial
 | _::_,_::_,⟨h1,h2⟩=>⟨A _ _ h1,eT.imp A h2⟩
 | [],_::_,h=>h.elim
 | _::_,[],h=>h.elim
theorem eT.len {α β:Type} {R:α→β→Prop} :∀ {l:List α} {m:List β},eT R l m→l.length=m.length
 | [],[],_=>rfl
 | _::_,_::_,⟨_,h2⟩=>congrArg (· +1) h2.len
 | [],_::_,h=>h.elim
 | _::_,[],h=>h.elim
theorem eT.snoc {α β:Type} {R:α→β→Prop} {a:α} {b:β} (A:R a b):∀ {l:List α} {m:List β},eT R l m→eT R (l++ [a]) (m++ [b])
 | [],[],_=>⟨A,trivial⟩
 | _::_,_::_,⟨h1,h2⟩=>⟨h1,h2.snoc A⟩
 | [],_::_,h=>h.elim
 | _::_,[],h=>h.elim
theorem eT.pop {α β:Type} {R:α→β→Prop} {b:β} :∀ {l:List α} {m:List β},eT R l (m++ [b])→∃ A a,l=A++ [a]∧eT R A m∧R a b
 | [],[],h=>h.elim
 | [],_::_,h=>h.elim
 | [a],[],⟨h1,_⟩=>⟨[],a,rfl,trivial,h1⟩
 | _::_::_,[],⟨_,h2⟩=>h2.elim
 | a::l,b'::m,⟨h1,h2⟩=>by
   obtain ⟨A,x,rfl,C,E⟩:=eT.pop h2;exact ⟨a::A,x,U,⟨h1,C⟩,E⟩
noncomputable def fm (g:List UInt8→Option Int) (l:List (List UInt8)):List UInt8→Option Int:=fun x=>if x∈l then some ((g x).getD 0) else none
def gp (A:Int) (q:List UInt8→Option Int):List UInt8→Option Int:=fun x=>match q x with
 | some o=>if o=A then none else some o
 | none=>none
def eE (A:Int) (q g:List UInt8→Option Int):List UInt8→Option Int:=fun x=>match q x with
 | some _=>some A
 | none=>g x
def gE (q g:List UInt8→Option Int):List UInt8→Option Int:=fun x=>match q x with
 | some o=>if o=0 then none else some o
 | none=>g x
theorem F8 {A:Int} (h:q x=none):eE A q g x=g x:=by unfold eE; rw [h]
theorem F9 {A:Int} (h:q x=some n):eE A q g x=some A:=by unfold eE; rw [h]
def dh (g:List UInt8→Option Int) (n:Nat):Prop :=fI (mT g) n
theorem Rl:fm g []=fun _=>none:=by funext x; simp [fm]
theorem Rk {l:List (List UInt8)} (h:x∉l):mT (fm g<|l++ [x])=jr (mT<|fm g l) (str x) (.int .i64<|(g x).getD 0):=by
 rw [rk];congr 1;funext y;unfold fm;by_cases e:y=x
 · subst e; simp
 · simp [e]
theorem Rp {l:List (List UInt8)} (h:x∈l):fm g (l++ [x])=fm g l:=by
 funext y;unfold fm;by_cases e:y=x
 · subst e; simp [h]
 · simp [e]
noncomputable def gw (g:List UInt8→Option Int) (l:List (List UInt8)):List UInt8→Option Int:=fun x=>if x∈l then some 1 else g x
theorem Pz:gw g []=g:=by funext x; simp [gw]
theorem Gz {l:List (List UInt8)} :mT (gw g<|l++ [x])=jr (mT<|gw g l) (str x) (.int .i64 1):=by
 rw [rk];congr 1;funext y;unfold gw;by_cases e:y=x
 · subst e; simp
 · simp [e]
theorem Py {l:List (List UInt8)} {m:Nat} (A:dh (gw g l) m) (h:x∉l) (C:g x=none):dh (gw g<|l++ [x]) (m+1):=by
 unfold dh at A ⊢;rw [Gz];exact A.new<|by rw [iP]; simp [gw,h,C]
theorem GA {l:List (List UInt8)} {m:Nat} (A:dh (gw g l) m) (h:x∈l∨∃ o,g x=some o):dh (gw g<|l++ [x]) m:=by
 unfold dh at A ⊢;rw [Gz];by_cases C:x∈l
 · exact A.fC (u:= .int .i64 1)<|by rw [iP]; simp [gw,C]
 · obtain ⟨o,E⟩:=h.resolve_left C;exact A.fC (u:= .int .i64 o)<|by rw [iP]; simp [gw,C,E]
theorem HY (g:List UInt8→Option Int) (l:List (List UInt8)) (x:List UInt8):(mT (fm g l)<|str x).getD (.int .i64 0)= .int .i64 (if x∈l then (g x).getD 0 else 0):=by
 rw [iP]; unfold fm;by_cases h:x∈l <;> simp [h]
theorem Rm (g:List UInt8→Option Int) (l:List (List UInt8)) (x:List UInt8):(mT (fm g l)<|str x).isSome=decide (x∈l):=by
 rw [iP]; unfold fm;by_cases h:x∈l <;> simp [h]
theorem wP (g:List UInt8→Option Int) (x:List UInt8):(mT g<|str x).getD (.int .i64 0)= .int .i64 ((g x).getD 0):=by
 rw [iP]; cases g x <;> rfl
theorem Ex {l:List (List UInt8)} {i m:Nat} (h:∀ x∈l,x.length≤m) (hi:i < l.length):(l.getD i []).length≤m:=h _<|gO hi
theorem fI.congr {f h:ah→Option ah} {m:Nat} (I:fI f m) (he:∀ k,(∃ v,f k=some v)↔∃ v,h k=some v):fI h m:=by
 obtain ⟨l,A,C,E⟩:=I;exact ⟨l,A,C,fun k=>(he k).symm.trans<|E k⟩
theorem tS (g:List UInt8→Option Int) (v:ah):(∃ u,mT g v=some u)↔∃ x o,v=str x∧g x=some o:=by
 constructor
 · rintro ⟨u,hu⟩;obtain ⟨x,o,A,_,C⟩:=An hu;exact ⟨x,o,A,C⟩
 · rintro ⟨x,o,rfl,h⟩;exact ⟨_,by rw [iP,h]; rfl⟩
theorem dh.congr {m:Nat} (I:dh a m) (he:∀ x,(∃ o,a x=some o)↔∃ o,b x=some o):dh b m:=by
 refine fI.congr I fun k=> ?_;rw [tS,tS];exact ⟨fun ⟨x,o,A,C⟩=>let ⟨E,h'⟩:=(he x).1 ⟨o,C⟩; ⟨x,E,A,h'⟩,fun ⟨x,o,A,C⟩=>let ⟨E,h'⟩:=(he x).2 ⟨o,C⟩; ⟨x,E,A,h'⟩⟩
noncomputable def c8 (A:Int) (g:List UInt8→Option Int) (l:List (List UInt8)):List UInt8→Option Int:=gp A<|fm g l
theorem Ga {C:Int} (hw:C≠0) {l:List (List UInt8)} {m:Nat} (I:dh (gw g l) m):dh (eE C (c8 C g l) g) m:=by
 refine I.congr fun x=> ?_;unfold eE c8 gp fm gw;by_cases A:x∈l
 · cases hg:g x with
   | none=>simp [A,Ne.symm hw]
   | some o=>
     by_cases E:o=C
     · simp [A,E]
     · simp [A,E]
 · simp [A]
theorem dh.pos {m:Nat} (E:dh q m) (hm:m≠0):∃ x o,q x=some o:=by
 obtain ⟨l,I,A,C⟩:=E;cases l with
 | nil=>exact absurd A.symm hm
 | cons k l=>
   obtain ⟨x,o,_,h⟩:=(tS q k).1<|(C k).2 lS;exact ⟨x,o,h⟩
theorem ON {A:Int} (hw:A≠0) (C:∀ x,g x≠some 0) (x:List UInt8):eE A q g x≠some 0:=by
 unfold eE;split
 · intro h; exact hw<|gJ h
 · exact C x
theorem yU {A:Int} {l:List (List UInt8)} (E:∀ x,g x≠some 0):gE (c8 A g l) (eE A (c8 A g l) g)=g:=by
 funext x;unfold gE eE c8 gp fm;by_cases C:x∈l
 · cases hgx:g x with
   | none=>by_cases h:(0:Int)=A <;> simp [C,h]
   | some o=>
     have I:o≠0:=fun h=>E x<|by rw [hgx,h]
     by_cases h:o=A <;> simp [C,h,I]
 · simp [C]
theorem J9 (A:∀ x,g x≠some 0) (x:List UInt8):gE q g x≠some 0:=by
 unfold gE;split
 · rename_i o _;by_cases h:o=0
   · rw [if_pos h]; simp
   · rw [if_neg h]; intro C; exact h<|gJ C
 · exact A x
theorem Ni (A:∀ k v,mT q k=some v↔(k,v)∈left) (y:List UInt8):(∃ o,q y=some o)↔y∈([]:List (List UInt8))∨str y∈left.map dj:=by
 constructor
 · rintro ⟨o,I⟩;exact .inr<|iZ.2 ⟨_,(A (str y)<|.int .i64 o).1 (by rw [iP,I]; rfl),U⟩
 · rintro (h | h)
   · cases h
   · obtain ⟨⟨k,v⟩,hp,hk⟩:=iZ.1 h;obtain ⟨x,o,C,_,E⟩:=An<|(A k v).2 hp;have :x=y:=pX<|C.symm.trans hk;exact ⟨o,by rw [← this]; exact E⟩
theorem wX {α:Type} :∀ {a b:List α},a.Nodup→(∀ x∈a,x∈b)→a.length≤b.length
 | [],_,_,_=>Nat.zero_le _
 | x::a,b,hn,hs=>by
   rw [sP] at hn;obtain ⟨s,t,rfl⟩:=List.append_of_mem<|hs x lS;have :=wX (b:=s++t) hn.2 fun y A=>by
    have C:=hs y<|mQ _ A;rw [dz,ej] at C;rw [dz];rcases C with h | rfl | h
    · exact .inl h
    · exact absurd A hn.1
    · exact .inr h
   simp only [bo,cg] at this ⊢;omega
theorem dh.le {m:Nat} {l:List (List UInt8)} (C:dh q m) (hn:l.Nodup) (E:∀ x∈l,∃ o,q x=some o):l.length≤m:=by
 obtain ⟨ks,M,rfl,A⟩:=C;have h:=wX (a:=l.map str) (b:=ks) (List.pairwise_map.2<|hn.imp fun h e=>h<|pX e) fun v J=>by
  obtain ⟨x,L,rfl⟩:=iZ.1 J;obtain ⟨o,I⟩:=E x L;exact (A _).1 ⟨.int .i64 o,by rw [iP,I]; rfl⟩
 rwa [nK] at h
end Go.Hb
end
section
namespace Go.Hb
section
variable {P:av} {N:Fm} {σ:Nat→ah} {w:ai} {dst:Option Nat} {ty:au} {pos :String} {af:Array cI} {g:Option (Nat×Bool)} {x y:bu}
theorem DY (d:Nat) {t e:au} {a:Option Addr} {n c:Nat} (hu:P.underlying t=some (.slice e)):(Op.equalIn (d+1) t (.slice a n c)<|.slice none 0 0).run P w= .ok a.isNone w:=by
 cases a <;> simp [Op.equalIn,bS hu]
end
theorem OG {w:ai} {B e size n k C:Nat} {a:Option Addr} {xs:List ah} (h:w.ownsRow B e size (.slice a n C) n xs) (E:k≤n) (ha:a≠none):w.ownsRow B e size (.slice a k C) k (xs.take<|k*size):=by
 obtain ⟨h0,h⟩:=h;refine ⟨by rw [bY,h0]; exact sQ (qB _ E),?_⟩;rcases h with ⟨A,_⟩ | ⟨g,cap,cur,A,I,J,V,L,M,O⟩
 · simp only [mO] at A; exact absurd A.1 ha
 · simp only [mO,true_and] at A;obtain ⟨rfl,rfl⟩:=A;refine .inr ⟨g,_,cur,U,I,J,ag,L,M,?_⟩;rw [← O,List.take_take,sQ (qB _ E)]
section
variable {P:av} {N:Fm} {σ:Nat→ah} {w:ai} {dst:Option Nat} {ty:au} {pos :String} {af:Array cI} {g:Option (Nat×Bool)} {x y z u:bu} {K:(Nat→ah)→ai→Prop}
theorem GW {t n len cap:Nat} {a:Option Addr} {k I J:bX} {i j m:Nat} (he:dB P t=some n) (A:ev N σ x= .slice a len cap) (C:ev N σ y= .int k (i:Nat)) (E:ev N σ z= .int I (j:Nat)) (hu:ev N σ u= .int J (m:Nat)) (h:i≤j∧j≤m∧m≤cap):
 (execOp (ev N σ) ⟨dst,.slice t x (some y) (some z) (some u),ty,pos,af,g⟩).run P w= .ok (.value<|.slice (dW a m i n) (j - i)<|m - i) w:=by
 have L:(0:Int)≤(i:Int):=ag;have M:(0:Int)≤(j:Int):=ag;have O:(0:Int)≤(m:Int):=ag;unfold dB at he;cases hd:P.underlying t with
 | none=>rw [hd] at he; cases he
 | some d=>
   rw [hd] at he;cases d <;> first | (cases he; done) | skip
   rename_i e;cases hi':P.info? e with
   | none=>simp [hi'] at he
   | some q=>
     simp only [hi',fg,bR] at he;subst he;simp only [execOp,qk,Instr.slice,A,C,E,hu,fg,mM,Instr.sliceBound,asIntOf];simp [bS hd,eh hi',sizeOf,h.1,h.2.1,h.2.2,dW]
theorem J4 {t e size bytes B n m A c C:Nat} {xs news:List ah} {a:Option Addr} (ac:eJ P t e size bytes=true) (V:w.ownsRow B e size (.slice (some ⟨C,0,none⟩) n A) n xs) (ae:ev N σ x= .slice (some ⟨C,0,none⟩) n A)
 (ag:ev N σ y= .slice a m c) (M:aT w.heap a news) (ha:a≠none) (U:news.length=m*size) (O:news.all Value.oneCell'=true) (aa:n+m≤A)
 (k:∀ w',Md (fun q=>q=C) w w'→w'.ownsRow B e size (.slice (some ⟨C,0,none⟩) (n+m) A) (n+m) (xs++news)→K (dq σ dst<|.slice (some ⟨C,0,none⟩) (n+m) A) w'):
 cz P N ⟨dst,.call ⟨.builtin .append,#[x,y],#[t,t]⟩,ty,pos,af,g⟩ σ w K:=by
 obtain ⟨hu,i,zv,hi,ak,ab,ai,al,aj⟩:=oF ac;obtain ⟨ad,rfl⟩:∃ ad,a=some ad:=by cases a with | none=>exact absurd rfl ha | some ad=>exact ⟨ad,rfl⟩
 have hn:∀ j v,news[j]? =some v→w.cell? (ad.add j)=some v:=fun j v J=>by
  have L:news≠[]:=fun e=>by rw [e] at J; simp at J
  have E:=M.ok L;simp only [bR] at E;rw [E,fw,jK]; exact M.aH j v J
 obtain ⟨w',hr,E,I⟩:=Go.run_append_fits (P:=P) (w:=w) B t ty e i size hu hi ab C n A xs V ad m c news U hn (tf O) aa;refine j0 (w':=w') (v:= .slice (some ⟨C,0,none⟩) (n+m) A) ?_<|k w' ⟨I.os,I.output,I.size,fun q Z L=>I.block q Z fun e=>L<|gJ e⟩ E;simp [execOp,resolve,invoke,builtin,ae,ag,hr]
end
end Go.Hb
end
section
namespace Go.Hb
theorem GO {L:List ah} {o:Nat} {v:ah} (h:o < L.length):(L.set o v).take (o+1)=L.take o++ [v]:=by grind [List.set_eq_take_append_cons_drop,Ju,bY,sQ,Nat.add_sub_cancel_left,ja]
theorem GN {L:List ah} {o m:Nat} {v:ah} (h:o < m):(L.set o v).drop m=L.drop m:=by
 rw [List.drop_set,if_pos h]
theorem PH (b e:Nat):∀ (vs:List ah) (o:Nat) (L:List ah) (w:ai),w.heap[b]? =some (.cells L.toArray e (0,0))→o+vs.length≤L.length→
 (w.setCells b o vs).heap[b]? =some (.cells (L.take o++vs++L.drop (o+vs.length)).toArray e (0,0))∧Md (fun k=>k=b) w (w.setCells b o vs):=by
 intro vs
 induction vs with
 | nil=>intro o L w hb _; exact ⟨by simpa [World.setCells] using hb,Md.refl _ _⟩
 | cons v r ih=>
   intro o L w hb M;simp only [cg] at M;have A:(w.setCell ⟨b,o,none⟩ v).heap[b]? =some (.cells (L.set o v).toArray e (0,0)):=by
    have O:=(cx.1 hb).1;have U:w.heap[b]= .cells L.toArray e (0,0):=(cx.1 hb).2;simp only [yp];rw [Array.getElem?_eq_getElem (by simpa using O),Array.getElem_modify];simp [U,List.setIfInBounds_toArray]
   have I:Md (fun k=>k=b) w (w.setCell ⟨b,o,none⟩ v):=⟨rfl,rfl,by simp [yp],fun k _ J=>Below.heap_setCell w _ v k J⟩
   obtain ⟨C,E⟩:=ih (o+1) (L.set o v) _ A<|by rw [List.length_set]; omega
   refine ⟨?_,Md.trans I E⟩;show ((w.setCell ⟨b,o,none⟩ v).setCells b (o+1) r).heap[b]? =_;rw [C,GO ag,GN ag,cg,show o+1 +r.length=o+(r.length+1) from by omega];simp
section
variable {P:av} {N:Fm} {σ:Nat→ah} {w:ai} {ty:au} {pos :String} {af:Array cI} {g:Option (Nat×Bool)} {x:bu} {K:(Nat→ah)→ai→Prop}
theorem KZ {t e B n A c' m:Nat} {a:Option Addr} {xs:List ah} {z:ah} (al:P.underlying t=some (.slice e)) (an:zeroV P e=some z) (J:z.oneCell'=true) (ad:w.ownsRow B e 1 (.slice a n A) n xs) (ha:a≠none)
 (L:ev N σ x= .slice (dW a A n 1) m c') (hm:0 < m∧n+m≤A) (ao:∀ w',Md (fun q=>(Value.slice a n A).ownBlock=some q) w w'→w'.ownsRow B e 1 (.slice a n A) n xs→K σ w'):
 cz P N ⟨none,.call ⟨.builtin .clear,#[x],#[t]⟩,ty,pos,af,g⟩ σ w K:=by
 obtain ⟨h0,h⟩:=ad;rcases h with ⟨h,rfl⟩ | ⟨C,ap,cur,h,Z,ab,hle,aa,ak,am⟩
 · simp only [mO] at h; exact absurd h.1 ha
 · simp only [mO,true_and] at h;obtain ⟨rfl,rfl⟩:=h;have aj:dW (some ⟨C,0,none⟩) A n 1=some ⟨C,n,none⟩:=by
    unfold dW; rw [if_neg ag]; simp [fw]
   rw [aj] at L;have I:w.heap[C]? =some (.cells cur.toList.toArray e (0,0)):=by simpa using ab
   have E:cur.toList.length=A*1:=by rw [Array.length_toList]; exact ak
   have ai:=Lib.run_clear_slice (P:=P) w t e ty z al (fun w=>BH an w) (by cases z <;> first | rfl | (cases J; done)) J C n m c' hm.1
    (fun j ac=>by rw [jK,eB I]; simp; omega) (fun j ac=>by simp only [World.frozen?,show w.heap[C]? =_ from I]; simp)
   obtain ⟨O,V⟩:=PH C e (eM m z) n cur.toList w I<|by rw [B4,E]; omega
   refine j0 (w':=w.setCells C n<|eM m z) (v:= .tuple #[]) ?_ (ao _ (V.mono fun q _ ae=>by subst ae; rfl) ⟨h0,.inr ⟨C,A,_,U,Z,O,hle,aa,?_,?_⟩⟩)
   · simp [execOp,resolve,invoke,builtin,L,ai]
   · simp only [fS,bo,bY,List.length_drop,B4,E]; omega
   · rw [B4,Nat.mul_one];have M:(cur.toList.take n++eM m z++cur.toList.drop (n+m)).toArray.toList=cur.toList.take n++(eM m z++cur.toList.drop (n+m)):=List.append_assoc _ _ _;rw [M,Ju,bY,E,sQ ag,sS,List.take_zero,List.append_nil,ja (by rw [bY]; omega),← am,Nat.mul_one]
end
end Go.Hb
end
namespace Go.Hb
def nC (g:List UInt8→Option Int) (x:List UInt8):List UInt8:=(if 0 < (g x).getD 0 then 43 else 45)::(eH x++ [10])
def gV (g:List UInt8→Option Int) (xs:List (List UInt8)):List UInt8:=xs.flatMap<|nC g
theorem HE {g:List UInt8→Option Int} {xs:List (List UInt8)} {i:Nat} (h:i < xs.length):gV g (xs.take<|i+1)=gV g (xs.take i)++nC g (xs.getD i []):=by
 unfold gV;rw [ie xs i [] h,List.flatMap_append,List.flatMap_singleton]
theorem xM {g:List UInt8→Option Int} :∀ {xs:List (List UInt8)},(∀ x∈xs,x.length≤64)→(gV g xs).length≤xs.length*130
 | [],_=>bf _
 | x::xs,h=>by
   have A:=xM (g:=g) (xs:=xs) fun y C=>h y<|mQ _ C;have E:=sw x;have I:=h x lS;unfold gV at A ⊢;rw [List.flatMap_cons,bo];simp only [nC,cg,bo,fu];omega
def gX (g:List UInt8→Option Int) (xs:List (List UInt8)):Prop :=xs.Nodup∧∀ y,y∈xs↔∃ o,g y=some o
structure eA (g:List UInt8→Option Int):Prop where
 val:∀ x o,g x=some o→o=1∨o= -1
 wd:∀ x o,g x=some o→dK x=true
theorem Mr {g:List UInt8→Option Int} {xs E:List (List UInt8)} (A:gX g xs) (C:gX g E):xs.Perm E:=(Jp A.1 C.1).2 fun y=>(A.2 y).trans (C.2 y).symm
theorem Eb {g:List UInt8→Option Int} {xs A:List (List UInt8)} (I:gX g xs) (J:gX g A) (L:xs.Pairwise fun a b=>a≤b) (M:A.Pairwise fun a b=>a≤b):xs=A:=
 List.Perm.eq_of_pairwise (fun a b _ _ C E=>List.le_antisymm C E) L M (Mr I J)
theorem eA.nil:eA fun _=>none:=⟨fun x o h=>(by cases h),fun x o h=>by cases h⟩
theorem eA.put {A:Int} {g:List UInt8→Option Int} {l:List (List UInt8)} (E:eA g) (hw:A=1∨A= -1) (J:∀ x∈l,dK x=true):eA (eE A (c8 A g l) g):=by
 refine ⟨fun x o h=> ?_,fun x o h=> ?_⟩
 · unfold eE at h;split at h
   · cases h; exact hw
   · exact E.val x o h
 · unfold eE at h;split at h
   · rename_i q C;unfold c8 gp fm at C;by_cases I:x∈l
     · exact J x I
     · rw [if_neg I] at C; cases C
   · exact E.wd x o h
theorem KO {A:Int} {g:List UInt8→Option Int} {l:List (List UInt8)} {x:List UInt8} {o:Int} (hw:A≠0) (h:c8 A g l x=some o):eE A (c8 A g l) g≠g:=fun e=>by
 have C:=congrFun e x;rw [F9 h] at C;unfold c8 gp fm at h;by_cases E:x∈l
 · rw [if_pos E,← C] at h;simp at h
 · rw [if_neg E] at h; cases h
theorem dh.ge {q:List UInt8→Option Int} {m:Nat} {l:List (List UInt8)} (E:dh q m) (I:∀ x,(∃ o,q x=some o)→x∈l):m≤l.length:=by
 obtain ⟨ks,A,rfl,C⟩:=E;have h:=wX (a:=ks) (b:=l.map str) A fun v L=>by
  obtain ⟨x,o,rfl,J⟩:=(tS q v).1<|(C v).2 L;exact iZ.2 ⟨x,I x ⟨o,J⟩,U⟩
 rwa [nK] at h
theorem gX.eV {g:List UInt8→Option Int} {xs:List (List UInt8)} {n:Nat} (A:gX g xs) (C:dh g n):xs.length=n:=by
 have E:=C.le A.1 fun x hm=>(A.2 x).1 hm;have I:=C.ge fun x h=>(A.2 x).2 h;omega
noncomputable def sn (g:List UInt8→Option Int):List UInt8:= @dite _ (∃ xs,gX g xs∧xs.Pairwise fun a b=>a≤b) (Classical.propDecidable _) (fun h=>gV g h.choose) fun _=> []
theorem Bo {g:List UInt8→Option Int} {xs:List (List UInt8)} (h:gX g xs) (C:xs.Pairwise fun a b=>a≤b):gV g xs=sn g:=by
 have A:∃ xs,gX g xs∧xs.Pairwise fun a b=>a≤b:=⟨xs,h,C⟩
 unfold sn;rw [dif_pos A,Eb h A.choose_spec.1 C A.choose_spec.2]
theorem eA.len {g:List UInt8→Option Int} (h:eA g):∀ x o,g x=some o→x.length≤64:=fun x o A=>(of_decide_eq_true<|h.wd x o A).2.1
theorem eA.nz {g:List UInt8→Option Int} (h:eA g):∀ x,g x≠some 0:=fun x e=>by rcases h.val x 0 e with h | h <;> cases h
def dG:List UInt8→Option Int:=fun _=>none
structure kG (g0:List UInt8→Option Int) (hist gs:List (List UInt8→Option Int)) (g:List UInt8→Option Int):Prop where
 len:gs.length=hist.length+1
 zero:gs.getD 0 dG=g0
 last:gs.getD hist.length dG=g
 back:∀ k,k < hist.length→gE (hist.getD k dG) (gs.getD (k+1) dG)=gs.getD k dG
 ok:∀ k,k < gs.length→eA (gs.getD k dG)∧∃ m,dh (gs.getD k dG) m∧m≤500
abbrev sX (hist gs:List (List UInt8→Option Int)) (g:List UInt8→Option Int):Prop :=kG (fun _=>none) hist gs g
theorem sX.start:sX [] [fun _=>none] fun _=>none:=
 ⟨rfl,rfl,rfl,fun k h=>by simp at h,fun k h=>by
  obtain rfl :k=0:=by simpa using h
  exact ⟨eA.nil,0,⟨[],yC,U,fun k=>⟨fun ⟨v,h⟩=>(by rw [List.getD_cons_zero,rj] at h; cases h),fun h=>by simp at h⟩⟩,ag⟩⟩
theorem n7 {α:Type} {l m:List α} {i:Nat} {d:α} (h:i < l.length):(l++m).getD i d=l.getD i d:=by
 rw [cQ,List.getElem?_append_left h,cQ]
theorem wo {α:Type} {l:List α} {a d:α} {i:Nat} (h:i=l.length):(l++ [a]).getD i d=a:=by
 subst h;rw [cQ,List.getElem?_append_right (bf _),sS]; rfl
theorem kG.one {g0:List UInt8→Option Int} {m:Nat} (C:eA g0) (A:dh g0 m) (hm:m≤500):kG g0 [] [g0] g0:=
 ⟨rfl,rfl,rfl,fun k h=>by simp at h,fun k h=>by
  obtain rfl :k=0:=by simpa using h
  exact ⟨C,m,A,hm⟩⟩
theorem kG.add {g0:List UInt8→Option Int} {hist gs:List (List UInt8→Option Int)} {g g' q:List UInt8→Option Int} {m:Nat} (h:kG g0 hist gs g) (I:eA g') (E:dh g' m) (hm:m≤500) (hb:gE q g'=g):kG g0 (hist++ [q]) (gs++ [g']) g':=by
 have J:=h.len;refine ⟨by simp only [bo,cg,fu]; omega,by rw [n7 ag]; exact h.zero,by rw [bo,dE]; exact wo ag,fun k C=> ?_,fun k C=> ?_⟩
 · rw [bo,dE] at C;rcases dM k hist.length with A | A
   · rw [n7 A,n7 ag,n7 ag]; exact h.back k A
   · obtain rfl :k=hist.length:=ag;rw [wo rfl,wo ag,n7 ag,h.last]; exact hb
 · rw [bo,dE] at C;rcases dM k gs.length with A | A
   · rw [n7 A]; exact h.ok k A
   · obtain rfl :k=gs.length:=ag;rw [wo rfl]; exact ⟨I,m,E,hm⟩
end Go.Hb
section
namespace Go.Hb
def iW (P:av) (N:Fm) (c:cm) (B:bM→Act→ai→Prop) (σ:Nat→ah) (w:ai):Prop :=c.wpIn (fe N.r) 0 P B (act N σ) w
def qb (N:Fm) (B:bM→Act→ai→Prop):bM→(Nat→ah)→ai→Prop :=fun e σ w=>B e (act N σ) w
section
variable {P:av} {N:Fm} {B:bM→Act→ai→Prop} {σ:Nat→ah} {w:ai}
theorem eK {x y:cm} (h:iW P N x (Exit.then (y.wpIn (fe N.r) 0 P B) B) σ w):iW P N (.seq x y) B σ w:=wpIn_seq h
theorem cE {y:cm} (h:iW P N y B σ w):qb N (Exit.then (y.wpIn (fe N.r) 0 P B) B) .normal σ w:=h
theorem prt {y:Act→ai→Prop} (h:qb N B .ret σ w):qb N (Exit.then y B) .ret σ w:=h
theorem AW (h:qb N B .ret σ w):iW P N .ret B σ w:=wpIn_ret h
theorem P6 {x y:cm} (A:(Nat→ah)→ai→Prop) (h:iW P N x (Exit.then (fun a w=> ∃ σ,a=act N σ∧A σ w) B) σ w) (I:∀ σ w,A σ w→iW P N y B σ w):iW P N (.seq x y) B σ w:=by
 refine wpIn_seq<|wpIn_mono h ?_;intro e a w C;cases e with
 | normal=>obtain ⟨σ,rfl,E⟩:=C; exact I _ _ E
 | _=>exact C
theorem CZ {A:(Nat→ah)→ai→Prop} (h:A σ w):qb N (Exit.then (fun a w=> ∃ σ,a=act N σ∧A σ w) B) .normal σ w:=⟨σ,rfl,h⟩
theorem PN {c:cm} {L:List (Nat×ah)} (h:Sl σ L) (A:iW P N c B (uy σ L) w):iW P N c B σ w:=by rw [Bq h] at A; exact A
theorem eY {c:cm} (h:bU P N c (qb N B) σ w):iW P N c B σ w:=by
 unfold bU at h;refine wpIn_mono h ?_;intro e a w A;cases e with
 | panic c=>obtain ⟨σ,rfl,C⟩:=A; exact C σ fun _ _=>rfl
 | outgrown=>exact A.elim
 | _=>obtain ⟨σ,rfl,C⟩:=A; exact C
end
theorem pV (fn:jz) (args:List ah) (F:List Nat) (hn:bL args.length fn.ntmps=true):({tmps:=args.toArray++Array.replicate (fn.ntmps - args.toArray.size) undef,defers:= []} :Act)=act ⟨fn.ntmps,[],F,none⟩ (eF args):=by
 have E:args.length≤fn.ntmps:=by simpa using hn
 refine vz U fun i=> ?_;rw [kI];simp only [eF,cQ,fS];by_cases A:i < args.length
 · rw [Array.getElem?_append_left (by simpa using A),if_pos ag];simp [A]
 · rw [Array.getElem?_append_right (by simpa using A)];simp only [fS,Array.getElem?_replicate];by_cases C:i < fn.ntmps
   · rw [if_pos ag,if_pos C,List.getElem?_eq_none ag]; rfl
   · rw [if_neg ag,if_neg C]
abbrev Bm (P:av) (fn:jz) (R:ah→ai→Prop):bM→Act→ai→Prop :=bodyPostM ga 0 P fn (fun e w'=> ∃ v,e= .returned v∧R v w')
theorem DO {P:av} {f:e9} {N:Nat} {fn:jz} {c:cm} {args:List ah} {w:ai} {R:ah→ai→Prop} (F:List Nat) (C:P.funcs[f]? =some fn) (hb:fn.body=some c)
 (A:fn.ntmps=N) (hn:bL args.length N=true) (h:iW P ⟨N,[],F,none⟩ c (Bm P fn R) (eF args) w):aZ P f args.toArray w R:=by
 subst A;refine callsIn_wide.1<|callsIn_of_wp_marks (F:=ga) (n:=0) C hb trivial ?_;rw [pV fn args F hn];exact h
section
variable {P:av} {n:Nat} {F:List Nat} {σ:Nat→ah} {w:ai} {fn:jz} {R:ah→ai→Prop}
theorem Nq {e:bM} (he:e= .ret∨e= .normal) {v:ah} (hr:(results fn (act ⟨n,[],F,none⟩ σ).tmps).run P w= .ok v w) (A:R v w):qb ⟨n,[],F,none⟩ (Bm P fn R) e σ w:=by
 rcases he with rfl | rfl <;> exact ⟨v,hr,v,rfl,A⟩
theorem Mj {t u:Nat} {v A:ah} (h:fn.results= #[.tmp t,.tmp u]) (E:ev ⟨n,[],F,none⟩ σ (.tmp t)=v) (hu:ev ⟨n,[],F,none⟩ σ (.tmp u)=A) (C:R (.tuple #[v,A]) w):qb ⟨n,[],F,none⟩ (Bm P fn R) .ret σ w:=
 Nq (.inl rfl) (by rw [results_tmp2 h,k9,k9,E,hu]) C
theorem E2 {D:Nat} {v:ah} (A:w.heap[D]? =some (.deferred<|some [])) (hr:∀ w',(results fn (act ⟨n,[{target:= .collected D,args:= #[]}],F,none⟩ σ).tmps).run P w'= .ok v w') (C:R v (w.putObj D<|.deferred none)):
 qb ⟨n,[{target:= .collected D,args:= #[]}],F,none⟩ (Bm P fn R) .ret σ w:=
 ⟨FrameMode.noConfusion,.inl ⟨_,_,rfl,run_takeDeferred A,⟨v,hr _,v,rfl,C⟩⟩⟩
theorem Mi {D t:Nat} {v:ah} (h:fn.results= #[.tmp t]) (E:ev ⟨n,[{target:= .collected D,args:= #[]}],F,none⟩ σ (.tmp t)=v) (A:w.heap[D]? =some (.deferred<|some [])) (C:R v (w.putObj D<|.deferred none)):
 qb ⟨n,[{target:= .collected D,args:= #[]}],F,none⟩ (Bm P fn R) .ret σ w:=
 E2 A (fun w'=>by rw [results_tmp h,k9,E]) C
theorem Mk {D t u:Nat} {v A:ah} (h:fn.results= #[.tmp t,.tmp u]) (I:ev ⟨n,[{target:= .collected D,args:= #[]}],F,none⟩ σ (.tmp t)=v) (hu:ev ⟨n,[{target:= .collected D,args:= #[]}],F,none⟩ σ (.tmp u)=A)
 (C:w.heap[D]? =some (.deferred<|some [])) (E:R (.tuple #[v,A]) (w.putObj D<|.deferred none)):qb ⟨n,[{target:= .collected D,args:= #[]}],F,none⟩ (Bm P fn R) .ret σ w:=
 E2 C (fun w'=>by rw [results_tmp2 h,k9,k9,I,hu]) E
end
theorem rF {w:ai} {B t size n pp E:Nat} {v:ah} {xs:List ah} {cs:Array ah} {z:Nat×Nat} (h:w.ownsRow B t size v n xs) (hp:w.heap[pp]? =some (.cells cs E z)) (J:t≠E):v.ownBlock≠some pp:=by
 intro A;rcases h.2 with ⟨C,_⟩ | ⟨g,cap,cur,C,_,I,_⟩
 · rw [C] at A; simp [dL] at A
 · rw [C] at A;simp only [dL,bR] at A;subst A;rw [I] at hp;simp only [bR,Obj.cells.injEq] at hp;exact J hp.2.1
section
variable {P:av} {N:Fm} {σ:Nat→ah} {w:ai} {dst:Option Nat} {ty:au} {pos :String} {af:Array cI} {g:Option (Nat×Bool)} {x:bu} {K:(Nat→ah)→ai→Prop}
theorem vF {e:au} {v:ah} (C:ev N σ x=v) (A:v.oneCell'=true) (k:∀ b w',b=w.heap.size→Nw w w'→w'.heap[b]? =some (.cells [v].toArray e (0,0))→K (dq σ dst<|.pointer<|some ⟨b,0,none⟩) w'):
 cz P N ⟨dst,.box e x,ty,pos,af,g⟩ σ w K:=by
 refine lN (v:=fun b=> .pointer<|some ⟨b,0,none⟩) (ob:= .cells [v].toArray e (0,0)) ?_ k;have :=mw A;simp [execOp,Instr.box,C,this,newVar,newRow]
end
theorem pM (w:ai) (k:Nat) (o:Obj):Md (fun j=>j=k) w (w.putObj k o):=
 ⟨rfl,rfl,by simp [World.putObj],fun j _ A=>lR A⟩
def fU (w w':ai):Prop := ∀ (k:Nat) (o:Obj),w.heap[k]? =some o→((∀ cur e z,o≠.cells cur e z)∧∀ es c,o≠.map es c)→w'.heap[k]? =some o
theorem fU.trans {a b c:ai} (h:fU a b) (A:fU b c):fU a c:=fun k o C hn=>A k o (h k o C hn) hn
theorem fU.md {F:Nat→Prop} {w w':ai} (hm:Md F w w') (C:∀ k,F k→∃ cur e z,w.heap[k]? =some (.cells cur e z)):fU w w':=fun k o A hn=>by
 rw [hm.dC k (cx.1 A).1 (fun E=>by obtain ⟨c,e,z,h⟩:=C k E; rw [A] at h; exact hn.1 _ _ _<|gJ h)]; exact A
theorem fU.wk {w w':ai} (hm:Wk w w'):fU w w':=fU.md hm fun _ h=>h.elim
theorem ud {w:ai} {B e size n:Nat} {v:ah} {xs:List ah} (h:w.ownsRow B e size v n xs):∀ k,v.ownBlock=some k→∃ cur e z,w.heap[k]? =some (.cells cur e z):=by
 intro k A;rcases h.2 with ⟨rfl,_⟩ | ⟨g,cap,E,rfl,_,C,_⟩
 · simp [dL] at A
 · simp only [dL,bR] at A; subst A; exact ⟨_,_,_,C⟩
def Cg {α:Type} (B:Nat) (A:List α→ai→Prop):Prop := ∀ pre W W' (F:Nat→Prop),A pre W→Md F W W'→(∀ k,F k→B≤k∧∀ cur e z,W.heap[k]?≠some (.cells cur e z))→A pre W'
section
variable {F:Nat→Prop} {W W':ai} {B:Nat}
theorem xJ {b e:Nat} {cs:Array ah} {z:Nat×Nat} (h:W.heap[b]? =some (.cells cs e z)) (hm:Md F W W') (A:∀ k,F k→B≤k∧∀ cur e z,W.heap[k]?≠some (.cells cur e z)):W'.heap[b]? =some (.cells cs e z):=by
 rw [hm.dC b (cx.1 h).1 (fun C=>(A b C).2 _ _ _ h)]; exact h
theorem Hj {B' e size n:Nat} {v:ah} {xs:List ah} (h:W.ownsRow B' e size v n xs) (hm:Md F W W') (C:∀ k,F k→B≤k∧∀ cur e z,W.heap[k]?≠some (.cells cur e z)):W'.ownsRow B' e size v n xs:=
 cC h hm fun k I E=>by obtain ⟨c,e,z,A⟩:=ud h k I; exact (C k E).2 _ _ _ A
theorem Hk {w:ai} (h:Wk w W) (hm:Md F W W') (E:w.heap.size≤B) (A:∀ k,F k→B≤k∧∀ cur e z,W.heap[k]?≠some (.cells cur e z)):Wk w W':=Md.trans' h hm fun k I C=>by have :=(A k C).1; omega
end
def Cc {α:Type} (P:av) (L:Nat) (lb:Array ah) (J:α→Array ah) (xs:List α) (I:ai→Prop):Prop :=
 ∀ (l:Nat) (A:List α→ai→Prop) (W:ai),A [] W→(∀ pre W,A pre W→I W)→(∀ pre C E,A pre C→Wk C E→A pre E)→
   (∀ pre x rest C,xs=pre++x::rest→A pre C→YieldAt ga 0 P l (J x) C fun e W'=>e= .returned (.bool true)∧A (pre++ [x]) W')→
   Calls P L (#[.func (.yield l) #[] #[]]++lb) W fun e W'=>(∃ v,e= .returned v)∧A xs W'
def Gk (R:ai→Prop):bM→(Nat→ah)→ai→Prop
 | .normal,_,w=>R w
 | _,_,_=>False
theorem yR (N:Fm):∀ (l:List (Tmp×ah)) (σ:Nat→ah),l.foldl (fun t p=>t.setIfInBounds p.1 p.2) (act N σ).tmps=(act N<|l.foldl (fun s p=>bI s p.1 p.2) σ).tmps:=by
 intro l
 induction l with
 | nil=>intro σ; rfl
 | cons p l ih=>
   intro σ;rw [uV,uV,← ih];congr 1;have :=congrArg Act.tmps<|gk N σ (some p.1) p.2;exact this
theorem O5 {α:Type} {P:av} {id n:Nat} {g:bu} {ps:Array Tmp} {ac body:cm} {Z:List Nat} {σ:Nat→ah} {w:ai} {B:bM→Act→ai→Prop} {aa:Nat} {lb:Array ah}
 (M:α→Array ah) (xs:List α) (ao:ai→Prop) (E:List α→ai→Prop) (aI:ev ⟨n,[],Z,none⟩ σ g= .func (.func aa) #[] lb) (aE:gD P aa) (aP:∀ x,(M x).size=ps.size)
 (aK:Cc P aa lb M xs ao) (aA:E [] w) (aF:∀ pre W,E pre W→ao W) (aj:Cg w.heap.size E) (ax:α→Nat→ah)
 (ha:∀ (l:Nat) (x:α) (W:ai) (K:(Nat→ah)→ai→Prop),K (ax x) W→bU P ⟨n,[],[],some l⟩ ac (iU K fun _ _ _=>False) ((ps.toList.zip (M x).toList).foldl (fun s p=>bI s p.1 p.2) σ) W)
 (hb:∀ (l:Nat) (pre:List α) (x:α) (rest:List α) (W:ai),xs=pre++x::rest→E pre W→bU P ⟨n,[],[],some l⟩ body (Gk fun W'=>fU W W'∧E (pre++ [x]) W') (ax x) W)
 (aG:∀ (D:Nat) (W:ai),w.heap.size≤D→E xs W→W.heap[D]? =some (.deferred<|some [])→qb ⟨n,[{target:= .collected D,args:= #[]}],Z,none⟩ B .normal σ W):
 iW P ⟨n,[],Z,none⟩ (.block id<|.rangeFunc g ps ac body) B σ w:=by
 refine wpIn_block<|wpIn_rangeFunc ?_;intro fn _;obtain ⟨rc,V⟩:∃ rc:LoopState→Option cm→Loop,rc=fun st aS=> {state:=st,pending:=aS,fn,tmps:=(act ⟨n,[],Z,none⟩ σ).tmps,params:=ps,assign:=ac,body,defers:=w.heap.size} :=⟨_,rfl⟩
 obtain ⟨I,ak⟩:∃ I,(w.alloc<|.deferred<|some []).alloc (.loop<|rc .ready none)=I:=⟨_,rfl⟩
 have aD:I.heap[w.heap.size+1]? =some (.loop<|rc .ready none):=by
  rw [← ak]; have :=yo (w.alloc<|.deferred<|some []) (.loop<|rc .ready none); rwa [yq] at this
 have aC:I.heap[w.heap.size]? =some (.deferred<|some []):=by
  rw [← ak]; exact (Below.heap_alloc _ _ _<|by simp).trans<|yo w _
 have hn:∀ (W:ai) (o:Obj),Wk W (W.alloc o):=fun W o=>(AE W o).md;have aB:E [] I:=by rw [← ak]; exact aj _ _ _ _ (aj _ _ _ _ aA (hn _ _) fun _ h=>h.elim) (hn _ _) fun _ h=>h.elim
 have aH:(act ⟨n,[],Z,none⟩ σ).eval g= .func (.func aa) #[] lb:=by rw [ek]; exact aI
 refine ⟨w.heap.size+1,[{target:= .collected w.heap.size,args:= #[]}],I,{target:= .fn (.func aa) lb,args:= #[.func (.yield<|w.heap.size+1) #[] #[]]},I,aa,
  #[.func (.yield<|w.heap.size+1) #[] #[]]++lb,I,?_,?_,fun _ _=>trivial,?_,fun h0=>(by cases h0),?_⟩
 · rw [← ak,V]; exact run_enterLoop_outer _ _ _ _ _
 · simp only [resolve,aH];simp [go_sem]
 · have :=aE (#[.func (.yield<|w.heap.size+1) #[] #[]]++lb) I;simp [invoke,go_sem,this]
 · have am:∀ (pre:List α) (W:ai) (o an:Obj),E pre W→W.heap[w.heap.size+1]? =some o→(∀ cur e z,o≠.cells cur e z)→E pre (W.putObj (w.heap.size+1) an):=fun pre W o an ad ae az=>
    aj _ _ _ _ ad (pM W _ an) fun k ab=>⟨ag,fun cur e z ap=>by subst ab; rw [ae] at ap; exact az _ _ _<|gJ ap⟩
   refine callsIn_wide.2 (jy (aK (w.heap.size+1)
    (fun pre W=>E pre W∧W.heap[w.heap.size+1]? =some (.loop<|rc .ready none)∧W.heap[w.heap.size]? =some (.deferred<|some []))
    I ⟨aB,aD,aC⟩ (fun pre W h=>aF pre W h.1)
    (fun pre A C h hm=>⟨aj _ _ _ _ h.1 hm (fun _ h=>h.elim),(hm.dC _ (cx.1 h.2.1).1 fun h=>h).trans h.2.1,(hm.dC _ (cx.1 h.2.2).1 fun h=>h).trans h.2.2⟩) ?_) ?_)
   · rintro pre x rest W aR ⟨hi,O,ab⟩;have aO:w.heap.size+1 < W.heap.size:=(cx.1 O).1;have au:=run_yield (P:=P) (args:=M x) O<|by rw [V]; exact aP x
     rw [V] at au;refine ⟨fn,_,ac,body,au,roundIn_of_wpIn (F:=ga) trivial ?_⟩;have aQ:((ps.zip<|M x).foldl (fun tmps (p:Tmp×ah)=>tmps.setIfInBounds p.1 p.2) (act ⟨n,[],Z,none⟩ σ).tmps)=(act ⟨n,[],[],some<|w.heap.size+1⟩<|(ps.toList.zip (M x).toList).foldl (fun s p=>bI s p.1 p.2) σ).tmps:=by
      rw [← yb,Ik];exact yR ⟨n,[],[],some<|w.heap.size+1⟩ _ σ
     have ad:=ha (w.heap.size+1) x W (fun σ' W'=> ∃ aw,(IE<|w.heap.size+1).run P W'= .ok () aw∧
      body.wpIn (ga.inRound<|w.heap.size+1) 0 P (roundPost P (w.heap.size+1) fun e W'=>e= .returned (.bool true)∧E (pre++ [x]) W'∧W'.heap[w.heap.size+1]? =some (.loop<|rc .ready none)∧W'.heap[w.heap.size]? =some (.deferred<|some [])) (act ⟨n,[],[],some<|w.heap.size+1⟩ σ') aw) ?_
     · unfold bU at ad;have ay:({tmps:=(ps.zip<|M x).foldl (fun tmps (p:Tmp×ah)=>tmps.setIfInBounds p.1 p.2) (act ⟨n,[],Z,none⟩ σ).tmps,defers:= []} :Act)=act ⟨n,[],[],some<|w.heap.size+1⟩ ((ps.toList.zip (M x).toList).foldl (fun s p=>bI s p.1 p.2) σ):=by rw [aQ]; rfl
       rw [ay];refine wpIn_mono ad ?_;intro e a w' J;cases e with
       | normal=>obtain ⟨σ',rfl,L⟩:=J; exact L
       | panic c=>obtain ⟨σ',rfl,L⟩:=J; exact L σ' fun _ _=>rfl
       | outgrown=>exact J.elim
       | _=>obtain ⟨σ',rfl,L⟩:=J; exact L
     refine ⟨_,run_beginRound O (by rw [V]),?_⟩;have aN:(W.putObj (w.heap.size+1)<|.loop {rc .ready none with state:= .busy}).heap[w.heap.size+1]? =some (.loop {rc .ready none with state:= .busy}):=qx aO;have aL:(W.putObj (w.heap.size+1)<|.loop {rc .ready none with state:= .busy}).heap[w.heap.size]? =some (.deferred<|some []):=(lR ag).trans ab;have ae:=hb (w.heap.size+1) pre x rest _ aR<|am _ _ _ (.loop {rc .ready none with state:= .busy}) hi O fun _ _ _ h=>by cases h
     unfold bU at ae;refine wpIn_mono ae ?_;intro e a aU J;cases e with
     | normal=>
       obtain ⟨σ',rfl,aq,aJ⟩:=J;have al:=aq _ _ aN ⟨(fun _ _ _ h=>by cases h),fun _ _ h=>by cases h⟩;have aM:=aq _ _ aL ⟨(fun _ _ _ h=>by cases h),fun _ _ h=>by cases h⟩;have hr:=run_endRound (P:=P) none al;rw [V] at hr al ⊢;exact ⟨_,_,hr,U,am _ _ _ _ aJ al (fun _ _ _ h=>by cases h),qx (cx.1 al).1,(lR ag).trans aM⟩
     | panic c=>obtain ⟨σ',rfl,L⟩:=J; exact (L σ' fun _ _=>rfl).elim
     | outgrown=>exact J.elim
     | _=>obtain ⟨σ',rfl,L⟩:=J; exact L.elim
   · rintro e aT ⟨⟨v,rfl⟩,hi,O,ab⟩;have ar:=run_endLoop (P:=P) O<|by rw [V]; simp
     rw [V] at ar;refine ⟨none,_,ar,?_⟩;rw [V] at O;exact aG w.heap.size _ (bf _) (am _ _ _ _ hi O fun _ _ _ h=>by cases h)<|(lR ag).trans ab
section
variable {P:av} {N:Fm} {ops:Array aO} {Q:bM→(Nat→ah)→ai→Prop} {rest:List aO} {σ:Nat→ah} {w:ai} {d':Option Nat} {d:Nat} {op:Op} {ty:au} {pos :String} {af:Array cI} {v:ah}
def mH (P:av) (N:Fm) (ops:Array aO) (Q:bM→(Nat→ah)→ai→Prop) (l:List aO) (σ:Nat→ah) (w:ai):Prop :=wpListIn (fe N.r) 0 P ops (lift N Q) l (act N σ) w
theorem Gi {id:Nat} {l:List aO} (h:mH P N l.toArray Q l σ w):bU P N (.region id l.toArray false) Q σ w:=by
 unfold bU; exact wpIn_region_lit h
theorem FA (h:Q .normal σ w):mH P N ops Q [] σ w:=⟨σ,rfl,h⟩
def Az (o:Op):Bool:=match o with | .defer _=>false | _=>true
theorem Oc {o:Op} (h:Az o=true):∀ c,o≠.defer c:=fun c e=>by subst e; cases h
theorem ey (hn:Az op=true) (h:cz P N ⟨d',op,ty,pos,af,none⟩ σ w (fun σ w=>mH P N ops Q rest σ w)):mH P N ops Q (⟨d',op,ty,pos,af,none⟩::rest) σ w:=by
 unfold mH wpListIn;rw [if_pos (gW _ rfl _)];refine ⟨fun f _=>mg _ f,?_⟩;rw [pn,uO _ _ _ (Oc hn)];unfold cz iD at h;generalize (execOp (act N σ).eval ⟨d',op,ty,pos,af,none⟩).run P w=x at h ⊢;cases x with
 | ok n w'=>
   cases n <;> simp only [j3,sM] at h ⊢ <;>
    first
     | (obtain ⟨σ',ha,A⟩:=h; rw [ha]; exact A)
     | (refine ⟨fun h0=>(by rw [pk] at h0; cases h0),CallsIn.mono (wg h) fun e w'' he=> ?_⟩
        cases e with
        | returned v=>obtain ⟨σ',ha,A⟩:=he; simp only; rw [ha]; exact A
        | panicked c=>exact he.elim
        | outgrown=>obtain ⟨_,_,C⟩:=he; exact C.elim)
     | (refine ⟨fun h0=>(by rw [pk] at h0; cases h0),RowsIn.mono (D6 h) fun v w'' he=> ?_⟩
        obtain ⟨σ',ha,A⟩:=he; rw [ha]; exact A)
 | halt x w'=>cases x <;> simp only [j3] at h
theorem py (hn:Az op=true) (h:(execOp (ev N σ) ⟨some d,op,ty,pos,af,none⟩).run P w= .ok (.value v) w) (k:mH P N ops Q rest (bI σ d v) w):mH P N ops Q (⟨some d,op,ty,pos,af,none⟩::rest) σ w:=
 ey hn (j0 h k)
theorem Ia {l:Nat} {fo:bu} {args:Array bu} {A:Array au} {L:List ah} {R:ai→Prop} (M:ev N σ fo= .func (.yield l) #[] #[]) (I:args.toList.map (ev N σ)=L)
 (U:YieldAt ga 0 P l L.toArray w fun e W'=>e= .returned (.bool true)∧R W') (k:∀ W',R W'→mH P N ops Q rest (bI σ d<|.bool true) W'):
 mH P N ops Q (⟨some d,.call ⟨.value fo,args,A⟩,ty,pos,af,none⟩::rest) σ w:=by
 obtain ⟨fn,tmps,a,b,J,C⟩:=U;unfold mH wpListIn;rw [if_pos (gW _ rfl _)];refine ⟨fun f _=>mg _ f,?_⟩;rw [pn,uO _ _ _ (fun c e=>by cases e),ek];have hm:args.map (ev N σ)=L.toArray:=by rw [← I,← jx]
 have O:(execOp (ev N σ) ⟨some d,.call ⟨.value fo,args,A⟩,ty,pos,af,none⟩).run P w= .ok (.round l fn tmps a b) w:=by
  simp [execOp,resolve,M,mK,invoke,hm,J]
 rw [O];simp only [sM];refine ⟨fun h0=>(by rw [pk] at h0; cases h0),?_⟩;have E:RoundIn (fe N.r) (0 - 1) P l fn tmps a b w fun e W'=>e= .returned (.bool true)∧R W':=by
  cases hr:N.r with
  | none=>exact C
  | some k=>exact C
 refine RoundIn.mono E ?_;rintro e W' ⟨rfl,hw⟩;simp only;rw [gk];exact k W' hw
end
end Go.Hb
end
namespace Go.Hb
def Cd {α:Type} (P:av) (L:Nat) (lb:Array ah) (J:α→Array ah) (Ok:List α→α→Prop) (Fin:List α→Prop) (I:ai→Prop):Prop :=
 ∀ (l:Nat) (A:List α→ai→Prop) (W:ai),A [] W→(∀ pre W,A pre W→I W)→(∀ pre C E (F:Nat→Prop),A pre C→Md F C E→(∀ k,F k→W.heap.size≤k∧∀ cur e z,C.heap[k]?≠some (.cells cur e z))→A pre E)→
   (∀ pre x C,Ok pre x→A pre C→YieldAt ga 0 P l (J x) C fun e W'=>e= .returned (.bool true)∧fU C W'∧A (pre++ [x]) W')→
   Calls P L (#[.func (.yield l) #[] #[]]++lb) W fun e W'=>(∃ v,e= .returned v)∧∃ xs,Fin xs∧A xs W'
theorem O6 {α:Type} {P:av} {id n:Nat} {g:bu} {ps:Array Tmp} {ae body:cm} {aa:List Nat} {σ:Nat→ah} {w:ai} {B:bM→Act→ai→Prop} {ab:Nat} {lb:Array ah}
 (V:α→Array ah) (Ok:List α→α→Prop) (Fin:List α→Prop) (au:ai→Prop) (E:List α→ai→Prop) (aL:ev ⟨n,[],aa,none⟩ σ g= .func (.func ab) #[] lb) (aH:gD P ab) (aT:∀ x,(V x).size=ps.size)
 (aN:Cd P ab lb V Ok Fin au) (aD:E [] w) (aI:∀ pre W,E pre W→au W) (am:Cg w.heap.size E) (aA:α→Nat→ah)
 (ha:∀ (l:Nat) (x:α) (W:ai) (K:(Nat→ah)→ai→Prop),K (aA x) W→bU P ⟨n,[],[],some l⟩ ae (iU K fun _ _ _=>False) ((ps.toList.zip (V x).toList).foldl (fun s p=>bI s p.1 p.2) σ) W)
 (hb:∀ (l:Nat) (pre:List α) (x:α) (W:ai),Ok pre x→E pre W→bU P ⟨n,[],[],some l⟩ body (Gk fun W'=>fU W W'∧E (pre++ [x]) W') (aA x) W)
 (aJ:∀ (D:Nat) (W:ai) (xs:List α),Fin xs→w.heap.size≤D→E xs W→W.heap[D]? =some (.deferred<|some [])→qb ⟨n,[{target:= .collected D,args:= #[]}],aa,none⟩ B .normal σ W):
 iW P ⟨n,[],aa,none⟩ (.block id<|.rangeFunc g ps ae body) B σ w:=by
 refine wpIn_block<|wpIn_rangeFunc ?_;intro fn _;obtain ⟨rc,O⟩:∃ rc:LoopState→Option cm→Loop,rc=fun st aW=> {state:=st,pending:=aW,fn,tmps:=(act ⟨n,[],aa,none⟩ σ).tmps,params:=ps,assign:=ae,body,defers:=w.heap.size} :=⟨_,rfl⟩
 obtain ⟨I,ac⟩:∃ I,(w.alloc<|.deferred<|some []).alloc (.loop<|rc .ready none)=I:=⟨_,rfl⟩
 have aG:I.heap[w.heap.size+1]? =some (.loop<|rc .ready none):=by
  rw [← ac]; have :=yo (w.alloc<|.deferred<|some []) (.loop<|rc .ready none); rwa [yq] at this
 have aF:I.heap[w.heap.size]? =some (.deferred<|some []):=by
  rw [← ac]; exact (Below.heap_alloc _ _ _<|by simp).trans<|yo w _
 have aZ:I.heap.size=w.heap.size+2:=by rw [← ac,yq,yq]
 have hn:∀ (W:ai) (o:Obj),Wk W (W.alloc o):=fun W o=>(AE W o).md;have aE:E [] I:=by rw [← ac]; exact am _ _ _ _ (am _ _ _ _ aD (hn _ _) fun _ h=>h.elim) (hn _ _) fun _ h=>h.elim
 have aK:(act ⟨n,[],aa,none⟩ σ).eval g= .func (.func ab) #[] lb:=by rw [ek]; exact aL
 refine ⟨w.heap.size+1,[{target:= .collected w.heap.size,args:= #[]}],I,{target:= .fn (.func ab) lb,args:= #[.func (.yield<|w.heap.size+1) #[] #[]]},I,ab,
  #[.func (.yield<|w.heap.size+1) #[] #[]]++lb,I,?_,?_,fun _ _=>trivial,?_,fun h0=>(by cases h0),?_⟩
 · rw [← ac,O]; exact run_enterLoop_outer _ _ _ _ _
 · simp only [resolve,aK];simp [go_sem]
 · have :=aH (#[.func (.yield<|w.heap.size+1) #[] #[]]++lb) I;simp [invoke,go_sem,this]
 · have aq:∀ (pre:List α) (W:ai) (o ar:Obj),E pre W→W.heap[w.heap.size+1]? =some o→(∀ cur e z,o≠.cells cur e z)→E pre (W.putObj (w.heap.size+1) ar):=fun pre W o ar aj ak aC=>
    am _ _ _ _ aj (pM W _ ar) fun k Z=>⟨ag,fun cur e z aw=>by subst Z; rw [ak] at aw; exact aC _ _ _<|gJ aw⟩
   refine callsIn_wide.2 (jy (aN (w.heap.size+1)
    (fun pre W=>E pre W∧W.heap[w.heap.size+1]? =some (.loop<|rc .ready none)∧W.heap[w.heap.size]? =some (.deferred<|some []))
    I ⟨aE,aG,aF⟩ (fun pre W h=>aI pre W h.1)
    (fun pre A C F h hm al=>⟨am _ _ _ _ h.1 hm (fun k Z=>⟨by have :=(al k Z).1; omega,(al k Z).2⟩),(hm.dC _ (cx.1 h.2.1).1 fun h=>by have :=(al _ h).1; omega).trans h.2.1,(hm.dC _ (cx.1 h.2.2).1 fun h=>by have :=(al _ h).1; omega).trans h.2.2⟩) ?_) ?_)
   · rintro pre x W aV ⟨hi,J,Z⟩;have aR:w.heap.size+1 < W.heap.size:=(cx.1 J).1;have ay:=run_yield (P:=P) (args:=V x) J<|by rw [O]; exact aT x
     rw [O] at ay;refine ⟨fn,_,ae,body,ay,roundIn_of_wpIn (F:=ga) trivial ?_⟩;have aU:((ps.zip<|V x).foldl (fun tmps (p:Tmp×ah)=>tmps.setIfInBounds p.1 p.2) (act ⟨n,[],aa,none⟩ σ).tmps)=(act ⟨n,[],[],some<|w.heap.size+1⟩<|(ps.toList.zip (V x).toList).foldl (fun s p=>bI s p.1 p.2) σ).tmps:=by
      rw [← yb,Ik];exact yR ⟨n,[],[],some<|w.heap.size+1⟩ _ σ
     have aj:=ha (w.heap.size+1) x W (fun σ' W'=> ∃ az,(IE<|w.heap.size+1).run P W'= .ok () az∧
      body.wpIn (ga.inRound<|w.heap.size+1) 0 P (roundPost P (w.heap.size+1) fun e W'=>e= .returned (.bool true)∧fU W W'∧E (pre++ [x]) W'∧W'.heap[w.heap.size+1]? =some (.loop<|rc .ready none)∧W'.heap[w.heap.size]? =some (.deferred<|some [])) (act ⟨n,[],[],some<|w.heap.size+1⟩ σ') az) ?_
     · unfold bU at aj;have aB:({tmps:=(ps.zip<|V x).foldl (fun tmps (p:Tmp×ah)=>tmps.setIfInBounds p.1 p.2) (act ⟨n,[],aa,none⟩ σ).tmps,defers:= []} :Act)=act ⟨n,[],[],some<|w.heap.size+1⟩ ((ps.toList.zip (V x).toList).foldl (fun s p=>bI s p.1 p.2) σ):=by rw [aU]; rfl
       rw [aB];refine wpIn_mono aj ?_;intro e a w' L;cases e with
       | normal=>obtain ⟨σ',rfl,M⟩:=L; exact M
       | panic c=>obtain ⟨σ',rfl,M⟩:=L; exact M σ' fun _ _=>rfl
       | outgrown=>exact L.elim
       | _=>obtain ⟨σ',rfl,M⟩:=L; exact M
     refine ⟨_,run_beginRound J (by rw [O]),?_⟩;have aQ:(W.putObj (w.heap.size+1)<|.loop {rc .ready none with state:= .busy}).heap[w.heap.size+1]? =some (.loop {rc .ready none with state:= .busy}):=qx aR;have aO:(W.putObj (w.heap.size+1)<|.loop {rc .ready none with state:= .busy}).heap[w.heap.size]? =some (.deferred<|some []):=(lR ag).trans Z;have ak:=hb (w.heap.size+1) pre x _ aV<|aq _ _ _ (.loop {rc .ready none with state:= .busy}) hi J fun _ _ _ h=>by cases h
     unfold bU at ak;refine wpIn_mono ak ?_;intro e a aY L;cases e with
     | normal=>
       obtain ⟨σ',rfl,ap,aM⟩:=L;have ad:=ap _ _ aQ ⟨(fun _ _ _ h=>by cases h),fun _ _ h=>by cases h⟩;have aP:=ap _ _ aO ⟨(fun _ _ _ h=>by cases h),fun _ _ h=>by cases h⟩;have hr:=run_endRound (P:=P) none ad;rw [O] at hr ad ⊢;refine ⟨_,_,hr,U,fun k o ao aS=> ?_,aq _ _ _ _ aM ad (fun _ _ _ h=>by cases h),qx (cx.1 ad).1,(lR ag).trans aP⟩;by_cases an:k=w.heap.size+1
       · subst an;rw [J,O] at ao;rw [← ao];exact qx (cx.1 ad).1
       · exact (lR an).trans<|ap k o ((lR an).trans ao) aS
     | panic c=>obtain ⟨σ',rfl,M⟩:=L; exact (M σ' fun _ _=>rfl).elim
     | outgrown=>exact L.elim
     | _=>obtain ⟨σ',rfl,M⟩:=L; exact M.elim
   · rintro e aX ⟨⟨v,rfl⟩,xs,hfin,hi,J,Z⟩;have ax:=run_endLoop (P:=P) J<|by rw [O]; simp
     rw [O] at ax;refine ⟨none,_,ax,?_⟩;rw [O] at J;exact aJ w.heap.size _ xs hfin (bf _) (aq _ _ _ _ hi J fun _ _ _ h=>by cases h)<|(lR ag).trans Z
end Go.Hb
section
namespace Go.Hb
section
variable {P:av} {N:Fm} {σ:Nat→ah} {w:ai} {fn:jz} {R:ah→ai→Prop}
theorem NP {t b off :Nat} {v:ah} (hu:dA P t=some none) (A:Hb.aH w.heap b off =some v):(loadVar t ⟨b,off,none⟩).run P w= .ok v w:=by
 have C:w.cell? ⟨b,off,none⟩=some v:=by rw [jK]; exact A
 unfold dA at hu;cases hd:P.underlying t with
 | none=>rw [hd] at hu; cases hu
 | some d=>
   rw [hd] at hu;cases d <;> first
    | (simp only [il] at hu; obtain ⟨_,_,h⟩:=hu; cases h; done)
    | simp [loadVar,isAgg,bS hd,run_load,C]
theorem NQ {t n b off :Nat} {cs:List ah} (hu:dA P t=some (some n)) (I:cs.length=n) (C:∀ j,j < n→Hb.aH w.heap b (off+j)=cs[j]?):(loadVar t ⟨b,off,none⟩).run P w= .ok (.agg cs.toArray) w:=by
 have E:(loadCells ⟨b,off,none⟩ n).run P w= .ok cs.toArray w:=by
  subst I;refine run_loadCells_list (P:=P) w ⟨b,off,none⟩ cs fun j v A=> ?_;rw [fw,jK];exact (C j (dt.1 A).1).trans A
 unfold dA at hu;cases hd:P.underlying t with
 | none=>rw [hd] at hu; cases hu
 | some d=>
   rw [hd] at hu;cases hi:P.info? t with
   | none=>simp [IP,hi] at hd
   | some i=>
     rw [hi] at hu;cases d <;> first
      | (cases hu; done)
      | (simp only [fg,bR] at hu; subst hu
         simp [loadVar,isAgg,bS hd,sizeOf,eh hi,E])
def mU (P:av) (N:Fm) (σ:Nat→ah) (w:ai):ResultVar→ah→Prop
 | .tmp t,v=>ev N σ (.tmp t)=v
 | .cell a t,v=> ∃ ad,ev N σ (.tmp a)= .pointer (some ad)∧(loadVar t ad).run P w= .ok v w
theorem oB {t:Tmp} :mU P N σ w (.tmp t) (ev N σ<|.tmp t):=rfl
theorem kX {a t b off :Nat} {v:ah} (C:ev N σ (.tmp a)= .pointer (some ⟨b,off,none⟩)) (hu:dA P t=some none) (A:Hb.aH w.heap b off =some v):mU P N σ w (.cell a t) v:=⟨_,C,NP hu A⟩
theorem jY {a t n b off :Nat} {cs:List ah} (E:ev N σ (.tmp a)= .pointer (some ⟨b,off,none⟩)) (hu:dA P t=some (some n)) (C:cs.length=n) (A:∀ j,j < n→Hb.aH w.heap b (off+j)=cs[j]?):mU P N σ w (.cell a t) (.agg cs.toArray):=⟨_,E,NQ hu C A⟩
def ny (tmps:Array ah):ResultVar→Sem ah
 | .tmp t=>pure<|tmps.getD t undef
 | .cell a t=>do loadVar t (← asAddr (tmps.getD a undef))
theorem lM {r:ResultVar} {v:ah} (h:mU P N σ w r v):(ny (act N σ).tmps r).run P w= .ok v w:=by
 cases r with
 | tmp t=>
   show lQ P (pure<|(act N σ).tmps.getD t undef) w=_;rw [k9]; simp only [mU] at h; rw [h]; rfl
 | cell a t=>
   obtain ⟨ad,A,C⟩:=h;show lQ P (do loadVar t (← asAddr ((act N σ).tmps.getD a undef))) w=_;rw [k9,A];simp [asAddr,C]
theorem Pd {tmps:Array ah} {r:ResultVar} {v:ah} (h:fn.results= #[r]) (A:(ny tmps r).run P w= .ok v w):(results fn tmps).run P w= .ok v w:=by
 have C:(results fn tmps)=(do let vs ← #[r].mapM (ny tmps); pure (if h:vs.size=1 then vs[0] else .tuple vs)):=by
  unfold results; rw [h]; rfl
 rw [C]; simp [yw,A]
theorem xq {tmps:Array ah} {r s:ResultVar} {v u:ah} (h:fn.results= #[r,s]) (A:(ny tmps r).run P w= .ok v w) (C:(ny tmps s).run P w= .ok u w):(results fn tmps).run P w= .ok (.tuple #[v,u]) w:=by
 have E:(results fn tmps)=(do let vs ← #[r,s].mapM (ny tmps); pure (if h:vs.size=1 then vs[0] else .tuple vs)):=by
  unfold results; rw [h]; rfl
 rw [E]; simp [yw,A,C]
theorem zy {r:ResultVar} {v:ah} (h:fn.results= #[r]) (A:mU P N σ w r v) (C:R v w):fin P fn N R .ret σ w:=⟨v,Pd h (lM A),C⟩
theorem pj {r s:ResultVar} {v u:ah} (h:fn.results= #[r,s]) (A:mU P N σ w r v) (C:mU P N σ w s u) (E:R (.tuple #[v,u]) w):fin P fn N R .ret σ w:=⟨_,xq h (lM A) (lM C),E⟩
end
end Go.Hb
end
section
namespace Go.Hb
def o5 (P:av) (f:e9) (args:Array ah) (w:ai) (R:ah→ai→Prop) (A:List PanicEntry→ai→Prop):Prop :=
 Calls P f args w fun e w'=>(∃ v,e= .returned v∧R v w')∨∃ c,e= .panicked c∧A c w'
def Ea (P:av) (fn:jz) (N:Fm) (R:ah→ai→Prop) (A:List PanicEntry→ai→Prop):bM→(Nat→ah)→ai→Prop
 | .normal,σ,w=> ∃ v,(results fn (act N σ).tmps).run P w= .ok v w∧R v w
 | .ret,σ,w=> ∃ v,(results fn (act N σ).tmps).run P w= .ok v w∧R v w
 | .panic c,_,w=>A c w
 | _,_,_=>False
theorem tI {P:av} {fn:jz} {N:Fm} {R:ah→ai→Prop} {A:List PanicEntry→ai→Prop} {e:bM} {σ:Nat→ah} {w:ai} (h:fin P fn N R e σ w):Ea P fn N R A e σ w:=by
 cases e <;> first | exact h | exact h.elim
theorem tC {P:av} {f:e9} {N:Nat} {fn:jz} {c:cm} {args:List ah} {w:ai} {R:ah→ai→Prop} {I:List PanicEntry→ai→Prop} (L:P.funcs[f]? =some fn) (hb:fn.body=some c)
 (J:fn.ntmps=N) (hn:bL args.length N=true) (h:bU P ⟨N,[],[],none⟩ c (Ea P fn ⟨N,[],[],none⟩ R I) (eF args) w):o5 P f args.toArray w R I:=by
 subst J;refine calls_of_wp L hb ?_;rw [pV fn args [] hn];unfold bU at h;refine Ix ?_<|wpIn_wide.1 h;intro e a w A;cases e with
 | normal=>obtain ⟨σ,rfl,v,hr,E⟩:=A; exact ⟨rfl,v,hr,.inl ⟨v,rfl,E⟩⟩
 | ret=>obtain ⟨σ,rfl,v,hr,E⟩:=A; exact ⟨rfl,v,hr,.inl ⟨v,rfl,E⟩⟩
 | exit id=>obtain ⟨σ,rfl,C⟩:=A; exact C.elim
 | goto l=>obtain ⟨σ,rfl,C⟩:=A; exact C.elim
 | panic c=>obtain ⟨σ,rfl,C⟩:=A; exact ⟨rfl,.inr ⟨c,rfl,C σ fun _ _=>rfl⟩⟩
 | outgrown=>exact A.elim
section
variable {P:av} {N:Fm} {Q:bM→(Nat→ah)→ai→Prop} {σ:Nat→ah} {w:ai} {ops:Array aO} {rest:List aO} {dst:Option Nat} {ty:au} {pos :String} {af:Array cI} {g:Option (Nat×Bool)} {x:bu}
def p7 (P:av) (N:Fm) (o:aO) (σ:Nat→ah) (w:ai) (K:(Nat→ah)→ai→Prop) (A:List PanicEntry→ai→Prop):Prop :=
 iD P o (act N σ) w (fun a w=> ∃ σ,a=act N σ∧K σ w) (fun e a w=>match e with | .panic c=>a=act N σ∧A c w | _=>False)
theorem BC {o:aO} {K:(Nat→ah)→ai→Prop} {C:List PanicEntry→ai→Prop} {A:Act→ai→Prop} (h:p7 P N o σ w K C) (L:∀ σ w,K σ w→A (act N σ) w) (hp:∀ c w',C c w'→∀ σ',(∀ i∈N.F,σ' i=σ i)→Q (.panic c) σ' w'):o.wp P (act N σ) w A (lift N Q):=by
 unfold p7 at h;unfold iD at*;generalize (execOp (act N σ).eval o).run P w=r at h ⊢;have E:∀ a w,(∃ σ,a=act N σ∧K σ w)→A a w:=by rintro a w ⟨σ,rfl,h⟩; exact L _ _ h
 have I:∀ c (a:Act) w',(a=act N σ∧C c w')→lift N Q (.panic c) a w':=by rintro c a w' ⟨rfl,h⟩; exact ⟨σ,rfl,hp c w' h⟩
 cases r with
 | ok n w'=>
   cases n <;> simp only [j3] at h ⊢ <;>
    first
     | exact E _ _ h
     | exact jy h (fun e w'' he=>by
      cases e with
      | returned v=>exact E _ _ he
      | panicked c=>exact I _ _ _ ⟨rfl,he.2⟩
      | outgrown=>obtain ⟨_,_,J⟩:=he; exact J.elim)
     | exact BT h fun _ _ he=>E _ _ he
 | halt x w'=>cases x <;> simp only [j3] at h ⊢ <;> exact I _ _ _ ⟨rfl,h.2⟩
theorem fQ {f:e9} {args:Array bu} {C:Array au} {L:List ah} {R:ah→ai→Prop} {A:List PanicEntry→ai→Prop} {K:(Nat→ah)→ai→Prop} (O:gD P f) (hr:o5 P f L.toArray w R A) (I:args.toList.map (ev N σ)=L)
 (k:∀ v w',R v w'→K (dq σ dst v) w'):p7 P N ⟨dst,.call ⟨.value (.func f),args,C⟩,ty,pos,af,g⟩ σ w K A:=by
 unfold p7 iD;have hm:args.map (ev N σ)=L.toArray:=by rw [← I,← jx]
 have U:(execOp (ev N σ) ⟨dst,.call ⟨.value (.func f),args,C⟩,ty,pos,af,g⟩).run P w= .ok (.enter f L.toArray) w:=by
  have E:=O L.toArray w;simp [execOp,resolve,ev,mK,invoke,hm,E]
 rw [ek,U];simp only [j3];refine jy hr ?_;rintro e w' (⟨v,rfl,M⟩ | ⟨c,rfl,J⟩)
 · exact ⟨_,gk ..,k v w' M⟩
 · exact ⟨trivial,J⟩
theorem eP {o:aO} {A:List PanicEntry→ai→Prop} (E:o.guard=none) (h:p7 P N o σ w (fun σ w=>cH P N ops Q rest σ w) A) (hp:∀ c w',A c w'→∀ σ',(∀ i∈N.F,σ' i=σ i)→Q (.panic c) σ' w'):cH P N ops Q (o::rest) σ w:=by
 unfold cH wpList;rw [if_pos (gW o E _)];refine .inl<|BC h (fun σ w C=> ?_) hp;unfold cH at C; exact C
theorem OI {t:au} {v:ah} (A:ev N σ x= .iface t v) (hp:∀ σ',(∀ i∈N.F,σ' i=σ i)→Q (.panic [{v:= .iface t v,recovered:=false}]) σ' w):cH P N ops Q (⟨dst,.panic x,ty,pos,af,none⟩::rest) σ w:=by
 unfold cH wpList;rw [if_pos (gW _ rfl _)];refine .inl ?_;unfold iD;have hr:(execOp (ev N σ) ⟨dst,.panic x,ty,pos,af,none⟩).run P w= .halt (.panic<|.iface t v) w:=by
  simp [execOp,A,Instr.panic]
 rw [ek,hr];exact ⟨σ,U,hp⟩
theorem N3 {t:au} {d:TypeDesc} {v:ah} (hu:P.underlying t=some d) (A:(match d with | .interface _=>false | _=>true)=true) (C:ev N σ x=v):(execOp (ev N σ) ⟨dst,.makeInterface t x,ty,pos,af,g⟩).run P w= .ok (.value<|.iface t v) w:=by
 cases d <;> first | (cases A; done) | simp [execOp,Instr.makeInterface,C,bS hu]
def ml (P:av) (t:au):Bool:=match P.underlying t with | some (.interface _)=>false | some _=>true | none=>false
theorem Av {t:au} {v:ah} (h:ml P t=true) (A:ev N σ x=v):(execOp (ev N σ) ⟨dst,.makeInterface t x,ty,pos,af,g⟩).run P w= .ok (.value<|.iface t v) w:=by
 unfold ml at h;cases hd:P.underlying t with
 | none=>rw [hd] at h; cases h
 | some d=>rw [hd] at h; exact N3 hd (by cases d <;> first | rfl | cases h) A
theorem Hr {xt a:au} {zv:ah} (hu:ml P a=true) (C:zeroV P a=some zv) (A:ev N σ x= .nilIface):(execOp (ev N σ) ⟨dst,.typeAssert x xt a true,ty,pos,af,g⟩).run P w= .ok (.value<|.tuple #[zv,.bool false]) w:=by
 unfold ml at hu;cases hd:P.underlying a with
 | none=>rw [hd] at hu; cases hu
 | some d=>rw [hd] at hu; cases d <;> first | (cases hu; done) | simp [execOp,IJ,A,bS hd,BH C]
theorem Hq {xt a:au} {v:ah} (hu:ml P a=true) (A:ev N σ x= .iface a v):(execOp (ev N σ) ⟨dst,.typeAssert x xt a true,ty,pos,af,g⟩).run P w= .ok (.value<|.tuple #[v,.bool true]) w:=by
 unfold ml at hu;cases hd:P.underlying a with
 | none=>rw [hd] at hu; cases hu
 | some d=>rw [hd] at hu; cases d <;> first | (cases hu; done) | simp [execOp,IJ,A,bS hd]
variable {S:ai→Prop} {fuel:Nat} {listed:Array Bool}
theorem MN {o:aO} {C:List PanicEntry→ai→Prop} (i:Nat) (hi:ops[i]? =some o) (hr:kS ops listed i=true) (E:o.guard=none)
 (h:p7 P N o σ w (fun σ w=>S w∧dr P N ops Q S fuel (listed.setIfInBounds i true) σ w) C) (hp:∀ c w',C c w'→∀ σ',(∀ i∈N.F,σ' i=σ i)→Q (.panic c) σ' w'):dr P N ops Q S (fuel+1) listed σ w:=by
 unfold dr at*;refine wpAnyH_all (rs:= [i]) (by simpa [kS] using hr) (by simp) ?_;intro k A;obtain rfl :k=i:=by simpa using A
 unfold wpOp;simp only [hi];rw [if_pos (gW _ E _)];exact .inl<|BC h (fun σ w A=>A) hp
end
section
variable {P:av} {N:Fm} {Q:bM→(Nat→ah)→ai→Prop} {σ:Nat→ah} {w:ai} {ops:Array aO} {S:ai→Prop} {fuel:Nat} {listed:Array Bool}
end
section
variable {P:av} {N:Fm} {Q:bM→(Nat→ah)→ai→Prop} {σ:Nat→ah} {w:ai} {ops:Array aO} {S:ai→Prop} {fuel r:Nat} {listed:Array Bool}
theorem Nv {o:aO} {C:List PanicEntry→ai→Prop} (i:Nat) (hi:ops[i]? =some o) (hr:kS ops listed i=true) (I:o.guard=none)
 (h:p7 P N o σ w (fun σ w=>S w∧db P N ops Q S r fuel (listed.setIfInBounds i true) σ w) C) (hp:∀ c w',C c w'→∀ σ',(∀ i∈N.F,σ' i=σ i)→Q (.panic c) σ' w'):db P N ops Q S r (fuel+1) listed σ w:=by
 unfold db at*;have E:fH .any ops listed= [i]:=by simpa [kS] using hr
 refine ⟨fun h0=>absurd (E ▸ h0) (by simp),fun k A=> ?_⟩;rw [E] at A;obtain rfl :k=i:=by simpa using A
 unfold wpOp;simp only [hi];rw [if_pos (gW _ I _)];exact .inl<|BC h (fun σ w A=>⟨fun _=>A.1,A.2⟩) hp
end
abbrev nP (P:av) (fn:jz) (R:ah→ai→Prop):bM→Act→ai→Prop :=bodyPostD P fn (fun e w'=> ∃ v,e= .returned v∧R v w')
theorem L1 {P:av} {f:e9} {N:Nat} {fn:jz} {c:cm} {args:List ah} {w:ai} {R:ah→ai→Prop} (F:List Nat) (C:P.funcs[f]? =some fn) (hb:fn.body=some c)
 (A:fn.ntmps=N) (hn:bL args.length N=true) (h:iW P ⟨N,[],F,none⟩ c (nP P fn R) (eF args) w):aZ P f args.toArray w R:=by
 subst A;refine calls_of_wp_defers C hb ?_;rw [pV fn args F hn];exact wpIn_wide.1 h
section
variable {P:av} {n:Nat} {D:List Deferred} {F:List Nat} {σ:Nat→ah} {w:ai} {fn:jz} {R:ah→ai→Prop} {B:bM→Act→ai→Prop}
theorem Ml {v:ah} (hr:(results fn (act ⟨n,[],F,none⟩ σ).tmps).run P w= .ok v w) (A:R v w):qb ⟨n,[],F,none⟩ (nP P fn R) .ret σ w:=⟨v,hr,v,rfl,A⟩
theorem NA:¬LetsOut (nP P fn R):=fun ⟨_,_,h⟩=>by obtain ⟨v,h,_⟩:=h; cases h
theorem m9 {id d:Nat} {f:e9} (O:¬LetsOut B) {cs:Array bu} {I J:au} {p1 p2:String} {C E:Array cI} {y:cm} (A:Array ah) (Z:cs.toList.map (ev ⟨n,[],F,none⟩ σ)=A.toList) (ab:d < n)
 (h:iW P ⟨n,[{target:= .fn (.func f) A,args:= #[]}],F,none⟩ y B (bI σ d<|.func (.func f) #[] A) w):
 iW P ⟨n,[],F,none⟩ (.region id #[⟨some d,.makeFunc (.func f) #[] cs,I,p1,C,none⟩,⟨none,.defer ⟨.value (.tmp d),#[],#[]⟩,J,p2,E,none⟩] false) (Exit.then (y.wpIn (fe none) 0 P B) B) σ w:=by
 have aa:cs.map (ev ⟨n,[],F,none⟩ σ)=A:=sF.1<|by rw [jx]; exact Z
 refine wpIn_region ?_;have V:¬LetsOut (Exit.then (y.wpIn (fe none) 0 P B) B):=fun ⟨a,w,h⟩=>O ⟨a,w,h⟩;refine zW (r:=none) V U _ _ _ ?_;show wpOps P _ _ [0,1] _ _;simp only [wpOps,nJ,jB,jA];rw [if_pos (gW _ rfl _)];refine .inl ?_;unfold iD;have L:(execOp (act ⟨n,[],F,none⟩ σ).eval ⟨some d,.makeFunc (.func f) #[] cs,I,p1,C,none⟩).run P w= .ok (.value<|.func (.func f) #[] A) w:=by
  rw [ek,mf,aa]; simp
 rw [L];simp only [j3];rw [if_pos (gW _ rfl _),gk];refine .inl ?_;have M:(execOp (act ⟨n,[],F,none⟩<|dq σ (some d)<|.func (.func f) #[] A).eval ⟨none,.defer ⟨.value (.tmp d),#[],#[]⟩,J,p2,E,none⟩).run P w= .ok (.defer {target:= .fn (.func f) A,args:= #[]}) w:=by
  have ac:ev ⟨n,[],F,none⟩ (bI σ d<|.func (.func f) #[] A) (.tmp d)= .func (.func f) #[] A:=by
   show cond (Nat.blt d n) (bI σ d _ d) undef=_;rw [show Nat.blt d n=true from by simpa using ab];show bI σ d _ d=_;unfold bI; simp
  rw [ek];show (execOp (ev ⟨n,[],F,none⟩<|bI σ d<|.func (.func f) #[] A) _).run P w=_;simp [execOp,resolve,ac,mK]
 rw [M];exact h
end
theorem OC {P:av} {ops:Array aO} {Q:bM→Act→List Frame→ai→Prop} {cs:List Frame} (A:¬LetsOut fun e a w=>Q e a cs w):∀ (l:List Nat) (a:Act) (w:ai),wpOps P ops (fun e a w=>Q e a cs w) l a w→wpOpsS P ops Q l a cs w:=by
 intro l
 induction l with
 | nil=>exact fun _ _ h=>h
 | cons i l ih=>
   intro a w h;simp only [wpOps] at h;simp only [wpOpsS];cases ho:ops[i]? with
   | none=>simp only [ho] at h ⊢; exact ih a w h
   | some o=>
     simp only [ho] at h ⊢;by_cases hw:Region.wanted o (yielded ops a.tmps)=true
     · rw [if_pos hw] at h ⊢;rcases h with h | h
       · unfold iD at h;generalize (execOp a.eval o).run P w=x at h;cases x with
         | ok n w'=>
           cases n <;> simp only [j3] at h ⊢ <;>
            first
             | exact ih _ _ h
             | exact jy h fun e w'' he=>by cases e <;> first | exact ih _ _ he | exact he
             | exact BT h fun v w'' he=>ih _ _ he
         | halt x w'=>cases x <;> simp only [j3] at h ⊢ <;> exact h
       · exact absurd h.2 A
     · rw [if_neg hw] at h ⊢;exact ih _ _ h
theorem ND {P:av} {ops:Array aO} {Q C:bM→Act→ai→Prop} (A:∀ e a w,Q e a w→C e a w) (E:¬LetsOut Q):∀ (l:List aO) (a:Act) (w:ai),wpList P ops Q l a w→wpList P ops C l a w:=by
 intro l
 induction l with
 | nil=>exact fun _ _ h=>A _ _ _ h
 | cons o l ih=>
   intro a w h;unfold wpList at h ⊢;split at h
   · rename_i hw;rw [if_pos hw];rcases h with h | h
     · left;unfold iD at h ⊢;generalize (execOp a.eval o).run P w=x at h;cases x with
       | ok n w'=>
         cases n <;> simp only [j3] at h ⊢ <;>
          first
           | exact ih _ _ h
           | exact jy h (fun e w'' he=>by
            cases e with
            | returned v=>exact ih _ _ he
            | panicked c=>exact A _ _ _ he
            | outgrown=>exact absurd he E)
           | exact BT h fun v w'' he=>ih _ _ he
       | halt x w'=>cases x <;> simp only [j3] at h ⊢ <;> exact A _ _ _ h
     · exact absurd h.2 E
   · rename_i hw;rw [if_neg hw]; exact ih _ _ h
theorem CQ {P:av} {f:e9} {fn:jz} {id N d:Nat} {ty:au} {pos :String} {af:Array cI} {rest:List aO} {y:cm} {args:List ah} {w:ai} {u I:FrameMode} {v:ah} {R:ai→Prop}
 (ag:P.funcs[f]? =some fn) (hb:fn.body=some (.seq (.region id (⟨some d,.call ⟨.builtin .recover,#[],#[]⟩,ty,pos,af,none⟩::rest).toArray false) y)) (ad:fn.ntmps=N) (hn:bL args.length N=true)
 (aj:∀ (C:Frame) (cs:List Frame),C.mode=u→(recoverD (C::cs)=some (v,{C with mode:=I} ::cs))∨(recoverD (C::cs)=none∧v= .nilIface∧I=u))
 (h:cH P ⟨N,[],[],none⟩ (⟨some d,.call ⟨.builtin .recover,#[],#[]⟩,ty,pos,af,none⟩::rest).toArray (iU (fun σ w=>bU P ⟨N,[],[],none⟩ y (fin P fn ⟨N,[],[],none⟩ fun _ w=>R w) σ w)<|fin P fn ⟨N,[],[],none⟩ fun _ w=>R w) rest (bI (eF args) d v) w):
 CallsD P f args.toArray u w fun e J w'=> ∃ v,e= .returned v∧J=I∧R w':=by
 subst ad;refine callsD_of_wpS ag hb ?_;intro C cs hu;rw [pV fn args [] hn];refine wpS_seq<|wpS_region ?_;have ak:List.range (⟨some d,.call ⟨.builtin .recover,#[],#[]⟩,ty,pos,af,none⟩::rest).toArray.size=0::(List.range' 1 rest.length):=by
  rw [fS,cg,List.range_eq_range',List.range'_succ]
 rw [ak];simp only [wpOpsS,nJ,jB];rw [if_pos (gW _ rfl _)];have al:(execOp (act ⟨fn.ntmps,[],[],none⟩<|eF args).eval ⟨some d,.call ⟨.builtin .recover,#[],#[]⟩,ty,pos,af,none⟩).run P w= .ok .recover w:=by
  rw [ek];simp [execOp,resolve,invoke,builtin]
 rw [al];simp only;obtain ⟨L,O⟩:∃ L,L=({C with mode:=I} ::cs:List Frame):=⟨_,rfl⟩
 have ae:∀ X:Act→List Frame→Prop,X ((act ⟨fn.ntmps,[],[],none⟩<|eF args).put (some d) v) L→
  (match recoverD (C::cs) with
   | some (v,U)=>X ((act ⟨fn.ntmps,[],[],none⟩<|eF args).put (some d) v) U
   | none=>X ((act ⟨fn.ntmps,[],[],none⟩<|eF args).put (some d) .nilIface) (C::cs)):=by
  intro X Z;rcases aj C cs hu with M | ⟨M,ab,ac⟩;rw [M]; subst O; exact Z;rw [M]; subst ab ac;have :({C with mode:=I} :Frame)=C:=by subst hu; rfl
  rw [this] at O; subst O; exact Z
 refine ae (fun a U=>wpOpsS P _ _ _ a U w) ?_;rw [gk];refine OC ?_ _ _ _ ?_;rintro ⟨a,w,h⟩;simp only [Exit.thenS,bodyPostS] at h;obtain ⟨_,_,h,_⟩:=h; cases h;have M:=wpOps_eq_wpList (P:=P) (ops:=(⟨some d,.call ⟨.builtin .recover,#[],#[]⟩,ty,pos,af,none⟩::rest).toArray) (Q:=fun e a w'=>Exit.thenS (Code.wpS P y (bodyPostS P fn C cs fun e J w'=> ∃ v,e= .returned v∧J=I∧R w')) (bodyPostS P fn C cs fun e J w'=> ∃ v,e= .returned v∧J=I∧R w') e a L w') rest 1 fun j=>by simp [Nat.add_comm]
 rw [M];unfold cH at h;refine ND ?_ Ac _ _ _ h;intro e a w' E;have aa:∀ (e:bM) (σ:Nat→ah) (w':ai),fin P fn ⟨fn.ntmps,[],[],none⟩ (fun _ w=>R w) e σ w'→bodyPostS P fn C cs (fun e J w'=> ∃ v,e= .returned v∧J=I∧R w') e (act ⟨fn.ntmps,[],[],none⟩ σ) L w':=by
  intro e σ w' A;cases e with
  | normal=>obtain ⟨v,hr,V⟩:=A; exact ⟨rfl,I,O,v,hr,v,rfl,rfl,V⟩
  | ret=>obtain ⟨v,hr,V⟩:=A; exact ⟨rfl,I,O,v,hr,v,rfl,rfl,V⟩
  | _=>exact A.elim
 cases e with
 | normal=>
   obtain ⟨σ,rfl,A⟩:=E;refine wpS_of_wp ?_;simp only [iU] at A;unfold bU at A;refine Ix ?_<|wpIn_wide.1 A;intro e a w' E;cases e with
   | panic c=>obtain ⟨σ,rfl,A⟩:=E; exact (A σ fun _ _=>rfl).elim
   | outgrown=>exact E.elim
   | _=>obtain ⟨σ,rfl,A⟩:=E; exact aa _ σ w' A
 | panic c=>obtain ⟨σ,rfl,A⟩:=E; exact (A σ fun _ _=>rfl).elim
 | outgrown=>exact E.elim
 | ret=>obtain ⟨σ,rfl,A⟩:=E; exact aa .ret σ w' A
 | exit i=>obtain ⟨σ,rfl,A⟩:=E; exact A.elim
 | goto i=>obtain ⟨σ,rfl,A⟩:=E; exact A.elim
section
variable {P:av} {n:Nat} {F:List Nat} {σ:Nat→ah} {w:ai} {fn:jz} {R:ah→ai→Prop}
theorem Mn {g:e9} {A:Array ah} {M:ai→Prop} (hu:(invoke (.fn (.func g) A) #[]).run P w= .ok (.enter g A) w)
 (J:CallsD P g A .returning w fun e L w'=> ∃ v,e= .returned v∧L= .returning∧M w') (I:∀ w',M w'→∃ v,(results fn (act ⟨n,[{target:= .fn (.func g) A,args:= #[]}],F,none⟩ σ).tmps).run P w'= .ok v w'∧R v w'):
 qb ⟨n,[{target:= .fn (.func g) A,args:= #[]}],F,none⟩ (nP P fn R) .ret σ w:=by
 refine leaves_cons (by simp) hu ?_;refine Iv J ?_;rintro e O w' ⟨v,rfl,rfl,hm⟩;obtain ⟨v2,C,E⟩:=I w' hm;exact ⟨v2,C,v2,U,E⟩
theorem Mo {g:e9} {A:Array ah} {M:ai→Prop} {v:ah} (hu:(invoke (.fn (.func g) A) #[]).run P w= .ok (.enter g A) w)
 (J:CallsD P g A (.panicking [{v:=v,recovered:=false}]) w fun e L w'=> ∃ x,e= .returned x∧L= .panicking [{v:=v,recovered:=true}]∧M w') (I:∀ w',M w'→∃ v,(results fn (act ⟨n,[{target:= .fn (.func g) A,args:= #[]}],F,none⟩ σ).tmps).run P w'= .ok v w'∧R v w'):
 qb ⟨n,[{target:= .fn (.func g) A,args:= #[]}],F,none⟩ (nP P fn R) (.panic [{v:=v,recovered:=false}]) σ w:=by
 refine leaves_cons (by simp) hu ?_;refine Iv J ?_;rintro e O w' ⟨x,rfl,rfl,hm⟩;obtain ⟨v2,C,E⟩:=I w' hm;exact ⟨v2,C,v2,U,E⟩
end
end Go.Hb
end
section
namespace Go.Hb
section
variable {B B':Nat} {fp fp' fp'':Nat→Prop} {w w' w'':ai}
end
section
variable {F fp:Nat→Prop} {W W':ai} {B:Nat}
end
section
variable {P:av} {N:Fm} {ops:Array aO} {Q:bM→(Nat→ah)→ai→Prop} {rest:List aO} {σ:Nat→ah} {w:ai} {d':Option Nat} {d:Nat} {op:Op} {ty:au} {pos :String} {af:Array cI} {v:ah}
end
section
variable {P:av} {n:Nat} {F:List Nat} {σ:Nat→ah} {w:ai} {fn:jz} {R:ah→ai→Prop}
end
def zz (P:av) (s f:Nat):Option Nat:=
 match P.underlying s with
 | some (.struct A)=>match A[f]? with
   | some fd=>if dA P fd.type=some none then some fd.offset else none
   | none=>none
 | _=>none
theorem Gx {P:av} {t:Nat} (hu:dA P t=some none) (w:ai):(isAgg t).run P w= .ok false w:=by
 unfold dA at hu;cases hd:P.underlying t with
 | none=>rw [hd] at hu; cases hu
 | some d=>
   rw [hd] at hu;cases d <;> first
    | (simp only [il] at hu; obtain ⟨_,_,h⟩:=hu; cases h; done)
    | simp [isAgg,bS hd]
theorem Mm {P:av} {N:Fm} {σ:Nat→ah} {w:ai} {dst:Option Nat} {ty:au} {pos :String} {af:Array cI} {g:Option (Nat×Bool)} {x:bu} {s f n:Nat} {cs:Array ah} {v:ah} (A:zz P s f=some n) (I:ev N σ x= .agg cs) (E:cs[n]? =some v):
 (execOp (ev N σ) ⟨dst,.field s x f,ty,pos,af,g⟩).run P w= .ok (.value v) w:=by
 unfold zz at A;split at A
 · rename_i J hu;split at A
   · rename_i fd C;split at A
     · rename_i ha;cases A;simp [execOp,IF,bS hu,C,I,asAgg,part,Gx ha,E]
     · cases A
   · cases A
 · cases A
section
variable {P:av} {ops:Array aO} {Q:bM→Act→ai→Prop} {S:ai→Prop} {md:qt}
def H0 (P:av) (md:qt) (ops:Array aO) (Q:bM→Act→ai→Prop) (S:ai→Prop):Nat→Array Bool→Act→ai→Prop
 | 0,listed,a,w=>fH md ops listed= []∧Q .normal a w
 | fuel+1,listed,a,w=>
   (fH md ops listed= []→Q .normal a w)∧
   ∀ i∈fH md ops listed,wpOpIn ga 0 P ops Q i (fun a' w'=>S w'∧H0 P md ops Q S fuel (listed.setIfInBounds i true) a' w') a w
end
def Ry (P:av) (N:Fm) (ops:Array aO) (Q:bM→(Nat→ah)→ai→Prop) (S:ai→Prop) (fuel:Nat) (listed:Array Bool) (σ:Nat→ah) (w:ai):Prop :=
 H0 P .any ops (lift N Q) S fuel listed (act N σ) w
section
variable {P:av} {N:Fm} {ops:Array aO} {Q:bM→(Nat→ah)→ai→Prop} {σ:Nat→ah} {w:ai} {d':Option Nat} {d:Nat} {op:Op} {ty:au} {pos :String} {af:Array cI} {v:ah}
variable {S:ai→Prop} {fuel:Nat} {listed:Array Bool}
end
attribute [irreducible] Ry
end Go.Hb
end
section
namespace Go.Hb
section
variable {P:av} {N:Fm} {σ:Nat→ah} {w:ai} {dst:Option Nat} {ty:au} {pos :String} {af:Array cI} {g:Option (Nat×Bool)} {x:bu}
theorem J7 {t n C b:Nat} (he:mW P t=some (n,C)) (A:ev N σ x= .pointer (some ⟨b,0,none⟩)):
 (execOp (ev N σ) ⟨dst,.slice t x none none none,ty,pos,af,g⟩).run P w= .ok (.value<|.slice (some ⟨b,0,none⟩) n n) w:=by
 unfold mW at he;cases hd:P.underlying t with
 | none=>rw [hd] at he; cases he
 | some d=>
   rw [hd] at he;cases d <;> first | (cases he; done) | skip
   rename_i m e;cases hi:P.info? e with
   | none=>simp [hi] at he
   | some j=>
     simp only [hi,fg,bR,kF] at he;obtain ⟨rfl,rfl⟩:=he;simp [execOp,qk,oN,mM,A,bS hd,sizeOf,eh hi,fw]
def zA (P:av) (t f:Nat):Option (Nat×Nat):=
 match P.underlying t with
 | some (.struct A)=>(A[f]?).map fun d=>(d.type,d.offset)
 | _=>none
theorem Mw {t f A off n:Nat} {cs vs:List ah} (h:zA P t f=some (A,off)) (ha:dA P A=some (some n)) (I:ev N σ x= .agg cs.toArray) (E:(cs.drop off).take n=vs):
 (execOp (ev N σ) ⟨dst,.field t x f,ty,pos,af,g⟩).run P w= .ok (.value<|.agg vs.toArray) w:=by
 subst E;unfold zA at h;cases hd:P.underlying t with
 | none=>rw [hd] at h; cases h
 | some d=>
   rw [hd] at h;cases d <;> first | (cases h; done) | skip
   rename_i J;simp only [il] at h;obtain ⟨fd,C,he⟩:=h;cases he;unfold dA at ha;cases hd2:P.underlying fd.type with
   | none=>rw [hd2] at ha; cases ha
   | some d2=>
     rw [hd2] at ha;cases hi:P.info? fd.type with
     | none=>simp [IP,hi] at hd2
     | some i=>
       rw [hi] at ha;have L:cs.toArray.extract fd.offset (fd.offset+n)=((cs.drop fd.offset).take n).toArray:=by simp
       cases d2 <;> first
        | (cases ha; done)
        | (simp only [fg,bR] at ha; subst ha
           simp [execOp,IF,bS hd,C,I,asAgg,part,isAgg,bS hd2,sizeOf,eh hi])
end
end Go.Hb
end
section
namespace Go.Hb
theorem M2 (c:UInt8):∀ l:List UInt8,IK l c=fA c l:=by
 intro l
 induction l with
 | nil=>rfl
 | cons b l ih=>
   unfold IK;rw [ih];rw [show fA c (b::l)=if (b::l).idxOf c < (b::l).length then ((b::l).idxOf c:Int) else -1 from rfl,List.idxOf_cons];by_cases h:(b==c)=true
   · rw [if_pos h,h]; rfl
   · have E:(b==c)=false :=by simpa using h
     rw [if_neg h,E];simp only [cond_false,cg];by_cases C:l.idxOf c < l.length
     · have A:fA c l=l.idxOf c:=if_pos C;rw [A,if_neg (fun hb=>by have :=eq_of_beq hb; omega),if_pos ag]; rfl
     · have A:fA c l= -1:=if_neg C;rw [A,if_pos aJ,if_neg ag]
theorem Ps {P:av} {f:e9} {fn:jz} (C:P.funcs[f]? =some fn) (E:(fn.name== "runtime.NumGoroutine")=false) (hb:fn.body.isNone=true) (hn:Extern.findNext fn=none)
 (he:Extern.find fn=some RY) (l:List UInt8) (c:UInt8) (w:ai):(callFunc f #[str l,.int .u8 c.toNat]).run P w= .ok (.value<|.int .i64<|fA c l) w:=by
 rw [run_callFunc_extern C E hb hn he];unfold str;rw [Lib.run_indexByteString];have A:((c.toNat:Int)).toNat.toUInt8=c:=UInt8.toNat_inj.1<|by simp
 rw [A,M2];rfl
section
variable {P:av} {N:Fm} {σ:Nat→ah} {w:ai} {dst:Option Nat} {ty:au} {pos :String} {af:Array cI} {g:Option (Nat×Bool)}
theorem K2 {f:e9} {a b v:ah} {args:Array bu} {A:Array au} (h:(callFunc f #[a,b]).run P w= .ok (.value v) w) (C:args.toList.map (ev N σ)= [a,b]):
 (execOp (ev N σ) ⟨dst,.call ⟨.value (.func f),args,A⟩,ty,pos,af,g⟩).run P w= .ok (.value v) w:=by
 have :args.map (ev N σ)= #[a,b]:=by rw [← sF,jx,C]
 simp [execOp,resolve,ev,mK,invoke,this,h]
end
end Go.Hb
end
