/-
  Walks and plain laws that the law rests on, laid together. No conditions but those that each theorem names.
-/
import Derived.Test.YtfgapieofinadaaGreatDoorMnOwnSaved1
set_option linter.unusedVariables false
open Array renaming ext_getElem?→tR,foldl_toList→tS,getElem?_eq_some_iff→bJ,getElem?_modify→tU,getElem?_setIfInBounds_ne→ly,getElem?_setIfInBounds_self_of_lt→ml,toList_filter→pk,toList_inj→pn,toList_map→gN,toList_modify→qT,toList_push→tX,toList_zip→Dm
open Bool renaming eq_iff_iff→mm
open Go.Builtin renaming delete_→pq
open Go.Calls renaming mono→gO
open Go.CallsD renaming mono→Du
open Go renaming Code→bz,Edge→bM,Exit→ba,Func→gP,FuncId→dH,Oper→ar,Operand→aO,Program→an,TypeId→ak,Value→ag,World→ah
open Go.Code renaming wp_mono→Dw
open Go.Deferred renaming ofValue→kD
open Go.Extern.BytealgIndexByte renaming indexByte→NK
open Go.Fence renaming wide→eA
open Go.Instr renaming beginRound→DD,checkKey→kE,field→DE,findKey→nJ,findNow→nK,keyThatStays→qW,mapUpdate→pv,sameBits→DI,sameNow→yj,sliceAt→nL,sliceBounds→kF,typeAssert→DK
open Go.Lib renaming indexByte→DL
open Go.Oper renaming semAt_eq→q4,upon→iy,uponIn→pB,wp→gp
open Go.Program renaming underlying→DQ
open Go.Region renaming Mode→nP,ready→dV
open Go.Rows renaming mono→yq
open Go.Sem renaming run→jY
open Go.Value renaming ownBlock→cR
open Go.Value.slice renaming injEq→kI
open Go.World renaming alloc_heap_new→ug,putObj_heap_other→jZ,putObj_heap_same→nS,setCell→uh,size_alloc→ui
open List.Nodup renaming sublist→DY
open List.Sublist renaming map→yt
open List renaming append_assoc→gQ,append_nil→j0,cons_append→D5,eraseIdx_sublist→D7,filter_cons→q8,filter_eq_self→D8,foldl_cons→q9,getD_cons_zero→mr,getD_eq_getElem?_getD→cn,getElem?_cons_succ→gR,getElem?_cons_zero→fS,getElem?_eq_some_iff→cB,getElem?_inj→yw,getElem?_map→eJ,getElem?_of_mem→yx,getElem?_toArray→lD,length_append→bB,length_cons→bA,length_map→lF,length_nil→fk,length_replicate→yy,length_singleton→fE,length_take→bW,map_append→j1,map_cons→dq,map_map→ur,mem_append→fl,mem_cons→dr,mem_cons_of_mem→iY,mem_cons_self→iB,mem_eraseIdx_iff_getElem?→Ek,mem_map→gu,mem_map_of_mem→nV,mem_of_getElem?→jy,mem_of_mem_eraseIdx→yA,mem_singleton→gU,nil_append→lG,nodup_append→Eo,nodup_cons→pD,nodup_nil→uw,not_mem_nil→rh,perm_ext_iff_of_nodup→Er,replicate→eB,size_toArray→ej,take_append→Ew,take_of_length_le→rj
open Nat renaming ble→aZ,le_refl→aT,lt_or_ge→dW,min_eq_left→uy,sub_self→uC
open Option renaming map_eq_some_iff→fU,map_some→dJ
open Option.some renaming inj→eX,injEq→bp
open Prod renaming fst→cg
open Go.Proofs.Tryz
open Go.RowKit Classical
section
set_option linter.unusedSimpArgs false
namespace Go.Hb
structure j3 (P:an) (k:ak) (aD:ag→Prop):Prop where
 key:nZ P k aD
 stays:∀ w v,aD v→(qW v v).run P w= .ok v w
def cT (v:ag):Prop := ∃ s:List UInt8,v=str s
def AB (q:IntKind) (v:ag):Prop := ∃ a:Int,v= .int q a
theorem Ah {d:TypeDesc} {aD:ag→Prop} (O:∀ x y,aD x→aD y→∃ A,yj d x y=some A∧(A=true↔x=y)) {x:ag} (U:aD x):∀ (es:List MapEntry) (i:Nat),(∀ e∈es,aD e.key)→
 (nK d x es i=some none∧∀ e∈es,e.key≠x)∨∃ j e,nK d x es i=some (some (i+j,e.val))∧es[j]? =some e∧e.key=x
 | [],i,_=> .inl ⟨rfl,fun _ h=>by simp at h⟩
 | e::es,i,h=>by
   obtain ⟨A,E,M⟩:=O x e.key U<|h e<|by simp
   cases A with
   | true =>exact .inr ⟨0,e,by simp [nK,E],rfl,(M.1 rfl).symm⟩
   | false =>
     have aa:e.key≠x:=fun Z=>by cases M.2 Z.symm
     rcases Ah O U es (i+1) (fun e he=>h e<|by simp [he]) with ⟨I,J⟩ | ⟨j,C,I,J,V⟩
     · refine .inl ⟨by simp [nK,E,I],fun C L=> ?_⟩;rcases dr.1 L with rfl | L
       · exact aa
       · exact J C L
     · refine .inr ⟨j+1,C,?_,J,V⟩;simp only [nK,E,I]; rw [show i+1 +j=i+(j+1) from by omega]
theorem AK {P:an} {k:ak} {d:TypeDesc} {aD:ag→Prop} (I:P.underlying k=some d) (M:∀ x y,aD x→aD y→∃ E,yj d x y=some E∧(E=true↔x=y)) (L:∀ em w v,aD v→(kE em 10000 k v).run P w= .ok () w):nZ P k aD where
 check:=L
 find w x es hx hes:=by
  rcases Ah M hx es 0 hes with ⟨A,C⟩ | ⟨j,e,A,C,J⟩
  · exact .inl ⟨by simp [nJ,bh I,A],C⟩
  · exact .inr ⟨j,e,by simp [nJ,bh I,A],C,J⟩
theorem y6 (a b:ByteArray):(a==b)=decide (a=b):=by
 rw [mm,decide_eq_true_iff];show ((a.data==b.data)=true)↔_;rw [beq_iff_eq];exact ⟨fun h=>by cases a; cases b; cases h; rfl,fun h=>by rw [h]⟩
theorem vS {P:an} {k:ak} (A:P.underlying k=some .string):j3 P k cT where
 key:=AK A (by
  rintro _ _ ⟨a,rfl⟩ ⟨b,rfl⟩;refine ⟨_,U,?_⟩;rw [y6,decide_eq_true_iff];constructor
  · intro h; unfold str; rw [h]
  · intro h; unfold str at h; cases h; rfl) (by rintro em w _ ⟨a,rfl⟩; exact zl (n:=9999) A w)
 stays w v hv:=by obtain ⟨a,rfl⟩:=hv; simp [qW,DI,str,y6]
theorem FX {P:an} {k:ak} {q r:IntKind} {em:Bool} {n:Nat} {a:Int} (A:P.underlying k=some (.int q)) (w:ah):(kE em (n+1) k<|.int r a).run P w= .ok () w:=by
 simp only [kE,Sem.run_bind,bh A,Result.andThen_ok,Sem.run_pure]
theorem AJ {P:an} {k:ak} {q r:IntKind} (A:P.underlying k=some (.int q)):j3 P k (AB r) where
 key:=AK A (by
  rintro _ _ ⟨a,rfl⟩ ⟨b,rfl⟩;refine ⟨decide (a=b),by simp [yj]; rfl,?_⟩;rw [decide_eq_true_iff];exact ⟨fun h=>by rw [h],fun h=>by cases h; rfl⟩) (by rintro em w _ ⟨a,rfl⟩; exact FX (n:=9999) A w)
 stays w v hv:=by obtain ⟨a,rfl⟩:=hv; simp [qW,DI]
def gY (h:Array Obj) (b:Nat) (aD:ag→Prop) (f:ag→Option ag):Prop :=
 ∃ kvs,j4 h b kvs∧(∀ p∈kvs,aD p.1)∧(kvs.map cg).Nodup∧∀ k v,f k=some v↔(k,v)∈kvs
theorem gY.md {F:Nat→Prop} {w w':ah} {b:Nat} {aD:ag→Prop} {f:ag→Option ag} (h:gY w.heap b aD f) (hm:Md F w w') (A:¬F b):gY w'.heap b aD f:=
 let ⟨kvs,h1,h2⟩:=h; ⟨kvs,h1.md hm A,h2⟩
theorem gY.lt {h:Array Obj} {b:Nat} {aD:ag→Prop} {f:ag→Option ag} (hm:gY h b aD f):b < h.size:=let ⟨_,h1,_⟩:=hm; h1.lt
theorem gY.isMap {h:Array Obj} {b:Nat} {aD:ag→Prop} {f:ag→Option ag} (hm:gY h b aD f):∃ es c,h[b]? =some (.map es c):=let ⟨_,⟨es,c,h1,_⟩,_⟩:=hm; ⟨es,c,h1⟩
theorem gY.eE {h:Array Obj} {b:Nat} {aD:ag→Prop} {f:ag→Option ag} (hm:gY h b aD f) {cur:Array ag} {e:ak} {z:Nat×Nat} :h[b]?≠some (.cells cur e z):=by
 obtain ⟨es,c,A⟩:=hm.isMap; rw [A]; intro h; cases h
noncomputable def gH (f:ag→Option ag) (k v:ag):ag→Option ag:=fun q=>if q=k then some v else f q
section
variable {P:an} {N:Fm} {σ:Nat→ag} {w:ah} {dst:Option Nat} {ty:ak} {pos :String} {af:Array bM} {g:Option (Nat×Bool)} {x y z:aO} {K:(Nat→ag)→ah→Prop}
variable {t k e:ak} {aD:ag→Prop} {b:Nat} {f:ag→Option ag} {kx v zv:ag}
theorem A1 {ok:Bool} (L:P.underlying t=some (.map k e)) (V:zeroV P e=some zv) (C:j3 P k aD) (hm:gY w.heap b aD f) (M:ev N σ x= .map (some b)) (O:ev N σ y=kx) (hi:aD kx):
 (execOp (ev N σ) ⟨dst,.lookup t x y ok,ty,pos,af,g⟩).run P w= .ok (.value (if ok then .tuple #[(f kx).getD zv,.bool (f kx).isSome] else (f kx).getD zv)) w:=by
 obtain ⟨kvs,E,I,U,J⟩:=hm;cases hf:f kx with
 | none=>exact A0 L V C.key E I M O hi fun v A=>by rw [← J] at A; rw [hf] at A; cases A
 | some v=>exact AZ L C.key E I M O hi U<|(J kx v).1 hf
theorem qg (C:P.underlying t=some (.map k e)) (L:zeroV P e=some zv) (A:j3 P k aD) (hm:gY w.heap b aD f) (I:ev N σ x= .map (some b)) (J:ev N σ y=kx) (hi:aD kx) (E:(f kx).getD zv=v):
 (execOp (ev N σ) ⟨dst,.lookup t x y false,ty,pos,af,g⟩).run P w= .ok (.value v) w:=by
 rw [A1 C L A hm I J hi,E]; rfl
theorem Js {ob:Bool} (E:P.underlying t=some (.map k e)) (M:zeroV P e=some zv) (A:j3 P k aD) (hm:gY w.heap b aD f) (J:ev N σ x= .map (some b)) (L:ev N σ y=kx) (hi:aD kx) (I:(f kx).getD zv=v) (C:(f kx).isSome=ob):
 (execOp (ev N σ) ⟨dst,.lookup t x y true,ty,pos,af,g⟩).run P w= .ok (.value<|.tuple #[v,.bool ob]) w:=by
 rw [A1 E M A hm J L hi,I,C]; rfl
end
end Go.Hb
end
section
namespace Go.Hb
open Go.ChangeMaps
structure gX (es:List MapEntry) (c:Nat):Prop where
 lt:∀ e∈es,e.born < c
 nd:(es.map (·.born)).Nodup
structure gw (es:List MapEntry) (aD:ag→Prop) (f:ag→Option ag):Prop where
 ks:∀ e∈es,aD e.key
 nd:(es.map (·.key)).Nodup
 iff :∀ k v,f k=some v↔∃ e∈es,e.key=k∧e.val=v
def bN (h:Array Obj) (b:Nat) (aD:ag→Prop) (f:ag→Option ag):Prop := ∃ es c,h[b]? =some (.map es c)∧gX es.toList c∧gw es.toList aD f
theorem bN.ma {h:Array Obj} {b:Nat} {aD:ag→Prop} {f:ag→Option ag} (hm:bN h b aD f):gY h b aD f:=by
 obtain ⟨es,c,A,_,C⟩:=hm;refine ⟨_,⟨es,c,A,U⟩,fun p hp=> ?_,?_,fun k v=> ?_⟩
 · obtain ⟨e,he,rfl⟩:=gu.1 hp; exact C.ks e he
 · rw [ur]; exact C.nd
 · rw [C.iff,gu];exact ⟨fun ⟨e,he,A,E⟩=>⟨e,he,by rw [A,E]⟩,fun ⟨e,he,A⟩=>⟨e,he,congrArg cg A,congrArg Prod.snd A⟩⟩
theorem bN.md {F:Nat→Prop} {w w':ah} {b:Nat} {aD:ag→Prop} {f:ag→Option ag} (h:bN w.heap b aD f) (hm:Md F w w') (E:¬F b):bN w'.heap b aD f:=by
 obtain ⟨es,c,A,C⟩:=h;exact ⟨es,c,by rw [hm.cP b (bJ.1 A).1 E]; exact A,C⟩
theorem bN.wk {w w':ah} {b:Nat} {aD:ag→Prop} {f:ag→Option ag} (h:bN w.heap b aD f) (hm:Wk w w'):bN w'.heap b aD f:=h.md hm id
theorem bN.lt {h:Array Obj} {b:Nat} {aD:ag→Prop} {f:ag→Option ag} (hm:bN h b aD f):b < h.size:=hm.ma.lt
theorem bN.nil {h:Array Obj} {b:Nat} {aD:ag→Prop} {c:Nat} (hm:h[b]? =some (.map #[] c)):bN h b aD fun _=>none:=
 ⟨#[],c,hm,⟨fun _ h=>by simp at h,by simp⟩,fun _ h=>by simp at h,by simp,fun k v=>by simp⟩
theorem bN.eE {h:Array Obj} {b:Nat} {aD:ag→Prop} {f:ag→Option ag} (hm:bN h b aD f) {cur:Array ag} {e:ak} {z:Nat×Nat} :h[b]?≠some (.cells cur e z):=hm.ma.eE
theorem gw.push {es:List MapEntry} {aD:ag→Prop} {f:ag→Option ag} {kx v:ag} {c:Nat} (h:gw es aD f) (hi:aD kx) (I:∀ e∈es,e.key≠kx):gw (es++ [{key:=kx,val:=v,born:=c}]) aD (gH f kx v) where
 ks e he:=by
  rcases fl.1 he with he | he
  · exact h.ks e he
  · rw [gU.1 he]; exact hi
 nd:=by
  rw [j1,Eo];refine ⟨h.nd,by simp,fun a ha b hb J=> ?_⟩;obtain ⟨e,he,rfl⟩:=gu.1 ha;simp at hb;exact I e he<|by rw [J,hb]
 iff k u:=by
  unfold gH;by_cases E:k=kx
  · subst E;rw [if_pos rfl];constructor
    · intro A; cases A; exact ⟨_,List.mem_append_right _ (gU.2 rfl),rfl,rfl⟩
    · rintro ⟨e,he,A,C⟩;rcases fl.1 he with he | he
      · exact absurd A<|I e he
      · rw [gU.1 he] at C; rw [← C]
  · rw [if_neg E,h.iff];constructor
    · rintro ⟨e,he,A⟩; exact ⟨e,List.mem_append_left _ he,A⟩
    · rintro ⟨e,he,A,C⟩;rcases fl.1 he with he | he
      · exact ⟨e,he,A,C⟩
      · rw [gU.1 he] at A; exact absurd A.symm E
theorem gX.push {es:List MapEntry} {kx v:ag} {c:Nat} (h:gX es c):gX (es++ [{key:=kx,val:=v,born:=c}]) (c+1) where
 lt e he:=by
  rcases fl.1 he with he | he
  · have :=h.lt e he; omega
  · rw [gU.1 he]; exact Nat.lt_succ_self _
 nd:=by
  rw [j1,Eo];refine ⟨h.nd,by simp,fun a ha b hb A=> ?_⟩;obtain ⟨e,he,rfl⟩:=gu.1 ha;simp at hb;have :=h.lt e he; omega
theorem sN {α:Type} (l:List α) (g:α→α) (i j:Nat):(l.modify i g)[j]? =if i=j then (l[j]?).map g else l[j]? :=by grind
theorem oH {α:Type} {l:List α} {g:α→α} {i:Nat} {e:α} (hi:l[i]? =some e) (x:α):x∈l.modify i g↔x=g e∨∃ j,j≠i∧l[j]? =some x:=by
 rw [List.mem_iff_getElem?];constructor
 · rintro ⟨j,A⟩;rw [sN] at A;by_cases h:i=j
   · subst h; rw [if_pos rfl,hi] at A; exact .inl (eX A).symm
   · rw [if_neg h] at A;exact .inr ⟨j,fun e=>h e.symm,A⟩
 · rintro (rfl | ⟨j,A,h⟩)
   · exact ⟨i,by rw [sN,if_pos U,hi]; rfl⟩
   · exact ⟨j,by rw [sN,if_neg (fun e=>A e.symm),h]⟩
theorem Bk {α β:Type} {l:List α} (g:α→α) (p:α→β) (hp:∀ x,p (g x)=p x) (i:Nat):(l.modify i g).map p=l.map p:=by
 apply List.ext_getElem?;intro j;rw [eJ,eJ,sN];cases l[j]? with
 | none=>by_cases h:i=j <;> simp [h]
 | some x=>by_cases h:i=j <;> simp [h,hp]
theorem gw.LF {es:List MapEntry} {aD:ag→Prop} {f:ag→Option ag} {v:ag} {i:Nat} {e:MapEntry} (h:gw es aD f) (hi:es[i]? =some e):gw (es.modify i fun e=> {e with val:=v}) aD (gH f e.key v) where
 ks x E:=by
  rcases (oH hi x).1 E with rfl | ⟨j,_,A⟩
  · exact h.ks e<|jy hi
  · exact h.ks x<|jy A
 nd:=by rw [Bk (fun e:MapEntry=> {e with val:=v}) (·.key) (fun _=>rfl)]; exact h.nd
 iff k u:=by
  have U:∀ {j:Nat} {x:MapEntry},es[j]? =some x→x.key=e.key→j=i:=fun {j x} A I=>by
   have O:=(cB.1 A).1;exact (yw (by simpa using O) h.nd).1<|by rw [eJ,eJ,A,hi,dJ,dJ,I]
  unfold gH;by_cases I:k=e.key
  · subst I;rw [if_pos rfl];constructor
    · intro C; cases C; exact ⟨_,(oH hi _).2 (.inl rfl),rfl,rfl⟩
    · rintro ⟨x,E,C,J⟩;rcases (oH hi x).1 E with rfl | ⟨j,A,M⟩
      · rw [← J]
      · exact absurd (U M C) A
  · rw [if_neg I,h.iff];constructor
    · rintro ⟨x,E,C,J⟩;obtain ⟨j,A⟩:=yx E;have L:j≠i:=fun L=>by subst L; rw [hi] at A; cases A; exact I C.symm
      exact ⟨x,(oH hi x).2 (.inr ⟨j,L,A⟩),C,J⟩
    · rintro ⟨x,E,C,J⟩;rcases (oH hi x).1 E with rfl | ⟨j,_,M⟩
      · exact absurd C.symm I
      · exact ⟨x,jy M,C,J⟩
section
variable {P:an} {N:Fm} {σ:Nat→ag} {w:ah} {dst:Option Nat} {ty:ak} {pos :String} {af:Array bM} {g:Option (Nat×Bool)} {x y z:aO} {K:(Nat→ag)→ah→Prop}
variable {t k e:ak} {aD:ag→Prop} {b:Nat} {f:ag→Option ag} {kx v zv:ag}
end
def fH (h:Array Obj) (r b:Nat) (left :List (ag×ag)):Prop :=
 ∃ (es:Array MapEntry) (c:Nat) (seen:Array Nat) (A:Nat),h[r]? =some (.mapIter (some b) c seen A)∧c≤A∧h[b]? =some (.map es c)∧gX es.toList c∧(leftOf es seen).toList.map (fun e=>(e.key,e.val))=left
def gy (h:Array Obj) (r b:Nat) (left :List (ag×ag)) (A:ag×ag):Prop :=
 ∃ (es:Array MapEntry) (c:Nat) (seen:Array Nat) (e:MapEntry),h[r]? =some (.mapIter (some b) c (seen.push e.born) c)∧h[b]? =some (.map es c)∧gX es.toList c∧(leftOf es<|seen.push e.born).toList.map (fun e=>(e.key,e.val))=left∧e∈es.toList∧(e.key,e.val)=A
theorem gy.oI {h:Array Obj} {r b:Nat} {left :List (ag×ag)} {A:ag×ag} (hm:gy h r b left A):fH h r b left :=by grind [gy,fH]
theorem fH.md {F:Nat→Prop} {w w':ah} {r b:Nat} {left :List (ag×ag)} (h:fH w.heap r b left) (hm:Md F w w') (hr:¬F r) (hb:¬F b):fH w'.heap r b left :=by
 obtain ⟨es,c,seen,E,A,I,C,J⟩:=h;exact ⟨es,c,seen,E,by rw [hm.cP r (bJ.1 A).1 hr]; exact A,I,by rw [hm.cP b (bJ.1 C).1 hb]; exact C,J⟩
theorem gy.md {F:Nat→Prop} {w w':ah} {r b:Nat} {left :List (ag×ag)} {E:ag×ag} (h:gy w.heap r b left E) (hm:Md F w w') (hr:¬F r) (hb:¬F b):gy w'.heap r b left E:=by
 obtain ⟨es,c,seen,e,A,C,I⟩:=h;exact ⟨es,c,seen,e,by rw [hm.cP r (bJ.1 A).1 hr]; exact A,by rw [hm.cP b (bJ.1 C).1 hb]; exact C,I⟩
section
variable {P:an} {N:Fm} {σ:Nat→ag} {w:ah} {dst:Option Nat} {ty:ak} {pos :String} {af:Array bM} {g:Option (Nat×Bool)} {x y z:aO} {K:(Nat→ag)→ah→Prop}
variable {t k e:ak} {aD:ag→Prop} {b:Nat} {f:ag→Option ag} {kx v zv:ag}
theorem tf (M:P.underlying t=some (.map k e)) (hm:bN w.heap b aD f) (O:ev N σ x= .map (some b))
 (U:∀ r w' left,r=w.heap.size→Nw w w'→fH w'.heap r b left→(∀ p∈left,aD p.1)→(left.map cg).Nodup→(∀ k v,f k=some v↔(k,v)∈left)→K (cz σ dst<|.pointer<|some ⟨r,0,none⟩) w'):
 bI P N ⟨dst,.range t x,ty,pos,af,g⟩ σ w K:=by
 obtain ⟨es,c,hr,J,E⟩:=hm;have L:=(bJ.1 hr).1;refine kB (v:=fun r=> .pointer<|some ⟨r,0,none⟩) (ob:= .mapIter (some b) c #[] c) ?_ (fun r w' A C I=>U r w' (es.toList.map fun e=>(e.key,e.val)) A C ⟨es,c,#[],c,I,aT _,by rw [C.md.cP b L id]; exact hr,J,by unfold leftOf; simp only [pk]; rw [D8.2 (fun x _=>by simp)]⟩ ?_ ?_ ?_)
 · simp [execOp,O,Instr.range,bh M,run_getObj_map hr]
 · intro p hp; obtain ⟨e,he,rfl⟩:=gu.1 hp; exact E.ks e he
 · rw [ur]; exact E.nd
 · intro k v;rw [E.iff,gu];exact ⟨fun ⟨e,he,A,C⟩=>⟨e,he,by rw [A,C]⟩,fun ⟨e,he,A⟩=>⟨e,he,congrArg cg A,congrArg Prod.snd A⟩⟩
theorem Jm {es:Array MapEntry} {seen:Array Nat} {e:MapEntry} (hn:(es.toList.map (·.born)).Nodup) (he:e∈(leftOf es seen).toList):(leftOf es seen).toList.Perm (e::(leftOf es<|seen.push e.born).toList):=by
 have C:(leftOf es<|seen.push e.born).toList=(leftOf es seen).toList.filter fun x=>x.born !=e.born:=by
  unfold leftOf;simp only [pk,List.filter_filter];congr 1;funext x;have I:(seen.push e.born).contains x.born=(seen.contains x.born || x.born==e.born):=by
   rw [mm]; simp [Array.mem_push]
  rw [I,Bool.not_or,Bool.and_comm]; rfl
 have A:((leftOf es seen).toList.map (·.born)).Nodup:=by
  unfold leftOf;rw [pk];exact (List.filter_sublist.map _).nodup hn
 rw [C];generalize (leftOf es seen).toList=l at he A;clear C
 induction l with
 | nil=>cases he
 | cons a l ih=>
   rw [dq,pD] at A;by_cases ha:a=e
   · subst ha;have E:(a::l).filter (fun x=>x.born !=a.born)=l:=by
      rw [q8,if_neg (by simp)];exact D8.2 fun x L=>by
       have :x.born≠a.born:=fun h=>A.1<|h ▸ nV L;simpa using this
     rw [E]
   · have lY:e∈l:=by
      rcases dr.1 he with h | h
      · exact absurd h.symm ha
      · exact h
     have J:a.born≠e.born:=fun h=>A.1<|h ▸ nV lY;rw [q8,if_pos (by simpa using J)];exact ((ih lY A.2).cons a).trans<|List.Perm.swap e a _
theorem J7 {r:Nat} {left :List (ag×ag)} (hm:fH w.heap r b left) (M:ev N σ x= .pointer (some ⟨r,0,none⟩))
 (h0:left = []→K (cz σ dst<|.tuple #[.bool false]) w)
 (Z:∀ A left' w',left.Perm (A::left')→Md (fun j=>j=r) w w'→gy w'.heap r b left' A→K (cz σ dst<|.tuple #[.bool true,A.1,A.2]) w'):
 bI P N ⟨dst,.next x false,ty,pos,af,g⟩ σ w K:=by
 obtain ⟨es,c,seen,V,hr,ab,hb,C,rfl⟩:=hm;rcases run_next_at (P:=P) w ty r b c V seen es c hr hb C.lt ab with ⟨aa,I⟩ | ⟨e,he,O,J,I⟩
 · refine iu (v:= .tuple #[.bool false]) ?_<|h0<|by rw [Array.eq_empty_of_size_eq_zero aa]; rfl
   simp [execOp,M,I]
 · have E:O.heap=w.heap:=by rcases J with rfl | rfl <;> rfl
   have L:Md (fun j=>j=r) w (setBlock O r<|.mapIter (some b) c (seen.push e.born) c):=by
    refine ⟨?_,?_,?_,fun j _ ac=> ?_⟩
    · rcases J with rfl | rfl <;> rfl
    · rcases J with rfl | rfl <;> rfl
    · simp [setBlock,E]
    · simp only [setBlock,E]; rw [ly (fun e=>ac e.symm)]
   have ad:r≠b:=fun h=>by subst h; rw [hr] at hb; cases hb
   refine iu (v:= .tuple #[.bool true,e.key,e.val]) ?_ (Z (e.key,e.val) _ _ (by have :=(Jm C.nd he).map (fun e=>(e.key,e.val)); exact this) L ⟨es,c,seen,e,?_,?_,C,U,?_,U⟩)
   · simp [execOp,M,I]
   · simp only [setBlock,E]; rw [ml (bJ.1 hr).1]
   · rw [L.cP b (bJ.1 hb).1 (fun h=>ad h.symm)]; exact hb
   · unfold leftOf at he;rw [pk] at he;exact (List.mem_filter.1 he).1
def Bt (b:Bool) (A:ag×ag):ag:=match b with | true => .tuple #[.bool true,A.1,A.2] | false => .tuple #[.bool false]
theorem sP {A:Bool} {E:ag×ag} (C:ev N σ x=Bt A E):(execOp (ev N σ) ⟨dst,.extract x 0,ty,pos,af,g⟩).run P w= .ok (.value<|.bool A) w:=by
 cases A
 · exact xt C U
 · exact xt C U
theorem sO {r:Nat} {left :List (ag×ag)} (hm:fH w.heap r b left) (M:ev N σ x= .pointer (some ⟨r,0,none⟩))
 (h:∀ C A left' w',(C=false→left = []∧w'=w)→(C=true→left.Perm (A::left')∧Md (fun j=>j=r) w w'∧gy w'.heap r b left' A)→K (cz σ dst<|Bt C A) w'):
 bI P N ⟨dst,.next x false,ty,pos,af,g⟩ σ w K:=
 J7 hm M (fun L=>h false (.nilFunc,.nilFunc) [] w (fun _=>⟨L,rfl⟩) fun h=>by cases h) (fun A left' w' E I J=>h true A left' w' (fun h=>by cases h) fun _=>⟨E,I,J⟩)
theorem rW {r:Nat} {left :List (ag×ag)} {A:ag×ag} (hm:gy w.heap r b left A) (L:ev N σ x= .pointer (some ⟨r,0,none⟩)):
 (execOp (ev N σ) ⟨dst,.entry x,ty,pos,af,g⟩).run P w= .ok (.value<|.tuple #[A.1,A.2]) w:=by
 obtain ⟨es,c,seen,e,C,E,I,_,J,rfl⟩:=hm;have :=run_entry_at (P:=P) w r b c seen es c e C E J I.nd;simp [execOp,L,this]
end
end Go.Hb
end
section
namespace Go.Hb
open Go.ChangeMaps
noncomputable def kS (f:ag→Option ag) (k:ag):ag→Option ag:=fun q=>if q=k then none else f q
theorem G4 {f:ag→Option ag} {k:ag} (h:f k=none):kS f k=f:=by
 funext q; unfold kS;by_cases A:q=k
 · subst A; rw [if_pos rfl,h]
 · rw [if_neg A]
def eM (f:ag→Option ag) (n:Nat):Prop := ∃ l:List ag,l.Nodup∧l.length=n∧∀ k,(∃ v,f k=some v)↔k∈l
theorem eM.uniq {f:ag→Option ag} {n m:Nat} (h:eM f n) (A:eM f m):n=m:=by
 obtain ⟨l,C,rfl,E⟩:=h;obtain ⟨I,g1,rfl,g3⟩:=A;exact ((Er C g1).2 fun k=>by rw [← E,← g3]).length_eq
theorem eM.nil:eM (fun _=>none) 0:=⟨[],uw,rfl,fun k=>by simp⟩
theorem eM.new {f:ag→Option ag} {n:Nat} {k v:ag} (h:eM f n) (I:f k=none):eM (gH f k v) (n+1):=by
 obtain ⟨l,E,rfl,C⟩:=h;have hn:k∉l:=fun hm=>by obtain ⟨u,hu⟩:=(C k).2 hm; rw [I] at hu; cases hu
 refine ⟨k::l,pD.2 ⟨hn,E⟩,U,fun q=> ?_⟩;unfold gH;by_cases A:q=k
 · subst A; simp
 · rw [if_neg A,C,dr]; simp [A]
theorem eM.dR {f:ag→Option ag} {n:Nat} {k v u:ag} (h:eM f n) (I:f k=some u):eM (gH f k v) n:=by
 obtain ⟨l,E,rfl,A⟩:=h;refine ⟨l,E,U,fun q=> ?_⟩;unfold gH;by_cases C:q=k
 · subst C; rw [if_pos rfl]; exact ⟨fun _=>(A q).1 ⟨u,I⟩,fun _=>⟨v,rfl⟩⟩
 · rw [if_neg C,A]
theorem bN.eO {h:Array Obj} {b:Nat} {aD:ag→Prop} {f:ag→Option ag} (hm:bN h b aD f):∃ es c,h[b]? =some (.map es c)∧eM f es.size:=by
 obtain ⟨es,c,E,_,A⟩:=hm;refine ⟨es,c,E,es.toList.map (·.key),A.nd,by simp,fun k=> ?_⟩;rw [gu];exact ⟨fun ⟨v,I⟩=>let ⟨e,he,C,_⟩:=(A.iff k v).1 I; ⟨e,he,C⟩,fun ⟨e,he,C⟩=>⟨e.val,(A.iff k _).2 ⟨e,he,C,U⟩⟩⟩
theorem gw.del {es:List MapEntry} {aD:ag→Prop} {f:ag→Option ag} {i:Nat} {e:MapEntry} (h:gw es aD f) (hi:es[i]? =some e):gw (es.eraseIdx i) aD (kS f e.key) where
 ks x E:=h.ks x<|yA E
 nd:=DY (yt _<|D7 _ _) h.nd
 iff k u:=by
  have U:∀ {j:Nat} {x:MapEntry},es[j]? =some x→x.key=e.key→j=i:=fun {j x} C I=>by
   have O:=(cB.1 C).1;exact (yw (by simpa using O) h.nd).1<|by rw [eJ,eJ,C,hi,dJ,dJ,I]
  unfold kS;by_cases I:k=e.key
  · subst I;rw [if_pos rfl];constructor
    · intro A; cases A
    · rintro ⟨x,E,A,J⟩;obtain ⟨j,C,M⟩:=Ek.1 E;exact absurd (U M A) C
  · rw [if_neg I,h.iff];constructor
    · rintro ⟨x,E,A,J⟩;obtain ⟨j,C⟩:=yx E;have L:j≠i:=fun L=>by subst L; rw [hi] at C; cases C; exact I A.symm
      exact ⟨x,Ek.2 ⟨j,L,C⟩,A,J⟩
    · rintro ⟨x,E,A,J⟩;exact ⟨x,yA E,A,J⟩
theorem gX.del {es:List MapEntry} {c:Nat} (h:gX es c) (i:Nat):gX (es.eraseIdx i) c:=
 ⟨fun e he=>h.lt e (yA he),DY (yt _<|D7 _ _) h.nd⟩
theorem Ad {α:Type} {p:α→Bool} :∀ {l:List α} {i:Nat} {x:α},l[i]? =some x→p x=false→(l.eraseIdx i).filter p=l.filter p
 | a::l,0,x,h,hp=>by
   simp only [fS,bp] at h;subst h;simp [hp]
 | a::l,i+1,x,h,hp=>by
   simp only [gR] at h;simp only [List.eraseIdx_cons_succ,q8,Ad h hp]
section
variable {P:an} {N:Fm} {σ:Nat→ag} {w:ah} {dst:Option Nat} {ty:ak} {pos :String} {af:Array bM} {g:Option (Nat×Bool)} {x y z:aO} {K:(Nat→ag)→ah→Prop}
variable {t k e:ak} {aD:ag→Prop} {b:Nat} {f:ag→Option ag} {kx v zv:ag}
theorem MM (aa:P.underlying t=some (.map k e)) (A:j3 P k aD) (hm:bN w.heap b aD f) (hi:aD kx):
 ∃ w',(pv t (.map<|some b) kx v).run P w= .ok () w'∧Md (fun j=>j=b) w w'∧bN w'.heap b aD (gH f kx v):=by
 obtain ⟨es,c,hr,C,L⟩:=hm;have hb:=(bJ.1 hr).1;rcases A.key.find w kx es.toList hi L.ks with ⟨I,ad⟩ | ⟨j,V,I,E,J⟩
 · refine ⟨{w with heap:=w.heap.setIfInBounds b<|.map (es.push {key:=kx,val:=v,born:=c})<|c+1},by simp [pv,bh aa,run_getObj_map hr,A.key.check _ w kx hi,I,setObj,jY,hr],⟨U,U,by simp,fun i _ O=>by simp only; rw [ly (fun e=>O e.symm)]⟩,es.push {key:=kx,val:=v,born:=c},c+1,by simp only; rw [ml hb],?_,?_⟩
   · rw [tX]; exact C.push
   · rw [tX]; exact L.push hi ad
 · have Z:es[j]? =some V:=by simpa using E
   have ag:(es.modify j fun e=> {e with key:=kx,val:=v})=es.modify j fun e=> {e with val:=v} :=by
    apply tR;intro i;rw [tU,tU];by_cases M:j=i
    · subst M; rw [if_pos rfl,if_pos rfl,Z,← J]; rfl
    · rw [if_neg M,if_neg M]
   refine ⟨{w with heap:=w.heap.setIfInBounds b<|.map (es.modify j fun e=> {e with key:=kx,val:=v}) c},?_,⟨U,U,by simp,fun i _ O=>by simp only; rw [ly (fun e=>O e.symm)]⟩,es.modify j fun e=> {e with val:=v},c,by simp only; rw [ml hb,ag],⟨fun x ab=> ?_,?_⟩,?_⟩
   · have ae:=A.stays w kx hi;simp [pv,bh aa,run_getObj_map hr,A.key.check _ w kx hi,I,Z,J,ae,setObj,jY,hr]
   · rw [qT] at ab;rcases (oH E x).1 ab with rfl | ⟨i,_,ac⟩
     · exact C.lt V<|jy E
     · exact C.lt x<|jy ac
   · rw [qT,Bk (fun e:MapEntry=> {e with val:=v}) (·.born) (fun _=>rfl)]; exact C.nd
   · rw [qT,← J]; exact L.LF E
theorem tH (L:P.underlying t=some (.map k e)) (A:j3 P k aD) (hm:bN w.heap b aD f) (M:ev N σ x= .map (some b)) (O:ev N σ y=kx) (V:ev N σ z=v) (hi:aD kx)
 (Z:∀ w',Md (fun j=>j=b) w w'→bN w'.heap b aD (gH f kx v)→K σ w'):bI P N ⟨none,.mapUpdate t x y z,ty,pos,af,g⟩ σ w K:=by
 obtain ⟨w',C,E,I⟩:=MM (v:=v) L A hm hi;have J:(execOp (ev N σ) ⟨none,.mapUpdate t x y z,ty,pos,af,g⟩).run P w= .ok .skip w':=by
  simp [execOp,M,O,V,C]
 unfold bI gp;rw [de,J];exact ⟨σ,U,Z w' E I⟩
theorem G2 {kt:ak} (aj:P.underlying t=some (.map k e)) (I:j3 P k aD) (hm:bN w.heap b aD f) (hi:aD kx) (aw:ev N σ x= .map (some b)) (ax:ev N σ y=kx):
 ∃ w',(execOp (ev N σ) ⟨dst,.call ⟨.builtin .delete,#[x,y],#[t,kt]⟩,ty,pos,af,g⟩).run P w= .ok (.value undef) w'∧Md (fun j=>j=b) w w'∧bN w'.heap b aD (kS f kx)∧
   ∀ r left E,E.1=kx→gy w.heap r b left E→fH w'.heap r b left :=by
 have ag:∀ {w':ah},(pq #[t,kt] ty #[.map (some b),kx]).run P w= .ok undef w'→(execOp (ev N σ) ⟨dst,.call ⟨.builtin .delete,#[x,y],#[t,kt]⟩,ty,pos,af,g⟩).run P w= .ok (.value undef) w':=by
  intro w' h;simp [execOp,resolve,invoke,builtin,aw,ax,h]
 obtain ⟨es,c,hr,L,A⟩:=hm;have hb:=(bJ.1 hr).1;rcases I.key.find w kx es.toList hi A.ks with ⟨J,au⟩ | ⟨j,am,J,Z,ac⟩
 · have O:f kx=none:=by
    cases O:f kx with
    | none=>rfl
    | some u=>obtain ⟨an,ap,ao,_⟩:=(A.iff kx u).1 O; exact absurd ao<|au an ap
   have ai:w.heap.setIfInBounds b (.map es c)=w.heap:=by
    apply tR;intro i;rw [Array.getElem?_setIfInBounds];by_cases ad:b=i
    · subst ad; rw [if_pos rfl,if_pos hb,hr]
    · rw [if_neg ad]
   refine ⟨{w with heap:=w.heap.setIfInBounds b<|.map es c},ag ?_,⟨U,U,by simp,fun i _ aa=>by simp only; rw [ly (fun e=>aa e.symm)]⟩,?_,fun r left E ae M=> ?_⟩
   · simp [pq,bh aj,run_getObj_map hr,I.key.check _ w _ hi,J,setObj,jY,hr];rfl
   · simp only [ai]; rw [G4 O]; exact ⟨es,c,hr,L,A⟩
   · simp only [ai]; exact M.oI
 · have aC:=(cB.1 Z).1;have C:(es.eraseIdxIfInBounds j).toList=es.toList.eraseIdx j:=by simp
   refine ⟨{w with heap:=w.heap.setIfInBounds b<|.map (es.eraseIdxIfInBounds j) c},ag ?_,⟨U,U,by simp,fun i _ aa=>by simp only; rw [ly (fun e=>aa e.symm)]⟩,⟨es.eraseIdxIfInBounds j,c,by simp only; rw [ml hb],by rw [C]; exact L.del j,by rw [C,← ac]; exact A.del Z⟩,fun r left E ae M=> ?_⟩
   · simp [pq,bh aj,run_getObj_map hr,I.key.check _ w _ hi,J,setObj,jY,hr];rfl
   · obtain ⟨aB,c2,seen,ab,m1,al,aE,ay,az,aA⟩:=M;rw [hr] at al; cases al;have av:r≠b:=fun h=>by subst h; rw [m1] at hr; cases hr
     have lY:ab.key=am.key:=by rw [ac,← ae,← aA]
     obtain ⟨i,V⟩:=yx az;have aq:i=j:=by
      have ar:=(cB.1 V).1;exact (yw (by simpa using ar) A.nd).1<|by rw [eJ,eJ,V,Z,dJ,dJ,lY]
     subst aq;refine ⟨es.eraseIdxIfInBounds i,c,seen.push ab.born,c,?_,aT _,?_,by rw [C]; exact L.del i,?_⟩
     · simp only; rw [ly (fun e=>av e.symm)]; exact m1
     · simp only; rw [ml hb]
     · rw [← ay];unfold leftOf;rw [pk,pk,C,Ad V (by simp)]
theorem zI {kt:ak} (M:P.underlying t=some (.map k e)) (C:j3 P k aD) (hm:bN w.heap b aD f) (O:ev N σ x= .map (some b)) (U:ev N σ y=kx) (hi:aD kx)
 (V:∀ w',Md (fun j=>j=b) w w'→bN w'.heap b aD (kS f kx)→(∀ r left A,A.1=kx→gy w.heap r b left A→fH w'.heap r b left)→K (cz σ dst undef) w'):bI P N ⟨dst,.call ⟨.builtin .delete,#[x,y],#[t,kt]⟩,ty,pos,af,g⟩ σ w K:=by
 obtain ⟨w',E,I,J,L⟩:=G2 (dst:=dst) (ty:=ty) (pos :=pos) (af:=af) (g:=g) (kt:=kt) M C hm hi O U;exact iu E<|V w' I J L
theorem sF {at_:Array ak} {n:Nat} (C:P.underlying t=some (.map k e)) (ha:at_= #[t]) (E:ev N σ x= .map (some b)) (hm:bN w.heap b aD f) (hn:eM f n):
 (execOp (ev N σ) ⟨dst,.call ⟨.builtin .len,#[x],at_⟩,ty,pos,af,g⟩).run P w= .ok (.value<|.int .i64 n) w:=by
 obtain ⟨es,c,hr,A⟩:=hm.eO;have :=A2 (dst:=dst) (ty:=ty) (pos :=pos) (af:=af) (g:=g) C ha E hr;rw [hn.uniq A]; exact this
end
end Go.Hb
end
section
namespace Go.Hb
theorem nv {a b:List UInt8} (h:str a=str b):a=b:=by unfold str at h; cases h; rfl
noncomputable def mT (g:List UInt8→Option Int):ag→Option ag:=fun v=>if h:∃ x,v=str x then (g h.choose).map fun n=> .int .i64 n else none
variable {g q a b:List UInt8→Option Int} {x:List UInt8} {n:Int} {left left':List (ag×ag)}
theorem gF (g:List UInt8→Option Int) (x:List UInt8):mT g (str x)=(g x).map fun n=> .int .i64 n:=by
 have h:∃ y,str x=str y:=⟨x,rfl⟩
 unfold mT;rw [dif_pos h,← nv h.choose_spec]
theorem sJ {v:ag} (h:¬cT v):mT g v=none:=dif_neg h
theorem wq {h:ag→Option ag} (C:∀ x,h (str x)=(g x).map fun n=> .int .i64 n) (E:∀ v,¬cT v→h v=none):h=mT g:=by
 funext v;by_cases A:cT v
 · obtain ⟨x,rfl⟩:=A; rw [C,gF]
 · rw [E v A,sJ A]
theorem oE:mT (fun _=>none)=fun _=>none:=(wq (fun x=>rfl) fun v _=>rfl).symm
theorem oF:gH (mT g) (str x) (.int .i64 n)=mT (fun y=>if y=x then some n else g y):=by
 refine wq (fun y=> ?_) (fun v A=> ?_)
 · unfold gH;by_cases e:y=x
   · subst e; simp
   · rw [if_neg (fun h=>e<|nv h),gF,if_neg e]
 · unfold gH;rw [if_neg (fun h=>A ⟨x,h⟩),sJ A]
theorem A8:kS (mT g) (str x)=mT (fun y=>if y=x then none else g y):=by
 refine wq (fun y=> ?_) (fun v A=> ?_)
 · unfold kS;by_cases e:y=x
   · subst e; simp
   · rw [if_neg (fun h=>e<|nv h),gF,if_neg e]
 · unfold kS;rw [if_neg (fun h=>A ⟨x,h⟩),sJ A]
theorem wu {v u:ag} (h:mT g v=some u):∃ x n,v=str x∧u= .int .i64 n∧g x=some n:=by
 by_cases A:cT v
 · obtain ⟨x,rfl⟩:=A;rw [gF] at h;obtain ⟨n,C,E⟩:=fU.1 h;exact ⟨x,n,U,E.symm,C⟩
 · rw [sJ A] at h; cases h
structure Lf (q:List UInt8→Option Int) (left :List (ag×ag)):Prop where
 ok:∀ p∈left,∃ x n,p=(str x,.int .i64 n)∧q x=some n
 nd:(left.map cg).Nodup
noncomputable def fq (left :List (ag×ag)) (a b:List UInt8→Option Int):List UInt8→Option Int:=fun x=>if str x∈left.map cg then a x else b x
theorem Lf.start (J:∀ p∈left,cT p.1) (hn:(left.map cg).Nodup) (I:∀ k v,mT q k=some v↔(k,v)∈left):Lf q left :=by
 refine ⟨fun p hp=> ?_,hn⟩;obtain ⟨k,v⟩:=p;obtain ⟨x,n,A,C,E⟩:=wu<|(I k v).2 hp;exact ⟨x,n,by rw [A,C],E⟩
theorem vf (E:∀ k v,mT q k=some v↔(k,v)∈left) (C:∀ x,q x=none→a x=b x):fq left a b=a:=by
 funext x;unfold fq;by_cases A:str x∈left.map cg
 · rw [if_pos A]
 · rw [if_neg A,C x];cases hq:q x with
   | none=>rfl
   | some n=>
     exfalso;apply A;have :(str x,.int .i64 n)∈left :=(E _ _).1<|by rw [gF,hq]; rfl
     exact gu.2 ⟨_,this,U⟩
theorem vd:fq [] a b=b:=by funext x; simp [fq]
theorem Lf.step {E:ag×ag} (h:Lf q left) (hp:left.Perm (E::left')):∃ x n,E=(str x,.int .i64 n)∧q x=some n∧Lf q left'∧str x∈left.map cg∧
 (∀ a b,fq left a b x=a x)∧∀ a b,fq left' a b=fun y=>if y=x then b x else fq left a b y:=by
 obtain ⟨x,n,rfl,I⟩:=h.ok E<|hp.mem_iff.2 iB;have C:=(hp.map cg).nodup_iff.1 h.nd;simp only [dq,pD] at C;have hm:str x∈left.map cg:=(hp.map cg).mem_iff.2<|by simp
 refine ⟨x,n,U,I,⟨fun p hm=>h.ok p (hp.mem_iff.2<|iY _ hm),C.2⟩,hm,fun a b=>if_pos hm,fun a b=> ?_⟩;funext y;unfold fq;by_cases e:y=x
 · subst e; rw [if_neg C.1,if_pos rfl]
 · rw [if_neg e];have :str y∈left.map cg↔str y∈left'.map cg:=by
    rw [(hp.map cg).mem_iff];simp only [dq,dr];exact ⟨fun h=>h.resolve_left fun h=>e (nv h),.inr⟩
   by_cases A:str y∈left.map cg
   · rw [if_pos A,if_pos (this.1 A)]
   · rw [if_neg A,if_neg (fun h=>A<|this.2 h)]
def dC {α β:Type} (R:α→β→Prop):List α→List β→Prop
 | [],[]=>True
 | a::l,b::m=>R a b∧dC R l m
 | _,_=>False
theorem dC.imp {α β:Type} {R S:α→β→Prop} (A:∀ a b,R a b→S a b):∀ {l:List α} {m:List β},dC R l m→dC S l m
 | [],[],_=>trivial
 | _::_,_::_,⟨h1,h2⟩=>⟨A _ _ h1,dC.imp A h2⟩
 | [],_::_,h=>h.elim
 | _::_,[],h=>h.elim
theorem dC.len {α β:Type} {R:α→β→Prop} :∀ {l:List α} {m:List β},dC R l m→l.length=m.length
 | [],[],_=>rfl
 | _::_,_::_,⟨_,h2⟩=>congrArg (· +1) h2.len
 | [],_::_,h=>h.elim
 | _::_,[],h=>h.elim
theorem dC.snoc {α β:Type} {R:α→β→Prop} {a:α} {b:β} (A:R a b):∀ {l:List α} {m:List β},dC R l m→dC R (l++ [a]) (m++ [b])
 | [],[],_=>⟨A,trivial⟩
 | _::_,_::_,⟨h1,h2⟩=>⟨h1,h2.snoc A⟩
 | [],_::_,h=>h.elim
 | _::_,[],h=>h.elim
theorem dC.pop {α β:Type} {R:α→β→Prop} {b:β} :∀ {l:List α} {m:List β},dC R l (m++ [b])→∃ A a,l=A++ [a]∧dC R A m∧R a b
 | [],[],h=>h.elim
 | [],_::_,h=>h.elim
 | [a],[],⟨h1,_⟩=>⟨[],a,rfl,trivial,h1⟩
 | _::_::_,[],⟨_,h2⟩=>h2.elim
 | a::l,I::m,⟨h1,h2⟩=>by
   obtain ⟨A,x,rfl,C,E⟩:=dC.pop h2;exact ⟨a::A,x,U,⟨h1,C⟩,E⟩
noncomputable def dU (g:List UInt8→Option Int) (l:List (List UInt8)):List UInt8→Option Int:=fun x=>if x∈l then some ((g x).getD 0) else none
def eQ (A:Int) (q:List UInt8→Option Int):List UInt8→Option Int:=fun x=>match q x with
 | some o=>if o=A then none else some o
 | none=>none
def dT (A:Int) (q g:List UInt8→Option Int):List UInt8→Option Int:=fun x=>match q x with
 | some _=>some A
 | none=>g x
def eN (q g:List UInt8→Option Int):List UInt8→Option Int:=fun x=>match q x with
 | some o=>if o=0 then none else some o
 | none=>g x
theorem Ky {A:Int} (h:q x=none):dT A q g x=g x:=by unfold dT; rw [h]
theorem BP {A:Int} (h:q x=some n):dT A q g x=some A:=by unfold dT; rw [h]
def cC (g:List UInt8→Option Int) (n:Nat):Prop :=eM (mT g) n
theorem M5:dU g []=fun _=>none:=by funext x; simp [dU]
theorem M4 {l:List (List UInt8)} (h:x∉l):mT (dU g<|l++ [x])=gH (mT<|dU g l) (str x) (.int .i64<|(g x).getD 0):=by
 rw [oF];congr 1;funext y;unfold dU;by_cases e:y=x
 · subst e; simp
 · simp [e]
theorem M7 {l:List (List UInt8)} (h:x∈l):dU g (l++ [x])=dU g l:=by
 funext y;unfold dU;by_cases e:y=x
 · subst e; simp [h]
 · simp [e]
noncomputable def eG (g:List UInt8→Option Int) (l:List (List UInt8)):List UInt8→Option Int:=fun x=>if x∈l then some 1 else g x
theorem Ll:eG g []=g:=by funext x; simp [eG]
theorem B5 {l:List (List UInt8)} :mT (eG g<|l++ [x])=gH (mT<|eG g l) (str x) (.int .i64 1):=by
 rw [oF];congr 1;funext y;unfold eG;by_cases e:y=x
 · subst e; simp
 · simp [e]
theorem Lk {l:List (List UInt8)} {m:Nat} (A:cC (eG g l) m) (h:x∉l) (C:g x=none):cC (eG g<|l++ [x]) (m+1):=by
 unfold cC at A ⊢;rw [B5];exact A.new<|by rw [gF]; simp [eG,h,C]
theorem B6 {l:List (List UInt8)} {m:Nat} (A:cC (eG g l) m) (h:x∈l∨∃ o,g x=some o):cC (eG g<|l++ [x]) m:=by
 unfold cC at A ⊢;rw [B5];by_cases C:x∈l
 · exact A.dR (u:= .int .i64 1)<|by rw [gF]; simp [eG,C]
 · obtain ⟨o,E⟩:=h.resolve_left C;exact A.dR (u:= .int .i64 o)<|by rw [gF]; simp [eG,C,E]
theorem C6 (g:List UInt8→Option Int) (l:List (List UInt8)) (x:List UInt8):(mT (dU g l)<|str x).getD (.int .i64 0)= .int .i64 (if x∈l then (g x).getD 0 else 0):=by
 rw [gF]; unfold dU;by_cases h:x∈l <;> simp [h]
theorem M6 (g:List UInt8→Option Int) (l:List (List UInt8)) (x:List UInt8):(mT (dU g l)<|str x).isSome=decide (x∈l):=by
 rw [gF]; unfold dU;by_cases h:x∈l <;> simp [h]
theorem sI (g:List UInt8→Option Int) (x:List UInt8):(mT g<|str x).getD (.int .i64 0)= .int .i64 ((g x).getD 0):=by
 rw [gF]; cases g x <;> rfl
theorem Av {l:List (List UInt8)} {i m:Nat} (h:∀ x∈l,x.length≤m) (hi:i < l.length):(l.getD i []).length≤m:=h _<|iM hi
theorem eM.congr {f h:ag→Option ag} {m:Nat} (I:eM f m) (he:∀ k,(∃ v,f k=some v)↔∃ v,h k=some v):eM h m:=by
 obtain ⟨l,A,C,E⟩:=I;exact ⟨l,A,C,fun k=>(he k).symm.trans<|E k⟩
theorem qi (g:List UInt8→Option Int) (v:ag):(∃ u,mT g v=some u)↔∃ x o,v=str x∧g x=some o:=by
 constructor
 · rintro ⟨u,hu⟩;obtain ⟨x,o,A,_,C⟩:=wu hu;exact ⟨x,o,A,C⟩
 · rintro ⟨x,o,rfl,h⟩;exact ⟨_,by rw [gF,h]; rfl⟩
theorem cC.congr {m:Nat} (I:cC a m) (he:∀ x,(∃ o,a x=some o)↔∃ o,b x=some o):cC b m:=by
 refine eM.congr I fun k=> ?_;rw [qi,qi];exact ⟨fun ⟨x,o,A,C⟩=>let ⟨E,h'⟩:=(he x).1 ⟨o,C⟩; ⟨x,E,A,h'⟩,fun ⟨x,o,A,C⟩=>let ⟨E,h'⟩:=(he x).2 ⟨o,C⟩; ⟨x,E,A,h'⟩⟩
noncomputable def cy (A:Int) (g:List UInt8→Option Int) (l:List (List UInt8)):List UInt8→Option Int:=eQ A<|dU g l
theorem KA {C:Int} (hw:C≠0) {l:List (List UInt8)} {m:Nat} (I:cC (eG g l) m):cC (dT C (cy C g l) g) m:=by
 refine I.congr fun x=> ?_;unfold dT cy eQ dU eG;by_cases A:x∈l
 · cases hg:g x with
   | none=>simp [A,Ne.symm hw]
   | some o=>
     by_cases E:o=C
     · simp [A,E]
     · simp [A,E]
 · simp [A]
theorem cC.pos {m:Nat} (E:cC q m) (hm:m≠0):∃ x o,q x=some o:=by
 obtain ⟨l,I,A,C⟩:=E;cases l with
 | nil=>exact absurd A.symm hm
 | cons k l=>
   obtain ⟨x,o,_,h⟩:=(qi q k).1<|(C k).2 iB;exact ⟨x,o,h⟩
theorem Kz {A:Int} (hw:A≠0) (C:∀ x,g x≠some 0) (x:List UInt8):dT A q g x≠some 0:=by
 unfold dT;split
 · intro h; exact hw<|eX h
 · exact C x
theorem uN {A:Int} {l:List (List UInt8)} (E:∀ x,g x≠some 0):eN (cy A g l) (dT A (cy A g l) g)=g:=by
 funext x;unfold eN dT cy eQ dU;by_cases C:x∈l
 · cases hgx:g x with
   | none=>by_cases h:(0:Int)=A <;> simp [C,h]
   | some o=>
     have I:o≠0:=fun h=>E x<|by rw [hgx,h]
     by_cases h:o=A <;> simp [C,h,I]
 · simp [C]
theorem Fk (A:∀ x,g x≠some 0) (x:List UInt8):eN q g x≠some 0:=by
 unfold eN;split
 · rename_i o _;by_cases h:o=0
   · rw [if_pos h]; simp
   · rw [if_neg h]; intro C; exact h<|eX C
 · exact A x
theorem Ja (A:∀ k v,mT q k=some v↔(k,v)∈left) (y:List UInt8):(∃ o,q y=some o)↔y∈([]:List (List UInt8))∨str y∈left.map cg:=by
 constructor
 · rintro ⟨o,I⟩;exact .inr<|gu.2 ⟨_,(A (str y)<|.int .i64 o).1 (by rw [gF,I]; rfl),U⟩
 · rintro (h | h)
   · cases h
   · obtain ⟨⟨k,v⟩,hp,hk⟩:=gu.1 h;obtain ⟨x,o,C,_,E⟩:=wu<|(A k v).2 hp;have :x=y:=nv<|C.symm.trans hk;exact ⟨o,by rw [← this]; exact E⟩
theorem wG {α:Type} :∀ {a b:List α},a.Nodup→(∀ x∈a,x∈b)→a.length≤b.length
 | [],_,_,_=>Nat.zero_le _
 | x::a,b,hn,hs=>by
   rw [pD] at hn;obtain ⟨s,t,rfl⟩:=List.append_of_mem<|hs x iB;have :=wG (b:=s++t) hn.2 fun y A=>by
    have C:=hs y<|iY _ A;rw [fl,dr] at C;rw [fl];rcases C with h | rfl | h
    · exact .inl h
    · exact absurd A hn.1
    · exact .inr h
   simp only [bB,bA] at this ⊢;omega
theorem cC.le {m:Nat} {l:List (List UInt8)} (C:cC q m) (hn:l.Nodup) (E:∀ x∈l,∃ o,q x=some o):l.length≤m:=by
 obtain ⟨ks,M,rfl,A⟩:=C;have h:=wG (a:=l.map str) (b:=ks) (List.pairwise_map.2<|hn.imp fun h e=>h<|nv e) fun v J=>by
  obtain ⟨x,L,rfl⟩:=gu.1 J;obtain ⟨o,I⟩:=E x L;exact (A _).1 ⟨.int .i64 o,by rw [gF,I]; rfl⟩
 rwa [lF] at h
end Go.Hb
end
section
namespace Go.Hb
section
variable {P:an} {N:Fm} {σ:Nat→ag} {w:ah} {dst:Option Nat} {ty:ak} {pos :String} {af:Array bM} {g:Option (Nat×Bool)} {x y:aO}
theorem z6 (d:Nat) {t e:ak} {a:Option Addr} {n c:Nat} (hu:P.underlying t=some (.slice e)):(Op.equalIn (d+1) t (.slice a n c)<|.slice none 0 0).run P w= .ok a.isNone w:=by
 cases a <;> simp [Op.equalIn,bh hu]
end
section
variable {P:an} {N:Fm} {σ:Nat→ag} {w:ah} {dst:Option Nat} {ty:ak} {pos :String} {af:Array bM} {g:Option (Nat×Bool)} {x y z u:aO} {K:(Nat→ag)→ah→Prop}
theorem Cp {t n len cap:Nat} {a:Option Addr} {k I J:IntKind} {i j m:Nat} (he:dh P t=some n) (A:ev N σ x= .slice a len cap) (C:ev N σ y= .int k (i:Nat)) (E:ev N σ z= .int I (j:Nat)) (hu:ev N σ u= .int J (m:Nat)) (h:i≤j∧j≤m∧m≤cap):
 (execOp (ev N σ) ⟨dst,.slice t x (some y) (some z) (some u),ty,pos,af,g⟩).run P w= .ok (.value<|.slice (dc a m i n) (j - i)<|m - i) w:=by
 have L:(0:Int)≤(i:Int):=ab;have M:(0:Int)≤(j:Int):=ab;have O:(0:Int)≤(m:Int):=ab;unfold dh at he;cases hd:P.underlying t with
 | none=>rw [hd] at he; cases he
 | some d=>
   rw [hd] at he;cases d <;> first | (cases he; done) | skip
   rename_i e;cases hi':P.info? e with
   | none=>simp [hi'] at he
   | some q=>
     simp only [hi',dJ,bp] at he;subst he;simp only [execOp,nL,Instr.slice,A,C,E,hu,dJ,kF,Instr.sliceBound,asIntOf];simp [bh hd,di hi',sizeOf,h.1,h.2.1,h.2.2,dc]
theorem Ff {t e size bytes B n m A c C:Nat} {xs news:List ag} {a:Option Addr} (ac:eU P t e size bytes=true) (V:w.ownsRow B e size (.slice (some ⟨C,0,none⟩) n A) n xs) (ae:ev N σ x= .slice (some ⟨C,0,none⟩) n A)
 (ah:ev N σ y= .slice a m c) (M:bo w.heap a news) (ha:a≠none) (U:news.length=m*size) (O:news.all Value.oneCell'=true) (aa:n+m≤A)
 (k:∀ w',Md (fun q=>q=C) w w'→w'.ownsRow B e size (.slice (some ⟨C,0,none⟩) (n+m) A) (n+m) (xs++news)→K (cz σ dst<|.slice (some ⟨C,0,none⟩) (n+m) A) w'):
 bI P N ⟨dst,.call ⟨.builtin .append,#[x,y],#[t,t]⟩,ty,pos,af,g⟩ σ w K:=by
 obtain ⟨hu,i,zv,hi,ak,ab,ai,al,aj⟩:=nt ac;obtain ⟨ad,rfl⟩:∃ ad,a=some ad:=by cases a with | none=>exact absurd rfl ha | some ad=>exact ⟨ad,rfl⟩
 have hn:∀ j v,news[j]? =some v→w.cell? (ad.add j)=some v:=fun j v J=>by
  have L:news≠[]:=fun e=>by rw [e] at J; simp at J
  have E:=M.ok L;simp only [bp] at E;rw [E,dO,hZ]; exact M.ay j v J
 obtain ⟨w',hr,E,I⟩:=Go.run_append_fits (P:=P) (w:=w) B t ty e i size hu hi ab C n A xs V ad m c news U hn (rH O) aa;refine iu (w':=w') (v:= .slice (some ⟨C,0,none⟩) (n+m) A) ?_<|k w' ⟨I.os,I.output,I.size,fun q Z L=>I.block q Z fun e=>L<|eX e⟩ E;simp [execOp,resolve,invoke,builtin,ae,ah,hr]
end
end Go.Hb
end
section
namespace Go.Hb
theorem Cf {L:List ag} {o:Nat} {v:ag} (h:o < L.length):(L.set o v).take (o+1)=L.take o++ [v]:=by grind [List.set_eq_take_append_cons_drop,Ew,bW,uy,Nat.add_sub_cancel_left,rj]
theorem Ce {L:List ag} {o m:Nat} {v:ag} (h:o < m):(L.set o v).drop m=L.drop m:=by
 rw [List.drop_set,if_pos h]
theorem Lw (b e:Nat):∀ (vs:List ag) (o:Nat) (L:List ag) (w:ah),w.heap[b]? =some (.cells L.toArray e (0,0))→o+vs.length≤L.length→
 (w.setCells b o vs).heap[b]? =some (.cells (L.take o++vs++L.drop (o+vs.length)).toArray e (0,0))∧Md (fun k=>k=b) w (w.setCells b o vs):=by
 intro vs
 induction vs with
 | nil=>intro o L w hb _; exact ⟨by simpa [World.setCells] using hb,Md.refl _ _⟩
 | cons v r ih=>
   intro o L w hb M;simp only [bA] at M;have A:(w.setCell ⟨b,o,none⟩ v).heap[b]? =some (.cells (L.set o v).toArray e (0,0)):=by
    have O:=(bJ.1 hb).1;have U:w.heap[b]= .cells L.toArray e (0,0):=(bJ.1 hb).2;simp only [uh];rw [Array.getElem?_eq_getElem (by simpa using O),Array.getElem_modify];simp [U,List.setIfInBounds_toArray]
   have I:Md (fun k=>k=b) w (w.setCell ⟨b,o,none⟩ v):=⟨rfl,rfl,by simp [uh],fun k _ J=>Below.heap_setCell w _ v k J⟩
   obtain ⟨C,E⟩:=ih (o+1) (L.set o v) _ A<|by rw [List.length_set]; omega
   refine ⟨?_,Md.trans I E⟩;show ((w.setCell ⟨b,o,none⟩ v).setCells b (o+1) r).heap[b]? =_;rw [C,Cf ab,Ce ab,bA,show o+1 +r.length=o+(r.length+1) from by omega];simp
section
variable {P:an} {N:Fm} {σ:Nat→ag} {w:ah} {ty:ak} {pos :String} {af:Array bM} {g:Option (Nat×Bool)} {x:aO} {K:(Nat→ag)→ah→Prop}
theorem F9 {t e B n A c' m:Nat} {a:Option Addr} {xs:List ag} {z:ag} (al:P.underlying t=some (.slice e)) (an:zeroV P e=some z) (J:z.oneCell'=true) (ae:w.ownsRow B e 1 (.slice a n A) n xs) (ha:a≠none)
 (L:ev N σ x= .slice (dc a A n 1) m c') (hm:0 < m∧n+m≤A) (ao:∀ w',Md (fun q=>(Value.slice a n A).ownBlock=some q) w w'→w'.ownsRow B e 1 (.slice a n A) n xs→K σ w'):
 bI P N ⟨none,.call ⟨.builtin .clear,#[x],#[t]⟩,ty,pos,af,g⟩ σ w K:=by
 obtain ⟨h0,h⟩:=ae;rcases h with ⟨h,rfl⟩ | ⟨C,ap,cur,h,Z,ac,hle,aa,ak,am⟩
 · simp only [kI] at h; exact absurd h.1 ha
 · simp only [kI,true_and] at h;obtain ⟨rfl,rfl⟩:=h;have aj:dc (some ⟨C,0,none⟩) A n 1=some ⟨C,n,none⟩:=by
    unfold dc; rw [if_neg ab]; simp [dO]
   rw [aj] at L;have I:w.heap[C]? =some (.cells cur.toList.toArray e (0,0)):=by simpa using ac
   have E:cur.toList.length=A*1:=by rw [Array.length_toList]; exact ak
   have ai:=Lib.run_clear_slice (P:=P) w t e ty z al (fun w=>ye an w) (by cases z <;> first | rfl | (cases J; done)) J C n m c' hm.1
    (fun j ad=>by rw [hZ,dg I]; simp; omega) (fun j ad=>by simp only [World.frozen?,show w.heap[C]? =_ from I]; simp)
   obtain ⟨O,V⟩:=Lw C e (eB m z) n cur.toList w I<|by rw [yy,E]; omega
   refine iu (w':=w.setCells C n<|eB m z) (v:= .tuple #[]) ?_ (ao _ (V.mono fun q _ ah=>by subst ah; rfl) ⟨h0,.inr ⟨C,A,_,U,Z,O,hle,aa,?_,?_⟩⟩)
   · simp [execOp,resolve,invoke,builtin,L,ai]
   · simp only [ej,bB,bW,List.length_drop,yy,E]; omega
   · rw [yy,Nat.mul_one];have M:(cur.toList.take n++eB m z++cur.toList.drop (n+m)).toArray.toList=cur.toList.take n++(eB m z++cur.toList.drop (n+m)):=gQ _ _ _;rw [M,Ew,bW,E,uy ab,uC,List.take_zero,j0,rj (by rw [bW]; omega),← am,Nat.mul_one]
end
end Go.Hb
end
namespace Go.Hb
def lr (g:List UInt8→Option Int) (x:List UInt8):List UInt8:=(if 0 < (g x).getD 0 then 43 else 45)::(dw x++ [10])
def dv (g:List UInt8→Option Int) (xs:List (List UInt8)):List UInt8:=xs.flatMap<|lr g
theorem MB {g:List UInt8→Option Int} {xs:List (List UInt8)} {i:Nat} (h:i < xs.length):dv g (xs.take<|i+1)=dv g (xs.take i)++lr g (xs.getD i []):=by
 unfold dv;rw [o7 xs i [] h,List.flatMap_append,List.flatMap_singleton]
theorem tF {g:List UInt8→Option Int} :∀ {xs:List (List UInt8)},(∀ x∈xs,x.length≤64)→(dv g xs).length≤xs.length*130
 | [],_=>aT _
 | x::xs,h=>by
   have A:=tF (g:=g) (xs:=xs) fun y C=>h y<|iY _ C;have E:=tP x;have I:=h x iB;unfold dv at A ⊢;rw [List.flatMap_cons,bB];simp only [lr,bA,bB,fk];omega
def e7 (g:List UInt8→Option Int) (xs:List (List UInt8)):Prop :=xs.Nodup∧∀ y,y∈xs↔∃ o,g y=some o
structure fm (g:List UInt8→Option Int):Prop where
 val:∀ x o,g x=some o→o=1∨o= -1
 wd:∀ x o,g x=some o→cJ x=true
theorem Ni:∀ (x acc:List UInt8),dA acc (dw x)=(acc++x,[],false,0):=by
 intro x
 induction x with
 | nil=>intro acc; show dA acc []=_; rw [tO,j0]
 | cons b x ih=>
   intro acc;have e:dw (b::x)=(if iK b=true then [92,b] else [b])++dw x:=rfl;rw [e];by_cases hb:iK b=true
   · rw [if_pos hb];show dA acc (92::b::dw x)=_;rw [tM aW hb,ih,gQ]; rfl
   · rw [if_neg hb];have h:¬(b.toNat=92∨b.toNat=47∨b.toNat=35):=fun h=>hb<|decide_eq_true h;show dA acc (b::dw x)=_;rw [tN ab ab,ih,gQ]; rfl
theorem Nn (x:List UInt8):ju (dw x)=(x,[],false,0):=Ni x []
theorem Nq {x:List UInt8} {b:UInt8} (h:b∈dw x):b=92∨b∈x:=by
 unfold dw at h;obtain ⟨c,A,hb⟩:=List.mem_flatMap.1 h;split at hb
 · simp only [dr,rh,or_false] at hb;rcases hb with rfl | rfl
   · exact .inl U
   · exact .inr A
 · simp only [dr,rh,or_false] at hb;subst hb; exact .inr A
theorem MT {x:List UInt8} (h:cJ x=true):∀ b∈x,33≤b.toNat:=fun b hb=>by
 have h:=of_decide_eq_true h;exact (of_decide_eq_true<|List.all_eq_true.1 h.2.2 b hb).1
theorem Np {x:List UInt8} (h:cJ x=true) {b:UInt8} (hb:b∈dw x):33≤b.toNat:=by
 rcases Nq hb with rfl | hb
 · decide
 · exact MT h b hb
def dY (g:List UInt8→Option Int) (x:List UInt8):List UInt8:=(if 0 < (g x).getD 0 then 43 else 45)::dw x
theorem uQ {g:List UInt8→Option Int} {x:List UInt8} (h:cJ x=true) {b:UInt8} (hb:b∈dY g x):33≤b.toNat:=by
 rcases dr.1 hb with rfl | hb
 · split <;> decide
 · exact Np h hb
theorem CO (g:List UInt8→Option Int) (x:List UInt8) (xs:List (List UInt8)):dv g (x::xs)=dY g x++10::dv g xs:=by
 simp [dv,lr,dY]
theorem Jz:∀ (l cur r:List UInt8),10∉l→cI cur (l++10::r)=eR (cur++l)::cI [] r:=by
 intro l
 induction l with
 | nil=>intro cur r _; rw [lG,A4,j0]
 | cons b l ih=>
   intro cur r h;simp only [dr,not_or] at h;rw [D5,vZ (fun e=>h.1 e.symm),ih _ _ h.2,gQ]; rfl
theorem FA {g:List UInt8→Option Int} {x:List UInt8} (h:cJ x=true):eR (dY g x)=dY g x:=by
 refine zR fun A=> ?_;have hm:=iM (d:=(0:UInt8)) (l:=dY g x) (i:=(dY g x).length - 1) ab;rw [A.2] at hm;exact absurd (uQ h hm) aW
theorem CP {g:List UInt8→Option Int} :∀ {xs:List (List UInt8)},(∀ x∈xs,cJ x=true)→cI [] (dv g xs)=xs.map (dY g)
 | [],_=>wg
 | x::xs,h=>by
   have A:=h x iB;rw [CO,Jz _ _ _ (fun C=>absurd (uQ A C) aW),lG,FA A,CP fun y E=>h y (iY _ E)]; rfl
theorem MA {g:List UInt8→Option Int} {xs:List (List UInt8)} :wv (dv g xs)=false :=by
 unfold wv;refine decide_eq_false fun h=> ?_;cases xs with
 | nil=>simp [dv,qk] at h
 | cons x xs=>
   rw [CO] at h;unfold dY at h;simp only [D5,List.take_succ_cons,qk,List.cons.injEq] at h;obtain ⟨h,_⟩:=h;split at h <;> exact absurd h aW
theorem Ao:∀ (x cur:List UInt8),(∀ b∈x,lV b=false)→cur++x≠[]→bP cur x= [cur++x]
 | [],cur,_,hn=>by
   rw [j0] at hn ⊢;exact Am hn
 | b::x,cur,h,hn=>by
   rw [vA (h b iB),Ao x _ (fun c A=>h c<|iY _ A) (by simp),gQ]; rfl
theorem FB {g:List UInt8→Option Int} {x:List UInt8} (h:cJ x=true) (n:Nat):kf (dY g x) n= [(n,[dY g x])]:=by
 have A:jP (bP []<|dY g x)= [dY g x]:=by
  rw [Ao _ _ (fun b hb=>by have :=uQ h hb; rw [vF]; exact decide_eq_false ab) (by simp [dY])];unfold jP;have :oV (dY g x)=false :=by
   unfold oV dY;refine decide_eq_false ?_;simp only [mr];split <;> decide
  simp [this]
 unfold kf; rw [A]; rfl
theorem CR {g:List UInt8→Option Int} :∀ {xs:List (List UInt8)} (n:Nat),(∀ x∈xs,cJ x=true)→gh n (xs.map<|dY g)=(xs.zipIdx n).map fun p=>(p.2,[dY g p.1])
 | [],n,_=>rfl
 | x::xs,n,h=>by
   rw [dq,gh,FB (h x iB),CR _ fun y A=>h y (iY _ A)]; rfl
theorem CQ {g:List UInt8→Option Int} {xs:List (List UInt8)} (h:∀ x∈xs,cJ x=true):ee (dv g xs)=(xs.zipIdx 1).map fun p=>(p.2,[dY g p.1]):=by
 unfold ee jQ;rw [MK MA,CP h,CR 1 h]
theorem HW {g:List UInt8→Option Int} {xs E:List (List UInt8)} (A:e7 g xs) (C:e7 g E):xs.Perm E:=(Er A.1 C.1).2 fun y=>(A.2 y).trans (C.2 y).symm
theorem Af {g:List UInt8→Option Int} {xs A:List (List UInt8)} (I:e7 g xs) (J:e7 g A) (L:xs.Pairwise fun a b=>a≤b) (M:A.Pairwise fun a b=>a≤b):xs=A:=
 List.Perm.eq_of_pairwise (fun a b _ _ C E=>List.le_antisymm C E) L M (HW I J)
theorem fm.nil:fm fun _=>none:=⟨fun x o h=>(by cases h),fun x o h=>by cases h⟩
theorem fm.put {A:Int} {g:List UInt8→Option Int} {l:List (List UInt8)} (E:fm g) (hw:A=1∨A= -1) (J:∀ x∈l,cJ x=true):fm (dT A (cy A g l) g):=by
 refine ⟨fun x o h=> ?_,fun x o h=> ?_⟩
 · unfold dT at h;split at h
   · cases h; exact hw
   · exact E.val x o h
 · unfold dT at h;split at h
   · rename_i q C;unfold cy eQ dU at C;by_cases I:x∈l
     · exact J x I
     · rw [if_neg I] at C; cases C
   · exact E.wd x o h
theorem F3 {A:Int} {g:List UInt8→Option Int} {l:List (List UInt8)} {x:List UInt8} {o:Int} (hw:A≠0) (h:cy A g l x=some o):dT A (cy A g l) g≠g:=fun e=>by
 have C:=congrFun e x;rw [BP h] at C;unfold cy eQ dU at h;by_cases E:x∈l
 · rw [if_pos E,← C] at h;simp at h
 · rw [if_neg E] at h; cases h
theorem cC.ge {q:List UInt8→Option Int} {m:Nat} {l:List (List UInt8)} (E:cC q m) (I:∀ x,(∃ o,q x=some o)→x∈l):m≤l.length:=by
 obtain ⟨ks,A,rfl,C⟩:=E;have h:=wG (a:=ks) (b:=l.map str) A fun v L=>by
  obtain ⟨x,o,rfl,J⟩:=(qi q v).1<|(C v).2 L;exact gu.2 ⟨x,I x ⟨o,J⟩,U⟩
 rwa [lF] at h
theorem e7.eO {g:List UInt8→Option Int} {xs:List (List UInt8)} {n:Nat} (A:e7 g xs) (C:cC g n):xs.length=n:=by
 have E:=C.le A.1 fun x hm=>(A.2 x).1 hm;have I:=C.ge fun x h=>(A.2 x).2 h;omega
noncomputable def xK (g:List UInt8→Option Int):List UInt8:= @dite _ (∃ xs,e7 g xs∧xs.Pairwise fun a b=>a≤b) (Classical.propDecidable _) (fun h=>dv g h.choose) fun _=> []
theorem xL {g:List UInt8→Option Int} {xs:List (List UInt8)} (h:e7 g xs) (C:xs.Pairwise fun a b=>a≤b):dv g xs=xK g:=by
 have A:∃ xs,e7 g xs∧xs.Pairwise fun a b=>a≤b:=⟨xs,h,C⟩
 unfold xK;rw [dif_pos A,Af h A.choose_spec.1 C A.choose_spec.2]
theorem fm.len {g:List UInt8→Option Int} (h:fm g):∀ x o,g x=some o→x.length≤64:=fun x o A=>(of_decide_eq_true<|h.wd x o A).2.1
theorem fm.nz {g:List UInt8→Option Int} (h:fm g):∀ x,g x≠some 0:=fun x e=>by rcases h.val x 0 e with h | h <;> cases h
def dG:List UInt8→Option Int:=fun _=>none
structure jz (g0:List UInt8→Option Int) (hist gs:List (List UInt8→Option Int)) (g:List UInt8→Option Int):Prop where
 len:gs.length=hist.length+1
 zero:gs.getD 0 dG=g0
 last:gs.getD hist.length dG=g
 back:∀ k,k < hist.length→eN (hist.getD k dG) (gs.getD (k+1) dG)=gs.getD k dG
 ok:∀ k,k < gs.length→fm (gs.getD k dG)∧∃ m,cC (gs.getD k dG) m∧m≤500
abbrev mB (A gs:List (List UInt8→Option Int)) (g:List UInt8→Option Int):Prop :=jz (fun _=>none) A gs g
theorem mB.start:mB [] [fun _=>none] fun _=>none:=
 ⟨rfl,rfl,rfl,fun k h=>by simp at h,fun k h=>by
  obtain rfl :k=0:=by simpa using h
  exact ⟨fm.nil,0,⟨[],uw,U,fun k=>⟨fun ⟨v,h⟩=>(by rw [mr,oE] at h; cases h),fun h=>by simp at h⟩⟩,ab⟩⟩
theorem ox {α:Type} {l m:List α} {i:Nat} {d:α} (h:i < l.length):(l++m).getD i d=l.getD i d:=by
 rw [cn,List.getElem?_append_left h,cn]
theorem si {α:Type} {l:List α} {a d:α} {i:Nat} (h:i=l.length):(l++ [a]).getD i d=a:=by
 subst h;rw [cn,List.getElem?_append_right (aT _),uC]; rfl
theorem jz.add {g0:List UInt8→Option Int} {E gs:List (List UInt8→Option Int)} {g C q:List UInt8→Option Int} {m:Nat} (h:jz g0 E gs g) (L:fm C) (J:cC C m) (hm:m≤500) (hb:eN q C=g):jz g0 (E++ [q]) (gs++ [C]) C:=by
 have M:=h.len;refine ⟨by simp only [bB,bA,fk]; omega,by rw [ox ab]; exact h.zero,by rw [bB,fE]; exact si ab,fun k I=> ?_,fun k I=> ?_⟩
 · rw [bB,fE] at I;rcases dW k E.length with A | A
   · rw [ox A,ox ab,ox ab]; exact h.back k A
   · obtain rfl :k=E.length:=ab;rw [si rfl,si ab,ox ab,h.last]; exact hb
 · rw [bB,fE] at I;rcases dW k gs.length with A | A
   · rw [ox A]; exact h.ok k A
   · obtain rfl :k=gs.length:=ab;rw [si rfl]; exact ⟨L,m,J,hm⟩
end Go.Hb
section
namespace Go.Hb
def gk (P:an) (N:Fm) (c:bz) (B:ba→Act→ah→Prop) (σ:Nat→ag) (w:ah):Prop :=c.wpIn (fe N.r) 0 P B (act N σ) w
def qb (N:Fm) (B:ba→Act→ah→Prop):ba→(Nat→ag)→ah→Prop :=fun e σ w=>B e (act N σ) w
section
variable {P:an} {N:Fm} {B:ba→Act→ah→Prop} {σ:Nat→ag} {w:ah}
theorem du {x y:bz} (h:gk P N x (Exit.then (y.wpIn (fe N.r) 0 P B) B) σ w):gk P N (.seq x y) B σ w:=wpIn_seq h
theorem bF {y:bz} (h:gk P N y B σ w):qb N (Exit.then (y.wpIn (fe N.r) 0 P B) B) .normal σ w:=h
theorem prt {y:Act→ah→Prop} (h:qb N B .ret σ w):qb N (Exit.then y B) .ret σ w:=h
theorem xe (h:qb N B .ret σ w):gk P N .ret B σ w:=wpIn_ret h
theorem LU {x y:bz} (A:(Nat→ag)→ah→Prop) (h:gk P N x (Exit.then (fun a w=> ∃ σ,a=act N σ∧A σ w) B) σ w) (I:∀ σ w,A σ w→gk P N y B σ w):gk P N (.seq x y) B σ w:=by
 refine wpIn_seq<|wpIn_mono h ?_;intro e a w C;cases e with
 | normal=>obtain ⟨σ,rfl,E⟩:=C; exact I _ _ E
 | _=>exact C
theorem zw {A:(Nat→ag)→ah→Prop} (h:A σ w):qb N (Exit.then (fun a w=> ∃ σ,a=act N σ∧A σ w) B) .normal σ w:=⟨σ,rfl,h⟩
theorem LH {c:bz} {L:List (Nat×ag)} (h:Sl σ L) (A:gk P N c B (qO σ L) w):gk P N c B σ w:=by rw [xO h] at A; exact A
theorem dE {c:bz} (h:bg P N c (qb N B) σ w):gk P N c B σ w:=by
 unfold bg at h;refine wpIn_mono h ?_;intro e a w A;cases e with
 | panic c=>obtain ⟨σ,rfl,C⟩:=A; exact C σ fun _ _=>rfl
 | outgrown=>exact A.elim
 | _=>obtain ⟨σ,rfl,C⟩:=A; exact C
end
theorem nr (fn:gP) (args:List ag) (F:List Nat) (hn:aZ args.length fn.ntmps=true):({tmps:=args.toArray++Array.replicate (fn.ntmps - args.toArray.size) undef,defers:= []} :Act)=act ⟨fn.ntmps,[],F,none⟩ (dk args):=by
 have E:args.length≤fn.ntmps:=by simpa using hn
 refine rE U fun i=> ?_;rw [ja];simp only [dk,cn,ej];by_cases A:i < args.length
 · rw [Array.getElem?_append_left (by simpa using A),if_pos ab];simp [A]
 · rw [Array.getElem?_append_right (by simpa using A)];simp only [ej,Array.getElem?_replicate];by_cases C:i < fn.ntmps
   · rw [if_pos ab,if_pos C,List.getElem?_eq_none ab]; rfl
   · rw [if_neg ab,if_neg C]
abbrev Bm (P:an) (fn:gP) (R:ag→ah→Prop):ba→Act→ah→Prop :=bodyPostM eA 0 P fn (fun e w'=> ∃ v,e= .returned v∧R v w')
theorem zT {P:an} {f:dH} {N:Nat} {fn:gP} {c:bz} {args:List ag} {w:ah} {R:ag→ah→Prop} (F:List Nat) (C:P.funcs[f]? =some fn) (hb:fn.body=some c)
 (A:fn.ntmps=N) (hn:aZ args.length N=true) (h:gk P ⟨N,[],F,none⟩ c (Bm P fn R) (dk args) w):aR P f args.toArray w R:=by
 subst A;refine callsIn_wide.1<|callsIn_of_wp_marks (F:=eA) (n:=0) C hb trivial ?_;rw [nr fn args F hn];exact h
section
variable {P:an} {n:Nat} {F:List Nat} {σ:Nat→ag} {w:ah} {fn:gP} {R:ag→ah→Prop}
theorem Jk {e:ba} (he:e= .ret∨e= .normal) {v:ag} (hr:(results fn (act ⟨n,[],F,none⟩ σ).tmps).run P w= .ok v w) (A:R v w):qb ⟨n,[],F,none⟩ (Bm P fn R) e σ w:=by
 rcases he with rfl | rfl <;> exact ⟨v,hr,v,rfl,A⟩
theorem HN {t u:Nat} {v A:ag} (h:fn.results= #[.tmp t,.tmp u]) (E:ev ⟨n,[],F,none⟩ σ (.tmp t)=v) (hu:ev ⟨n,[],F,none⟩ σ (.tmp u)=A) (C:R (.tuple #[v,A]) w):qb ⟨n,[],F,none⟩ (Bm P fn R) .ret σ w:=
 Jk (.inl rfl) (by rw [results_tmp2 h,jt,jt,E,hu]) C
theorem AU {D:Nat} {v:ag} (A:w.heap[D]? =some (.deferred<|some [])) (hr:∀ w',(results fn (act ⟨n,[{target:= .collected D,args:= #[]}],F,none⟩ σ).tmps).run P w'= .ok v w') (C:R v (w.putObj D<|.deferred none)):
 qb ⟨n,[{target:= .collected D,args:= #[]}],F,none⟩ (Bm P fn R) .ret σ w:=
 ⟨FrameMode.noConfusion,.inl ⟨_,_,rfl,run_takeDeferred A,⟨v,hr _,v,rfl,C⟩⟩⟩
theorem HM {D t:Nat} {v:ag} (h:fn.results= #[.tmp t]) (E:ev ⟨n,[{target:= .collected D,args:= #[]}],F,none⟩ σ (.tmp t)=v) (A:w.heap[D]? =some (.deferred<|some [])) (C:R v (w.putObj D<|.deferred none)):
 qb ⟨n,[{target:= .collected D,args:= #[]}],F,none⟩ (Bm P fn R) .ret σ w:=
 AU A (fun w'=>by rw [results_tmp h,jt,E]) C
theorem HO {D t u:Nat} {v A:ag} (h:fn.results= #[.tmp t,.tmp u]) (I:ev ⟨n,[{target:= .collected D,args:= #[]}],F,none⟩ σ (.tmp t)=v) (hu:ev ⟨n,[{target:= .collected D,args:= #[]}],F,none⟩ σ (.tmp u)=A)
 (C:w.heap[D]? =some (.deferred<|some [])) (E:R (.tuple #[v,A]) (w.putObj D<|.deferred none)):qb ⟨n,[{target:= .collected D,args:= #[]}],F,none⟩ (Bm P fn R) .ret σ w:=
 AU C (fun w'=>by rw [results_tmp2 h,jt,jt,I,hu]) E
end
theorem oQ {w:ah} {B t size n pp E:Nat} {v:ag} {xs:List ag} {cs:Array ag} {z:Nat×Nat} (h:w.ownsRow B t size v n xs) (hp:w.heap[pp]? =some (.cells cs E z)) (J:t≠E):v.ownBlock≠some pp:=by
 intro A;rcases h.2 with ⟨C,_⟩ | ⟨g,cap,cur,C,_,I,_⟩
 · rw [C] at A; simp [cR] at A
 · rw [C] at A;simp only [cR,bp] at A;subst A;rw [I] at hp;simp only [bp,Obj.cells.injEq] at hp;exact J hp.2.1
section
variable {P:an} {N:Fm} {σ:Nat→ag} {w:ah} {dst:Option Nat} {ty:ak} {pos :String} {af:Array bM} {g:Option (Nat×Bool)} {x:aO} {K:(Nat→ag)→ah→Prop}
theorem rK {e:ak} {v:ag} (C:ev N σ x=v) (A:v.oneCell'=true) (k:∀ b w',b=w.heap.size→Nw w w'→w'.heap[b]? =some (.cells [v].toArray e (0,0))→K (cz σ dst<|.pointer<|some ⟨b,0,none⟩) w'):
 bI P N ⟨dst,.box e x,ty,pos,af,g⟩ σ w K:=by
 refine kB (v:=fun b=> .pointer<|some ⟨b,0,none⟩) (ob:= .cells [v].toArray e (0,0)) ?_ k;have :=me A;simp [execOp,Instr.box,C,this,newVar,newRow]
end
theorem na (w:ah) (k:Nat) (o:Obj):Md (fun j=>j=k) w (w.putObj k o):=
 ⟨rfl,rfl,by simp [World.putObj],fun j _ A=>jZ A⟩
def eo (w w':ah):Prop := ∀ (k:Nat) (o:Obj),w.heap[k]? =some o→((∀ cur e z,o≠.cells cur e z)∧∀ es c,o≠.map es c)→w'.heap[k]? =some o
theorem eo.trans {a b c:ah} (h:eo a b) (A:eo b c):eo a c:=fun k o C hn=>A k o (h k o C hn) hn
theorem eo.md {F:Nat→Prop} {w w':ah} (hm:Md F w w') (C:∀ k,F k→∃ cur e z,w.heap[k]? =some (.cells cur e z)):eo w w':=fun k o A hn=>by
 rw [hm.cP k (bJ.1 A).1 (fun E=>by obtain ⟨c,e,z,h⟩:=C k E; rw [A] at h; exact hn.1 _ _ _<|eX h)]; exact A
theorem eo.wk {w w':ah} (hm:Wk w w'):eo w w':=eo.md hm fun _ h=>h.elim
theorem qB {w:ah} {B e size n:Nat} {v:ag} {xs:List ag} (h:w.ownsRow B e size v n xs):∀ k,v.ownBlock=some k→∃ cur e z,w.heap[k]? =some (.cells cur e z):=by
 intro k A;rcases h.2 with ⟨rfl,_⟩ | ⟨g,cap,E,rfl,_,C,_⟩
 · simp [cR] at A
 · simp only [cR,bp] at A; subst A; exact ⟨_,_,_,C⟩
def yL {α:Type} (B:Nat) (A:List α→ah→Prop):Prop := ∀ pre W W' (F:Nat→Prop),A pre W→Md F W W'→(∀ k,F k→B≤k∧∀ cur e z,W.heap[k]?≠some (.cells cur e z))→A pre W'
section
variable {F:Nat→Prop} {W W':ah} {B:Nat}
theorem tB {b e:Nat} {cs:Array ag} {z:Nat×Nat} (h:W.heap[b]? =some (.cells cs e z)) (hm:Md F W W') (A:∀ k,F k→B≤k∧∀ cur e z,W.heap[k]?≠some (.cells cur e z)):W'.heap[b]? =some (.cells cs e z):=by
 rw [hm.cP b (bJ.1 h).1 (fun C=>(A b C).2 _ _ _ h)]; exact h
theorem Cy {B' e size n:Nat} {v:ag} {xs:List ag} (h:W.ownsRow B' e size v n xs) (hm:Md F W W') (C:∀ k,F k→B≤k∧∀ cur e z,W.heap[k]?≠some (.cells cur e z)):W'.ownsRow B' e size v n xs:=
 da h hm fun k I E=>by obtain ⟨c,e,z,A⟩:=qB h k I; exact (C k E).2 _ _ _ A
theorem Cz {w:ah} (h:Wk w W) (hm:Md F W W') (E:w.heap.size≤B) (A:∀ k,F k→B≤k∧∀ cur e z,W.heap[k]?≠some (.cells cur e z)):Wk w W':=Md.trans' h hm fun k I C=>by have :=(A k C).1; omega
end
def yH {α:Type} (P:an) (L:Nat) (M:Array ag) (J:α→Array ag) (xs:List α) (I:ah→Prop):Prop :=
 ∀ (l:Nat) (A:List α→ah→Prop) (W:ah),A [] W→(∀ pre W,A pre W→I W)→(∀ pre C E,A pre C→Wk C E→A pre E)→
   (∀ pre x rest C,xs=pre++x::rest→A pre C→YieldAt eA 0 P l (J x) C fun e W'=>e= .returned (.bool true)∧A (pre++ [x]) W')→
   Calls P L (#[.func (.yield l) #[] #[]]++M) W fun e W'=>(∃ v,e= .returned v)∧A xs W'
def BV (R:ah→Prop):ba→(Nat→ag)→ah→Prop
 | .normal,_,w=>R w
 | _,_,_=>False
theorem uK (N:Fm):∀ (l:List (Tmp×ag)) (σ:Nat→ag),l.foldl (fun t p=>t.setIfInBounds p.1 p.2) (act N σ).tmps=(act N<|l.foldl (fun s p=>aY s p.1 p.2) σ).tmps:=by
 intro l
 induction l with
 | nil=>intro σ; rfl
 | cons p l ih=>
   intro σ;rw [q9,q9,← ih];congr 1;have :=congrArg Act.tmps<|eC N σ (some p.1) p.2;exact this
theorem KO {α:Type} {P:an} {id n:Nat} {g:aO} {ps:Array Tmp} {ae body:bz} {Z:List Nat} {σ:Nat→ag} {w:ah} {B:ba→Act→ah→Prop} {aa:Nat} {ac:Array ag}
 (M:α→Array ag) (xs:List α) (aq:ah→Prop) (E:List α→ah→Prop) (aJ:ev ⟨n,[],Z,none⟩ σ g= .func (.func aa) #[] ac) (aF:eL P aa) (aR:∀ x,(M x).size=ps.size)
 (aL:yH P aa ac M xs aq) (aB:E [] w) (aG:∀ pre W,E pre W→aq W) (ak:yL w.heap.size E) (ay:α→Nat→ag)
 (ha:∀ (l:Nat) (x:α) (W:ah) (K:(Nat→ag)→ah→Prop),K (ay x) W→bg P ⟨n,[],[],some l⟩ ae (gi K fun _ _ _=>False) ((ps.toList.zip (M x).toList).foldl (fun s p=>aY s p.1 p.2) σ) W)
 (hb:∀ (l:Nat) (pre:List α) (x:α) (rest:List α) (W:ah),xs=pre++x::rest→E pre W→bg P ⟨n,[],[],some l⟩ body (BV fun W'=>eo W W'∧E (pre++ [x]) W') (ay x) W)
 (aH:∀ (D:Nat) (W:ah),w.heap.size≤D→E xs W→W.heap[D]? =some (.deferred<|some [])→qb ⟨n,[{target:= .collected D,args:= #[]}],Z,none⟩ B .normal σ W):
 gk P ⟨n,[],Z,none⟩ (.block id<|.rangeFunc g ps ae body) B σ w:=by
 refine wpIn_block<|wpIn_rangeFunc ?_;intro fn _;obtain ⟨rc,V⟩:∃ rc:LoopState→Option bz→Loop,rc=fun st aV=> {state:=st,pending:=aV,fn,tmps:=(act ⟨n,[],Z,none⟩ σ).tmps,params:=ps,assign:=ae,body,defers:=w.heap.size} :=⟨_,rfl⟩
 obtain ⟨I,al⟩:∃ I,(w.alloc<|.deferred<|some []).alloc (.loop<|rc .ready none)=I:=⟨_,rfl⟩
 have aE:I.heap[w.heap.size+1]? =some (.loop<|rc .ready none):=by
  rw [← al]; have :=ug (w.alloc<|.deferred<|some []) (.loop<|rc .ready none); rwa [ui] at this
 have aD:I.heap[w.heap.size]? =some (.deferred<|some []):=by
  rw [← al]; exact (Below.heap_alloc _ _ _<|by simp).trans<|ug w _
 have hn:∀ (W:ah) (o:Obj),Wk W (W.alloc o):=fun W o=>(wN W o).md;have aC:E [] I:=by rw [← al]; exact ak _ _ _ _ (ak _ _ _ _ aB (hn _ _) fun _ h=>h.elim) (hn _ _) fun _ h=>h.elim
 have aI:(act ⟨n,[],Z,none⟩ σ).eval g= .func (.func aa) #[] ac:=by rw [de]; exact aJ
 refine ⟨w.heap.size+1,[{target:= .collected w.heap.size,args:= #[]}],I,{target:= .fn (.func aa) ac,args:= #[.func (.yield<|w.heap.size+1) #[] #[]]},I,aa,
  #[.func (.yield<|w.heap.size+1) #[] #[]]++ac,I,?_,?_,fun _ _=>trivial,?_,fun h0=>(by cases h0),?_⟩
 · rw [← al,V]; exact run_enterLoop_outer _ _ _ _ _
 · simp only [resolve,aI];simp [go_sem]
 · have :=aF (#[.func (.yield<|w.heap.size+1) #[] #[]]++ac) I;simp [invoke,go_sem,this]
 · have ao:∀ (pre:List α) (W:ah) (o ap:Obj),E pre W→W.heap[w.heap.size+1]? =some o→(∀ cur e z,o≠.cells cur e z)→E pre (W.putObj (w.heap.size+1) ap):=fun pre W o ap ai aj aA=>
    ak _ _ _ _ ai (na W _ ap) fun k ad=>⟨ab,fun cur e z ar=>by subst ad; rw [aj] at ar; exact aA _ _ _<|eX ar⟩
   refine callsIn_wide.2 (gO (aL (w.heap.size+1)
    (fun pre W=>E pre W∧W.heap[w.heap.size+1]? =some (.loop<|rc .ready none)∧W.heap[w.heap.size]? =some (.deferred<|some []))
    I ⟨aC,aE,aD⟩ (fun pre W h=>aG pre W h.1)
    (fun pre A C h hm=>⟨ak _ _ _ _ h.1 hm (fun _ h=>h.elim),(hm.cP _ (bJ.1 h.2.1).1 fun h=>h).trans h.2.1,(hm.cP _ (bJ.1 h.2.2).1 fun h=>h).trans h.2.2⟩) ?_) ?_)
   · rintro pre x rest W aU ⟨hi,O,ad⟩;have aQ:w.heap.size+1 < W.heap.size:=(bJ.1 O).1;have aw:=run_yield (P:=P) (args:=M x) O<|by rw [V]; exact aR x
     rw [V] at aw;refine ⟨fn,_,ae,body,aw,roundIn_of_wpIn (F:=eA) trivial ?_⟩;have aS:((ps.zip<|M x).foldl (fun tmps (p:Tmp×ag)=>tmps.setIfInBounds p.1 p.2) (act ⟨n,[],Z,none⟩ σ).tmps)=(act ⟨n,[],[],some<|w.heap.size+1⟩<|(ps.toList.zip (M x).toList).foldl (fun s p=>aY s p.1 p.2) σ).tmps:=by
      rw [← tS,Dm];exact uK ⟨n,[],[],some<|w.heap.size+1⟩ _ σ
     have ai:=ha (w.heap.size+1) x W (fun σ' W'=> ∃ ax,(DD<|w.heap.size+1).run P W'= .ok () ax∧
      body.wpIn (eA.inRound<|w.heap.size+1) 0 P (roundPost P (w.heap.size+1) fun e W'=>e= .returned (.bool true)∧E (pre++ [x]) W'∧W'.heap[w.heap.size+1]? =some (.loop<|rc .ready none)∧W'.heap[w.heap.size]? =some (.deferred<|some [])) (act ⟨n,[],[],some<|w.heap.size+1⟩ σ') ax) ?_
     · unfold bg at ai;have az:({tmps:=(ps.zip<|M x).foldl (fun tmps (p:Tmp×ag)=>tmps.setIfInBounds p.1 p.2) (act ⟨n,[],Z,none⟩ σ).tmps,defers:= []} :Act)=act ⟨n,[],[],some<|w.heap.size+1⟩ ((ps.toList.zip (M x).toList).foldl (fun s p=>aY s p.1 p.2) σ):=by rw [aS]; rfl
       rw [az];refine wpIn_mono ai ?_;intro e a w' J;cases e with
       | normal=>obtain ⟨σ',rfl,L⟩:=J; exact L
       | panic c=>obtain ⟨σ',rfl,L⟩:=J; exact L σ' fun _ _=>rfl
       | outgrown=>exact J.elim
       | _=>obtain ⟨σ',rfl,L⟩:=J; exact L
     refine ⟨_,run_beginRound O (by rw [V]),?_⟩;have aP:(W.putObj (w.heap.size+1)<|.loop {rc .ready none with state:= .busy}).heap[w.heap.size+1]? =some (.loop {rc .ready none with state:= .busy}):=nS aQ;have aM:(W.putObj (w.heap.size+1)<|.loop {rc .ready none with state:= .busy}).heap[w.heap.size]? =some (.deferred<|some []):=(jZ ab).trans ad;have aj:=hb (w.heap.size+1) pre x rest _ aU<|ao _ _ _ (.loop {rc .ready none with state:= .busy}) hi O fun _ _ _ h=>by cases h
     unfold bg at aj;refine wpIn_mono aj ?_;intro e a aX J;cases e with
     | normal=>
       obtain ⟨σ',rfl,au,aK⟩:=J;have am:=au _ _ aP ⟨(fun _ _ _ h=>by cases h),fun _ _ h=>by cases h⟩;have aN:=au _ _ aM ⟨(fun _ _ _ h=>by cases h),fun _ _ h=>by cases h⟩;have hr:=run_endRound (P:=P) none am;rw [V] at hr am ⊢;exact ⟨_,_,hr,U,ao _ _ _ _ aK am (fun _ _ _ h=>by cases h),nS (bJ.1 am).1,(jZ ab).trans aN⟩
     | panic c=>obtain ⟨σ',rfl,L⟩:=J; exact (L σ' fun _ _=>rfl).elim
     | outgrown=>exact J.elim
     | _=>obtain ⟨σ',rfl,L⟩:=J; exact L.elim
   · rintro e aW ⟨⟨v,rfl⟩,hi,O,ad⟩;have av:=run_endLoop (P:=P) O<|by rw [V]; simp
     rw [V] at av;refine ⟨none,_,av,?_⟩;rw [V] at O;exact aH w.heap.size _ (aT _) (ao _ _ _ _ hi O fun _ _ _ h=>by cases h)<|(jZ ab).trans ad
section
variable {P:an} {N:Fm} {ops:Array ar} {Q:ba→(Nat→ag)→ah→Prop} {rest:List ar} {σ:Nat→ag} {w:ah} {d':Option Nat} {d:Nat} {op:Op} {ty:ak} {pos :String} {af:Array bM} {v:ag}
def kA (P:an) (N:Fm) (ops:Array ar) (Q:ba→(Nat→ag)→ah→Prop) (l:List ar) (σ:Nat→ag) (w:ah):Prop :=wpListIn (fe N.r) 0 P ops (lift N Q) l (act N σ) w
theorem BT {id:Nat} {l:List ar} (h:kA P N l.toArray Q l σ w):bg P N (.region id l.toArray false) Q σ w:=by
 unfold bg; exact wpIn_region_lit h
theorem Bq (h:Q .normal σ w):kA P N ops Q [] σ w:=⟨σ,rfl,h⟩
def wF (o:Op):Bool:=match o with | .defer _=>false | _=>true
theorem JZ {o:Op} (h:wF o=true):∀ c,o≠.defer c:=fun c e=>by subst e; cases h
theorem ey (hn:wF op=true) (h:bI P N ⟨d',op,ty,pos,af,none⟩ σ w (fun σ w=>kA P N ops Q rest σ w)):kA P N ops Q (⟨d',op,ty,pos,af,none⟩::rest) σ w:=by
 unfold kA wpListIn;rw [if_pos (fj _ rfl _)];refine ⟨fun f _=>ka _ f,?_⟩;rw [mO,q4 _ _ _ (JZ hn)];unfold bI gp at h;generalize (execOp (act N σ).eval ⟨d',op,ty,pos,af,none⟩).run P w=x at h ⊢;cases x with
 | ok n w'=>
   cases n <;> simp only [iy,pB] at h ⊢ <;>
    first
     | (obtain ⟨σ',ha,A⟩:=h; rw [ha]; exact A)
     | (refine ⟨fun h0=>(by rw [mN] at h0; cases h0),CallsIn.mono (sc h) fun e w'' he=> ?_⟩
        cases e with
        | returned v=>obtain ⟨σ',ha,A⟩:=he; simp only; rw [ha]; exact A
        | panicked c=>exact he.elim
        | outgrown=>obtain ⟨_,_,C⟩:=he; exact C.elim)
     | (refine ⟨fun h0=>(by rw [mN] at h0; cases h0),RowsIn.mono (Aa h) fun v w'' he=> ?_⟩
        obtain ⟨σ',ha,A⟩:=he; rw [ha]; exact A)
 | halt x w'=>cases x <;> simp only [iy] at h
theorem py (hn:wF op=true) (h:(execOp (ev N σ) ⟨some d,op,ty,pos,af,none⟩).run P w= .ok (.value v) w) (k:kA P N ops Q rest (aY σ d v) w):kA P N ops Q (⟨some d,op,ty,pos,af,none⟩::rest) σ w:=
 ey hn (iu h k)
theorem Df {l:Nat} {fo:aO} {args:Array aO} {A:Array ak} {L:List ag} {R:ah→Prop} (M:ev N σ fo= .func (.yield l) #[] #[]) (I:args.toList.map (ev N σ)=L)
 (U:YieldAt eA 0 P l L.toArray w fun e W'=>e= .returned (.bool true)∧R W') (k:∀ W',R W'→kA P N ops Q rest (aY σ d<|.bool true) W'):
 kA P N ops Q (⟨some d,.call ⟨.value fo,args,A⟩,ty,pos,af,none⟩::rest) σ w:=by
 obtain ⟨fn,tmps,a,b,J,C⟩:=U;unfold kA wpListIn;rw [if_pos (fj _ rfl _)];refine ⟨fun f _=>ka _ f,?_⟩;rw [mO,q4 _ _ _ (fun c e=>by cases e),de];have hm:args.map (ev N σ)=L.toArray:=by rw [← I,← gN]
 have O:(execOp (ev N σ) ⟨some d,.call ⟨.value fo,args,A⟩,ty,pos,af,none⟩).run P w= .ok (.round l fn tmps a b) w:=by
  simp [execOp,resolve,M,kD,invoke,hm,J]
 rw [O];simp only [pB];refine ⟨fun h0=>(by rw [mN] at h0; cases h0),?_⟩;have E:RoundIn (fe N.r) (0 - 1) P l fn tmps a b w fun e W'=>e= .returned (.bool true)∧R W':=by
  cases hr:N.r with
  | none=>exact C
  | some k=>exact C
 refine RoundIn.mono E ?_;rintro e W' ⟨rfl,hw⟩;simp only;rw [eC];exact k W' hw
end
end Go.Hb
end
namespace Go.Hb
def yI {α:Type} (P:an) (L:Nat) (M:Array ag) (J:α→Array ag) (Ok:List α→α→Prop) (Fin:List α→Prop) (I:ah→Prop):Prop :=
 ∀ (l:Nat) (A:List α→ah→Prop) (W:ah),A [] W→(∀ pre W,A pre W→I W)→(∀ pre C E (F:Nat→Prop),A pre C→Md F C E→(∀ k,F k→W.heap.size≤k∧∀ cur e z,C.heap[k]?≠some (.cells cur e z))→A pre E)→
   (∀ pre x C,Ok pre x→A pre C→YieldAt eA 0 P l (J x) C fun e W'=>e= .returned (.bool true)∧eo C W'∧A (pre++ [x]) W')→
   Calls P L (#[.func (.yield l) #[] #[]]++M) W fun e W'=>(∃ v,e= .returned v)∧∃ xs,Fin xs∧A xs W'
theorem KP {α:Type} {P:an} {id n:Nat} {g:aO} {ps:Array Tmp} {aj body:bz} {aa:List Nat} {σ:Nat→ag} {w:ah} {B:ba→Act→ah→Prop} {ac:Nat} {ad:Array ag}
 (V:α→Array ag) (Ok:List α→α→Prop) (Fin:List α→Prop) (aw:ah→Prop) (E:List α→ah→Prop) (aM:ev ⟨n,[],aa,none⟩ σ g= .func (.func ac) #[] ad) (aI:eL P ac) (aW:∀ x,(V x).size=ps.size)
 (aP:yI P ac ad V Ok Fin aw) (aE:E [] w) (aJ:∀ pre W,E pre W→aw W) (ao:yL w.heap.size E) (aB:α→Nat→ag)
 (ha:∀ (l:Nat) (x:α) (W:ah) (K:(Nat→ag)→ah→Prop),K (aB x) W→bg P ⟨n,[],[],some l⟩ aj (gi K fun _ _ _=>False) ((ps.toList.zip (V x).toList).foldl (fun s p=>aY s p.1 p.2) σ) W)
 (hb:∀ (l:Nat) (pre:List α) (x:α) (W:ah),Ok pre x→E pre W→bg P ⟨n,[],[],some l⟩ body (BV fun W'=>eo W W'∧E (pre++ [x]) W') (aB x) W)
 (aK:∀ (D:Nat) (W:ah) (xs:List α),Fin xs→w.heap.size≤D→E xs W→W.heap[D]? =some (.deferred<|some [])→qb ⟨n,[{target:= .collected D,args:= #[]}],aa,none⟩ B .normal σ W):
 gk P ⟨n,[],aa,none⟩ (.block id<|.rangeFunc g ps aj body) B σ w:=by
 refine wpIn_block<|wpIn_rangeFunc ?_;intro fn _;obtain ⟨rc,O⟩:∃ rc:LoopState→Option bz→Loop,rc=fun st a0=> {state:=st,pending:=a0,fn,tmps:=(act ⟨n,[],aa,none⟩ σ).tmps,params:=ps,assign:=aj,body,defers:=w.heap.size} :=⟨_,rfl⟩
 obtain ⟨I,ae⟩:∃ I,(w.alloc<|.deferred<|some []).alloc (.loop<|rc .ready none)=I:=⟨_,rfl⟩
 have aH:I.heap[w.heap.size+1]? =some (.loop<|rc .ready none):=by
  rw [← ae]; have :=ug (w.alloc<|.deferred<|some []) (.loop<|rc .ready none); rwa [ui] at this
 have aG:I.heap[w.heap.size]? =some (.deferred<|some []):=by
  rw [← ae]; exact (Below.heap_alloc _ _ _<|by simp).trans<|ug w _
 have a3:I.heap.size=w.heap.size+2:=by rw [← ae,ui,ui]
 have hn:∀ (W:ah) (o:Obj),Wk W (W.alloc o):=fun W o=>(wN W o).md;have aF:E [] I:=by rw [← ae]; exact ao _ _ _ _ (ao _ _ _ _ aE (hn _ _) fun _ h=>h.elim) (hn _ _) fun _ h=>h.elim
 have aL:(act ⟨n,[],aa,none⟩ σ).eval g= .func (.func ac) #[] ad:=by rw [de]; exact aM
 refine ⟨w.heap.size+1,[{target:= .collected w.heap.size,args:= #[]}],I,{target:= .fn (.func ac) ad,args:= #[.func (.yield<|w.heap.size+1) #[] #[]]},I,ac,
  #[.func (.yield<|w.heap.size+1) #[] #[]]++ad,I,?_,?_,fun _ _=>trivial,?_,fun h0=>(by cases h0),?_⟩
 · rw [← ae,O]; exact run_enterLoop_outer _ _ _ _ _
 · simp only [resolve,aL];simp [go_sem]
 · have :=aI (#[.func (.yield<|w.heap.size+1) #[] #[]]++ad) I;simp [invoke,go_sem,this]
 · have au:∀ (pre:List α) (W:ah) (o av:Obj),E pre W→W.heap[w.heap.size+1]? =some o→(∀ cur e z,o≠.cells cur e z)→E pre (W.putObj (w.heap.size+1) av):=fun pre W o av ak al aD=>
    ao _ _ _ _ ak (na W _ av) fun k Z=>⟨ab,fun cur e z ax=>by subst Z; rw [al] at ax; exact aD _ _ _<|eX ax⟩
   refine callsIn_wide.2 (gO (aP (w.heap.size+1)
    (fun pre W=>E pre W∧W.heap[w.heap.size+1]? =some (.loop<|rc .ready none)∧W.heap[w.heap.size]? =some (.deferred<|some []))
    I ⟨aF,aH,aG⟩ (fun pre W h=>aJ pre W h.1)
    (fun pre A C F h hm am=>⟨ao _ _ _ _ h.1 hm (fun k Z=>⟨by have :=(am k Z).1; omega,(am k Z).2⟩),(hm.cP _ (bJ.1 h.2.1).1 fun h=>by have :=(am _ h).1; omega).trans h.2.1,(hm.cP _ (bJ.1 h.2.2).1 fun h=>by have :=(am _ h).1; omega).trans h.2.2⟩) ?_) ?_)
   · rintro pre x W aZ ⟨hi,J,Z⟩;have aU:w.heap.size+1 < W.heap.size:=(bJ.1 J).1;have az:=run_yield (P:=P) (args:=V x) J<|by rw [O]; exact aW x
     rw [O] at az;refine ⟨fn,_,aj,body,az,roundIn_of_wpIn (F:=eA) trivial ?_⟩;have aX:((ps.zip<|V x).foldl (fun tmps (p:Tmp×ag)=>tmps.setIfInBounds p.1 p.2) (act ⟨n,[],aa,none⟩ σ).tmps)=(act ⟨n,[],[],some<|w.heap.size+1⟩<|(ps.toList.zip (V x).toList).foldl (fun s p=>aY s p.1 p.2) σ).tmps:=by
      rw [← tS,Dm];exact uK ⟨n,[],[],some<|w.heap.size+1⟩ _ σ
     have ak:=ha (w.heap.size+1) x W (fun σ' W'=> ∃ aA,(DD<|w.heap.size+1).run P W'= .ok () aA∧
      body.wpIn (eA.inRound<|w.heap.size+1) 0 P (roundPost P (w.heap.size+1) fun e W'=>e= .returned (.bool true)∧eo W W'∧E (pre++ [x]) W'∧W'.heap[w.heap.size+1]? =some (.loop<|rc .ready none)∧W'.heap[w.heap.size]? =some (.deferred<|some [])) (act ⟨n,[],[],some<|w.heap.size+1⟩ σ') aA) ?_
     · unfold bg at ak;have aC:({tmps:=(ps.zip<|V x).foldl (fun tmps (p:Tmp×ag)=>tmps.setIfInBounds p.1 p.2) (act ⟨n,[],aa,none⟩ σ).tmps,defers:= []} :Act)=act ⟨n,[],[],some<|w.heap.size+1⟩ ((ps.toList.zip (V x).toList).foldl (fun s p=>aY s p.1 p.2) σ):=by rw [aX]; rfl
       rw [aC];refine wpIn_mono ak ?_;intro e a w' L;cases e with
       | normal=>obtain ⟨σ',rfl,M⟩:=L; exact M
       | panic c=>obtain ⟨σ',rfl,M⟩:=L; exact M σ' fun _ _=>rfl
       | outgrown=>exact L.elim
       | _=>obtain ⟨σ',rfl,M⟩:=L; exact M
     refine ⟨_,run_beginRound J (by rw [O]),?_⟩;have aS:(W.putObj (w.heap.size+1)<|.loop {rc .ready none with state:= .busy}).heap[w.heap.size+1]? =some (.loop {rc .ready none with state:= .busy}):=nS aU;have aQ:(W.putObj (w.heap.size+1)<|.loop {rc .ready none with state:= .busy}).heap[w.heap.size]? =some (.deferred<|some []):=(jZ ab).trans Z;have al:=hb (w.heap.size+1) pre x _ aZ<|au _ _ _ (.loop {rc .ready none with state:= .busy}) hi J fun _ _ _ h=>by cases h
     unfold bg at al;refine wpIn_mono al ?_;intro e a a2 L;cases e with
     | normal=>
       obtain ⟨σ',rfl,ar,aN⟩:=L;have ai:=ar _ _ aS ⟨(fun _ _ _ h=>by cases h),fun _ _ h=>by cases h⟩;have aR:=ar _ _ aQ ⟨(fun _ _ _ h=>by cases h),fun _ _ h=>by cases h⟩;have hr:=run_endRound (P:=P) none ai;rw [O] at hr ai ⊢;refine ⟨_,_,hr,U,fun k o aq aV=> ?_,au _ _ _ _ aN ai (fun _ _ _ h=>by cases h),nS (bJ.1 ai).1,(jZ ab).trans aR⟩;by_cases ap:k=w.heap.size+1
       · subst ap;rw [J,O] at aq;rw [← aq];exact nS (bJ.1 ai).1
       · exact (jZ ap).trans<|ar k o ((jZ ap).trans aq) aV
     | panic c=>obtain ⟨σ',rfl,M⟩:=L; exact (M σ' fun _ _=>rfl).elim
     | outgrown=>exact L.elim
     | _=>obtain ⟨σ',rfl,M⟩:=L; exact M.elim
   · rintro e a1 ⟨⟨v,rfl⟩,xs,hfin,hi,J,Z⟩;have ay:=run_endLoop (P:=P) J<|by rw [O]; simp
     rw [O] at ay;refine ⟨none,_,ay,?_⟩;rw [O] at J;exact aK w.heap.size _ xs hfin (aT _) (au _ _ _ _ hi J fun _ _ _ h=>by cases h)<|(jZ ab).trans Z
end Go.Hb
section
namespace Go.Hb
section
variable {P:an} {N:Fm} {σ:Nat→ag} {w:ah} {fn:gP} {R:ag→ah→Prop}
theorem JF {t b off :Nat} {v:ag} (hu:c9 P t=some none) (A:Hb.ay w.heap b off =some v):(loadVar t ⟨b,off,none⟩).run P w= .ok v w:=by
 have C:w.cell? ⟨b,off,none⟩=some v:=by rw [hZ]; exact A
 unfold c9 at hu;cases hd:P.underlying t with
 | none=>rw [hd] at hu; cases hu
 | some d=>
   rw [hd] at hu;cases d <;> first
    | (simp only [fU] at hu; obtain ⟨_,_,h⟩:=hu; cases h; done)
    | simp [loadVar,isAgg,bh hd,run_load,C]
theorem JG {t n b off :Nat} {cs:List ag} (hu:c9 P t=some (some n)) (I:cs.length=n) (C:∀ j,j < n→Hb.ay w.heap b (off+j)=cs[j]?):(loadVar t ⟨b,off,none⟩).run P w= .ok (.agg cs.toArray) w:=by
 have E:(loadCells ⟨b,off,none⟩ n).run P w= .ok cs.toArray w:=by
  subst I;refine run_loadCells_list (P:=P) w ⟨b,off,none⟩ cs fun j v A=> ?_;rw [dO,hZ];exact (C j (cB.1 A).1).trans A
 unfold c9 at hu;cases hd:P.underlying t with
 | none=>rw [hd] at hu; cases hu
 | some d=>
   rw [hd] at hu;cases hi:P.info? t with
   | none=>simp [DQ,hi] at hd
   | some i=>
     rw [hi] at hu;cases d <;> first
      | (cases hu; done)
      | (simp only [dJ,bp] at hu; subst hu
         simp [loadVar,isAgg,bh hd,sizeOf,di hi,E])
def lM (P:an) (N:Fm) (σ:Nat→ag) (w:ah):ResultVar→ag→Prop
 | .tmp t,v=>ev N σ (.tmp t)=v
 | .cell a t,v=> ∃ ad,ev N σ (.tmp a)= .pointer (some ad)∧(loadVar t ad).run P w= .ok v w
theorem tk {t:Tmp} :lM P N σ w (.tmp t) (ev N σ<|.tmp t):=rfl
theorem jr {a t b off :Nat} {v:ag} (C:ev N σ (.tmp a)= .pointer (some ⟨b,off,none⟩)) (hu:c9 P t=some none) (A:Hb.ay w.heap b off =some v):lM P N σ w (.cell a t) v:=⟨_,C,JF hu A⟩
theorem nj {a t n b off :Nat} {cs:List ag} (E:ev N σ (.tmp a)= .pointer (some ⟨b,off,none⟩)) (hu:c9 P t=some (some n)) (C:cs.length=n) (A:∀ j,j < n→Hb.ay w.heap b (off+j)=cs[j]?):lM P N σ w (.cell a t) (.agg cs.toArray):=⟨_,E,JG hu C A⟩
def nk (tmps:Array ag):ResultVar→Sem ag
 | .tmp t=>pure<|tmps.getD t undef
 | .cell a t=>do loadVar t (← asAddr (tmps.getD a undef))
theorem kq {r:ResultVar} {v:ag} (h:lM P N σ w r v):(nk (act N σ).tmps r).run P w= .ok v w:=by
 cases r with
 | tmp t=>
   show jY P (pure<|(act N σ).tmps.getD t undef) w=_;rw [jt]; simp only [lM] at h; rw [h]; rfl
 | cell a t=>
   obtain ⟨ad,A,C⟩:=h;show jY P (do loadVar t (← asAddr ((act N σ).tmps.getD a undef))) w=_;rw [jt,A];simp [asAddr,C]
theorem tj {tmps:Array ag} {r s:ResultVar} {v u:ag} (h:fn.results= #[r,s]) (A:(nk tmps r).run P w= .ok v w) (C:(nk tmps s).run P w= .ok u w):(results fn tmps).run P w= .ok (.tuple #[v,u]) w:=by
 have E:(results fn tmps)=(do let vs ← #[r,s].mapM (nk tmps); pure (if h:vs.size=1 then vs[0] else .tuple vs)):=by
  unfold results; rw [h]; rfl
 rw [E]; simp [List.mapM_toArray,A,C]
theorem vv {r s:ResultVar} {v u:ag} (h:fn.results= #[r,s]) (A:lM P N σ w r v) (C:lM P N σ w s u) (E:R (.tuple #[v,u]) w):fin P fn N R .ret σ w:=⟨_,tj h (kq A) (kq C),E⟩
end
end Go.Hb
end
section
namespace Go.Hb
def mF (P:an) (f:dH) (args:Array ag) (w:ah) (R:ag→ah→Prop) (A:List PanicEntry→ah→Prop):Prop :=
 Calls P f args w fun e w'=>(∃ v,e= .returned v∧R v w')∨∃ c,e= .panicked c∧A c w'
def Ae (P:an) (fn:gP) (N:Fm) (R:ag→ah→Prop) (A:List PanicEntry→ah→Prop):ba→(Nat→ag)→ah→Prop
 | .normal,σ,w=> ∃ v,(results fn (act N σ).tmps).run P w= .ok v w∧R v w
 | .ret,σ,w=> ∃ v,(results fn (act N σ).tmps).run P w= .ok v w∧R v w
 | .panic c,_,w=>A c w
 | _,_,_=>False
theorem pZ {P:an} {fn:gP} {N:Fm} {R:ag→ah→Prop} {A:List PanicEntry→ah→Prop} {e:ba} {σ:Nat→ag} {w:ah} (h:fin P fn N R e σ w):Ae P fn N R A e σ w:=by
 cases e <;> first | exact h | exact h.elim
theorem pV {P:an} {f:dH} {N:Nat} {fn:gP} {c:bz} {args:List ag} {w:ah} {R:ag→ah→Prop} {I:List PanicEntry→ah→Prop} (L:P.funcs[f]? =some fn) (hb:fn.body=some c)
 (J:fn.ntmps=N) (hn:aZ args.length N=true) (h:bg P ⟨N,[],[],none⟩ c (Ae P fn ⟨N,[],[],none⟩ R I) (dk args) w):mF P f args.toArray w R I:=by
 subst J;refine calls_of_wp L hb ?_;rw [nr fn args [] hn];unfold bg at h;refine Dw ?_<|wpIn_wide.1 h;intro e a w A;cases e with
 | normal=>obtain ⟨σ,rfl,v,hr,E⟩:=A; exact ⟨rfl,v,hr,.inl ⟨v,rfl,E⟩⟩
 | ret=>obtain ⟨σ,rfl,v,hr,E⟩:=A; exact ⟨rfl,v,hr,.inl ⟨v,rfl,E⟩⟩
 | exit id=>obtain ⟨σ,rfl,C⟩:=A; exact C.elim
 | goto l=>obtain ⟨σ,rfl,C⟩:=A; exact C.elim
 | panic c=>obtain ⟨σ,rfl,C⟩:=A; exact ⟨rfl,.inr ⟨c,rfl,C σ fun _ _=>rfl⟩⟩
 | outgrown=>exact A.elim
section
variable {P:an} {N:Fm} {Q:ba→(Nat→ag)→ah→Prop} {σ:Nat→ag} {w:ah} {ops:Array ar} {rest:List ar} {dst:Option Nat} {ty:ak} {pos :String} {af:Array bM} {g:Option (Nat×Bool)} {x:aO}
def nC (P:an) (N:Fm) (o:ar) (σ:Nat→ag) (w:ah) (K:(Nat→ag)→ah→Prop) (A:List PanicEntry→ah→Prop):Prop :=
 gp P o (act N σ) w (fun a w=> ∃ σ,a=act N σ∧K σ w) (fun e a w=>match e with | .panic c=>a=act N σ∧A c w | _=>False)
theorem x8 {o:ar} {K:(Nat→ag)→ah→Prop} {C:List PanicEntry→ah→Prop} {A:Act→ah→Prop} (h:nC P N o σ w K C) (L:∀ σ w,K σ w→A (act N σ) w) (hp:∀ c w',C c w'→∀ σ',(∀ i∈N.F,σ' i=σ i)→Q (.panic c) σ' w'):o.wp P (act N σ) w A (lift N Q):=by
 unfold nC at h;unfold gp at*;generalize (execOp (act N σ).eval o).run P w=r at h ⊢;have E:∀ a w,(∃ σ,a=act N σ∧K σ w)→A a w:=by rintro a w ⟨σ,rfl,h⟩; exact L _ _ h
 have I:∀ c (a:Act) w',(a=act N σ∧C c w')→lift N Q (.panic c) a w':=by rintro c a w' ⟨rfl,h⟩; exact ⟨σ,rfl,hp c w' h⟩
 cases r with
 | ok n w'=>
   cases n <;> simp only [iy] at h ⊢ <;>
    first
     | exact E _ _ h
     | exact gO h (fun e w'' he=>by
      cases e with
      | returned v=>exact E _ _ he
      | panicked c=>exact I _ _ _ ⟨rfl,he.2⟩
      | outgrown=>obtain ⟨_,_,J⟩:=he; exact J.elim)
     | exact yq h fun _ _ he=>E _ _ he
 | halt x w'=>cases x <;> simp only [iy] at h ⊢ <;> exact I _ _ _ ⟨rfl,h.2⟩
theorem eh {f:dH} {args:Array aO} {C:Array ak} {L:List ag} {R:ag→ah→Prop} {A:List PanicEntry→ah→Prop} {K:(Nat→ag)→ah→Prop} (O:eL P f) (hr:mF P f L.toArray w R A) (I:args.toList.map (ev N σ)=L)
 (k:∀ v w',R v w'→K (cz σ dst v) w'):nC P N ⟨dst,.call ⟨.value (.func f),args,C⟩,ty,pos,af,g⟩ σ w K A:=by
 unfold nC gp;have hm:args.map (ev N σ)=L.toArray:=by rw [← I,← gN]
 have U:(execOp (ev N σ) ⟨dst,.call ⟨.value (.func f),args,C⟩,ty,pos,af,g⟩).run P w= .ok (.enter f L.toArray) w:=by
  have E:=O L.toArray w;simp [execOp,resolve,ev,kD,invoke,hm,E]
 rw [de,U];simp only [iy];refine gO hr ?_;rintro e w' (⟨v,rfl,M⟩ | ⟨c,rfl,J⟩)
 · exact ⟨_,eC ..,k v w' M⟩
 · exact ⟨trivial,J⟩
theorem eP {o:ar} {A:List PanicEntry→ah→Prop} (E:o.guard=none) (h:nC P N o σ w (fun σ w=>bK P N ops Q rest σ w) A) (hp:∀ c w',A c w'→∀ σ',(∀ i∈N.F,σ' i=σ i)→Q (.panic c) σ' w'):bK P N ops Q (o::rest) σ w:=by
 unfold bK wpList;rw [if_pos (fj o E _)];refine .inl<|x8 h (fun σ w C=> ?_) hp;unfold bK at C; exact C
theorem Ku {t:ak} {v:ag} (A:ev N σ x= .iface t v) (hp:∀ σ',(∀ i∈N.F,σ' i=σ i)→Q (.panic [{v:= .iface t v,recovered:=false}]) σ' w):bK P N ops Q (⟨dst,.panic x,ty,pos,af,none⟩::rest) σ w:=by
 unfold bK wpList;rw [if_pos (fj _ rfl _)];refine .inl ?_;unfold gp;have hr:(execOp (ev N σ) ⟨dst,.panic x,ty,pos,af,none⟩).run P w= .halt (.panic<|.iface t v) w:=by
  simp [execOp,A,Instr.panic]
 rw [de,hr];exact ⟨σ,U,hp⟩
theorem JP {t:ak} {d:TypeDesc} {v:ag} (hu:P.underlying t=some d) (A:(match d with | .interface _=>false | _=>true)=true) (C:ev N σ x=v):(execOp (ev N σ) ⟨dst,.makeInterface t x,ty,pos,af,g⟩).run P w= .ok (.value<|.iface t v) w:=by
 cases d <;> first | (cases A; done) | simp [execOp,Instr.makeInterface,C,bh hu]
def kg (P:an) (t:ak):Bool:=match P.underlying t with | some (.interface _)=>false | some _=>true | none=>false
theorem wA {t:ak} {v:ag} (h:kg P t=true) (A:ev N σ x=v):(execOp (ev N σ) ⟨dst,.makeInterface t x,ty,pos,af,g⟩).run P w= .ok (.value<|.iface t v) w:=by
 unfold kg at h;cases hd:P.underlying t with
 | none=>rw [hd] at h; cases h
 | some d=>rw [hd] at h; exact JP hd (by cases d <;> first | rfl | cases h) A
theorem CE {xt a:ak} {zv:ag} (hu:kg P a=true) (C:zeroV P a=some zv) (A:ev N σ x= .nilIface):(execOp (ev N σ) ⟨dst,.typeAssert x xt a true,ty,pos,af,g⟩).run P w= .ok (.value<|.tuple #[zv,.bool false]) w:=by
 unfold kg at hu;cases hd:P.underlying a with
 | none=>rw [hd] at hu; cases hu
 | some d=>rw [hd] at hu; cases d <;> first | (cases hu; done) | simp [execOp,DK,A,bh hd,ye C]
theorem CD {xt a:ak} {v:ag} (hu:kg P a=true) (A:ev N σ x= .iface a v):(execOp (ev N σ) ⟨dst,.typeAssert x xt a true,ty,pos,af,g⟩).run P w= .ok (.value<|.tuple #[v,.bool true]) w:=by
 unfold kg at hu;cases hd:P.underlying a with
 | none=>rw [hd] at hu; cases hu
 | some d=>rw [hd] at hu; cases d <;> first | (cases hu; done) | simp [execOp,DK,A,bh hd]
variable {S:ah→Prop} {fuel:Nat} {listed:Array Bool}
theorem ID {o:ar} {C:List PanicEntry→ah→Prop} (i:Nat) (hi:ops[i]? =some o) (hr:jn ops listed i=true) (E:o.guard=none)
 (h:nC P N o σ w (fun σ w=>S w∧cm P N ops Q S fuel (listed.setIfInBounds i true) σ w) C) (hp:∀ c w',C c w'→∀ σ',(∀ i∈N.F,σ' i=σ i)→Q (.panic c) σ' w'):cm P N ops Q S (fuel+1) listed σ w:=by
 unfold cm at*;refine wpAnyH_all (rs:= [i]) (by simpa [jn] using hr) (by simp) ?_;intro k A;obtain rfl :k=i:=by simpa using A
 unfold wpOp;simp only [hi];rw [if_pos (fj _ E _)];exact .inl<|x8 h (fun σ w A=>A) hp
end
section
variable {P:an} {N:Fm} {Q:ba→(Nat→ag)→ah→Prop} {σ:Nat→ag} {w:ah} {ops:Array ar} {S:ah→Prop} {fuel:Nat} {listed:Array Bool}
end
section
variable {P:an} {N:Fm} {Q:ba→(Nat→ag)→ah→Prop} {σ:Nat→ag} {w:ah} {ops:Array ar} {S:ah→Prop} {fuel r:Nat} {listed:Array Bool}
theorem Jl {o:ar} {C:List PanicEntry→ah→Prop} (i:Nat) (hi:ops[i]? =some o) (hr:jn ops listed i=true) (I:o.guard=none)
 (h:nC P N o σ w (fun σ w=>S w∧bV P N ops Q S r fuel (listed.setIfInBounds i true) σ w) C) (hp:∀ c w',C c w'→∀ σ',(∀ i∈N.F,σ' i=σ i)→Q (.panic c) σ' w'):bV P N ops Q S r (fuel+1) listed σ w:=by
 unfold bV at*;have E:dV .any ops listed= [i]:=by simpa [jn] using hr
 refine ⟨fun h0=>absurd (E ▸ h0) (by simp),fun k A=> ?_⟩;rw [E] at A;obtain rfl :k=i:=by simpa using A
 unfold wpOp;simp only [hi];rw [if_pos (fj _ I _)];exact .inl<|x8 h (fun σ w A=>⟨fun _=>A.1,A.2⟩) hp
end
abbrev lJ (P:an) (fn:gP) (R:ag→ah→Prop):ba→Act→ah→Prop :=bodyPostD P fn (fun e w'=> ∃ v,e= .returned v∧R v w')
theorem Hx {P:an} {f:dH} {N:Nat} {fn:gP} {c:bz} {args:List ag} {w:ah} {R:ag→ah→Prop} (F:List Nat) (C:P.funcs[f]? =some fn) (hb:fn.body=some c)
 (A:fn.ntmps=N) (hn:aZ args.length N=true) (h:gk P ⟨N,[],F,none⟩ c (lJ P fn R) (dk args) w):aR P f args.toArray w R:=by
 subst A;refine calls_of_wp_defers C hb ?_;rw [nr fn args F hn];exact wpIn_wide.1 h
section
variable {P:an} {n:Nat} {D:List Deferred} {F:List Nat} {σ:Nat→ag} {w:ah} {fn:gP} {R:ag→ah→Prop} {B:ba→Act→ah→Prop}
theorem HP {v:ag} (hr:(results fn (act ⟨n,[],F,none⟩ σ).tmps).run P w= .ok v w) (A:R v w):qb ⟨n,[],F,none⟩ (lJ P fn R) .ret σ w:=⟨v,hr,v,rfl,A⟩
theorem Jo:¬LetsOut (lJ P fn R):=fun ⟨_,_,h⟩=>by obtain ⟨v,h,_⟩:=h; cases h
theorem kR {id d:Nat} {f:dH} (O:¬LetsOut B) {cs:Array aO} {I J:ak} {p1 p2:String} {C E:Array bM} {y:bz} (A:Array ag) (Z:cs.toList.map (ev ⟨n,[],F,none⟩ σ)=A.toList) (ab:d < n)
 (h:gk P ⟨n,[{target:= .fn (.func f) A,args:= #[]}],F,none⟩ y B (aY σ d<|.func (.func f) #[] A) w):
 gk P ⟨n,[],F,none⟩ (.region id #[⟨some d,.makeFunc (.func f) #[] cs,I,p1,C,none⟩,⟨none,.defer ⟨.value (.tmp d),#[],#[]⟩,J,p2,E,none⟩] false) (Exit.then (y.wpIn (fe none) 0 P B) B) σ w:=by
 have aa:cs.map (ev ⟨n,[],F,none⟩ σ)=A:=pn.1<|by rw [gN]; exact Z
 refine wpIn_region ?_;have V:¬LetsOut (Exit.then (y.wpIn (fe none) 0 P B) B):=fun ⟨a,w,h⟩=>O ⟨a,w,h⟩;refine vO (r:=none) V U _ _ _ ?_;show wpOps P _ _ [0,1] _ _;simp only [wpOps,lD,fS,gR];rw [if_pos (fj _ rfl _)];refine .inl ?_;unfold gp;have L:(execOp (act ⟨n,[],F,none⟩ σ).eval ⟨some d,.makeFunc (.func f) #[] cs,I,p1,C,none⟩).run P w= .ok (.value<|.func (.func f) #[] A) w:=by
  rw [de,mf,aa]; simp
 rw [L];simp only [iy];rw [if_pos (fj _ rfl _),eC];refine .inl ?_;have M:(execOp (act ⟨n,[],F,none⟩<|cz σ (some d)<|.func (.func f) #[] A).eval ⟨none,.defer ⟨.value (.tmp d),#[],#[]⟩,J,p2,E,none⟩).run P w= .ok (.defer {target:= .fn (.func f) A,args:= #[]}) w:=by
  have ac:ev ⟨n,[],F,none⟩ (aY σ d<|.func (.func f) #[] A) (.tmp d)= .func (.func f) #[] A:=by
   show cond (Nat.blt d n) (aY σ d _ d) undef=_;rw [show Nat.blt d n=true from by simpa using ab];show aY σ d _ d=_;unfold aY; simp
  rw [de];show (execOp (ev ⟨n,[],F,none⟩<|aY σ d<|.func (.func f) #[] A) _).run P w=_;simp [execOp,resolve,ac,kD]
 rw [M];exact h
end
theorem Kk {P:an} {ops:Array ar} {Q:ba→Act→List Frame→ah→Prop} {cs:List Frame} (A:¬LetsOut fun e a w=>Q e a cs w):∀ (l:List Nat) (a:Act) (w:ah),wpOps P ops (fun e a w=>Q e a cs w) l a w→wpOpsS P ops Q l a cs w:=by
 intro l
 induction l with
 | nil=>exact fun _ _ h=>h
 | cons i l ih=>
   intro a w h;simp only [wpOps] at h;simp only [wpOpsS];cases ho:ops[i]? with
   | none=>simp only [ho] at h ⊢; exact ih a w h
   | some o=>
     simp only [ho] at h ⊢;by_cases hw:Region.wanted o (yielded ops a.tmps)=true
     · rw [if_pos hw] at h ⊢;rcases h with h | h
       · unfold gp at h;generalize (execOp a.eval o).run P w=x at h;cases x with
         | ok n w'=>
           cases n <;> simp only [iy] at h ⊢ <;>
            first
             | exact ih _ _ h
             | exact gO h fun e w'' he=>by cases e <;> first | exact ih _ _ he | exact he
             | exact yq h fun v w'' he=>ih _ _ he
         | halt x w'=>cases x <;> simp only [iy] at h ⊢ <;> exact h
       · exact absurd h.2 A
     · rw [if_neg hw] at h ⊢;exact ih _ _ h
theorem Jr {P:an} {ops:Array ar} {Q C:ba→Act→ah→Prop} (A:∀ e a w,Q e a w→C e a w) (E:¬LetsOut Q):∀ (l:List ar) (a:Act) (w:ah),wpList P ops Q l a w→wpList P ops C l a w:=by
 intro l
 induction l with
 | nil=>exact fun _ _ h=>A _ _ _ h
 | cons o l ih=>
   intro a w h;unfold wpList at h ⊢;split at h
   · rename_i hw;rw [if_pos hw];rcases h with h | h
     · left;unfold gp at h ⊢;generalize (execOp a.eval o).run P w=x at h;cases x with
       | ok n w'=>
         cases n <;> simp only [iy] at h ⊢ <;>
          first
           | exact ih _ _ h
           | exact gO h (fun e w'' he=>by
            cases e with
            | returned v=>exact ih _ _ he
            | panicked c=>exact A _ _ _ he
            | outgrown=>exact absurd he E)
           | exact yq h fun v w'' he=>ih _ _ he
       | halt x w'=>cases x <;> simp only [iy] at h ⊢ <;> exact A _ _ _ h
     · exact absurd h.2 E
   · rename_i hw;rw [if_neg hw]; exact ih _ _ h
theorem zg {P:an} {f:dH} {fn:gP} {id N d:Nat} {ty:ak} {pos :String} {af:Array bM} {rest:List ar} {y:bz} {args:List ag} {w:ah} {u I:FrameMode} {v:ag} {R:ah→Prop}
 (ai:P.funcs[f]? =some fn) (hb:fn.body=some (.seq (.region id (⟨some d,.call ⟨.builtin .recover,#[],#[]⟩,ty,pos,af,none⟩::rest).toArray false) y)) (ad:fn.ntmps=N) (hn:aZ args.length N=true)
 (aj:∀ (C:Frame) (cs:List Frame),C.mode=u→(recoverD (C::cs)=some (v,{C with mode:=I} ::cs))∨(recoverD (C::cs)=none∧v= .nilIface∧I=u))
 (h:bK P ⟨N,[],[],none⟩ (⟨some d,.call ⟨.builtin .recover,#[],#[]⟩,ty,pos,af,none⟩::rest).toArray (gi (fun σ w=>bg P ⟨N,[],[],none⟩ y (fin P fn ⟨N,[],[],none⟩ fun _ w=>R w) σ w)<|fin P fn ⟨N,[],[],none⟩ fun _ w=>R w) rest (aY (dk args) d v) w):
 CallsD P f args.toArray u w fun e J w'=> ∃ v,e= .returned v∧J=I∧R w':=by
 subst ad;refine callsD_of_wpS ai hb ?_;intro C cs hu;rw [nr fn args [] hn];refine wpS_seq<|wpS_region ?_;have al:List.range (⟨some d,.call ⟨.builtin .recover,#[],#[]⟩,ty,pos,af,none⟩::rest).toArray.size=0::(List.range' 1 rest.length):=by
  rw [ej,bA,List.range_eq_range',List.range'_succ]
 rw [al];simp only [wpOpsS,lD,fS];rw [if_pos (fj _ rfl _)];have am:(execOp (act ⟨fn.ntmps,[],[],none⟩<|dk args).eval ⟨some d,.call ⟨.builtin .recover,#[],#[]⟩,ty,pos,af,none⟩).run P w= .ok .recover w:=by
  rw [de];simp [execOp,resolve,invoke,builtin]
 rw [am];simp only;obtain ⟨L,O⟩:∃ L,L=({C with mode:=I} ::cs:List Frame):=⟨_,rfl⟩
 have ae:∀ X:Act→List Frame→Prop,X ((act ⟨fn.ntmps,[],[],none⟩<|dk args).put (some d) v) L→
  (match recoverD (C::cs) with
   | some (v,U)=>X ((act ⟨fn.ntmps,[],[],none⟩<|dk args).put (some d) v) U
   | none=>X ((act ⟨fn.ntmps,[],[],none⟩<|dk args).put (some d) .nilIface) (C::cs)):=by
  intro X Z;rcases aj C cs hu with M | ⟨M,ab,ac⟩;rw [M]; subst O; exact Z;rw [M]; subst ab ac;have :({C with mode:=I} :Frame)=C:=by subst hu; rfl
  rw [this] at O; subst O; exact Z
 refine ae (fun a U=>wpOpsS P _ _ _ a U w) ?_;rw [eC];refine Kk ?_ _ _ _ ?_;rintro ⟨a,w,h⟩;simp only [Exit.thenS,bodyPostS] at h;obtain ⟨_,_,h,_⟩:=h; cases h;have M:=wpOps_eq_wpList (P:=P) (ops:=(⟨some d,.call ⟨.builtin .recover,#[],#[]⟩,ty,pos,af,none⟩::rest).toArray) (Q:=fun e a w'=>Exit.thenS (Code.wpS P y (bodyPostS P fn C cs fun e J w'=> ∃ v,e= .returned v∧J=I∧R w')) (bodyPostS P fn C cs fun e J w'=> ∃ v,e= .returned v∧J=I∧R w') e a L w') rest 1 fun j=>by simp [Nat.add_comm]
 rw [M];unfold bK at h;refine Jr ?_ vW _ _ _ h;intro e a w' E;have aa:∀ (e:ba) (σ:Nat→ag) (w':ah),fin P fn ⟨fn.ntmps,[],[],none⟩ (fun _ w=>R w) e σ w'→bodyPostS P fn C cs (fun e J w'=> ∃ v,e= .returned v∧J=I∧R w') e (act ⟨fn.ntmps,[],[],none⟩ σ) L w':=by
  intro e σ w' A;cases e with
  | normal=>obtain ⟨v,hr,V⟩:=A; exact ⟨rfl,I,O,v,hr,v,rfl,rfl,V⟩
  | ret=>obtain ⟨v,hr,V⟩:=A; exact ⟨rfl,I,O,v,hr,v,rfl,rfl,V⟩
  | _=>exact A.elim
 cases e with
 | normal=>
   obtain ⟨σ,rfl,A⟩:=E;refine wpS_of_wp ?_;simp only [gi] at A;unfold bg at A;refine Dw ?_<|wpIn_wide.1 A;intro e a w' E;cases e with
   | panic c=>obtain ⟨σ,rfl,A⟩:=E; exact (A σ fun _ _=>rfl).elim
   | outgrown=>exact E.elim
   | _=>obtain ⟨σ,rfl,A⟩:=E; exact aa _ σ w' A
 | panic c=>obtain ⟨σ,rfl,A⟩:=E; exact (A σ fun _ _=>rfl).elim
 | outgrown=>exact E.elim
 | ret=>obtain ⟨σ,rfl,A⟩:=E; exact aa .ret σ w' A
 | exit i=>obtain ⟨σ,rfl,A⟩:=E; exact A.elim
 | goto i=>obtain ⟨σ,rfl,A⟩:=E; exact A.elim
section
variable {P:an} {n:Nat} {F:List Nat} {σ:Nat→ag} {w:ah} {fn:gP} {R:ag→ah→Prop}
theorem HS {g:dH} {A:Array ag} {M:ah→Prop} (hu:(invoke (.fn (.func g) A) #[]).run P w= .ok (.enter g A) w)
 (J:CallsD P g A .returning w fun e L w'=> ∃ v,e= .returned v∧L= .returning∧M w') (I:∀ w',M w'→∃ v,(results fn (act ⟨n,[{target:= .fn (.func g) A,args:= #[]}],F,none⟩ σ).tmps).run P w'= .ok v w'∧R v w'):
 qb ⟨n,[{target:= .fn (.func g) A,args:= #[]}],F,none⟩ (lJ P fn R) .ret σ w:=by
 refine leaves_cons (by simp) hu ?_;refine Du J ?_;rintro e O w' ⟨v,rfl,rfl,hm⟩;obtain ⟨v2,C,E⟩:=I w' hm;exact ⟨v2,C,v2,U,E⟩
theorem HT {g:dH} {A:Array ag} {M:ah→Prop} {v:ag} (hu:(invoke (.fn (.func g) A) #[]).run P w= .ok (.enter g A) w)
 (J:CallsD P g A (.panicking [{v:=v,recovered:=false}]) w fun e L w'=> ∃ x,e= .returned x∧L= .panicking [{v:=v,recovered:=true}]∧M w') (I:∀ w',M w'→∃ v,(results fn (act ⟨n,[{target:= .fn (.func g) A,args:= #[]}],F,none⟩ σ).tmps).run P w'= .ok v w'∧R v w'):
 qb ⟨n,[{target:= .fn (.func g) A,args:= #[]}],F,none⟩ (lJ P fn R) (.panic [{v:=v,recovered:=false}]) σ w:=by
 refine leaves_cons (by simp) hu ?_;refine Du J ?_;rintro e O w' ⟨x,rfl,rfl,hm⟩;obtain ⟨v2,C,E⟩:=I w' hm;exact ⟨v2,C,v2,U,E⟩
end
end Go.Hb
end
section
namespace Go.Hb
section
variable {B B':Nat} {fp fp' fp'':Nat→Prop} {w w' w'':ah}
end
section
variable {F fp:Nat→Prop} {W W':ah} {B:Nat}
end
section
variable {P:an} {N:Fm} {ops:Array ar} {Q:ba→(Nat→ag)→ah→Prop} {rest:List ar} {σ:Nat→ag} {w:ah} {d':Option Nat} {d:Nat} {op:Op} {ty:ak} {pos :String} {af:Array bM} {v:ag}
end
section
variable {P:an} {n:Nat} {F:List Nat} {σ:Nat→ag} {w:ah} {fn:gP} {R:ag→ah→Prop}
end
def vw (P:an) (s f:Nat):Option Nat:=
 match P.underlying s with
 | some (.struct A)=>match A[f]? with
   | some fd=>if c9 P fd.type=some none then some fd.offset else none
   | none=>none
 | _=>none
theorem B4 {P:an} {t:Nat} (hu:c9 P t=some none) (w:ah):(isAgg t).run P w= .ok false w:=by
 unfold c9 at hu;cases hd:P.underlying t with
 | none=>rw [hd] at hu; cases hu
 | some d=>
   rw [hd] at hu;cases d <;> first
    | (simp only [fU] at hu; obtain ⟨_,_,h⟩:=hu; cases h; done)
    | simp [isAgg,bh hd]
theorem HQ {P:an} {N:Fm} {σ:Nat→ag} {w:ah} {dst:Option Nat} {ty:ak} {pos :String} {af:Array bM} {g:Option (Nat×Bool)} {x:aO} {s f n:Nat} {cs:Array ag} {v:ag} (A:vw P s f=some n) (I:ev N σ x= .agg cs) (E:cs[n]? =some v):
 (execOp (ev N σ) ⟨dst,.field s x f,ty,pos,af,g⟩).run P w= .ok (.value v) w:=by
 unfold vw at A;split at A
 · rename_i J hu;split at A
   · rename_i fd C;split at A
     · rename_i ha;cases A;simp [execOp,DE,bh hu,C,I,asAgg,part,B4 ha,E]
     · cases A
   · cases A
 · cases A
section
variable {P:an} {ops:Array ar} {Q:ba→Act→ah→Prop} {S:ah→Prop} {md:nP}
def C8 (P:an) (md:nP) (ops:Array ar) (Q:ba→Act→ah→Prop) (S:ah→Prop):Nat→Array Bool→Act→ah→Prop
 | 0,listed,a,w=>dV md ops listed= []∧Q .normal a w
 | fuel+1,listed,a,w=>
   (dV md ops listed= []→Q .normal a w)∧
   ∀ i∈dV md ops listed,wpOpIn eA 0 P ops Q i (fun A w'=>S w'∧C8 P md ops Q S fuel (listed.setIfInBounds i true) A w') a w
end
def Nf (P:an) (N:Fm) (ops:Array ar) (Q:ba→(Nat→ag)→ah→Prop) (S:ah→Prop) (fuel:Nat) (listed:Array Bool) (σ:Nat→ag) (w:ah):Prop :=
 C8 P .any ops (lift N Q) S fuel listed (act N σ) w
section
variable {P:an} {N:Fm} {ops:Array ar} {Q:ba→(Nat→ag)→ah→Prop} {σ:Nat→ag} {w:ah} {d':Option Nat} {d:Nat} {op:Op} {ty:ak} {pos :String} {af:Array bM} {v:ag}
variable {S:ah→Prop} {fuel:Nat} {listed:Array Bool}
end
attribute [irreducible] Nf
end Go.Hb
end
section
namespace Go.Hb
section
variable {P:an} {N:Fm} {σ:Nat→ag} {w:ah} {dst:Option Nat} {ty:ak} {pos :String} {af:Array bM} {g:Option (Nat×Bool)} {x:aO}
theorem Fi {t n C b:Nat} (he:lO P t=some (n,C)) (A:ev N σ x= .pointer (some ⟨b,0,none⟩)):
 (execOp (ev N σ) ⟨dst,.slice t x none none none,ty,pos,af,g⟩).run P w= .ok (.value<|.slice (some ⟨b,0,none⟩) n n) w:=by
 unfold lO at he;cases hd:P.underlying t with
 | none=>rw [hd] at he; cases he
 | some d=>
   rw [hd] at he;cases d <;> first | (cases he; done) | skip
   rename_i m e;cases hi:P.info? e with
   | none=>simp [hi] at he
   | some j=>
     simp only [hi,dJ,bp,Prod.mk.injEq] at he;obtain ⟨rfl,rfl⟩:=he;simp [execOp,nL,Instr.sureAddr,kF,A,bh hd,sizeOf,di hi,dO]
def vx (P:an) (t f:Nat):Option (Nat×Nat):=
 match P.underlying t with
 | some (.struct A)=>(A[f]?).map fun d=>(d.type,d.offset)
 | _=>none
theorem H6 {t f A off n:Nat} {cs vs:List ag} (h:vx P t f=some (A,off)) (ha:c9 P A=some (some n)) (I:ev N σ x= .agg cs.toArray) (E:(cs.drop off).take n=vs):
 (execOp (ev N σ) ⟨dst,.field t x f,ty,pos,af,g⟩).run P w= .ok (.value<|.agg vs.toArray) w:=by
 subst E;unfold vx at h;cases hd:P.underlying t with
 | none=>rw [hd] at h; cases h
 | some d=>
   rw [hd] at h;cases d <;> first | (cases h; done) | skip
   rename_i J;simp only [fU] at h;obtain ⟨fd,C,he⟩:=h;cases he;unfold c9 at ha;cases hd2:P.underlying fd.type with
   | none=>rw [hd2] at ha; cases ha
   | some d2=>
     rw [hd2] at ha;cases hi:P.info? fd.type with
     | none=>simp [DQ,hi] at hd2
     | some i=>
       rw [hi] at ha;have L:cs.toArray.extract fd.offset (fd.offset+n)=((cs.drop fd.offset).take n).toArray:=by simp
       cases d2 <;> first
        | (cases ha; done)
        | (simp only [dJ,bp] at ha; subst ha
           simp [execOp,DE,bh hd,C,I,asAgg,part,isAgg,bh hd2,sizeOf,di hi])
end
end Go.Hb
end
section
namespace Go.Hb
theorem IS (c:UInt8):∀ l:List UInt8,DL l c=dQ c l:=by
 intro l
 induction l with
 | nil=>rfl
 | cons b l ih=>
   unfold DL;rw [ih];rw [show dQ c (b::l)=if (b::l).idxOf c < (b::l).length then ((b::l).idxOf c:Int) else -1 from rfl,List.idxOf_cons];by_cases h:(b==c)=true
   · rw [if_pos h,h]; rfl
   · have E:(b==c)=false :=by simpa using h
     rw [if_neg h,E];simp only [cond_false,bA];by_cases C:l.idxOf c < l.length
     · have A:dQ c l=l.idxOf c:=if_pos C;rw [A,if_neg (fun hb=>by have :=eq_of_beq hb; omega),if_pos ab]; rfl
     · have A:dQ c l= -1:=if_neg C;rw [A,if_pos aW,if_neg ab]
theorem Lc {P:an} {f:dH} {fn:gP} (C:P.funcs[f]? =some fn) (E:(fn.name== "runtime.NumGoroutine")=false) (hb:fn.body.isNone=true) (hn:Extern.findNext fn=none)
 (he:Extern.find fn=some NK) (l:List UInt8) (c:UInt8) (w:ah):(callFunc f #[str l,.int .u8 c.toNat]).run P w= .ok (.value<|.int .i64<|dQ c l) w:=by
 rw [run_callFunc_extern C E hb hn he];unfold str;rw [Lib.run_indexByteString];have A:((c.toNat:Int)).toNat.toUInt8=c:=UInt8.toNat_inj.1<|by simp
 rw [A,IS];rfl
section
variable {P:an} {N:Fm} {σ:Nat→ag} {w:ah} {dst:Option Nat} {ty:ak} {pos :String} {af:Array bM} {g:Option (Nat×Bool)}
theorem Gb {f:dH} {a b v:ag} {args:Array aO} {A:Array ak} (h:(callFunc f #[a,b]).run P w= .ok (.value v) w) (C:args.toList.map (ev N σ)= [a,b]):
 (execOp (ev N σ) ⟨dst,.call ⟨.value (.func f),args,A⟩,ty,pos,af,g⟩).run P w= .ok (.value v) w:=by
 have :args.map (ev N σ)= #[a,b]:=by rw [← pn,gN,C]
 simp [execOp,resolve,ev,kD,invoke,this,h]
end
end Go.Hb
end
