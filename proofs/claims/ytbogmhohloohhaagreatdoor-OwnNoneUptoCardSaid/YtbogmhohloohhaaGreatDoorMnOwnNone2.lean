/-
  Walks and plain laws that the law rests on, laid together. No conditions but those that each theorem names.
-/
import Derived.Test.YtbogmhohloohhaaGreatDoorMnOwnNone1
set_option linter.unusedVariables false
open Array renaming getElem?_eq_some_iff→bu
open Go renaming Exit→aE,Oper→an,Operand→ax,Program→aj,TypeId→ai,Value→ab,World→ae
open Go.Extern.BytealgIndexByte renaming indexByte→Cz
open Go.Fence renaming wide→dt
open Go.Instr renaming field→vH,sliceAt→jQ,sliceBounds→gD,typeAssert→vN
open Go.Lib renaming indexByte→vO
open Go.Oper renaming semAt_eq→mw,uponIn→k9
open Go.Program renaming underlying→vR
open Go.Region renaming Mode→jU,ready→cT
open Go.Value renaming ownBlock→cJ
open Go.Value.slice renaming injEq→jW
open Go.World renaming alloc_heap_new→vU,putObj_heap_other→iT,putObj_heap_same→mA,setCell→oC,size_alloc→ra
open List renaming foldl_cons→oE,length_append→cn,length_cons→cr,length_map→wy,length_replicate→rh,length_take→dW,map_cons→cx,mem_append→dL,mem_cons→cU,mem_cons_of_mem→gH,mem_cons_self→fS,mem_map→dM,nodup_cons→jZ,replicate→iW,size_toArray→c7,take_append→wO,take_of_length_le→wQ
open Nat renaming min_eq_left→wX
open Option renaming map_eq_some_iff→eJ,map_some→cM
open Option.some renaming inj→di,injEq→aQ
open Prod renaming fst→bC
open Go.Proofs.Tryz
open Go.RowKit

section
namespace Go.Hb
open Classical
theorem jD {a b:List UInt8} (h:str a=str b):a=b:=by unfold str at h; cases h; rfl
noncomputable def mT (g:List UInt8→Option Int):ab→Option ab:=fun v=>if h:∃ x,v=str x then (g h.choose).map fun n=> .int .i64 n else none
variable {g q a b:List UInt8→Option Int} {x:List UInt8} {n:Int} {left left':List (ab×ab)}
theorem eF (g:List UInt8→Option Int) (x:List UInt8):mT g (str x)=(g x).map fun n=> .int .i64 n:=by
 have h:∃ y,str x=str y:=⟨x,rfl⟩
 unfold mT;rw [dif_pos h,← jD h.choose_spec]
theorem nt {v:ab} (h:¬bP v):mT g v=none:=dif_neg h
theorem pX {h:ab→Option ab} (C:∀ x,h (str x)=(g x).map fun n=> .int .i64 n) (E:∀ v,¬bP v→h v=none):h=mT g:=by
 funext v;by_cases A:bP v
 · obtain ⟨x,rfl⟩:=A; rw [C,eF]
 · rw [E v A,nt A]
theorem pZ:mT (fun _=>none)=fun _=>none:=(pX (fun x=>rfl) fun v _=>rfl).symm
theorem nu:ee (mT g) (str x) (.int .i64 n)=mT (fun y=>if y=x then some n else g y):=by
 refine pX (fun y=> ?_) (fun v A=> ?_)
 · unfold ee;by_cases e:y=x
   · subst e; simp
   · rw [if_neg (fun h=>e<|jD h),eF,if_neg e]
 · unfold ee;rw [if_neg (fun h=>A ⟨x,h⟩),nt A]
theorem tM:gP (mT g) (str x)=mT (fun y=>if y=x then none else g y):=by
 refine pX (fun y=> ?_) (fun v A=> ?_)
 · unfold gP;by_cases e:y=x
   · subst e; simp
   · rw [if_neg (fun h=>e<|jD h),eF,if_neg e]
 · unfold gP;rw [if_neg (fun h=>A ⟨x,h⟩),nt A]
theorem p1 {v u:ab} (h:mT g v=some u):∃ x n,v=str x∧u= .int .i64 n∧g x=some n:=by
 by_cases A:bP v
 · obtain ⟨x,rfl⟩:=A;rw [eF] at h;obtain ⟨n,C,E⟩:=eJ.1 h;exact ⟨x,n,U,E.symm,C⟩
 · rw [nt A] at h; cases h
structure Lf (q:List UInt8→Option Int) (left :List (ab×ab)):Prop where
 ok:∀ p∈left,∃ x n,p=(str x,.int .i64 n)∧q x=some n
 nd:(left.map bC).Nodup
noncomputable def dx (left :List (ab×ab)) (a b:List UInt8→Option Int):List UInt8→Option Int:=fun x=>if str x∈left.map bC then a x else b x
theorem Lf.start (J:∀ p∈left,bP p.1) (hn:(left.map bC).Nodup) (I:∀ k v,mT q k=some v↔(k,v)∈left):Lf q left :=by
 refine ⟨fun p hp=> ?_,hn⟩;obtain ⟨k,v⟩:=p;obtain ⟨x,n,A,C,E⟩:=p1<|(I k v).2 hp;exact ⟨x,n,by rw [A,C],E⟩
theorem pd (E:∀ k v,mT q k=some v↔(k,v)∈left) (C:∀ x,q x=none→a x=b x):dx left a b=a:=by
 funext x;unfold dx;by_cases A:str x∈left.map bC
 · rw [if_pos A]
 · rw [if_neg A,C x];cases hq:q x with
   | none=>rfl
   | some n=>
     exfalso;apply A;have :(str x,.int .i64 n)∈left :=(E _ _).1<|by rw [eF,hq]; rfl
     exact dM.2 ⟨_,this,U⟩
theorem pc:dx [] a b=b:=by funext x; simp [dx]
theorem Lf.step {E:ab×ab} (h:Lf q left) (hp:left.Perm (E::left')):∃ x n,E=(str x,.int .i64 n)∧q x=some n∧Lf q left'∧str x∈left.map bC∧
 (∀ a b,dx left a b x=a x)∧∀ a b,dx left' a b=fun y=>if y=x then b x else dx left a b y:=by
 obtain ⟨x,n,rfl,I⟩:=h.ok E<|hp.mem_iff.2 fS;have C:=(hp.map bC).nodup_iff.1 h.nd;simp only [cx,jZ] at C;have hm:str x∈left.map bC:=(hp.map bC).mem_iff.2<|by simp
 refine ⟨x,n,U,I,⟨fun p hm=>h.ok p (hp.mem_iff.2<|gH _ hm),C.2⟩,hm,fun a b=>if_pos hm,fun a b=> ?_⟩;funext y;unfold dx;by_cases e:y=x
 · subst e; rw [if_neg C.1,if_pos rfl]
 · rw [if_neg e];have :str y∈left.map bC↔str y∈left'.map bC:=by
    rw [(hp.map bC).mem_iff];simp only [cx,cU];exact ⟨fun h=>h.resolve_left fun h=>e (jD h),.inr⟩
   by_cases A:str y∈left.map bC
   · rw [if_pos A,if_pos (this.1 A)]
   · rw [if_neg A,if_neg (fun h=>A<|this.2 h)]
def c8 {α β:Type} (R:α→β→Prop):List α→List β→Prop
 | [],[]=>True
 | a::l,b::m=>R a b∧c8 R l m
 | _,_=>False
theorem c8.imp {α β:Type} {R S:α→β→Prop} (A:∀ a b,R a b→S a b):∀ {l:List α} {m:List β},c8 R l m→c8 S l m
 | [],[],_=>trivial
 | _::_,_::_,⟨h1,h2⟩=>⟨A _ _ h1,c8.imp A h2⟩
 | [],_::_,h=>h.elim
 | _::_,[],h=>h.elim
theorem c8.len {α β:Type} {R:α→β→Prop} :∀ {l:List α} {m:List β},c8 R l m→l.length=m.length
 | [],[],_=>rfl
 | _::_,_::_,⟨_,h2⟩=>congrArg (· +1) h2.len
 | [],_::_,h=>h.elim
 | _::_,[],h=>h.elim
theorem c8.snoc {α β:Type} {R:α→β→Prop} {a:α} {b:β} (A:R a b):∀ {l:List α} {m:List β},c8 R l m→c8 R (l++ [a]) (m++ [b])
 | [],[],_=>⟨A,trivial⟩
 | _::_,_::_,⟨h1,h2⟩=>⟨h1,h2.snoc A⟩
 | [],_::_,h=>h.elim
 | _::_,[],h=>h.elim
theorem c8.pop {α β:Type} {R:α→β→Prop} {b:β} :∀ {l:List α} {m:List β},c8 R l (m++ [b])→∃ A a,l=A++ [a]∧c8 R A m∧R a b
 | [],[],h=>h.elim
 | [],_::_,h=>h.elim
 | [a],[],⟨h1,_⟩=>⟨[],a,rfl,trivial,h1⟩
 | _::_::_,[],⟨_,h2⟩=>h2.elim
 | a::l,I::m,⟨h1,h2⟩=>by
   obtain ⟨A,x,rfl,C,E⟩:=c8.pop h2;exact ⟨a::A,x,U,⟨h1,C⟩,E⟩
noncomputable def cZ (g:List UInt8→Option Int) (l:List (List UInt8)):List UInt8→Option Int:=fun x=>if x∈l then some ((g x).getD 0) else none
def dy (A:Int) (q:List UInt8→Option Int):List UInt8→Option Int:=fun x=>match q x with
 | some o=>if o=A then none else some o
 | none=>none
def dn (A:Int) (q g:List UInt8→Option Int):List UInt8→Option Int:=fun x=>match q x with
 | some _=>some A
 | none=>g x
def dw (q g:List UInt8→Option Int):List UInt8→Option Int:=fun x=>match q x with
 | some o=>if o=0 then none else some o
 | none=>g x
theorem AK {A:Int} (h:q x=none):dn A q g x=g x:=by unfold dn; rw [h]
theorem AM {A:Int} (h:q x=some n):dn A q g x=some A:=by unfold dn; rw [h]
def bV (g:List UInt8→Option Int) (n:Nat):Prop :=dO (mT g) n
theorem Cd:cZ g []=fun _=>none:=by funext x; simp [cZ]
theorem Cc {l:List (List UInt8)} (h:x∉l):mT (cZ g<|l++ [x])=ee (mT<|cZ g l) (str x) (.int .i64<|(g x).getD 0):=by
 rw [nu];congr 1;funext y;unfold cZ;by_cases e:y=x
 · subst e; simp
 · simp [e]
theorem Cf {l:List (List UInt8)} (h:x∈l):cZ g (l++ [x])=cZ g l:=by
 funext y;unfold cZ;by_cases e:y=x
 · subst e; simp [h]
 · simp [e]
noncomputable def dc (g:List UInt8→Option Int) (l:List (List UInt8)):List UInt8→Option Int:=fun x=>if x∈l then some 1 else g x
theorem Bb:dc g []=g:=by funext x; simp [dc]
theorem uz {l:List (List UInt8)} :mT (dc g<|l++ [x])=ee (mT<|dc g l) (str x) (.int .i64 1):=by
 rw [nu];congr 1;funext y;unfold dc;by_cases e:y=x
 · subst e; simp
 · simp [e]
theorem Ba {l:List (List UInt8)} {m:Nat} (A:bV (dc g l) m) (h:x∉l) (C:g x=none):bV (dc g<|l++ [x]) (m+1):=by
 unfold bV at A ⊢;rw [uz];exact A.new<|by rw [eF]; simp [dc,h,C]
theorem uA {l:List (List UInt8)} {m:Nat} (A:bV (dc g l) m) (h:x∈l∨∃ o,g x=some o):bV (dc g<|l++ [x]) m:=by
 unfold bV at A ⊢;rw [uz];by_cases C:x∈l
 · exact A.cH (u:= .int .i64 1)<|by rw [eF]; simp [dc,C]
 · obtain ⟨o,E⟩:=h.resolve_left C;exact A.cH (u:= .int .i64 o)<|by rw [eF]; simp [dc,C,E]
theorem vf (g:List UInt8→Option Int) (l:List (List UInt8)) (x:List UInt8):(mT (cZ g l)<|str x).getD (.int .i64 0)= .int .i64 (if x∈l then (g x).getD 0 else 0):=by
 rw [eF]; unfold cZ;by_cases h:x∈l <;> simp [h]
theorem Ce (g:List UInt8→Option Int) (l:List (List UInt8)) (x:List UInt8):(mT (cZ g l)<|str x).isSome=decide (x∈l):=by
 rw [eF]; unfold cZ;by_cases h:x∈l <;> simp [h]
theorem pY (g:List UInt8→Option Int) (x:List UInt8):(mT g<|str x).getD (.int .i64 0)= .int .i64 ((g x).getD 0):=by
 rw [eF]; cases g x <;> rfl
theorem sU {l:List (List UInt8)} {i m:Nat} (h:∀ x∈l,x.length≤m) (hi:i < l.length):(l.getD i []).length≤m:=h _<|pE hi
theorem dO.congr {f h:ab→Option ab} {m:Nat} (I:dO f m) (he:∀ k,(∃ v,f k=some v)↔∃ v,h k=some v):dO h m:=by
 obtain ⟨l,A,C,E⟩:=I;exact ⟨l,A,C,fun k=>(he k).symm.trans<|E k⟩
theorem lM (g:List UInt8→Option Int) (v:ab):(∃ u,mT g v=some u)↔∃ x o,v=str x∧g x=some o:=by
 constructor
 · rintro ⟨u,hu⟩;obtain ⟨x,o,A,_,C⟩:=p1 hu;exact ⟨x,o,A,C⟩
 · rintro ⟨x,o,rfl,h⟩;exact ⟨_,by rw [eF,h]; rfl⟩
theorem bV.congr {m:Nat} (I:bV a m) (he:∀ x,(∃ o,a x=some o)↔∃ o,b x=some o):bV b m:=by
 refine dO.congr I fun k=> ?_;rw [lM,lM];exact ⟨fun ⟨x,o,A,C⟩=>let ⟨E,h'⟩:=(he x).1 ⟨o,C⟩; ⟨x,E,A,h'⟩,fun ⟨x,o,A,C⟩=>let ⟨E,h'⟩:=(he x).2 ⟨o,C⟩; ⟨x,E,A,h'⟩⟩
noncomputable def bS (A:Int) (g:List UInt8→Option Int) (l:List (List UInt8)):List UInt8→Option Int:=dy A<|cZ g l
theorem AN {C:Int} (hw:C≠0) {l:List (List UInt8)} {m:Nat} (I:bV (dc g l) m):bV (dn C (bS C g l) g) m:=by
 refine I.congr fun x=> ?_;unfold dn bS dy cZ dc;by_cases A:x∈l
 · cases hg:g x with
   | none=>simp [A,Ne.symm hw]
   | some o=>
     by_cases E:o=C
     · simp [A,E]
     · simp [A,E]
 · simp [A]
theorem bV.pos {m:Nat} (E:bV q m) (hm:m≠0):∃ x o,q x=some o:=by
 obtain ⟨l,I,A,C⟩:=E;cases l with
 | nil=>exact absurd A.symm hm
 | cons k l=>
   obtain ⟨x,o,_,h⟩:=(lM q k).1<|(C k).2 fS;exact ⟨x,o,h⟩
theorem AL {A:Int} (hw:A≠0) (C:∀ x,g x≠some 0) (x:List UInt8):dn A q g x≠some 0:=by
 unfold dn;split
 · intro h; exact hw<|di h
 · exact C x
theorem rK {A:Int} {l:List (List UInt8)} (E:∀ x,g x≠some 0):dw (bS A g l) (dn A (bS A g l) g)=g:=by
 funext x;unfold dw dn bS dy cZ;by_cases C:x∈l
 · cases hgx:g x with
   | none=>by_cases h:(0:Int)=A <;> simp [C,h]
   | some o=>
     have I:o≠0:=fun h=>E x<|by rw [hgx,h]
     by_cases h:o=A <;> simp [C,h,I]
 · simp [C]
theorem xH (A:∀ x,g x≠some 0) (x:List UInt8):dw q g x≠some 0:=by
 unfold dw;split
 · rename_i o _;by_cases h:o=0
   · rw [if_pos h]; simp
   · rw [if_neg h]; intro C; exact h<|di C
 · exact A x
theorem zL (A:∀ k v,mT q k=some v↔(k,v)∈left) (y:List UInt8):(∃ o,q y=some o)↔y∈([]:List (List UInt8))∨str y∈left.map bC:=by
 constructor
 · rintro ⟨o,I⟩;exact .inr<|dM.2 ⟨_,(A (str y)<|.int .i64 o).1 (by rw [eF,I]; rfl),U⟩
 · rintro (h | h)
   · cases h
   · obtain ⟨⟨k,v⟩,hp,hk⟩:=dM.1 h;obtain ⟨x,o,C,_,E⟩:=p1<|(A k v).2 hp;have :x=y:=jD<|C.symm.trans hk;exact ⟨o,by rw [← this]; exact E⟩
theorem p8 {α:Type} :∀ {a b:List α},a.Nodup→(∀ x∈a,x∈b)→a.length≤b.length
 | [],_,_,_=>Nat.zero_le _
 | x::a,b,hn,hs=>by
   rw [jZ] at hn;obtain ⟨s,t,rfl⟩:=List.append_of_mem<|hs x fS;have :=p8 (b:=s++t) hn.2 fun y A=>by
    have C:=hs y<|gH _ A;rw [dL,cU] at C;rw [dL];rcases C with h | rfl | h
    · exact .inl h
    · exact absurd A hn.1
    · exact .inr h
   simp only [cn,cr] at this ⊢;omega
theorem bV.le {m:Nat} {l:List (List UInt8)} (C:bV q m) (hn:l.Nodup) (E:∀ x∈l,∃ o,q x=some o):l.length≤m:=by
 obtain ⟨ks,M,rfl,A⟩:=C;have h:=p8 (a:=l.map str) (b:=ks) (List.pairwise_map.2<|hn.imp fun h e=>h<|jD e) fun v J=>by
  obtain ⟨x,L,rfl⟩:=dM.1 J;obtain ⟨o,I⟩:=E x L;exact (A _).1 ⟨.int .i64 o,by rw [eF,I]; rfl⟩
 rwa [wy] at h
end Go.Hb
end
section
namespace Go.Hb
section
variable {P:aj} {N:Fm} {σ:Nat→ab} {w:ae} {dst:Option Nat} {ty:ai} {pos :String} {af:Array Edge} {g:Option (Nat×Bool)} {x y:ax}
theorem sB (d:Nat) {t e:ai} {a:Option Addr} {n c:Nat} (hu:P.underlying t=some (.slice e)):(Op.equalIn (d+1) t (.slice a n c)<|.slice none 0 0).run P w= .ok a.isNone w:=by
 cases a <;> simp [Op.equalIn,aC hu]
end
section
variable {P:aj} {N:Fm} {σ:Nat→ab} {w:ae} {dst:Option Nat} {ty:ai} {pos :String} {af:Array Edge} {g:Option (Nat×Bool)} {x y z u:ax} {K:(Nat→ab)→ae→Prop}
theorem uK {t n len cap:Nat} {a:Option Addr} {k I J:IntKind} {i j m:Nat} (he:cC P t=some n) (A:ev N σ x= .slice a len cap) (C:ev N σ y= .int k (i:Nat)) (E:ev N σ z= .int I (j:Nat)) (hu:ev N σ u= .int J (m:Nat)) (h:i≤j∧j≤m∧m≤cap):
 (execOp (ev N σ) ⟨dst,.slice t x (some y) (some z) (some u),ty,pos,af,g⟩).run P w= .ok (.value<|.slice (bT a m i n) (j - i)<|m - i) w:=by
 have L:(0:Int)≤(i:Int):=ag;have M:(0:Int)≤(j:Int):=ag;have O:(0:Int)≤(m:Int):=ag;unfold cC at he;cases hd:P.underlying t with
 | none=>rw [hd] at he; cases he
 | some d=>
   rw [hd] at he;cases d <;> first | (cases he; done) | skip
   rename_i e;cases hi':P.info? e with
   | none=>simp [hi'] at he
   | some q=>
     simp only [hi',cM,aQ] at he;subst he;simp only [execOp,jQ,Instr.slice,A,C,E,hu,cM,gD,Instr.sliceBound,asIntOf];simp [aC hd,bU hi',sizeOf,h.1,h.2.1,h.2.2,bT]
theorem xD {t e size bytes B n m A c C:Nat} {xs news:List ab} {a:Option Addr} (ae:eG P t e size bytes=true) (V:w.ownsRow B e size (.slice (some ⟨C,0,none⟩) n A) n xs) (ag:ev N σ x= .slice (some ⟨C,0,none⟩) n A)
 (ah:ev N σ y= .slice a m c) (M:aZ w.heap a news) (ha:a≠none) (U:news.length=m*size) (O:news.all Value.oneCell'=true) (aa:n+m≤A)
 (k:∀ w',Md (fun q=>q=C) w w'→w'.ownsRow B e size (.slice (some ⟨C,0,none⟩) (n+m) A) (n+m) (xs++news)→K (bR σ dst<|.slice (some ⟨C,0,none⟩) (n+m) A) w'):
 aT P N ⟨dst,.call ⟨.builtin .append,#[x,y],#[t,t]⟩,ty,pos,af,g⟩ σ w K:=by
 obtain ⟨hu,i,zv,hi,ak,ac,ai,al,aj⟩:=kL ae;obtain ⟨ad,rfl⟩:∃ ad,a=some ad:=by cases a with | none=>exact absurd rfl ha | some ad=>exact ⟨ad,rfl⟩
 have hn:∀ j v,news[j]? =some v→w.cell? (ad.add j)=some v:=fun j v J=>by
  have L:news≠[]:=fun e=>by rw [e] at J; simp at J
  have E:=M.ok L;simp only [aQ] at E;rw [E,cE,et]; exact M.aK j v J
 obtain ⟨w',hr,E,I⟩:=Go.run_append_fits (P:=P) (w:=w) B t ty e i size hu hi ac C n A xs V ad m c news U hn (mM O) aa;refine eH (w':=w') (v:= .slice (some ⟨C,0,none⟩) (n+m) A) ?_<|k w' ⟨I.os,I.output,I.size,fun q Z L=>I.block q Z fun e=>L<|di e⟩ E;simp [execOp,resolve,invoke,builtin,ag,ah,hr]
end
end Go.Hb
end
section
namespace Go.Hb
theorem uG {L:List ab} {o:Nat} {v:ab} (h:o < L.length):(L.set o v).take (o+1)=L.take o++ [v]:=by grind [List.set_eq_take_append_cons_drop,wO,dW,wX,Nat.add_sub_cancel_left,wQ]
theorem uF {L:List ab} {o m:Nat} {v:ab} (h:o < m):(L.set o v).drop m=L.drop m:=by
 rw [List.drop_set,if_pos h]
theorem Bg (b e:Nat):∀ (A:List ab) (o:Nat) (L:List ab) (w:ae),w.heap[b]? =some (.cells L.toArray e (0,0))→o+A.length≤L.length→
 (w.setCells b o A).heap[b]? =some (.cells (L.take o++A++L.drop (o+A.length)).toArray e (0,0))∧Md (fun k=>k=b) w (w.setCells b o A):=by
 intro A
 induction A with
 | nil=>intro o L w hb _; exact ⟨by simpa [World.setCells] using hb,Md.refl _ _⟩
 | cons v r ih=>
   intro o L w hb O;simp only [cr] at O;have C:(w.setCell ⟨b,o,none⟩ v).heap[b]? =some (.cells (L.set o v).toArray e (0,0)):=by
    have U:=(bu.1 hb).1;have V:w.heap[b]= .cells L.toArray e (0,0):=(bu.1 hb).2;simp only [oC];rw [Array.getElem?_eq_getElem (by simpa using U),Array.getElem_modify];simp [V,List.setIfInBounds_toArray]
   have J:Md (fun k=>k=b) w (w.setCell ⟨b,o,none⟩ v):=⟨rfl,rfl,by simp [oC],fun k _ M=>Below.heap_setCell w _ v k M⟩
   obtain ⟨E,I⟩:=ih (o+1) (L.set o v) _ C<|by rw [List.length_set]; omega
   refine ⟨?_,Md.trans J I⟩;show ((w.setCell ⟨b,o,none⟩ v).setCells b (o+1) r).heap[b]? =_;rw [E,uG ag,uF ag,cr,show o+1 +r.length=o+(r.length+1) from by omega];simp
section
variable {P:aj} {N:Fm} {σ:Nat→ab} {w:ae} {ty:ai} {pos :String} {af:Array Edge} {g:Option (Nat×Bool)} {x:ax} {K:(Nat→ab)→ae→Prop}
theorem yq {t e B n A c' m:Nat} {a:Option Addr} {xs:List ab} {z:ab} (al:P.underlying t=some (.slice e)) (an:zeroV P e=some z) (J:z.oneCell'=true) (ae:w.ownsRow B e 1 (.slice a n A) n xs) (ha:a≠none)
 (L:ev N σ x= .slice (bT a A n 1) m c') (hm:0 < m∧n+m≤A) (ao:∀ w',Md (fun q=>(Value.slice a n A).ownBlock=some q) w w'→w'.ownsRow B e 1 (.slice a n A) n xs→K σ w'):
 aT P N ⟨none,.call ⟨.builtin .clear,#[x],#[t]⟩,ty,pos,af,g⟩ σ w K:=by
 obtain ⟨h0,h⟩:=ae;rcases h with ⟨h,rfl⟩ | ⟨C,ap,cur,h,Z,ac,hle,aa,ak,am⟩
 · simp only [jW] at h; exact absurd h.1 ha
 · simp only [jW,true_and] at h;obtain ⟨rfl,rfl⟩:=h;have aj:bT (some ⟨C,0,none⟩) A n 1=some ⟨C,n,none⟩:=by
    unfold bT; rw [if_neg ag]; simp [cE]
   rw [aj] at L;have I:w.heap[C]? =some (.cells cur.toList.toArray e (0,0)):=by simpa using ac
   have E:cur.toList.length=A*1:=by rw [Array.length_toList]; exact ak
   have ai:=Lib.run_clear_slice (P:=P) w t e ty z al (fun w=>qY an w) (by cases z <;> first | rfl | (cases J; done)) J C n m c' hm.1
    (fun j ad=>by rw [et,dQ I]; simp; omega) (fun j ad=>by simp only [World.frozen?,show w.heap[C]? =_ from I]; simp)
   obtain ⟨O,V⟩:=Bg C e (iW m z) n cur.toList w I<|by rw [rh,E]; omega
   refine eH (w':=w.setCells C n<|iW m z) (v:= .tuple #[]) ?_ (ao _ (V.mono fun q _ ah=>by subst ah; rfl) ⟨h0,.inr ⟨C,A,_,U,Z,O,hle,aa,?_,?_⟩⟩)
   · simp [execOp,resolve,invoke,builtin,L,ai]
   · simp only [c7,cn,dW,List.length_drop,rh,E]; omega
   · rw [rh,Nat.mul_one];have M:(cur.toList.take n++iW m z++cur.toList.drop (n+m)).toArray.toList=cur.toList.take n++(iW m z++cur.toList.drop (n+m)):=List.append_assoc _ _ _;rw [M,wO,dW,E,wX ag,Nat.sub_self,List.take_zero,List.append_nil,wQ (by rw [dW]; omega),← am,Nat.mul_one]
end
end Go.Hb
end
namespace Go.Hb
def iL (g:List UInt8→Option Int) (x:List UInt8):List UInt8:=(if 0 < (g x).getD 0 then 43 else 45)::(dC x++ [10])
def ei (g:List UInt8→Option Int) (xs:List (List UInt8)):List UInt8:=xs.flatMap<|iL g
theorem BU {g:List UInt8→Option Int} {xs:List (List UInt8)} {i:Nat} (h:i < xs.length):ei g (xs.take<|i+1)=ei g (xs.take i)++iL g (xs.getD i []):=by
 unfold ei;rw [qK xs i [] h,List.flatMap_append,List.flatMap_singleton]
theorem uZ {g:List UInt8→Option Int} :∀ {xs:List (List UInt8)},(∀ x∈xs,x.length≤64)→(ei g xs).length≤xs.length*130
 | [],_=>Nat.le_refl _
 | x::xs,h=>by
   have A:=uZ (g:=g) (xs:=xs) fun y C=>h y<|gH _ C;have E:=od x;have I:=h x fS;unfold ei at A ⊢;rw [List.flatMap_cons,cn];simp only [iL,cr,cn,List.length_nil];omega
def e9 (g:List UInt8→Option Int) (xs:List (List UInt8)):Prop :=xs.Nodup∧∀ y,y∈xs↔∃ o,g y=some o
theorem y7 {g:List UInt8→Option Int} {xs E:List (List UInt8)} (A:e9 g xs) (C:e9 g E):xs.Perm E:=(List.perm_ext_iff_of_nodup A.1 C.1).2 fun y=>(A.2 y).trans (C.2 y).symm
theorem y8 {g:List UInt8→Option Int} {xs A:List (List UInt8)} (I:e9 g xs) (J:e9 g A) (L:xs.Pairwise fun a b=>a≤b) (M:A.Pairwise fun a b=>a≤b):xs=A:=
 List.Perm.eq_of_pairwise (fun a b _ _ C E=>List.le_antisymm C E) L M (y7 I J)
theorem bV.ge {q:List UInt8→Option Int} {m:Nat} {l:List (List UInt8)} (E:bV q m) (I:∀ x,(∃ o,q x=some o)→x∈l):m≤l.length:=by
 obtain ⟨ks,A,rfl,C⟩:=E;have h:=p8 (a:=ks) (b:=l.map str) A fun v L=>by
  obtain ⟨x,o,rfl,J⟩:=(lM q v).1<|(C v).2 L;exact dM.2 ⟨x,I x ⟨o,J⟩,U⟩
 rwa [wy] at h
end Go.Hb
section
namespace Go.Hb
def jI (P:aj) (N:Fm) (c:Code) (B:aE→Act→ae→Prop) (σ:Nat→ab) (w:ae):Prop :=c.wpIn (fe N.r) 0 P B (act N σ) w
def qb (N:Fm) (B:aE→Act→ae→Prop):aE→(Nat→ab)→ae→Prop :=fun e σ w=>B e (act N σ) w
section
variable {P:aj} {N:Fm} {B:aE→Act→ae→Prop} {σ:Nat→ab} {w:ae}
theorem nY {x y:Code} (h:jI P N x (Exit.then (y.wpIn (fe N.r) 0 P B) B) σ w):jI P N (.seq x y) B σ w:=wpIn_seq h
theorem bQ {y:Code} (h:jI P N y B σ w):qb N (Exit.then (y.wpIn (fe N.r) 0 P B) B) .normal σ w:=h
theorem A6 (h:qb N B .ret σ w):jI P N .ret B σ w:=wpIn_ret h
theorem pR {c:Code} (h:aJ P N c (qb N B) σ w):jI P N c B σ w:=by
 unfold aJ at h;refine wpIn_mono h ?_;intro e a w A;cases e with
 | panic c=>obtain ⟨σ,rfl,C⟩:=A; exact C σ fun _ _=>rfl
 | outgrown=>exact A.elim
 | _=>obtain ⟨σ,rfl,C⟩:=A; exact C
end
theorem nU (fn:Func) (args:List ab) (F:List Nat) (hn:Nat.ble args.length fn.ntmps=true):({tmps:=args.toArray++Array.replicate (fn.ntmps - args.toArray.size) undef,defers:= []} :Act)=act ⟨fn.ntmps,[],F,none⟩ (cY args):=by
 have E:args.length≤fn.ntmps:=by simpa using hn
 refine mK U fun i=> ?_;rw [fc];simp only [cY,List.getD_eq_getElem?_getD,c7];by_cases A:i < args.length
 · rw [Array.getElem?_append_left (by simpa using A),if_pos ag];simp [A]
 · rw [Array.getElem?_append_right (by simpa using A)];simp only [c7,Array.getElem?_replicate];by_cases C:i < fn.ntmps
   · rw [if_pos ag,if_pos C,List.getElem?_eq_none ag]; rfl
   · rw [if_neg ag,if_neg C]
abbrev Bm (P:aj) (fn:Func) (R:ab→ae→Prop):aE→Act→ae→Prop :=bodyPostM dt 0 P fn (fun e w'=> ∃ v,e= .returned v∧R v w')
theorem yR {P:aj} {f:FuncId} {N:Nat} {fn:Func} {c:Code} {args:List ab} {w:ae} {R:ab→ae→Prop} (F:List Nat) (C:P.funcs[f]? =some fn) (hb:fn.body=some c)
 (A:fn.ntmps=N) (hn:Nat.ble args.length N=true) (h:jI P ⟨N,[],F,none⟩ c (Bm P fn R) (cY args) w):aO P f args.toArray w R:=by
 subst A;refine callsIn_wide.1<|callsIn_of_wp_marks (F:=dt) (n:=0) C hb trivial ?_;rw [nU fn args F hn];exact h
section
variable {P:aj} {n:Nat} {F:List Nat} {σ:Nat→ab} {w:ae} {fn:Func} {R:ab→ae→Prop}
theorem zS {D:Nat} {v:ab} (A:w.heap[D]? =some (.deferred<|some [])) (hr:∀ w',(results fn (act ⟨n,[{target:= .collected D,args:= #[]}],F,none⟩ σ).tmps).run P w'= .ok v w') (C:R v (w.putObj D<|.deferred none)):
 qb ⟨n,[{target:= .collected D,args:= #[]}],F,none⟩ (Bm P fn R) .ret σ w:=
 ⟨FrameMode.noConfusion,.inl ⟨_,_,rfl,run_takeDeferred A,⟨v,hr _,v,rfl,C⟩⟩⟩
theorem y4 {D t:Nat} {v:ab} (h:fn.results= #[.tmp t]) (E:ev ⟨n,[{target:= .collected D,args:= #[]}],F,none⟩ σ (.tmp t)=v) (A:w.heap[D]? =some (.deferred<|some [])) (C:R v (w.putObj D<|.deferred none)):
 qb ⟨n,[{target:= .collected D,args:= #[]}],F,none⟩ (Bm P fn R) .ret σ w:=
 zS A (fun w'=>by rw [results_tmp h,kP,E]) C
end
theorem qg {w:ae} {B t size n pp E:Nat} {v:ab} {xs:List ab} {cs:Array ab} {z:Nat×Nat} (h:w.ownsRow B t size v n xs) (hp:w.heap[pp]? =some (.cells cs E z)) (J:t≠E):v.ownBlock≠some pp:=by
 intro A;rcases h.2 with ⟨C,_⟩ | ⟨g,cap,cur,C,_,I,_⟩
 · rw [C] at A; simp [cJ] at A
 · rw [C] at A;simp only [cJ,aQ] at A;subst A;rw [I] at hp;simp only [aQ,Obj.cells.injEq] at hp;exact J hp.2.1
section
variable {P:aj} {N:Fm} {σ:Nat→ab} {w:ae} {dst:Option Nat} {ty:ai} {pos :String} {af:Array Edge} {g:Option (Nat×Bool)} {x:ax} {K:(Nat→ab)→ae→Prop}
theorem rN {e:ai} {v:ab} (C:ev N σ x=v) (A:v.oneCell'=true) (k:∀ b w',b=w.heap.size→Nw w w'→w'.heap[b]? =some (.cells [v].toArray e (0,0))→K (bR σ dst<|.pointer<|some ⟨b,0,none⟩) w'):
 aT P N ⟨dst,.box e x,ty,pos,af,g⟩ σ w K:=by
 refine iN (v:=fun b=> .pointer<|some ⟨b,0,none⟩) (ob:= .cells [v].toArray e (0,0)) ?_ k;have :=ky A;simp [execOp,Instr.box,C,this,newVar,newRow]
end
theorem p3 (w:ae) (k:Nat) (o:Obj):Md (fun j=>j=k) w (w.putObj k o):=
 ⟨rfl,rfl,by simp [World.putObj],fun j _ A=>iT A⟩
def dP (w w':ae):Prop := ∀ (k:Nat) (o:Obj),w.heap[k]? =some o→((∀ cur e z,o≠.cells cur e z)∧∀ es c,o≠.map es c)→w'.heap[k]? =some o
theorem dP.trans {a b c:ae} (h:dP a b) (A:dP b c):dP a c:=fun k o C hn=>A k o (h k o C hn) hn
theorem dP.md {F:Nat→Prop} {w w':ae} (hm:Md F w w') (C:∀ k,F k→∃ cur e z,w.heap[k]? =some (.cells cur e z)):dP w w':=fun k o A hn=>by
 rw [hm.bW k (bu.1 A).1 (fun E=>by obtain ⟨c,e,z,h⟩:=C k E; rw [A] at h; exact hn.1 _ _ _<|di h)]; exact A
theorem dP.wk {w w':ae} (hm:Wk w w'):dP w w':=dP.md hm fun _ h=>h.elim
theorem qh {w:ae} {B e size n:Nat} {v:ab} {xs:List ab} (h:w.ownsRow B e size v n xs):∀ k,v.ownBlock=some k→∃ cur e z,w.heap[k]? =some (.cells cur e z):=by
 intro k A;rcases h.2 with ⟨rfl,_⟩ | ⟨g,cap,E,rfl,_,C,_⟩
 · simp [cJ] at A
 · simp only [cJ,aQ] at A; subst A; exact ⟨_,_,_,C⟩
def xn {α:Type} (B:Nat) (A:List α→ae→Prop):Prop := ∀ pre W W' (F:Nat→Prop),A pre W→Md F W W'→(∀ k,F k→B≤k∧∀ cur e z,W.heap[k]?≠some (.cells cur e z))→A pre W'
section
variable {F:Nat→Prop} {W W':ae} {B:Nat}
theorem uO {b e:Nat} {cs:Array ab} {z:Nat×Nat} (h:W.heap[b]? =some (.cells cs e z)) (hm:Md F W W') (A:∀ k,F k→B≤k∧∀ cur e z,W.heap[k]?≠some (.cells cur e z)):W'.heap[b]? =some (.cells cs e z):=by
 rw [hm.bW b (bu.1 h).1 (fun C=>(A b C).2 _ _ _ h)]; exact h
theorem BA {B' e size n:Nat} {v:ab} {xs:List ab} (h:W.ownsRow B' e size v n xs) (hm:Md F W W') (C:∀ k,F k→B≤k∧∀ cur e z,W.heap[k]?≠some (.cells cur e z)):W'.ownsRow B' e size v n xs:=
 ed h hm fun k I E=>by obtain ⟨c,e,z,A⟩:=qh h k I; exact (C k E).2 _ _ _ A
theorem BB {w:ae} (h:Wk w W) (hm:Md F W W') (E:w.heap.size≤B) (A:∀ k,F k→B≤k∧∀ cur e z,W.heap[k]?≠some (.cells cur e z)):Wk w W':=Md.trans' h hm fun k I C=>by have :=(A k C).1; omega
end
def AZ (R:ae→Prop):aE→(Nat→ab)→ae→Prop
 | .normal,_,w=>R w
 | _,_,_=>False
theorem rC (N:Fm):∀ (l:List (Tmp×ab)) (σ:Nat→ab),l.foldl (fun t p=>t.setIfInBounds p.1 p.2) (act N σ).tmps=(act N<|l.foldl (fun s p=>aG s p.1 p.2) σ).tmps:=by
 intro l
 induction l with
 | nil=>intro σ; rfl
 | cons p l ih=>
   intro σ;rw [oE,oE,← ih];congr 1;have :=congrArg Act.tmps<|dv N σ (some p.1) p.2;exact this
section
variable {P:aj} {N:Fm} {ops:Array an} {Q:aE→(Nat→ab)→ae→Prop} {rest:List an} {σ:Nat→ab} {w:ae} {d':Option Nat} {d:Nat} {op:Op} {ty:ai} {pos :String} {af:Array Edge} {v:ab}
def gw (P:aj) (N:Fm) (ops:Array an) (Q:aE→(Nat→ab)→ae→Prop) (l:List an) (σ:Nat→ab) (w:ae):Prop :=wpListIn (fe N.r) 0 P ops (lift N Q) l (act N σ) w
theorem AY {id:Nat} {l:List an} (h:gw P N l.toArray Q l σ w):aJ P N (.region id l.toArray false) Q σ w:=by
 unfold aJ; exact wpIn_region_lit h
theorem Ak (h:Q .normal σ w):gw P N ops Q [] σ w:=⟨σ,rfl,h⟩
def p7 (o:Op):Bool:=match o with | .defer _=>false | _=>true
theorem Am {o:Op} (h:p7 o=true):∀ c,o≠.defer c:=fun c e=>by subst e; cases h
theorem ey (hn:p7 op=true) (h:aT P N ⟨d',op,ty,pos,af,none⟩ σ w (fun σ w=>gw P N ops Q rest σ w)):gw P N ops Q (⟨d',op,ty,pos,af,none⟩::rest) σ w:=by
 unfold gw wpListIn;rw [if_pos (fw _ rfl _)];refine ⟨fun f _=>ga _ f,?_⟩;rw [jl,mw _ _ _ (Am hn)];unfold aT Oper.wp at h;generalize (execOp (act N σ).eval ⟨d',op,ty,pos,af,none⟩).run P w=x at h ⊢;cases x with
 | ok n w'=>
   cases n <;> simp only [Oper.upon,k9] at h ⊢ <;>
    first
     | (obtain ⟨σ',ha,A⟩:=h; rw [ha]; exact A)
     | (refine ⟨fun h0=>(by rw [jk] at h0; cases h0),CallsIn.mono (m8 h) fun e w'' he=> ?_⟩
        cases e with
        | returned v=>obtain ⟨σ',ha,A⟩:=he; simp only; rw [ha]; exact A
        | panicked c=>exact he.elim
        | outgrown=>obtain ⟨_,_,C⟩:=he; exact C.elim)
     | (refine ⟨fun h0=>(by rw [jk] at h0; cases h0),RowsIn.mono (sE h) fun v w'' he=> ?_⟩
        obtain ⟨σ',ha,A⟩:=he; rw [ha]; exact A)
 | halt x w'=>cases x <;> simp only [Oper.upon] at h
theorem py (hn:p7 op=true) (h:(execOp (ev N σ) ⟨some d,op,ty,pos,af,none⟩).run P w= .ok (.value v) w) (k:gw P N ops Q rest (aG σ d v) w):gw P N ops Q (⟨some d,op,ty,pos,af,none⟩::rest) σ w:=
 ey hn (eH h k)
theorem Cv {l:Nat} {fo:ax} {args:Array ax} {A:Array ai} {L:List ab} {R:ae→Prop} (M:ev N σ fo= .func (.yield l) #[] #[]) (I:args.toList.map (ev N σ)=L)
 (U:YieldAt dt 0 P l L.toArray w fun e W'=>e= .returned (.bool true)∧R W') (k:∀ W',R W'→gw P N ops Q rest (aG σ d<|.bool true) W'):
 gw P N ops Q (⟨some d,.call ⟨.value fo,args,A⟩,ty,pos,af,none⟩::rest) σ w:=by
 obtain ⟨fn,tmps,a,b,J,C⟩:=U;unfold gw wpListIn;rw [if_pos (fw _ rfl _)];refine ⟨fun f _=>ga _ f,?_⟩;rw [jl,mw _ _ _ (fun c e=>by cases e),cD];have hm:args.map (ev N σ)=L.toArray:=by rw [← I,← Array.toList_map]
 have O:(execOp (ev N σ) ⟨some d,.call ⟨.value fo,args,A⟩,ty,pos,af,none⟩).run P w= .ok (.round l fn tmps a b) w:=by
  simp [execOp,resolve,M,Deferred.ofValue,invoke,hm,J]
 rw [O];simp only [k9];refine ⟨fun h0=>(by rw [jk] at h0; cases h0),?_⟩;have E:RoundIn (fe N.r) (0 - 1) P l fn tmps a b w fun e W'=>e= .returned (.bool true)∧R W':=by
  cases hr:N.r with
  | none=>exact C
  | some k=>exact C
 refine RoundIn.mono E ?_;rintro e W' ⟨rfl,hw⟩;simp only;rw [dv];exact k W' hw
end
end Go.Hb
end
namespace Go.Hb
def ru {α:Type} (P:aj) (L:Nat) (M:Array ab) (J:α→Array ab) (Ok:List α→α→Prop) (Fin:List α→Prop) (I:ae→Prop):Prop :=
 ∀ (l:Nat) (A:List α→ae→Prop) (W:ae),A [] W→(∀ pre W,A pre W→I W)→(∀ pre C E (F:Nat→Prop),A pre C→Md F C E→(∀ k,F k→W.heap.size≤k∧∀ cur e z,C.heap[k]?≠some (.cells cur e z))→A pre E)→
   (∀ pre x C,Ok pre x→A pre C→YieldAt dt 0 P l (J x) C fun e W'=>e= .returned (.bool true)∧dP C W'∧A (pre++ [x]) W')→
   Calls P L (#[.func (.yield l) #[] #[]]++M) W fun e W'=>(∃ v,e= .returned v)∧∃ xs,Fin xs∧A xs W'
theorem A3 {α:Type} {P:aj} {id n:Nat} {g:ax} {ps:Array Tmp} {ak body:Code} {aa:List Nat} {σ:Nat→ab} {w:ae} {B:aE→Act→ae→Prop} {ac:Nat} {ad:Array ab}
 (V:α→Array ab) (Ok:List α→α→Prop) (Fin:List α→Prop) (aw:ae→Prop) (E:List α→ae→Prop) (aQ:ev ⟨n,[],aa,none⟩ σ g= .func (.func ac) #[] ad) (aM:fT P ac) (aY:∀ x,(V x).size=ps.size)
 (aS:ru P ac ad V Ok Fin aw) (aH:E [] w) (aN:∀ pre W,E pre W→aw W) (ao:xn w.heap.size E) (aC:α→Nat→ab)
 (ha:∀ (l:Nat) (x:α) (W:ae) (K:(Nat→ab)→ae→Prop),K (aC x) W→aJ P ⟨n,[],[],some l⟩ ak (eU K fun _ _ _=>False) ((ps.toList.zip (V x).toList).foldl (fun s p=>aG s p.1 p.2) σ) W)
 (hb:∀ (l:Nat) (pre:List α) (x:α) (W:ae),Ok pre x→E pre W→aJ P ⟨n,[],[],some l⟩ body (AZ fun W'=>dP W W'∧E (pre++ [x]) W') (aC x) W)
 (aO:∀ (D:Nat) (W:ae) (xs:List α),Fin xs→w.heap.size≤D→E xs W→W.heap[D]? =some (.deferred<|some [])→qb ⟨n,[{target:= .collected D,args:= #[]}],aa,none⟩ B .normal σ W):
 jI P ⟨n,[],aa,none⟩ (.block id<|.rangeFunc g ps ak body) B σ w:=by
 refine wpIn_block<|wpIn_rangeFunc ?_;intro fn _;obtain ⟨rc,O⟩:∃ rc:LoopState→Option Code→Loop,rc=fun st a1=> {state:=st,pending:=a1,fn,tmps:=(act ⟨n,[],aa,none⟩ σ).tmps,params:=ps,assign:=ak,body,defers:=w.heap.size} :=⟨_,rfl⟩
 obtain ⟨I,ah⟩:∃ I,(w.alloc<|.deferred<|some []).alloc (.loop<|rc .ready none)=I:=⟨_,rfl⟩
 have aL:I.heap[w.heap.size+1]? =some (.loop<|rc .ready none):=by
  rw [← ah]; have :=vU (w.alloc<|.deferred<|some []) (.loop<|rc .ready none); rwa [ra] at this
 have aK:I.heap[w.heap.size]? =some (.deferred<|some []):=by
  rw [← ah]; exact (Below.heap_alloc _ _ _<|by simp).trans<|vU w _
 have a4:I.heap.size=w.heap.size+2:=by rw [← ah,ra,ra]
 have hn:∀ (W:ae) (o:Obj),Wk W (W.alloc o):=fun W o=>(tW W o).md;have aI:E [] I:=by rw [← ah]; exact ao _ _ _ _ (ao _ _ _ _ aH (hn _ _) fun _ h=>h.elim) (hn _ _) fun _ h=>h.elim
 have aP:(act ⟨n,[],aa,none⟩ σ).eval g= .func (.func ac) #[] ad:=by rw [cD]; exact aQ
 refine ⟨w.heap.size+1,[{target:= .collected w.heap.size,args:= #[]}],I,{target:= .fn (.func ac) ad,args:= #[.func (.yield<|w.heap.size+1) #[] #[]]},I,ac,
  #[.func (.yield<|w.heap.size+1) #[] #[]]++ad,I,?_,?_,fun _ _=>trivial,?_,fun h0=>(by cases h0),?_⟩
 · rw [← ah,O]; exact run_enterLoop_outer _ _ _ _ _
 · simp only [resolve,aP];simp [go_sem]
 · have :=aM (#[.func (.yield<|w.heap.size+1) #[] #[]]++ad) I;simp [invoke,go_sem,this]
 · have au:∀ (pre:List α) (W:ae) (o av:Obj),E pre W→W.heap[w.heap.size+1]? =some o→(∀ cur e z,o≠.cells cur e z)→E pre (W.putObj (w.heap.size+1) av):=fun pre W o av al am aF=>
    ao _ _ _ _ al (p3 W _ av) fun k Z=>⟨ag,fun cur e z ay=>by subst Z; rw [am] at ay; exact aF _ _ _<|di ay⟩
   refine callsIn_wide.2 (Calls.mono (aS (w.heap.size+1)
    (fun pre W=>E pre W∧W.heap[w.heap.size+1]? =some (.loop<|rc .ready none)∧W.heap[w.heap.size]? =some (.deferred<|some []))
    I ⟨aI,aL,aK⟩ (fun pre W h=>aN pre W h.1)
    (fun pre A C F h hm an=>⟨ao _ _ _ _ h.1 hm (fun k Z=>⟨by have :=(an k Z).1; omega,(an k Z).2⟩),(hm.bW _ (bu.1 h.2.1).1 fun h=>by have :=(an _ h).1; omega).trans h.2.1,(hm.bW _ (bu.1 h.2.2).1 fun h=>by have :=(an _ h).1; omega).trans h.2.2⟩) ?_) ?_)
   · rintro pre x W a0 ⟨hi,J,Z⟩;have aW:w.heap.size+1 < W.heap.size:=(bu.1 J).1;have aA:=run_yield (P:=P) (args:=V x) J<|by rw [O]; exact aY x
     rw [O] at aA;refine ⟨fn,_,ak,body,aA,roundIn_of_wpIn (F:=dt) trivial ?_⟩;have aZ:((ps.zip<|V x).foldl (fun tmps (p:Tmp×ab)=>tmps.setIfInBounds p.1 p.2) (act ⟨n,[],aa,none⟩ σ).tmps)=(act ⟨n,[],[],some<|w.heap.size+1⟩<|(ps.toList.zip (V x).toList).foldl (fun s p=>aG s p.1 p.2) σ).tmps:=by
      rw [← Array.foldl_toList,Array.toList_zip];exact rC ⟨n,[],[],some<|w.heap.size+1⟩ _ σ
     have al:=ha (w.heap.size+1) x W (fun σ' W'=> ∃ aB,(Instr.beginRound<|w.heap.size+1).run P W'= .ok () aB∧
      body.wpIn (dt.inRound<|w.heap.size+1) 0 P (roundPost P (w.heap.size+1) fun e W'=>e= .returned (.bool true)∧dP W W'∧E (pre++ [x]) W'∧W'.heap[w.heap.size+1]? =some (.loop<|rc .ready none)∧W'.heap[w.heap.size]? =some (.deferred<|some [])) (act ⟨n,[],[],some<|w.heap.size+1⟩ σ') aB) ?_
     · unfold aJ at al;have aD:({tmps:=(ps.zip<|V x).foldl (fun tmps (p:Tmp×ab)=>tmps.setIfInBounds p.1 p.2) (act ⟨n,[],aa,none⟩ σ).tmps,defers:= []} :Act)=act ⟨n,[],[],some<|w.heap.size+1⟩ ((ps.toList.zip (V x).toList).foldl (fun s p=>aG s p.1 p.2) σ):=by rw [aZ]; rfl
       rw [aD];refine wpIn_mono al ?_;intro e a w' L;cases e with
       | normal=>obtain ⟨σ',rfl,M⟩:=L; exact M
       | panic c=>obtain ⟨σ',rfl,M⟩:=L; exact M σ' fun _ _=>rfl
       | outgrown=>exact L.elim
       | _=>obtain ⟨σ',rfl,M⟩:=L; exact M
     refine ⟨_,run_beginRound J (by rw [O]),?_⟩;have aV:(W.putObj (w.heap.size+1)<|.loop {rc .ready none with state:= .busy}).heap[w.heap.size+1]? =some (.loop {rc .ready none with state:= .busy}):=mA aW;have aT:(W.putObj (w.heap.size+1)<|.loop {rc .ready none with state:= .busy}).heap[w.heap.size]? =some (.deferred<|some []):=(iT ag).trans Z;have am:=hb (w.heap.size+1) pre x _ a0<|au _ _ _ (.loop {rc .ready none with state:= .busy}) hi J fun _ _ _ h=>by cases h
     unfold aJ at am;refine wpIn_mono am ?_;intro e a a3 L;cases e with
     | normal=>
       obtain ⟨σ',rfl,ar,aR⟩:=L;have ai:=ar _ _ aV ⟨(fun _ _ _ h=>by cases h),fun _ _ h=>by cases h⟩;have aU:=ar _ _ aT ⟨(fun _ _ _ h=>by cases h),fun _ _ h=>by cases h⟩;have hr:=run_endRound (P:=P) none ai;rw [O] at hr ai ⊢;refine ⟨_,_,hr,U,fun k o aq aX=> ?_,au _ _ _ _ aR ai (fun _ _ _ h=>by cases h),mA (bu.1 ai).1,(iT ag).trans aU⟩;by_cases ap:k=w.heap.size+1
       · subst ap;rw [J,O] at aq;rw [← aq];exact mA (bu.1 ai).1
       · exact (iT ap).trans<|ar k o ((iT ap).trans aq) aX
     | panic c=>obtain ⟨σ',rfl,M⟩:=L; exact (M σ' fun _ _=>rfl).elim
     | outgrown=>exact L.elim
     | _=>obtain ⟨σ',rfl,M⟩:=L; exact M.elim
   · rintro e a2 ⟨⟨v,rfl⟩,xs,hfin,hi,J,Z⟩;have az:=run_endLoop (P:=P) J<|by rw [O]; simp
     rw [O] at az;refine ⟨none,_,az,?_⟩;rw [O] at J;exact aO w.heap.size _ xs hfin (Nat.le_refl _) (au _ _ _ _ hi J fun _ _ _ h=>by cases h)<|(iT ag).trans Z
end Go.Hb
section
namespace Go.Hb
section
variable {P:aj} {N:Fm} {σ:Nat→ab} {w:ae} {fn:Func} {R:ab→ae→Prop}
theorem z7 {t b off :Nat} {v:ab} (hu:cP P t=some none) (A:Hb.aK w.heap b off =some v):(loadVar t ⟨b,off,none⟩).run P w= .ok v w:=by
 have C:w.cell? ⟨b,off,none⟩=some v:=by rw [et]; exact A
 unfold cP at hu;cases hd:P.underlying t with
 | none=>rw [hd] at hu; cases hu
 | some d=>
   rw [hd] at hu;cases d <;> first
    | (simp only [eJ] at hu; obtain ⟨_,_,h⟩:=hu; cases h; done)
    | simp [loadVar,isAgg,aC hd,run_load,C]
theorem z8 {t n b off :Nat} {cs:List ab} (hu:cP P t=some (some n)) (I:cs.length=n) (C:∀ j,j < n→Hb.aK w.heap b (off+j)=cs[j]?):(loadVar t ⟨b,off,none⟩).run P w= .ok (.agg cs.toArray) w:=by
 have E:(loadCells ⟨b,off,none⟩ n).run P w= .ok cs.toArray w:=by
  subst I;refine run_loadCells_list (P:=P) w ⟨b,off,none⟩ cs fun j v A=> ?_;rw [cE,et];exact (C j (List.getElem?_eq_some_iff.1 A).1).trans A
 unfold cP at hu;cases hd:P.underlying t with
 | none=>rw [hd] at hu; cases hu
 | some d=>
   rw [hd] at hu;cases hi:P.info? t with
   | none=>simp [vR,hi] at hd
   | some i=>
     rw [hi] at hu;cases d <;> first
      | (cases hu; done)
      | (simp only [cM,aQ] at hu; subst hu
         simp [loadVar,isAgg,aC hd,sizeOf,bU hi,E])
def j7 (P:aj) (N:Fm) (σ:Nat→ab) (w:ae):ResultVar→ab→Prop
 | .tmp t,v=>ev N σ (.tmp t)=v
 | .cell a t,v=> ∃ ad,ev N σ (.tmp a)= .pointer (some ad)∧(loadVar t ad).run P w= .ok v w
theorem A5 {t:Tmp} :j7 P N σ w (.tmp t) (ev N σ<|.tmp t):=rfl
theorem hZ {a t b off :Nat} {v:ab} (C:ev N σ (.tmp a)= .pointer (some ⟨b,off,none⟩)) (hu:cP P t=some none) (A:Hb.aK w.heap b off =some v):j7 P N σ w (.cell a t) v:=⟨_,C,z7 hu A⟩
theorem A4 {a t n b off :Nat} {cs:List ab} (E:ev N σ (.tmp a)= .pointer (some ⟨b,off,none⟩)) (hu:cP P t=some (some n)) (C:cs.length=n) (A:∀ j,j < n→Hb.aK w.heap b (off+j)=cs[j]?):j7 P N σ w (.cell a t) (.agg cs.toArray):=⟨_,E,z8 hu C A⟩
def nR (tmps:Array ab):ResultVar→Sem ab
 | .tmp t=>pure<|tmps.getD t undef
 | .cell a t=>do loadVar t (← asAddr (tmps.getD a undef))
theorem ux {r:ResultVar} {v:ab} (h:j7 P N σ w r v):(nR (act N σ).tmps r).run P w= .ok v w:=by
 cases r with
 | tmp t=>
   show Sem.run P (pure<|(act N σ).tmps.getD t undef) w=_;rw [kP]; simp only [j7] at h; rw [h]; rfl
 | cell a t=>
   obtain ⟨ad,A,C⟩:=h;show Sem.run P (do loadVar t (← asAddr ((act N σ).tmps.getD a undef))) w=_;rw [kP,A];simp [asAddr,C]
end
end Go.Hb
end
section
namespace Go.Hb
section
variable {P:aj} {N:Fm} {Q:aE→(Nat→ab)→ae→Prop} {σ:Nat→ab} {w:ae} {ops:Array an} {rest:List an} {dst:Option Nat} {ty:ai} {pos :String} {af:Array Edge} {g:Option (Nat×Bool)} {x:ax}
theorem Ad {t:ai} {d:TypeDesc} {v:ab} (hu:P.underlying t=some d) (A:(match d with | .interface _=>false | _=>true)=true) (C:ev N σ x=v):(execOp (ev N σ) ⟨dst,.makeInterface t x,ty,pos,af,g⟩).run P w= .ok (.value<|.iface t v) w:=by
 cases d <;> first | (cases A; done) | simp [execOp,Instr.makeInterface,C,aC hu]
def gV (P:aj) (t:ai):Bool:=match P.underlying t with | some (.interface _)=>false | some _=>true | none=>false
theorem Ae {t:ai} {v:ab} (h:gV P t=true) (A:ev N σ x=v):(execOp (ev N σ) ⟨dst,.makeInterface t x,ty,pos,af,g⟩).run P w= .ok (.value<|.iface t v) w:=by
 unfold gV at h;cases hd:P.underlying t with
 | none=>rw [hd] at h; cases h
 | some d=>rw [hd] at h; exact Ad hd (by cases d <;> first | rfl | cases h) A
theorem BN {xt a:ai} {zv:ab} (hu:gV P a=true) (C:zeroV P a=some zv) (A:ev N σ x= .nilIface):(execOp (ev N σ) ⟨dst,.typeAssert x xt a true,ty,pos,af,g⟩).run P w= .ok (.value<|.tuple #[zv,.bool false]) w:=by
 unfold gV at hu;cases hd:P.underlying a with
 | none=>rw [hd] at hu; cases hu
 | some d=>rw [hd] at hu; cases d <;> first | (cases hu; done) | simp [execOp,vN,A,aC hd,qY C]
theorem BM {xt a:ai} {v:ab} (hu:gV P a=true) (A:ev N σ x= .iface a v):(execOp (ev N σ) ⟨dst,.typeAssert x xt a true,ty,pos,af,g⟩).run P w= .ok (.value<|.tuple #[v,.bool true]) w:=by
 unfold gV at hu;cases hd:P.underlying a with
 | none=>rw [hd] at hu; cases hu
 | some d=>rw [hd] at hu; cases d <;> first | (cases hu; done) | simp [execOp,vN,A,aC hd]
variable {S:ae→Prop} {fuel:Nat} {listed:Array Bool}
end
section
variable {P:aj} {N:Fm} {Q:aE→(Nat→ab)→ae→Prop} {σ:Nat→ab} {w:ae} {ops:Array an} {S:ae→Prop} {fuel:Nat} {listed:Array Bool}
end
section
variable {P:aj} {N:Fm} {Q:aE→(Nat→ab)→ae→Prop} {σ:Nat→ab} {w:ae} {ops:Array an} {S:ae→Prop} {fuel r:Nat} {listed:Array Bool}
end
section
variable {P:aj} {n:Nat} {D:List Deferred} {F:List Nat} {σ:Nat→ab} {w:ae} {fn:Func} {R:ab→ae→Prop} {B:aE→Act→ae→Prop}
end
section
variable {P:aj} {n:Nat} {F:List Nat} {σ:Nat→ab} {w:ae} {fn:Func} {R:ab→ae→Prop}
end
end Go.Hb
end
section
namespace Go.Hb
section
variable {B B':Nat} {fp fp' fp'':Nat→Prop} {w w' w'':ae}
end
section
variable {F fp:Nat→Prop} {W W':ae} {B:Nat}
end
section
variable {P:aj} {N:Fm} {ops:Array an} {Q:aE→(Nat→ab)→ae→Prop} {rest:List an} {σ:Nat→ab} {w:ae} {d':Option Nat} {d:Nat} {op:Op} {ty:ai} {pos :String} {af:Array Edge} {v:ab}
end
section
variable {P:aj} {n:Nat} {F:List Nat} {σ:Nat→ab} {w:ae} {fn:Func} {R:ab→ae→Prop}
end
def pw (P:aj) (s f:Nat):Option Nat:=
 match P.underlying s with
 | some (.struct A)=>match A[f]? with
   | some fd=>if cP P fd.type=some none then some fd.offset else none
   | none=>none
 | _=>none
theorem uy {P:aj} {t:Nat} (hu:cP P t=some none) (w:ae):(isAgg t).run P w= .ok false w:=by
 unfold cP at hu;cases hd:P.underlying t with
 | none=>rw [hd] at hu; cases hu
 | some d=>
   rw [hd] at hu;cases d <;> first
    | (simp only [eJ] at hu; obtain ⟨_,_,h⟩:=hu; cases h; done)
    | simp [isAgg,aC hd]
theorem y5 {P:aj} {N:Fm} {σ:Nat→ab} {w:ae} {dst:Option Nat} {ty:ai} {pos :String} {af:Array Edge} {g:Option (Nat×Bool)} {x:ax} {s f n:Nat} {cs:Array ab} {v:ab} (A:pw P s f=some n) (I:ev N σ x= .agg cs) (E:cs[n]? =some v):
 (execOp (ev N σ) ⟨dst,.field s x f,ty,pos,af,g⟩).run P w= .ok (.value v) w:=by
 unfold pw at A;split at A
 · rename_i J hu;split at A
   · rename_i fd C;split at A
     · rename_i ha;cases A;simp [execOp,vH,aC hu,C,I,asAgg,part,uy ha,E]
     · cases A
   · cases A
 · cases A
section
variable {P:aj} {ops:Array an} {Q:aE→Act→ae→Prop} {S:ae→Prop} {md:jU}
def vh (P:aj) (md:jU) (ops:Array an) (Q:aE→Act→ae→Prop) (S:ae→Prop):Nat→Array Bool→Act→ae→Prop
 | 0,listed,a,w=>cT md ops listed= []∧Q .normal a w
 | fuel+1,listed,a,w=>
   (cT md ops listed= []→Q .normal a w)∧
   ∀ i∈cT md ops listed,wpOpIn dt 0 P ops Q i (fun A w'=>S w'∧vh P md ops Q S fuel (listed.setIfInBounds i true) A w') a w
end
def Cn (P:aj) (N:Fm) (ops:Array an) (Q:aE→(Nat→ab)→ae→Prop) (S:ae→Prop) (fuel:Nat) (listed:Array Bool) (σ:Nat→ab) (w:ae):Prop :=
 vh P .any ops (lift N Q) S fuel listed (act N σ) w
section
variable {P:aj} {N:Fm} {ops:Array an} {Q:aE→(Nat→ab)→ae→Prop} {σ:Nat→ab} {w:ae} {d':Option Nat} {d:Nat} {op:Op} {ty:ai} {pos :String} {af:Array Edge} {v:ab}
variable {S:ae→Prop} {fuel:Nat} {listed:Array Bool}
end
attribute [irreducible] Cn
end Go.Hb
end
section
namespace Go.Hb
section
variable {P:aj} {N:Fm} {σ:Nat→ab} {w:ae} {dst:Option Nat} {ty:ai} {pos :String} {af:Array Edge} {g:Option (Nat×Bool)} {x:ax}
theorem xG {t n C b:Nat} (he:j9 P t=some (n,C)) (A:ev N σ x= .pointer (some ⟨b,0,none⟩)):
 (execOp (ev N σ) ⟨dst,.slice t x none none none,ty,pos,af,g⟩).run P w= .ok (.value<|.slice (some ⟨b,0,none⟩) n n) w:=by
 unfold j9 at he;cases hd:P.underlying t with
 | none=>rw [hd] at he; cases he
 | some d=>
   rw [hd] at he;cases d <;> first | (cases he; done) | skip
   rename_i m e;cases hi:P.info? e with
   | none=>simp [hi] at he
   | some j=>
     simp only [hi,cM,aQ,Prod.mk.injEq] at he;obtain ⟨rfl,rfl⟩:=he;simp [execOp,jQ,Instr.sureAddr,gD,A,aC hd,sizeOf,bU hi,cE]
def px (P:aj) (t f:Nat):Option (Nat×Nat):=
 match P.underlying t with
 | some (.struct A)=>(A[f]?).map fun d=>(d.type,d.offset)
 | _=>none
theorem zd {t f A off n:Nat} {cs C:List ab} (h:px P t f=some (A,off)) (ha:cP P A=some (some n)) (J:ev N σ x= .agg cs.toArray) (I:(cs.drop off).take n=C):
 (execOp (ev N σ) ⟨dst,.field t x f,ty,pos,af,g⟩).run P w= .ok (.value<|.agg C.toArray) w:=by
 subst I;unfold px at h;cases hd:P.underlying t with
 | none=>rw [hd] at h; cases h
 | some d=>
   rw [hd] at h;cases d <;> first | (cases h; done) | skip
   rename_i L;simp only [eJ] at h;obtain ⟨fd,E,he⟩:=h;cases he;unfold cP at ha;cases hd2:P.underlying fd.type with
   | none=>rw [hd2] at ha; cases ha
   | some d2=>
     rw [hd2] at ha;cases hi:P.info? fd.type with
     | none=>simp [vR,hi] at hd2
     | some i=>
       rw [hi] at ha;have M:cs.toArray.extract fd.offset (fd.offset+n)=((cs.drop fd.offset).take n).toArray:=by simp
       cases d2 <;> first
        | (cases ha; done)
        | (simp only [cM,aQ] at ha; subst ha
           simp [execOp,vH,aC hd,E,J,asAgg,part,isAgg,aC hd2,sizeOf,bU hi])
end
end Go.Hb
end
section
namespace Go.Hb
theorem zz (c:UInt8):∀ l:List UInt8,vO l c=gS c l:=by
 intro l
 induction l with
 | nil=>rfl
 | cons b l ih=>
   unfold vO;rw [ih];rw [show gS c (b::l)=if (b::l).idxOf c < (b::l).length then ((b::l).idxOf c:Int) else -1 from rfl,List.idxOf_cons];by_cases h:(b==c)=true
   · rw [if_pos h,h]; rfl
   · have E:(b==c)=false :=by simpa using h
     rw [if_neg h,E];simp only [cond_false,cr];by_cases C:l.idxOf c < l.length
     · have A:gS c l=l.idxOf c:=if_pos C;rw [A,if_neg (fun hb=>by have :=eq_of_beq hb; omega),if_pos ag]; rfl
     · have A:gS c l= -1:=if_neg C;rw [A,if_pos bH,if_neg ag]
theorem A7 {P:aj} {f:FuncId} {fn:Func} (C:P.funcs[f]? =some fn) (E:(fn.name== "runtime.NumGoroutine")=false) (hb:fn.body.isNone=true) (hn:Extern.findNext fn=none)
 (he:Extern.find fn=some Cz) (l:List UInt8) (c:UInt8) (w:ae):(callFunc f #[str l,.int .u8 c.toNat]).run P w= .ok (.value<|.int .i64<|gS c l) w:=by
 rw [run_callFunc_extern C E hb hn he];unfold str;rw [Lib.run_indexByteString];have A:((c.toNat:Int)).toNat.toUInt8=c:=UInt8.toNat_inj.1<|by simp
 rw [A,zz];rfl
section
variable {P:aj} {N:Fm} {σ:Nat→ab} {w:ae} {dst:Option Nat} {ty:ai} {pos :String} {af:Array Edge} {g:Option (Nat×Bool)}
end
end Go.Hb
end
