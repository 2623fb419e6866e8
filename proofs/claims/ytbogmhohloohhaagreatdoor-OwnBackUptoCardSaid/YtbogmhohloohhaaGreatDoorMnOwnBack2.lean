/-
  Walks and plain laws that the law rests on, laid together. No conditions but those that each theorem names.
-/
import Derived.Test.YtbogmhohloohhaaGreatDoorMnOwnBack1
set_option linter.unusedVariables false
open Array renaming ext_getElem?→rz,getElem?_eq_some_iff→bI,getElem?_modify→rB,getElem?_setIfInBounds_ne→kS,getElem?_setIfInBounds_self_of_lt→mi,toList_filter→nO,toList_map→gv,toList_modify→pc,toList_push→rF
open Go.Builtin renaming delete_→nQ
open Go.Calls renaming mono→gy
open Go.CallsD renaming mono→A5
open Go.Code renaming wp_mono→A7
open Go.Deferred renaming ofValue→kg
open Go renaming Edge→bB,Exit→aK,Func→fS,FuncId→dq,Oper→aq,Operand→az,Program→ak,TypeId→aj,Value→ab,World→ah
open Go.Extern.BytealgIndexByte renaming indexByte→JU
open Go.Fence renaming wide→eC
open Go.Instr renaming field→Bf,mapUpdate→nR,sliceAt→mr,sliceBounds→jA,typeAssert→Bl
open Go.Lib renaming indexByte→Bn
open Go.Oper renaming semAt_eq→po,upon→gD,uponIn→nW,wp→fv
open Go.Program renaming underlying→Br
open Go.Region renaming Mode→mz,ready→dB
open Go.Rows renaming mono→vJ
open Go.Sem renaming run→iR
open Go.Value renaming ownBlock→cG
open Go.Value.slice renaming injEq→kV
open Go.World renaming alloc_heap_new→Bt,putObj_heap_other→kW,putObj_heap_same→px,setCell→rP,size_alloc→vL
open List.Nodup renaming sublist→BA
open List.Pairwise renaming imp_of_mem→JV
open List.Sublist renaming map→vM
open List renaming append_assoc→kX,append_nil→vN,eraseIdx_sublist→BH,foldl_cons→pB,getD_eq_getElem?_getD→cH,getElem?_cons_succ→fU,getElem?_cons_zero→fV,getElem?_eq_some_iff→cy,getElem?_inj→BM,getElem?_map→eX,getElem?_of_mem→BN,getElem?_toArray→ki,length_append→bK,length_cons→bZ,length_map→BO,length_nil→nY,length_replicate→vQ,length_singleton→gY,length_take→cm,map_cons→da,mem_append→eL,mem_cons→db,mem_cons_of_mem→iV,mem_cons_self→ix,mem_eraseIdx_iff_getElem?→BT,mem_map→dO,mem_of_getElem?→jF,mem_of_mem_eraseIdx→vT,nil_append→r8,nodup_cons→mE,nodup_nil→r9,not_mem_nil→pD,pairwise_map→BY,perm_ext_iff_of_nodup→BZ,replicate→dT,size_toArray→dP,take_append→B6,take_of_length_le→pE
open List.cons renaming inj→rR
open Nat renaming ble→aG,le_refl→aO,lt_or_ge→dU,min_eq_left→sa,sub_self→Cf
open Option renaming map_eq_some_iff→fB,map_some→dg
open Option.some renaming inj→et,injEq→aY
open Prod renaming fst→bN
open Go.Proofs.Tryz
open Go.RowKit

section
namespace Go.Hb
open Go.ChangeMaps
open Classical
noncomputable def jQ (f:ab→Option ab) (k:ab):ab→Option ab:=fun q=>if q=k then none else f q
theorem Ee {f:ab→Option ab} {k:ab} (h:f k=none):jQ f k=f:=by
 funext q; unfold jQ;by_cases A:q=k
 · subst A; rw [if_pos rfl,h]
 · rw [if_neg A]
def e9 (f:ab→Option ab) (n:Nat):Prop := ∃ l:List ab,l.Nodup∧l.length=n∧∀ k,(∃ v,f k=some v)↔k∈l
theorem e9.uniq {f:ab→Option ab} {n m:Nat} (h:e9 f n) (A:e9 f m):n=m:=by
 obtain ⟨l,C,rfl,E⟩:=h;obtain ⟨I,g1,rfl,g3⟩:=A;exact ((BZ C g1).2 fun k=>by rw [← E,← g3]).length_eq
theorem e9.new {f:ab→Option ab} {n:Nat} {k v:ab} (h:e9 f n) (I:f k=none):e9 (fK f k v) (n+1):=by
 obtain ⟨l,E,rfl,C⟩:=h;have hn:k∉l:=fun hm=>by obtain ⟨u,hu⟩:=(C k).2 hm; rw [I] at hu; cases hu
 refine ⟨k::l,mE.2 ⟨hn,E⟩,U,fun q=> ?_⟩;unfold fK;by_cases A:q=k
 · subst A; simp
 · rw [if_neg A,C,db]; simp [A]
theorem e9.dx {f:ab→Option ab} {n:Nat} {k v u:ab} (h:e9 f n) (I:f k=some u):e9 (fK f k v) n:=by
 obtain ⟨l,E,rfl,A⟩:=h;refine ⟨l,E,U,fun q=> ?_⟩;unfold fK;by_cases C:q=k
 · subst C; rw [if_pos rfl]; exact ⟨fun _=>(A q).1 ⟨u,I⟩,fun _=>⟨v,rfl⟩⟩
 · rw [if_neg C,A]
theorem bD.fG {h:Array Obj} {b:Nat} {ax:ab→Prop} {f:ab→Option ab} (hm:bD h b ax f):∃ es c,h[b]? =some (.map es c)∧e9 f es.size:=by
 obtain ⟨es,c,E,_,A⟩:=hm;refine ⟨es,c,E,es.toList.map (·.key),A.nd,by simp,fun k=> ?_⟩;rw [dO];exact ⟨fun ⟨v,I⟩=>let ⟨e,he,C,_⟩:=(A.iff k v).1 I; ⟨e,he,C⟩,fun ⟨e,he,C⟩=>⟨e.val,(A.iff k _).2 ⟨e,he,C,U⟩⟩⟩
theorem fE.del {es:List MapEntry} {ax:ab→Prop} {f:ab→Option ab} {i:Nat} {e:MapEntry} (h:fE es ax f) (hi:es[i]? =some e):fE (es.eraseIdx i) ax (jQ f e.key) where
 ks x E:=h.ks x<|vT E
 nd:=BA (vM _<|BH _ _) h.nd
 iff k u:=by
  have U:∀ {j:Nat} {x:MapEntry},es[j]? =some x→x.key=e.key→j=i:=fun {j x} C I=>by
   have O:=(cy.1 C).1;exact (BM (by simpa using O) h.nd).1<|by rw [eX,eX,C,hi,dg,dg,I]
  unfold jQ;by_cases I:k=e.key
  · subst I;rw [if_pos rfl];constructor
    · intro A; cases A
    · rintro ⟨x,E,A,J⟩;obtain ⟨j,C,M⟩:=BT.1 E;exact absurd (U M A) C
  · rw [if_neg I,h.iff];constructor
    · rintro ⟨x,E,A,J⟩;obtain ⟨j,C⟩:=BN E;have L:j≠i:=fun L=>by subst L; rw [hi] at C; cases C; exact I A.symm
      exact ⟨x,BT.2 ⟨j,L,C⟩,A,J⟩
    · rintro ⟨x,E,A,J⟩;exact ⟨x,vT E,A,J⟩
theorem fW.del {es:List MapEntry} {c:Nat} (h:fW es c) (i:Nat):fW (es.eraseIdx i) c:=
 ⟨fun e he=>h.lt e (vT he),BA (vM _<|BH _ _) h.nd⟩
theorem x8 {α:Type} {p:α→Bool} :∀ {l:List α} {i:Nat} {x:α},l[i]? =some x→p x=false→(l.eraseIdx i).filter p=l.filter p
 | a::l,0,x,h,hp=>by
   simp only [fV,aY] at h;subst h;simp [hp]
 | a::l,i+1,x,h,hp=>by
   simp only [fU] at h;simp only [List.eraseIdx_cons_succ,List.filter_cons,x8 h hp]
section
variable {P:ak} {N:Fm} {σ:Nat→ab} {w:ah} {dst:Option Nat} {ty:aj} {pos :String} {af:Array bB} {g:Option (Nat×Bool)} {x y z:az} {K:(Nat→ab)→ah→Prop}
variable {t k e:aj} {ax:ab→Prop} {b:Nat} {f:ab→Option ab} {kx v zv:ab}
theorem I4 (aa:P.underlying t=some (.map k e)) (A:iY P k ax) (hm:bD w.heap b ax f) (hi:ax kx):
 ∃ w',(nR t (.map<|some b) kx v).run P w= .ok () w'∧Md (fun j=>j=b) w w'∧bD w'.heap b ax (fK f kx v):=by
 obtain ⟨es,c,hr,C,L⟩:=hm;have hb:=(bI.1 hr).1;rcases A.key.find w kx es.toList hi L.ks with ⟨I,ad⟩ | ⟨j,V,I,E,J⟩
 · refine ⟨{w with heap:=w.heap.setIfInBounds b<|.map (es.push {key:=kx,val:=v,born:=c})<|c+1},by simp [nR,aR aa,run_getObj_map hr,A.key.check _ w kx hi,I,setObj,iR,hr],⟨U,U,by simp,fun i _ O=>by simp only; rw [kS (fun e=>O e.symm)]⟩,es.push {key:=kx,val:=v,born:=c},c+1,by simp only; rw [mi hb],?_,?_⟩
   · rw [rF]; exact C.push
   · rw [rF]; exact L.push hi ad
 · have Z:es[j]? =some V:=by simpa using E
   have ag:(es.modify j fun e=> {e with key:=kx,val:=v})=es.modify j fun e=> {e with val:=v} :=by
    apply rz;intro i;rw [rB,rB];by_cases M:j=i
    · subst M; rw [if_pos rfl,if_pos rfl,Z,← J]; rfl
    · rw [if_neg M,if_neg M]
   refine ⟨{w with heap:=w.heap.setIfInBounds b<|.map (es.modify j fun e=> {e with key:=kx,val:=v}) c},?_,⟨U,U,by simp,fun i _ O=>by simp only; rw [kS (fun e=>O e.symm)]⟩,es.modify j fun e=> {e with val:=v},c,by simp only; rw [mi hb,ag],⟨fun x ab=> ?_,?_⟩,?_⟩
   · have ae:=A.stays w kx hi;simp [nR,aR aa,run_getObj_map hr,A.key.check _ w kx hi,I,Z,J,ae,setObj,iR,hr]
   · rw [pc] at ab;rcases (ng E x).1 ab with rfl | ⟨i,_,ac⟩
     · exact C.lt V<|jF E
     · exact C.lt x<|jF ac
   · rw [pc,y6 (fun e:MapEntry=> {e with val:=v}) (·.born) (fun _=>rfl)]; exact C.nd
   · rw [pc,← J]; exact L.HU E
theorem vd (L:P.underlying t=some (.map k e)) (A:iY P k ax) (hm:bD w.heap b ax f) (M:ev N σ x= .map (some b)) (O:ev N σ y=kx) (V:ev N σ z=v) (hi:ax kx)
 (Z:∀ w',Md (fun j=>j=b) w w'→bD w'.heap b ax (fK f kx v)→K σ w'):bq P N ⟨none,.mapUpdate t x y z,ty,pos,af,g⟩ σ w K:=by
 obtain ⟨w',C,E,I⟩:=I4 (v:=v) L A hm hi;have J:(execOp (ev N σ) ⟨none,.mapUpdate t x y z,ty,pos,af,g⟩).run P w= .ok .skip w':=by
  simp [execOp,M,O,V,C]
 unfold bq fv;rw [cK,J];exact ⟨σ,U,Z w' E I⟩
theorem Ec {kt:aj} (ak:P.underlying t=some (.map k e)) (I:iY P k ax) (hm:bD w.heap b ax f) (hi:ax kx) (aw:ev N σ x= .map (some b)) (ay:ev N σ y=kx):
 ∃ w',(execOp (ev N σ) ⟨dst,.call ⟨.builtin .delete,#[x,y],#[t,kt]⟩,ty,pos,af,g⟩).run P w= .ok (.value undef) w'∧Md (fun j=>j=b) w w'∧bD w'.heap b ax (jQ f kx)∧
   ∀ r left E,E.1=kx→fF w.heap r b left E→eO w'.heap r b left :=by
 have ag:∀ {w':ah},(nQ #[t,kt] ty #[.map (some b),kx]).run P w= .ok undef w'→(execOp (ev N σ) ⟨dst,.call ⟨.builtin .delete,#[x,y],#[t,kt]⟩,ty,pos,af,g⟩).run P w= .ok (.value undef) w':=by
  intro w' h;simp [execOp,resolve,invoke,builtin,aw,ay,h]
 obtain ⟨es,c,hr,L,A⟩:=hm;have hb:=(bI.1 hr).1;rcases I.key.find w kx es.toList hi A.ks with ⟨J,au⟩ | ⟨j,am,J,Z,ac⟩
 · have O:f kx=none:=by
    cases O:f kx with
    | none=>rfl
    | some u=>obtain ⟨an,ap,ao,_⟩:=(A.iff kx u).1 O; exact absurd ao<|au an ap
   have ai:w.heap.setIfInBounds b (.map es c)=w.heap:=by
    apply rz;intro i;rw [Array.getElem?_setIfInBounds];by_cases ad:b=i
    · subst ad; rw [if_pos rfl,if_pos hb,hr]
    · rw [if_neg ad]
   refine ⟨{w with heap:=w.heap.setIfInBounds b<|.map es c},ag ?_,⟨U,U,by simp,fun i _ aa=>by simp only; rw [kS (fun e=>aa e.symm)]⟩,?_,fun r left E ae M=> ?_⟩
   · simp [nQ,aR ak,run_getObj_map hr,I.key.check _ w _ hi,J,setObj,iR,hr];rfl
   · simp only [ai]; rw [Ee O]; exact ⟨es,c,hr,L,A⟩
   · simp only [ai]; exact M.nh
 · have aD:=(cy.1 Z).1;have C:(es.eraseIdxIfInBounds j).toList=es.toList.eraseIdx j:=by simp
   refine ⟨{w with heap:=w.heap.setIfInBounds b<|.map (es.eraseIdxIfInBounds j) c},ag ?_,⟨U,U,by simp,fun i _ aa=>by simp only; rw [kS (fun e=>aa e.symm)]⟩,⟨es.eraseIdxIfInBounds j,c,by simp only; rw [mi hb],by rw [C]; exact L.del j,by rw [C,← ac]; exact A.del Z⟩,fun r left E ae M=> ?_⟩
   · simp [nQ,aR ak,run_getObj_map hr,I.key.check _ w _ hi,J,setObj,iR,hr];rfl
   · obtain ⟨aC,c2,seen,ab,m1,al,aE,az,aA,aB⟩:=M;rw [hr] at al; cases al;have av:r≠b:=fun h=>by subst h; rw [m1] at hr; cases hr
     have kE:ab.key=am.key:=by rw [ac,← ae,← aB]
     obtain ⟨i,V⟩:=BN aA;have aq:i=j:=by
      have ar:=(cy.1 V).1;exact (BM (by simpa using ar) A.nd).1<|by rw [eX,eX,V,Z,dg,dg,kE]
     subst aq;refine ⟨es.eraseIdxIfInBounds i,c,seen.push ab.born,c,?_,aO _,?_,by rw [C]; exact L.del i,?_⟩
     · simp only; rw [kS (fun e=>av e.symm)]; exact m1
     · simp only; rw [mi hb]
     · rw [← az];unfold leftOf;rw [nO,nO,C,x8 V (by simp)]
theorem xF {kt:aj} (M:P.underlying t=some (.map k e)) (C:iY P k ax) (hm:bD w.heap b ax f) (O:ev N σ x= .map (some b)) (U:ev N σ y=kx) (hi:ax kx)
 (V:∀ w',Md (fun j=>j=b) w w'→bD w'.heap b ax (jQ f kx)→(∀ r left A,A.1=kx→fF w.heap r b left A→eO w'.heap r b left)→K (bV σ dst undef) w'):bq P N ⟨dst,.call ⟨.builtin .delete,#[x,y],#[t,kt]⟩,ty,pos,af,g⟩ σ w K:=by
 obtain ⟨w',E,I,J,L⟩:=Ec (dst:=dst) (ty:=ty) (pos :=pos) (af:=af) (g:=g) (kt:=kt) M C hm hi O U;exact gu E<|V w' I J L
theorem tO {at_:Array aj} {n:Nat} (C:P.underlying t=some (.map k e)) (ha:at_= #[t]) (E:ev N σ x= .map (some b)) (hm:bD w.heap b ax f) (hn:e9 f n):
 (execOp (ev N σ) ⟨dst,.call ⟨.builtin .len,#[x],at_⟩,ty,pos,af,g⟩).run P w= .ok (.value<|.int .i64 n) w:=by
 obtain ⟨es,c,hr,A⟩:=hm.fG;have :=yL (dst:=dst) (ty:=ty) (pos :=pos) (af:=af) (g:=g) C ha E hr;rw [hn.uniq A]; exact this
end
end Go.Hb
end
section
namespace Go.Hb
open Classical
theorem lZ {a b:List UInt8} (h:str a=str b):a=b:=by unfold str at h; cases h; rfl
noncomputable def mT (g:List UInt8→Option Int):ab→Option ab:=fun v=>if h:∃ x,v=str x then (g h.choose).map fun n=> .int .i64 n else none
variable {g q a b:List UInt8→Option Int} {x:List UInt8} {n:Int} {left left':List (ab×ab)}
theorem gp (g:List UInt8→Option Int) (x:List UInt8):mT g (str x)=(g x).map fun n=> .int .i64 n:=by
 have h:∃ y,str x=str y:=⟨x,rfl⟩
 unfold mT;rw [dif_pos h,← lZ h.choose_spec]
theorem qC {v:ab} (h:¬cn v):mT g v=none:=dif_neg h
theorem tT {h:ab→Option ab} (C:∀ x,h (str x)=(g x).map fun n=> .int .i64 n) (E:∀ v,¬cn v→h v=none):h=mT g:=by
 funext v;by_cases A:cn v
 · obtain ⟨x,rfl⟩:=A; rw [C,gp]
 · rw [E v A,qC A]
theorem oL:mT (fun _=>none)=fun _=>none:=(tT (fun x=>rfl) fun v _=>rfl).symm
theorem qD:fK (mT g) (str x) (.int .i64 n)=mT (fun y=>if y=x then some n else g y):=by
 refine tT (fun y=> ?_) (fun v A=> ?_)
 · unfold fK;by_cases e:y=x
   · subst e; simp
   · rw [if_neg (fun h=>e<|lZ h),gp,if_neg e]
 · unfold fK;rw [if_neg (fun h=>A ⟨x,h⟩),qC A]
theorem yR:jQ (mT g) (str x)=mT (fun y=>if y=x then none else g y):=by
 refine tT (fun y=> ?_) (fun v A=> ?_)
 · unfold jQ;by_cases e:y=x
   · subst e; simp
   · rw [if_neg (fun h=>e<|lZ h),gp,if_neg e]
 · unfold jQ;rw [if_neg (fun h=>A ⟨x,h⟩),qC A]
theorem tV {v u:ab} (h:mT g v=some u):∃ x n,v=str x∧u= .int .i64 n∧g x=some n:=by
 by_cases A:cn v
 · obtain ⟨x,rfl⟩:=A;rw [gp] at h;obtain ⟨n,C,E⟩:=fB.1 h;exact ⟨x,n,U,E.symm,C⟩
 · rw [qC A] at h; cases h
structure Lf (q:List UInt8→Option Int) (left :List (ab×ab)):Prop where
 ok:∀ p∈left,∃ x n,p=(str x,.int .i64 n)∧q x=some n
 nd:(left.map bN).Nodup
noncomputable def eE (left :List (ab×ab)) (a b:List UInt8→Option Int):List UInt8→Option Int:=fun x=>if str x∈left.map bN then a x else b x
theorem Lf.start (J:∀ p∈left,cn p.1) (hn:(left.map bN).Nodup) (I:∀ k v,mT q k=some v↔(k,v)∈left):Lf q left :=by
 refine ⟨fun p hp=> ?_,hn⟩;obtain ⟨k,v⟩:=p;obtain ⟨x,n,A,C,E⟩:=tV<|(I k v).2 hp;exact ⟨x,n,by rw [A,C],E⟩
theorem sS (E:∀ k v,mT q k=some v↔(k,v)∈left) (C:∀ x,q x=none→a x=b x):eE left a b=a:=by
 funext x;unfold eE;by_cases A:str x∈left.map bN
 · rw [if_pos A]
 · rw [if_neg A,C x];cases hq:q x with
   | none=>rfl
   | some n=>
     exfalso;apply A;have :(str x,.int .i64 n)∈left :=(E _ _).1<|by rw [gp,hq]; rfl
     exact dO.2 ⟨_,this,U⟩
theorem sR:eE [] a b=b:=by funext x; simp [eE]
theorem Lf.step {E:ab×ab} (h:Lf q left) (hp:left.Perm (E::left')):∃ x n,E=(str x,.int .i64 n)∧q x=some n∧Lf q left'∧str x∈left.map bN∧
 (∀ a b,eE left a b x=a x)∧∀ a b,eE left' a b=fun y=>if y=x then b x else eE left a b y:=by
 obtain ⟨x,n,rfl,I⟩:=h.ok E<|hp.mem_iff.2 ix;have C:=(hp.map bN).nodup_iff.1 h.nd;simp only [da,mE] at C;have hm:str x∈left.map bN:=(hp.map bN).mem_iff.2<|by simp
 refine ⟨x,n,U,I,⟨fun p hm=>h.ok p (hp.mem_iff.2<|iV _ hm),C.2⟩,hm,fun a b=>if_pos hm,fun a b=> ?_⟩;funext y;unfold eE;by_cases e:y=x
 · subst e; rw [if_neg C.1,if_pos rfl]
 · rw [if_neg e];have :str y∈left.map bN↔str y∈left'.map bN:=by
    rw [(hp.map bN).mem_iff];simp only [da,db];exact ⟨fun h=>h.resolve_left fun h=>e (lZ h),.inr⟩
   by_cases A:str y∈left.map bN
   · rw [if_pos A,if_pos (this.1 A)]
   · rw [if_neg A,if_neg (fun h=>A<|this.2 h)]
def dc {α β:Type} (R:α→β→Prop):List α→List β→Prop
 | [],[]=>True
 | a::l,b::m=>R a b∧dc R l m
 | _,_=>False
theorem dc.imp {α β:Type} {R S:α→β→Prop} (A:∀ a b,R a b→S a b):∀ {l:List α} {m:List β},dc R l m→dc S l m
 | [],[],_=>trivial
 | _::_,_::_,⟨h1,h2⟩=>⟨A _ _ h1,dc.imp A h2⟩
 | [],_::_,h=>h.elim
 | _::_,[],h=>h.elim
theorem dc.len {α β:Type} {R:α→β→Prop} :∀ {l:List α} {m:List β},dc R l m→l.length=m.length
 | [],[],_=>rfl
 | _::_,_::_,⟨_,h2⟩=>congrArg (· +1) h2.len
 | [],_::_,h=>h.elim
 | _::_,[],h=>h.elim
theorem dc.snoc {α β:Type} {R:α→β→Prop} {a:α} {b:β} (A:R a b):∀ {l:List α} {m:List β},dc R l m→dc R (l++ [a]) (m++ [b])
 | [],[],_=>⟨A,trivial⟩
 | _::_,_::_,⟨h1,h2⟩=>⟨h1,h2.snoc A⟩
 | [],_::_,h=>h.elim
 | _::_,[],h=>h.elim
theorem dc.pop {α β:Type} {R:α→β→Prop} {b:β} :∀ {l:List α} {m:List β},dc R l (m++ [b])→∃ A a,l=A++ [a]∧dc R A m∧R a b
 | [],[],h=>h.elim
 | [],_::_,h=>h.elim
 | [a],[],⟨h1,_⟩=>⟨[],a,rfl,trivial,h1⟩
 | _::_::_,[],⟨_,h2⟩=>h2.elim
 | a::l,I::m,⟨h1,h2⟩=>by
   obtain ⟨A,x,rfl,C,E⟩:=dc.pop h2;exact ⟨a::A,x,U,⟨h1,C⟩,E⟩
noncomputable def dA (g:List UInt8→Option Int) (l:List (List UInt8)):List UInt8→Option Int:=fun x=>if x∈l then some ((g x).getD 0) else none
def eh (A:Int) (q:List UInt8→Option Int):List UInt8→Option Int:=fun x=>match q x with
 | some o=>if o=A then none else some o
 | none=>none
def dz (A:Int) (q g:List UInt8→Option Int):List UInt8→Option Int:=fun x=>match q x with
 | some _=>some A
 | none=>g x
def ef (q g:List UInt8→Option Int):List UInt8→Option Int:=fun x=>match q x with
 | some o=>if o=0 then none else some o
 | none=>g x
theorem GY {A:Int} (h:q x=none):dz A q g x=g x:=by unfold dz; rw [h]
theorem zw {A:Int} (h:q x=some n):dz A q g x=some A:=by unfold dz; rw [h]
def bT (g:List UInt8→Option Int) (n:Nat):Prop :=e9 (mT g) n
theorem Jn:dA g []=fun _=>none:=by funext x; simp [dA]
theorem Jm {l:List (List UInt8)} (h:x∉l):mT (dA g<|l++ [x])=fK (mT<|dA g l) (str x) (.int .i64<|(g x).getD 0):=by
 rw [qD];congr 1;funext y;unfold dA;by_cases e:y=x
 · subst e; simp
 · simp [e]
theorem Jp {l:List (List UInt8)} (h:x∈l):dA g (l++ [x])=dA g l:=by
 funext y;unfold dA;by_cases e:y=x
 · subst e; simp [h]
 · simp [e]
noncomputable def eb (g:List UInt8→Option Int) (l:List (List UInt8)):List UInt8→Option Int:=fun x=>if x∈l then some 1 else g x
theorem HA:eb g []=g:=by funext x; simp [eb]
theorem zI {l:List (List UInt8)} :mT (eb g<|l++ [x])=fK (mT<|eb g l) (str x) (.int .i64 1):=by
 rw [qD];congr 1;funext y;unfold eb;by_cases e:y=x
 · subst e; simp
 · simp [e]
theorem Hz {l:List (List UInt8)} {m:Nat} (A:bT (eb g l) m) (h:x∉l) (C:g x=none):bT (eb g<|l++ [x]) (m+1):=by
 unfold bT at A ⊢;rw [zI];exact A.new<|by rw [gp]; simp [eb,h,C]
theorem zJ {l:List (List UInt8)} {m:Nat} (A:bT (eb g l) m) (h:x∈l∨∃ o,g x=some o):bT (eb g<|l++ [x]) m:=by
 unfold bT at A ⊢;rw [zI];by_cases C:x∈l
 · exact A.dx (u:= .int .i64 1)<|by rw [gp]; simp [eb,C]
 · obtain ⟨o,E⟩:=h.resolve_left C;exact A.dx (u:= .int .i64 o)<|by rw [gp]; simp [eb,C,E]
theorem AI (g:List UInt8→Option Int) (l:List (List UInt8)) (x:List UInt8):(mT (dA g l)<|str x).getD (.int .i64 0)= .int .i64 (if x∈l then (g x).getD 0 else 0):=by
 rw [gp]; unfold dA;by_cases h:x∈l <;> simp [h]
theorem Jo (g:List UInt8→Option Int) (l:List (List UInt8)) (x:List UInt8):(mT (dA g l)<|str x).isSome=decide (x∈l):=by
 rw [gp]; unfold dA;by_cases h:x∈l <;> simp [h]
theorem tU (g:List UInt8→Option Int) (x:List UInt8):(mT g<|str x).getD (.int .i64 0)= .int .i64 ((g x).getD 0):=by
 rw [gp]; cases g x <;> rfl
theorem yo {l:List (List UInt8)} {i m:Nat} (h:∀ x∈l,x.length≤m) (hi:i < l.length):(l.getD i []).length≤m:=h _<|m9 hi
theorem e9.congr {f h:ab→Option ab} {m:Nat} (I:e9 f m) (he:∀ k,(∃ v,f k=some v)↔∃ v,h k=some v):e9 h m:=by
 obtain ⟨l,A,C,E⟩:=I;exact ⟨l,A,C,fun k=>(he k).symm.trans<|E k⟩
theorem kJ (g:List UInt8→Option Int) (v:ab):(∃ u,mT g v=some u)↔∃ x o,v=str x∧g x=some o:=by
 constructor
 · rintro ⟨u,hu⟩;obtain ⟨x,o,A,_,C⟩:=tV hu;exact ⟨x,o,A,C⟩
 · rintro ⟨x,o,rfl,h⟩;exact ⟨_,by rw [gp,h]; rfl⟩
theorem bT.congr {m:Nat} (I:bT a m) (he:∀ x,(∃ o,a x=some o)↔∃ o,b x=some o):bT b m:=by
 refine e9.congr I fun k=> ?_;rw [kJ,kJ];exact ⟨fun ⟨x,o,A,C⟩=>let ⟨E,h'⟩:=(he x).1 ⟨o,C⟩; ⟨x,E,A,h'⟩,fun ⟨x,o,A,C⟩=>let ⟨E,h'⟩:=(he x).2 ⟨o,C⟩; ⟨x,E,A,h'⟩⟩
noncomputable def bU (A:Int) (g:List UInt8→Option Int) (l:List (List UInt8)):List UInt8→Option Int:=eh A<|dA g l
theorem G0 {C:Int} (hw:C≠0) {l:List (List UInt8)} {m:Nat} (I:bT (eb g l) m):bT (dz C (bU C g l) g) m:=by
 refine I.congr fun x=> ?_;unfold dz bU eh dA eb;by_cases A:x∈l
 · cases hg:g x with
   | none=>simp [A,Ne.symm hw]
   | some o=>
     by_cases E:o=C
     · simp [A,E]
     · simp [A,E]
 · simp [A]
theorem bT.pos {m:Nat} (E:bT q m) (hm:m≠0):∃ x o,q x=some o:=by
 obtain ⟨l,I,A,C⟩:=E;cases l with
 | nil=>exact absurd A.symm hm
 | cons k l=>
   obtain ⟨x,o,_,h⟩:=(kJ q k).1<|(C k).2 ix;exact ⟨x,o,h⟩
theorem GZ {A:Int} (hw:A≠0) (C:∀ x,g x≠some 0) (x:List UInt8):dz A q g x≠some 0:=by
 unfold dz;split
 · intro h; exact hw<|et h
 · exact C x
theorem sA {A:Int} {l:List (List UInt8)} (E:∀ x,g x≠some 0):ef (bU A g l) (dz A (bU A g l) g)=g:=by
 funext x;unfold ef dz bU eh dA;by_cases C:x∈l
 · cases hgx:g x with
   | none=>by_cases h:(0:Int)=A <;> simp [C,h]
   | some o=>
     have I:o≠0:=fun h=>E x<|by rw [hgx,h]
     by_cases h:o=A <;> simp [C,h,I]
 · simp [C]
theorem CO (A:∀ x,g x≠some 0) (x:List UInt8):ef q g x≠some 0:=by
 unfold ef;split
 · rename_i o _;by_cases h:o=0
   · rw [if_pos h]; simp
   · rw [if_neg h]; intro C; exact h<|et C
 · exact A x
theorem FF (A:∀ k v,mT q k=some v↔(k,v)∈left) (y:List UInt8):(∃ o,q y=some o)↔y∈([]:List (List UInt8))∨str y∈left.map bN:=by
 constructor
 · rintro ⟨o,I⟩;exact .inr<|dO.2 ⟨_,(A (str y)<|.int .i64 o).1 (by rw [gp,I]; rfl),U⟩
 · rintro (h | h)
   · cases h
   · obtain ⟨⟨k,v⟩,hp,hk⟩:=dO.1 h;obtain ⟨x,o,C,_,E⟩:=tV<|(A k v).2 hp;have :x=y:=lZ<|C.symm.trans hk;exact ⟨o,by rw [← this]; exact E⟩
theorem ud {α:Type} :∀ {a b:List α},a.Nodup→(∀ x∈a,x∈b)→a.length≤b.length
 | [],_,_,_=>Nat.zero_le _
 | x::a,b,hn,hs=>by
   rw [mE] at hn;obtain ⟨s,t,rfl⟩:=List.append_of_mem<|hs x ix;have :=ud (b:=s++t) hn.2 fun y A=>by
    have C:=hs y<|iV _ A;rw [eL,db] at C;rw [eL];rcases C with h | rfl | h
    · exact .inl h
    · exact absurd A hn.1
    · exact .inr h
   simp only [bK,bZ] at this ⊢;omega
theorem bT.le {m:Nat} {l:List (List UInt8)} (C:bT q m) (hn:l.Nodup) (E:∀ x∈l,∃ o,q x=some o):l.length≤m:=by
 obtain ⟨ks,M,rfl,A⟩:=C;have h:=ud (a:=l.map str) (b:=ks) (BY.2<|hn.imp fun h e=>h<|lZ e) fun v J=>by
  obtain ⟨x,L,rfl⟩:=dO.1 J;obtain ⟨o,I⟩:=E x L;exact (A _).1 ⟨.int .i64 o,by rw [gp,I]; rfl⟩
 rwa [BO] at h
end Go.Hb
end
section
namespace Go.Hb
section
variable {P:ak} {N:Fm} {σ:Nat→ab} {w:ah} {dst:Option Nat} {ty:aj} {pos :String} {af:Array bB} {g:Option (Nat×Bool)} {x y:az}
theorem xU (d:Nat) {t e:aj} {a:Option Addr} {n c:Nat} (hu:P.underlying t=some (.slice e)):(Op.equalIn (d+1) t (.slice a n c)<|.slice none 0 0).run P w= .ok a.isNone w:=by
 cases a <;> simp [Op.equalIn,aR hu]
end
section
variable {P:ak} {N:Fm} {σ:Nat→ab} {w:ah} {dst:Option Nat} {ty:aj} {pos :String} {af:Array bB} {g:Option (Nat×Bool)} {x y z u:az} {K:(Nat→ab)→ah→Prop}
theorem zZ {t n len cap:Nat} {a:Option Addr} {k I J:IntKind} {i j m:Nat} (he:cO P t=some n) (A:ev N σ x= .slice a len cap) (C:ev N σ y= .int k (i:Nat)) (E:ev N σ z= .int I (j:Nat)) (hu:ev N σ u= .int J (m:Nat)) (h:i≤j∧j≤m∧m≤cap):
 (execOp (ev N σ) ⟨dst,.slice t x (some y) (some z) (some u),ty,pos,af,g⟩).run P w= .ok (.value<|.slice (cF a m i n) (j - i)<|m - i) w:=by
 have L:(0:Int)≤(i:Int):=ag;have M:(0:Int)≤(j:Int):=ag;have O:(0:Int)≤(m:Int):=ag;unfold cO at he;cases hd:P.underlying t with
 | none=>rw [hd] at he; cases he
 | some d=>
   rw [hd] at he;cases d <;> first | (cases he; done) | skip
   rename_i e;cases hi':P.info? e with
   | none=>simp [hi'] at he
   | some q=>
     simp only [hi',dg,aY] at he;subst he;simp only [execOp,mr,Instr.slice,A,C,E,hu,dg,jA,Instr.sliceBound,asIntOf];simp [aR hd,cJ hi',sizeOf,h.1,h.2.1,h.2.2,cF]
theorem CJ {t e size bytes B n m A c C:Nat} {xs news:List ab} {a:Option Addr} (ae:ez P t e size bytes=true) (V:w.ownsRow B e size (.slice (some ⟨C,0,none⟩) n A) n xs) (ag:ev N σ x= .slice (some ⟨C,0,none⟩) n A)
 (ah:ev N σ y= .slice a m c) (M:bh w.heap a news) (ha:a≠none) (U:news.length=m*size) (O:news.all Value.oneCell'=true) (aa:n+m≤A)
 (k:∀ w',Md (fun q=>q=C) w w'→w'.ownsRow B e size (.slice (some ⟨C,0,none⟩) (n+m) A) (n+m) (xs++news)→K (bV σ dst<|.slice (some ⟨C,0,none⟩) (n+m) A) w'):
 bq P N ⟨dst,.call ⟨.builtin .append,#[x,y],#[t,t]⟩,ty,pos,af,g⟩ σ w K:=by
 obtain ⟨hu,i,zv,hi,ak,ac,ai,al,aj⟩:=lY ae;obtain ⟨ad,rfl⟩:∃ ad,a=some ad:=by cases a with | none=>exact absurd rfl ha | some ad=>exact ⟨ad,rfl⟩
 have hn:∀ j v,news[j]? =some v→w.cell? (ad.add j)=some v:=fun j v J=>by
  have L:news≠[]:=fun e=>by rw [e] at J; simp at J
  have E:=M.ok L;simp only [aY] at E;rw [E,dt,fZ]; exact M.ay j v J
 obtain ⟨w',hr,E,I⟩:=Go.run_append_fits (P:=P) (w:=w) B t ty e i size hu hi ac C n A xs V ad m c news U hn (pQ O) aa;refine gu (w':=w') (v:= .slice (some ⟨C,0,none⟩) (n+m) A) ?_<|k w' ⟨I.os,I.output,I.size,fun q Z L=>I.block q Z fun e=>L<|et e⟩ E;simp [execOp,resolve,invoke,builtin,ag,ah,hr]
end
end Go.Hb
end
section
namespace Go.Hb
theorem zR {L:List ab} {o:Nat} {v:ab} (h:o < L.length):(L.set o v).take (o+1)=L.take o++ [v]:=by grind [List.set_eq_take_append_cons_drop,B6,cm,sa,Nat.add_sub_cancel_left,pE]
theorem zQ {L:List ab} {o m:Nat} {v:ab} (h:o < m):(L.set o v).drop m=L.drop m:=by
 rw [List.drop_set,if_pos h]
theorem HL (b e:Nat):∀ (vs:List ab) (o:Nat) (L:List ab) (w:ah),w.heap[b]? =some (.cells L.toArray e (0,0))→o+vs.length≤L.length→
 (w.setCells b o vs).heap[b]? =some (.cells (L.take o++vs++L.drop (o+vs.length)).toArray e (0,0))∧Md (fun k=>k=b) w (w.setCells b o vs):=by
 intro vs
 induction vs with
 | nil=>intro o L w hb _; exact ⟨by simpa [World.setCells] using hb,Md.refl _ _⟩
 | cons v r ih=>
   intro o L w hb M;simp only [bZ] at M;have A:(w.setCell ⟨b,o,none⟩ v).heap[b]? =some (.cells (L.set o v).toArray e (0,0)):=by
    have O:=(bI.1 hb).1;have U:w.heap[b]= .cells L.toArray e (0,0):=(bI.1 hb).2;simp only [rP];rw [Array.getElem?_eq_getElem (by simpa using O),Array.getElem_modify];simp [U,List.setIfInBounds_toArray]
   have I:Md (fun k=>k=b) w (w.setCell ⟨b,o,none⟩ v):=⟨rfl,rfl,by simp [rP],fun k _ J=>Below.heap_setCell w _ v k J⟩
   obtain ⟨C,E⟩:=ih (o+1) (L.set o v) _ A<|by rw [List.length_set]; omega
   refine ⟨?_,Md.trans I E⟩;show ((w.setCell ⟨b,o,none⟩ v).setCells b (o+1) r).heap[b]? =_;rw [C,zR ag,zQ ag,bZ,show o+1 +r.length=o+(r.length+1) from by omega];simp
section
variable {P:ak} {N:Fm} {σ:Nat→ab} {w:ah} {ty:aj} {pos :String} {af:Array bB} {g:Option (Nat×Bool)} {x:az} {K:(Nat→ab)→ah→Prop}
theorem Ds {t e B n A c' m:Nat} {a:Option Addr} {xs:List ab} {z:ab} (al:P.underlying t=some (.slice e)) (an:zeroV P e=some z) (J:z.oneCell'=true) (ae:w.ownsRow B e 1 (.slice a n A) n xs) (ha:a≠none)
 (L:ev N σ x= .slice (cF a A n 1) m c') (hm:0 < m∧n+m≤A) (ao:∀ w',Md (fun q=>(Value.slice a n A).ownBlock=some q) w w'→w'.ownsRow B e 1 (.slice a n A) n xs→K σ w'):
 bq P N ⟨none,.call ⟨.builtin .clear,#[x],#[t]⟩,ty,pos,af,g⟩ σ w K:=by
 obtain ⟨h0,h⟩:=ae;rcases h with ⟨h,rfl⟩ | ⟨C,ap,cur,h,Z,ac,hle,aa,ak,am⟩
 · simp only [kV] at h; exact absurd h.1 ha
 · simp only [kV,true_and] at h;obtain ⟨rfl,rfl⟩:=h;have aj:cF (some ⟨C,0,none⟩) A n 1=some ⟨C,n,none⟩:=by
    unfold cF; rw [if_neg ag]; simp [dt]
   rw [aj] at L;have I:w.heap[C]? =some (.cells cur.toList.toArray e (0,0)):=by simpa using ac
   have E:cur.toList.length=A*1:=by rw [Array.length_toList]; exact ak
   have ai:=Lib.run_clear_slice (P:=P) w t e ty z al (fun w=>vy an w) (by cases z <;> first | rfl | (cases J; done)) J C n m c' hm.1
    (fun j ad=>by rw [fZ,dd I]; simp; omega) (fun j ad=>by simp only [World.frozen?,show w.heap[C]? =_ from I]; simp)
   obtain ⟨O,V⟩:=HL C e (dT m z) n cur.toList w I<|by rw [vQ,E]; omega
   refine gu (w':=w.setCells C n<|dT m z) (v:= .tuple #[]) ?_ (ao _ (V.mono fun q _ ah=>by subst ah; rfl) ⟨h0,.inr ⟨C,A,_,U,Z,O,hle,aa,?_,?_⟩⟩)
   · simp [execOp,resolve,invoke,builtin,L,ai]
   · simp only [dP,bK,cm,List.length_drop,vQ,E]; omega
   · rw [vQ,Nat.mul_one];have M:(cur.toList.take n++dT m z++cur.toList.drop (n+m)).toArray.toList=cur.toList.take n++(dT m z++cur.toList.drop (n+m)):=kX _ _ _;rw [M,B6,cm,E,sa ag,Cf,List.take_zero,vN,pE (by rw [cm]; omega),← am,Nat.mul_one]
end
end Go.Hb
end
namespace Go.Hb
def j9 (g:List UInt8→Option Int) (x:List UInt8):List UInt8:=(if 0 < (g x).getD 0 then 43 else 45)::(cU x++ [10])
def dJ (g:List UInt8→Option Int) (xs:List (List UInt8)):List UInt8:=xs.flatMap<|j9 g
theorem IS {g:List UInt8→Option Int} {xs:List (List UInt8)} {i:Nat} (h:i < xs.length):dJ g (xs.take<|i+1)=dJ g (xs.take i)++j9 g (xs.getD i []):=by
 unfold dJ;rw [rh xs i [] h,List.flatMap_append,List.flatMap_singleton]
theorem As {g:List UInt8→Option Int} :∀ {xs:List (List UInt8)},(∀ x∈xs,x.length≤64)→(dJ g xs).length≤xs.length*130
 | [],_=>aO _
 | x::xs,h=>by
   have A:=As (g:=g) (xs:=xs) fun y C=>h y<|iV _ C;have E:=ry x;have I:=h x ix;unfold dJ at A ⊢;rw [List.flatMap_cons,bK];simp only [j9,bZ,bK,nY];omega
def dr (g:List UInt8→Option Int) (xs:List (List UInt8)):Prop :=xs.Nodup∧∀ y,y∈xs↔∃ o,g y=some o
structure ff (g:List UInt8→Option Int):Prop where
 val:∀ x o,g x=some o→o=1∨o= -1
 wd:∀ x o,g x=some o→dK x=true
theorem JA:∀ (x acc:List UInt8),fR acc (cU x)=(acc++x,[],false,0):=by
 intro x
 induction x with
 | nil=>intro acc; show fR acc []=_; rw [Jz,vN]
 | cons b x ih=>
   intro acc;have e:cU (b::x)=(if jd b=true then [92,b] else [b])++cU x:=rfl;rw [e];by_cases hb:jd b=true
   · rw [if_pos hb];show fR acc (92::b::cU x)=_;rw [Jx aP hb,ih,kX]; rfl
   · rw [if_neg hb];have h:¬(b.toNat=92∨b.toNat=47∨b.toNat=35):=fun h=>hb<|decide_eq_true h;show fR acc (b::cU x)=_;rw [Jy ag ag,ih,kX]; rfl
theorem AP (x:List UInt8):JC (cU x)=(x,[],false,0):=JA x []
theorem JF {x:List UInt8} {b:UInt8} (h:b∈cU x):b=92∨b∈x:=by
 unfold cU at h;obtain ⟨c,A,hb⟩:=List.mem_flatMap.1 h;split at hb
 · simp only [db,pD,or_false] at hb;rcases hb with rfl | rfl
   · exact .inl U
   · exact .inr A
 · simp only [db,pD,or_false] at hb;subst hb; exact .inr A
theorem Jb {x:List UInt8} (h:dK x=true):∀ b∈x,33≤b.toNat:=fun b hb=>by
 have h:=of_decide_eq_true h;exact (of_decide_eq_true<|List.all_eq_true.1 h.2.2 b hb).1
theorem JE {x:List UInt8} (h:dK x=true) {b:UInt8} (hb:b∈cU x):33≤b.toNat:=by
 rcases JF hb with rfl | hb
 · decide
 · exact Jb h b hb
def fg (g:List UInt8→Option Int) (x:List UInt8):List UInt8:=(if 0 < (g x).getD 0 then 43 else 45)::cU x
theorem wT {g:List UInt8→Option Int} {x:List UInt8} (h:dK x=true) {b:UInt8} (hb:b∈fg g x):33≤b.toNat:=by
 rcases db.1 hb with rfl | hb
 · split <;> decide
 · exact JE h hb
theorem IP (g:List UInt8→Option Int) (x:List UInt8) (xs:List (List UInt8)):dJ g (x::xs)=fg g x++10::dJ g xs:=by
 simp [dJ,j9,fg]
theorem F4:∀ (l cur r:List UInt8),10∉l→gN cur (l++10::r)=mW (cur++l)::gN [] r:=by
 intro l
 induction l with
 | nil=>intro cur r _; rw [r8,F3,vN]
 | cons b l ih=>
   intro cur r h;simp only [db,not_or] at h;rw [List.cons_append,F0 (fun e=>h.1 e.symm),ih _ _ h.2,kX]; rfl
theorem CZ {g:List UInt8→Option Int} {x:List UInt8} (h:dK x=true):mW (fg g x)=fg g x:=by
 refine Es fun A=> ?_;have hm:=m9 (d:=(0:UInt8)) (l:=fg g x) (i:=(fg g x).length - 1) ag;rw [A.2] at hm;exact absurd (wT h hm) aP
theorem u7 {g:List UInt8→Option Int} :∀ {xs:List (List UInt8)},(∀ x∈xs,dK x=true)→gN [] (dJ g xs)=xs.map (fg g)
 | [],_=>F2
 | x::xs,h=>by
   have A:=h x ix;rw [IP,F4 _ _ _ (fun C=>absurd (wT A C) aP),r8,CZ A,u7 fun y E=>h y (iV _ E)]; rfl
theorem IQ {g A:List UInt8→Option Int} {xs J:List (List UInt8)} (Z:ff g) (aa:ff A) (M:dr g xs) (O:dr A J) (h:dJ g xs=dJ A J):g=A:=by
 have v:∀ x∈xs,dK x=true :=fun x hm=>let ⟨o,I⟩:=(M.2 x).1 hm; Z.wd x o I
 have ae:∀ x∈J,dK x=true :=fun x hm=>let ⟨o,I⟩:=(O.2 x).1 hm; aa.wd x o I
 have L:=u7 (g:=g) v;rw [h,u7 ae] at L;have V:∀ {x y:List UInt8},fg g x=fg A y→x=y:=fun {x y} e=>by
  unfold fg at e;have :=(rR e).2;have C:=AP x;rw [this,AP] at C;exact (congrArg bN C).symm
 have key:∀ x,x∈xs→x∈J∧(if 0 < (g x).getD 0 then (43:UInt8) else 45)=if 0 < (A x).getD 0 then 43 else 45:=fun x hm=>by
  have :fg g x∈J.map (fg A):=by rw [L]; exact dO.2 ⟨x,hm,rfl⟩
  obtain ⟨y,U,e⟩:=dO.1 this;obtain rfl :=V e.symm;unfold fg at e;exact ⟨U,((rR e).1).symm⟩
 have ac:∀ x,x∈J→x∈xs:=fun x hm=>by
  have :fg A x∈xs.map (fg g):=by rw [← L]; exact dO.2 ⟨x,hm,rfl⟩
  obtain ⟨y,U,e⟩:=dO.1 this;obtain rfl :=V e;exact U
 funext x;by_cases hm:x∈xs
 · obtain ⟨C,E⟩:=key x hm;obtain ⟨o,I⟩:=(M.2 x).1 hm;obtain ⟨ad,ab⟩:=(O.2 x).1 C;rw [I,ab] at E ⊢;simp only [Option.getD_some] at E;rcases Z.val x o I with rfl | rfl <;> rcases aa.val x ad ab with rfl | rfl
   · rfl
   · exact absurd E aP
   · exact absurd E aP
   · rfl
 · have C:g x=none:=by
    cases hgx:g x with
    | none=>rfl
    | some o=>exact absurd ((M.2 x).2 ⟨o,hgx⟩) hm
   have E:A x=none:=by
    cases hgx:A x with
    | none=>rfl
    | some o=>exact absurd (ac x<|(O.2 x).2 ⟨o,hgx⟩) hm
   rw [C,E]
theorem EM {g:List UInt8→Option Int} {xs E:List (List UInt8)} (A:dr g xs) (C:dr g E):xs.Perm E:=(BZ A.1 C.1).2 fun y=>(A.2 y).trans (C.2 y).symm
theorem ya {g:List UInt8→Option Int} {xs A:List (List UInt8)} (I:dr g xs) (J:dr g A) (L:xs.Pairwise fun a b=>a≤b) (M:A.Pairwise fun a b=>a≤b):xs=A:=
 List.Perm.eq_of_pairwise (fun a b _ _ C E=>List.le_antisymm C E) L M (EM I J)
theorem ff.nil:ff fun _=>none:=⟨fun x o h=>(by cases h),fun x o h=>by cases h⟩
theorem ff.put {A:Int} {g:List UInt8→Option Int} {l:List (List UInt8)} (E:ff g) (hw:A=1∨A= -1) (J:∀ x∈l,dK x=true):ff (dz A (bU A g l) g):=by
 refine ⟨fun x o h=> ?_,fun x o h=> ?_⟩
 · unfold dz at h;split at h
   · cases h; exact hw
   · exact E.val x o h
 · unfold dz at h;split at h
   · rename_i q C;unfold bU eh dA at C;by_cases I:x∈l
     · exact J x I
     · rw [if_neg I] at C; cases C
   · exact E.wd x o h
theorem Dm {A:Int} {g:List UInt8→Option Int} {l:List (List UInt8)} {x:List UInt8} {o:Int} (hw:A≠0) (h:bU A g l x=some o):dz A (bU A g l) g≠g:=fun e=>by
 have C:=congrFun e x;rw [zw h] at C;unfold bU eh dA at h;by_cases E:x∈l
 · rw [if_pos E,← C] at h;simp at h
 · rw [if_neg E] at h; cases h
theorem bT.ge {q:List UInt8→Option Int} {m:Nat} {l:List (List UInt8)} (E:bT q m) (I:∀ x,(∃ o,q x=some o)→x∈l):m≤l.length:=by
 obtain ⟨ks,A,rfl,C⟩:=E;have h:=ud (a:=ks) (b:=l.map str) A fun v L=>by
  obtain ⟨x,o,rfl,J⟩:=(kJ q v).1<|(C v).2 L;exact dO.2 ⟨x,I x ⟨o,J⟩,U⟩
 rwa [BO] at h
theorem bT.fin {g:List UInt8→Option Int} {n:Nat} (M:bT g n):∃ xs,dr g xs∧xs.length=n:=by
 obtain ⟨ks,J,rfl,C⟩:=M;have O:∀ v∈ks,∃ x,v=str x:=fun v A=>by
  obtain ⟨x,o,h,_⟩:=(kJ g v).1<|(C v).2 A;exact ⟨x,h⟩
 let f:ab→List UInt8:=fun v=>match v with
  | .string s=>s.data.toList
  | _=> []
 have I:∀ v∈ks,str (f v)=v:=fun v A=>by obtain ⟨x,rfl⟩:=O v A; rfl
 refine ⟨ks.map f,⟨?_,fun y=> ?_⟩,by simp⟩
 · refine BY.2<|JV (fun {a b} ha hb L e=>L ?_) J;rw [← I a ha,← I b hb,e]
 · constructor
   · intro V;obtain ⟨v,A,rfl⟩:=dO.1 V;obtain ⟨x,o,e,E⟩:=(kJ g v).1<|(C v).2 A;rw [e]; exact ⟨o,E⟩
   · rintro ⟨o,E⟩;have :=(C<|str y).1<|(kJ g _).2 ⟨y,o,rfl,E⟩;exact dO.2 ⟨_,this,U⟩
theorem dr.perm {g:List UInt8→Option Int} {xs A:List (List UInt8)} (h:dr g xs) (hp:xs.Perm A):dr g A:=⟨hp.nodup_iff.1 h.1,fun y=>hp.mem_iff.symm.trans<|h.2 y⟩
theorem dr.sort {g:List UInt8→Option Int} {xs:List (List UInt8)} (h:dr g xs):∃ A,dr g A∧A.Pairwise fun a b=>a≤b:=by
 refine ⟨xs.mergeSort (fun a b=>decide (a≤b)),h.perm (List.mergeSort_perm xs _).symm,?_⟩;refine (List.pairwise_mergeSort (le:=fun a b=>decide (a≤b)) ?_ ?_ xs).imp fun h=>of_decide_eq_true h
 · intro a b c C E;exact decide_eq_true<|List.le_trans (of_decide_eq_true C)<|of_decide_eq_true E
 · intro a b;rcases List.le_total a b with h | h
   · simp [h]
   · simp [h]
open Classical in
noncomputable def cx (g:List UInt8→Option Int):List UInt8:=if h:∃ xs,dr g xs∧xs.Pairwise fun a b=>a≤b then dJ g h.choose else []
theorem nJ {g:List UInt8→Option Int} {xs:List (List UInt8)} (h:dr g xs) (C:xs.Pairwise fun a b=>a≤b):dJ g xs=cx g:=by
 have A:∃ xs,dr g xs∧xs.Pairwise fun a b=>a≤b:=⟨xs,h,C⟩
 unfold cx;rw [dif_pos A,ya h A.choose_spec.1 C A.choose_spec.2]
theorem IT {g A:List UInt8→Option Int} {m Z:Nat} (I:ff g) (J:ff A) (hm:bT g m) (L:bT A Z) (h:cx g=cx A):g=A:=by
 obtain ⟨xs,U,_⟩:=hm.fin;obtain ⟨ab,C,M⟩:=U.sort;obtain ⟨aa,V,_⟩:=L.fin;obtain ⟨ac,E,O⟩:=V.sort;rw [← nJ C M,← nJ E O] at h;exact IQ I J C E h
theorem Au:cx (fun _=>none)= []:=(nJ (xs:= []) ⟨r9,fun y=>⟨fun h=>by simp at h,fun ⟨o,h⟩=>by cases h⟩⟩ List.Pairwise.nil).symm
theorem ff.len {g:List UInt8→Option Int} (h:ff g):∀ x o,g x=some o→x.length≤64:=fun x o A=>(of_decide_eq_true<|h.wd x o A).2.1
theorem Dv {n:Nat} (h:bT (fun _=>none) n):n=0:=by
 have :=h.ge (l:= []) fun x ⟨o,A⟩=>by cases A
 exact Nat.le_zero.1 this
def dG:List UInt8→Option Int:=fun _=>none
structure gE (hist gs:List (List UInt8→Option Int)) (g:List UInt8→Option Int):Prop where
 len:gs.length=hist.length+1
 zero:gs.getD 0 dG=fun _=>none
 last:gs.getD hist.length dG=g
 back:∀ k,k < hist.length→ef (hist.getD k dG) (gs.getD (k+1) dG)=gs.getD k dG
 ok:∀ k,k < gs.length→ff (gs.getD k dG)∧∃ m,bT (gs.getD k dG) m∧m≤500
theorem gE.start:gE [] [fun _=>none] fun _=>none:=
 ⟨rfl,rfl,rfl,fun k h=>by simp at h,fun k h=>by
  obtain rfl :k=0:=by simpa using h
  exact ⟨ff.nil,0,⟨[],r9,U,fun k=>⟨fun ⟨v,h⟩=>(by rw [List.getD_cons_zero,oL] at h; cases h),fun h=>by simp at h⟩⟩,ag⟩⟩
theorem m8 {α:Type} {l m:List α} {i:Nat} {d:α} (h:i < l.length):(l++m).getD i d=l.getD i d:=by
 rw [cH,List.getElem?_append_left h,cH]
theorem qk {α:Type} {l:List α} {a d:α} {i:Nat} (h:i=l.length):(l++ [a]).getD i d=a:=by
 subst h;rw [cH,List.getElem?_append_right (aO _),Cf]; rfl
theorem gE.add {E gs:List (List UInt8→Option Int)} {g C q:List UInt8→Option Int} {m:Nat} (h:gE E gs g) (L:ff C) (J:bT C m) (hm:m≤500) (hb:ef q C=g):gE (E++ [q]) (gs++ [C]) C:=by
 have M:=h.len;refine ⟨by simp only [bK,bZ,nY]; omega,by rw [m8 ag]; exact h.zero,by rw [bK,gY]; exact qk ag,fun k I=> ?_,fun k I=> ?_⟩
 · rw [bK,gY] at I;rcases dU k E.length with A | A
   · rw [m8 A,m8 ag,m8 ag]; exact h.back k A
   · obtain rfl :k=E.length:=ag;rw [qk rfl,qk ag,m8 ag,h.last]; exact hb
 · rw [bK,gY] at I;rcases dU k gs.length with A | A
   · rw [m8 A]; exact h.ok k A
   · obtain rfl :k=gs.length:=ag;rw [qk rfl]; exact ⟨L,m,J,hm⟩
end Go.Hb
section
namespace Go.Hb
def fQ (P:ak) (N:Fm) (c:Code) (B:aK→Act→ah→Prop) (σ:Nat→ab) (w:ah):Prop :=c.wpIn (fe N.r) 0 P B (act N σ) w
def qb (N:Fm) (B:aK→Act→ah→Prop):aK→(Nat→ab)→ah→Prop :=fun e σ w=>B e (act N σ) w
section
variable {P:ak} {N:Fm} {B:aK→Act→ah→Prop} {σ:Nat→ab} {w:ah}
theorem ed {x y:Code} (h:fQ P N x (Exit.then (y.wpIn (fe N.r) 0 P B) B) σ w):fQ P N (.seq x y) B σ w:=wpIn_seq h
theorem bE {y:Code} (h:fQ P N y B σ w):qb N (Exit.then (y.wpIn (fe N.r) 0 P B) B) .normal σ w:=h
theorem prt {y:Act→ah→Prop} (h:qb N B .ret σ w):qb N (Exit.then y B) .ret σ w:=h
theorem zE (h:qb N B .ret σ w):fQ P N .ret B σ w:=wpIn_ret h
theorem Ie {x y:Code} (A:(Nat→ab)→ah→Prop) (h:fQ P N x (Exit.then (fun a w=> ∃ σ,a=act N σ∧A σ w) B) σ w) (I:∀ σ w,A σ w→fQ P N y B σ w):fQ P N (.seq x y) B σ w:=by
 refine wpIn_seq<|wpIn_mono h ?_;intro e a w C;cases e with
 | normal=>obtain ⟨σ,rfl,E⟩:=C; exact I _ _ E
 | _=>exact C
theorem xq {A:(Nat→ab)→ah→Prop} (h:A σ w):qb N (Exit.then (fun a w=> ∃ σ,a=act N σ∧A σ w) B) .normal σ w:=⟨σ,rfl,h⟩
theorem HW {c:Code} {L:List (Nat×ab)} (h:Sl σ L) (A:fQ P N c B (o5 σ L) w):fQ P N c B σ w:=by rw [vf h] at A; exact A
theorem ej {c:Code} (h:ba P N c (qb N B) σ w):fQ P N c B σ w:=by
 unfold ba at h;refine wpIn_mono h ?_;intro e a w A;cases e with
 | panic c=>obtain ⟨σ,rfl,C⟩:=A; exact C σ fun _ _=>rfl
 | outgrown=>exact A.elim
 | _=>obtain ⟨σ,rfl,C⟩:=A; exact C
end
theorem lW (fn:fS) (args:List ab) (F:List Nat) (hn:aG args.length fn.ntmps=true):({tmps:=args.toArray++Array.replicate (fn.ntmps - args.toArray.size) undef,defers:= []} :Act)=act ⟨fn.ntmps,[],F,none⟩ (cP args):=by
 have E:args.length≤fn.ntmps:=by simpa using hn
 refine pO U fun i=> ?_;rw [hH];simp only [cP,cH,dP];by_cases A:i < args.length
 · rw [Array.getElem?_append_left (by simpa using A),if_pos ag];simp [A]
 · rw [Array.getElem?_append_right (by simpa using A)];simp only [dP,Array.getElem?_replicate];by_cases C:i < fn.ntmps
   · rw [if_pos ag,if_pos C,List.getElem?_eq_none ag]; rfl
   · rw [if_neg ag,if_neg C]
abbrev Bm (P:ak) (fn:fS) (R:ab→ah→Prop):aK→Act→ah→Prop :=bodyPostM eC 0 P fn (fun e w'=> ∃ v,e= .returned v∧R v w')
theorem Eu {P:ak} {f:dq} {N:Nat} {fn:fS} {c:Code} {args:List ab} {w:ah} {R:ab→ah→Prop} (F:List Nat) (C:P.funcs[f]? =some fn) (hb:fn.body=some c)
 (A:fn.ntmps=N) (hn:aG args.length N=true) (h:fQ P ⟨N,[],F,none⟩ c (Bm P fn R) (cP args) w):bf P f args.toArray w R:=by
 subst A;refine callsIn_wide.1<|callsIn_of_wp_marks (F:=eC) (n:=0) C hb trivial ?_;rw [lW fn args F hn];exact h
section
variable {P:ak} {n:Nat} {F:List Nat} {σ:Nat→ab} {w:ah} {fn:fS} {R:ab→ah→Prop}
theorem FP {D:Nat} {v:ab} (A:w.heap[D]? =some (.deferred<|some [])) (hr:∀ w',(results fn (act ⟨n,[{target:= .collected D,args:= #[]}],F,none⟩ σ).tmps).run P w'= .ok v w') (C:R v (w.putObj D<|.deferred none)):
 qb ⟨n,[{target:= .collected D,args:= #[]}],F,none⟩ (Bm P fn R) .ret σ w:=
 ⟨FrameMode.noConfusion,.inl ⟨_,_,rfl,run_takeDeferred A,⟨v,hr _,v,rfl,C⟩⟩⟩
theorem EG {D t:Nat} {v:ab} (h:fn.results= #[.tmp t]) (E:ev ⟨n,[{target:= .collected D,args:= #[]}],F,none⟩ σ (.tmp t)=v) (A:w.heap[D]? =some (.deferred<|some [])) (C:R v (w.putObj D<|.deferred none)):
 qb ⟨n,[{target:= .collected D,args:= #[]}],F,none⟩ (Bm P fn R) .ret σ w:=
 FP A (fun w'=>by rw [results_tmp h,l6,E]) C
end
theorem uk {w:ah} {B t size n pp E:Nat} {v:ab} {xs:List ab} {cs:Array ab} {z:Nat×Nat} (h:w.ownsRow B t size v n xs) (hp:w.heap[pp]? =some (.cells cs E z)) (J:t≠E):v.ownBlock≠some pp:=by
 intro A;rcases h.2 with ⟨C,_⟩ | ⟨g,cap,cur,C,_,I,_⟩
 · rw [C] at A; simp [cG] at A
 · rw [C] at A;simp only [cG,aY] at A;subst A;rw [I] at hp;simp only [aY,Obj.cells.injEq] at hp;exact J hp.2.1
section
variable {P:ak} {N:Fm} {σ:Nat→ab} {w:ah} {dst:Option Nat} {ty:aj} {pos :String} {af:Array bB} {g:Option (Nat×Bool)} {x:az} {K:(Nat→ab)→ah→Prop}
theorem wZ {e:aj} {v:ab} (C:ev N σ x=v) (A:v.oneCell'=true) (k:∀ b w',b=w.heap.size→Nw w w'→w'.heap[b]? =some (.cells [v].toArray e (0,0))→K (bV σ dst<|.pointer<|some ⟨b,0,none⟩) w'):
 bq P N ⟨dst,.box e x,ty,pos,af,g⟩ σ w K:=by
 refine jx (v:=fun b=> .pointer<|some ⟨b,0,none⟩) (ob:= .cells [v].toArray e (0,0)) ?_ k;have :=kN A;simp [execOp,Instr.box,C,this,newVar,newRow]
end
theorem tY (w:ah) (k:Nat) (o:Obj):Md (fun j=>j=k) w (w.putObj k o):=
 ⟨rfl,rfl,by simp [World.putObj],fun j _ A=>kW A⟩
def fc (w w':ah):Prop := ∀ (k:Nat) (o:Obj),w.heap[k]? =some o→((∀ cur e z,o≠.cells cur e z)∧∀ es c,o≠.map es c)→w'.heap[k]? =some o
theorem fc.trans {a b c:ah} (h:fc a b) (A:fc b c):fc a c:=fun k o C hn=>A k o (h k o C hn) hn
theorem fc.md {F:Nat→Prop} {w w':ah} (hm:Md F w w') (C:∀ k,F k→∃ cur e z,w.heap[k]? =some (.cells cur e z)):fc w w':=fun k o A hn=>by
 rw [hm.cD k (bI.1 A).1 (fun E=>by obtain ⟨c,e,z,h⟩:=C k E; rw [A] at h; exact hn.1 _ _ _<|et h)]; exact A
theorem fc.wk {w w':ah} (hm:Wk w w'):fc w w':=fc.md hm fun _ h=>h.elim
theorem um {w:ah} {B e size n:Nat} {v:ab} {xs:List ab} (h:w.ownsRow B e size v n xs):∀ k,v.ownBlock=some k→∃ cur e z,w.heap[k]? =some (.cells cur e z):=by
 intro k A;rcases h.2 with ⟨rfl,_⟩ | ⟨g,cap,E,rfl,_,C,_⟩
 · simp [cG] at A
 · simp only [cG,aY] at A; subst A; exact ⟨_,_,_,C⟩
def Cw {α:Type} (B:Nat) (A:List α→ah→Prop):Prop := ∀ pre W W' (F:Nat→Prop),A pre W→Md F W W'→(∀ k,F k→B≤k∧∀ cur e z,W.heap[k]?≠some (.cells cur e z))→A pre W'
section
variable {F:Nat→Prop} {W W':ah} {B:Nat}
theorem Ac {b e:Nat} {cs:Array ab} {z:Nat×Nat} (h:W.heap[b]? =some (.cells cs e z)) (hm:Md F W W') (A:∀ k,F k→B≤k∧∀ cur e z,W.heap[k]?≠some (.cells cur e z)):W'.heap[b]? =some (.cells cs e z):=by
 rw [hm.cD b (bI.1 h).1 (fun C=>(A b C).2 _ _ _ h)]; exact h
theorem Iw {B' e size n:Nat} {v:ab} {xs:List ab} (h:W.ownsRow B' e size v n xs) (hm:Md F W W') (C:∀ k,F k→B≤k∧∀ cur e z,W.heap[k]?≠some (.cells cur e z)):W'.ownsRow B' e size v n xs:=
 cR h hm fun k I E=>by obtain ⟨c,e,z,A⟩:=um h k I; exact (C k E).2 _ _ _ A
theorem Ix {w:ah} (h:Wk w W) (hm:Md F W W') (E:w.heap.size≤B) (A:∀ k,F k→B≤k∧∀ cur e z,W.heap[k]?≠some (.cells cur e z)):Wk w W':=Md.trans' h hm fun k I C=>by have :=(A k C).1; omega
end
def Ha (R:ah→Prop):aK→(Nat→ab)→ah→Prop
 | .normal,_,w=>R w
 | _,_,_=>False
theorem wx (N:Fm):∀ (l:List (Tmp×ab)) (σ:Nat→ab),l.foldl (fun t p=>t.setIfInBounds p.1 p.2) (act N σ).tmps=(act N<|l.foldl (fun s p=>aI s p.1 p.2) σ).tmps:=by
 intro l
 induction l with
 | nil=>intro σ; rfl
 | cons p l ih=>
   intro σ;rw [pB,pB,← ih];congr 1;have :=congrArg Act.tmps<|dV N σ (some p.1) p.2;exact this
section
variable {P:ak} {N:Fm} {ops:Array aq} {Q:aK→(Nat→ab)→ah→Prop} {rest:List aq} {σ:Nat→ab} {w:ah} {d':Option Nat} {d:Nat} {op:Op} {ty:aj} {pos :String} {af:Array bB} {v:ab}
def jw (P:ak) (N:Fm) (ops:Array aq) (Q:aK→(Nat→ab)→ah→Prop) (l:List aq) (σ:Nat→ab) (w:ah):Prop :=wpListIn (fe N.r) 0 P ops (lift N Q) l (act N σ) w
theorem G9 {id:Nat} {l:List aq} (h:jw P N l.toArray Q l σ w):ba P N (.region id l.toArray false) Q σ w:=by
 unfold ba; exact wpIn_region_lit h
theorem Gt (h:Q .normal σ w):jw P N ops Q [] σ w:=⟨σ,rfl,h⟩
def uc (o:Op):Bool:=match o with | .defer _=>false | _=>true
theorem Gw {o:Op} (h:uc o=true):∀ c,o≠.defer c:=fun c e=>by subst e; cases h
theorem ey (hn:uc op=true) (h:bq P N ⟨d',op,ty,pos,af,none⟩ σ w (fun σ w=>jw P N ops Q rest σ w)):jw P N ops Q (⟨d',op,ty,pos,af,none⟩::rest) σ w:=by
 unfold jw wpListIn;rw [if_pos (eB _ rfl _)];refine ⟨fun f _=>je _ f,?_⟩;rw [lD,po _ _ _ (Gw hn)];unfold bq fv at h;generalize (execOp (act N σ).eval ⟨d',op,ty,pos,af,none⟩).run P w=x at h ⊢;cases x with
 | ok n w'=>
   cases n <;> simp only [gD,nW] at h ⊢ <;>
    first
     | (obtain ⟨σ',ha,A⟩:=h; rw [ha]; exact A)
     | (refine ⟨fun h0=>(by rw [lB] at h0; cases h0),CallsIn.mono (qf h) fun e w'' he=> ?_⟩
        cases e with
        | returned v=>obtain ⟨σ',ha,A⟩:=he; simp only; rw [ha]; exact A
        | panicked c=>exact he.elim
        | outgrown=>obtain ⟨_,_,C⟩:=he; exact C.elim)
     | (refine ⟨fun h0=>(by rw [lB] at h0; cases h0),RowsIn.mono (xY h) fun v w'' he=> ?_⟩
        obtain ⟨σ',ha,A⟩:=he; rw [ha]; exact A)
 | halt x w'=>cases x <;> simp only [gD] at h
theorem py (hn:uc op=true) (h:(execOp (ev N σ) ⟨some d,op,ty,pos,af,none⟩).run P w= .ok (.value v) w) (k:jw P N ops Q rest (aI σ d v) w):jw P N ops Q (⟨some d,op,ty,pos,af,none⟩::rest) σ w:=
 ey hn (gu h k)
theorem JL {l:Nat} {fo:az} {args:Array az} {A:Array aj} {L:List ab} {R:ah→Prop} (M:ev N σ fo= .func (.yield l) #[] #[]) (I:args.toList.map (ev N σ)=L)
 (U:YieldAt eC 0 P l L.toArray w fun e W'=>e= .returned (.bool true)∧R W') (k:∀ W',R W'→jw P N ops Q rest (aI σ d<|.bool true) W'):
 jw P N ops Q (⟨some d,.call ⟨.value fo,args,A⟩,ty,pos,af,none⟩::rest) σ w:=by
 obtain ⟨fn,tmps,a,b,J,C⟩:=U;unfold jw wpListIn;rw [if_pos (eB _ rfl _)];refine ⟨fun f _=>je _ f,?_⟩;rw [lD,po _ _ _ (fun c e=>by cases e),cK];have hm:args.map (ev N σ)=L.toArray:=by rw [← I,← gv]
 have O:(execOp (ev N σ) ⟨some d,.call ⟨.value fo,args,A⟩,ty,pos,af,none⟩).run P w= .ok (.round l fn tmps a b) w:=by
  simp [execOp,resolve,M,kg,invoke,hm,J]
 rw [O];simp only [nW];refine ⟨fun h0=>(by rw [lB] at h0; cases h0),?_⟩;have E:RoundIn (fe N.r) (0 - 1) P l fn tmps a b w fun e W'=>e= .returned (.bool true)∧R W':=by
  cases hr:N.r with
  | none=>exact C
  | some k=>exact C
 refine RoundIn.mono E ?_;rintro e W' ⟨rfl,hw⟩;simp only;rw [dV];exact k W' hw
end
end Go.Hb
end
namespace Go.Hb
def wi {α:Type} (P:ak) (L:Nat) (M:Array ab) (J:α→Array ab) (Ok:List α→α→Prop) (Fin:List α→Prop) (I:ah→Prop):Prop :=
 ∀ (l:Nat) (A:List α→ah→Prop) (W:ah),A [] W→(∀ pre W,A pre W→I W)→(∀ pre C E (F:Nat→Prop),A pre C→Md F C E→(∀ k,F k→W.heap.size≤k∧∀ cur e z,C.heap[k]?≠some (.cells cur e z))→A pre E)→
   (∀ pre x C,Ok pre x→A pre C→YieldAt eC 0 P l (J x) C fun e W'=>e= .returned (.bool true)∧fc C W'∧A (pre++ [x]) W')→
   Calls P L (#[.func (.yield l) #[] #[]]++M) W fun e W'=>(∃ v,e= .returned v)∧∃ xs,Fin xs∧A xs W'
theorem Hf {α:Type} {P:ak} {id n:Nat} {g:az} {ps:Array Tmp} {aj body:Code} {aa:List Nat} {σ:Nat→ab} {w:ah} {B:aK→Act→ah→Prop} {ac:Nat} {ad:Array ab}
 (V:α→Array ab) (Ok:List α→α→Prop) (Fin:List α→Prop) (aw:ah→Prop) (E:List α→ah→Prop) (aQ:ev ⟨n,[],aa,none⟩ σ g= .func (.func ac) #[] ad) (aL:eN P ac) (aY:∀ x,(V x).size=ps.size)
 (aS:wi P ac ad V Ok Fin aw) (aF:E [] w) (aM:∀ pre W,E pre W→aw W) (ao:Cw w.heap.size E) (aC:α→Nat→ab)
 (ha:∀ (l:Nat) (x:α) (W:ah) (K:(Nat→ab)→ah→Prop),K (aC x) W→ba P ⟨n,[],[],some l⟩ aj (fN K fun _ _ _=>False) ((ps.toList.zip (V x).toList).foldl (fun s p=>aI s p.1 p.2) σ) W)
 (hb:∀ (l:Nat) (pre:List α) (x:α) (W:ah),Ok pre x→E pre W→ba P ⟨n,[],[],some l⟩ body (Ha fun W'=>fc W W'∧E (pre++ [x]) W') (aC x) W)
 (aN:∀ (D:Nat) (W:ah) (xs:List α),Fin xs→w.heap.size≤D→E xs W→W.heap[D]? =some (.deferred<|some [])→qb ⟨n,[{target:= .collected D,args:= #[]}],aa,none⟩ B .normal σ W):
 fQ P ⟨n,[],aa,none⟩ (.block id<|.rangeFunc g ps aj body) B σ w:=by
 refine wpIn_block<|wpIn_rangeFunc ?_;intro fn _;obtain ⟨rc,O⟩:∃ rc:LoopState→Option Code→Loop,rc=fun st a1=> {state:=st,pending:=a1,fn,tmps:=(act ⟨n,[],aa,none⟩ σ).tmps,params:=ps,assign:=aj,body,defers:=w.heap.size} :=⟨_,rfl⟩
 obtain ⟨I,ae⟩:∃ I,(w.alloc<|.deferred<|some []).alloc (.loop<|rc .ready none)=I:=⟨_,rfl⟩
 have aJ:I.heap[w.heap.size+1]? =some (.loop<|rc .ready none):=by
  rw [← ae]; have :=Bt (w.alloc<|.deferred<|some []) (.loop<|rc .ready none); rwa [vL] at this
 have aH:I.heap[w.heap.size]? =some (.deferred<|some []):=by
  rw [← ae]; exact (Below.heap_alloc _ _ _<|by simp).trans<|Bt w _
 have a4:I.heap.size=w.heap.size+2:=by rw [← ae,vL,vL]
 have hn:∀ (W:ah) (o:Obj),Wk W (W.alloc o):=fun W o=>(zb W o).md;have aG:E [] I:=by rw [← ae]; exact ao _ _ _ _ (ao _ _ _ _ aF (hn _ _) fun _ h=>h.elim) (hn _ _) fun _ h=>h.elim
 have aP:(act ⟨n,[],aa,none⟩ σ).eval g= .func (.func ac) #[] ad:=by rw [cK]; exact aQ
 refine ⟨w.heap.size+1,[{target:= .collected w.heap.size,args:= #[]}],I,{target:= .fn (.func ac) ad,args:= #[.func (.yield<|w.heap.size+1) #[] #[]]},I,ac,
  #[.func (.yield<|w.heap.size+1) #[] #[]]++ad,I,?_,?_,fun _ _=>trivial,?_,fun h0=>(by cases h0),?_⟩
 · rw [← ae,O]; exact run_enterLoop_outer _ _ _ _ _
 · simp only [resolve,aP];simp [go_sem]
 · have :=aL (#[.func (.yield<|w.heap.size+1) #[] #[]]++ad) I;simp [invoke,go_sem,this]
 · have au:∀ (pre:List α) (W:ah) (o av:Obj),E pre W→W.heap[w.heap.size+1]? =some o→(∀ cur e z,o≠.cells cur e z)→E pre (W.putObj (w.heap.size+1) av):=fun pre W o av al am aE=>
    ao _ _ _ _ al (tY W _ av) fun k Z=>⟨ag,fun cur e z ax=>by subst Z; rw [am] at ax; exact aE _ _ _<|et ax⟩
   refine callsIn_wide.2 (gy (aS (w.heap.size+1)
    (fun pre W=>E pre W∧W.heap[w.heap.size+1]? =some (.loop<|rc .ready none)∧W.heap[w.heap.size]? =some (.deferred<|some []))
    I ⟨aG,aJ,aH⟩ (fun pre W h=>aM pre W h.1)
    (fun pre A C F h hm an=>⟨ao _ _ _ _ h.1 hm (fun k Z=>⟨by have :=(an k Z).1; omega,(an k Z).2⟩),(hm.cD _ (bI.1 h.2.1).1 fun h=>by have :=(an _ h).1; omega).trans h.2.1,(hm.cD _ (bI.1 h.2.2).1 fun h=>by have :=(an _ h).1; omega).trans h.2.2⟩) ?_) ?_)
   · rintro pre x W a0 ⟨hi,J,Z⟩;have aW:w.heap.size+1 < W.heap.size:=(bI.1 J).1;have aA:=run_yield (P:=P) (args:=V x) J<|by rw [O]; exact aY x
     rw [O] at aA;refine ⟨fn,_,aj,body,aA,roundIn_of_wpIn (F:=eC) trivial ?_⟩;have aZ:((ps.zip<|V x).foldl (fun tmps (p:Tmp×ab)=>tmps.setIfInBounds p.1 p.2) (act ⟨n,[],aa,none⟩ σ).tmps)=(act ⟨n,[],[],some<|w.heap.size+1⟩<|(ps.toList.zip (V x).toList).foldl (fun s p=>aI s p.1 p.2) σ).tmps:=by
      rw [← Array.foldl_toList,Array.toList_zip];exact wx ⟨n,[],[],some<|w.heap.size+1⟩ _ σ
     have al:=ha (w.heap.size+1) x W (fun σ' W'=> ∃ aB,(Instr.beginRound<|w.heap.size+1).run P W'= .ok () aB∧
      body.wpIn (eC.inRound<|w.heap.size+1) 0 P (roundPost P (w.heap.size+1) fun e W'=>e= .returned (.bool true)∧fc W W'∧E (pre++ [x]) W'∧W'.heap[w.heap.size+1]? =some (.loop<|rc .ready none)∧W'.heap[w.heap.size]? =some (.deferred<|some [])) (act ⟨n,[],[],some<|w.heap.size+1⟩ σ') aB) ?_
     · unfold ba at al;have aD:({tmps:=(ps.zip<|V x).foldl (fun tmps (p:Tmp×ab)=>tmps.setIfInBounds p.1 p.2) (act ⟨n,[],aa,none⟩ σ).tmps,defers:= []} :Act)=act ⟨n,[],[],some<|w.heap.size+1⟩ ((ps.toList.zip (V x).toList).foldl (fun s p=>aI s p.1 p.2) σ):=by rw [aZ]; rfl
       rw [aD];refine wpIn_mono al ?_;intro e a w' L;cases e with
       | normal=>obtain ⟨σ',rfl,M⟩:=L; exact M
       | panic c=>obtain ⟨σ',rfl,M⟩:=L; exact M σ' fun _ _=>rfl
       | outgrown=>exact L.elim
       | _=>obtain ⟨σ',rfl,M⟩:=L; exact M
     refine ⟨_,run_beginRound J (by rw [O]),?_⟩;have aV:(W.putObj (w.heap.size+1)<|.loop {rc .ready none with state:= .busy}).heap[w.heap.size+1]? =some (.loop {rc .ready none with state:= .busy}):=px aW;have aT:(W.putObj (w.heap.size+1)<|.loop {rc .ready none with state:= .busy}).heap[w.heap.size]? =some (.deferred<|some []):=(kW ag).trans Z;have am:=hb (w.heap.size+1) pre x _ a0<|au _ _ _ (.loop {rc .ready none with state:= .busy}) hi J fun _ _ _ h=>by cases h
     unfold ba at am;refine wpIn_mono am ?_;intro e a a3 L;cases e with
     | normal=>
       obtain ⟨σ',rfl,ar,aR⟩:=L;have ai:=ar _ _ aV ⟨(fun _ _ _ h=>by cases h),fun _ _ h=>by cases h⟩;have aU:=ar _ _ aT ⟨(fun _ _ _ h=>by cases h),fun _ _ h=>by cases h⟩;have hr:=run_endRound (P:=P) none ai;rw [O] at hr ai ⊢;refine ⟨_,_,hr,U,fun k o aq aX=> ?_,au _ _ _ _ aR ai (fun _ _ _ h=>by cases h),px (bI.1 ai).1,(kW ag).trans aU⟩;by_cases ap:k=w.heap.size+1
       · subst ap;rw [J,O] at aq;rw [← aq];exact px (bI.1 ai).1
       · exact (kW ap).trans<|ar k o ((kW ap).trans aq) aX
     | panic c=>obtain ⟨σ',rfl,M⟩:=L; exact (M σ' fun _ _=>rfl).elim
     | outgrown=>exact L.elim
     | _=>obtain ⟨σ',rfl,M⟩:=L; exact M.elim
   · rintro e a2 ⟨⟨v,rfl⟩,xs,hfin,hi,J,Z⟩;have ay:=run_endLoop (P:=P) J<|by rw [O]; simp
     rw [O] at ay;refine ⟨none,_,ay,?_⟩;rw [O] at J;exact aN w.heap.size _ xs hfin (aO _) (au _ _ _ _ hi J fun _ _ _ h=>by cases h)<|(kW ag).trans Z
end Go.Hb
section
namespace Go.Hb
section
variable {P:ak} {N:Fm} {σ:Nat→ab} {w:ah} {fn:fS} {R:ab→ah→Prop}
theorem F9 {t b off :Nat} {v:ab} (hu:cM P t=some none) (A:Hb.ay w.heap b off =some v):(loadVar t ⟨b,off,none⟩).run P w= .ok v w:=by
 have C:w.cell? ⟨b,off,none⟩=some v:=by rw [fZ]; exact A
 unfold cM at hu;cases hd:P.underlying t with
 | none=>rw [hd] at hu; cases hu
 | some d=>
   rw [hd] at hu;cases d <;> first
    | (simp only [fB] at hu; obtain ⟨_,_,h⟩:=hu; cases h; done)
    | simp [loadVar,isAgg,aR hd,run_load,C]
theorem Ga {t n b off :Nat} {cs:List ab} (hu:cM P t=some (some n)) (I:cs.length=n) (C:∀ j,j < n→Hb.ay w.heap b (off+j)=cs[j]?):(loadVar t ⟨b,off,none⟩).run P w= .ok (.agg cs.toArray) w:=by
 have E:(loadCells ⟨b,off,none⟩ n).run P w= .ok cs.toArray w:=by
  subst I;refine run_loadCells_list (P:=P) w ⟨b,off,none⟩ cs fun j v A=> ?_;rw [dt,fZ];exact (C j (cy.1 A).1).trans A
 unfold cM at hu;cases hd:P.underlying t with
 | none=>rw [hd] at hu; cases hu
 | some d=>
   rw [hd] at hu;cases hi:P.info? t with
   | none=>simp [Br,hi] at hd
   | some i=>
     rw [hi] at hu;cases d <;> first
      | (cases hu; done)
      | (simp only [dg,aY] at hu; subst hu
         simp [loadVar,isAgg,aR hd,sizeOf,cJ hi,E])
def mL (P:ak) (N:Fm) (σ:Nat→ab) (w:ah):ResultVar→ab→Prop
 | .tmp t,v=>ev N σ (.tmp t)=v
 | .cell a t,v=> ∃ ad,ev N σ (.tmp a)= .pointer (some ad)∧(loadVar t ad).run P w= .ok v w
theorem Hn {t:Tmp} :mL P N σ w (.tmp t) (ev N σ<|.tmp t):=rfl
theorem iq {a t b off :Nat} {v:ab} (C:ev N σ (.tmp a)= .pointer (some ⟨b,off,none⟩)) (hu:cM P t=some none) (A:Hb.ay w.heap b off =some v):mL P N σ w (.cell a t) v:=⟨_,C,F9 hu A⟩
theorem qY {a t n b off :Nat} {cs:List ab} (E:ev N σ (.tmp a)= .pointer (some ⟨b,off,none⟩)) (hu:cM P t=some (some n)) (C:cs.length=n) (A:∀ j,j < n→Hb.ay w.heap b (off+j)=cs[j]?):mL P N σ w (.cell a t) (.agg cs.toArray):=⟨_,E,Ga hu C A⟩
def lT (tmps:Array ab):ResultVar→Sem ab
 | .tmp t=>pure<|tmps.getD t undef
 | .cell a t=>do loadVar t (← asAddr (tmps.getD a undef))
theorem kP {r:ResultVar} {v:ab} (h:mL P N σ w r v):(lT (act N σ).tmps r).run P w= .ok v w:=by
 cases r with
 | tmp t=>
   show iR P (pure<|(act N σ).tmps.getD t undef) w=_;rw [l6]; simp only [mL] at h; rw [h]; rfl
 | cell a t=>
   obtain ⟨ad,A,C⟩:=h;show iR P (do loadVar t (← asAddr ((act N σ).tmps.getD a undef))) w=_;rw [l6,A];simp [asAddr,C]
theorem uA {tmps:Array ab} {r s:ResultVar} {v u:ab} (h:fn.results= #[r,s]) (A:(lT tmps r).run P w= .ok v w) (C:(lT tmps s).run P w= .ok u w):(results fn tmps).run P w= .ok (.tuple #[v,u]) w:=by
 have E:(results fn tmps)=(do let vs ← #[r,s].mapM (lT tmps); pure (if h:vs.size=1 then vs[0] else .tuple vs)):=by
  unfold results; rw [h]; rfl
 rw [E]; simp [List.mapM_toArray,A,C]
end
end Go.Hb
end
section
namespace Go.Hb
def lr (P:ak) (f:dq) (args:Array ab) (w:ah) (R:ab→ah→Prop) (A:List PanicEntry→ah→Prop):Prop :=
 Calls P f args w fun e w'=>(∃ v,e= .returned v∧R v w')∨∃ c,e= .panicked c∧A c w'
def x9 (P:ak) (fn:fS) (N:Fm) (R:ab→ah→Prop) (A:List PanicEntry→ah→Prop):aK→(Nat→ab)→ah→Prop
 | .normal,σ,w=> ∃ v,(results fn (act N σ).tmps).run P w= .ok v w∧R v w
 | .ret,σ,w=> ∃ v,(results fn (act N σ).tmps).run P w= .ok v w∧R v w
 | .panic c,_,w=>A c w
 | _,_,_=>False
theorem oy {P:ak} {fn:fS} {N:Fm} {R:ab→ah→Prop} {A:List PanicEntry→ah→Prop} {e:aK} {σ:Nat→ab} {w:ah} (h:fin P fn N R e σ w):x9 P fn N R A e σ w:=by
 cases e <;> first | exact h | exact h.elim
theorem ov {P:ak} {f:dq} {N:Nat} {fn:fS} {c:Code} {args:List ab} {w:ah} {R:ab→ah→Prop} {I:List PanicEntry→ah→Prop} (L:P.funcs[f]? =some fn) (hb:fn.body=some c)
 (J:fn.ntmps=N) (hn:aG args.length N=true) (h:ba P ⟨N,[],[],none⟩ c (x9 P fn ⟨N,[],[],none⟩ R I) (cP args) w):lr P f args.toArray w R I:=by
 subst J;refine calls_of_wp L hb ?_;rw [lW fn args [] hn];unfold ba at h;refine A7 ?_<|wpIn_wide.1 h;intro e a w A;cases e with
 | normal=>obtain ⟨σ,rfl,v,hr,E⟩:=A; exact ⟨rfl,v,hr,.inl ⟨v,rfl,E⟩⟩
 | ret=>obtain ⟨σ,rfl,v,hr,E⟩:=A; exact ⟨rfl,v,hr,.inl ⟨v,rfl,E⟩⟩
 | exit id=>obtain ⟨σ,rfl,C⟩:=A; exact C.elim
 | goto l=>obtain ⟨σ,rfl,C⟩:=A; exact C.elim
 | panic c=>obtain ⟨σ,rfl,C⟩:=A; exact ⟨rfl,.inr ⟨c,rfl,C σ fun _ _=>rfl⟩⟩
 | outgrown=>exact A.elim
section
variable {P:ak} {N:Fm} {Q:aK→(Nat→ab)→ah→Prop} {σ:Nat→ab} {w:ah} {ops:Array aq} {rest:List aq} {dst:Option Nat} {ty:aj} {pos :String} {af:Array bB} {g:Option (Nat×Bool)} {x:az}
def me (P:ak) (N:Fm) (o:aq) (σ:Nat→ab) (w:ah) (K:(Nat→ab)→ah→Prop) (A:List PanicEntry→ah→Prop):Prop :=
 fv P o (act N σ) w (fun a w=> ∃ σ,a=act N σ∧K σ w) (fun e a w=>match e with | .panic c=>a=act N σ∧A c w | _=>False)
theorem vv {o:aq} {K:(Nat→ab)→ah→Prop} {C:List PanicEntry→ah→Prop} {A:Act→ah→Prop} (h:me P N o σ w K C) (L:∀ σ w,K σ w→A (act N σ) w) (hp:∀ c w',C c w'→∀ σ',(∀ i∈N.F,σ' i=σ i)→Q (.panic c) σ' w'):o.wp P (act N σ) w A (lift N Q):=by
 unfold me at h;unfold fv at*;generalize (execOp (act N σ).eval o).run P w=r at h ⊢;have E:∀ a w,(∃ σ,a=act N σ∧K σ w)→A a w:=by rintro a w ⟨σ,rfl,h⟩; exact L _ _ h
 have I:∀ c (a:Act) w',(a=act N σ∧C c w')→lift N Q (.panic c) a w':=by rintro c a w' ⟨rfl,h⟩; exact ⟨σ,rfl,hp c w' h⟩
 cases r with
 | ok n w'=>
   cases n <;> simp only [gD] at h ⊢ <;>
    first
     | exact E _ _ h
     | exact gy h (fun e w'' he=>by
      cases e with
      | returned v=>exact E _ _ he
      | panicked c=>exact I _ _ _ ⟨rfl,he.2⟩
      | outgrown=>obtain ⟨_,_,J⟩:=he; exact J.elim)
     | exact vJ h fun _ _ he=>E _ _ he
 | halt x w'=>cases x <;> simp only [gD] at h ⊢ <;> exact I _ _ _ ⟨rfl,h.2⟩
theorem dL {f:dq} {args:Array az} {C:Array aj} {L:List ab} {R:ab→ah→Prop} {A:List PanicEntry→ah→Prop} {K:(Nat→ab)→ah→Prop} (O:eN P f) (hr:lr P f L.toArray w R A) (I:args.toList.map (ev N σ)=L)
 (k:∀ v w',R v w'→K (bV σ dst v) w'):me P N ⟨dst,.call ⟨.value (.func f),args,C⟩,ty,pos,af,g⟩ σ w K A:=by
 unfold me fv;have hm:args.map (ev N σ)=L.toArray:=by rw [← I,← gv]
 have U:(execOp (ev N σ) ⟨dst,.call ⟨.value (.func f),args,C⟩,ty,pos,af,g⟩).run P w= .ok (.enter f L.toArray) w:=by
  have E:=O L.toArray w;simp [execOp,resolve,ev,kg,invoke,hm,E]
 rw [cK,U];simp only [gD];refine gy hr ?_;rintro e w' (⟨v,rfl,M⟩ | ⟨c,rfl,J⟩)
 · exact ⟨_,dV ..,k v w' M⟩
 · exact ⟨trivial,J⟩
theorem eP {o:aq} {A:List PanicEntry→ah→Prop} (E:o.guard=none) (h:me P N o σ w (fun σ w=>bz P N ops Q rest σ w) A) (hp:∀ c w',A c w'→∀ σ',(∀ i∈N.F,σ' i=σ i)→Q (.panic c) σ' w'):bz P N ops Q (o::rest) σ w:=by
 unfold bz wpList;rw [if_pos (eB o E _)];refine .inl<|vv h (fun σ w C=> ?_) hp;unfold bz at C; exact C
theorem GU {t:aj} {v:ab} (A:ev N σ x= .iface t v) (hp:∀ σ',(∀ i∈N.F,σ' i=σ i)→Q (.panic [{v:= .iface t v,recovered:=false}]) σ' w):bz P N ops Q (⟨dst,.panic x,ty,pos,af,none⟩::rest) σ w:=by
 unfold bz wpList;rw [if_pos (eB _ rfl _)];refine .inl ?_;unfold fv;have hr:(execOp (ev N σ) ⟨dst,.panic x,ty,pos,af,none⟩).run P w= .halt (.panic<|.iface t v) w:=by
  simp [execOp,A,Instr.panic]
 rw [cK,hr];exact ⟨σ,U,hp⟩
theorem Gl {t:aj} {d:TypeDesc} {v:ab} (hu:P.underlying t=some d) (A:(match d with | .interface _=>false | _=>true)=true) (C:ev N σ x=v):(execOp (ev N σ) ⟨dst,.makeInterface t x,ty,pos,af,g⟩).run P w= .ok (.value<|.iface t v) w:=by
 cases d <;> first | (cases A; done) | simp [execOp,Instr.makeInterface,C,aR hu]
def jk (P:ak) (t:aj):Bool:=match P.underlying t with | some (.interface _)=>false | some _=>true | none=>false
theorem ua {t:aj} {v:ab} (h:jk P t=true) (A:ev N σ x=v):(execOp (ev N σ) ⟨dst,.makeInterface t x,ty,pos,af,g⟩).run P w= .ok (.value<|.iface t v) w:=by
 unfold jk at h;cases hd:P.underlying t with
 | none=>rw [hd] at h; cases h
 | some d=>rw [hd] at h; exact Gl hd (by cases d <;> first | rfl | cases h) A
theorem Ah {xt a:aj} {zv:ab} (hu:jk P a=true) (C:zeroV P a=some zv) (A:ev N σ x= .nilIface):(execOp (ev N σ) ⟨dst,.typeAssert x xt a true,ty,pos,af,g⟩).run P w= .ok (.value<|.tuple #[zv,.bool false]) w:=by
 unfold jk at hu;cases hd:P.underlying a with
 | none=>rw [hd] at hu; cases hu
 | some d=>rw [hd] at hu; cases d <;> first | (cases hu; done) | simp [execOp,Bl,A,aR hd,vy C]
theorem Ag {xt a:aj} {v:ab} (hu:jk P a=true) (A:ev N σ x= .iface a v):(execOp (ev N σ) ⟨dst,.typeAssert x xt a true,ty,pos,af,g⟩).run P w= .ok (.value<|.tuple #[v,.bool true]) w:=by
 unfold jk at hu;cases hd:P.underlying a with
 | none=>rw [hd] at hu; cases hu
 | some d=>rw [hd] at hu; cases d <;> first | (cases hu; done) | simp [execOp,Bl,A,aR hd]
variable {S:ah→Prop} {fuel:Nat} {listed:Array Bool}
theorem Fh {o:aq} {C:List PanicEntry→ah→Prop} (i:Nat) (hi:ops[i]? =some o) (hr:ik ops listed i=true) (E:o.guard=none)
 (h:me P N o σ w (fun σ w=>S w∧bR P N ops Q S fuel (listed.setIfInBounds i true) σ w) C) (hp:∀ c w',C c w'→∀ σ',(∀ i∈N.F,σ' i=σ i)→Q (.panic c) σ' w'):bR P N ops Q S (fuel+1) listed σ w:=by
 unfold bR at*;refine wpAnyH_all (rs:= [i]) (by simpa [ik] using hr) (by simp) ?_;intro k A;obtain rfl :k=i:=by simpa using A
 unfold wpOp;simp only [hi];rw [if_pos (eB _ E _)];exact .inl<|vv h (fun σ w A=>A) hp
end
section
variable {P:ak} {N:Fm} {Q:aK→(Nat→ab)→ah→Prop} {σ:Nat→ab} {w:ah} {ops:Array aq} {S:ah→Prop} {fuel:Nat} {listed:Array Bool}
end
section
variable {P:ak} {N:Fm} {Q:aK→(Nat→ab)→ah→Prop} {σ:Nat→ab} {w:ah} {ops:Array aq} {S:ah→Prop} {fuel r:Nat} {listed:Array Bool}
theorem FQ {o:aq} {C:List PanicEntry→ah→Prop} (i:Nat) (hi:ops[i]? =some o) (hr:ik ops listed i=true) (I:o.guard=none)
 (h:me P N o σ w (fun σ w=>S w∧bJ P N ops Q S r fuel (listed.setIfInBounds i true) σ w) C) (hp:∀ c w',C c w'→∀ σ',(∀ i∈N.F,σ' i=σ i)→Q (.panic c) σ' w'):bJ P N ops Q S r (fuel+1) listed σ w:=by
 unfold bJ at*;have E:dB .any ops listed= [i]:=by simpa [ik] using hr
 refine ⟨fun h0=>absurd (E ▸ h0) (by simp),fun k A=> ?_⟩;rw [E] at A;obtain rfl :k=i:=by simpa using A
 unfold wpOp;simp only [hi];rw [if_pos (eB _ I _)];exact .inl<|vv h (fun σ w A=>⟨fun _=>A.1,A.2⟩) hp
end
abbrev ko (P:ak) (fn:fS) (R:ab→ah→Prop):aK→Act→ah→Prop :=bodyPostD P fn (fun e w'=> ∃ v,e= .returned v∧R v w')
theorem Et {P:ak} {f:dq} {N:Nat} {fn:fS} {c:Code} {args:List ab} {w:ah} {R:ab→ah→Prop} (F:List Nat) (C:P.funcs[f]? =some fn) (hb:fn.body=some c)
 (A:fn.ntmps=N) (hn:aG args.length N=true) (h:fQ P ⟨N,[],F,none⟩ c (ko P fn R) (cP args) w):bf P f args.toArray w R:=by
 subst A;refine calls_of_wp_defers C hb ?_;rw [lW fn args F hn];exact wpIn_wide.1 h
section
variable {P:ak} {n:Nat} {D:List Deferred} {F:List Nat} {σ:Nat→ab} {w:ah} {fn:fS} {R:ab→ah→Prop} {B:aK→Act→ah→Prop}
theorem EH {v:ab} (hr:(results fn (act ⟨n,[],F,none⟩ σ).tmps).run P w= .ok v w) (A:R v w):qb ⟨n,[],F,none⟩ (ko P fn R) .ret σ w:=⟨v,hr,v,rfl,A⟩
theorem FV:¬LetsOut (ko P fn R):=fun ⟨_,_,h⟩=>by obtain ⟨v,h,_⟩:=h; cases h
theorem jP {id d:Nat} {f:dq} (O:¬LetsOut B) {cs:Array az} {I J:aj} {p1 p2:String} {C E:Array bB} {y:Code} (A:Array ab) (Z:cs.toList.map (ev ⟨n,[],F,none⟩ σ)=A.toList) (ac:d < n)
 (h:fQ P ⟨n,[{target:= .fn (.func f) A,args:= #[]}],F,none⟩ y B (aI σ d<|.func (.func f) #[] A) w):
 fQ P ⟨n,[],F,none⟩ (.region id #[⟨some d,.makeFunc (.func f) #[] cs,I,p1,C,none⟩,⟨none,.defer ⟨.value (.tmp d),#[],#[]⟩,J,p2,E,none⟩] false) (Exit.then (y.wpIn (fe none) 0 P B) B) σ w:=by
 have aa:cs.map (ev ⟨n,[],F,none⟩ σ)=A:=Array.toList_inj.1<|by rw [gv]; exact Z
 refine wpIn_region ?_;have V:¬LetsOut (Exit.then (y.wpIn (fe none) 0 P B) B):=fun ⟨a,w,h⟩=>O ⟨a,w,h⟩;refine tF (r:=none) V U _ _ _ ?_;show wpOps P _ _ [0,1] _ _;simp only [wpOps,ki,fV,fU];rw [if_pos (eB _ rfl _)];refine .inl ?_;unfold fv;have L:(execOp (act ⟨n,[],F,none⟩ σ).eval ⟨some d,.makeFunc (.func f) #[] cs,I,p1,C,none⟩).run P w= .ok (.value<|.func (.func f) #[] A) w:=by
  rw [cK,mf,aa]; simp
 rw [L];simp only [gD];rw [if_pos (eB _ rfl _),dV];refine .inl ?_;have M:(execOp (act ⟨n,[],F,none⟩<|bV σ (some d)<|.func (.func f) #[] A).eval ⟨none,.defer ⟨.value (.tmp d),#[],#[]⟩,J,p2,E,none⟩).run P w= .ok (.defer {target:= .fn (.func f) A,args:= #[]}) w:=by
  have ad:ev ⟨n,[],F,none⟩ (aI σ d<|.func (.func f) #[] A) (.tmp d)= .func (.func f) #[] A:=by
   show cond (Nat.blt d n) (aI σ d _ d) undef=_;rw [show Nat.blt d n=true from by simpa using ac];show aI σ d _ d=_;unfold aI; simp
  rw [cK];show (execOp (ev ⟨n,[],F,none⟩<|aI σ d<|.func (.func f) #[] A) _).run P w=_;simp [execOp,resolve,ad,kg]
 rw [M];exact h
end
theorem GL {P:ak} {ops:Array aq} {Q:aK→Act→List Frame→ah→Prop} {cs:List Frame} (A:¬LetsOut fun e a w=>Q e a cs w):∀ (l:List Nat) (a:Act) (w:ah),wpOps P ops (fun e a w=>Q e a cs w) l a w→wpOpsS P ops Q l a cs w:=by
 intro l
 induction l with
 | nil=>exact fun _ _ h=>h
 | cons i l ih=>
   intro a w h;simp only [wpOps] at h;simp only [wpOpsS];cases ho:ops[i]? with
   | none=>simp only [ho] at h ⊢; exact ih a w h
   | some o=>
     simp only [ho] at h ⊢;by_cases hw:Region.wanted o (yielded ops a.tmps)=true
     · rw [if_pos hw] at h ⊢;rcases h with h | h
       · unfold fv at h;generalize (execOp a.eval o).run P w=x at h;cases x with
         | ok n w'=>
           cases n <;> simp only [gD] at h ⊢ <;>
            first
             | exact ih _ _ h
             | exact gy h fun e w'' he=>by cases e <;> first | exact ih _ _ he | exact he
             | exact vJ h fun v w'' he=>ih _ _ he
         | halt x w'=>cases x <;> simp only [gD] at h ⊢ <;> exact h
       · exact absurd h.2 A
     · rw [if_neg hw] at h ⊢;exact ih _ _ h
theorem FY {P:ak} {ops:Array aq} {Q C:aK→Act→ah→Prop} (A:∀ e a w,Q e a w→C e a w) (E:¬LetsOut Q):∀ (l:List aq) (a:Act) (w:ah),wpList P ops Q l a w→wpList P ops C l a w:=by
 intro l
 induction l with
 | nil=>exact fun _ _ h=>A _ _ _ h
 | cons o l ih=>
   intro a w h;unfold wpList at h ⊢;split at h
   · rename_i hw;rw [if_pos hw];rcases h with h | h
     · left;unfold fv at h ⊢;generalize (execOp a.eval o).run P w=x at h;cases x with
       | ok n w'=>
         cases n <;> simp only [gD] at h ⊢ <;>
          first
           | exact ih _ _ h
           | exact gy h (fun e w'' he=>by
            cases e with
            | returned v=>exact ih _ _ he
            | panicked c=>exact A _ _ _ he
            | outgrown=>exact absurd he E)
           | exact vJ h fun v w'' he=>ih _ _ he
       | halt x w'=>cases x <;> simp only [gD] at h ⊢ <;> exact A _ _ _ h
     · exact absurd h.2 E
   · rename_i hw;rw [if_neg hw]; exact ih _ _ h
theorem xf {P:ak} {f:dq} {fn:fS} {id N d:Nat} {ty:aj} {pos :String} {af:Array bB} {rest:List aq} {y:Code} {args:List ab} {w:ah} {u I:FrameMode} {v:ab} {R:ah→Prop}
 (ai:P.funcs[f]? =some fn) (hb:fn.body=some (.seq (.region id (⟨some d,.call ⟨.builtin .recover,#[],#[]⟩,ty,pos,af,none⟩::rest).toArray false) y)) (ae:fn.ntmps=N) (hn:aG args.length N=true)
 (al:∀ (C:Frame) (cs:List Frame),C.mode=u→(recoverD (C::cs)=some (v,{C with mode:=I} ::cs))∨(recoverD (C::cs)=none∧v= .nilIface∧I=u))
 (h:bz P ⟨N,[],[],none⟩ (⟨some d,.call ⟨.builtin .recover,#[],#[]⟩,ty,pos,af,none⟩::rest).toArray (fN (fun σ w=>ba P ⟨N,[],[],none⟩ y (fin P fn ⟨N,[],[],none⟩ fun _ w=>R w) σ w)<|fin P fn ⟨N,[],[],none⟩ fun _ w=>R w) rest (aI (cP args) d v) w):
 CallsD P f args.toArray u w fun e J w'=> ∃ v,e= .returned v∧J=I∧R w':=by
 subst ae;refine callsD_of_wpS ai hb ?_;intro C cs hu;rw [lW fn args [] hn];refine wpS_seq<|wpS_region ?_;have am:List.range (⟨some d,.call ⟨.builtin .recover,#[],#[]⟩,ty,pos,af,none⟩::rest).toArray.size=0::(List.range' 1 rest.length):=by
  rw [dP,bZ,List.range_eq_range',List.range'_succ]
 rw [am];simp only [wpOpsS,ki,fV];rw [if_pos (eB _ rfl _)];have an:(execOp (act ⟨fn.ntmps,[],[],none⟩<|cP args).eval ⟨some d,.call ⟨.builtin .recover,#[],#[]⟩,ty,pos,af,none⟩).run P w= .ok .recover w:=by
  rw [cK];simp [execOp,resolve,invoke,builtin]
 rw [an];simp only;obtain ⟨L,O⟩:∃ L,L=({C with mode:=I} ::cs:List Frame):=⟨_,rfl⟩
 have ag:∀ X:Act→List Frame→Prop,X ((act ⟨fn.ntmps,[],[],none⟩<|cP args).put (some d) v) L→
  (match recoverD (C::cs) with
   | some (v,U)=>X ((act ⟨fn.ntmps,[],[],none⟩<|cP args).put (some d) v) U
   | none=>X ((act ⟨fn.ntmps,[],[],none⟩<|cP args).put (some d) .nilIface) (C::cs)):=by
  intro X Z;rcases al C cs hu with M | ⟨M,ac,ad⟩;rw [M]; subst O; exact Z;rw [M]; subst ac ad;have :({C with mode:=I} :Frame)=C:=by subst hu; rfl
  rw [this] at O; subst O; exact Z
 refine ag (fun a U=>wpOpsS P _ _ _ a U w) ?_;rw [dV];refine GL ?_ _ _ _ ?_;rintro ⟨a,w,h⟩;simp only [Exit.thenS,bodyPostS] at h;obtain ⟨_,_,h,_⟩:=h; cases h;have M:=wpOps_eq_wpList (P:=P) (ops:=(⟨some d,.call ⟨.builtin .recover,#[],#[]⟩,ty,pos,af,none⟩::rest).toArray) (Q:=fun e a w'=>Exit.thenS (Code.wpS P y (bodyPostS P fn C cs fun e J w'=> ∃ v,e= .returned v∧J=I∧R w')) (bodyPostS P fn C cs fun e J w'=> ∃ v,e= .returned v∧J=I∧R w') e a L w') rest 1 fun j=>by simp [Nat.add_comm]
 rw [M];unfold bz at h;refine FY ?_ tN _ _ _ h;intro e a w' E;have aa:∀ (e:aK) (σ:Nat→ab) (w':ah),fin P fn ⟨fn.ntmps,[],[],none⟩ (fun _ w=>R w) e σ w'→bodyPostS P fn C cs (fun e J w'=> ∃ v,e= .returned v∧J=I∧R w') e (act ⟨fn.ntmps,[],[],none⟩ σ) L w':=by
  intro e σ w' A;cases e with
  | normal=>obtain ⟨v,hr,V⟩:=A; exact ⟨rfl,I,O,v,hr,v,rfl,rfl,V⟩
  | ret=>obtain ⟨v,hr,V⟩:=A; exact ⟨rfl,I,O,v,hr,v,rfl,rfl,V⟩
  | _=>exact A.elim
 cases e with
 | normal=>
   obtain ⟨σ,rfl,A⟩:=E;refine wpS_of_wp ?_;simp only [fN] at A;unfold ba at A;refine A7 ?_<|wpIn_wide.1 A;intro e a w' E;cases e with
   | panic c=>obtain ⟨σ,rfl,A⟩:=E; exact (A σ fun _ _=>rfl).elim
   | outgrown=>exact E.elim
   | _=>obtain ⟨σ,rfl,A⟩:=E; exact aa _ σ w' A
 | panic c=>obtain ⟨σ,rfl,A⟩:=E; exact (A σ fun _ _=>rfl).elim
 | outgrown=>exact E.elim
 | ret=>obtain ⟨σ,rfl,A⟩:=E; exact aa .ret σ w' A
 | exit i=>obtain ⟨σ,rfl,A⟩:=E; exact A.elim
 | goto i=>obtain ⟨σ,rfl,A⟩:=E; exact A.elim
section
variable {P:ak} {n:Nat} {F:List Nat} {σ:Nat→ab} {w:ah} {fn:fS} {R:ab→ah→Prop}
theorem EJ {g:dq} {A:Array ab} {M:ah→Prop} (hu:(invoke (.fn (.func g) A) #[]).run P w= .ok (.enter g A) w)
 (J:CallsD P g A .returning w fun e L w'=> ∃ v,e= .returned v∧L= .returning∧M w') (I:∀ w',M w'→∃ v,(results fn (act ⟨n,[{target:= .fn (.func g) A,args:= #[]}],F,none⟩ σ).tmps).run P w'= .ok v w'∧R v w'):
 qb ⟨n,[{target:= .fn (.func g) A,args:= #[]}],F,none⟩ (ko P fn R) .ret σ w:=by
 refine leaves_cons (by simp) hu ?_;refine A5 J ?_;rintro e O w' ⟨v,rfl,rfl,hm⟩;obtain ⟨v2,C,E⟩:=I w' hm;exact ⟨v2,C,v2,U,E⟩
theorem EK {g:dq} {A:Array ab} {M:ah→Prop} {v:ab} (hu:(invoke (.fn (.func g) A) #[]).run P w= .ok (.enter g A) w)
 (J:CallsD P g A (.panicking [{v:=v,recovered:=false}]) w fun e L w'=> ∃ x,e= .returned x∧L= .panicking [{v:=v,recovered:=true}]∧M w') (I:∀ w',M w'→∃ v,(results fn (act ⟨n,[{target:= .fn (.func g) A,args:= #[]}],F,none⟩ σ).tmps).run P w'= .ok v w'∧R v w'):
 qb ⟨n,[{target:= .fn (.func g) A,args:= #[]}],F,none⟩ (ko P fn R) (.panic [{v:=v,recovered:=false}]) σ w:=by
 refine leaves_cons (by simp) hu ?_;refine A5 J ?_;rintro e O w' ⟨x,rfl,rfl,hm⟩;obtain ⟨v2,C,E⟩:=I w' hm;exact ⟨v2,C,v2,U,E⟩
end
end Go.Hb
end
section
namespace Go.Hb
section
variable {B B':Nat} {fp fp' fp'':Nat→Prop} {w w' w'':ah}
end
section
variable {F fp:Nat→Prop} {W W':ah} {B:Nat}
end
section
variable {P:ak} {N:Fm} {ops:Array aq} {Q:aK→(Nat→ab)→ah→Prop} {rest:List aq} {σ:Nat→ab} {w:ah} {d':Option Nat} {d:Nat} {op:Op} {ty:aj} {pos :String} {af:Array bB} {v:ab}
end
section
variable {P:ak} {n:Nat} {F:List Nat} {σ:Nat→ab} {w:ah} {fn:fS} {R:ab→ah→Prop}
end
def tf (P:ak) (s f:Nat):Option Nat:=
 match P.underlying s with
 | some (.struct A)=>match A[f]? with
   | some fd=>if cM P fd.type=some none then some fd.offset else none
   | none=>none
 | _=>none
theorem zH {P:ak} {t:Nat} (hu:cM P t=some none) (w:ah):(isAgg t).run P w= .ok false w:=by
 unfold cM at hu;cases hd:P.underlying t with
 | none=>rw [hd] at hu; cases hu
 | some d=>
   rw [hd] at hu;cases d <;> first
    | (simp only [fB] at hu; obtain ⟨_,_,h⟩:=hu; cases h; done)
    | simp [isAgg,aR hd]
theorem EI {P:ak} {N:Fm} {σ:Nat→ab} {w:ah} {dst:Option Nat} {ty:aj} {pos :String} {af:Array bB} {g:Option (Nat×Bool)} {x:az} {s f n:Nat} {cs:Array ab} {v:ab} (A:tf P s f=some n) (I:ev N σ x= .agg cs) (E:cs[n]? =some v):
 (execOp (ev N σ) ⟨dst,.field s x f,ty,pos,af,g⟩).run P w= .ok (.value v) w:=by
 unfold tf at A;split at A
 · rename_i J hu;split at A
   · rename_i fd C;split at A
     · rename_i ha;cases A;simp [execOp,Bf,aR hu,C,I,asAgg,part,zH ha,E]
     · cases A
   · cases A
 · cases A
section
variable {P:ak} {ops:Array aq} {Q:aK→Act→ah→Prop} {S:ah→Prop} {md:mz}
def AK (P:ak) (md:mz) (ops:Array aq) (Q:aK→Act→ah→Prop) (S:ah→Prop):Nat→Array Bool→Act→ah→Prop
 | 0,listed,a,w=>dB md ops listed= []∧Q .normal a w
 | fuel+1,listed,a,w=>
   (dB md ops listed= []→Q .normal a w)∧
   ∀ i∈dB md ops listed,wpOpIn eC 0 P ops Q i (fun A w'=>S w'∧AK P md ops Q S fuel (listed.setIfInBounds i true) A w') a w
end
def Jw (P:ak) (N:Fm) (ops:Array aq) (Q:aK→(Nat→ab)→ah→Prop) (S:ah→Prop) (fuel:Nat) (listed:Array Bool) (σ:Nat→ab) (w:ah):Prop :=
 AK P .any ops (lift N Q) S fuel listed (act N σ) w
section
variable {P:ak} {N:Fm} {ops:Array aq} {Q:aK→(Nat→ab)→ah→Prop} {σ:Nat→ab} {w:ah} {d':Option Nat} {d:Nat} {op:Op} {ty:aj} {pos :String} {af:Array bB} {v:ab}
variable {S:ah→Prop} {fuel:Nat} {listed:Array Bool}
end
attribute [irreducible] Jw
end Go.Hb
end
section
namespace Go.Hb
section
variable {P:ak} {N:Fm} {σ:Nat→ab} {w:ah} {dst:Option Nat} {ty:aj} {pos :String} {af:Array bB} {g:Option (Nat×Bool)} {x:az}
theorem CN {t n C b:Nat} (he:kr P t=some (n,C)) (A:ev N σ x= .pointer (some ⟨b,0,none⟩)):
 (execOp (ev N σ) ⟨dst,.slice t x none none none,ty,pos,af,g⟩).run P w= .ok (.value<|.slice (some ⟨b,0,none⟩) n n) w:=by
 unfold kr at he;cases hd:P.underlying t with
 | none=>rw [hd] at he; cases he
 | some d=>
   rw [hd] at he;cases d <;> first | (cases he; done) | skip
   rename_i m e;cases hi:P.info? e with
   | none=>simp [hi] at he
   | some j=>
     simp only [hi,dg,aY,Prod.mk.injEq] at he;obtain ⟨rfl,rfl⟩:=he;simp [execOp,mr,Instr.sureAddr,jA,A,aR hd,sizeOf,cJ hi,dt]
def tg (P:ak) (t f:Nat):Option (Nat×Nat):=
 match P.underlying t with
 | some (.struct A)=>(A[f]?).map fun d=>(d.type,d.offset)
 | _=>none
theorem ET {t f A off n:Nat} {cs vs:List ab} (h:tg P t f=some (A,off)) (ha:cM P A=some (some n)) (I:ev N σ x= .agg cs.toArray) (E:(cs.drop off).take n=vs):
 (execOp (ev N σ) ⟨dst,.field t x f,ty,pos,af,g⟩).run P w= .ok (.value<|.agg vs.toArray) w:=by
 subst E;unfold tg at h;cases hd:P.underlying t with
 | none=>rw [hd] at h; cases h
 | some d=>
   rw [hd] at h;cases d <;> first | (cases h; done) | skip
   rename_i J;simp only [fB] at h;obtain ⟨fd,C,he⟩:=h;cases he;unfold cM at ha;cases hd2:P.underlying fd.type with
   | none=>rw [hd2] at ha; cases ha
   | some d2=>
     rw [hd2] at ha;cases hi:P.info? fd.type with
     | none=>simp [Br,hi] at hd2
     | some i=>
       rw [hi] at ha;have L:cs.toArray.extract fd.offset (fd.offset+n)=((cs.drop fd.offset).take n).toArray:=by simp
       cases d2 <;> first
        | (cases ha; done)
        | (simp only [dg,aY] at ha; subst ha
           simp [execOp,Bf,aR hd,C,I,asAgg,part,isAgg,aR hd2,sizeOf,cJ hi])
end
end Go.Hb
end
section
namespace Go.Hb
theorem Ft (c:UInt8):∀ l:List UInt8,Bn l c=jV c l:=by
 intro l
 induction l with
 | nil=>rfl
 | cons b l ih=>
   unfold Bn;rw [ih];rw [show jV c (b::l)=if (b::l).idxOf c < (b::l).length then ((b::l).idxOf c:Int) else -1 from rfl,List.idxOf_cons];by_cases h:(b==c)=true
   · rw [if_pos h,h]; rfl
   · have E:(b==c)=false :=by simpa using h
     rw [if_neg h,E];simp only [cond_false,bZ];by_cases C:l.idxOf c < l.length
     · have A:jV c l=l.idxOf c:=if_pos C;rw [A,if_neg (fun hb=>by have :=eq_of_beq hb; omega),if_pos ag]; rfl
     · have A:jV c l= -1:=if_neg C;rw [A,if_pos aP,if_neg ag]
theorem Hw {P:ak} {f:dq} {fn:fS} (C:P.funcs[f]? =some fn) (E:(fn.name== "runtime.NumGoroutine")=false) (hb:fn.body.isNone=true) (hn:Extern.findNext fn=none)
 (he:Extern.find fn=some JU) (l:List UInt8) (c:UInt8) (w:ah):(callFunc f #[str l,.int .u8 c.toNat]).run P w= .ok (.value<|.int .i64<|jV c l) w:=by
 rw [run_callFunc_extern C E hb hn he];unfold str;rw [Lib.run_indexByteString];have A:((c.toNat:Int)).toNat.toUInt8=c:=UInt8.toNat_inj.1<|by simp
 rw [A,Ft];rfl
section
variable {P:ak} {N:Fm} {σ:Nat→ab} {w:ah} {dst:Option Nat} {ty:aj} {pos :String} {af:Array bB} {g:Option (Nat×Bool)}
end
end Go.Hb
end
