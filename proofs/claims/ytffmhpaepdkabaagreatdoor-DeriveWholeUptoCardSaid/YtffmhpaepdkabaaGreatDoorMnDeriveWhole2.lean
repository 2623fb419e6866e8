/-
  Walks and plain laws that the law rests on, laid together. No conditions but those that each theorem names.
-/
import Derived.Test.YtffmhpaepdkabaaGreatDoorMnDeriveWhole1
set_option linter.unusedVariables false
set_option maxRecDepth 20000
set_option maxHeartbeats 1000000
open Array renaming foldl_toList→yW,getElem?_eq_some_iff→cg,getElem?_setIfInBounds_ne→E9,getElem?_setIfInBounds_self_of_lt→Fa,length_toList→r8,range→m9,replicate→ql,toArray_toList→uK,toList_inj→uL,toList_map→kJ,toList_zip→Fb
open Bool renaming and_eq_true→fi,noConfusion→c8,or_eq_false_iff→nW
open Except.ok renaming injEq→oR
open Go.Act renaming put_comm→oS
open Go.Calls renaming mono→kf
open Go.CallsD renaming mono→Fj
open Go.CallsIn renaming mono→y3
open Go.Code renaming wp_mono→Fk
open Go.Deferred renaming ofValue→nX
open Go.Extern.BytealgCount renaming count→Sd
open Go.Extern.BytealgIndexByte renaming indexByte→Se
open Go.Extern renaming find→Fs,findNext→Ft
open Go.Fence renaming wide→gd
open Go.Instr renaming beginRound→Fv,checkKey→qn,field→Fw,fill→kK,findKey→uR,findNow→sd,keyThatStays→y5,mapUpdate→y6,sameBits→FA,sameNow→y7,sliceAt→oT,sliceBounds→my,sureAddr→nY,typeAssert→FB
open Go.Lib renaming indexByte→FC,run_clear_slice→FD
open Go.Obj.cells renaming injEq→sg
open Go.Oper renaming semAt_eq→FE,semAt_none→sj,upon→jh,uponIn→nZ,wp→il
open Go.Program renaming underlying→FF
open Go.Proofs.Tryz renaming prog→au
open Go.Region renaming Mode→oV,binds→im,ready→gz
open Go.Result renaming andThen_ok→nd
open Go.RoundIn renaming mono→zf
open Go.Rows renaming mono→zg
open Go.RowsIn renaming mono→zh
open Go.Sem renaming run→uU,run_bind→ng,run_pure→n2
open Go.Value renaming agg→bl,oneCell'→eH,ownBlock→gh,pointer→uW,slice→bz
open Go.Value.slice renaming injEq→lg
open Go.World renaming alloc_heap_new→uX,frozen?→FM,ownsRow→bm,putObj→FN,putObj_heap_other→mA,putObj_heap_same→uY,setCell→uZ,size_alloc→FO
open List.Pairwise renaming filter→Sf,imp→Sg
open List renaming append_nil→dS,eq_nil_of_length_eq_zero→gi,ext_getElem?→ni,filterMap_cons→vb,flatMap_cons→iH,flatMap_map→FX,flatMap_nil→FY,foldl_cons→qv,getD_cons_succ→FZ,getD_cons_zero→lR,getD_eq_getElem?_getD→cO,getElem?_append_left→lh,getElem?_append_right→lS,getElem?_cons_zero→vc,getElem?_eq_getElem→cx,getElem?_eq_some_iff→eI,getElem?_map→fU,getElem?_of_mem→zu,getElem?_set→jx,getElem?_toArray→F3,length_append→bF,length_cons→bT,length_drop→fI,length_filter_le→vg,length_map→eJ,length_nil→gj,length_replicate→lU,length_take→dT,mapM_toArray→sA,map_append→iK,map_cons→nk,mem_append→mC,mem_cons→eK,mem_cons_of_mem→n7,mem_cons_self→oY,mem_flatMap→vk,mem_map→mD,mem_of_getElem?→iL,mem_or_eq_of_mem_set→zx,mem_range→sD,mem_singleton→lj,nil_append→kN,nodup_append→zy,not_mem_nil→sE,pairwise_lt_range→Gc,pairwise_map→Gd,range→gB,replicate→ir,size_toArray→lV,take_append→sG,take_of_length_le→eL,take_take→Gh,take_zero→nn,toArray→aY,zipIdx_cons→vm
open Nat renaming ble→lk,blt→eU,le_of_ble_eq_true→n8,le_refl→bX,le_trans→eV,min_eq_left→mE,mul_le_mul_right→qB,mul_one→qC,succ_mul→np,zero_le→o3
open Option renaming bind_some→nq,map_eq_some_iff→nu,map_some→kh
open Option.some renaming inj→qD,injEq→eM
open Prod renaming fst→kO
open Prod.mk renaming injEq→sI
open UInt8 renaming toNat→Gs,toNat_inj→o4
open Go.Proofs.Tryz
open Go.RowKit
section
set_option linter.unusedSimpArgs false
namespace Go.Hb
open Classical
structure lY (P:Program) (k:TypeId) (isK:Value→Prop):Prop where
 key:sL P k isK
 stays:∀ w v,isK v→(y5 v v).run P w= .ok v w
def gv (v:Value):Prop := ∃ s:List UInt8,v=str s
def mT (q:IntKind) (v:Value):Prop := ∃ a:Int,v= .int q a
theorem BK {d:TypeDesc} {isK:Value→Prop} (hs:∀ x y,isK x→isK y→∃ a,y7 d x y=some a∧(a=true↔x=y)) {x:Value} (A:isK x):∀ (es:List MapEntry) (i:Nat),(∀ e∈es,isK e.key)→
 (sd d x es i=some none∧∀ e∈es,e.key≠x)∨∃ j e,sd d x es i=some (some (i+j,e.val))∧es[j]? =some e∧e.key=x
 | [],i,_=> .inl ⟨rfl,fun _ h=>by simp at h⟩
 | e::es,i,h=>by
   obtain ⟨a,h1,h2⟩:=hs x e.key A<|h e<|by simp
   cases a with
   | true =>exact .inr ⟨0,e,by simp [sd,h1],rfl,(h2.1 rfl).symm⟩
   | false =>
     have E:e.key≠x:=fun C=>by cases h2.2 C.symm
     rcases BK hs A es (i+1) (fun e he=>h e<|by simp [he]) with ⟨h3,h4⟩ | ⟨j,c,h3,h4,h5⟩
     · refine .inl ⟨by simp [sd,h1,h3],fun c q=> ?_⟩
       rcases eK.1 q with rfl | q
       · exact E
       · exact h4 c q
     · refine .inr ⟨j+1,c,?_,h4,h5⟩
       simp only [sd,h1,h3]; rw [show i+1 +j=i+(j+1) from by omega]
theorem CL {P:Program} {k:TypeId} {d:TypeDesc} {isK:Value→Prop} (hk:P.underlying k=some d) (hs:∀ x y,isK x→isK y→∃ a,y7 d x y=some a∧(a=true↔x=y)) (c:∀ em w v,isK v→(qn em 10000 k v).run P w= .ok () w):sL P k isK where
 check:=c
 find w x es hx hes:=by
  rcases BK hs hx es 0 hes with ⟨h1,h2⟩ | ⟨j,e,h1,h2,h3⟩
  · exact .inl ⟨by simp [uR,c7 hk,h1],h2⟩
  · exact .inr ⟨j,e,by simp [uR,c7 hk,h1],h2,h3⟩
theorem z6 (a b:ByteArray):(a==b)=decide (a=b):=by
 rw [Bool.eq_iff_iff,decide_eq_true_iff]
 show ((a.data==b.data)=true)↔_
 rw [beq_iff_eq]
 exact ⟨fun h=>by cases a; cases b; cases h; rfl,fun h=>by rw [h]⟩
theorem Nt {P:Program} {k:TypeId} (hk:P.underlying k=some .string):lY P k gv where
 key:=CL hk (by
  rintro _ _ ⟨a,rfl⟩ ⟨b,rfl⟩
  refine ⟨_,aa,?_⟩
  rw [z6,decide_eq_true_iff]
  constructor
  · intro h; unfold str; rw [h]
  · intro h; unfold str at h; cases h; rfl) (by rintro em w _ ⟨a,rfl⟩; exact IZ (n:=9999) hk w)
 stays w v hv:=by obtain ⟨a,rfl⟩:=hv; simp [y5,FA,str,z6]
theorem IY {P:Program} {k:TypeId} {q r:IntKind} {em:Bool} {n:Nat} {a:Int} (hk:P.underlying k=some (.int q)) (w:World):(qn em (n+1) k<|.int r a).run P w= .ok () w:=by
 simp only [qn,ng,c7 hk,nd,n2]
theorem Ns {P:Program} {k:TypeId} {q r:IntKind} (hk:P.underlying k=some (.int q)):lY P k (mT r) where
 key:=CL hk (by
  rintro _ _ ⟨a,rfl⟩ ⟨b,rfl⟩
  refine ⟨decide (a=b),by simp [y7]; rfl,?_⟩
  rw [decide_eq_true_iff]
  exact ⟨fun h=>by rw [h],fun h=>by cases h; rfl⟩) (by rintro em w _ ⟨a,rfl⟩; exact IY (n:=9999) hk w)
 stays w v hv:=by obtain ⟨a,rfl⟩:=hv; simp [y5,FA]
def bQ (h:Array Obj) (b:Nat) (isK:Value→Prop) (f:Value→Option Value):Prop :=
 ∃ kvs,od h b kvs∧(∀ p∈kvs,isK p.1)∧(kvs.map kO).Nodup∧∀ k v,f k=some v↔(k,v)∈kvs
theorem bQ.md {F:Nat→Prop} {w w':World} {b:Nat} {isK:Value→Prop} {f:Value→Option Value} (h:bQ w.heap b isK f) (hm:Md F w w') (a:¬F b):bQ w'.heap b isK f:=
 let ⟨kvs,h1,h2⟩:=h; ⟨kvs,h1.md hm a,h2⟩
theorem bQ.wk {w w':World} {b:Nat} {isK:Value→Prop} {f:Value→Option Value} (h:bQ w.heap b isK f) (hm:Wk w w'):bQ w'.heap b isK f:=h.md hm id
theorem bQ.nil {h:Array Obj} {b:Nat} {isK:Value→Prop} {c:Nat} (hm:h[b]? =some (.map #[] c)):bQ h b isK fun _=>none:=
 ⟨[],⟨_,_,hm,rfl⟩,fun p hp=>(by simp at hp),(by simp),fun k v=>by simp⟩
theorem bQ.isMap {h:Array Obj} {b:Nat} {isK:Value→Prop} {f:Value→Option Value} (hm:bQ h b isK f):∃ es c,h[b]? =some (.map es c):=let ⟨_,⟨es,c,h1,_⟩,_⟩:=hm; ⟨es,c,h1⟩
theorem bQ.mX {h:Array Obj} {b:Nat} {isK:Value→Prop} {f:Value→Option Value} (hm:bQ h b isK f) {cur:Array Value} {e:TypeId} {z:Nat×Nat} :h[b]?≠some (.cells cur e z):=by
 obtain ⟨es,c,h1⟩:=hm.isMap; rw [h1]; intro h; cases h
noncomputable def bw (f:Value→Option Value) (k v:Value):Value→Option Value:=fun q=>if q=k then some v else f q
theorem rL (f:Value→Option Value) (k v:Value):bw f k v k=some v:=if_pos rfl
theorem pZ {f:Value→Option Value} {k v q:Value} (h:q≠k):bw f k v q=f q:=if_neg h
section
variable {P:Program} {N:Fm} {σ:Nat→Value} {w:World} {dst:Option Nat} {ty:TypeId} {pos :String} {af:Array Edge} {g:Option (Nat×Bool)} {x y z:Operand} {K:(Nat→Value)→World→Prop}
variable {t k e:TypeId} {isK:Value→Prop} {b:Nat} {f:Value→Option Value} {kx v zv:Value}
theorem CZ {ok:Bool} (i:P.underlying t=some (.map k e)) (C:zeroV P e=some zv) (c:lY P k isK) (hm:bQ w.heap b isK f) (q:ev N σ x= .map (some b)) (A:ev N σ y=kx) (hi:isK kx):
 (execOp (ev N σ) ⟨dst,.lookup t x y ok,ty,pos,af,g⟩).run P w= .ok (.value (if ok then .tuple #[(f kx).getD zv,.bool (f kx).isSome] else (f kx).getD zv)) w:=by
 obtain ⟨kvs,h1,h2,h3,h4⟩:=hm
 cases hf:f kx with
 | none=>exact NO i C c.key h1 h2 q A hi fun v a=>by rw [← h4] at a; rw [hf] at a; cases a
 | some v=>exact NN i c.key h1 h2 q A hi h3<|(h4 kx v).1 hf
theorem me (c:P.underlying t=some (.map k e)) (C:zeroV P e=some zv) (a:lY P k isK) (hm:bQ w.heap b isK f) (q:ev N σ x= .map (some b)) (A:ev N σ y=kx) (hi:isK kx) (i:(f kx).getD zv=v):
 (execOp (ev N σ) ⟨dst,.lookup t x y false,ty,pos,af,g⟩).run P w= .ok (.value v) w:=by
 rw [CZ c C a hm q A hi,i]; rfl
theorem C0 {ob:Bool} (i:P.underlying t=some (.map k e)) (E:zeroV P e=some zv) (a:lY P k isK) (hm:bQ w.heap b isK f) (A:ev N σ x= .map (some b)) (C:ev N σ y=kx) (hi:isK kx) (q:(f kx).getD zv=v) (c:(f kx).isSome=ob):
 (execOp (ev N σ) ⟨dst,.lookup t x y true,ty,pos,af,g⟩).run P w= .ok (.value<|.tuple #[v,.bool ob]) w:=by
 rw [CZ i E a hm A C hi,q,c]; rfl
theorem EH (ad:P.underlying t=some (.map k e)) (M:lY P k isK) (hm:bQ w.heap b isK f) (hi:isK kx):
 ∃ w',(y6 t (.map<|some b) kx v).run P w= .ok () w'∧Md (fun j=>j=b) w w'∧bQ w'.heap b isK (bw f kx v):=by
 obtain ⟨kvs,⟨es,c,J,he⟩,h2,h3,h4⟩:=hm
 have V:=(cg.1 J).1
 rcases M.key.find w kx es.toList hi (wW he h2) with ⟨h1,am⟩ | ⟨j,U,h1,E,h5⟩
 · have ac:∀ u,(kx,u)∉kvs:=fun u hu=>by
    rw [← he] at hu
    obtain ⟨ae,aj,ag⟩:=mD.1 hu
    cases ag
    exact am ae aj aa
   refine ⟨{w with heap:=w.heap.setIfInBounds b<|.map (es.push {key:=kx,val:=v,born:=c})<|c+1},by simp [y6,c7 ad,run_getObj_map J,M.key.check _ w kx hi,h1,setObj,uU,J],⟨aa,aa,by simp,fun i _ G=>by simp only; rw [E9 (fun e=>G e.symm)]⟩,kvs++ [(kx,v)],⟨_,_,by simp only; rw [Fa V],by simp [he]⟩,?_,?_,?_⟩
   · intro p hp
     rcases mC.1 hp with hp | hp
     · exact h2 p hp
     · rw [lj.1 hp]; exact hi
   · rw [iK,zy]
     refine ⟨h3,by simp,?_⟩
     intro a ah ao Y ai
     simp at Y
     subst ai Y
     obtain ⟨p,hp,an⟩:=mD.1 ah
     exact ac p.2<|by rw [← an]; exact hp
   · intro q u
     unfold bw
     rw [mC,lj]
     by_cases C:q=kx
     · subst C
       rw [if_pos rfl]
       constructor
       · intro h; cases h; exact .inr rfl
       · rintro (h | h)
         · exact absurd h<|ac u
         · cases h; rfl
     · rw [if_neg C,h4]
       constructor
       · exact .inl
       · rintro (h | h)
         · exact h
         · cases h; exact absurd rfl C
 · have ap:j < es.size:=by have :=(eI.1 E).1; simpa using this
   have Z:es[j]? =some U:=by simpa using E
   refine ⟨{w with heap:=w.heap.setIfInBounds b<|.map (es.modify j fun e=> {e with key:=kx,val:=v}) c},?_,⟨aa,aa,by simp,fun i _ G=>by simp only; rw [E9 (fun e=>G e.symm)]⟩,kvs.set j (kx,v),⟨_,_,by simp only; rw [Fa V],?_⟩,?_,?_,?_⟩
   · have hs:=M.stays w kx hi
     simp [y6,c7 ad,run_getObj_map J,M.key.check _ w kx hi,h1,Z,h5,hs,setObj,uU,J]
   · rw [← he]
     apply ni
     intro i
     simp only [Array.toList_modify,fU,List.getElem?_modify,jx,eJ]
     by_cases I:j=i
     · subst I; rw [E]; simp; have :=(eI.1 E).1; simpa using this
     · simp [I]
   · intro p hp
     rcases zx hp with hp | hp
     · exact h2 p hp
     · rw [hp]; exact hi
   · have :(kvs.set j (kx,v)).map kO=kvs.map kO:=by
      apply ni
      intro i
      simp only [fU,jx]
      by_cases I:j=i
      · subst I
        rw [← he]; simp only [fU,E,eJ]
        have :=(eI.1 E).1
        simp [this,h5]
        simpa using this
      · simp [I]
     rw [this]; exact h3
   · intro q u
     have O:kvs[j]? =some (kx,U.val):=by rw [← he]; simp [E,h5,Z]
     have ab:=(eI.1 O).1
     have al:(kx,v)∈kvs.set j (kx,v):=iL (i:=j)<|by rw [jx,if_pos rfl,if_pos ab]
     unfold bw
     by_cases C:q=kx
     · subst C
       rw [if_pos rfl]
       constructor
       · intro h; cases h; exact al
       · intro h
         obtain ⟨i,A⟩:=zu h
         rw [jx] at A
         split at A
         · rename_i ak
           subst ak
           cases A; rfl
         · rename_i G
           exfalso
           exact G<|(List.getElem?_inj (i:=j) (j:=i) (by simpa using ab) h3).1<|by simp [O,A]
     · rw [if_neg C,h4]
       constructor
       · intro h
         obtain ⟨i,A⟩:=zu h
         have G:j≠i:=by rintro rfl; rw [O] at A; cases A; exact C rfl
         exact iL (i:=i)<|by rw [jx,if_neg G]; exact A
       · intro h
         rcases zx h with h | h
         · exact h
         · cases h; exact absurd rfl C
theorem qd (i:P.underlying t=some (.map k e)) (a:lY P k isK) (hm:bQ w.heap b isK f) (q:ev N σ x= .map (some b)) (A:ev N σ y=kx) (C:ev N σ z=v) (hi:isK kx)
 (E:∀ w',Md (fun j=>j=b) w w'→bQ w'.heap b isK (bw f kx v)→K σ w'):cA P N ⟨none,.mapUpdate t x y z,ty,pos,af,g⟩ σ w K:=by
 obtain ⟨w',h1,h2,h3⟩:=EH (v:=v) i a hm hi
 have c:(execOp (ev N σ) ⟨none,.mapUpdate t x y z,ty,pos,af,g⟩).run P w= .ok .skip w':=by
  simp [execOp,q,A,C,h1]
 unfold cA il
 rw [fq,c]
 exact ⟨σ,aa,E w' h2 h3⟩
theorem kz (i:P.underlying t=some (.map k e)) (a:lY P k isK) (hm:bQ w.heap b isK f) (q:ev N σ x= .map (some b)) (A:ev N σ y=kx) (C:ev N σ z=v) (hi:isK kx)
 (E:∀ w',Md (fun j=>j=b) w w'→bQ w'.heap b isK (bw f kx v)→K σ w'):cA P N ⟨none,.insert t x y z,ty,pos,af,g⟩ σ w K:=by
 obtain ⟨w',h1,h2,h3⟩:=EH (v:=v) i a hm hi
 have c:(execOp (ev N σ) ⟨none,.insert t x y z,ty,pos,af,g⟩).run P w= .ok .skip w':=by
  simp [execOp,q,A,C,h1]
 unfold cA il
 rw [fq,c]
 exact ⟨σ,aa,E w' h2 h3⟩
end
end Go.Hb
end
section
namespace Go.Hb
section
variable {P:Program} {N:Fm} {σ:Nat→Value} {w:World} {fn:Func} {R:Value→World→Prop}
theorem NW {t b off :Nat} {v:Value} (hu:cH P t=some none) (a:Hb.aH w.heap b off =some v):(loadVar t ⟨b,off,none⟩).run P w= .ok v w:=by
 have c:w.cell? ⟨b,off,none⟩=some v:=by rw [lA]; exact a
 unfold cH at hu
 cases hd:P.underlying t with
 | none=>rw [hd] at hu; cases hu
 | some d=>
   rw [hd] at hu
   cases d <;> first
    | (simp only [nu] at hu; obtain ⟨_,_,h⟩:=hu; cases h; done)
    | simp [loadVar,isAgg,c7 hd,run_load,c]
theorem NX {t n b off :Nat} {cs:List Value} (hu:cH P t=some (some n)) (A:cs.length=n) (c:∀ j,j < n→Hb.aH w.heap b (off+j)=cs[j]?):(loadVar t ⟨b,off,none⟩).run P w= .ok (.agg cs.toArray) w:=by
 have q:(loadCells ⟨b,off,none⟩ n).run P w= .ok cs.toArray w:=by
  subst A
  refine run_loadCells_list (P:=P) w ⟨b,off,none⟩ cs fun j v a=> ?_
  rw [kn,lA]
  exact (c j (eI.1 a).1).trans a
 unfold cH at hu
 cases hd:P.underlying t with
 | none=>rw [hd] at hu; cases hu
 | some d=>
   rw [hd] at hu
   cases hi:P.info? t with
   | none=>simp [FF,hi] at hd
   | some i=>
     rw [hi] at hu
     cases d <;> first
      | (cases hu; done)
      | (simp only [kh,eM] at hu; subst hu
         simp [loadVar,isAgg,c7 hd,sizeOf,fR hi,q])
def lu (P:Program) (N:Fm) (σ:Nat→Value) (w:World):ResultVar→Value→Prop
 | .tmp t,v=>ev N σ (.tmp t)=v
 | .cell a t,v=> ∃ ad,ev N σ (.tmp a)= .pointer (some ad)∧(loadVar t ad).run P w= .ok v w
theorem dR {t:Tmp} :lu P N σ w (.tmp t) (ev N σ<|.tmp t):=rfl
theorem yw {a t b off :Nat} {v:Value} (i:ev N σ (.tmp a)= .pointer (some ⟨b,off,none⟩)) (hu:cH P t=some none) (c:Hb.aH w.heap b off =some v):lu P N σ w (.cell a t) v:=⟨_,i,NW hu c⟩
theorem dy {a t n b off :Nat} {cs:List Value} (q:ev N σ (.tmp a)= .pointer (some ⟨b,off,none⟩)) (hu:cH P t=some (some n)) (i:cs.length=n) (c:∀ j,j < n→Hb.aH w.heap b (off+j)=cs[j]?):lu P N σ w (.cell a t) (.agg cs.toArray):=⟨_,q,NX hu i c⟩
def mj (tmps:Array Value):ResultVar→Sem Value
 | .tmp t=>pure<|tmps.getD t undef
 | .cell a t=>do loadVar t (← asAddr (tmps.getD a undef))
theorem k5 {r:ResultVar} {v:Value} (h:lu P N σ w r v):(mj (act N σ).tmps r).run P w= .ok v w:=by
 cases r with
 | tmp t=>
   show uU P (pure<|(act N σ).tmps.getD t undef) w=_
   rw [kI]; simp only [lu] at h; rw [h]; rfl
 | cell a t=>
   obtain ⟨ad,h1,h2⟩:=h
   show uU P (do loadVar t (← asAddr ((act N σ).tmps.getD a undef))) w=_
   rw [kI,h1]
   simp [asAddr,h2]
theorem PN {tmps:Array Value} {r:ResultVar} {v:Value} (h:fn.results= #[r]) (h1:(mj tmps r).run P w= .ok v w):(results fn tmps).run P w= .ok v w:=by
 have a:(results fn tmps)=(do let vs ← #[r].mapM (mj tmps); pure (if h:vs.size=1 then vs[0] else .tuple vs)):=by
  unfold results; rw [h]; rfl
 rw [a]; simp [sA,h1]
theorem tY {tmps:Array Value} {r s:ResultVar} {v u:Value} (h:fn.results= #[r,s]) (h1:(mj tmps r).run P w= .ok v w) (h2:(mj tmps s).run P w= .ok u w):(results fn tmps).run P w= .ok (.tuple #[v,u]) w:=by
 have a:(results fn tmps)=(do let vs ← #[r,s].mapM (mj tmps); pure (if h:vs.size=1 then vs[0] else .tuple vs)):=by
  unfold results; rw [h]; rfl
 rw [a]; simp [sA,h1,h2]
theorem PO {tmps:Array Value} {r s q:ResultVar} {v u z:Value} (h:fn.results= #[r,s,q]) (h1:(mj tmps r).run P w= .ok v w) (h2:(mj tmps s).run P w= .ok u w) (h3:(mj tmps q).run P w= .ok z w):(results fn tmps).run P w= .ok (.tuple #[v,u,z]) w:=by
 have a:(results fn tmps)=(do let vs ← #[r,s,q].mapM (mj tmps); pure (if h:vs.size=1 then vs[0] else .tuple vs)):=by
  unfold results; rw [h]; rfl
 rw [a]; simp [sA,h1,h2,h3]
theorem q8 {r:ResultVar} {v:Value} (h:fn.results= #[r]) (h1:lu P N σ w r v) (a:R v w):fin P fn N R .ret σ w:=⟨v,PN h (k5 h1),a⟩
theorem eo {r s:ResultVar} {v u:Value} (h:fn.results= #[r,s]) (h1:lu P N σ w r v) (h2:lu P N σ w s u) (a:R (.tuple #[v,u]) w):fin P fn N R .ret σ w:=⟨_,tY h (k5 h1) (k5 h2),a⟩
theorem BB {r s q:ResultVar} {v u z:Value} (h:fn.results= #[r,s,q]) (h1:lu P N σ w r v) (h2:lu P N σ w s u) (h3:lu P N σ w q z) (a:R (.tuple #[v,u,z]) w):fin P fn N R .ret σ w:=⟨_,PO h (k5 h1) (k5 h2) (k5 h3),a⟩
end
end Go.Hb
end
section
namespace Go.Hb
def lL (P:Program) (N:Fm) (c:Code) (B:Exit→Act→World→Prop) (σ:Nat→Value) (w:World):Prop :=c.wpIn (fe N.r) 0 P B (act N σ) w
def qb (N:Fm) (B:Exit→Act→World→Prop):Exit→(Nat→Value)→World→Prop :=fun e σ w=>B e (act N σ) w
section
variable {P:Program} {N:Fm} {B:Exit→Act→World→Prop} {σ:Nat→Value} {w:World}
theorem ek {x y:Code} (h:lL P N x (Exit.then (y.wpIn (fe N.r) 0 P B) B) σ w):lL P N (.seq x y) B σ w:=wpIn_seq h
theorem ej {y:Code} (h:lL P N y B σ w):qb N (Exit.then (y.wpIn (fe N.r) 0 P B) B) .normal σ w:=h
theorem prt {y:Act→World→Prop} (h:qb N B .ret σ w):qb N (Exit.then y B) .ret σ w:=h
theorem rQ (h:qb N B .ret σ w):lL P N .ret B σ w:=wpIn_ret h
theorem eS {c:Code} (h:cB P N c (qb N B) σ w):lL P N c B σ w:=by
 unfold cB at h
 refine wpIn_mono h ?_
 intro e a w i
 cases e with
 | panic c=>obtain ⟨σ,rfl,q⟩:=i; exact q σ fun _ _=>rfl
 | outgrown=>exact i.elim
 | _=>obtain ⟨σ,rfl,q⟩:=i; exact q
end
theorem ud (fn:Func) (args:List Value) (F:List Nat) (hn:lk args.length fn.ntmps=true):({tmps:=args.toArray++ql (fn.ntmps - args.toArray.size) undef,defers:= []} :Act)=act ⟨fn.ntmps,[],F,none⟩ (kG args):=by
 have a:args.length≤fn.ntmps:=by simpa using hn
 refine sP aa fun i=> ?_
 rw [mK]
 simp only [kG,cO,lV]
 by_cases h1:i < args.length
 · rw [Array.getElem?_append_left (by simpa using h1),if_pos ab]
   simp [h1]
 · rw [Array.getElem?_append_right (by simpa using h1)]
   simp only [lV,Array.getElem?_replicate]
   by_cases h2:i < fn.ntmps
   · rw [if_pos ab,if_pos h2,List.getElem?_eq_none ab]; rfl
   · rw [if_neg ab,if_neg h2]
abbrev Bm (P:Program) (fn:Func) (R:Value→World→Prop):Exit→Act→World→Prop :=bodyPostM gd 0 P fn (fun e w'=> ∃ v,e= .returned v∧R v w')
theorem wS {P:Program} {f:FuncId} {N:Nat} {fn:Func} {c:Code} {args:List Value} {w:World} {R:Value→World→Prop} (F:List Nat) (q:P.funcs[f]? =some fn) (i:fn.body=some c)
 (a:fn.ntmps=N) (hn:lk args.length N=true) (h:lL P ⟨N,[],F,none⟩ c (Bm P fn R) (kG args) w):ba P f args.toArray w R:=by
 subst a
 refine callsIn_wide.1<|callsIn_of_wp_marks (F:=gd) (n:=0) q i trivial ?_
 rw [ud fn args F hn]
 exact h
section
variable {P:Program} {n:Nat} {F:List Nat} {σ:Nat→Value} {w:World} {fn:Func} {R:Value→World→Prop}
theorem CR {e:Exit} (he:e= .ret∨e= .normal) {v:Value} (c:(results fn (act ⟨n,[],F,none⟩ σ).tmps).run P w= .ok v w) (a:R v w):qb ⟨n,[],F,none⟩ (Bm P fn R) e σ w:=by
 rcases he with rfl | rfl <;> exact ⟨v,c,v,rfl,a⟩
theorem Lu {t:Nat} {v:Value} (h:fn.results= #[.tmp t]) (c:ev ⟨n,[],F,none⟩ σ (.tmp t)=v) (a:R v w):qb ⟨n,[],F,none⟩ (Bm P fn R) .ret σ w:=
 CR (.inl rfl) (by rw [results_tmp h,kI,c]) a
theorem Bz {t u:Nat} {v a:Value} (h:fn.results= #[.tmp t,.tmp u]) (i:ev ⟨n,[],F,none⟩ σ (.tmp t)=v) (hu:ev ⟨n,[],F,none⟩ σ (.tmp u)=a) (c:R (.tuple #[v,a]) w):qb ⟨n,[],F,none⟩ (Bm P fn R) .ret σ w:=
 CR (.inl rfl) (by rw [results_tmp2 h,kI,kI,i,hu]) c
theorem CS {D:Nat} {v:Value} (a:w.heap[D]? =some (.deferred<|some [])) (i:∀ w',(results fn (act ⟨n,[{target:= .collected D,args:= #[]}],F,none⟩ σ).tmps).run P w'= .ok v w') (c:R v (w.putObj D<|.deferred none)):
 qb ⟨n,[{target:= .collected D,args:= #[]}],F,none⟩ (Bm P fn R) .ret σ w:=
 ⟨FrameMode.noConfusion,.inl ⟨_,_,rfl,run_takeDeferred a,⟨v,i _,v,rfl,c⟩⟩⟩
theorem By {D t:Nat} {v:Value} (h:fn.results= #[.tmp t]) (i:ev ⟨n,[{target:= .collected D,args:= #[]}],F,none⟩ σ (.tmp t)=v) (a:w.heap[D]? =some (.deferred<|some [])) (c:R v (w.putObj D<|.deferred none)):
 qb ⟨n,[{target:= .collected D,args:= #[]}],F,none⟩ (Bm P fn R) .ret σ w:=
 CS a (fun w'=>by rw [results_tmp h,kI,i]) c
theorem BA {D t u:Nat} {v a:Value} (h:fn.results= #[.tmp t,.tmp u]) (q:ev ⟨n,[{target:= .collected D,args:= #[]}],F,none⟩ σ (.tmp t)=v) (hu:ev ⟨n,[{target:= .collected D,args:= #[]}],F,none⟩ σ (.tmp u)=a)
 (c:w.heap[D]? =some (.deferred<|some [])) (i:R (.tuple #[v,a]) (w.putObj D<|.deferred none)):qb ⟨n,[{target:= .collected D,args:= #[]}],F,none⟩ (Bm P fn R) .ret σ w:=
 CS c (fun w'=>by rw [results_tmp2 h,kI,kI,q,hu]) i
end
theorem dp {w:World} {B t size n pp a:Nat} {v:Value} {xs:List Value} {cs:Array Value} {z:Nat×Nat} (h:w.ownsRow B t size v n xs) (hp:w.heap[pp]? =some (.cells cs a z)) (i:t≠a):v.ownBlock≠some pp:=by
 intro hk
 rcases h.2 with ⟨h1,_⟩ | ⟨g,cap,cur,h1,_,c,_⟩
 · rw [h1] at hk; simp [gh] at hk
 · rw [h1] at hk
   simp only [gh,eM] at hk
   subst hk
   rw [c] at hp
   simp only [eM,sg] at hp
   exact i hp.2.1
section
variable {P:Program} {N:Fm} {σ:Nat→Value} {w:World} {dst:Option Nat} {ty:TypeId} {pos :String} {af:Array Edge} {g:Option (Nat×Bool)} {x:Operand} {K:(Nat→Value)→World→Prop}
theorem sY {e:TypeId} {v:Value} (a:ev N σ x=v) (h1:v.oneCell'=true) (k:∀ b w',b=w.heap.size→Nw w w'→w'.heap[b]? =some (.cells [v].toArray e (0,0))→K (fA σ dst<|.pointer<|some ⟨b,0,none⟩) w'):
 cA P N ⟨dst,.box e x,ty,pos,af,g⟩ σ w K:=by
 refine lM (v:=fun b=> .pointer<|some ⟨b,0,none⟩) (ob:= .cells [v].toArray e (0,0)) ?_ k
 have :=nK h1
 simp [execOp,Instr.box,a,this,newVar,newRow]
end
theorem k0 (w:World) (k:Nat) (o:Obj):Md (fun j=>j=k) w (w.putObj k o):=
 ⟨rfl,rfl,by simp [FN],fun j _ a=>mA a⟩
def e6 (w w':World):Prop := ∀ (k:Nat) (o:Obj),w.heap[k]? =some o→(∀ cur e z,o≠.cells cur e z)→w'.heap[k]? =some o
theorem e6.trans {a b c:World} (h:e6 a b) (i:e6 b c):e6 a c:=fun k o q hn=>i k o (h k o q hn) hn
theorem e6.md {F:Nat→Prop} {w w':World} (hm:Md F w w') (i:∀ k,F k→∃ cur e z,w.heap[k]? =some (.cells cur e z)):e6 w w':=fun k o a hn=>by
 rw [hm.dE k (cg.1 a).1 (fun hk=>by obtain ⟨c,e,z,h⟩:=i k hk; rw [a] at h; exact hn _ _ _<|qD h)]; exact a
theorem e6.wk {w w':World} (hm:Wk w w'):e6 w w':=e6.md hm fun _ h=>h.elim
theorem mY {w:World} {B e size n:Nat} {v:Value} {xs:List Value} (h:w.ownsRow B e size v n xs):∀ k,v.ownBlock=some k→∃ cur e z,w.heap[k]? =some (.cells cur e z):=by
 intro k hk
 rcases h.2 with ⟨rfl,_⟩ | ⟨g,cap,c,rfl,_,a,_⟩
 · simp [gh] at hk
 · simp only [gh,eM] at hk; subst hk; exact ⟨_,_,_,a⟩
def GC {α:Type} (B:Nat) (a:List α→World→Prop):Prop := ∀ pre W W' (F:Nat→Prop),a pre W→Md F W W'→(∀ k,F k→B≤k∧∀ cur e z,W.heap[k]?≠some (.cells cur e z))→a pre W'
section
variable {F:Nat→Prop} {W W':World} {B:Nat}
theorem ur {b e:Nat} {cs:Array Value} {z:Nat×Nat} (h:W.heap[b]? =some (.cells cs e z)) (hm:Md F W W') (a:∀ k,F k→B≤k∧∀ cur e z,W.heap[k]?≠some (.cells cur e z)):W'.heap[b]? =some (.cells cs e z):=by
 rw [hm.dE b (cg.1 h).1 (fun hk=>(a b hk).2 _ _ _ h)]; exact h
theorem Ec {B' e size n:Nat} {v:Value} {xs:List Value} (h:W.ownsRow B' e size v n xs) (hm:Md F W W') (a:∀ k,F k→B≤k∧∀ cur e z,W.heap[k]?≠some (.cells cur e z)):W'.ownsRow B' e size v n xs:=
 bZ h hm fun k hk i=>by obtain ⟨c,e,z,h1⟩:=mY h k hk; exact (a k i).2 _ _ _ h1
theorem Ed {w:World} (h:Wk w W) (hm:Md F W W') (i:w.heap.size≤B) (a:∀ k,F k→B≤k∧∀ cur e z,W.heap[k]?≠some (.cells cur e z)):Wk w W':=Md.trans' h hm fun k hk c=>by have :=(a k c).1; omega
end
def zE {α:Type} (P:Program) (C:Nat) (E:Array Value) (A:α→Array Value) (xs:List α) (q:World→Prop):Prop :=
 ∀ (l:Nat) (a:List α→World→Prop) (W:World),a [] W→(∀ pre W,a pre W→q W)→(∀ pre c i,a pre c→Wk c i→a pre i)→
   (∀ pre x rest c,xs=pre++x::rest→a pre c→YieldAt gd 0 P l (A x) c fun e W'=>e= .returned (.bool true)∧a (pre++ [x]) W')→
   Calls P C (#[.func (.yield l) #[] #[]]++E) W fun e W'=>(∃ v,e= .returned v)∧a xs W'
def PI (R:World→Prop):Exit→(Nat→Value)→World→Prop
 | .normal,_,w=>R w
 | _,_,_=>False
theorem zJ (N:Fm):∀ (l:List (Tmp×Value)) (σ:Nat→Value),l.foldl (fun t p=>t.setIfInBounds p.1 p.2) (act N σ).tmps=(act N<|l.foldl (fun s p=>cz s p.1 p.2) σ).tmps:=by
 intro l
 induction l with
 | nil=>intro σ; rfl
 | cons p l a=>
   intro σ
   rw [qv,qv,← a]
   congr 1
   have :=congrArg Act.tmps<|hZ N σ (some p.1) p.2
   exact this
theorem DN {α:Type} {P:Program} {id n:Nat} {g:Operand} {ps:Array Tmp} {Y body:Code} {Fx:List Nat} {σ:Nat→Value} {w:World} {B:Exit→Act→World→Prop} {U:Nat} {V:Array Value}
 (J:α→Array Value) (xs:List α) (ah:World→Prop) (i:List α→World→Prop) (aB:ev ⟨n,[],Fx,none⟩ σ g= .func (.func U) #[] V) (ay:a8 P U) (aI:∀ x,(J x).size=ps.size)
 (aD:zE P U V J xs ah) (aq:i [] w) (az:∀ pre W,i pre W→ah W) (Z:GC w.heap.size i) (an:α→Nat→Value)
 (aw:∀ (l:Nat) (x:α) (W:World) (K:(Nat→Value)→World→Prop),K (an x) W→cB P ⟨n,[],[],some l⟩ Y (jT K fun _ _ _=>False) ((ps.toList.zip (J x).toList).foldl (fun s p=>cz s p.1 p.2) σ) W)
 (ax:∀ (l:Nat) (pre:List α) (x:α) (rest:List α) (W:World),xs=pre++x::rest→i pre W→cB P ⟨n,[],[],some l⟩ body (PI fun W'=>e6 W W'∧i (pre++ [x]) W') (an x) W)
 (hd:∀ (D:Nat) (W:World),w.heap.size≤D→i xs W→W.heap[D]? =some (.deferred<|some [])→qb ⟨n,[{target:= .collected D,args:= #[]}],Fx,none⟩ B .normal σ W):
 lL P ⟨n,[],Fx,none⟩ (.block id<|.rangeFunc g ps Y body) B σ w:=by
 refine wpIn_block<|wpIn_rangeFunc ?_
 intro fn _
 obtain ⟨rc,O⟩:∃ rc:LoopState→Option Code→Loop,rc=fun st aL=> {state:=st,pending:=aL,fn,tmps:=(act ⟨n,[],Fx,none⟩ σ).tmps,params:=ps,assign:=Y,body,defers:=w.heap.size} :=⟨_,rfl⟩
 obtain ⟨q,ac⟩:∃ q,(w.alloc<|.deferred<|some []).alloc (.loop<|rc .ready none)=q:=⟨_,rfl⟩
 have av:q.heap[w.heap.size+1]? =some (.loop<|rc .ready none):=by
  rw [← ac]; have :=uX (w.alloc<|.deferred<|some []) (.loop<|rc .ready none); rwa [FO] at this
 have au:q.heap[w.heap.size]? =some (.deferred<|some []):=by
  rw [← ac]; exact (Below.heap_alloc _ _ _<|by simp).trans<|uX w _
 have hn:∀ (W:World) (o:Obj),Wk W (W.alloc o):=fun W o=>(ya W o).md
 have ar:i [] q:=by rw [← ac]; exact Z _ _ _ _ (Z _ _ _ _ aq (hn _ _) fun _ h=>h.elim) (hn _ _) fun _ h=>h.elim
 have aA:(act ⟨n,[],Fx,none⟩ σ).eval g= .func (.func U) #[] V:=by rw [fq]; exact aB
 refine ⟨w.heap.size+1,[{target:= .collected w.heap.size,args:= #[]}],q,{target:= .fn (.func U) V,args:= #[.func (.yield<|w.heap.size+1) #[] #[]]},q,U,
  #[.func (.yield<|w.heap.size+1) #[] #[]]++V,q,?_,?_,fun _ _=>trivial,?_,fun ap=>(by cases ap),?_⟩
 · rw [← ac,O]; exact run_enterLoop_outer _ _ _ _ _
 · simp only [resolve,aA]
   simp [go_sem]
 · have :=ay (#[.func (.yield<|w.heap.size+1) #[] #[]]++V) q
   simp [invoke,go_sem,this]
 · have ae:∀ (pre:List α) (W:World) (o ag:Obj),i pre W→W.heap[w.heap.size+1]? =some o→(∀ cur e z,o≠.cells cur e z)→i pre (W.putObj (w.heap.size+1) ag):=fun pre W o ag h1 h2 h3=>
    Z _ _ _ _ h1 (k0 W _ ag) fun k hk=>⟨ab,fun cur e z h4=>by subst hk; rw [h2] at h4; exact h3 _ _ _<|qD h4⟩
   refine callsIn_wide.2 (kf (aD (w.heap.size+1)
    (fun pre W=>i pre W∧W.heap[w.heap.size+1]? =some (.loop<|rc .ready none)∧W.heap[w.heap.size]? =some (.deferred<|some []))
    q ⟨ar,av,au⟩ (fun pre W h=>az pre W h.1)
    (fun pre A C h hm=>⟨Z _ _ _ _ h.1 hm (fun _ h=>h.elim),(hm.dE _ (cg.1 h.2.1).1 fun h=>h).trans h.2.1,(hm.dE _ (cg.1 h.2.2).1 fun h=>h).trans h.2.2⟩) ?_) ?_)
   · rintro pre x rest W aK ⟨hi,M,hk⟩
     have aH:w.heap.size+1 < W.heap.size:=(cg.1 M).1
     have al:=run_yield (P:=P) (args:=J x) M<|by rw [O]; exact aI x
     rw [O] at al
     refine ⟨fn,_,Y,body,al,roundIn_of_wpIn (F:=gd) trivial ?_⟩
     have aJ:((ps.zip<|J x).foldl (fun tmps (p:Tmp×Value)=>tmps.setIfInBounds p.1 p.2) (act ⟨n,[],Fx,none⟩ σ).tmps)=(act ⟨n,[],[],some<|w.heap.size+1⟩<|(ps.toList.zip (J x).toList).foldl (fun s p=>cz s p.1 p.2) σ).tmps:=by
      rw [← yW,Fb]
      exact zJ ⟨n,[],[],some<|w.heap.size+1⟩ _ σ
     have h1:=aw (w.heap.size+1) x W (fun I W'=> ∃ am,(Fv<|w.heap.size+1).run P W'= .ok () am∧
      body.wpIn (gd.inRound<|w.heap.size+1) 0 P (roundPost P (w.heap.size+1) fun e W'=>e= .returned (.bool true)∧i (pre++ [x]) W'∧W'.heap[w.heap.size+1]? =some (.loop<|rc .ready none)∧W'.heap[w.heap.size]? =some (.deferred<|some [])) (act ⟨n,[],[],some<|w.heap.size+1⟩ I) am) ?_
     · unfold cB at h1
       have ao:({tmps:=(ps.zip<|J x).foldl (fun tmps (p:Tmp×Value)=>tmps.setIfInBounds p.1 p.2) (act ⟨n,[],Fx,none⟩ σ).tmps,defers:= []} :Act)=act ⟨n,[],[],some<|w.heap.size+1⟩ ((ps.toList.zip (J x).toList).foldl (fun s p=>cz s p.1 p.2) σ):=by rw [aJ]; rfl
       rw [ao]
       refine wpIn_mono h1 ?_
       intro e a w' E
       cases e with
       | normal=>obtain ⟨I,rfl,G⟩:=E; exact G
       | panic c=>obtain ⟨I,rfl,G⟩:=E; exact G I fun _ _=>rfl
       | outgrown=>exact E.elim
       | _=>obtain ⟨I,rfl,G⟩:=E; exact G
     refine ⟨_,run_beginRound M (by rw [O]),?_⟩
     have aG:(W.putObj (w.heap.size+1)<|.loop {rc .ready none with state:= .busy}).heap[w.heap.size+1]? =some (.loop {rc .ready none with state:= .busy}):=uY aH
     have aE:(W.putObj (w.heap.size+1)<|.loop {rc .ready none with state:= .busy}).heap[w.heap.size]? =some (.deferred<|some []):=(mA ab).trans hk
     have h2:=ax (w.heap.size+1) pre x rest _ aK<|ae _ _ _ (.loop {rc .ready none with state:= .busy}) hi M fun _ _ _ h=>by cases h
     unfold cB at h2
     refine wpIn_mono h2 ?_
     intro e a aN E
     cases e with
     | normal=>
       obtain ⟨I,rfl,ai,aC⟩:=E
       have ad:=ai _ _ aG fun _ _ _ h=>by cases h
       have aF:=ai _ _ aE fun _ _ _ h=>by cases h
       have aj:=run_endRound (P:=P) none ad
       rw [O] at aj ad ⊢
       exact ⟨_,_,aj,aa,ae _ _ _ _ aC ad (fun _ _ _ h=>by cases h),uY (cg.1 ad).1,(mA ab).trans aF⟩
     | panic c=>obtain ⟨I,rfl,G⟩:=E; exact (G I fun _ _=>rfl).elim
     | outgrown=>exact E.elim
     | _=>obtain ⟨I,rfl,G⟩:=E; exact G.elim
   · rintro e aM ⟨⟨v,rfl⟩,hi,M,hk⟩
     have ak:=run_endLoop (P:=P) M<|by rw [O]; simp
     rw [O] at ak
     refine ⟨none,_,ak,?_⟩
     rw [O] at M
     exact hd w.heap.size _ (bX _) (ae _ _ _ _ hi M fun _ _ _ h=>by cases h)<|(mA ab).trans hk
section
variable {P:Program} {N:Fm} {ops:Array Oper} {Q:Exit→(Nat→Value)→World→Prop} {rest:List Oper} {σ:Nat→Value} {w:World} {d':Option Nat} {d:Nat} {op:Op} {ty:TypeId} {pos :String} {af:Array Edge} {v:Value}
def mo (P:Program) (N:Fm) (ops:Array Oper) (Q:Exit→(Nat→Value)→World→Prop) (l:List Oper) (σ:Nat→Value) (w:World):Prop :=wpListIn (fe N.r) 0 P ops (lift N Q) l (act N σ) w
theorem PG {id:Nat} {l:List Oper} (h:mo P N l.toArray Q l σ w):cB P N (.region id l.toArray false) Q σ w:=by
 unfold cB; exact wpIn_region_lit h
theorem Ow (h:Q .normal σ w):mo P N ops Q [] σ w:=⟨σ,rfl,h⟩
def x6 (o:Op):Bool:=match o with | .defer _=>false | _=>true
theorem Oy {o:Op} (h:x6 o=true):∀ c,o≠.defer c:=fun c e=>by subst e; cases h
theorem ey (hn:x6 op=true) (h:cA P N ⟨d',op,ty,pos,af,none⟩ σ w (fun σ w=>mo P N ops Q rest σ w)):mo P N ops Q (⟨d',op,ty,pos,af,none⟩::rest) σ w:=by
 unfold mo wpListIn
 rw [if_pos (gZ _ rfl _)]
 refine ⟨fun f _=>tB _ f,?_⟩
 rw [xc,FE _ _ _ (Oy hn)]
 unfold cA il at h
 generalize (execOp (act N σ).eval ⟨d',op,ty,pos,af,none⟩).run P w=x at h ⊢
 cases x with
 | ok n w'=>
   cases n <;> simp only [jh,nZ] at h ⊢ <;>
    first
     | (obtain ⟨q,i,hk⟩:=h; rw [i]; exact hk)
     | (refine ⟨fun a=>(by rw [q9] at a; cases a),y3 (BC h) fun e w'' he=> ?_⟩
        cases e with
        | returned v=>obtain ⟨q,i,hk⟩:=he; simp only; rw [i]; exact hk
        | panicked c=>exact he.elim
        | outgrown=>obtain ⟨_,_,A⟩:=he; exact A.elim)
     | (refine ⟨fun a=>(by rw [q9] at a; cases a),zh (xd h) fun v w'' he=> ?_⟩
        obtain ⟨q,i,hk⟩:=he; rw [i]; exact hk)
 | halt x w'=>cases x <;> simp only [jh] at h
theorem py (hn:x6 op=true) (h:(execOp (ev N σ) ⟨some d,op,ty,pos,af,none⟩).run P w= .ok (.value v) w) (k:mo P N ops Q rest (cz σ d v) w):mo P N ops Q (⟨some d,op,ty,pos,af,none⟩::rest) σ w:=
 ey hn (lN h k)
theorem RP {l:Nat} {fo:Operand} {args:Array Operand} {i:Array TypeId} {L:List Value} {R:World→Prop} (G:ev N σ fo= .func (.yield l) #[] #[]) (C:args.toList.map (ev N σ)=L)
 (J:YieldAt gd 0 P l L.toArray w fun e W'=>e= .returned (.bool true)∧R W') (k:∀ W',R W'→mo P N ops Q rest (cz σ d<|.bool true) W'):
 mo P N ops Q (⟨some d,.call ⟨.value fo,args,i⟩,ty,pos,af,none⟩::rest) σ w:=by
 obtain ⟨fn,tmps,a,b,E,A⟩:=J
 unfold mo wpListIn
 rw [if_pos (gZ _ rfl _)]
 refine ⟨fun f _=>tB _ f,?_⟩
 rw [xc,FE _ _ _ (fun c e=>by cases e),fq]
 have hm:args.map (ev N σ)=L.toArray:=by rw [← C,← kJ]
 have I:(execOp (ev N σ) ⟨some d,.call ⟨.value fo,args,i⟩,ty,pos,af,none⟩).run P w= .ok (.round l fn tmps a b) w:=by
  simp [execOp,resolve,G,nX,invoke,hm,E]
 rw [I]
 simp only [nZ]
 refine ⟨fun q=>(by rw [q9] at q; cases q),?_⟩
 have h1:RoundIn (fe N.r) (0 - 1) P l fn tmps a b w fun e W'=>e= .returned (.bool true)∧R W':=by
  cases hr:N.r with
  | none=>exact A
  | some k=>exact A
 refine zf h1 ?_
 rintro e W' ⟨rfl,hw⟩
 simp only
 rw [hZ]
 exact k W' hw
end
end Go.Hb
end
section
namespace Go.Hb
def dV (P:Program) (f:FuncId) (args:Array Value) (w:World) (R:Value→World→Prop) (Pn:List PanicEntry→World→Prop):Prop :=
 Calls P f args w fun e w'=>(∃ v,e= .returned v∧R v w')∨∃ c,e= .panicked c∧Pn c w'
def BI (P:Program) (fn:Func) (N:Fm) (R:Value→World→Prop) (Pn:List PanicEntry→World→Prop):Exit→(Nat→Value)→World→Prop
 | .normal,σ,w=> ∃ v,(results fn (act N σ).tmps).run P w= .ok v w∧R v w
 | .ret,σ,w=> ∃ v,(results fn (act N σ).tmps).run P w= .ok v w∧R v w
 | .panic c,_,w=>Pn c w
 | _,_,_=>False
theorem gU {P:Program} {fn:Func} {N:Fm} {R:Value→World→Prop} {Pn:List PanicEntry→World→Prop} {e:Exit} {σ:Nat→Value} {w:World} (h:fin P fn N R e σ w):BI P fn N R Pn e σ w:=by
 cases e <;> first | exact h | exact h.elim
theorem iw {P:Program} {f:FuncId} {N:Nat} {fn:Func} {c:Code} {args:List Value} {w:World} {R:Value→World→Prop} {Pn:List PanicEntry→World→Prop} (I:P.funcs[f]? =some fn) (G:fn.body=some c)
 (E:fn.ntmps=N) (hn:lk args.length N=true) (h:cB P ⟨N,[],[],none⟩ c (BI P fn ⟨N,[],[],none⟩ R Pn) (kG args) w):dV P f args.toArray w R Pn:=by
 subst E
 refine calls_of_wp I G ?_
 rw [ud fn args [] hn]
 unfold cB at h
 refine Fk ?_<|wpIn_wide.1 h
 intro e a w i
 cases e with
 | normal=>obtain ⟨σ,rfl,v,C,A⟩:=i; exact ⟨rfl,v,C,.inl ⟨v,rfl,A⟩⟩
 | ret=>obtain ⟨σ,rfl,v,C,A⟩:=i; exact ⟨rfl,v,C,.inl ⟨v,rfl,A⟩⟩
 | exit id=>obtain ⟨σ,rfl,q⟩:=i; exact q.elim
 | goto l=>obtain ⟨σ,rfl,q⟩:=i; exact q.elim
 | panic c=>obtain ⟨σ,rfl,q⟩:=i; exact ⟨rfl,.inr ⟨c,rfl,q σ fun _ _=>rfl⟩⟩
 | outgrown=>exact i.elim
section
variable {P:Program} {N:Fm} {Q:Exit→(Nat→Value)→World→Prop} {σ:Nat→Value} {w:World} {ops:Array Oper} {rest:List Oper} {dst:Option Nat} {ty:TypeId} {pos :String} {af:Array Edge} {g:Option (Nat×Bool)} {x:Operand}
def mq (P:Program) (N:Fm) (o:Oper) (σ:Nat→Value) (w:World) (K:(Nat→Value)→World→Prop) (Pn:List PanicEntry→World→Prop):Prop :=
 il P o (act N σ) w (fun a w=> ∃ σ,a=act N σ∧K σ w) (fun e a w=>match e with | .panic c=>a=act N σ∧Pn c w | _=>False)
theorem uF {o:Oper} {K:(Nat→Value)→World→Prop} {Pn:List PanicEntry→World→Prop} {q:Act→World→Prop} (h:mq P N o σ w K Pn) (hk:∀ σ w,K σ w→q (act N σ) w) (hp:∀ c w',Pn c w'→∀ E,(∀ i∈N.F,E i=σ i)→Q (.panic c) E w'):o.wp P (act N σ) w q (lift N Q):=by
 unfold mq at h
 unfold il at*
 generalize (execOp (act N σ).eval o).run P w=r at h ⊢
 have A:∀ a w,(∃ σ,a=act N σ∧K σ w)→q a w:=by rintro a w ⟨σ,rfl,h⟩; exact hk _ _ h
 have C:∀ c (a:Act) w',(a=act N σ∧Pn c w')→lift N Q (.panic c) a w':=by rintro c a w' ⟨rfl,h⟩; exact ⟨σ,rfl,hp c w' h⟩
 cases r with
 | ok n w'=>
   cases n <;> simp only [jh] at h ⊢ <;>
    first
     | exact A _ _ h
     | exact kf h (fun e w'' he=>by
      cases e with
      | returned v=>exact A _ _ he
      | panicked c=>exact C _ _ _ ⟨rfl,he.2⟩
      | outgrown=>obtain ⟨_,_,G⟩:=he; exact G.elim)
     | exact zg h fun _ _ he=>A _ _ he
 | halt x w'=>cases x <;> simp only [jh] at h ⊢ <;> exact C _ _ _ ⟨rfl,h.2⟩
theorem cC {f:FuncId} {args:Array Operand} {a:Array TypeId} {L:List Value} {R:Value→World→Prop} {Pn:List PanicEntry→World→Prop} {K:(Nat→Value)→World→Prop} (C:a8 P f) (E:dV P f L.toArray w R Pn) (i:args.toList.map (ev N σ)=L)
 (k:∀ v w',R v w'→K (fA σ dst v) w'):mq P N ⟨dst,.call ⟨.value (.func f),args,a⟩,ty,pos,af,g⟩ σ w K Pn:=by
 unfold mq il
 have hm:args.map (ev N σ)=L.toArray:=by rw [← i,← kJ]
 have G:(execOp (ev N σ) ⟨dst,.call ⟨.value (.func f),args,a⟩,ty,pos,af,g⟩).run P w= .ok (.enter f L.toArray) w:=by
  have h2:=C L.toArray w
  simp [execOp,resolve,ev,nX,invoke,hm,h2]
 rw [fq,G]
 simp only [jh]
 refine kf E ?_
 rintro e w' (⟨v,rfl,A⟩ | ⟨c,rfl,q⟩)
 · exact ⟨_,hZ ..,k v w' A⟩
 · exact ⟨trivial,q⟩
theorem ET {f:FuncId} {fo:Operand} {first cap:Array Value} {args:Array Operand} {a:Array TypeId} {L:List Value} {R:Value→World→Prop} {Pn:List PanicEntry→World→Prop} {K:(Nat→Value)→World→Prop} (C:a8 P f) (G:ev N σ fo= .func (.func f) first cap) (E:dV P f L.toArray w R Pn) (i:first.toList++args.toList.map (ev N σ)++cap.toList=L)
 (k:∀ v w',R v w'→K (fA σ dst v) w'):mq P N ⟨dst,.call ⟨.value fo,args,a⟩,ty,pos,af,g⟩ σ w K Pn:=by
 unfold mq il
 have hm:first++args.map (ev N σ)++cap=L.toArray:=by rw [← i]; simp
 have I:(execOp (ev N σ) ⟨dst,.call ⟨.value fo,args,a⟩,ty,pos,af,g⟩).run P w= .ok (.enter f L.toArray) w:=by
  have h2:=C L.toArray w
  simp only [execOp,resolve,G,nX,invoke]
  simp [hm,h2]
 rw [fq,I]
 simp only [jh]
 refine kf E ?_
 rintro e w' (⟨v,rfl,A⟩ | ⟨c,rfl,q⟩)
 · exact ⟨_,hZ ..,k v w' A⟩
 · exact ⟨trivial,q⟩
theorem eP {o:Oper} {Pn:List PanicEntry→World→Prop} (q:o.guard=none) (h:mq P N o σ w (fun σ w=>dw P N ops Q rest σ w) Pn) (hp:∀ c w',Pn c w'→∀ a,(∀ i∈N.F,a i=σ i)→Q (.panic c) a w'):dw P N ops Q (o::rest) σ w:=by
 unfold dw wpList
 rw [if_pos (gZ o q _)]
 refine .inl<|uF h (fun σ w hk=> ?_) hp
 unfold dw at hk; exact hk
theorem Pc {t:TypeId} {v:Value} (q:ev N σ x= .iface t v) (hp:∀ a,(∀ i∈N.F,a i=σ i)→Q (.panic [{v:= .iface t v,recovered:=false}]) a w):dw P N ops Q (⟨dst,.panic x,ty,pos,af,none⟩::rest) σ w:=by
 unfold dw wpList
 rw [if_pos (gZ _ rfl _)]
 refine .inl ?_
 unfold il
 have c:(execOp (ev N σ) ⟨dst,.panic x,ty,pos,af,none⟩).run P w= .halt (.panic<|.iface t v) w:=by
  simp [execOp,q,Instr.panic]
 rw [fq,c]
 exact ⟨σ,aa,hp⟩
theorem Of {t:TypeId} {d:TypeDesc} {v:Value} (hu:P.underlying t=some d) (hd:(match d with | .interface _=>false | _=>true)=true) (a:ev N σ x=v):(execOp (ev N σ) ⟨dst,.makeInterface t x,ty,pos,af,g⟩).run P w= .ok (.value<|.iface t v) w:=by
 cases d <;> first | (cases hd; done) | simp [execOp,Instr.makeInterface,a,c7 hu]
def oH (P:Program) (t:TypeId):Bool:=match P.underlying t with | some (.interface _)=>false | some _=>true | none=>false
theorem Og {t:TypeId} {v:Value} (h:oH P t=true) (a:ev N σ x=v):(execOp (ev N σ) ⟨dst,.makeInterface t x,ty,pos,af,g⟩).run P w= .ok (.value<|.iface t v) w:=by
 unfold oH at h
 cases hd:P.underlying t with
 | none=>rw [hd] at h; cases h
 | some d=>rw [hd] at h; exact Of hd (by cases d <;> first | rfl | cases h) a
theorem QK {xt a:TypeId} {zv:Value} (hu:oH P a=true) (i:zeroV P a=some zv) (c:ev N σ x= .nilIface):(execOp (ev N σ) ⟨dst,.typeAssert x xt a true,ty,pos,af,g⟩).run P w= .ok (.value<|.tuple #[zv,.bool false]) w:=by
 unfold oH at hu
 cases hd:P.underlying a with
 | none=>rw [hd] at hu; cases hu
 | some d=>rw [hd] at hu; cases d <;> first | (cases hu; done) | simp [execOp,FB,c,c7 hd,uH i]
theorem QJ {xt a:TypeId} {v:Value} (hu:oH P a=true) (c:ev N σ x= .iface a v):(execOp (ev N σ) ⟨dst,.typeAssert x xt a true,ty,pos,af,g⟩).run P w= .ok (.value<|.tuple #[v,.bool true]) w:=by
 unfold oH at hu
 cases hd:P.underlying a with
 | none=>rw [hd] at hu; cases hu
 | some d=>rw [hd] at hu; cases d <;> first | (cases hu; done) | simp [execOp,FB,c,c7 hd]
variable {S:World→Prop} {fuel:Nat} {aK:Array Bool}
theorem pS {o:Oper} {Pn:List PanicEntry→World→Prop} (i:Nat) (hi:ops[i]? =some o) (A:ju ops aK i=true) (q:o.guard=none)
 (h:mq P N o σ w (fun σ w=>S w∧eG P N ops Q S fuel (aK.setIfInBounds i true) σ w) Pn) (hp:∀ c w',Pn c w'→∀ a,(∀ i∈N.F,a i=σ i)→Q (.panic c) a w'):eG P N ops Q S (fuel+1) aK σ w:=by
 unfold eG at*
 refine wpAnyH_all (rs:= [i]) (by simpa [ju] using A) (by simp) ?_
 intro k hk
 obtain rfl :k=i:=by simpa using hk
 unfold wpOp
 simp only [hi]
 rw [if_pos (gZ _ q _)]
 exact .inl<|uF h (fun σ w hk=>hk) hp
end
section
variable {P:Program} {N:Fm} {Q:Exit→(Nat→Value)→World→Prop} {σ:Nat→Value} {w:World} {ops:Array Oper} {S:World→Prop} {fuel:Nat} {aK:Array Bool}
theorem MM {o a:Oper} {Pn:List PanicEntry→World→Prop} (i j:Nat) (hi:ops[i]? =some o) (E:ops[j]? =some a) (G:((gz .any ops aK)== [i,j])=true) (A:o.guard=none) (C:a.guard=none)
 (h:mq P N o σ w (fun σ w=>S w∧eG P N ops Q S fuel (aK.setIfInBounds i true) σ w) Pn) (hp:∀ c w',Pn c w'→∀ q,(∀ i∈N.F,q i=σ i)→Q (.panic c) q w')
 (h1:cA P N a σ w (fun σ w=>S w∧eG P N ops Q S fuel (aK.setIfInBounds j true) σ w)):eG P N ops Q S (fuel+1) aK σ w:=by
 unfold eG at*
 refine wpAnyH_all (rs:= [i,j]) (by simpa using G) (by simp) ?_
 intro k hk
 simp only [eK,sE,or_false] at hk
 rcases hk with rfl | rfl
 · unfold wpOp
   simp only [hi]
   rw [if_pos (gZ _ A _)]
   exact .inl<|uF h (fun _ _ hk=>hk) hp
 · unfold wpOp
   simp only [E]
   rw [if_pos (gZ _ C _)]
   exact .inl<|qh h1 fun _ _ hk=>hk
end
section
variable {P:Program} {N:Fm} {Q:Exit→(Nat→Value)→World→Prop} {σ:Nat→Value} {w:World} {ops:Array Oper} {S:World→Prop} {fuel r:Nat} {aK:Array Bool}
theorem CT {o:Oper} {Pn:List PanicEntry→World→Prop} (i:Nat) (hi:ops[i]? =some o) (E:ju ops aK i=true) (C:o.guard=none)
 (h:mq P N o σ w (fun σ w=>S w∧fH P N ops Q S r fuel (aK.setIfInBounds i true) σ w) Pn) (hp:∀ c w',Pn c w'→∀ q,(∀ i∈N.F,q i=σ i)→Q (.panic c) q w'):fH P N ops Q S r (fuel+1) aK σ w:=by
 unfold fH at*
 have a:gz .any ops aK= [i]:=by simpa [ju] using E
 refine ⟨fun A=>absurd (a ▸ A) (by simp),fun k hk=> ?_⟩
 rw [a] at hk
 obtain rfl :k=i:=by simpa using hk
 unfold wpOp
 simp only [hi]
 rw [if_pos (gZ _ C _)]
 exact .inl<|uF h (fun σ w hk=>⟨fun _=>hk.1,hk.2⟩) hp
end
abbrev nv (P:Program) (fn:Func) (R:Value→World→Prop):Exit→Act→World→Prop :=bodyPostD P fn (fun e w'=> ∃ v,e= .returned v∧R v w')
theorem Lg {P:Program} {f:FuncId} {N:Nat} {fn:Func} {c:Code} {args:List Value} {w:World} {R:Value→World→Prop} (F:List Nat) (q:P.funcs[f]? =some fn) (i:fn.body=some c)
 (a:fn.ntmps=N) (hn:lk args.length N=true) (h:lL P ⟨N,[],F,none⟩ c (nv P fn R) (kG args) w):ba P f args.toArray w R:=by
 subst a
 refine calls_of_wp_defers q i ?_
 rw [ud fn args F hn]
 exact wpIn_wide.1 h
section
variable {P:Program} {n:Nat} {D:List Deferred} {F:List Nat} {σ:Nat→Value} {w:World} {fn:Func} {R:Value→World→Prop} {B:Exit→Act→World→Prop}
theorem Lw {v:Value} (c:(results fn (act ⟨n,[],F,none⟩ σ).tmps).run P w= .ok v w) (a:R v w):qb ⟨n,[],F,none⟩ (nv P fn R) .ret σ w:=⟨v,c,v,rfl,a⟩
theorem NJ:¬LetsOut (nv P fn R):=fun ⟨_,_,h⟩=>by obtain ⟨v,h,_⟩:=h; cases h
theorem KD {id d:Nat} {f:FuncId} (I:¬LetsOut B) {cs:Array Operand} {E G:TypeId} {A C:String} {i q:Array Edge} {y:Code} (c:Array Value) (M:cs.toList.map (ev ⟨n,[],F,none⟩ σ)=c.toList) (hd:d < n)
 (h:lL P ⟨n,[{target:= .fn (.func f) c,args:= #[]}],F,none⟩ y B (cz σ d<|.func (.func f) #[] c) w):
 lL P ⟨n,[],F,none⟩ (.region id #[⟨some d,.makeFunc (.func f) #[] cs,E,A,i,none⟩,⟨none,.defer ⟨.value (.tmp d),#[],#[]⟩,G,C,q,none⟩] false) (Exit.then (y.wpIn (fe none) 0 P B) B) σ w:=by
 have O:cs.map (ev ⟨n,[],F,none⟩ σ)=c:=uL.1<|by rw [kJ]; exact M
 refine wpIn_region ?_
 have J:¬LetsOut (Exit.then (y.wpIn (fe none) 0 P B) B):=fun ⟨a,w,h⟩=>I ⟨a,w,h⟩
 refine xM (r:=none) J aa _ _ _ ?_
 show wpOps P _ _ [0,1] _ _
 simp only [wpOps,F3,vc,List.getElem?_cons_succ]
 rw [if_pos (gZ _ rfl _)]
 refine .inl ?_
 unfold il
 have h1:(execOp (act ⟨n,[],F,none⟩ σ).eval ⟨some d,.makeFunc (.func f) #[] cs,E,A,i,none⟩).run P w= .ok (.value<|.func (.func f) #[] c) w:=by
  rw [fq,mf,O]; simp
 rw [h1]
 simp only [jh]
 rw [if_pos (gZ _ rfl _),hZ]
 refine .inl ?_
 have h2:(execOp (act ⟨n,[],F,none⟩<|fA σ (some d)<|.func (.func f) #[] c).eval ⟨none,.defer ⟨.value (.tmp d),#[],#[]⟩,G,C,q,none⟩).run P w= .ok (.defer {target:= .fn (.func f) c,args:= #[]}) w:=by
  have U:ev ⟨n,[],F,none⟩ (cz σ d<|.func (.func f) #[] c) (.tmp d)= .func (.func f) #[] c:=by
   show cond (eU d n) (cz σ d _ d) undef=_
   rw [show eU d n=true from by simpa using hd]
   show cz σ d _ d=_
   unfold cz; simp
  rw [fq]
  show (execOp (ev ⟨n,[],F,none⟩<|cz σ d<|.func (.func f) #[] c) _).run P w=_
  simp [execOp,resolve,U,nX]
 rw [h2]
 exact h
end
theorem OL {P:Program} {ops:Array Oper} {Q:Exit→Act→List Frame→World→Prop} {cs:List Frame} (q:¬LetsOut fun e a w=>Q e a cs w):∀ (l:List Nat) (a:Act) (w:World),wpOps P ops (fun e a w=>Q e a cs w) l a w→wpOpsS P ops Q l a cs w:=by
 intro l
 induction l with
 | nil=>exact fun _ _ h=>h
 | cons i l c=>
   intro a w h
   simp only [wpOps] at h
   simp only [wpOpsS]
   cases ho:ops[i]? with
   | none=>simp only [ho] at h ⊢; exact c a w h
   | some o=>
     simp only [ho] at h ⊢
     by_cases hw:Region.wanted o (yielded ops a.tmps)=true
     · rw [if_pos hw] at h ⊢
       rcases h with h | h
       · unfold il at h
         generalize (execOp a.eval o).run P w=x at h
         cases x with
         | ok n w'=>
           cases n <;> simp only [jh] at h ⊢ <;>
            first
             | exact c _ _ h
             | exact kf h fun e w'' he=>by cases e <;> first | exact c _ _ he | exact he
             | exact zg h fun v w'' he=>c _ _ he
         | halt x w'=>cases x <;> simp only [jh] at h ⊢ <;> exact h
       · exact absurd h.2 q
     · rw [if_neg hw] at h ⊢
       exact c _ _ h
theorem NM {P:Program} {ops:Array Oper} {Q A:Exit→Act→World→Prop} (q:∀ e a w,Q e a w→A e a w) (C:¬LetsOut Q):∀ (l:List Oper) (a:Act) (w:World),wpList P ops Q l a w→wpList P ops A l a w:=by
 intro l
 induction l with
 | nil=>exact fun _ _ h=>q _ _ _ h
 | cons o l i=>
   intro a w h
   unfold wpList at h ⊢
   split at h
   · rename_i hw
     rw [if_pos hw]
     rcases h with h | h
     · left
       unfold il at h ⊢
       generalize (execOp a.eval o).run P w=x at h
       cases x with
       | ok n w'=>
         cases n <;> simp only [jh] at h ⊢ <;>
          first
           | exact i _ _ h
           | exact kf h (fun e w'' he=>by
            cases e with
            | returned v=>exact i _ _ he
            | panicked c=>exact q _ _ _ he
            | outgrown=>exact absurd he C)
           | exact zg h fun v w'' he=>i _ _ he
       | halt x w'=>cases x <;> simp only [jh] at h ⊢ <;> exact q _ _ _ h
     · exact absurd h.2 C
   · rename_i hw
     rw [if_neg hw]; exact i _ _ h
theorem AS {P:Program} {f:FuncId} {fn:Func} {id N d:Nat} {ty:TypeId} {pos :String} {af:Array Edge} {rest:List Oper} {y:Code} {args:List Value} {w:World} {u E:FrameMode} {v:Value} {R:World→Prop}
 (ac:P.funcs[f]? =some fn) (aa:fn.body=some (.seq (.region id (⟨some d,.call ⟨.builtin .recover,#[],#[]⟩,ty,pos,af,none⟩::rest).toArray false) y)) (Z:fn.ntmps=N) (hn:lk args.length N=true)
 (ad:∀ (A:Frame) (cs:List Frame),A.mode=u→(recoverD (A::cs)=some (v,{A with mode:=E} ::cs))∨(recoverD (A::cs)=none∧v= .nilIface∧E=u))
 (h:dw P ⟨N,[],[],none⟩ (⟨some d,.call ⟨.builtin .recover,#[],#[]⟩,ty,pos,af,none⟩::rest).toArray (jT (fun σ w=>cB P ⟨N,[],[],none⟩ y (fin P fn ⟨N,[],[],none⟩ fun _ w=>R w) σ w)<|fin P fn ⟨N,[],[],none⟩ fun _ w=>R w) rest (cz (kG args) d v) w):
 CallsD P f args.toArray u w fun e G w'=> ∃ v,e= .returned v∧G=E∧R w':=by
 subst Z
 refine callsD_of_wpS ac aa ?_
 intro A cs hu
 rw [ud fn args [] hn]
 refine wpS_seq<|wpS_region ?_
 have ae:gB (⟨some d,.call ⟨.builtin .recover,#[],#[]⟩,ty,pos,af,none⟩::rest).toArray.size=0::(List.range' 1 rest.length):=by
  rw [lV,bT,List.range_eq_range',List.range'_succ]
 rw [ae]
 simp only [wpOpsS,F3,vc]
 rw [if_pos (gZ _ rfl _)]
 have ag:(execOp (act ⟨fn.ntmps,[],[],none⟩<|kG args).eval ⟨some d,.call ⟨.builtin .recover,#[],#[]⟩,ty,pos,af,none⟩).run P w= .ok .recover w:=by
  rw [fq]
  simp [execOp,resolve,invoke,builtin]
 rw [ag]
 simp only
 obtain ⟨I,J⟩:∃ I,I=({A with mode:=E} ::cs:List Frame):=⟨_,rfl⟩
 have ab:∀ X:Act→List Frame→Prop,X ((act ⟨fn.ntmps,[],[],none⟩<|kG args).put (some d) v) I→
  (match recoverD (A::cs) with
   | some (v,M)=>X ((act ⟨fn.ntmps,[],[],none⟩<|kG args).put (some d) v) M
   | none=>X ((act ⟨fn.ntmps,[],[],none⟩<|kG args).put (some d) .nilIface) (A::cs)):=by
  intro X V
  rcases ad A cs hu with h1 | ⟨h1,h2,h3⟩
  rw [h1]; subst J; exact V
  rw [h1]; subst h2 h3
  have :({A with mode:=E} :Frame)=A:=by subst hu; rfl
  rw [this] at J; subst J; exact V
 refine ab (fun a M=>wpOpsS P _ _ _ a M w) ?_
 rw [hZ]
 refine OL ?_ _ _ _ ?_
 rintro ⟨a,w,h⟩
 simp only [Exit.thenS,bodyPostS] at h
 obtain ⟨_,_,h,_⟩:=h; cases h
 have h1:=wpOps_eq_wpList (P:=P) (ops:=(⟨some d,.call ⟨.builtin .recover,#[],#[]⟩,ty,pos,af,none⟩::rest).toArray) (Q:=fun e a w'=>Exit.thenS (Code.wpS P y (bodyPostS P fn A cs fun e G w'=> ∃ v,e= .returned v∧G=E∧R w')) (bodyPostS P fn A cs fun e G w'=> ∃ v,e= .returned v∧G=E∧R w') e a I w') rest 1 fun j=>by simp [Nat.add_comm]
 rw [h1]
 unfold dw at h
 refine NM ?_ xV _ _ _ h
 intro e a w' C
 have Y:∀ (e:Exit) (σ:Nat→Value) (w':World),fin P fn ⟨fn.ntmps,[],[],none⟩ (fun _ w=>R w) e σ w'→bodyPostS P fn A cs (fun e G w'=> ∃ v,e= .returned v∧G=E∧R w') e (act ⟨fn.ntmps,[],[],none⟩ σ) I w':=by
  intro e σ w' q
  cases e with
  | normal=>obtain ⟨v,U,O⟩:=q; exact ⟨rfl,E,J,v,U,v,rfl,rfl,O⟩
  | ret=>obtain ⟨v,U,O⟩:=q; exact ⟨rfl,E,J,v,U,v,rfl,rfl,O⟩
  | _=>exact q.elim
 cases e with
 | normal=>
   obtain ⟨σ,rfl,q⟩:=C
   refine wpS_of_wp ?_
   simp only [jT] at q
   unfold cB at q
   refine Fk ?_<|wpIn_wide.1 q
   intro e a w' C
   cases e with
   | panic c=>obtain ⟨σ,rfl,q⟩:=C; exact (q σ fun _ _=>rfl).elim
   | outgrown=>exact C.elim
   | _=>obtain ⟨σ,rfl,q⟩:=C; exact Y _ σ w' q
 | panic c=>obtain ⟨σ,rfl,q⟩:=C; exact (q σ fun _ _=>rfl).elim
 | outgrown=>exact C.elim
 | ret=>obtain ⟨σ,rfl,q⟩:=C; exact Y .ret σ w' q
 | exit i=>obtain ⟨σ,rfl,q⟩:=C; exact q.elim
 | goto i=>obtain ⟨σ,rfl,q⟩:=C; exact q.elim
section
variable {P:Program} {n:Nat} {F:List Nat} {σ:Nat→Value} {w:World} {fn:Func} {R:Value→World→Prop}
theorem Lx {g:FuncId} {a:Array Value} {M:World→Prop} (hu:(invoke (.fn (.func g) a) #[]).run P w= .ok (.enter g a) w)
 (i:CallsD P g a .returning w fun e q w'=> ∃ v,e= .returned v∧q= .returning∧M w') (c:∀ w',M w'→∃ v,(results fn (act ⟨n,[{target:= .fn (.func g) a,args:= #[]}],F,none⟩ σ).tmps).run P w'= .ok v w'∧R v w'):
 qb ⟨n,[{target:= .fn (.func g) a,args:= #[]}],F,none⟩ (nv P fn R) .ret σ w:=by
 refine leaves_cons (by simp) hu ?_
 refine Fj i ?_
 rintro e A w' ⟨v,rfl,rfl,hm⟩
 obtain ⟨v2,h1,h2⟩:=c w' hm
 exact ⟨v2,h1,v2,aa,h2⟩
theorem Ly {g:FuncId} {a:Array Value} {M:World→Prop} {v:Value} (hu:(invoke (.fn (.func g) a) #[]).run P w= .ok (.enter g a) w)
 (i:CallsD P g a (.panicking [{v:=v,recovered:=false}]) w fun e q w'=> ∃ x,e= .returned x∧q= .panicking [{v:=v,recovered:=true}]∧M w') (c:∀ w',M w'→∃ v,(results fn (act ⟨n,[{target:= .fn (.func g) a,args:= #[]}],F,none⟩ σ).tmps).run P w'= .ok v w'∧R v w'):
 qb ⟨n,[{target:= .fn (.func g) a,args:= #[]}],F,none⟩ (nv P fn R) (.panic [{v:=v,recovered:=false}]) σ w:=by
 refine leaves_cons (by simp) hu ?_
 refine Fj i ?_
 rintro e A w' ⟨x,rfl,rfl,hm⟩
 obtain ⟨v2,h1,h2⟩:=c w' hm
 exact ⟨v2,h1,v2,aa,h2⟩
end
end Go.Hb
end
section
namespace Go.Hb
def km (w:World) (B e n:Nat) (v:Value) (xs:List Value):Prop :=
 ∃ a cp,v= .slice a n cp∧n≤cp∧(xs= []∨∃ b o cur z,a=some ⟨b,o,none⟩∧B≤b∧w.heap[b]? =some (.cells cur e z)∧∀ (j:Nat) u,xs[j]? =some u→cur[o+j]? =some u)
theorem Tg.QW {w:World} {B e n:Nat} {v:Value} {xs:List Value} (h:Tg w B e n v xs):km w B e n v xs:=by
 obtain ⟨a,cp,rfl,A,c⟩:=h
 refine ⟨a,cp,aa,A,c.imp id ?_⟩
 rintro ⟨b,cur,z,i,q,C,c⟩
 exact ⟨b,0,cur,z,i,q,C,fun j u hu=>by rw [Nat.zero_add]; exact c j u hu⟩
theorem km.cells {w:World} {B e n cp:Nat} {a:Option Addr} {xs:List Value} (h:km w B e n (.slice a n cp) xs):n≤cp∧aC w.heap a xs:=by
 obtain ⟨C,E,A,i,c⟩:=h
 cases A
 rcases c with h | ⟨b,o,cur,z,rfl,_,q,c⟩
 · subst h; exact ⟨i,aC.nil _ _⟩
 · refine ⟨i,fun _=>rfl,fun j u hu=> ?_⟩
   show Hb.aH w.heap b (o+j)=_
   rw [aX q]; exact c j u hu
theorem km.slice {w:World} {B e n:Nat} {v:Value} {xs:List Value} (h:km w B e n v xs):∃ a cp,v= .slice a n cp:=let ⟨a,cp,hv,_⟩:=h; ⟨a,cp,hv⟩
theorem km.md {F:Nat→Prop} {w w':World} {B e n:Nat} {v:Value} {xs:List Value} (h:km w B e n v xs) (hm:Md F w w') (q:∀ k,F k→∀ cur z,w.heap[k]?≠some (.cells cur e z)):km w' B e n v xs:=by
 obtain ⟨a,cp,rfl,i,h | ⟨b,o,cur,z,rfl,A,c,C⟩⟩:=h
 · exact ⟨a,cp,aa,i,.inl h⟩
 · exact ⟨_,cp,aa,i,.inr ⟨b,o,cur,z,aa,A,by rw [hm.dE b (cg.1 c).1 (fun hk=>q b hk cur z c)]; exact c,C⟩⟩
theorem km.pG {w:World} {B e n m cp:Nat} {a:Option Addr} {xs:List Value} (h:km w B e (n+1) (.slice a (n+1) cp) xs) (C:xs.length=(n+1)*m):km w B e n (.slice (ez a cp 1 m) n<|cp - 1) (xs.drop m):=by
 obtain ⟨G,I,A,J,q⟩:=h
 cases A
 refine ⟨_,_,aa,ab,?_⟩
 rcases q with rfl | ⟨b,o,cur,z,rfl,c,i,E⟩
 · exact .inl<|by simp
 · unfold ez
   by_cases h1:cp=1
   · refine .inl<|gi ?_
     obtain rfl :n=0:=ab
     rw [fI,C]; omega
   · rw [if_neg h1]
     refine .inr ⟨b,o+1 *m,cur,z,?_,c,i,fun j u hu=> ?_⟩
     · rw [kh,kn]
     · rw [List.getElem?_drop] at hu
       have :=E _ u hu
       rw [show o+1 *m+j=o+(m+j) from by omega]; exact this
def c4 (w:World) (B e:Nat) (vs:List Value) (a:List (List Nat)):Prop :=vs.length=a.length∧∀ (i:Nat) v l,vs[i]? =some v→a[i]? =some l→Tg w B e l.length v (l.map aO)
theorem c4.nil (w:World) (B e:Nat):c4 w B e [] []:=⟨rfl,fun i v l a=>by simp at a⟩
theorem c4.md {F:Nat→Prop} {w w':World} {B e:Nat} {vs:List Value} {a:List (List Nat)} (h:c4 w B e vs a) (hm:Md F w w') (c:∀ k,F k→∀ cur z,w.heap[k]?≠some (.cells cur e z)):c4 w' B e vs a:=⟨h.1,fun i v l h1 h2=>(h.2 i v l h1 h2).md hm c⟩
theorem c4.wk {w w':World} {B e:Nat} {vs:List Value} {a:List (List Nat)} (h:c4 w B e vs a) (hm:Wk w w'):c4 w' B e vs a:=h.md hm fun _ hk=>hk.elim
theorem c4.mono {w:World} {B B' e:Nat} {vs:List Value} {a:List (List Nat)} (h:c4 w B e vs a) (c:B'≤B):c4 w B' e vs a:=⟨h.1,fun i v l h1 h2=>(h.2 i v l h1 h2).mono c⟩
theorem c4.snoc {w:World} {B e:Nat} {vs:List Value} {c:List (List Nat)} {v:Value} {l:List Nat} (a:c4 w B e vs c) (A:Tg w B e l.length v (l.map aO)):c4 w B e (vs++ [v]) (c++ [l]):=by
 refine ⟨by rw [bF,bF,a.1]; rfl,fun i C E h1 h2=> ?_⟩
 have q:=a.1
 by_cases hi:i < vs.length
 · rw [lh hi] at h1
   rw [lh ab] at h2
   exact a.2 i C E h1 h2
 · rw [lS ab] at h1
   rw [lS ab,← q] at h2
   cases hj:i - vs.length with
   | zero=>rw [hj] at h1 h2; cases h1; cases h2; exact A
   | succ j=>rw [hj] at h1; simp at h1
def gr (t ln:Nat) (e:Int):List PanicEntry:= [{v:= .iface t (.agg [.int .i64 1,.int .i64 (ln:Nat),.int .i64 e].toArray),recovered:=false}]
theorem dj {h:World} {b:Nat} {isK:Value→Prop} {f:Value→Option Value} (hm:bQ h.heap b isK f):tag h b=1:=let ⟨_,h1,_⟩:=hm; QN h1
def Wr (L:List Nat) (ms mt mc B:Nat) (w:World) (k:Nat):Prop :=B≤k∧(k=ms∨k=mt∨k=mc∨L.contains (tag w k)=true)
abbrev Mw (L:List Nat) (ms mt mc B:Nat) (w w':World):Prop :=Md (Wr L ms mt mc B w) w w'
section
variable {L:List Nat} {ms mt mc B:Nat} {w w' w'':World}
theorem Mw.trans (h:Mw L ms mt mc B w w') (a:Mw L ms mt mc B w' w''):Mw L ms mt mc B w w'':=by
 refine Md.trans' h a fun k hk hw=> ?_
 refine Classical.byContradiction fun hn=> ?_
 have :=Md.tag h hk hn
 unfold Wr at hw
 rw [this] at hw
 exact hn hw
theorem Wk.mw (h:Wk w w'):Mw L ms mt mc B w w':=h.mono fun _ _ a=>a.elim
theorem Mw.of {F:Nat→Prop} (h:Md F w w') (i:TF w L F) (c:∀ k,F k→B≤k):Mw L ms mt mc B w w':=h.mono fun k _ a=>⟨c k a,.inr<|.inr<|.inr<|i k a⟩
theorem Mw.wk {a:World} (c:Wk a w) (h:Mw L ms mt mc B w w') (i:a.heap.size≤B):Wk a w':=Md.trans' c h fun k hk hw=>by have :=hw.1; omega
theorem Wr.ne (hs:tag w ms=1) (A:tag w mt=1) (q:tag w mc=1) {e:Nat} (i:L.contains (e+2)=false):∀ k,Wr L ms mt mc B w k→∀ cur z,w.heap[k]?≠some (.cells cur e z):=by
 rintro k ⟨_,rfl | rfl | rfl | h⟩ cur z c <;> have a:=di c
 · omega
 · omega
 · omega
 · rw [a,i] at h; cases h
end
end Go.Hb
end
section
namespace Go.Hb
section
variable {P:Program} {N:Fm} {σ:Nat→Value} {w:World} {dst:Option Nat} {ty:TypeId} {pos :String} {af:Array Edge} {g:Option (Nat×Bool)} {x y:Operand}
theorem Ln (d:Nat) {t e:TypeId} {a:Option Addr} {n c:Nat} (hu:P.underlying t=some (.slice e)):(Op.equalIn (d+1) t (.slice a n c)<|.slice none 0 0).run P w= .ok a.isNone w:=by
 cases a <;> simp [Op.equalIn,c7 hu]
theorem Lo {t e:TypeId} {a:Option Addr} {n c:Nat} (hu:P.underlying t=some (.slice e)):(Op.equal t (.slice a n c)<|.slice none 0 0).run P w= .ok a.isNone w:=Ln 9999 hu
theorem pI {t A e:TypeId} {a:Option Addr} {n c:Nat} (hu:P.underlying t=some (.slice e)) (i:ev N σ x= .slice a n c) (q:ev N σ y= .slice none 0 0):
 (execOp (ev N σ) ⟨dst,.binOp .eql t x y A,ty,pos,af,g⟩).run P w= .ok (.value<|.bool a.isNone) w:=by
 have h:(binOp .eql t (.slice a n c)<|.slice none 0 0).run P w= .ok (.bool a.isNone) w:=by
  simp only [binOp]; simp [Lo hu]
 simp [execOp,i,q,eqGuard,h]
end
def Rd (h:Array Obj) (v:Value) (n size:Nat) (xs:List Value):Prop := ∃ a c,v= .slice a n c∧aC h a xs∧xs.length=n*size∧(a=none→n=0)
theorem Rd.jP {w:World} {B e size n:Nat} {v:Value} {xs:List Value} (h:w.ownsRow B e size v n xs):Rd w.heap v n size xs:=by
 obtain ⟨a,c,rfl,h1,_,_,h3⟩:=pY h
 refine ⟨a,c,aa,h1,h.1,fun i=> ?_⟩
 subst i
 rcases h.2 with ⟨h4,h5⟩ | ⟨g,cap,cur,h4,_⟩
 · exact h5
 · simp at h4
theorem Dw {w:World} {B e size n k cp:Nat} {a:Option Addr} {xs:List Value} (h:w.ownsRow B e size (.slice a n cp) n xs) (hk:k≤n) (A:a≠none):w.ownsRow B e size (.slice a k cp) k (xs.take<|k*size):=by
 obtain ⟨c,h⟩:=h
 refine ⟨by rw [dT,c]; exact mE (qB _ hk),?_⟩
 rcases h with ⟨h1,_⟩ | ⟨g,cap,cur,h1,h2,h3,h4,h5,i,q⟩
 · simp only [lg] at h1; exact absurd h1.1 A
 · simp only [lg,true_and] at h1
   obtain ⟨rfl,rfl⟩:=h1
   refine .inr ⟨g,_,cur,aa,h2,h3,ab,h5,i,?_⟩
   rw [← q,Gh,mE (qB _ hk)]
section
variable {P:Program} {N:Fm} {σ:Nat→Value} {w:World} {dst:Option Nat} {ty:TypeId} {pos :String} {af:Array Edge} {g:Option (Nat×Bool)} {x y z u:Operand} {K:(Nat→Value)→World→Prop}
theorem Qc {t n len cap:Nat} {a:Option Addr} {k E G:IntKind} {i j m:Nat} (he:fM P t=some n) (c:ev N σ x= .slice a len cap) (A:ev N σ y= .int k (i:Nat)) (C:ev N σ z= .int E (j:Nat)) (hu:ev N σ u= .int G (m:Nat)) (h:i≤j∧j≤m∧m≤cap):
 (execOp (ev N σ) ⟨dst,.slice t x (some y) (some z) (some u),ty,pos,af,g⟩).run P w= .ok (.value<|.slice (ez a m i n) (j - i)<|m - i) w:=by
 have h1:(0:Int)≤(i:Int):=ab
 have h2:(0:Int)≤(j:Int):=ab
 have h3:(0:Int)≤(m:Int):=ab
 unfold fM at he
 cases hd:P.underlying t with
 | none=>rw [hd] at he; cases he
 | some d=>
   rw [hd] at he
   cases d <;> first | (cases he; done) | skip
   rename_i e
   cases hi':P.info? e with
   | none=>simp [hi'] at he
   | some q=>
     simp only [hi',kh,eM] at he
     subst he
     simp only [execOp,oT,Instr.slice,c,A,C,hu,kh,my,Instr.sliceBound,asIntOf]
     simp [c7 hd,fR hi',sizeOf,h.1,h.2.1,h.2.2,ez]
theorem G3 {t e size bytes B n m cp c A:Nat} {xs news:List Value} {a:Option Addr} (Y:fz P t e size bytes=true) (M:w.ownsRow B e size (.slice (some ⟨A,0,none⟩) n cp) n xs) (Z:ev N σ x= .slice (some ⟨A,0,none⟩) n cp)
 (aa:ev N σ y= .slice a m c) (G:aC w.heap a news) (I:a≠none) (J:news.length=m*size) (h1:news.all eH=true) (V:n+m≤cp)
 (k:∀ w',Md (fun q=>q=A) w w'→w'.ownsRow B e size (.slice (some ⟨A,0,none⟩) (n+m) cp) (n+m) (xs++news)→K (fA σ dst<|.slice (some ⟨A,0,none⟩) (n+m) cp) w'):
 cA P N ⟨dst,.call ⟨.builtin .append,#[x,y],#[t,t]⟩,ty,pos,af,g⟩ σ w K:=by
 obtain ⟨hu,i,zv,hi,ae,hs,ab,ag,ac⟩:=nP Y
 obtain ⟨ad,rfl⟩:∃ ad,a=some ad:=by cases a with | none=>exact absurd rfl I | some ad=>exact ⟨ad,rfl⟩
 have hn:∀ j v,news[j]? =some v→w.cell? (ad.add j)=some v:=fun j v C=>by
  have E:news≠[]:=fun e=>by rw [e] at C; simp at C
  have h2:=G.ok E
  simp only [eM] at h2
  rw [h2,kn,lA]; exact G.aH j v C
 obtain ⟨w',U,h2,h3⟩:=Go.run_append_fits (P:=P) (w:=w) B t ty e i size hu hi hs A n cp xs M ad m c news J hn (qK h1) V
 refine lN (w':=w') (v:= .slice (some ⟨A,0,none⟩) (n+m) cp) ?_<|k w' ⟨h3.os,h3.output,h3.size,fun q O E=>h3.block q O fun e=>E<|qD e⟩ h2
 simp [execOp,resolve,invoke,builtin,Z,aa,U]
end
end Go.Hb
end
section
namespace Go.Hb
def ot (P:Program) (t:TypeId):Option (Nat×Nat):=
 match P.underlying t with
 | some (.array n e)=>(P.info? e).map fun i=>(n,i.size)
 | _=>none
section
variable {P:Program} {N:Fm} {σ:Nat→Value} {w:World} {dst:Option Nat} {ty:TypeId} {pos :String} {af:Array Edge} {g:Option (Nat×Bool)} {x y:Operand}
theorem kv {t n c b off :Nat} {k:IntKind} {i:Int} (he:ot P t=some (n,c)) (q:ev N σ x= .pointer (some ⟨b,off,none⟩)) (A:ev N σ y= .int k i) (a:0≤i∧i < n):
 (execOp (ev N σ) ⟨dst,.indexAddr t x y,ty,pos,af,g⟩).run P w= .ok (.value<|.pointer<|some ⟨b,off+i.toNat*c,none⟩) w:=by
 unfold ot at he
 cases hd:P.underlying t with
 | none=>rw [hd] at he; cases he
 | some d=>
   rw [hd] at he
   cases d <;> first | (cases he; done) | skip
   rename_i m e
   cases hi:P.info? e with
   | none=>simp [hi] at he
   | some j=>
     simp only [hi,kh,eM,sI] at he
     obtain ⟨rfl,rfl⟩:=he
     simp [execOp,Instr.indexAt,nY,q,A,asIntOf,c7 hd,a.1,a.2,sizeOf,fR hi,kn]
end
theorem N7 {h:Array Obj} {b:Nat} {a:List UInt8} (i:bA h b (marksOf a)) (c:UInt8):Hb.aH h b (0 +((c.toNat:Nat):Int).toNat*1)=some (.bool<|decide (c∈a)):=by
 rw [i.aH,show 0 +((c.toNat:Nat):Int).toNat*1=c.toNat from by omega]; exact N4 a c
theorem N8 {h:Array Obj} {b:Nat} {a:List UInt8} {c:UInt8} (i:bA h b ((marksOf a).set (0 +((c.toNat:Nat):Int).toNat*1)<|.bool true)):bA h b (marksOf<|a++ [c]):=by
 rw [show 0 +((c.toNat:Nat):Int).toNat*1=c.toNat from by omega,N6] at i; exact i
end Go.Hb
end
section
namespace Go.Hb
theorem Nd (c:UInt8):∀ l:List UInt8,FC l c=dK c l:=by
 intro l
 induction l with
 | nil=>rfl
 | cons b l A=>
   unfold FC
   rw [A]
   rw [show dK c (b::l)=if (b::l).idxOf c < (b::l).length then ((b::l).idxOf c:Int) else -1 from rfl,List.idxOf_cons]
   by_cases h:(b==c)=true
   · rw [if_pos h,h]; rfl
   · have i:(b==c)=false :=by simpa using h
     rw [if_neg h,i]
     simp only [cond_false,bT]
     by_cases h1:l.idxOf c < l.length
     · have a:dK c l=l.idxOf c:=if_pos h1
       rw [a,if_neg (fun q=>by have :=eq_of_beq q; omega),if_pos ab]; rfl
     · have a:dK c l= -1:=if_neg h1
       rw [a,if_pos aw,if_neg ab]
theorem PU {P:Program} {f:FuncId} {fn:Func} (i:P.funcs[f]? =some fn) (q:(fn.name== "runtime.NumGoroutine")=false) (a:fn.body.isNone=true) (hn:Ft fn=none)
 (he:Fs fn=some Se) (l:List UInt8) (c:UInt8) (w:World):(callFunc f #[str l,.int .u8 c.toNat]).run P w= .ok (.value<|.int .i64<|dK c l) w:=by
 rw [run_callFunc_extern i q a hn he]
 unfold str
 rw [Lib.run_indexByteString]
 have h1:((c.toNat:Int)).toNat.toUInt8=c:=o4.1<|by simp
 rw [h1,Nd]
 rfl
theorem PT {P:Program} {f:FuncId} {fn:Func} (i:P.funcs[f]? =some fn) (q:(fn.name== "runtime.NumGoroutine")=false) (a:fn.body.isNone=true) (hn:Ft fn=none)
 (he:Fs fn=some Sd) (l:List UInt8) (c:UInt8) (w:World):(callFunc f #[str l,.int .u8 c.toNat]).run P w= .ok (.value<|.int .i64 (l.count c:Nat)) w:=by
 rw [run_callFunc_extern i q a hn he]
 unfold str
 rw [Lib.run_countString]
 have h1:((c.toNat:Int)).toNat.toUInt8=c:=o4.1<|by simp
 rw [h1]
 rfl
section
variable {P:Program} {N:Fm} {σ:Nat→Value} {w:World} {dst:Option Nat} {ty:TypeId} {pos :String} {af:Array Edge} {g:Option (Nat×Bool)}
theorem A1 {f:FuncId} {a b v:Value} {args:Array Operand} {c:Array TypeId} (h:(callFunc f #[a,b]).run P w= .ok (.value v) w) (i:args.toList.map (ev N σ)= [a,b]):
 (execOp (ev N σ) ⟨dst,.call ⟨.value (.func f),args,c⟩,ty,pos,af,g⟩).run P w= .ok (.value v) w:=by
 have :args.map (ev N σ)= #[a,b]:=by rw [← uL,kJ,i]
 simp [execOp,resolve,ev,nX,invoke,this,h]
end
end Go.Hb
end
section
namespace Go.Hb
theorem P2 {L:List Value} {o:Nat} {v:Value} (h:o < L.length):(L.set o v).take (o+1)=L.take o++ [v]:=by
 rw [List.set_eq_take_append_cons_drop,if_pos h,sG,dT,mE ab,Nat.add_sub_cancel_left,eL (by rw [dT]; omega)]
 rfl
theorem P1 {L:List Value} {o m:Nat} {v:Value} (h:o < m):(L.set o v).drop m=L.drop m:=by
 rw [List.drop_set,if_pos h]
theorem DZ (b e:Nat):∀ (vs:List Value) (o:Nat) (L:List Value) (w:World),w.heap[b]? =some (.cells L.toArray e (0,0))→o+vs.length≤L.length→
 (w.setCells b o vs).heap[b]? =some (.cells (L.take o++vs++L.drop (o+vs.length)).toArray e (0,0))∧Md (fun k=>k=b) w (w.setCells b o vs):=by
 intro vs
 induction vs with
 | nil=>intro o L w a _; exact ⟨by simpa [World.setCells] using a,Md.refl _ _⟩
 | cons v r C=>
   intro o L w a i
   simp only [bT] at i
   have h1:(w.setCell ⟨b,o,none⟩ v).heap[b]? =some (.cells (L.set o v).toArray e (0,0)):=by
    have q:=(cg.1 a).1
    have A:w.heap[b]= .cells L.toArray e (0,0):=(cg.1 a).2
    simp only [uZ]
    rw [Array.getElem?_eq_getElem (by simpa using q),Array.getElem_modify]
    simp [A,List.setIfInBounds_toArray]
   have c:Md (fun k=>k=b) w (w.setCell ⟨b,o,none⟩ v):=⟨rfl,rfl,by simp [uZ],fun k _ hk=>Below.heap_setCell w _ v k hk⟩
   obtain ⟨h2,h3⟩:=C (o+1) (L.set o v) _ h1<|by rw [List.length_set]; omega
   refine ⟨?_,Md.trans c h3⟩
   show ((w.setCell ⟨b,o,none⟩ v).setCells b (o+1) r).heap[b]? =_
   rw [h2,P2 ab,P1 ab,bT,show o+1 +r.length=o+(r.length+1) from by omega]
   simp
section
variable {P:Program} {N:Fm} {σ:Nat→Value} {w:World} {ty:TypeId} {pos :String} {af:Array Edge} {g:Option (Nat×Bool)} {x:Operand} {K:(Nat→Value)→World→Prop}
theorem Jo {t e B n k cp C m:Nat} {a:Option Addr} {xs:List Value} {z:Value} (ae:P.underlying t=some (.slice e)) (ah:zeroV P e=some z) (h1:z.oneCell'=true) (V:w.ownsRow B e 1 (.slice a n cp) n xs)
 (E:ev N σ x= .slice (ez a cp k 1) m C) (hm:m=n - k) (hk:k < n) (ai:∀ w',Md (fun q=>(bz a n cp).ownBlock=some q) w w'→w'.ownsRow B e 1 (.slice a n cp) n (xs.take k++ir (n - k) z)→K σ w'):
 cA P N ⟨none,.call ⟨.builtin .clear,#[x],#[t]⟩,ty,pos,af,g⟩ σ w K:=by
 obtain ⟨I,h⟩:=V
 subst hm
 rcases h with ⟨h,rfl⟩ | ⟨c,aj,cur,h,J,O,hle,M,ad,ag⟩
 · omega
 · simp only [lg,true_and] at h
   obtain ⟨rfl,rfl⟩:=h
   have ac:ez (some ⟨c,0,none⟩) cp k 1=some ⟨c,k,none⟩:=by
    unfold ez; rw [if_neg ab]; simp [kn]
   rw [ac] at E
   have A:w.heap[c]? =some (.cells cur.toList.toArray e (0,0)):=by simpa using O
   have i:cur.toList.length=cp*1:=by rw [r8]; exact ad
   have Z:=FD (P:=P) w t e ty z ae (fun w=>uH ah w) (by cases z <;> first | rfl | (cases h1; done)) h1 c k (n - k) C ab
    (fun j U=>by rw [lA,aX A]; simp; omega) (fun j U=>by simp only [FM,show w.heap[c]? =_ from A]; simp)
   obtain ⟨h2,h3⟩:=DZ c e (ir (n - k) z) k cur.toList w A<|by rw [lU,i]; omega
   refine lN (w':=w.setCells c k<|ir (n - k) z) (v:= .tuple #[]) ?_ (ai _ (h3.mono fun q _ Y=>by subst Y; rfl) ⟨?_,.inr ⟨c,cp,_,aa,J,h2,hle,M,?_,?_⟩⟩)
   · simp [execOp,resolve,invoke,builtin,E,Z]
   · rw [bF,dT,lU,I]; omega
   · simp only [lV,bF,dT,fI,lU,i]; omega
   · rw [lU,qC]
     have G:(cur.toList.take k++ir (n - k) z++cur.toList.drop (k+(n - k))).toArray.toList=(cur.toList.take k++ir (n - k) z)++cur.toList.drop (k+(n - k)):=rfl
     rw [G,sG,bF,dT,lU,i,mE ab,show n - (k+(n - k))=0 by omega,nn,dS,eL (by rw [bF,dT,lU,i]; omega)]
     rw [← ag,Gh,qC,mE ab]
theorem Jp {t e B n cp C m:Nat} {a:Option Addr} {xs:List Value} {z:Value} (ag:P.underlying t=some (.slice e)) (ai:zeroV P e=some z) (h1:z.oneCell'=true) (Y:w.ownsRow B e 1 (.slice a n cp) n xs) (M:a≠none)
 (E:ev N σ x= .slice (ez a cp n 1) m C) (hm:0 < m∧n+m≤cp) (aj:∀ w',Md (fun q=>(bz a n cp).ownBlock=some q) w w'→w'.ownsRow B e 1 (.slice a n cp) n xs→K σ w'):
 cA P N ⟨none,.call ⟨.builtin .clear,#[x],#[t]⟩,ty,pos,af,g⟩ σ w K:=by
 obtain ⟨I,h⟩:=Y
 rcases h with ⟨h,rfl⟩ | ⟨c,ak,cur,h,J,U,hle,O,ae,ah⟩
 · simp only [lg] at h; exact absurd h.1 M
 · simp only [lg,true_and] at h
   obtain ⟨rfl,rfl⟩:=h
   have ad:ez (some ⟨c,0,none⟩) cp n 1=some ⟨c,n,none⟩:=by
    unfold ez; rw [if_neg ab]; simp [kn]
   rw [ad] at E
   have A:w.heap[c]? =some (.cells cur.toList.toArray e (0,0)):=by simpa using U
   have i:cur.toList.length=cp*1:=by rw [r8]; exact ae
   have ac:=FD (P:=P) w t e ty z ag (fun w=>uH ai w) (by cases z <;> first | rfl | (cases h1; done)) h1 c n m C hm.1
    (fun j V=>by rw [lA,aX A]; simp; omega) (fun j V=>by simp only [FM,show w.heap[c]? =_ from A]; simp)
   obtain ⟨h2,h3⟩:=DZ c e (ir m z) n cur.toList w A<|by rw [lU,i]; omega
   refine lN (w':=w.setCells c n<|ir m z) (v:= .tuple #[]) ?_ (aj _ (h3.mono fun q _ Z=>by subst Z; rfl) ⟨I,.inr ⟨c,cp,_,aa,J,h2,hle,O,?_,?_⟩⟩)
   · simp [execOp,resolve,invoke,builtin,E,ac]
   · simp only [lV,bF,dT,fI,lU,i]; omega
   · rw [lU,qC]
     have G:(cur.toList.take n++ir m z++cur.toList.drop (n+m)).toArray.toList=cur.toList.take n++(ir m z++cur.toList.drop (n+m)):=List.append_assoc _ _ _
     rw [G,sG,dT,i,mE ab,Nat.sub_self,nn,dS,eL (by rw [dT]; omega),← ah,qC]
end
end Go.Hb
end
section
namespace Go.Hb
def vA (P:Program) (t:TypeId):Option (List Value):=
 match P.info? t,P.underlying t with
 | some it,some (.array _ e)=>
   match it.zero,P.info? e with
   | some z,some ie=>if ie.size=1 then some z.cells.toList else none
   | _,_=>none
 | _,_=>none
def rM:List Value→List (Nat×Value)→Option (List Value)
 | a,[]=>some a
 | a,(i,v)::r=>if (v.oneCell' && eU i a.length)=true then rM (a.set i v) r else none
theorem Ph {a L:List Value} {ps:List (Nat×Value)} (h:rM a ps=some L):kK (fun i=>some (i*1,1)) a.toArray ps=some L.toArray:=by
 induction ps generalizing a with
 | nil=>simp only [rM,eM] at h; subst h; rfl
 | cons q r C=>
   obtain ⟨i,v⟩:=q
   rw [rM] at h
   split at h
   · rename_i c
     simp only [fi] at c
     have A:=nK c.1
     have E:i < a.length:=n8 c.2
     simp only [kK,A,qC]
     rw [if_neg (by simp; omega)]
     have :=C h
     simp only [qC] at this
     rw [← this]
     simp
   · cases h
section
variable {P:Program} {N:Fm} {σ:Nat→Value} {w:World} {dst:Option Nat} {ty:TypeId} {pos :String} {af:Array Edge} {g:Option (Nat×Bool)}
theorem z7 {t:TypeId} {parts:Array (Nat×Operand)} {a L:List Value} {ps:List (Nat×Value)} (h:vA P t=some a) (hp:parts.toList.map (fun q=>(q.1,ev N σ q.2))=ps) (c:rM a ps=some L):
 (execOp (ev N σ) ⟨dst,.build t parts,ty,pos,af,g⟩).run P w= .ok (.value<|.agg L.toArray) w:=by
 unfold vA at h
 split at h
 · rename_i it n e hi hu
   split at h
   · rename_i z C A he
     split at h
     · rename_i hs
       simp only [eM] at h
       subst h
       have i:P.built t (parts.map fun q=>(q.1,ev N σ q.2)).toList=some L.toArray:=by
        have :=Ph c
        simp only [uK] at this
        simp only [Program.built,hi,hu,A,he,hs,kJ,hp]; exact this
       simp [execOp,run_build w t _ _ i]
     · cases h
   · cases h
 · cases h
end
end Go.Hb
end
section
namespace Go.Hb
abbrev bj:Type :=Tx×List Nat
noncomputable def e8 (F:aE) (row:List Tx):Except Nat bj:=
 if row.length≠1 then .error 111
 else if (bq<|row.getD 0 []).2.2.2≠0 then .error (bq<|row.getD 0 []).2.2.2
 else if fX (bq<|row.getD 0 []).1=false∨(bq<|row.getD 0 []).1= [] then .error 21
 else if 64 < (bq<|row.getD 0 []).1.length then .error 22
 else if (bq<|row.getD 0 []).2.2.1=false then .ok ((bq<|row.getD 0 []).1,[])
 else match e9 F.kind F.aliases (bq<|row.getD 0 []).2.1 with
  | .error e=> .error e
  | .ok set =>if set.all (dJ F)=true then .ok ((bq<|row.getD 0 []).1,set) else .error 120
section
variable {F:aE} {row:List Tx}
theorem KY (h:row.length≠1):e8 F row= .error 111:=if_pos h
theorem wO (h:row.length=1) (h1:(bq<|row.getD 0 []).2.2.2≠0):e8 F row= .error (bq<|row.getD 0 []).2.2.2:=by
 unfold e8; rw [if_neg (fun h2=>h2 h),if_pos h1]
variable (h:row.length=1) (h1:(bq (row.getD 0 [])).2.2.2=0)
include h h1
theorem Bs (h2:fX (bq<|row.getD 0 []).1=false∨(bq<|row.getD 0 []).1= []):e8 F row= .error 21:=by
 unfold e8; rw [if_neg (fun h2=>h2 h),if_neg (fun h2=>h2 h1),if_pos h2]
variable (h2:fX (bq (row.getD 0 [])).1=true) (h3:(bq (row.getD 0 [])).1≠[])
include h2 h3
omit h h1 in
theorem qZ:¬(fX (bq<|row.getD 0 []).1=false∨(bq<|row.getD 0 []).1= []):=fun h=>h.elim (fun h=>by rw [h2] at h; cases h) h3
theorem KZ (h4:64 < (bq<|row.getD 0 []).1.length):e8 F row= .error 22:=by
 unfold e8; rw [if_neg (fun h2=>h2 h),if_neg (fun h2=>h2 h1),if_neg (qZ h2 h3),if_pos h4]
variable (h4:¬64 < (bq (row.getD 0 [])).1.length)
include h4
theorem K0 (h5:(bq<|row.getD 0 []).2.2.1=false):e8 F row= .ok ((bq<|row.getD 0 []).1,[]):=by
 unfold e8; rw [if_neg (fun h2=>h2 h),if_neg (fun h2=>h2 h1),if_neg (qZ h2 h3),if_neg h4,if_pos h5]
variable (h5:(bq (row.getD 0 [])).2.2.1=true)
include h5
theorem La {e:Nat} (a:e9 F.kind F.aliases (bq<|row.getD 0 []).2.1= .error e):e8 F row= .error e:=by
 unfold e8; rw [if_neg (fun h2=>h2 h),if_neg (fun h2=>h2 h1),if_neg (qZ h2 h3),if_neg h4,if_neg (by rw [h5]; exact c8),a]
theorem Lc {set :List Nat} {i:Nat} (a:e9 F.kind F.aliases (bq<|row.getD 0 []).2.1= .ok set) (hi:i < set.length) (c:dJ F (set.getD i 0)=false):e8 F row= .error 120:=by
 unfold e8; rw [if_neg (fun h2=>h2 h),if_neg (fun h2=>h2 h1),if_neg (qZ h2 h3),if_neg h4,if_neg (by rw [h5]; exact c8),a]
 exact if_neg<|by rw [zT 0 hi c]; exact c8
theorem Bt {set :List Nat} (a:e9 F.kind F.aliases (bq<|row.getD 0 []).2.1= .ok set) (c:∀ i,i < set.length→dJ F (set.getD i 0)=true):e8 F row= .ok ((bq<|row.getD 0 []).1,set):=by
 unfold e8; rw [if_neg (fun h2=>h2 h),if_neg (fun h2=>h2 h1),if_neg (qZ h2 h3),if_neg h4,if_neg (by rw [h5]; exact c8),a]
 exact if_pos<|zU 0 c
end
noncomputable def dY (F:aE) (eof:Nat):Nat→List Rw→Except (Nat×Nat) (List bj)
 | 0,[]=> .ok []
 | _+1,[]=> .error (eof,116)
 | 0,(ln,_)::_=> .error (ln,116)
 | n+1,(ln,row)::rows=>match e8 F row with
   | .error e=> .error (ln,e)
   | .ok x=>match dY F eof n rows with
     | .error e=> .error e
     | .ok r=> .ok (x::r)
noncomputable def eQ (F:aE) (t:Tx):Except (Nat×Nat) (List bj):=
 if 65536 < t.length then .error (0,10)
 else match ec t with
  | []=> .error ((cJ t).length+1,116)
  | (ln,row)::rows=>if row.length≠1 then .error (ln,111) else match dQ (row.getD 0 []) 8192 with
    | .error e=> .error (ln,e)
    | .ok n=>dY F ((cJ t).length+1) n rows
def gD (F:aE) (eof:Nat) (T:Except (Nat×Nat) (List bj)) (xs:List bj) (n:Nat) (rows:List Rw):Prop :=
 T=match dY F eof n rows with
  | .error e=> .error e
  | .ok r=> .ok<|xs++r
section
variable {F:aE} {eof n ln:Nat} {T:Except (Nat×Nat) (List bj)} {xs:List bj} {rows:List Rw} {row:List Tx}
theorem gD.start:gD F eof (dY F eof n rows) [] n rows:=by
 unfold gD; cases dY F eof n rows <;> rfl
theorem gD.done (h:gD F eof T xs 0 []):T= .ok xs:=by
 unfold gD at h; rw [dY] at h; simpa using h
theorem gD.ends (h:gD F eof T xs n []) (hn:0 < n):T= .error (eof,116):=by
 obtain ⟨m,rfl⟩:∃ m,n=m+1:=⟨n - 1,ab⟩
 unfold gD at h; rw [dY] at h; exact h
theorem gD.more (h:gD F eof T xs 0 ((ln,row)::rows)):T= .error (ln,116):=by
 unfold gD at h; rw [dY] at h; exact h
theorem gD.bad {e:Nat} (h:gD F eof T xs n ((ln,row)::rows)) (hn:0 < n) (he:e8 F row= .error e):T= .error (ln,e):=by
 obtain ⟨m,rfl⟩:∃ m,n=m+1:=⟨n - 1,ab⟩
 unfold gD at h; rw [dY,he] at h; exact h
theorem gD.step {x:bj} (h:gD F eof T xs n ((ln,row)::rows)) (hn:0 < n) (he:e8 F row= .ok x):gD F eof T (xs++ [x]) (n - 1) rows:=by
 obtain ⟨m,rfl⟩:∃ m,n=m+1:=⟨n - 1,ab⟩
 unfold gD at h ⊢; rw [dY,he] at h
 rw [h,Nat.add_sub_cancel]
 simp only
 cases dY F eof m rows <;> simp
end
section
variable {F:aE} {t:Tx}
theorem KJ (h:65536 < t.length):eQ F t= .error (0,10):=if_pos h
theorem KK (h:¬65536 < t.length) (h1:ec t= []):eQ F t= .error ((cJ t).length+1,116):=by
 unfold eQ; rw [if_neg h,h1]
variable {ln:Nat} {row:List Tx} {rows:List Rw} (h:¬65536 < t.length) (h1:ec t=(ln,row)::rows)
include h h1
theorem KH (h2:row.length≠1):eQ F t= .error (ln,111):=by
 unfold eQ; rw [if_neg h,h1]; exact if_pos h2
theorem KL (h2:row.length=1) {e:Nat} (h3:dQ (row.getD 0 []) 8192= .error e):eQ F t= .error (ln,e):=by
 unfold eQ; rw [if_neg h,h1]; simp only; rw [if_neg (fun h=>h h2),h3]
theorem Bn (h2:row.length=1) {n:Nat} (h3:dQ (row.getD 0 []) 8192= .ok n):eQ F t=dY F ((cJ t).length+1) n rows:=by
 unfold eQ; rw [if_neg h,h1]; simp only; rw [if_neg (fun h=>h h2),h3]
end
theorem Mp {α:Type} {a b:List α} {i:Nat} {d:α} (h:i < a.length):(a++b).getD i d=a.getD i d:=by
 rw [cO,cO,lh h]
def idxs (s:Tx) (xs:List bj):List Nat:=(gB xs.length).filter fun i=>decide ((xs.getD i ([],[])).1=s)
theorem xL (s:Tx) (xs:List bj) (x:bj):idxs s (xs++ [x])=idxs s xs++(if x.1=s then [xs.length] else []):=by
 unfold idxs
 rw [bF,List.length_singleton,List.range_succ,List.filter_append]
 congr 1
 · refine List.filter_congr fun i hi=> ?_
   have hi:i < xs.length:=by simpa using hi
   rw [Mp hi]
 · by_cases a:x.1=s <;> simp [List.filter,a]
theorem CB (s:Tx) (xs:List bj):(idxs s xs).length≤xs.length:=by
 unfold idxs; have :=vg (fun i=>decide ((xs.getD i ([],[])).1=s)) (gB xs.length); simpa using this
theorem Lj {F:aE} {eof:Nat} :∀ {n:Nat} {rows:List Rw} {r:List bj},dY F eof n rows= .ok r→r.length=n∧rows.length=n:=by
 intro n
 induction n with
 | zero=>
   intro rows r h
   cases rows with
   | nil=>rw [dY] at h; cases h; exact ⟨rfl,rfl⟩
   | cons q rows=>rw [dY] at h; cases h
 | succ n a=>
   intro rows r h
   cases rows with
   | nil=>rw [dY] at h; cases h
   | cons q rows=>
     rw [dY] at h
     split at h
     · cases h
     · split at h
       · cases h
       · rename_i h2
         cases h
         have :=a h2
         simp only [bT]; omega
end Go.Hb
end
section
namespace Go.Hb
section
variable {P:Program} {N:Fm} {σ:Nat→Value} {w:World} {dst:Option Nat} {ty:TypeId} {pos :String} {af:Array Edge} {g:Option (Nat×Bool)} {x:Operand}
theorem Hd {t n c b:Nat} (he:ot P t=some (n,c)) (a:ev N σ x= .pointer (some ⟨b,0,none⟩)):
 (execOp (ev N σ) ⟨dst,.slice t x none none none,ty,pos,af,g⟩).run P w= .ok (.value<|.slice (some ⟨b,0,none⟩) n n) w:=by
 unfold ot at he
 cases hd:P.underlying t with
 | none=>rw [hd] at he; cases he
 | some d=>
   rw [hd] at he
   cases d <;> first | (cases he; done) | skip
   rename_i m e
   cases hi:P.info? e with
   | none=>simp [hi] at he
   | some j=>
     simp only [hi,kh,eM,sI] at he
     obtain ⟨rfl,rfl⟩:=he
     simp [execOp,oT,nY,my,a,c7 hd,sizeOf,fR hi,kn]
def xf (P:Program) (t f:Nat):Option (Nat×Nat):=
 match P.underlying t with
 | some (.struct fs)=>(fs[f]?).map fun d=>(d.type,d.offset)
 | _=>none
theorem L0 {t f c off n:Nat} {cs vs:List Value} (h:xf P t f=some (c,off)) (a:cH P c=some (some n)) (C:ev N σ x= .agg cs.toArray) (A:(cs.drop off).take n=vs):
 (execOp (ev N σ) ⟨dst,.field t x f,ty,pos,af,g⟩).run P w= .ok (.value<|.agg vs.toArray) w:=by
 subst A
 unfold xf at h
 cases hd:P.underlying t with
 | none=>rw [hd] at h; cases h
 | some d=>
   rw [hd] at h
   cases d <;> first | (cases h; done) | skip
   rename_i fs
   simp only [nu] at h
   obtain ⟨fd,q,he⟩:=h
   cases he
   unfold cH at a
   cases hd2:P.underlying fd.type with
   | none=>rw [hd2] at a; cases a
   | some d2=>
     rw [hd2] at a
     cases hi:P.info? fd.type with
     | none=>simp [FF,hi] at hd2
     | some i=>
       rw [hi] at a
       have E:cs.toArray.extract fd.offset (fd.offset+n)=((cs.drop fd.offset).take n).toArray:=by simp
       cases d2 <;> first
        | (cases a; done)
        | (simp only [kh,eM] at a; subst a
           simp [execOp,Fw,c7 hd,q,C,asAgg,part,isAgg,c7 hd2,sizeOf,fR hi])
end
end Go.Hb
end
namespace Go.Hb
def ml (ps:List Tx) (w:Tx):Bool:=decide (ps.length≤w.length) && (gB ps.length).all fun i=>et (ps.getD i [])<|w.getD i 0
def qY (ps:List Tx) (w:Tx):Bool:=decide (ps.length≤w.length) && ml ps (w.drop<|w.length - ps.length)
noncomputable def gT (r:cW) (w:Tx):Bool:=
 decide ((dz r.cond).2=0∧r.strip.length < w.length) &&
  (if r.kind=2 then decide (w.drop (w.length - r.strip.length)=r.strip) && qY (dz r.cond).1 w
   else if r.kind=1 then decide (w.take r.strip.length=r.strip) && ml (dz r.cond).1 w else false)
noncomputable def c5 (r:cW) (w:Tx):Option Tx:=if gT r w=true then some (if r.kind=2 then w.take (w.length - r.strip.length)++r.add else r.add++w.drop r.strip.length) else none
def dv:cW:=⟨0,0,false,[],[],[],[],0⟩
def aQ (F:aE) (fs:List Nat) (kind:Nat):List Nat:=(gB F.rules.length).filter fun i=>decide ((F.rules.getD i dv).kind=kind∧(F.rules.getD i dv).flag∈fs)
def flagsOf (xs:List bj) (e:Int):List Nat:=if 0≤e∧e < xs.length then (xs.getD e.toNat ([],[])).2 else []
def cy (F:aE) (r:Int):List Nat:=if 0≤r∧r < F.rules.length then (F.rules.getD r.toNat dv).next else []
def pU (F:aE) (xs:List bj) (e:Int) (k:Nat):Bool:=decide (F.sp.getD k 0≠0∧F.sp.getD k 0∈flagsOf xs e)
def ow (F:aE) (r:Int):Bool:=decide (0≤r∧r < F.rules.length) && !decide (F.sp.getD 0 0≠0∧F.sp.getD 0 0∈cy F r)
structure cV where
 Eg:Tx
 KV:Nat
 fst:Int
 snd:Int
 pre:Int
def l2 (F:aE) (n:Int):Bool:=decide (n= -1) || (F.rules.getD n.toNat dv).fu
def dZ (F:aE) (xs:List bj) (e:Nat) (f s p:Int):Bool:=
 if f= -1 then decide (p≠ -1) || !pU F xs e 0
 else if ow F (if s= -1 then f else s)=false then false
 else decide (p= -1) || (l2 F f && l2 F s && l2 F p)
def kp (F:aE) (xs:List bj) (e:Nat) (word:Tx) (f s:Int):List cV:=if dZ F xs e f s (-1)=true then [⟨word,e,f,s,-1⟩] else []
noncomputable def ib (F:aE) (xs:List bj) (e:Nat) (word:Tx) (f s:Int) (p:Nat):Option cV:=if dZ F xs e f s p=true then (c5 (F.rules.getD p dv) word).map (fun v=>(⟨v,e,f,s,(p:Int)⟩:cV)) else none
noncomputable def eO (F:aE) (xs:List bj) (e:Nat) (word:Tx) (f s:Int):List cV:=kp F xs e word f s++(aQ F (flagsOf xs e) 1).filterMap (ib F xs e word f s)
noncomputable def jv (F:aE) (xs:List bj) (e:Nat) (w:Tx) (s:Int) (z:Nat):List cV:=match c5 (F.rules.getD z dv) w with
 | none=> []
 | some v=>eO F xs e v s z
noncomputable def gu (F:aE) (xs:List bj) (e:Nat) (s:Nat):List cV:=match c5 (F.rules.getD s dv) (xs.getD e ([],[])).1 with
 | none=> []
 | some w=>eO F xs e w s (-1)++(aQ F (cy F s) 2).flatMap (jv F xs e w s)
noncomputable def kX (F:aE) (xs:List bj) (e:Nat):List cV:=
 eO F xs e (xs.getD e ([],[])).1 (-1) (-1)++(aQ F (flagsOf xs e) 2).flatMap (gu F xs e)
def sM (q:cW):Prop :=q.strip.length≤32∧q.add.length≤32∧q.cond.length≤4800
structure mI (F:aE):Prop where
 part:∀ (i:Nat) r,F.rules[i]? =some r→∃ c∈F.bo,c.first≤i∧i < c.first+c.count∧r.flag=c.flag∧r.kind=c.kind
 qT:∀ c∈F.bo,c.first+c.count≤F.rules.length∧∀ i,c.first≤i→i < c.first+c.count→∃ r,F.rules[i]? =some r∧r.flag=c.flag∧r.kind=c.kind
 uniq:(F.bo.map (·.flag)).Nodup
theorem Cq {α:Type} {hd:List Tx} {rd:Nat→List Tx→Except Nat α} {eof:Nat} :∀ (n:Nat) (rows:List Rw) (r:List α×List Rw),group hd rd eof n rows= .ok r→∀ x∈r.1,∃ ln row,rd ln row= .ok x:=by
 intro n
 induction n with
 | zero=>intro rows r h; simp only [group,oR] at h; subst h; intro x a; cases a
 | succ n c=>
   intro rows r h
   cases rows with
   | nil=>simp [group] at h
   | cons q rows=>
     obtain ⟨ln,row⟩:=q
     simp only [group] at h
     split at h
     · cases h
     · cases hr:rd ln row with
       | error e=>rw [hr] at h; cases h
       | ok y=>
         rw [hr] at h
         simp only at h
         cases hg:group hd rd eof n rows with
         | error e=>rw [hg] at h; cases h
         | ok i=>
           rw [hg] at h
           simp only [oR] at h
           subst h
           intro x a
           rcases eK.1 a with a | a
           · exact ⟨ln,row,by rw [a]; exact hr⟩
           · exact c rows i hg x a
theorem Cx {eof ln:Nat} {F F':aE} {hs:List Tx} {rows rows':List Rw} {row:List Tx} (a:bN eof F hs rows ln row= .ok (F',rows')):
 (F'.aliases=F.aliases∧F'.bo=F.bo∧F'.rules=F.rules)∨
 (F'.bo=F.bo∧F'.rules=F.rules∧∃ l,F'.aliases=F.aliases++l∧∀ x∈l,∃ kd s,jJ kd s= .ok x)∨
 (F'.aliases=F.aliases∧∃ c l,F'.bo=F.bo++ [c]∧F'.rules=F.rules++l∧c.first=F.rules.length∧c.count=l.length∧dJ F c.flag=false∧∀ x∈l,∃ ln row,ij F.kind F.aliases c ln row= .ok x):=by
 unfold bN at a
 split at a
 · unfold je at a; split at a <;> cases a; exact .inl ⟨rfl,rfl,rfl⟩
 split at a
 · unfold jM at a
   split at a
   · cases a
   · split at a <;> cases a; exact .inl ⟨rfl,rfl,rfl⟩
 split at a
 · unfold lI at a; split at a <;> cases a; exact .inl ⟨rfl,rfl,rfl⟩
 split at a
 · unfold lK at a; split at a <;> cases a; exact .inl ⟨rfl,rfl,rfl⟩
 split at a
 · unfold jN at a
   split at a
   · cases a
   · split at a <;> cases a; exact .inl ⟨rfl,rfl,rfl⟩
 split at a
 · unfold jQ at a
   split at a
   · cases a
   · split at a <;> cases a; exact .inl ⟨rfl,rfl,rfl⟩
 split at a
 · unfold jn at a
   split at a
   · cases a
   · split at a
     · cases a
     · split at a
       · cases a
       · rename_i r q
         cases a
         refine .inr<|.inl ⟨aa,aa,r.1,aa,fun x a=> ?_⟩
         obtain ⟨ln,row,h⟩:=Cq _ _ _ q x a
         unfold kS at h
         split at h
         · cases h
         · exact ⟨_,_,h⟩
 · unfold gp at a
   split at a
   · cases a
   · rename_i x i
     split at a
     · cases a
     · split at a
       · cases a
       · split at a
         · cases a
         · split at a
           · cases a
           · rename_i r q
             cases a
             refine .inr<|.inr ⟨aa,_,r.1,aa,aa,aa,(tM _ _ _ q).2.1.symm,?_,fun x a=>Cq _ _ _ q x a⟩
             unfold gN at i
             split at i
             · cases i
             · split at i
               · cases i
               · rename_i h; cases i; simpa using h
theorem zK {Q:aE→Prop} (c:Q gH) (A:∀ (eof ln:Nat) (F F':aE) (hs:List Tx) (rows rows':List Rw) (row:List Tx),Q F→bN eof F hs rows ln row= .ok (F',rows')→Q F') {s:Tx} {F:aE} (h:e7 s= .ok F):Q F:=by
 unfold e7 at h
 split at h
 · cases h
 · split at h
   · cases h
   · rename_i f i
     split at h
     · cases h
     · cases h
       have key:∀ (k:Nat) (F F':aE) (hs:List Tx) (rows:List Rw) (eof:Nat),Q F→fP eof k F hs rows= .ok F'→Q F':=by
        intro k
        induction k with
        | zero=>intro F F' hs rows eof h a; rw [fP] at a; split at a <;> cases a; exact h
        | succ k E=>
          intro F F' hs rows eof h a
          cases rows with
          | nil=>simp only [fP,oR] at a; exact a ▸ h
          | cons q rows=>
            rw [fP] at a
            split at a
            · cases a
            · split at a
              · cases a
              · split at a
                · cases a
                · split at a
                  · cases a
                  · rename_i r C
                    exact E _ _ _ _ _ (A _ _ _ _ _ _ _ _ h C) a
       exact key _ _ _ _ _ _ c i
def jl (l:List Nat):Prop :=l.Pairwise (· < ·)∧0∉l
theorem Mh {kind:Nat} {s:Tx} (a:(ee kind s).2=0):jl (ee kind s).1:=by
 unfold ee at a ⊢
 by_cases h1:s= []
 · rw [if_pos h1] at a; cases a
 · rw [if_neg h1] at a ⊢
   by_cases h2:∃ x∈dO kind s,dX kind x=0
   · rw [if_pos h2] at a; cases a
   · rw [if_neg h2] at a ⊢
     by_cases h3:64 < (dO kind s).length
     · rw [if_pos h3] at a; cases a
     · rw [if_neg h3]
       refine ⟨yd _,fun h4=> ?_⟩
       rw [yc,mD] at h4
       exact h2 h4
theorem Cf {kind:Nat} {s:Tx} {l:List Nat} (h:jJ kind s= .ok l):jl l:=by
 unfold jJ at h
 split at h
 · cases h
 · rename_i a
   cases h
   exact Mh<|Classical.not_not.1 a
def o6 (F:aE):Prop :=(∀ l∈F.aliases,jl l)∧∀ q∈F.rules,jl q.next∧sM q
theorem BM {w:Tx} (h:¬fY w≠0):w.length≤32:=by
 unfold fY at h
 split at h
 · exact absurd aw h
 · split at h
   · exact absurd aw h
   · omega
theorem O6 {b:Bool} {fd p:Tx} (h:e0 b fd= .ok p):p.length≤32:=by
 unfold e0 at h
 split at h
 · cases h; exact o3 _
 · split at h
   · cases h
   · split at h
     · cases h
     · split at h
       · cases h
       · rename_i a; cases h; exact BM a
theorem GI {r:kj} {p:Tx} (h:jW r= .ok p):p.length≤32:=by
 unfold jW at h
 split at h
 · cases h
 · split at h
   · cases h; exact o3 _
   · split at h
     · cases h
     · rename_i a; cases h; exact BM a
theorem A2 (s:Tx):(dz s).1.length≤16:=by
 unfold dz
 split
 · simp
 · split
   · simp
   · split
     · simp
     · split
       · simp
       · simp only; omega
theorem P6:∀ {ps:List Tx},ps.length≤16→(nO ps).length≤4800:=by
 have key:∀ ps:List Tx,(ps.flatMap fun t=>j9<|et t).length≤ps.length*300:=by
  intro ps
  induction ps with
  | nil=>exact o3 _
  | cons t ps a=>
    have :=D2<|et t
    rw [iH,bF,bT]; omega
 intro ps h
 unfold nO
 split
 · simp
 · have :=key ps; omega
theorem JI {row:List Tx} {c:Tx} (h:kV row= .ok c):c.length≤4800:=by
 unfold kV at h
 split at h
 · split at h
   · cases h
   · split at h
     · cases h
     · cases h; exact P6<|A2 _
 · cases h; simp
theorem rv:jl []:=⟨.nil,sE⟩
theorem BS {kind:Nat} {al:List (List Nat)} {s:Tx} {l:List Nat} (a:∀ l∈al,jl l) (h:e9 kind al s= .ok l):jl l:=by
 unfold e9 at h
 split at h
 · exact Cf h
 · split at h
   · cases h
   · split at h
     · cases h
     · cases h
       rename_i n _ _
       rw [cO]
       cases hg:al[n - 1]? with
       | none=>exact rv
       | some x=>exact a x<|iL hg
theorem yy {kind ln:Nat} {al:List (List Nat)} {c:dt} {row:List Tx} {q:cW} (A:∀ l∈al,jl l) (h:ij kind al c ln row= .ok q):(jl q.next∧sM q)∧q.flag=c.flag∧q.kind=c.kind∧q.fu=c.fu:=by
 unfold ij at h
 split at h
 · cases h
 · split at h
   · cases h
   · rename_i hp
     split at h
     · cases h
     · rename_i i
       split at h
       · cases h
       · rename_i nx a
         split at h
         · cases h
         · rename_i C
           cases h
           refine ⟨⟨?_,O6 hp,GI i,JI C⟩,aa,aa,aa⟩
           unfold lG at a
           split at a
           · split at a
             · cases a
             · exact BS A a
           · cases a; exact rv
theorem xg {cs:List dt} {x:Nat} (h:(dm cs x).isSome=false):∀ c∈cs,c.flag≠x:=fun c a i=>by
 unfold dm at h
 have h1:cs.find? (fun c=>decide (c.flag=x))=none:=by
  cases h2:cs.find? (fun c=>decide (c.flag=x)) with
  | none=>rfl
  | some y=>rw [h2] at h; cases h
 have :=List.find?_eq_none.1 h1 c a
 simp [i] at this
theorem vq {s:Tx} {F:aE} (h:e7 s= .ok F):o6 F∧mI F:=by
 refine zK (Q:=fun F=>o6 F∧mI F) ⟨⟨fun l U=>(by cases U),fun l U=>by cases U⟩,⟨fun i r h=>(by cases h),fun c h=>(by cases h),.nil⟩⟩ ?_ h
 rintro eof ln F F' hs rows rows' row ⟨C,E⟩ q
 refine ⟨?_,?_⟩
 · rcases Cx q with ⟨h1,_,h3⟩ | ⟨_,h2,l,h3,h4⟩ | ⟨h1,c,l,_,h3,_,_,_,h4⟩
   · exact ⟨h1 ▸ C.1,h3 ▸ C.2⟩
   · refine ⟨fun x q=> ?_,h2 ▸ C.2⟩
     rw [h3] at q
     rcases mC.1 q with q | q
     · exact C.1 x q
     · obtain ⟨_,_,h⟩:=h4 x q; exact Cf h
   · refine ⟨h1 ▸ C.1,fun x q=> ?_⟩
     rw [h3] at q
     rcases mC.1 q with q | q
     · exact C.2 x q
     · obtain ⟨_,_,h⟩:=h4 x q; exact (yy C.1 h).1
 · rcases Cx q with ⟨_,h2,h3⟩ | ⟨h2,h3,_⟩ | ⟨_,c,l,h2,h3,h4,h5,O,Z⟩
   · exact ⟨by rw [h2,h3]; exact E.part,by rw [h2,h3]; exact E.qT,by rw [h2]; exact E.uniq⟩
   · exact ⟨by rw [h2,h3]; exact E.part,by rw [h2,h3]; exact E.qT,by rw [h2]; exact E.uniq⟩
   · have V:∀ i,F.rules.length≤i→i < F.rules.length+l.length→∃ r,F'.rules[i]? =some r∧r.flag=c.flag∧r.kind=c.kind:=fun i G J=>by
      have A:i - F.rules.length < l.length:=ab
      refine ⟨l[i - F.rules.length],?_,?_⟩
      · rw [h3,lS G,cx A]
      · obtain ⟨_,_,h⟩:=Z _ (List.getElem_mem A); exact ⟨(yy C.1 h).2.1,(yy C.1 h).2.2.1⟩
     refine ⟨fun i r G=> ?_,fun d hd=> ?_,?_⟩
     · by_cases J:i < F.rules.length
       · rw [h3,lh J] at G
         obtain ⟨d,hd,A⟩:=E.part i r G
         exact ⟨d,by rw [h2]; exact List.mem_append_left _ hd,A⟩
       · have A:i < F.rules.length+l.length:=by
          have :=(eI.1 G).1; rw [h3,bF] at this; exact this
         obtain ⟨ae,I,M⟩:=V i ab A
         rw [G] at I; cases I
         exact ⟨c,by rw [h2]; exact List.mem_append_right _ (lj.2 aa),ab,ab,M⟩
     · rw [h2] at hd
       rcases mC.1 hd with hd | hd
       · obtain ⟨G,J⟩:=E.qT d hd
         refine ⟨by rw [h3,bF]; omega,fun i A I=> ?_⟩
         obtain ⟨r,M,Y⟩:=J i A I
         exact ⟨r,by rw [h3,lh ab]; exact M,Y⟩
       · obtain rfl :=lj.1 hd
         refine ⟨by rw [h3,bF]; omega,fun i A I=>V i ab ab⟩
     · rw [h2,iK,zy]
       refine ⟨E.uniq,by simp,fun a ac b ad=> ?_⟩
       obtain ⟨d,hd,rfl⟩:=mD.1 ac
       obtain rfl :b=c.flag:=by simpa using ad
       unfold dJ at O
       rw [nW] at O
       exact xg O.2 d hd
theorem Lb {F:aE} {row:List Tx} {x:bj} (a:o6 F) (h:e8 F row= .ok x):jl x.2:=by
 unfold e8 at h
 split at h
 · cases h
 · split at h
   · cases h
   · split at h
     · cases h
     · split at h
       · cases h
       · split at h
         · cases h; exact rv
         · split at h
           · cases h
           · rename_i set hs
             split at h
             · cases h; exact BS a.1 hs
             · cases h
theorem Li {F:aE} (i:o6 F) {eof:Nat} :∀ {n:Nat} {rows:List Rw} {r:List bj},dY F eof n rows= .ok r→∀ x∈r,jl x.2:=by
 intro n
 induction n with
 | zero=>
   intro rows r h
   cases rows with
   | nil=>rw [dY] at h; cases h; intro x a; cases a
   | cons q rows=>rw [dY] at h; cases h
 | succ n A=>
   intro rows r h
   cases rows with
   | nil=>rw [dY] at h; cases h
   | cons q rows=>
     rw [dY] at h
     split at h
     · cases h
     · rename_i x a
       split at h
       · cases h
       · rename_i h2
         cases h
         intro y c
         rcases eK.1 c with rfl | c
         · exact Lb i a
         · exact A h2 y c
theorem KI {F:aE} (a:o6 F) {t:Tx} {xs:List bj} (h:eQ F t= .ok xs):∀ x∈xs,jl x.2:=by
 unfold eQ at h
 split at h
 · cases h
 · split at h
   · cases h
   · split at h
     · cases h
     · split at h
       · cases h
       · exact Li a h
theorem Ld {F:aE} {row:List Tx} {x:bj} (h:e8 F row= .ok x):1≤x.1.length:=by
 unfold e8 at h
 split at h
 · cases h
 · split at h
   · cases h
   · split at h
     · cases h
     · rename_i c
       have h1:1≤(bq<|row.getD 0 []).1.length:=by
        rcases Nat.eq_zero_or_pos (bq<|row.getD 0 []).1.length with a | a
        · exact absurd (Or.inr<|gi a) c
        · exact a
       split at h
       · cases h
       · split at h
         · cases h; exact h1
         · split at h
           · cases h
           · split at h
             · cases h; exact h1
             · cases h
theorem Lk {F:aE} {eof:Nat} :∀ {n:Nat} {rows:List Rw} {r:List bj},dY F eof n rows= .ok r→∀ x∈r,1≤x.1.length:=by
 intro n
 induction n with
 | zero=>
   intro rows r h
   cases rows with
   | nil=>rw [dY] at h; cases h; intro x a; cases a
   | cons q rows=>rw [dY] at h; cases h
 | succ n i=>
   intro rows r h
   cases rows with
   | nil=>rw [dY] at h; cases h
   | cons q rows=>
     rw [dY] at h
     split at h
     · cases h
     · rename_i x a
       split at h
       · cases h
       · rename_i h2
         cases h
         intro y c
         rcases eK.1 c with rfl | c
         · exact Ld a
         · exact i h2 y c
theorem KM {F:aE} {t:Tx} {xs:List bj} (h:eQ F t= .ok xs):∀ x∈xs,1≤x.1.length:=by
 unfold eQ at h
 split at h
 · cases h
 · split at h
   · cases h
   · split at h
     · cases h
     · split at h
       · cases h
       · exact Lk h
theorem pV {F:aE} {fs:List Nat} {k i:Nat} :i∈aQ F fs k↔i < F.rules.length∧(F.rules.getD i dv).kind=k∧(F.rules.getD i dv).flag∈fs:=by
 unfold aQ; simp
theorem De (F:aE) (fs:List Nat) (k:Nat):(aQ F fs k).Pairwise (· < ·):=Sf _ Gc
theorem rH (F:aE) (fs:List Nat) (k:Nat):(aQ F fs k).length≤F.rules.length:=by
 unfold aQ; have :=vg (fun i=>decide ((F.rules.getD i dv).kind=k∧(F.rules.getD i dv).flag∈fs)) (gB F.rules.length); simpa using this
def eX (F:aE) (k f:Nat):List Nat:=match dm F.bo f with
 | some c=>if c.kind=k then (gB c.count).map (c.first+ ·) else []
 | none=> []
theorem BJ {cs:List dt} {x:Nat} {c:dt} (h:dm cs x=some c):c∈cs∧c.flag=x:=⟨List.mem_of_find?_eq_some h,by simpa using List.find?_some h⟩
theorem LF:∀ {cs:List dt},(cs.map (·.flag)).Nodup→∀ c∈cs,dm cs c.flag=some c:=by
 intro cs
 induction cs with
 | nil=>intro _ c h; cases h
 | cons d cs q=>
   intro h c a
   rw [nk,List.nodup_cons] at h
   unfold dm
   rw [List.find?_cons]
   rcases eK.1 a with rfl | a
   · simp
   · have i:¬d.flag=c.flag:=fun h2=>h.1<|mD.2 ⟨c,a,h2.symm⟩
     rw [decide_eq_false i]
     exact q h.2 c a
theorem tP {F:aE} (a:mI F) {k f i:Nat} :i∈eX F k f↔i < F.rules.length∧(F.rules.getD i dv).kind=k∧(F.rules.getD i dv).flag=f:=by
 unfold eX
 constructor
 · intro h
   split at h
   · rename_i c q
     split at h
     · rename_i hk
       obtain ⟨j,I,rfl⟩:=mD.1 h
       rw [sD] at I
       have h1:=BJ q
       obtain ⟨h2,h3⟩:=a.qT c h1.1
       obtain ⟨r,h4,h5,A⟩:=h3 (c.first+j) ab ab
       refine ⟨ab,?_⟩
       rw [cO,h4]
       exact ⟨A.trans hk,h5.trans h1.2⟩
     · cases h
   · cases h
 · rintro ⟨h1,h2,h3⟩
   have h4:F.rules[i]? =some (F.rules.getD i dv):=by rw [cO,cx h1]; rfl
   obtain ⟨c,q,h5,A,E,G⟩:=a.part i _ h4
   have C:=LF a.uniq c q
   rw [← E,h3] at C
   rw [C]
   simp only
   rw [if_pos (G.symm.trans h2)]
   exact mD.2 ⟨i - c.first,sD.2 ab,ab⟩
theorem Jq (F:aE) (k f:Nat):(eX F k f).Nodup:=by
 unfold eX
 split
 · split
   · rw [List.Nodup,Gd]
     exact Sg (fun h=>by omega) Gc
   · exact .nil
 · exact .nil
theorem Dc {F:aE} (c:mI F) {k:Nat} :∀ {fs:List Nat},fs.Pairwise (· < ·)→(fs.flatMap<|eX F k).Nodup∧∀ i,i∈fs.flatMap (eX F k)↔i∈aQ F fs k:=by
 intro fs h
 refine ⟨?_,fun i=> ?_⟩
 · induction fs with
   | nil=>exact .nil
   | cons f fs I=>
     rw [List.pairwise_cons] at h
     rw [iH,zy]
     refine ⟨Jq F k f,I h.2,fun a A b q C=> ?_⟩
     subst C
     obtain ⟨g,G,q⟩:=vk.1 q
     have h1:=(tP c).1 A
     have h2:=(tP c).1 q
     have :=h.1 g G
     omega
 · rw [vk,pV]
   constructor
   · rintro ⟨f,E,hi⟩
     have h1:=(tP c).1 hi
     exact ⟨h1.1,h1.2.1,h1.2.2 ▸ E⟩
   · rintro ⟨h1,h2,h3⟩
     exact ⟨_,h3,(tP c).2 ⟨h1,h2,aa⟩⟩
theorem Qg {F:aE} (A:mI F) {fs:List Nat} (h:fs.Pairwise (· < ·)) (k:Nat):((fs.flatMap<|eX F k).map fun i:Nat=>(i:Int)).mergeSort (fun x y=>decide (x≤y))=(aQ F fs k).map fun i:Nat=>(i:Int):=by
 obtain ⟨h1,h2⟩:=Dc A (k:=k) h
 have hn:=De F fs k
 have hp:=(List.mergeSort_perm ((fs.flatMap<|eX F k).map fun i:Nat=>(i:Int)) fun x y=>decide (x≤y)).trans<|((List.perm_ext_iff_of_nodup h1<|hn.imp fun h=>by omega).2 h2).map _
 refine List.Perm.eq_of_pairwise (le:=fun x y:Int=>decide (x≤y)=true) ?_ (List.pairwise_mergeSort ?_ ?_ _) ?_ hp
 · intro a b _ _ h q; have :=of_decide_eq_true h; have :=of_decide_eq_true q; omega
 · intro a b c h q; have :=of_decide_eq_true h; have :=of_decide_eq_true q; exact decide_eq_true ab
 · intro a b; simp only [Bool.or_eq_true,decide_eq_true_eq]; omega
 · rw [Gd]; exact hn.imp fun h=>decide_eq_true ab
def Ac (l:List cV):Nat:=(l.map fun d=>d.Eg.length).sum
theorem G8 {r:cW} {w v:Tx} (h:c5 r w=some v):r.strip.length < w.length∧v=(if r.kind=2 then w.take (w.length - r.strip.length)++r.add else r.add++w.drop r.strip.length):=by
 unfold c5 at h
 split at h
 · rename_i a
   unfold gT at a
   rw [fi,decide_eq_true_eq] at a
   cases h
   exact ⟨a.1.2,aa⟩
 · cases h
theorem vz {r:cW} {w v:Tx} (a:r.add.length≤32) (h:c5 r w=some v):1≤v.length∧v.length≤w.length+32:=by
 obtain ⟨h1,rfl⟩:=G8 h
 split
 · rw [bF,dT]; omega
 · rw [bF,fI]; omega
def fQ (n:Nat):List Int:=(-1)::(gB n).map fun i:Nat=>(i:Int)
noncomputable def e5 (F:aE) (L:List Nat) (n:Int) (w:Tx):Option Tx:=if n= -1 then some w else if n.toNat∈L then c5 (F.rules.getD n.toNat dv) w else none
noncomputable def jd (F:aE) (xs:List bj) (e:Nat) (f s p:Int):Option Tx:=
 if f= -1∧s≠ -1 then none
 else (e5 F (aQ F (flagsOf xs e) 2) f (xs.getD e ([],[])).1).bind fun w=>(e5 F (aQ F (cy F f) 2) s w).bind fun v=>(e5 F (aQ F (flagsOf xs e) 1) p v).bind fun u=>
  if dZ F xs e f s p=true then some u else none
noncomputable def q5 (F:aE) (xs:List bj) (e:Nat) (f s:Int):List cV:=(fQ F.rules.length).filterMap fun p=>(jd F xs e f s p).map fun u=>(⟨u,e,f,s,p⟩:cV)
noncomputable def tv (F:aE) (xs:List bj) (e:Nat) (f:Int):List cV:=(fQ F.rules.length).flatMap<|q5 F xs e f
theorem LB {α β:Type} {l:List α} {f:α→Option β} (h:∀ x∈l,f x=none):l.filterMap f= []:=by
 induction l with
 | nil=>rfl
 | cons x l c=>rw [vb,h x (oY ..)]; exact c fun y a=>h y<|n7 _ a
theorem pL {α β:Type} {l:List α} {f:α→List β} (h:∀ x∈l,f x= []):l.flatMap f= []:=by
 induction l with
 | nil=>rfl
 | cons x l c=>rw [iH,h x (oY ..),kN]; exact c fun y a=>h y<|n7 _ a
theorem BH {α β:Type} (q:α→Bool) (f:α→List β):∀ l:List α,(l.filter q).flatMap f=l.flatMap fun x=>if q x=true then f x else []:=by
 intro l
 induction l with
 | nil=>rfl
 | cons x l a=>
   by_cases h:q x=true
   · rw [List.filter_cons_of_pos h,iH,iH,if_pos h,a]
   · rw [List.filter_cons_of_neg h,iH,if_neg h,a]; rfl
theorem BV {α β:Type} {f g:α→List β} :∀ {l:List α},(∀ x∈l,f x=g x)→l.flatMap f=l.flatMap g:=by
 intro l h
 induction l with
 | nil=>rfl
 | cons x l c=>rw [iH,iH,h x (oY ..),c fun y a=>h y (n7 _ a)]
theorem LA {α β:Type} {f g:α→Option β} :∀ {l:List α},(∀ x∈l,f x=g x)→l.filterMap f=l.filterMap g:=by
 intro l h
 induction l with
 | nil=>rfl
 | cons x l c=>rw [vb,vb,h x (oY ..),c fun y a=>h y (n7 _ a)]
theorem x4 {F:aE} {fs:List Nat} {k i:Nat} (h:i < F.rules.length):decide ((F.rules.getD i dv).kind=k∧(F.rules.getD i dv).flag∈fs)=decide (i∈aQ F fs k):=by
 rw [decide_eq_decide,pV]; exact ⟨fun h2=>⟨h,h2⟩,fun h2=>h2.2⟩
theorem oN {F:aE} {L:List Nat} (i:Nat) (w:Tx):e5 F L (i:Int) w=if i∈L then c5 (F.rules.getD i dv) w else none:=by
 unfold e5; rw [if_neg ab,Int.toNat_natCast]
theorem rX {F:aE} {L:List Nat} (w:Tx):e5 F L (-1) w=some w:=by unfold e5; rw [if_pos rfl]
theorem wT {F:aE} {xs:List bj} {e:Nat} {f s:Int} {v:Tx} (h:∀ p,jd F xs e f s p=(e5 F (aQ F (flagsOf xs e) 1) p v).bind fun u=>if dZ F xs e f s p=true then some u else none):q5 F xs e f s=eO F xs e v f s:=by
 unfold q5 fQ eO
 rw [vb,List.filterMap_map]
 have h1:(jd F xs e f s<|-1).map (fun u=>(⟨u,e,f,s,-1⟩:cV))=if dZ F xs e f s (-1)=true then some ⟨v,e,f,s,-1⟩ else none:=by
  rw [h,rX,nq]; split <;> rfl
 have h2:(gB F.rules.length).filterMap ((fun p=>(jd F xs e f s p).map fun u=>(⟨u,e,f,s,p⟩:cV))∘fun i:Nat=>(i:Int))=(aQ F (flagsOf xs e) 1).filterMap (ib F xs e v f s):=by
  have h3:aQ F (flagsOf xs e) 1=(gB F.rules.length).filter fun i=>decide ((F.rules.getD i dv).kind=1∧(F.rules.getD i dv).flag∈flagsOf xs e):=rfl
  rw [h3,List.filterMap_filter]
  refine LA fun i hi=> ?_
  have hi:i < F.rules.length:=by simpa using hi
  rw [x4 hi]
  show (jd F xs e f s (i:Int)).map _=_
  rw [h,oN]
  unfold ib
  by_cases h4:i∈aQ F (flagsOf xs e) 1
  · rw [if_pos h4,if_pos (decide_eq_true h4)]
    cases c5 (F.rules.getD i dv) v with
    | none=>simp
    | some u=>simp only [nq]; split <;> rfl
  · rw [if_neg h4,if_neg (by rw [decide_eq_false h4]; exact c8)]; rfl
 rw [h1,h2]
 unfold kp
 split
 · rename_i h3; split at h3
   · cases h3
   · rename_i h4; rw [if_neg h4]; rfl
 · rename_i x h3; split at h3
   · rename_i h4; cases h3; rw [if_pos h4]; rfl
   · cases h3
theorem q6 {F:aE} {xs:List bj} {e:Nat} {f s:Int} (h:∀ p,jd F xs e f s p=none):q5 F xs e f s= []:=LB fun p _=>by rw [h p]; rfl
theorem KC (F:aE) (xs:List bj) (e:Nat):kX F xs e=(fQ F.rules.length).flatMap (tv F xs e):=by
 unfold fQ
 rw [iH,FX]
 unfold kX
 congr 1
 · unfold tv fQ
   rw [iH,pL,dS,wT (v:=(xs.getD e ([],[])).1)]
   · intro p; unfold jd; rw [if_neg (fun h=>h.2 rfl),rX,nq,rX,nq]
   · intro s hs
     obtain ⟨j,_,rfl⟩:=mD.1 hs
     exact q6 fun p=>by unfold jd; rw [if_pos ⟨aa,ab⟩]
 · have h3:aQ F (flagsOf xs e) 2=(gB F.rules.length).filter fun i=>decide ((F.rules.getD i dv).kind=2∧(F.rules.getD i dv).flag∈flagsOf xs e):=rfl
   conv =>lhs; rw [h3]
   rw [BH]
   refine BV fun i hi=> ?_
   have hi:i < F.rules.length:=by simpa using hi
   rw [x4 hi]
   have hm:∀ s p,jd F xs e (i:Int) s p=(e5 F (aQ F (flagsOf xs e) 2) (i:Int) (xs.getD e ([],[])).1).bind fun w=>(e5 F (aQ F (cy F (i:Int)) 2) s w).bind fun v=>(e5 F (aQ F (flagsOf xs e) 1) p v).bind fun u=>
    if dZ F xs e (i:Int) s p=true then some u else none:=fun s p=>by unfold jd; rw [if_neg (fun h=>by have :=h.1; omega)]
   by_cases h4:i∈aQ F (flagsOf xs e) 2
   · rw [if_pos (decide_eq_true h4)]
     unfold gu
     cases h5:c5 (F.rules.getD i dv) (xs.getD e ([],[])).1 with
     | none=>
       have :∀ s p,jd F xs e (i:Int) s p=none:=fun s p=>by rw [hm,oN,if_pos h4,h5]; rfl
       exact (pL fun s _=>q6 fun p=>this s p).symm
     | some w=>
       have c:∀ s p,jd F xs e (i:Int) s p=(e5 F (aQ F (cy F (i:Int)) 2) s w).bind fun v=>(e5 F (aQ F (flagsOf xs e) 1) p v).bind fun u=>if dZ F xs e (i:Int) s p=true then some u else none:=fun s p=>by rw [hm,oN,if_pos h4,h5]; rfl
       simp only
       unfold tv fQ
       rw [iH,FX,wT (v:=w) fun p=>by rw [c,rX]; rfl]
       congr 1
       have A:aQ F (cy F (i:Int)) 2=(gB F.rules.length).filter fun z=>decide ((F.rules.getD z dv).kind=2∧(F.rules.getD z dv).flag∈cy F (i:Int)):=rfl
       conv =>lhs; rw [A]
       rw [BH]
       refine BV fun z q=> ?_
       have q:z < F.rules.length:=by simpa using q
       rw [x4 q]
       by_cases a:z∈aQ F (cy F (i:Int)) 2
       · rw [if_pos (decide_eq_true a)]
         unfold jv
         cases h8:c5 (F.rules.getD z dv) w with
         | none=>exact (q6 fun p=>by rw [c,oN,if_pos a,h8]; rfl).symm
         | some v=>exact (wT (v:=v) fun p=>by rw [c,oN,if_pos a,h8]; rfl).symm
       · rw [if_neg (by rw [decide_eq_false a]; exact c8)]
         exact (q6 fun p=>by rw [c,oN,if_neg a]; rfl).symm
   · rw [if_neg (by rw [decide_eq_false h4]; exact c8)]
     exact (pL fun s _=>q6 fun p=>by rw [hm,oN,if_neg h4]; rfl).symm
end Go.Hb
section
namespace Go.Hb
structure Gw (B:Nat) (fp:Nat→Prop) (w:World) (fp':Nat→Prop) (w':World):Prop where
 sub:∀ k,fp' k→fp k∨w.heap.size≤k
 dE:∀ (k:Nat) (cs:Array Value) (e:Nat) (z:Nat×Nat),B≤k→¬fp k→w.heap[k]? =some (.cells cs e z)→w'.heap[k]? =some (.cells cs e z)
 size:w.heap.size≤w'.heap.size
section
variable {B B':Nat} {fp fp' fp'':Nat→Prop} {w w' w'':World}
theorem Gw.trans (h:Gw B fp w fp' w') (a:Gw B fp' w' fp'' w''):Gw B fp w fp'' w'':=
 ⟨fun k hk=>(a.sub k hk).elim (h.sub k) (fun h2=> .inr<|eV h.size h2),
  fun k cs e z c hn hk=>a.dE k cs e z c (fun h2=>(h.sub k h2).elim hn fun h3=>by have :=(cg.1 hk).1; omega) (h.dE k cs e z c hn hk),eV h.size a.size⟩
theorem Gw.mono (h:Gw B fp w fp' w') (a:B≤B'):Gw B' fp w fp' w':=⟨h.sub,fun k cs e z hk=>h.dE k cs e z (eV a hk),h.size⟩
theorem Gw.md {G:Nat→Prop} (hm:Md G w w') (a:∀ k,G k→fp k∨k < B) (hs:∀ k,fp' k→fp k∨w.heap.size≤k):Gw B fp w fp' w':=
 ⟨hs,fun k cs e z c hn hk=>by rw [hm.dE k (cg.1 hk).1 (fun h=>(a k h).elim hn fun h2=>by omega)]; exact hk,hm.size⟩
theorem Gw.wk (hm:Wk w w'):Gw B fp w fp w':=Gw.md hm (fun _ h=>h.elim) fun _ h=> .inl h
theorem Gw.own {e size n:Nat} {v:Value} {xs:List Value} (h:Gw B fp w fp' w') (a:w.ownsRow B e size v n xs) (i:∀ k,v.ownBlock=some k→¬fp k):w'.ownsRow B e size v n xs∧∀ k,v.ownBlock=some k→¬fp' k:=by
 refine ⟨⟨a.1,?_⟩,fun k hk h2=>(h.sub k h2).elim (i k hk) fun h3=>by have :=(dd a hk).2; omega⟩
 rcases a.2 with h1 | ⟨g,cap,cur,q,c,A,h1⟩
 · exact .inl h1
 · exact .inr ⟨g,cap,cur,q,c,h.dE g cur e (0,0) c (i g<|by rw [q]; rfl) A,h1⟩
theorem Gw.aB {k e:Nat} {cs:Array Value} {z:Nat×Nat} (h:Gw B fp w fp' w') (hk:w.heap[k]? =some (.cells cs e z)) (c:B≤k) (a:¬fp k):w'.heap[k]? =some (.cells cs e z)∧¬fp' k:=
 ⟨h.dE k cs e z c a hk,fun h2=>(h.sub k h2).elim a fun h3=>by have :=(cg.1 hk).1; omega⟩
end
def vp {α:Type} (B:Nat) (a:List α→(Nat→Prop)→World→Prop):Prop := ∀ pre fp W W' (F:Nat→Prop),a pre fp W→Md F W W'→(∀ k,F k→B≤k∧∀ cur e z,W.heap[k]? =some (.cells cur e z)→¬fp k)→a pre fp W'
section
variable {F fp:Nat→Prop} {W W':World} {B:Nat}
theorem nQ {b e:Nat} {cs:Array Value} {z:Nat×Nat} (h:W.heap[b]? =some (.cells cs e z)) (hm:Md F W W') (c:b < B) (a:∀ k,F k→B≤k∧∀ cur e z,W.heap[k]? =some (.cells cur e z)→¬fp k):W'.heap[b]? =some (.cells cs e z):=by
 rw [hm.dE b (cg.1 h).1 (fun hk=>by have :=(a b hk).1; omega)]; exact h
theorem Eh {B' e size n:Nat} {v:Value} {xs:List Value} (h:W.ownsRow B' e size v n xs) (hm:Md F W W') (q:∀ k,v.ownBlock=some k→fp k) (a:∀ k,F k→B≤k∧∀ cur e z,W.heap[k]? =some (.cells cur e z)→¬fp k):W'.ownsRow B' e size v n xs:=
 bZ h hm fun k hk c=>by
  rcases h.2 with ⟨rfl,_⟩ | ⟨g,cap,A,rfl,_,i,_⟩
  · simp [gh] at hk
  · simp only [gh,eM] at hk; subst hk; exact (a _ c).2 _ _ _ i<|q _ rfl
theorem Ei {w:World} (h:Wk w W) (hm:Md F W W') (i:w.heap.size≤B) (a:∀ k,F k→B≤k∧∀ cur e z,W.heap[k]? =some (.cells cur e z)→¬fp k):Wk w W':=Md.trans' h hm fun k hk c=>by have :=(a k c).1; omega
end
def GB {α:Type} (B:Nat) (a:Bool→List α→(Nat→Prop)→World→Prop):Prop := ∀ b pre fp W W' (F:Nat→Prop),a b pre fp W→Md F W W'→(∀ k,F k→B≤k∧¬fp k∧∃ cs e z,W.heap[k]? =some (.cells cs e z))→a b pre fp W'
structure Yc {α:Type} (P:Program) (l B:Nat) (encs:α→Array Value) (xs:List α) (Cap:World→Prop) (J:Bool→List α→(Nat→Prop)→World→Prop):Prop where
 cap:∀ b pre fp W,J b pre fp W→Cap W
 lt:∀ b pre fp W,J b pre fp W→∀ k,fp k→k < W.heap.size
 st:GB B J
 yl:∀ pre x rest fp W1,xs=pre++x::rest→J true pre fp W1→YieldAt gd 0 P l (encs x) W1 fun e W'=> ∃ b,e= .returned (.bool b)∧∃ fp',J b (pre++ [x]) fp' W'∧Gw B fp W1 fp' W'
theorem Yc.wk {α:Type} {P:Program} {l B:Nat} {i:α→Array Value} {xs:List α} {c:World→Prop} {a:Bool→List α→(Nat→Prop)→World→Prop} (h:Yc P l B i xs c a) {b:Bool} {pre:List α} {fp:Nat→Prop} {W W':World} (q:a b pre fp W) (hm:Wk W W'):a b pre fp W':=
 h.st _ _ _ _ _ _ q hm fun _ hk=>hk.elim
theorem Gw.C6 {B:Nat} {fp fp':Nat→Prop} {w a w':World} (h:Gw B fp w fp' a) {G:Nat→Prop} (hm:Md G a w') (i:∀ k,G k→w.heap.size≤k):Gw B fp w fp' w':=
 ⟨h.sub,fun k cs e z c hn hk=>by
  have h1:=(cg.1 hk).1
  rw [hm.dE k (Nat.lt_of_lt_of_le h1 h.size) (fun h2=>by have :=i k h2; omega)]; exact h.dE k cs e z c hn hk,eV h.size hm.size⟩
theorem Yc.rN {α:Type} {P:Program} {l B:Nat} {A:α→Array Value} {i:List α} {c:World→Prop} {a:Bool→List α→(Nat→Prop)→World→Prop} (h:Yc P l B A i c a) {b:Bool} {pre:List α} {fp:Nat→Prop} {W W':World} (E:a b pre fp W) {k e:Nat} {cs:Array Value} {z:Nat×Nat} (hk:W.heap[k]? =some (.cells cs e z)) (C:B≤k) (G:¬fp k) (hm:Md (fun q=>q=k) W W'):a b pre fp W':=
 h.st _ _ _ _ _ _ E hm fun q I=>by subst I; exact ⟨C,G,_,_,_,hk⟩
theorem Yc.Rt {α:Type} {P:Program} {l B:Nat} {q:α→Array Value} {xs:List α} {a c:World→Prop} {i:Bool→List α→(Nat→Prop)→World→Prop} (h:Yc P l B q xs a i) (C:∀ W,a W→c W):Yc P l B q xs c i:=
 ⟨fun b pre fp W A=>C W (h.cap b pre fp W A),h.lt,h.st,h.yl⟩
def zH {α:Type} (P:Program) (q:Nat) (A:Array Value) (i:α→Array Value) (xs:List α) (c:World→Prop):Prop :=
 ∀ (l:Nat) (a:Bool→List α→(Nat→Prop)→World→Prop) (W:World),a true [] (fun _=>False) W→Yc P l W.heap.size i xs c a→
   Calls P q (#[.func (.yield l) #[] #[]]++A) W fun e W'=>(∃ v,e= .returned v)∧∃ b pre fp,a b pre fp W'∧pre <+:xs∧(b=true→pre=xs)
def PJ (id B:Nat) (fp:Nat→Prop) (W:World) (R:(Nat→Prop)→World→Prop) (X:Bool→(Nat→Prop)→World→Prop):Exit→(Nat→Value)→World→Prop
 | .normal,_,w=>e6 W w∧∃ fp',Gw B fp W fp' w∧R fp' w
 | .exit i,_,w=>i=id∧e6 W w∧∃ fp',Gw B fp W fp' w∧X false fp' w
 | .ret,_,w=>e6 W w∧∃ fp',Gw B fp W fp' w∧X true fp' w
 | _,_,_=>False
def xO (id:Nat):Bool→Code
 | true => .ret
 | false => .exit id
theorem He {α:Type} {f:α→List Value} {e:Nat} (x:α) (b:Nat) (W W':World) (F:Nat→Prop) (h:W.heap[b]? =some (.cells (f x).toArray e (0,0))) (hm:Md F W W') (a:∀ k,F k→∀ cur e z,W.heap[k]?≠some (.cells cur e z)):W'.heap[b]? =some (.cells (f x).toArray e (0,0)):=by
 rw [hm.dE b (cg.1 h).1 (fun hk=>a b hk _ _ _ h)]; exact h
def JX {α:Type} (a:List α→(Nat→Prop)→World→Prop) (X:Bool→List α→(Nat→Prop)→World→Prop) (S:World→Prop) (T:Bool→World→Prop):Bool→List α→(Nat→Prop)→World→Prop
 | true,pre,fp,W=>a pre fp W∧S W
 | false,pre,fp,W=> ∃ r,X r pre fp W∧T r W
theorem PL {α:Type} {P:Program} {id n:Nat} {Y:List Deferred} {g:Operand} {ps:Array Tmp} {ap body:Code} {Fx:List Nat} {σ:Nat→Value} {w:World} {B:Exit→Act→World→Prop} {ah:Nat} {ai:Array Value}
 (ad:α→Array Value) (xs:List α) (au:World→Prop) (q:List α→(Nat→Prop)→World→Prop) (X:Bool→List α→(Nat→Prop)→World→Prop) (aS:ev ⟨n,Y,Fx,none⟩ σ g= .func (.func ah) #[] ai) (aP:a8 P ah) (a0:∀ x,(ad x).size=ps.size)
 (aT:zH P ah ai ad xs au) (aJ:q [] (fun _=>False) w) (ay:∀ pre fp W,q pre fp W→au W∧∀ k,fp k→k < W.heap.size) (az:∀ r pre fp W,X r pre fp W→au W∧∀ k,fp k→k < W.heap.size) (Z:vp w.heap.size q) (al:∀ r,vp w.heap.size (X r)) (A:α→Nat→World→Prop) (aH:∀ x b W W' (F:Nat→Prop),A x b W→Md F W W'→(∀ k,F k→∀ cur e z,W.heap[k]?≠some (.cells cur e z))→A x b W') (aE:α→Nat→Nat→Value)
 (aN:∀ (l:Nat) (x:α) (W:World) (K:(Nat→Value)→World→Prop),(∀ b W',Wk W W'→A x b W'→K (aE x b) W')→cB P ⟨n,[],[],some l⟩ ap (jT K fun _ _ _=>False) ((ps.toList.zip (ad x).toList).foldl (fun s p=>cz s p.1 p.2) σ) W)
 (aO:∀ (l:Nat) (pre:List α) (x:α) (rest:List α) (fp:Nat→Prop) (b:Nat) (W:World),xs=pre++x::rest→q pre fp W→A x b W→cB P ⟨n,[],[],some l⟩ body (PJ id w.heap.size fp W (q<|pre++ [x]) fun r=>X r<|pre++ [x]) (aE x b) W)
 (hd:∀ (D:Nat) (W:World),w.heap.size≤D→(∃ fp,q xs fp W)→W.heap[D]? =some (.deferred<|some [])→qb ⟨n,{target:= .collected D,args:= #[]} ::Y,Fx,none⟩ B .normal σ W)
 (a3:∀ (D:Nat) (W:World) (pre:List α),w.heap.size≤D→pre <+:xs→(∃ fp,X false pre fp W)→W.heap[D]? =some (.deferred<|some [])→qb ⟨n,{target:= .collected D,args:= #[]} ::Y,Fx,none⟩ B .normal σ W)
 (a4:∀ (D:Nat) (W:World) (pre:List α),w.heap.size≤D→pre <+:xs→(∃ fp,X true pre fp W)→W.heap[D]? =some (.deferred<|some [])→qb ⟨n,{target:= .collected D,args:= #[]} ::Y,Fx,none⟩ B .ret σ W):
 lL P ⟨n,Y,Fx,none⟩ (.block id<|.rangeFunc g ps ap body) B σ w:=by
 refine wpIn_block<|wpIn_rangeFunc ?_
 intro fn _
 obtain ⟨rc,O⟩:∃ rc:LoopState→Option Code→Loop,rc=fun st a5=> {state:=st,pending:=a5,fn,tmps:=(act ⟨n,Y,Fx,none⟩ σ).tmps,params:=ps,assign:=ap,body,defers:=w.heap.size} :=⟨_,rfl⟩
 obtain ⟨G,ak⟩:∃ G,(w.alloc<|.deferred<|some []).alloc (.loop<|rc .ready none)=G:=⟨_,rfl⟩
 have aM:G.heap[w.heap.size+1]? =some (.loop<|rc .ready none):=by
  rw [← ak]; have :=uX (w.alloc<|.deferred<|some []) (.loop<|rc .ready none); rwa [FO] at this
 have aL:G.heap[w.heap.size]? =some (.deferred<|some []):=by
  rw [← ak]; exact (Below.heap_alloc _ _ _<|by simp).trans<|uX w _
 have a7:G.heap.size=w.heap.size+2:=by rw [← ak]; simp
 have hn:∀ (W:World) (o:Obj),Wk W (W.alloc o):=fun W o=>(ya W o).md
 have aK:q [] (fun _=>False) G:=by rw [← ak]; exact Z _ _ _ _ _ (Z _ _ _ _ _ aJ (hn _ _) fun _ h=>h.elim) (hn _ _) fun _ h=>h.elim
 have aQ:(act ⟨n,Y,Fx,none⟩ σ).eval g= .func (.func ah) #[] ai:=by rw [fq]; exact aS
 refine ⟨w.heap.size+1,[{target:= .collected w.heap.size,args:= #[]}],G,{target:= .fn (.func ah) ai,args:= #[.func (.yield<|w.heap.size+1) #[] #[]]},G,ah,
  #[.func (.yield<|w.heap.size+1) #[] #[]]++ai,G,?_,?_,fun _ _=>trivial,?_,fun aG=>(by cases aG),?_⟩
 · rw [← ak,O]; exact run_enterLoop_outer _ _ _ _ _
 · simp only [resolve,aQ]
   simp [go_sem]
 · have :=aP (#[.func (.yield<|w.heap.size+1) #[] #[]]++ai) G
   simp [invoke,go_sem,this]
 ·
  have ag:∀ (q:List α→(Nat→Prop)→World→Prop),vp w.heap.size q→∀ (pre:List α) (fp:Nat→Prop) (W:World) (o aj:Obj),q pre fp W→W.heap[w.heap.size+1]? =some o→(∀ cur e z,o≠.cells cur e z)→q pre fp (W.putObj (w.heap.size+1) aj):=fun q Z pre fp W o aj h1 h2 h3=>
   Z _ _ _ _ _ h1 (k0 W _ aj) fun k hk=>⟨ab,fun cur e z h4=>by subst hk; rw [h2] at h4; exact absurd (qD h4)<|h3 _ _ _⟩
  have aA:∀ (fp:Nat→Prop) (W:World) (o aj:Obj),W.heap[w.heap.size+1]? =some o→(∀ cur e z,o≠.cells cur e z)→Gw w.heap.size fp W fp (W.putObj (w.heap.size+1) aj):=fun fp W o aj h2 h3=>
   ⟨fun _ h=> .inl h,fun k cs e z _ _ hk=>by
    rw [mA (fun h=>by subst h; rw [h2] at hk; exact h3 _ _ _<|qD hk)]; exact hk,by simp [FN]⟩
  have aw:∀ {F:Nat→Prop} {A C:World},Md F A C→∀ (k:Nat) (o:Obj),A.heap[k]? =some o→¬F k→C.heap[k]? =some o:=fun hm k o an aR=>by
   rw [hm.dE k (cg.1 an).1 aR]; exact an
  refine callsIn_wide.2 (kf (aT (w.heap.size+1)
   (JX q X (fun W=>W.heap[w.heap.size+1]? =some (.loop<|rc .ready none)∧W.heap[w.heap.size]? =some (.deferred<|some [])) fun r W=>W.heap[w.heap.size+1]? =some (.loop<|rc .done<|some<|xO id r)∧W.heap[w.heap.size]? =some (.deferred<|some []))
   G ⟨aK,aM,aL⟩ ⟨fun b pre fp W h=>match b,h with
    | true,h=>(ay pre fp W h.1).1
    | false,⟨r,h,_⟩=>(az r pre fp W h).1,fun b pre fp W h=>match b,h with
    | true,h=>(ay pre fp W h.1).2
    | false,⟨r,h,_⟩=>(az r pre fp W h).2,?_,?_⟩) ?_)
  · intro b pre fp A C F h hm av
    have ax:∀ k,F k→w.heap.size≤k∧∀ cur e z,A.heap[k]? =some (.cells cur e z)→¬fp k:=fun k hk=>⟨by have :=(av k hk).1; omega,fun _ _ _ _=>(av k hk).2.1⟩
    have J:∀ (k:Nat) (o:Obj),A.heap[k]? =some o→(∀ cur e z,o≠.cells cur e z)→C.heap[k]? =some o:=fun k o an aY=>aw hm k o an fun hk=>by
     obtain ⟨cs,e,z,h5⟩:=(av k hk).2.2; rw [an] at h5; exact aY _ _ _<|qD h5
    cases b with
    | true =>exact ⟨Z _ _ _ _ _ h.1 hm ax,J _ _ h.2.1 (fun _ _ _ h=>by cases h),J _ _ h.2.2 fun _ _ _ h=>by cases h⟩
    | false =>
      obtain ⟨r,h1,h2,h3⟩:=h
      exact ⟨r,al r _ _ _ _ _ h1 hm ax,J _ _ h2 (fun _ _ _ h=>by cases h),J _ _ h3 fun _ _ _ h=>by cases h⟩
  · rintro pre x rest fp W a2 ⟨hi,E,hk⟩
    have aC:=run_yield (P:=P) (args:=ad x) E<|by rw [O]; exact a0 x
    rw [O] at aC
    refine ⟨fn,_,ap,body,aC,roundIn_of_wpIn (F:=gd) trivial ?_⟩
    have a1:((ps.zip<|ad x).foldl (fun tmps (p:Tmp×Value)=>tmps.setIfInBounds p.1 p.2) (act ⟨n,Y,Fx,none⟩ σ).tmps)=(act ⟨n,[],[],some<|w.heap.size+1⟩<|(ps.toList.zip (ad x).toList).foldl (fun s p=>cz s p.1 p.2) σ).tmps:=by
     rw [← yW,Fb]
     exact zJ ⟨n,[],[],some<|w.heap.size+1⟩ _ σ
    have h1:=aN (w.heap.size+1) x W (fun U W'=> ∃ aD,(Fv<|w.heap.size+1).run P W'= .ok () aD∧
     body.wpIn (gd.inRound<|w.heap.size+1) 0 P (roundPost P (w.heap.size+1) fun e W'=> ∃ b,e= .returned (.bool b)∧∃ fp',JX q X (fun W=>W.heap[w.heap.size+1]? =some (.loop<|rc .ready none)∧W.heap[w.heap.size]? =some (.deferred<|some [])) (fun r W=>W.heap[w.heap.size+1]? =some (.loop<|rc .done<|some<|xO id r)∧W.heap[w.heap.size]? =some (.deferred<|some [])) b (pre++ [x]) fp' W'∧Gw G.heap.size fp W fp' W') (act ⟨n,[],[],some<|w.heap.size+1⟩ U) aD) ?_
    · unfold cB at h1
      have aF:({tmps:=(ps.zip<|ad x).foldl (fun tmps (p:Tmp×Value)=>tmps.setIfInBounds p.1 p.2) (act ⟨n,Y,Fx,none⟩ σ).tmps,defers:= []} :Act)=act ⟨n,[],[],some<|w.heap.size+1⟩ ((ps.toList.zip (ad x).toList).foldl (fun s p=>cz s p.1 p.2) σ):=by rw [a1]; rfl
      rw [aF]
      refine wpIn_mono h1 ?_
      intro e a w' M
      cases e with
      | normal=>obtain ⟨U,rfl,ac⟩:=M; exact ac
      | panic c=>obtain ⟨U,rfl,ac⟩:=M; exact ac U fun _ _=>rfl
      | outgrown=>exact M.elim
      | _=>obtain ⟨U,rfl,ac⟩:=M; exact ac
    intro b V aq aI
    have hi:=Z _ _ _ _ _ hi aq fun _ h=>h.elim
    have E:=aw aq _ _ E fun h=>h
    have hk:=aw aq _ _ hk fun h=>h
    have aX:w.heap.size+1 < V.heap.size:=(cg.1 E).1
    refine ⟨_,run_beginRound E (by rw [O]),?_⟩
    have aW:(V.putObj (w.heap.size+1)<|.loop {rc .ready none with state:= .busy}).heap[w.heap.size+1]? =some (.loop {rc .ready none with state:= .busy}):=uY aX
    have aU:(V.putObj (w.heap.size+1)<|.loop {rc .ready none with state:= .busy}).heap[w.heap.size]? =some (.deferred<|some []):=(mA ab).trans hk
    have aZ:=aA fp V _ (.loop {rc .ready none with state:= .busy}) E fun _ _ _ h=>by cases h
    have h2:=aO (w.heap.size+1) pre x rest fp b _ a2 (ag q Z _ _ _ _ (.loop {rc .ready none with state:= .busy}) hi E fun _ _ _ h=>by cases h)<|aH _ _ _ _ _ aI (k0 V (w.heap.size+1) _) fun k hk cur e z h4=>by subst hk; rw [E] at h4; cases h4
    unfold cB at h2
    refine wpIn_mono h2 ?_
    have fin:∀ (j:Option Code) (fp':Nat→Prop) (I:World),e6 (V.putObj (w.heap.size+1)<|.loop {rc .ready none with state:= .busy}) I→Gw w.heap.size fp (V.putObj (w.heap.size+1)<|.loop {rc .ready none with state:= .busy}) fp' I→
     (Instr.endRound (w.heap.size+1) j).run P I= .ok (.bool j.isNone) (I.putObj (w.heap.size+1)<|.loop<|rc (if j.isNone then .ready else .done) j)∧
     I.heap[w.heap.size+1]? =some (.loop {rc .ready none with state:= .busy})∧
     (I.putObj (w.heap.size+1)<|.loop<|rc (if j.isNone then .ready else .done) j).heap[w.heap.size+1]? =some (.loop<|rc (if j.isNone then .ready else .done) j)∧
     (I.putObj (w.heap.size+1)<|.loop<|rc (if j.isNone then .ready else .done) j).heap[w.heap.size]? =some (.deferred<|some [])∧
     Gw G.heap.size fp W fp' (I.putObj (w.heap.size+1)<|.loop<|rc (if j.isNone then .ready else .done) j):=fun j fp' I J ae=>by
     have ar:=J _ _ aW fun _ _ _ h=>by cases h
     have aV:=J _ _ aU fun _ _ _ h=>by cases h
     have aB:=run_endRound (P:=P) j ar
     refine ⟨?_,ar,uY (cg.1 ar).1,(mA ab).trans aV,((((Gw.wk aq).trans aZ).trans ae).trans<|aA fp' _ _ _ ar fun _ _ _ h=>by cases h).mono ab⟩
     rw [O] at aB ⊢
     exact aB
    intro e a I M
    cases e with
    | normal=>
      obtain ⟨U,rfl,J,fp',ae,am⟩:=M
      obtain ⟨f1,f2,f3,f4,f5⟩:=fin none fp' I J ae
      exact ⟨_,_,f1,true,aa,fp',⟨ag q Z _ _ _ _ _ am f2 (fun _ _ _ h=>by cases h),f3,f4⟩,f5⟩
    | ret=>
      obtain ⟨U,rfl,J,fp',ae,am⟩:=M
      obtain ⟨f1,f2,f3,f4,f5⟩:=fin (some .ret) fp' I J ae
      exact ⟨_,_,f1,false,aa,fp',⟨true,ag (X true) (al true) _ _ _ _ _ am f2 (fun _ _ _ h=>by cases h),f3,f4⟩,f5⟩
    | exit i=>
      obtain ⟨U,rfl,rfl,J,fp',ae,am⟩:=M
      obtain ⟨f1,f2,f3,f4,f5⟩:=fin (some<|.exit i) fp' I J ae
      exact ⟨_,_,f1,false,aa,fp',⟨false,ag (X false) (al false) _ _ _ _ _ am f2 (fun _ _ _ h=>by cases h),f3,f4⟩,f5⟩
    | panic c=>obtain ⟨U,rfl,ac⟩:=M; exact (ac U fun _ _=>rfl).elim
    | outgrown=>exact M.elim
    | goto t=>obtain ⟨U,rfl,ac⟩:=M; exact ac.elim
  · rintro e a6 ⟨⟨v,rfl⟩,b,pre,fp,hj,hpre,hb1⟩
    cases b with
    | true =>
      obtain ⟨hi,E,hk⟩:=hj
      obtain rfl :=hb1 rfl
      have ao:=run_endLoop (P:=P) E<|by rw [O]; simp
      rw [O] at ao
      refine ⟨none,_,ao,?_⟩
      rw [O] at E
      exact hd w.heap.size _ (bX _) ⟨fp,ag q Z _ _ _ _ _ hi E fun _ _ _ h=>by cases h⟩<|(mA ab).trans hk
    | false =>
      obtain ⟨r,hi,E,hk⟩:=hj
      have ao:=run_endLoop (P:=P) E<|by rw [O]; simp
      rw [O] at ao
      refine ⟨some (xO id r),_,ao,?_⟩
      rw [O] at E
      cases r with
      | true =>
        refine wpIn_ret ?_
        exact a4 w.heap.size _ pre (bX _) hpre ⟨fp,ag (X true) (al true) _ _ _ _ _ hi E fun _ _ _ h=>by cases h⟩<|(mA ab).trans hk
      | false =>
        refine wpIn_exit ?_
        unfold Exit.inBlock
        simp only [if_true]
        exact a3 w.heap.size _ pre (bX _) hpre ⟨fp,ag (X false) (al false) _ _ _ _ _ hi E fun _ _ _ h=>by cases h⟩<|(mA ab).trans hk
section
variable {P:Program} {N:Fm} {ops:Array Oper} {Q:Exit→(Nat→Value)→World→Prop} {rest:List Oper} {σ:Nat→Value} {w:World} {d':Option Nat} {d:Nat} {op:Op} {ty:TypeId} {pos :String} {af:Array Edge} {v:Value}
end
section
variable {P:Program} {n:Nat} {F:List Nat} {σ:Nat→Value} {w:World} {fn:Func} {R:Value→World→Prop}
end
def xe (P:Program) (s f:Nat):Option Nat:=
 match P.underlying s with
 | some (.struct fs)=>match fs[f]? with
   | some fd=>if cH P fd.type=some none then some fd.offset else none
   | none=>none
 | _=>none
theorem PV {P:Program} {t:Nat} (hu:cH P t=some none) (w:World):(isAgg t).run P w= .ok false w:=by
 unfold cH at hu
 cases hd:P.underlying t with
 | none=>rw [hd] at hu; cases hu
 | some d=>
   rw [hd] at hu
   cases d <;> first
    | (simp only [nu] at hu; obtain ⟨_,_,h⟩:=hu; cases h; done)
    | simp [isAgg,c7 hd]
theorem wY {P:Program} {N:Fm} {σ:Nat→Value} {w:World} {dst:Option Nat} {ty:TypeId} {pos :String} {af:Array Edge} {g:Option (Nat×Bool)} {x:Operand} {s f n:Nat} {cs:Array Value} {v:Value} (a:xe P s f=some n) (A:ev N σ x= .agg cs) (q:cs[n]? =some v):
 (execOp (ev N σ) ⟨dst,.field s x f,ty,pos,af,g⟩).run P w= .ok (.value v) w:=by
 unfold xe at a
 split at a
 · rename_i fs hu
   split at a
   · rename_i fd i
     split at a
     · rename_i c
       cases a
       simp [execOp,Fw,c7 hu,i,A,asAgg,part,PV c,q]
     · cases a
   · cases a
 · cases a
section
variable {P:Program} {ops:Array Oper} {Q:Exit→Act→World→Prop} {S:World→Prop} {md:oV}
theorem E1 {i:Nat} {o:Oper} {v:Value} {a:Act} (hi:ops[i]? =some o) (A:YieldsIf P ops S o v a) {K:Act→World→Prop} {w:World} (c:S w) (h:K (a.put o.dst v) w):wpOpIn gd 0 P ops Q i K a w:=by
 unfold wpOpIn
 simp only [hi]
 rcases A with ⟨hw,q⟩ | ⟨hw,rfl⟩
 · rw [if_pos hw]
   refine ⟨fun _ _=>trivial,?_⟩
   rw [show gd.round=none from rfl,sj,q w c]
   exact h
 · rw [if_neg (by rw [hw]; exact c8)]; exact ⟨fun _ _=>trivial,h⟩
theorem RQ {j:Nat} {i A:Oper} {v:Value} (I:ops[j]? =some A) (G:i.apart ops A=true)
 (J:∀ cs b,i.op≠.select cs b) (M:∀ cs b,A.op≠.select cs b)
 (C:∀ c a w,Q (.panic c) (a.put i.dst v) w→Q (.panic c) a w) {K:Act→World→Prop} {a:Act} {w:World}
 (q:YieldsIf P ops S i v a) (h:wpOpIn gd 0 P ops Q j K (a.put i.dst v) w):
 wpOpIn gd 0 P ops Q j (fun E w'=>YieldsIf P ops S i v E∧K (E.put i.dst v) w') a w:=by
 obtain ⟨h1,h2,h3⟩:=Oper.apart_spec G
 have dE:∀ (a:Act),YieldsIf P ops S i v a→∀ u,YieldsIf P ops S i v (a.put A.dst u):=fun a q u=>
  q.of_same (execOp_put i J a A.dst u h3) (wanted_put i a A.dst u h3)
 have O:∀ d,YieldsIf P ops S i v {a with defers:=d::a.defers} :=fun d=>q.of_same rfl rfl
 unfold wpOpIn at*
 simp only [I] at*
 rw [wanted_put A a i.dst v h1] at h
 split
 · rename_i hw
   simp only [hw,if_true] at h
   unfold Oper.wpIn at*
   refine ⟨fun _ _=>trivial,?_⟩
   have h:=h.2
   rw [show gd.round=none from rfl,sj,execOp_put A M a i.dst v h1] at h
   rw [show gd.round=none from rfl,sj]
   generalize (execOp a.eval A).run P w=r at*
   cases r with
   | ok x w'=>
     cases x <;> simp only [nZ] at h ⊢
     case value u=>exact ⟨dE a q u,by rw [← oS a v u h2]; exact h⟩
     case skip =>exact ⟨dE a q _,by rw [← oS a v undef h2]; exact h⟩
     case defer d=>
      refine ⟨dE _ (O d) _,?_⟩
      rw [← oS _ v undef h2,← Act.put_defers]
      exact h
     case enter f args=>
      refine ⟨h.1,y3 h.2 fun e w'' he=> ?_⟩
      cases e with
      | returned u=>exact ⟨dE a q u,by rw [← oS a v u h2]; exact he⟩
      | panicked c=>exact C _ _ _ he
      | outgrown=>exact he
     case row row args=>exact ⟨h.1,zh h.2 fun u w'' he=>⟨dE a q u,by rw [← oS a v u h2]; exact he⟩⟩
     case round l f tmps assign body=>
      refine ⟨h.1,zf h.2 fun e w'' he=> ?_⟩
      cases e with
      | returned u=>exact ⟨dE a q u,by rw [← oS a v u h2]; exact he⟩
      | panicked c=>exact C _ _ _ he
      | outgrown=>exact he
   | halt x w'=>
     cases x <;> simp only [nZ] at h ⊢
     case panic u=>exact C _ _ _ h
 · rename_i hw
   simp only [hw] at h
   exact ⟨fun _ _=>trivial,dE a q _,by rw [← oS a v undef h2]; exact h.2⟩
def m7 (P:Program) (md:oV) (ops:Array Oper) (Q:Exit→Act→World→Prop) (S:World→Prop):Nat→Array Bool→Act→World→Prop
 | 0,aK,a,w=>gz md ops aK= []∧Q .normal a w
 | fuel+1,aK,a,w=>
   (gz md ops aK= []→Q .normal a w)∧
   ∀ i∈gz md ops aK,wpOpIn gd 0 P ops Q i (fun c w'=>S w'∧m7 P md ops Q S fuel (aK.setIfInBounds i true) c w') a w
theorem EP:∀ (fuel:Nat) (aK:Array Bool) (a:Act) (w:World),m7 P md ops Q S fuel aK a w→wpAnyIn gd 0 P md ops Q fuel aK a w
 | 0,_,_,_,h=>h
 | fuel+1,_,_,_,h=>⟨h.1,fun i hi=>wpOpIn_mono (fun c w' q=>EP fuel _ c w' q.2)<|h.2 i hi⟩
theorem RK {i:Nat} {C:Oper} {v:Value} (hi:ops[i]? =some C) (aa:∀ (j:Nat) (o:Oper) cs b,ops[j]? =some o→o.op≠.select cs b)
 (ad:∀ c a w,Q (.panic c) (a.put C.dst v) w→Q (.panic c) a w):
 ∀ (fuel:Nat) (aK:Array Bool) (a:Act) (w:World),
   (∀ j E,ops[j]? =some E→j≠i→aK.getD j true =false→(∀ e∈E.after,im md e=true→e.on≠i)→C.apart ops E=true)→
   i∈gz md ops aK→YieldsIf P ops S C v a→S w→
   m7 P md ops Q S fuel (aK.setIfInBounds i true) (a.put C.dst v) w→m7 P md ops Q S (fuel+1) aK a w:=by
 intro fuel
 induction fuel with
 | zero=>
   intro aK a w _ A J G H
   refine ⟨fun h=>(by rw [h] at A; cases A),fun j I=> ?_⟩
   by_cases q:j=i
   · subst q; exact E1 hi J G ⟨G,H⟩
   · have :=ready_mono I q
     rw [H.1] at this
     cases this
 | succ fuel al=>
   intro aK a w V A J G H
   refine ⟨fun h=>(by rw [h] at A; cases A),fun j I=> ?_⟩
   by_cases q:j=i
   · subst q; exact E1 hi J G ⟨G,H⟩
   · have h1:=H.2 j<|ready_mono I q
     obtain ⟨Z,E,O,ae⟩:=mem_ready.1 I
     have ak:∀ e∈E.after,im md e=true→e.on≠i:=fun e he ag heq=>by
      have h1:=ae e he ag
      have U:=(mem_ready.1 A).1
      rw [heq] at h1
      rcases Nat.lt_or_ge i aK.size with M | M
      · simp [M] at U h1; rw [U] at h1; cases h1
      · simp [Array.getElem?_eq_none M] at h1
     have h2:=RQ O (V j E O q Z ak) (fun cs b=>aa i C cs b hi) (fun cs b=>aa j E cs b O) ad J h1
     have ah:∀ k ok,ops[k]? =some ok→k≠i→(aK.setIfInBounds j true).getD k true =false→
      (∀ e∈ok.after,im md e=true→e.on≠i)→C.apart ops ok=true :=fun k ok hk ai ab aj=>by
      refine V k ok hk ai ?_ aj
      by_cases Y:j=k
      · subst Y; exact Z
      · rw [getD_set_ne true Y] at ab; exact ab
     refine wpOpIn_mono (fun ac w' h3=>⟨h3.2.1,al (aK.setIfInBounds j true) ac w' ah (ready_mono A<|Ne.symm q) h3.1 h3.2.1 ?_⟩) h2
     rw [Array.setIfInBounds_comm _ _ q]
     exact h3.2.2
theorem yS {i:Nat} {q:Oper} {v:Value} {fuel:Nat} {aK:Array Bool} {a:Act} {w:World} (hi:ops[i]? =some q)
 (hs:Region.noSelect ops=true) (E:Region.free md ops aK i=true) (G:(gz md ops aK).contains i=true)
 (A:∀ c a w,Q (.panic c) (a.put q.dst v) w→Q (.panic c) a w) (I:YieldsIf P ops S q v a) (C:S w)
 (h:m7 P md ops Q S fuel (aK.setIfInBounds i true) (a.put q.dst v) w):m7 P md ops Q S (fuel+1) aK a w:=
 RK hi (Region.noSelect_spec hs) A fuel aK a w (Region.free_spec hi E) (by simpa using G) I C h
theorem ER {i:Nat} {fuel:Nat} {aK:Array Bool} {a:Act} {w:World} (E:ju ops aK i=true)
 (h:wpOpIn gd 0 P ops Q i (fun C w'=>S w'∧m7 P .any ops Q S fuel (aK.setIfInBounds i true) C w') a w):m7 P .any ops Q S (fuel+1) aK a w:=by
 have A:gz .any ops aK= [i]:=by simpa [ju] using E
 exact ⟨fun c=>(by rw [A] at c; cases c),fun j q=>by rw [A] at q; obtain rfl :=lj.1 q; exact h⟩
end
def jw (P:Program) (N:Fm) (ops:Array Oper) (Q:Exit→(Nat→Value)→World→Prop) (S:World→Prop) (fuel:Nat) (aK:Array Bool) (σ:Nat→Value) (w:World):Prop :=
 m7 P .any ops (lift N Q) S fuel aK (act N σ) w
section
variable {P:Program} {N:Fm} {ops:Array Oper} {Q:Exit→(Nat→Value)→World→Prop} {σ:Nat→Value} {w:World} {d':Option Nat} {d:Nat} {op:Op} {ty:TypeId} {pos :String} {af:Array Edge} {v:Value}
variable {S:World→Prop} {fuel:Nat} {aK:Array Bool}
theorem E2 {id:Nat} {l:List Oper} (S:World→Prop) (a:N.r=none) (hm:P.follows .mixedOrders=true) (c:S w.drew) (h:jw P N l.toArray Q S l.length (ql l.length false) σ w.drew):cB P N (.region id l.toArray true) Q σ w:=by
 unfold cB
 rw [a]
 exact wpIn_region_any hm<|EP _ _ _ _<|by rw [lV]; exact h
theorem yp (i:Nat) (hi:ops[i]? =some ⟨some d,op,ty,pos,af,none⟩) (q:gM N.F ops aK i=true)
 (C:∀ w,S w→(execOp (ev N σ) ⟨some d,op,ty,pos,af,none⟩).run P w= .ok (.value v) w) (A:S w)
 (k:jw P N ops Q S fuel (aK.setIfInBounds i true) (cz σ d v) w):jw P N ops Q S (fuel+1) aK σ w:=by
 simp only [gM,fi] at q
 refine yS hi q.1.1.1 q.1.1.2 q.1.2 (fun c a w=>mV (by have :=q.2; rwa [hi] at this) c a w) (.inl ⟨gZ _ rfl _,fun w A=> ?_⟩) A ?_ (v:=v)
 · rw [fq]; exact C w A
 · rw [hZ]; exact k
theorem la (i:Nat) {j t:Nat} {want:Bool} (hi:ops[i]? =some ⟨some d,op,ty,pos,af,some (j,want)⟩) (q:gM N.F ops aK i=true)
 (C:iz ops j=some t) (E:eU t N.n=true) (G:σ t= .bool want)
 (I:∀ w,S w→(execOp (ev N σ) ⟨some d,op,ty,pos,af,some (j,want)⟩).run P w= .ok (.value v) w) (A:S w)
 (k:jw P N ops Q S fuel (aK.setIfInBounds i true) (cz σ d v) w):jw P N ops Q S (fuel+1) aK σ w:=by
 simp only [gM,fi] at q
 refine yS hi q.1.1.1 q.1.1.2 q.1.2 (fun c a w=>mV (by have :=q.2; rwa [hi] at this) c a w) (.inl ⟨by rw [m5 aa C E G]; cases want <;> rfl,fun w A=> ?_⟩) A ?_ (v:=v)
 · rw [fq]; exact I w A
 · rw [hZ]; exact k
theorem ke (i:Nat) {j t:Nat} {want b:Bool} (hi:ops[i]? =some ⟨some d,op,ty,pos,af,some (j,want)⟩) (q:gM N.F ops aK i=true)
 (E:iz ops j=some t) (G:eU t N.n=true) (I:σ t= .bool b) (C:(b==want)=false) (A:S w)
 (k:jw P N ops Q S fuel (aK.setIfInBounds i true) (cz σ d undef) w):jw P N ops Q S (fuel+1) aK σ w:=by
 simp only [gM,fi] at q
 refine yS hi q.1.1.1 q.1.1.2 q.1.2 (fun c a w=>mV (by have :=q.2; rwa [hi] at this) c a w) (.inr ⟨by rw [m5 aa E G I,C],aa⟩) A ?_ (v:=undef)
 rw [hZ]; exact k
theorem RN {Q:Exit→Act→World→Prop} {o:Oper} {K:(Nat→Value)→World→Prop} {A:Act→World→Prop} (h:cA P N o σ w K) (hk:∀ σ w,K σ w→A (act N σ) w):o.wpIn gd 0 P (act N σ) w A Q:=by
 refine ⟨fun _ _=>trivial,?_⟩
 rw [show gd.round=none from rfl,sj]
 unfold cA il at h
 generalize (execOp (act N σ).eval o).run P w=x at h ⊢
 cases x with
 | ok n w'=>
   cases n <;> simp only [jh,nZ] at h ⊢ <;>
    first
     | (obtain ⟨C,i,a⟩:=h; rw [i]; exact hk _ _ a)
     | (refine ⟨fun q=>(by cases q),y3 (callsIn_wide.2 h) fun e w'' he=> ?_⟩
        cases e with
        | returned v=>obtain ⟨C,i,a⟩:=he; simp only; rw [i]; exact hk _ _ a
        | panicked c=>exact he.elim
        | outgrown=>obtain ⟨_,_,E⟩:=he; exact E.elim)
     | (refine ⟨fun q=>(by cases q),zh (xd (r:=none) h) fun v w'' he=> ?_⟩
        obtain ⟨C,i,a⟩:=he; rw [i]; exact hk _ _ a)
 | halt x w'=>cases x <;> simp only [jh] at h
theorem ye (i:Nat) (hi:ops[i]? =some ⟨d',op,ty,pos,af,none⟩) (a:ju ops aK i=true)
 (h:cA P N ⟨d',op,ty,pos,af,none⟩ σ w (fun σ w=>S w∧jw P N ops Q S fuel (aK.setIfInBounds i true) σ w)):jw P N ops Q S (fuel+1) aK σ w:=by
 refine ER a ?_
 unfold wpOpIn
 simp only [hi]
 rw [if_pos (gZ _ rfl _)]
 exact RN h fun _ _ hk=>hk
theorem E3 {l:Nat} {fo:Operand} {args:Array Operand} {q:Array TypeId} {R:Bool→World→Prop} (i:Nat) {j t:Nat} {want:Bool} {L:List Value} (hi:ops[i]? =some ⟨some d,.call ⟨.value fo,args,q⟩,ty,pos,af,some (j,want)⟩) (J:ju ops aK i=true)
 (I:iz ops j=some t) (O:eU t N.n=true) (U:σ t= .bool want) (G:ev N σ fo= .func (.yield l) #[] #[]) (C:args.toList.map (ev N σ)=L)
 (Y:YieldAt gd 0 P l L.toArray w fun e W'=> ∃ b,e= .returned (.bool b)∧R b W') (k:∀ b W',R b W'→S W'∧jw P N ops Q S fuel (aK.setIfInBounds i true) (cz σ d<|.bool b) W'):
 jw P N ops Q S (fuel+1) aK σ w:=by
 refine ER J ?_
 unfold wpOpIn
 simp only [hi]
 rw [if_pos (by rw [m5 rfl I O U]; cases want <;> rfl)]
 obtain ⟨fn,tmps,a,b,M,E⟩:=Y
 refine ⟨fun _ _=>trivial,?_⟩
 rw [show gd.round=none from rfl,sj,fq]
 have hm:args.map (ev N σ)=L.toArray:=by rw [← C,← kJ]
 have V:(execOp (ev N σ) ⟨some d,.call ⟨.value fo,args,q⟩,ty,pos,af,some (j,want)⟩).run P w= .ok (.round l fn tmps a b) w:=by
  simp [execOp,resolve,G,nX,invoke,hm,M]
 rw [V]
 simp only [nZ]
 refine ⟨fun A=>(by cases A),zf E ?_⟩
 rintro e W' ⟨c,rfl,hw⟩
 simp only
 rw [hZ]
 exact k c W' hw
theorem yn (c:(gz .any ops aK).isEmpty=true) (h:Q .normal σ w):jw P N ops Q S fuel aK σ w:=by
 have a:gz .any ops aK= []:=by simpa using c
 cases fuel with
 | zero=>exact ⟨a,σ,rfl,h⟩
 | succ n=>exact ⟨fun _=>⟨σ,rfl,h⟩,fun i hi=>by rw [a] at hi; cases hi⟩
theorem E0 {t:Nat} {b:Bool} (h:σ t= .bool b) (c:b=true→jw P N ops Q S fuel aK (cz σ t<|.bool true) w) (a:b=false→jw P N ops Q S fuel aK (cz σ t<|.bool false) w):jw P N ops Q S fuel aK σ w:=by
 cases b
 · have :=a rfl; rwa [m3 h] at this
 · have :=c rfl; rwa [m3 h] at this
end
attribute [irreducible] jw
end Go.Hb
end
namespace Go.Hb
theorem Dp {b:UInt8} {m:Int} (h:48≤b.toNat∧b.toNat≤57) (hm:((b.toNat - 48:Nat):Int)≤m):dQ [b] m= .ok (b.toNat - 48):=by
 have a:eY [b]=b.toNat - 48:=by simp [eY]
 have c:¬oD [b]:=by rintro (h | ⟨h,_⟩) <;> simp at h
 have hd:wx [b]:=fun i hi=>by
  have hi:i=0:=by simpa using hi
  subst hi
  exact decide_eq_true h
 unfold dQ
 rw [Dm c hd (by rw [a]; omega),a]
 rfl
theorem yR:dX 1 [65]=65:=by unfold dX; decide+kernel
theorem RD:gN gH [65]= .ok 65:=by
 unfold gN gL gH
 simp only
 rw [yR]
 simp [dJ,dm]
theorem RE:jJ 1 [65]= .ok [65]:=by
 have h1:dO 1 [65]= [[65]]:=by decide+kernel
 have h:ee 1 [65]=([65],0):=by
  unfold ee
  rw [h1,if_neg (by simp),if_neg (by simp [yR]),if_neg (by simp),nk,List.map_nil,yR]
  decide+kernel
 unfold jJ
 rw [h]; rfl
def qf:Tx:= [83,70,88,32,65,32,89,32,50,10,83,70,88,32,65,32,48,32,115,10,83,70,88,32,65,32,48,32,101,114,10]
def uD:Tx:= [49,10,100,111,47,65,10]
def ik:aE:=⟨1,[],[],[0,0,0,0,0],3,[],[],[⟨65,2,true,0,2⟩],[⟨2,65,true,[],[115],[46],[],2⟩,⟨2,65,true,[],[101,114],[46],[],3⟩]⟩
def k9:List bj:= [([100,111],[65])]
theorem Ro:ec qf= [(1,[[83,70,88],[65],[89],[50]]),(2,[[83,70,88],[65],[48],[115]]),(3,[[83,70,88],[65],[48],[101,114]])]:=by decide+kernel
theorem Rp:ec uD= [(1,[[49]]),(2,[[100,111,47,65]])]:=by decide+kernel
theorem EM {s:Tx} {ln:Nat} (hw:bq s=(s,[],false,0)) (a:s≠[48]) (c:fY s=0):ij 1 [] ⟨65,2,true,0,2⟩ ln [[83,70,88],[65],[48],s]= .ok ⟨2,65,true,[],s,[46],[],ln⟩:=by
 unfold ij
 rw [if_neg (by simp)]
 simp only [lR,FZ]
 rw [show e0 true [48]= .ok [] from if_pos ⟨rfl,rfl⟩,hw]
 simp only
 rw [show jW (s,[],false,0)= .ok s from by unfold jW; rw [if_neg (by simp),if_neg a,if_neg (by simp [c])]]
 rfl
theorem Rj:e7 qf= .ok ik:=by
 unfold e7
 rw [if_neg aw,Ro]
 simp only [bT,gj]
 have i:bN ((cJ qf).length+1) gH [] [(2,[[83,70,88],[65],[48],[115]]),(3,[[83,70,88],[65],[48],[101,114]])] 1 [[83,70,88],[65],[89],[50]]= .ok (ik,[]):=by
  unfold bN
  simp only [lR]
  rw [if_neg aw,if_neg aw,if_neg aw,if_neg aw,if_neg aw,if_neg aw,if_neg aw]
  unfold gp
  simp only [lR,FZ]
  rw [RD]
  simp only
  rw [if_neg (by simp),Dp (b:=50) aw aw]
  simp only
  rw [if_neg aw]
  have c:∀ b,b=true→group [[83,70,88],[65]] (ij gH.kind gH.aliases ⟨65,if ([83,70,88]:Tx)=cY then 2 else 1,b,gH.rules.length,Gs 50 - 48⟩) ((cJ qf).length+1) (Gs 50 - 48) [(2,[[83,70,88],[65],[48],[115]]),(3,[[83,70,88],[65],[48],[101,114]])]= .ok (ik.rules,[]):=by
   intro b a
   subst a
   show group [[83,70,88],[65]] (ij 1 [] ⟨65,2,true,0,2⟩) _ 2 _=_
   rw [group,if_neg aw,EM (by decide+kernel) aw aw]
   simp only
   rw [group,if_neg aw,EM (by decide+kernel) aw aw]
   rfl
  rw [c _ (by simp)]
  simp only [decide_true]
  rfl
 rw [fP]
 simp only [lR]
 rw [if_neg aw,if_neg aw,if_neg aw,i]
 simp only
 rw [fP]
 rfl
theorem Rl:eQ ik uD= .ok k9:=by
 have a:e8 ik [[100,111,47,65]]= .ok ([100,111],[65]):=by
  have hw:bq [100,111,47,65]=([100,111],[65],true,0):=by decide+kernel
  refine (Bt (row:= [[100,111,47,65]]) (set := [65]) aa ?_ ?_ ?_ ?_ ?_ ?_ ?_).trans ?_
  all_goals try simp only [lR,hw]
  · decide
  · decide
  · simp
  · show e9 1 [] [65]=_
    unfold e9; rw [if_pos rfl]; exact RE
  · intro i hi
    have :i=0:=by simpa using hi
    subst this; decide
 have hn:dQ [49] 8192= .ok 1:=Dp aw aw
 rw [Bn aw Rp rfl (show dQ ([[49]].getD 0 []) 8192= .ok 1 from hn),dY,a]
 simp only
 rw [dY]
 rfl
def r7:List cV:= [⟨[100,111],0,-1,-1,-1⟩,⟨[100,111,115],0,0,-1,-1⟩,⟨[100,111,101,114],0,1,-1,-1⟩]
theorem EL (ad:Tx) (ln:Nat):c5 ⟨2,65,true,[],ad,[46],[],ln⟩ [100,111]=some ([100,111]++ad):=by
 have a:dz [46]=([],0):=by unfold dz; rw [if_neg (by simp),if_pos rfl]
 unfold c5 gT
 simp only [a]
 rw [if_pos (by simp only [if_true,gj]; rfl)]
 rfl
theorem Rk:kX ik k9 0=r7:=by
 have h1:aQ ik (flagsOf k9 (0:Nat)) 1= []:=aw
 have h2:aQ ik (flagsOf k9 (0:Nat)) 2= [0,1]:=aw
 have h3:aQ ik (cy ik (0:Nat)) 2= []:=aw
 have h4:aQ ik (cy ik (1:Nat)) 2= []:=aw
 have a:∀ w f s,eO ik k9 0 w f s=kp ik k9 0 w f s:=fun w f s=>by unfold eO; rw [h1]; simp
 unfold kX
 rw [h2,a]
 simp only [iH,FY,dS]
 unfold gu
 rw [show c5 (ik.rules.getD 0 dv) (k9.getD 0 ([],[])).1=some [100,111,115] from EL [115] 2,show c5 (ik.rules.getD 1 dv) (k9.getD 0 ([],[])).1=some [100,111,101,114] from EL [101,114] 3]
 simp only [h3,h4,FY,dS,a]
 unfold kp
 rw [if_pos aw,if_pos aw,if_pos aw]
 rfl
end Go.Hb
section
namespace Go.Hb
section
variable {P:Program} {n:Nat} {Fx:List Nat} {σ:Nat→Value} {w:World} {fn:Func} {R:Value→World→Prop} {B:Exit→Act→World→Prop} {N:Fm}
variable {S:List Nat→(Nat→Value)→World→Prop}
end
theorem Da (o:Nat):∀ (r:List Value) (m:Nat) (pre a:List Value),pre.length=o+m→r.length≤a.length→
 (r.zipIdx m).foldl (fun (cs:Array Value) (c,j)=>cs.setIfInBounds (o+j) c) (pre++a).toArray=(pre++r++a.drop r.length).toArray
 | [],m,pre,a,_,_=>by simp
 | c::r,m,pre,a,hp,hl=>by
   cases a with
   | nil=>simp at hl
   | cons z a=>
     rw [vm,qv]
     have h1:(pre++z::a).toArray.setIfInBounds (o+m) c=((pre++ [c])++a).toArray:=by rw [← hp]; simp
     show List.foldl _ ((pre++z::a).toArray.setIfInBounds (o+m) c) _=_
     rw [h1,Da o r (m+1) (pre++ [c]) a (by simp; omega) (by simpa using hl)]
     simp
theorem BG {size:Nat} :∀ (rest:List (List Value)) (m:Nat) (pre a:List Value),pre.length=m*size→a.length=rest.length*size→(∀ r∈rest,r.length=size)→
 kK (fun i=>some (i*size,size)) (pre++a).toArray ((rest.zipIdx m).map fun q=>(q.2,bl q.1.toArray))=some (pre++rest.flatten).toArray
 | [],m,pre,a,_,hz,_=>by
   obtain rfl :a= []:=gi<|by simpa using hz
   rfl
 | r::rest,m,pre,a,hp,hz,hr=>by
   have A:=hr r<|oY ..
   have G:a.length=rest.length*size+size:=by rw [hz,bT,np]
   rw [vm,nk]
   have C:(bl r.toArray).cells=r.toArray:=by simp [Value.cells]
   simp only [kK,C]
   rw [if_neg (by simp; omega)]
   have h1:=Da (m*size) r 0 pre a ab ab
   have h2:(r.toArray.zipIdx.foldl (fun (cs:Array Value) (c,j)=>cs.setIfInBounds (m*size+j) c) (pre++a).toArray)=(pre++r++a.drop r.length).toArray:=by
    rw [← h1,← yW]; simp
   rw [h2,BG rest (m+1) (pre++r) (a.drop r.length) (by rw [bF,hp,A,np]) (by rw [fI]; omega) (fun x E=>hr x<|n7 _ E)]
   simp
section
variable {P:Program} {N:Fm} {σ:Nat→Value} {w:World} {dst:Option Nat} {ty:TypeId} {pos :String} {af:Array Edge} {g:Option (Nat×Bool)} {K:(Nat→Value)→World→Prop}
theorem Hu {t e size bytes n:Nat} {ps:Array (Nat×Operand)} (rows:List (List Value)) (I:fz P t e size bytes=true) (hp:ps.toList.map (fun p=>(p.1,ev N σ p.2))=(rows.zipIdx 0).map fun q=>(q.2,bl q.1.toArray))
 (A:rows.all (fun r=>r.length==size)=true) (hn:rows.length=n) (hs:(lk (n*size) 1000 && eU 0 n && lk n 1000)=true)
 (k:∀ b w',b=w.heap.size→Nw w w'→w'.heap[b]? =some (.cells rows.flatten.toArray e (0,0))→K (fA σ dst<|.slice (some ⟨b,0,none⟩) n n) w'):cA P N ⟨dst,.buildSlice t n ps,ty,pos,af,g⟩ σ w K:=by
 subst hn
 refine lM (v:=fun b=> .slice (some ⟨b,0,none⟩) rows.length rows.length) (ob:= .cells rows.flatten.toArray e (0,0)) ?_ k
 obtain ⟨hu,i,zv,hi,J,a,h2,h3,h4⟩:=nP I
 simp only [fi] at hs
 have E:rows.length*size≤1000:=by simpa using hs.1.1
 have O:rows.length≤1000:=by simpa using hs.2
 have G:0 < rows.length:=by have :=n8 hs.1.2; omega
 have c:kK (fun i=>some (i*size,size)) ((m9<|rows.length*size).map (zv.cells[· % zv.cells.size]!)) (ps.toList.map fun p=>(p.1,ev N σ p.2))=some rows.flatten.toArray:=by
  rw [hp]
  have M:((m9<|rows.length*size).map (zv.cells[· % zv.cells.size]!)).toList.length=rows.length*size:=by simp
  have :=BG (size:=size) rows 0 [] ((m9<|rows.length*size).map (zv.cells[· % zv.cells.size]!)).toList (by simp) M fun r C=>by have :=List.all_eq_true.1 A r C; simpa using this
  rw [kN,kN,uK] at this
  exact this
 simp only [execOp,Instr.buildSlice,ng,c7 hu,nd,sizeOf,fR hi,n2,a,Sem.run_ite,zeroValue,J,kJ,c]
 rw [if_neg (Nat.not_lt.2<|eV E aw),if_neg (Nat.pos_iff_ne_zero.1<|Nat.mul_pos G h4)]
 simp [newRow]
end
section
variable {P:Program} {N:Fm} {σ:Nat→Value} {w:World} {dst:Option Nat} {ty:TypeId} {pos :String} {af:Array Edge} {g:Option (Nat×Bool)} {x y:Operand}
end
end Go.Hb
end
section
namespace Go.Hb.eN
open Go.Proofs
def lH (l:List (Tx×Tx)):List Value:=l.flatMap fun p=> [str p.1,str p.2]
def lB (c:dt):List Value:= [aO c.flag,.int .i64 (c.kind:Nat),.bool c.fu,.int .i64 (c.first:Nat),.int .i64 (c.count:Nat)]
def kU (l:List dt):List Value:=l.flatMap lB
def dP (q:cW×Value):List Value:= [.int .i64 (q.1.kind:Nat),aO q.1.flag,.bool q.1.fu,str q.1.strip,str q.1.add,str q.1.cond,q.2]
def fy (l:List (cW×Value)):List Value:=l.flatMap dP
structure bP where
 rb:Nat
 fb:Nat
 ms:Nat
 mt:Nat
 mc:Nat
 eof:Nat
structure dG where
 v9:Value
 v10:Value
 v11:Value
 v12:Value
 sa:List Value
 rn:List Value
structure fk where
 vr:Value
 vs:List (Nat×Value)
 vn:Value
def l8 (F:aE) (V:dG) (mc:Nat):List Value:= [.int .i64 (F.kind:Nat),str F.qS,str F.tr,aO (F.sp.getD 0 0),aO (F.sp.getD 1 0),aO (F.sp.getD 2 0),aO (F.sp.getD 3 0),aO (F.sp.getD 4 0),.int .i64 (F.least:Nat),V.v9,V.v10,V.v11,V.v12,.map (some mc)]
def rO (H:bP) (R:fk) (ln:Nat):List Value:= [.pointer (some ⟨H.fb,0,none⟩),R.vr,.int .i64 (ln:Nat),.int .i64 (H.eof:Nat),.map (some H.ms),.map (some H.mt),R.vn]
structure cD (w:World) (B fb mc:Nat) (F:aE) (V:dG):Prop where
 cells:w.heap[fb]? =some (.cells (l8 F V mc).toArray 125 (0,0))
 o9:bm w B 128 2 V.v9 F.cT.length (lH F.cT)
 fN:bm w B 70 1 V.v10 F.aliases.length V.sa
 al:c4 w B 51 V.sa F.aliases
 ff:bm w B 131 5 V.v11 F.bo.length (kU F.bo)
 dN:bm w B 77 7 V.v12 F.rules.length (fy<|F.rules.zip V.rn)
 nx:c4 w B 51 V.rn (F.rules.map (·.next))
 cm:∃ f,bQ w.heap mc (mT .u16) f∧∀ x:Nat,f (aO x)=(F.bo.findIdx? fun c=>decide (c.flag=x)).map fun i:Nat=>Value.int .i64 i
 lo:B≤fb∧B≤mc
 iS:F.sp.length=5
theorem cD.md {G:Nat→Prop} {w w':World} {B fb mc:Nat} {F:aE} {V:dG} (h:cD w B fb mc F V) (hm:Md G w w') {L:List Nat} (a:TF w L G) (c:(L.contains 127 || L.contains 130 || L.contains 72 || L.contains 53 || L.contains 133 || L.contains 79)=false) (E:¬G mc):cD w' B fb mc F V:=by
 simp only [nW] at c
 obtain ⟨⟨⟨⟨⟨h1,h2⟩,h3⟩,h4⟩,h5⟩,h6⟩:=c
 have i:∀ k,G k→∀ cur z,w.heap[k]?≠some (.cells cur 51 z):=fun k hk cur z C=>a.no (di C) h4 hk
 obtain ⟨f,q,A⟩:=h.cm
 exact ⟨hm.iY a h.cells h1,cM h.o9 hm a h2,cM h.fN hm a h3,h.al.md hm i,cM h.ff hm a h5,cM h.dN hm a h6,h.nx.md hm i,⟨f,q.md hm E,A⟩,h.lo,h.iS⟩
theorem cD.wk {w w':World} {B fb mc:Nat} {F:aE} {V:dG} (h:cD w B fb mc F V) (hm:Wk w w'):cD w' B fb mc F V:=h.md (L:= []) hm (fun _ hk=>hk.elim) rfl id
structure bU (w:World) (B:Nat) (H:bP) (F:aE) (R:fk) (rows:List Rw) (ln:Nat) (seen:List Tx):Prop where
 cells:w.heap[H.rb]? =some (.cells (rO H R ln).toArray 195 (0,0))
 rws:km w B 209 rows.length R.vr (kF R.vs)
 rt:gk w B 9 R.vs rows
 sm:∃ f,bQ w.heap H.ms gv f∧∀ s:Tx,(f<|str s).getD (.int .i64 0)= .int .i64 (seen.count s:Nat)
 tm:∃ f,bQ w.heap H.mt (mT .u16) f∧∀ x:Nat,x≠0→(f<|aO x).getD (.int .i64 0)= .int .i64 ((if dJ F x=true then 1 else 0:Nat):Nat)
 on :bm w B 3 1 R.vn F.rules.length (F.rules.map fun r=>Value.int .i64 (r.line:Nat))
 lo:B≤H.rb∧B≤H.ms∧B≤H.mt
 ne:H.ms≠H.mt∧H.ms≠H.mc∧H.mt≠H.mc
theorem bU.md {G:Nat→Prop} {w w':World} {B:Nat} {H:bP} {F:aE} {R:fk} {rows:List Rw} {ln:Nat} {seen:List Tx} (h:bU w B H F R rows ln seen) (hm:Md G w w') {L:List Nat} (a:TF w L G) (i:(L.contains 197 || L.contains 211 || L.contains 11 || L.contains 5)=false) (I:¬G H.ms) (J:¬G H.mt):bU w' B H F R rows ln seen:=by
 simp only [nW] at i
 obtain ⟨⟨⟨h1,h2⟩,h3⟩,h4⟩:=i
 obtain ⟨f,q,A⟩:=h.sm
 obtain ⟨g,C,E⟩:=h.tm
 exact ⟨hm.iY a h.cells h1,h.rws.md hm (fun k hk cur z c=>a.no (di c) h2 hk),h.rt.md hm (fun k hk cur z c=>a.no (di c) h3 hk),⟨f,q.md hm I,A⟩,⟨g,C.md hm J,E⟩,cM h.on hm a h4,h.lo,h.ne⟩
theorem bU.wk {w w':World} {B:Nat} {H:bP} {F:aE} {R:fk} {rows:List Rw} {ln:Nat} {seen:List Tx} (h:bU w B H F R rows ln seen) (hm:Wk w w'):bU w' B H F R rows ln seen:=h.md (L:= []) hm (fun _ hk=>hk.elim) rfl id id
theorem bU.dH {w:World} {B:Nat} {H:bP} {F:aE} {R:fk} {rows:List Rw} {ln:Nat} {seen:List Tx} (h:bU w B H F R rows ln seen):Hb.aH w.heap H.rb 2=some (.int .i64 (ln:Nat)):=(aX h.cells).trans rfl
structure iV (F:aE) (rows:List Rw) (seen:List Tx):Prop where
 len:F.cT.length+F.aliases.length+F.bo.length+F.rules.length+rows.length≤70000
 sl:seen.length+rows.length≤70000
 row:∀ q∈rows,q.2≠[]∧q.2.length≤70000∧∀ x∈q.2,x.length≤70000
 kd:F.kind=1∨F.kind=2∨F.kind=3
 al:∀ l∈F.aliases,l.length≤64∧l.Pairwise (· < ·)
def St (w:World) (B:Nat) (H:bP) (F:aE) (rows:List Rw) (ln:Nat) (seen:List Tx):Prop := ∃ V R,cD w B H.fb H.mc F V∧bU w B H F R rows ln seen∧iV F rows seen
abbrev dU (B:Nat) (H:bP) (w w':World):Prop :=Mw [197,127,130,72,133,79,5] H.ms H.mt H.mc B w w'
theorem bU.cz {w w':World} {B:Nat} {H:bP} {F:aE} {R R':fk} {rows rows':List Rw} {ln ln':Nat} {seen:List Tx} (h:bU w B H F R rows ln seen) (hm:Md (fun k=>k=H.rb) w w') (A:w'.heap[H.rb]? =some (.cells (rO H R' ln').toArray 195 (0,0))) (J:R'.vn=R.vn) (G:km w B 209 rows'.length R'.vr (kF R'.vs)) (I:gk w B 9 R'.vs rows'):bU w' B H F R' rows' ln' seen:=by
 obtain ⟨f,i,C⟩:=h.sm
 obtain ⟨g,q,E⟩:=h.tm
 have a:TF w [197] (fun k=>k=H.rb):=TF.eq (di h.cells) aw
 exact ⟨A,G.md hm (fun k hk cur z c=>a.no (di c) aw hk),I.md hm (fun k hk cur z c=>a.no (di c) aw hk),⟨f,i.md hm (a.no (dj i) aw),C⟩,⟨g,q.md hm (a.no (dj q) aw),E⟩,J ▸ cM h.on hm a aw,h.lo,h.ne⟩
theorem gk.tl {w:World} {B e:Nat} {q:Nat×Value} {r:Rw} {vs:List (Nat×Value)} {rs:List Rw} (h:gk w B e (q::vs) (r::rs)):gk w B e vs rs:=⟨by have :=h.1; simpa using this,fun i a c h1 h2=>h.2 (i+1) a c h1 h2⟩
theorem cD.put {w w':World} {B fb mc:Nat} {F F':aE} {V:dG} (h:cD w B fb mc F V) (hm:Md (fun k=>k=fb) w w') (q:w'.heap[fb]? =some (.cells (l8 F' V mc).toArray 125 (0,0))) (h1:F'.cT=F.cT) (h2:F'.aliases=F.aliases) (h3:F'.bo=F.bo) (h4:F'.rules=F.rules) (h5:F'.sp.length=5):cD w' B fb mc F' V:=by
 have a:TF w [127] (fun k=>k=fb):=TF.eq (di h.cells) aw
 have i:∀ k,k=fb→∀ cur z,w.heap[k]?≠some (.cells cur 51 z):=gn h.cells aw
 obtain ⟨f,c,A⟩:=h.cm
 exact ⟨q,h1 ▸ cM h.o9 hm a aw,h2 ▸ cM h.fN hm a aw,h2 ▸ h.al.md hm i,h3 ▸ cM h.ff hm a aw,h4 ▸ cM h.dN hm a aw,h4 ▸ h.nx.md hm i,⟨f,c.md hm (a.no (dj c) aw),h3 ▸ A⟩,h.lo,h5⟩
theorem bU.fb {w w':World} {B:Nat} {H:bP} {F c:aE} {V:dG} {R:fk} {rows:List Rw} {ln:Nat} {seen:List Tx} (h:bU w B H F R rows ln seen) (i:cD w B H.fb H.mc c V) (hm:Md (fun k=>k=H.fb) w w'):bU w' B H F R rows ln seen:=by
 have a:TF w [127] (fun k=>k=H.fb):=TF.eq (di i.cells) aw
 obtain ⟨f,q,C⟩:=h.sm
 obtain ⟨g,A,E⟩:=h.tm
 exact h.md hm a aw (a.no (dj q) aw)<|a.no (dj A) aw
theorem cD.rb {w w':World} {B:Nat} {H:bP} {F a:aE} {V:dG} {R:fk} {rows:List Rw} {ln:Nat} {seen:List Tx} (h:cD w B H.fb H.mc a V) (i:bU w B H F R rows ln seen) (hm:Md (fun k=>k=H.rb) w w'):cD w' B H.fb H.mc a V:=by
 have c:TF w [197] (fun k=>k=H.rb):=TF.eq (di i.cells) aw
 obtain ⟨f,q,A⟩:=h.cm
 exact h.md hm c aw<|c.no (dj q) aw
theorem bU.congr {w:World} {B:Nat} {H:bP} {F F':aE} {R:fk} {rows:List Rw} {ln:Nat} {seen:List Tx} (h:bU w B H F R rows ln seen) (i:F'.rules=F.rules) (hd:∀ x,dJ F' x=dJ F x):bU w B H F' R rows ln seen:=by
 obtain ⟨g,a,c⟩:=h.tm
 exact ⟨h.cells,h.rws,h.rt,h.sm,⟨g,a,fun x q=>by rw [hd]; exact c x q⟩,i ▸ h.on,h.lo,h.ne⟩
theorem bU.rG {w w':World} {B:Nat} {H:bP} {F F':aE} {R:fk} {rows:List Rw} {ln:Nat} {seen:List Tx} {f:Value→Option Value} (h:bU w B H F R rows ln seen) (hm:Md (fun k=>k=H.mt) w w') (i:bQ w'.heap H.mt (mT .u16) f) (E:F'.rules=F.rules) (hd:∀ x:Nat,x≠0→(f<|aO x).getD (.int .i64 0)= .int .i64 ((if dJ F' x=true then 1 else 0:Nat):Nat)):bU w' B H F' R rows ln seen:=by
 obtain ⟨g,C,_⟩:=h.tm
 obtain ⟨f0,q,A⟩:=h.sm
 have a:TF w [1] (fun k=>k=H.mt):=TF.eq (dj C) aw
 exact ⟨hm.iY a h.cells aw,h.rws.md hm (fun k hk cur z c=>a.no (di c) aw hk),h.rt.md hm (fun k hk cur z c=>a.no (di c) aw hk),⟨f0,q.md hm h.ne.1,A⟩,⟨f,i,hd⟩,E ▸ cM h.on hm a aw,h.lo,h.ne⟩
theorem cD.rG {w w':World} {B:Nat} {H:bP} {F a:aE} {V:dG} {R:fk} {rows:List Rw} {ln:Nat} {seen:List Tx} (h:cD w B H.fb H.mc a V) (c:bU w B H F R rows ln seen) (hm:Md (fun k=>k=H.mt) w w'):cD w' B H.fb H.mc a V:=by
 obtain ⟨g,i,_⟩:=c.tm
 exact h.md (L:= [1]) hm (TF.eq (dj i) aw) aw fun h=>c.ne.2.2 h.symm
theorem dU.fb {w w':World} {B:Nat} {H:bP} {c:aE} {V:dG} (a:cD w B H.fb H.mc c V) (hm:Md (fun k=>k=H.fb) w w'):dU B H w w':=Mw.of hm (TF.eq (di a.cells) aw) fun k hk=>hk ▸ a.lo.1
theorem dU.rb {w w':World} {B:Nat} {H:bP} {F:aE} {R:fk} {rows:List Rw} {ln:Nat} {seen:List Tx} (a:bU w B H F R rows ln seen) (hm:Md (fun k=>k=H.rb) w w'):dU B H w w':=Mw.of hm (TF.eq (di a.cells) aw) fun k hk=>hk ▸ a.lo.1
theorem dU.mt {w w':World} {B:Nat} {H:bP} {F:aE} {R:fk} {rows:List Rw} {ln:Nat} {seen:List Tx} (a:bU w B H F R rows ln seen) (hm:Md (fun k=>k=H.mt) w w'):dU B H w w':=hm.mono fun k _ hk=>⟨hk ▸ a.lo.2.2,.inr<|.inl hk⟩
def gF (B:Nat) (H:bP) (seen:List Tx) (X:Except (Nat×Nat) (aE×List Rw)) (w:World) (v:Value) (w':World):Prop :=v= .tuple #[]∧∃ F' rows' ln',X= .ok (F',rows')∧St w' B H F' rows' ln' seen∧dU B H w w'
def gE (B:Nat) (H:bP) (X:Except (Nat×Nat) (aE×List Rw)) (w:World) (c:List PanicEntry) (w':World):Prop := ∃ l e,X= .error (l,e)∧c=gr 47 l (e:Nat)∧dU B H w w'
def iN (F:aE) (seen:List Tx):Prop := ∀ k∈fg,k∉seen→F.sp.getD (fg.idxOf k) 0=0
theorem Kv {F:aE} {i x:Nat} (hi:i < F.sp.length) (a:F.sp.getD i 0=0) (y:Nat) (A:y≠0):dJ {F with sp:=F.sp.set i x} y=(decide (y=x) || dJ F y):=by
 unfold dJ
 show (decide (y∈F.sp.set i x) || _)=_
 rw [← Bool.or_assoc]
 congr 1
 rw [← Bool.decide_or,decide_eq_decide]
 constructor
 · intro h
   rcases zx h with h | h
   · exact .inr h
   · exact .inl h
 · rintro (h | h)
   · subst h; exact List.mem_set hi _
   · obtain ⟨j,q⟩:=zu h
     by_cases c:i=j
     · subst c
       rw [cO,q] at a
       exact absurd a A
     · exact iL (i:=j)<|by rw [jx,if_neg c]; exact q
theorem Tg.rI {w:World} {B e q n cp b:Nat} {a:Option Addr} {xs:List Value} {cs:Array Value} {z:Nat×Nat} (h:Tg w B e n (.slice a n cp) xs) (I:xs≠[]) (c:w.heap[b]? =some (.cells cs q z)) (E:e≠q):¬(bk a=b):=by
 obtain ⟨J,M,G,_,C⟩:=h
 cases G
 rcases C with rfl | ⟨i,cur,z2,rfl,_,A,_⟩
 · exact absurd aa I
 · rintro rfl
   rw [show (bk<|some ⟨i,0,none⟩)=i from rfl] at c
   rw [A] at c
   simp only [eM,sg] at c
   exact E c.2.1
theorem LO {F:aE} {V:dG} {mc i o x:Nat} (h5:F.sp.length=5) (hi:i < 5) (q:o=3 +i):(l8 F V mc).set o (aO x)=l8 {F with sp:=F.sp.set i x} V mc:=by
 subst q
 obtain ⟨k,cs,tr,sp,le,A,al,cl,ru⟩:=F
 match sp,h5 with
 | [a,b,c,d,e],_=>
   match i,hi with
   | 0,_=>rfl
   | 1,_=>rfl
   | 2,_=>rfl
   | 3,_=>rfl
   | 4,_=>rfl
theorem Bi (b:Bool):decide (((if b=true then 1 else 0:Nat):Int)=0)= !b:=by cases b <;> rfl
theorem Ew {x y:Nat} (h:aO x=aO y):x=y:=by unfold aO at h; injection h with _ h; omega
theorem Eo {F F':aE} {f:Value→Option Value} {x:Nat} (hd:dJ F x=false) (i:∀ y:Nat,y≠0→(f<|aO y).getD (.int .i64 0)= .int .i64 ((if dJ F y=true then 1 else 0:Nat):Nat)) (c:∀ y,y≠0→dJ F' y=(decide (y=x) || dJ F y)) (y:Nat) (a:y≠0):(bw f (aO x) (.int .i64 (1:Nat))<|aO y).getD (.int .i64 0)= .int .i64 ((if dJ F' y=true then 1 else 0:Nat):Nat):=by
 rw [c y a]
 by_cases h:y=x
 · subst h; rw [rL]; simp
 · rw [pZ (fun h2=>h<|Ew h2),i y a]; simp [h]
theorem gY {G:Nat→Prop} {w w':World} (h:Md G w.drew w'):Md G w w':=⟨h.os,h.output,h.size,h.dE⟩
theorem c4.get {w:World} {B e i:Nat} {vs:List Value} {a:List (List Nat)} (h:c4 w B e vs a) (hi:i < a.length):∃ v,vs[i]? =some v∧Tg w B e (a.getD i []).length v ((a.getD i []).map aO):=by
 have h1:i < vs.length:=by rw [h.1]; exact hi
 refine ⟨vs[i],cx h1,h.2 i _ _ (cx h1) ?_⟩
 rw [cO,cx hi]; rfl
theorem Tg.pW {w:World} {B e n cp:Nat} {a:Option Addr} {xs:List Value} (h:Tg w B e n (.slice a n cp) xs) (q:xs.length=n) (c:a=none):n=0:=by
 obtain ⟨C,G,A,_,i⟩:=h
 cases A
 rcases i with rfl | ⟨E,cur,z2,h2,_⟩
 · exact q.symm
 · rw [c] at h2; cases h2
theorem Tg.C7 {G:Nat→Prop} {w w':World} {B e n:Nat} {v:Value} {xs:List Value} (h:Tg w B e n v xs) (hm:Md G w w') (q:∀ k,G k→k < B):Tg w' B e n v xs:=by
 obtain ⟨a,cp,rfl,c,h | ⟨b,cur,z,rfl,A,i,C⟩⟩:=h
 · exact ⟨a,cp,aa,c,.inl h⟩
 · exact ⟨_,cp,aa,c,.inr ⟨b,cur,z,aa,A,by rw [hm.dE b (cg.1 i).1 (fun hk=>by have :=q b hk; omega)]; exact i,C⟩⟩
end Go.Hb.eN
end
section
namespace Go.Hb
abbrev aj (n:Nat):Value:= .int .i64 (n:Nat)
abbrev aU (b:Nat):Value:= .pointer<|some ⟨b,0,none⟩
variable {P:Program} {N:Fm} {ops:Array Oper} {Q:Exit→(Nat→Value)→World→Prop} {σ:Nat→Value} {w:World} {S:World→Prop} {r fuel:Nat} {aK:Array Bool} {d:Nat} {op:Op} {ty:TypeId} {pos :String} {af:Array Edge} {v:Value}
theorem aI (i:Nat) (hi:ops[i]? =some ⟨some d,op,ty,pos,af,none⟩) (q:∀ w,S w→(execOp (ev N σ) ⟨some d,op,ty,pos,af,none⟩).run P w= .ok (.value v) w) (a:S w) (k:eG P N ops Q S fuel (aK.setIfInBounds i true) (cz σ d v) w) (c:gM N.F ops aK i=true :=by kernel_rfl):eG P N ops Q S (fuel+1) aK σ w:=hp i hi c q a k
theorem dM (i:Nat) (hi:ops[i]? =some ⟨some d,op,ty,pos,af,none⟩) (q:∀ w,S w→(execOp (ev N σ) ⟨some d,op,ty,pos,af,none⟩).run P w= .ok (.value v) w) (a:S w) (k:fH P N ops Q S r fuel (aK.setIfInBounds i true) (cz σ d v) w) (c:xB N.F ops aK r i=true :=by kernel_rfl):fH P N ops Q S r (fuel+1) aK σ w:=iR i hi c q a k
theorem bp (i:Nat) (hi:ops[i]? =some ⟨some d,op,ty,pos,af,none⟩) (q:∀ w,(execOp (ev N σ) ⟨some d,op,ty,pos,af,none⟩).run P w= .ok (.value v) w) (a:aK.getD r false =false→S w) (k:fH P N ops Q S r fuel (aK.setIfInBounds i true) (cz σ d v) w) (c:tL N.F ops aK r i=true :=by kernel_rfl):fH P N ops Q S r (fuel+1) aK σ w:=bV i hi c q a k
theorem bH {x:Operand} (i:Nat) (hi:ops[i]? =some ⟨some d,.move x,ty,pos,af,none⟩) (v:Value) (a:S w) (k:eG P N ops Q S fuel (aK.setIfInBounds i true) (cz σ d v) w) (q:ev N σ x=v:=by exact aa) (c:gM N.F ops aK i=true :=by kernel_rfl):eG P N ops Q S (fuel+1) aK σ w:=hp i hi c (fun _ _=>aG v q) a k
theorem bg {x:Operand} (i:Nat) (hi:ops[i]? =some ⟨some d,.move x,ty,pos,af,none⟩) (v:Value) (a:S w) (k:fH P N ops Q S r fuel (aK.setIfInBounds i true) (cz σ d v) w) (q:ev N σ x=v:=by exact aa) (c:tL N.F ops aK r i=true :=by kernel_rfl):fH P N ops Q S r (fuel+1) aK σ w:=bV i hi c (fun _=>aG v q) (fun _=>a) k
theorem bf {P:Program} {f:FuncId} {fn:Func} (c:P.funcs[f]? =some fn) (hn:(fn.name== "runtime.NumGoroutine")=false :=by kernel_rfl) (a:fn.body.isNone=false :=by kernel_rfl):a8 P f:=IT c hn a
section
variable {rest:List Oper} {x:Operand} {K:(Nat→Value)→World→Prop} {l:List Oper} {id:Nat} {y z:Code} {j t:Nat} {want b:Bool} {fn:Func} {R:Value→World→Prop}
theorem az (h:∀ {K:(Nat→Value)→World→Prop},(∀ {σ w},cB P N y Q σ w→jT K Q .normal σ w)→cB P N z (jT K Q) σ w):cB P N (.seq z y) Q σ w:=sq fun K a=>h fun hw=>a _ _ hw
theorem ak (h:∀ {K:(Nat→Value)→World→Prop},(∀ {σ w},cB P N y Q σ w→jT K Q .normal σ w)→dw P N l.toArray (jT K Q) l σ w) (c:pX N.r l=true :=by exact aa):cB P N (.seq (.region id l.toArray false) y) Q σ w:=sq fun K a=>rg c<|h fun hw=>a _ _ hw
theorem ay (h:Q .normal (cz σ d<|ev N σ x) w):dw P N ops Q [⟨some d,.assign x,ty,pos,af,none⟩] σ w:=p aA<|nl h
theorem bc {id:Nat} (h:Q (.exit id) σ w):jT K Q (.exit id) σ w:=h
theorem aJ (h:(iz ops j,eU t N.n,σ t,b==want)=(some t,true,.bool b,false)) (k:dw P N ops Q rest (cz σ d undef) w):dw P N ops Q (⟨some d,op,ty,pos,af,some (j,want)⟩::rest) σ w:=sk (congrArg kO h) (congrArg (·.2.1) h) (congrArg (·.2.2.1) h) (congrArg (·.2.2.2) h) k
theorem eT (h:(iz ops j,eU t N.n,σ t)=(some t,true,undef)) (k:dw P N ops Q rest (cz σ d undef) w):dw P N ops Q (⟨some d,op,ty,pos,af,some (j,want)⟩::rest) σ w:=ue (congrArg kO h) (congrArg (·.2.1) h) (congrArg (·.2.2) h) k
theorem aR (h:(iz ops j,eU t N.n,σ t)=(some t,true,.bool want)) (a:(execOp (ev N σ) ⟨some d,op,ty,pos,af,some (j,want)⟩).run P w= .ok (.value v) w) (k:dw P N ops Q rest (cz σ d v) w):dw P N ops Q (⟨some d,op,ty,pos,af,some (j,want)⟩::rest) σ w:=pg (congrArg kO h) (congrArg (·.2.1) h) (congrArg (·.2.2) h) a k
theorem a7 (i:Nat) (h:(ops[i]?,iz ops j,eU t N.n,σ t,b==want)=(some ⟨some d,op,ty,pos,af,some (j,want)⟩,some t,true,.bool b,false)) (a:S w) (k:eG P N ops Q S fuel (aK.setIfInBounds i true) (cz σ d undef) w) (c:gM N.F ops aK i=true :=by kernel_rfl):eG P N ops Q S (fuel+1) aK σ w:=ma i (congrArg kO h) c (congrArg (·.2.1) h) (congrArg (·.2.2.1) h) (congrArg (·.2.2.2.1) h) (congrArg (·.2.2.2.2) h) a k
theorem bh (i:Nat) (h:(ops[i]?,iz ops j,eU t N.n,σ t)=(some ⟨some d,op,ty,pos,af,some (j,want)⟩,some t,true,.bool want)) (q:∀ w,S w→(execOp (ev N σ) ⟨some d,op,ty,pos,af,some (j,want)⟩).run P w= .ok (.value v) w) (a:S w) (k:eG P N ops Q S fuel (aK.setIfInBounds i true) (cz σ d v) w) (c:gM N.F ops aK i=true :=by kernel_rfl):eG P N ops Q S (fuel+1) aK σ w:=l9 i (congrArg kO h) c (congrArg (·.2.1) h) (congrArg (·.2.2.1) h) (congrArg (·.2.2.2) h) q a k
theorem a6 (h:(fn.results,ev N σ (.tmp t))=(#[.tmp t],v)) (a:R v w):fin P fn N R .ret σ w:=f1 (congrArg kO h) (congrArg Prod.snd h) a
theorem ao (v:Value) (h:dw P N ops Q rest (cz σ d v) w) (a:ev N σ x=v:=by exact aa):dw P N ops Q (⟨some d,.move x,ty,pos,af,none⟩::rest) σ w:=p (aG v a) h
end
end Go.Hb
end
section
namespace Go.Hb.dB
open Go.Proofs
theorem zM:cH au 113=some none:=ag
theorem qH:cH au 123=some none:=ag
theorem qI:cH au 131=some (some 5):=ag
theorem GO:cH au 136=some (some 2):=ag
theorem zN:cH au 152=some none:=ag
theorem vu:cH au 153=some none:=ag
theorem pc:cH au 158=some none:=ag
theorem zO:cH au 184=some none:=ag
theorem pd:cH au 187=some none:=ag
theorem ph:cH au 193=some none:=ag
theorem zP:cH au 200=some none:=ag
theorem sQ:cH au 209=some (some 2):=ag
theorem nw:cH au 22=some none:=ag
theorem lx:cH au 268=some none:=ag
theorem sR:cH au 27=some none:=ag
theorem kQ:cH au 270=some (some 1):=ag
theorem bW:cH au 3=some none:=ag
theorem iX:cH au 325=some (some 4):=ag
theorem og:cH au 340=some none:=ag
theorem oh:cH au 4=some none:=ag
theorem ny:cH au 41=some (some 5):=ag
theorem jm:cH au 47=some (some 3):=ag
theorem vv:cH au 5=some none:=ag
theorem bM:cH au 51=some none:=ag
theorem zQ:cH au 52=some (some 5):=ag
theorem zR:cH au 53=some none:=ag
theorem om:cH au 54=some none:=ag
theorem sS:cH au 55=some none:=ag
theorem jX:cH au 56=some none:=ag
theorem vw:cH au 58=some (some 13):=ag
theorem ed:cH au 60=some none:=ag
theorem GP:cH au 61=some none:=ag
theorem qJ:cH au 62=some none:=ag
theorem kR:cH au 70=some none:=ag
theorem jF:cH au 72=some (some 2):=ag
theorem sT:cH au 75=some none:=ag
theorem ko:cH au 77=some (some 7):=ag
theorem oo:cH au 87=some none:=ag
theorem cG:cH au 9=some none:=ag
theorem oq:ot au 325=some (4,1):=ag
theorem zZ:ot au 351=some (256,1):=ag
theorem qL:ot au 52=some (5,1):=ag
theorem z1:vA au 325=some ([.int .u64 0,.int .u64 0,.int .u64 0,.int .u64 0]):=ag
theorem vE:sZ au 153 5 9=true :=ag
theorem Hz:a8 au 109:=bf func109
theorem Af:a8 au 111:=bf func111
theorem jY:a8 au 12:=bf func12
theorem vG:a8 au 125:=bf func125
theorem Ag:a8 au 126:=bf func126
theorem HA:a8 au 127:=bf func127
theorem HB:a8 au 128:=bf func128
theorem HC:a8 au 129:=bf func129
theorem Ah:a8 au 13:=bf func13
theorem HD:a8 au 130:=bf func130
theorem qQ:a8 au 131:=bf func131
theorem HE:a8 au 132:=bf func132
theorem HF:a8 au 133:=bf func133
theorem HG:a8 au 134:=bf func134
theorem Ai:a8 au 135:=bf func135
theorem l1:a8 au 136:=bf func136
theorem vH:a8 au 137:=bf func137
theorem s7:a8 au 138:=bf func138
theorem vI:a8 au 139:=bf func139
theorem Aj:a8 au 140:=bf func140
theorem Ak:a8 au 141:=bf func141
theorem HH:a8 au 142:=bf func142
theorem HI:a8 au 143:=bf func143
theorem Al:a8 au 144:=bf func144
theorem HJ:a8 au 145:=bf func145
theorem HK:a8 au 146:=bf func146
theorem HL:a8 au 147:=bf func147
theorem Am:a8 au 148:=bf func148
theorem An:a8 au 149:=bf func149
theorem HM:a8 au 150:=bf func150
theorem HN:a8 au 151:=bf func151
theorem HO:a8 au 16:=bf func16
theorem HP:a8 au 169:=bf func169
theorem Ao:a8 au 189:=bf func189
theorem vJ:a8 au 19:=bf func19
theorem HQ:a8 au 190:=bf func190
theorem vK:a8 au 191:=bf func191
theorem Ap:a8 au 192:=bf func192
theorem vL:a8 au 193:=bf func193
theorem HR:a8 au 194:=bf func194
theorem vM:a8 au 195:=bf func195
theorem s8:a8 au 196:=bf func196
theorem vN:a8 au 197:=bf func197
theorem Aq:a8 au 198:=bf func198
theorem Ar:a8 au 199:=bf func199
theorem qR:a8 au 20:=bf func20
theorem As:a8 au 200:=bf func200
theorem HS:a8 au 201:=bf func201
theorem HT:a8 au 202:=bf func202
theorem Au:a8 au 203:=bf func203
theorem Av:a8 au 204:=bf func204
theorem Aw:a8 au 205:=bf func205
theorem HU:a8 au 206:=bf func206
theorem HV:a8 au 207:=bf func207
theorem vO:a8 au 208:=bf func208
theorem Ax:a8 au 209:=bf func209
theorem HW:a8 au 21:=bf func21
theorem vP:a8 au 210:=bf func210
theorem vQ:a8 au 211:=bf func211
theorem HX:a8 au 212:=bf func212
theorem HY:a8 au 213:=bf func213
theorem HZ:a8 au 227:=bf func227
theorem H0:a8 au 228:=bf func228
theorem H2:a8 au 238:=bf func238
theorem H3:a8 au 239:=bf func239
theorem pz:a8 au 24:=bf func24
theorem H4:a8 au 240:=bf func240
theorem Ay:a8 au 241:=bf func241
theorem Az:a8 au 242:=bf func242
theorem H5:a8 au 243:=bf func243
theorem AA:a8 au 244:=bf func244
theorem H6:a8 au 245:=bf func245
theorem H7:a8 au 246:=bf func246
theorem H8:a8 au 247:=bf func247
theorem H9:a8 au 248:=bf func248
theorem Ia:a8 au 249:=bf func249
theorem AB:a8 au 25:=bf func25
theorem Ib:a8 au 250:=bf func250
theorem vR:a8 au 251:=bf func251
theorem AD:a8 au 264:=bf func264
theorem Ic:a8 au 265:=bf func265
theorem vS:a8 au 266:=bf func266
theorem Ie:a8 au 267:=bf func267
theorem vT:a8 au 268:=bf func268
theorem AE:a8 au 269:=bf func269
theorem If:a8 au 270:=bf func270
theorem Ig:a8 au 279:=bf func279
theorem AF:a8 au 280:=bf func280
theorem Ih:a8 au 281:=bf func281
theorem Ii:a8 au 282:=bf func282
theorem Ij:a8 au 283:=bf func283
theorem Ik:a8 au 284:=bf func284
theorem Il:a8 au 285:=bf func285
theorem Im:a8 au 286:=bf func286
theorem Io:a8 au 287:=bf func287
theorem Ip:a8 au 288:=bf func288
theorem jZ:a8 au 289:=bf func289
theorem Iq:a8 au 290:=bf func290
theorem Ir:a8 au 291:=bf func291
theorem Is:a8 au 297:=bf func297
theorem It:a8 au 298:=bf func298
theorem AG:a8 au 299:=bf func299
theorem vU:a8 au 300:=bf func300
theorem AH:a8 au 301:=bf func301
theorem Iu:a8 au 302:=bf func302
theorem vV:a8 au 308:=bf func308
theorem Iv:a8 au 40:=bf func40
theorem Iw:a8 au 41:=bf func41
theorem Ix:a8 au 42:=bf func42
theorem Iy:a8 au 45:=bf func45
theorem Iz:a8 au 46:=bf func46
theorem IA:a8 au 47:=bf func47
theorem IB:a8 au 48:=bf func48
theorem IC:a8 au 49:=bf func49
theorem ID:a8 au 50:=bf func50
theorem ou:a8 au 51:=bf func51
theorem IE:a8 au 52:=bf func52
theorem AI:a8 au 53:=bf func53
theorem AJ:a8 au 54:=bf func54
theorem AK:a8 au 55:=bf func55
theorem IF:a8 au 56:=bf func56
theorem vW:a8 au 57:=bf func57
theorem s9:a8 au 59:=bf func59
theorem IG:a8 au 61:=bf func61
theorem vX:a8 au 70:=bf func70
theorem IH:a8 au 71:=bf func71
theorem II:a8 au 79:=bf func79
theorem AL:a8 au 80:=bf func80
theorem AM:a8 au 81:=bf func81
theorem IJ:a8 au 82:=bf func82
theorem IK:a8 au 83:=bf func83
theorem AN:a8 au 84:=bf func84
theorem fD:a8 au 85:=bf func85
theorem IL:a8 au 86:=bf func86
theorem pA:a8 au 87:=bf func87
theorem IM:a8 au 88:=bf func88
theorem IN:a8 au 89:=bf func89
theorem IP:a8 au 90:=bf func90
theorem vY:a8 au 91:=bf func91
theorem IQ:a8 au 92:=bf func92
theorem AO:a8 au 93:=bf func93
theorem IS:a8 au 94:=bf func94
theorem AP:a8 au 95:=bf func95
theorem AQ:a8 au 96:=bf func96
theorem AR:a8 au 97:=bf func97
theorem JC:∀ (l:List UInt8) (c:UInt8) (w:World),(callFunc 307 #[str l,.int .u8 c.toNat]).run au w= .ok (.value<|.int .i64 (l.count c:Nat)) w:=PT func307 ag ag ag ag
theorem Kg:∀ v w,(callFunc 158 #[v]).run au w= .ok (.value v) w:=fun v w=>ag
theorem ov:dC au 131=some 5:=ag
theorem Kh:dC au 136=some 2:=ag
theorem Ki:dC au 152=some 1:=ag
theorem Kj:dC au 153=some 1:=ag
theorem Kk:dC au 158=some 1:=ag
theorem A4:dC au 187=some 1:=ag
theorem Kl:dC au 202=some 2:=ag
theorem A5:dC au 209=some 2:=ag
theorem A6:dC au 268=some 1:=ag
theorem Km:dC au 27=some 1:=ag
theorem nC:dC au 270=some 1:=ag
theorem kW:dC au 3=some 1:=ag
theorem mN:dC au 325=some 4:=ag
theorem td:dC au 340=some 1:=ag
theorem A7:dC au 4=some 1:=ag
theorem A8:dC au 41=some 5:=ag
theorem gS:dC au 47=some 3:=ag
theorem eu:dC au 51=some 1:=ag
theorem Kn:dC au 52=some 5:=ag
theorem A9:dC au 53=some 1:=ag
theorem Ba:dC au 54=some 1:=ag
theorem Bb:dC au 55=some 1:=ag
theorem Bc:dC au 56=some 1:=ag
theorem wq:dC au 58=some 13:=ag
theorem wu:dC au 60=some 1:=ag
theorem Be:dC au 62=some 1:=ag
theorem pD:dC au 70=some 1:=ag
theorem iu:dC au 72=some 2:=ag
theorem Bf:dC au 75=some 1:=ag
theorem mO:dC au 77=some 7:=ag
theorem Ko:dC au 87=some 1:=ag
theorem mP:dC au 9=some 1:=ag
theorem Lr:fM au 137=some 2:=ag
theorem oy:fM au 153=some 1:=ag
theorem pJ:fM au 187=some 2:=ag
theorem Bw:fM au 217=some 1:=ag
theorem Bx:fM au 268=some 4:=ag
theorem tw:fM au 27=some 5:=ag
theorem wU:fM au 54=some 1:=ag
theorem Ls:fM au 55=some 5:=ag
theorem ks:fM au 56=some 7:=ag
theorem wV:fM au 62=some 2:=ag
theorem bB:fM au 70=some 1:=ag
theorem q7:fM au 75=some 1:=ag
theorem dD:fM au 87=some 1:=ag
theorem xa:xe au 58 8=some 12:=ag
theorem eZ:cj au 125 0=some 0:=ag
theorem B3:cj au 125 1=some 13:=ag
theorem xp:cj au 131 0=some 0:=ag
theorem rh:cj au 131 1=some 1:=ag
theorem B4:cj au 131 2=some 2:=ag
theorem B5:cj au 131 3=some 3:=ag
theorem tD:cj au 131 4=some 4:=ag
theorem L8:cj au 136 0=some 0:=ag
theorem L9:cj au 136 1=some 1:=ag
theorem xq:cj au 155 0=some 0:=ag
theorem tE:cj au 155 1=some 1:=ag
theorem pM:cj au 183 0=some 0:=ag
theorem ri:cj au 183 1=some 1:=ag
theorem xr:cj au 183 2=some 2:=ag
theorem xu:cj au 183 3=some 3:=ag
theorem B6:cj au 183 4=some 4:=ag
theorem B7:cj au 183 5=some 5:=ag
theorem tF:cj au 186 0=some 0:=ag
theorem B8:cj au 186 1=some 1:=ag
theorem fw:cj au 195 0=some 0:=ag
theorem rj:cj au 195 1=some 1:=ag
theorem rk:cj au 195 2=some 2:=ag
theorem Ma:cj au 195 3=some 3:=ag
theorem pN:cj au 195 4=some 4:=ag
theorem xv:cj au 195 5=some 5:=ag
theorem xw:cj au 195 6=some 6:=ag
theorem B9:cj au 202 0=some 0:=ag
theorem Ca:cj au 202 1=some 1:=ag
theorem tG:cj au 209 0=some 0:=ag
theorem rl:cj au 209 1=some 1:=ag
theorem kt:cj au 270 0=some 0:=ag
theorem xx:cj au 41 0=some 0:=ag
theorem tH:cj au 41 1=some 1:=ag
theorem mQ:cj au 41 2=some 2:=ag
theorem mR:cj au 41 3=some 3:=ag
theorem oA:cj au 41 4=some 4:=ag
theorem pO:cj au 58 0=some 0:=ag
theorem Mb:cj au 58 1=some 1:=ag
theorem Mc:cj au 58 2=some 2:=ag
theorem tI:cj au 58 3=some 3:=ag
theorem xy:cj au 58 4=some 8:=ag
theorem tJ:cj au 58 5=some 9:=ag
theorem mS:cj au 58 6=some 10:=ag
theorem pP:cj au 58 7=some 11:=ag
theorem lD:cj au 58 8=some 12:=ag
theorem rm:cj au 64 0=some 0:=ag
theorem Me:cj au 64 1=some 1:=ag
theorem rp:cj au 64 2=some 2:=ag
theorem xz:cj au 64 3=some 15:=ag
theorem tK:cj au 72 0=some 0:=ag
theorem oB:cj au 72 1=some 1:=ag
theorem Cb:cj au 77 0=some 0:=ag
theorem rq:cj au 77 2=some 2:=ag
theorem pQ:cj au 77 3=some 3:=ag
theorem xA:cj au 77 4=some 4:=ag
theorem Cc:cj au 77 5=some 5:=ag
theorem nE:cj au 77 6=some 6:=ag
theorem M3:(au.info? 155).isSome=true :=ag
theorem Ni:∀ (l:List UInt8) (c:UInt8) (w:World),(callFunc 292 #[str l,.int .u8 c.toNat]).run au w= .ok (.value<|.int .i64<|dK c l) w:=PU func292 ag ag ag ag
theorem oE:lY au 51 (mT .u16):=Ns (q:= .u16) ag
theorem fZ:lY au 9 gv:=Nt ag
theorem xY:oH au 47=true :=ag
theorem Pf:ptrTo au 227 5=true :=ag
theorem Qe:fz au 137 136 2 32=true :=ag
theorem oM:fz au 153 5 1 1=true :=ag
theorem D7:fz au 187 209 2 32=true :=ag
theorem ug:fz au 268 325 4 32=true :=ag
theorem D8:fz au 27 41 5 48=true :=ag
theorem uh:fz au 53 128 2 32=true :=ag
theorem ui:fz au 54 70 1 24=true :=ag
theorem uj:fz au 55 131 5 40=true :=ag
theorem uk:fz au 56 77 7 88=true :=ag
theorem um:fz au 62 72 2 40=true :=ag
theorem uo:fz au 70 51 1 2=true :=ag
theorem p4:fz au 75 3 1 8=true :=ag
theorem jS:fz au 87 9 1 16=true :=ag
theorem Qr:jg au 125=some ([(0,13),(13,1)],[.int .i64 0,.string ⟨⟨[]⟩⟩,.string ⟨⟨[]⟩⟩,.int .u16 0,.int .u16 0,.int .u16 0,.int .u16 0,.int .u16 0,.int .i64 0,.slice none 0 0,.slice none 0 0,.slice none 0 0,.slice none 0 0,.map none]):=ag
theorem Qs:jg au 128=some ([(0,1),(1,1)],[.string ⟨⟨[]⟩⟩,.string ⟨⟨[]⟩⟩]):=ag
theorem yF:jg au 131=some ([(0,1),(1,1),(2,1),(3,1),(4,1)],[.int .u16 0,.int .i64 0,.bool false,.int .i64 0,.int .i64 0]):=ag
theorem yG:jg au 136=some ([(0,1),(1,1)],[.slice none 0 0,.int .i64 0]):=ag
theorem Qt:jg au 183=some ([(0,1),(1,1),(2,1),(3,1),(4,1),(5,1)],[.pointer none,.slice none 0 0,.int .i64 0,.string ⟨⟨[]⟩⟩,.slice none 0 0,.nilFunc]):=ag
theorem Qu:jg au 186=some ([(0,1),(1,1)],[.slice none 0 0,.map none]):=ag
theorem Qv:jg au 195=some ([(0,1),(1,1),(2,1),(3,1),(4,1),(5,1),(6,1)],[.pointer none,.slice none 0 0,.int .i64 0,.int .i64 0,.map none,.map none,.slice none 0 0]):=ag
theorem kH:jg au 202=some ([(0,1),(1,1)],[.int .i64 0,.nilFunc]):=ag
theorem Qw:jg au 209=some ([(0,1),(1,1)],[.int .i64 0,.slice none 0 0]):=ag
theorem rW:jg au 270=some ([(0,1)],[.slice none 0 0]):=ag
theorem uq:jg au 41=some ([(0,1),(1,1),(2,1),(3,1),(4,1)],[.string ⟨⟨[]⟩⟩,.int .i64 0,.int .i64 0,.int .i64 0,.int .i64 0]):=ag
theorem p5:jg au 47=some ([(0,1),(1,1),(2,1)],[.int .i64 0,.int .i64 0,.int .i64 0]):=ag
theorem Qx:jg au 64=some ([(0,1),(1,1),(2,13),(15,1)],[.pointer none,.pointer none,.int .i64 0,.string ⟨⟨[]⟩⟩,.string ⟨⟨[]⟩⟩,.int .u16 0,.int .u16 0,.int .u16 0,.int .u16 0,.int .u16 0,.int .i64 0,.slice none 0 0,.slice none 0 0,.slice none 0 0,.slice none 0 0,.slice none 0 0]):=ag
theorem lJ:jg au 72=some ([(0,1),(1,1)],[.string ⟨⟨[]⟩⟩,.slice none 0 0]):=ag
theorem yH:jg au 77=some ([(0,1),(1,1),(2,1),(3,1),(4,1),(5,1),(6,1)],[.int .i64 0,.int .u16 0,.bool false,.string ⟨⟨[]⟩⟩,.string ⟨⟨[]⟩⟩,.string ⟨⟨[]⟩⟩,.slice none 0 0]):=ag
theorem oO:au.underlying 123=some (.map 51 3):=ag
theorem Q7:au.underlying 137=some (.slice 136):=ag
theorem Ev:au.underlying 152=some (.pointer 155):=ag
theorem nT:au.underlying 153=some (.slice 5):=ag
theorem Ex:au.underlying 184=some (.map 9 75):=ag
theorem uw:au.underlying 187=some (.slice 209):=ag
theorem nU:au.underlying 193=some (.map 9 3):=ag
theorem kb:au.underlying 197=some (.map 9 202):=ag
theorem Ey:au.underlying 217=some (.slice 51):=ag
theorem rZ:au.underlying 22=some (.pointer 64):=ag
theorem Ez:au.underlying 226=some (.int .u64):=ag
theorem nV:au.underlying 268=some (.slice 325):=ag
theorem ux:au.underlying 27=some (.slice 41):=ag
theorem u3:au.underlying 3=some (.int .i64):=ag
theorem Q8:au.underlying 340=some (.int .u64):=ag
theorem u5:au.underlying 5=some (.int .u8):=ag
theorem uy:au.underlying 51=some (.int .u16):=ag
theorem Q9:au.underlying 53=some (.slice 128):=ag
theorem uz:au.underlying 54=some (.slice 70):=ag
theorem EA:au.underlying 55=some (.slice 131):=ag
theorem qa:au.underlying 56=some (.slice 77):=ag
theorem r4:au.underlying 60=some (.pointer 125):=ag
theorem EB:au.underlying 61=some (.pointer 186):=ag
theorem uA:au.underlying 62=some (.slice 72):=ag
theorem mm:au.underlying 70=some (.slice 51):=ag
theorem uB:au.underlying 75=some (.slice 3):=ag
theorem gP:au.underlying 87=some (.slice 9):=ag
theorem u9:au.underlying 9=some (.string):=ag
theorem EF:r5 au 152 279 155 2=true :=ag
theorem Rf:(au.underlying 158).isSome=true :=ag
theorem Rg:(au.underlying 226).isSome=true :=ag
theorem qe:(au.underlying 3).isSome=true :=ag
theorem r6:(au.underlying 5).isSome=true :=ag
theorem wide:au.follows .mixedOrders=true :=ag
theorem qj:zeroOf au 131=some (some [.int .u16 0,.int .i64 0,.bool false,.int .i64 0,.int .i64 0]):=ag
theorem RS:zeroOf au 136=some (some [.slice none 0 0,.int .i64 0]):=ag
theorem E4:zeroOf au 155=some (some [.pointer none,.slice none 0 0]):=ag
theorem RT:zeroOf au 187=some (some [.slice none 0 0]):=ag
theorem RU:zeroOf au 202=some (some [.int .i64 0,.nilFunc]):=ag
theorem E5:zeroOf au 209=some (some [.int .i64 0,.slice none 0 0]):=ag
theorem RV:zeroOf au 27=some (some [.slice none 0 0]):=ag
theorem uI:zeroOf au 270=some (some [.slice none 0 0]):=ag
theorem RW:zeroOf au 3=some (some [.int .i64 0]):=ag
theorem oP:zeroOf au 325=some (some [.int .u64 0,.int .u64 0,.int .u64 0,.int .u64 0]):=ag
theorem RX:zeroOf au 340=some (some [.int .u64 0]):=ag
theorem E6:zeroOf au 41=some (some [.string ⟨⟨[]⟩⟩,.int .i64 0,.int .i64 0,.int .i64 0,.int .i64 0]):=ag
theorem mu:zeroOf au 47=some (some [.int .i64 0,.int .i64 0,.int .i64 0]):=ag
theorem RY:zeroOf au 52=some (some [.int .u16 0,.int .u16 0,.int .u16 0,.int .u16 0,.int .u16 0]):=ag
theorem E7:zeroOf au 58=some (some [.int .i64 0,.string ⟨⟨[]⟩⟩,.string ⟨⟨[]⟩⟩,.int .u16 0,.int .u16 0,.int .u16 0,.int .u16 0,.int .u16 0,.int .i64 0,.slice none 0 0,.slice none 0 0,.slice none 0 0,.slice none 0 0]):=ag
theorem RZ:zeroOf au 60=some (some [.pointer none]):=ag
theorem m8:zeroOf au 72=some (some [.string ⟨⟨[]⟩⟩,.slice none 0 0]):=ag
theorem oQ:zeroOf au 77=some (some [.int .i64 0,.int .u16 0,.bool false,.string ⟨⟨[]⟩⟩,.string ⟨⟨[]⟩⟩,.string ⟨⟨[]⟩⟩,.slice none 0 0]):=ag
theorem R5:zeroOf au 87=some (some [.slice none 0 0]):=ag
theorem R6:zeroOf au 9=some (some [.string ⟨⟨[]⟩⟩]):=ag
theorem R7:zeroOf au 351=some (some<|ir 256<|.bool false):=ag
theorem R8:zeroV au 202=some (.agg #[.int .i64 0,.nilFunc]):=ag
theorem mx:zeroV au 3=some (.int .i64 0):=ag
theorem R9:zeroV au 47=some (.agg #[.int .i64 0,.int .i64 0,.int .i64 0]):=ag
theorem Sa:zeroV au 5=some (.int .u8 0):=ag
theorem Sb:zeroV au 51=some (.int .u16 0):=ag
theorem Sc:zeroV au 75=some (.slice none 0 0):=ag
end Go.Hb.dB
end
section
namespace Go.Hb
open Go.Hb.dB
open Go.Proofs
theorem JO (b:Nat) (c:Option Addr) (q:Value) (w:World) (a:w.heap[b]? =some (.cells [uW c,q].toArray 155 (0,0))) (hp:c=none∨c=some ⟨b,0,none⟩):
 ba au 109 (aY [aU b]) w (fun v w'=>v= .tuple #[]∧w'.heap[b]? =some (.cells [uW (some ⟨b,0,none⟩),q].toArray 155 (0,0))∧Md (fun k=>k=b) w w'):=by
 refine enter func109 aa ntmps109 aa<|ak fun A=>ao (aU b)<|p (nc aa)<|p (fa xq aa)<|p (ld zN aa<|(aX a).trans aa)<|p (kY Ev aa aa)<|nl<|A<|cb aa (fun i=> ?_) fun i=> ?_
 obtain rfl :c=none:=by simpa using i
 exact rg aa<|ao (aU b)<|ao (aU b)<|p (QX EF aa a aa)<|p (JA Kg aa)<|p (Ml EF aa a aa)<|p (nc aa)<|p (fa xq aa)<|e<|dA Ki aa aa aa a (by simp) fun I G E=>nl<|f0 aa<|⟨aa,E,G⟩
 obtain rfl :c=some ⟨b,0,none⟩:=hp.resolve_left<|by rintro rfl; simp at i
 exact ak fun C=>ao (aU b)<|p (nc aa)<|p (fa xq aa)<|p (ld zN aa<|(aX a).trans aa)<|ao (aU b)<|p (On Ev M3 aa aa)<|nl<|C<|cf aa<|aM<|f0 aa<|⟨aa,a,Md.refl _ _⟩
theorem EZ (b:Nat) (i:Value) (l:List UInt8) (c:UInt8) (w:World) (ai:Bd 155 5 w b i l) (ax:l.length≤70368744177664):
 ba au 203 (aY [aU b,.int .u8 c.toNat]) w (fun v w'=>v= .nilIface∧∃ E,Bd 155 5 w' b E (l++ [c])∧Md (BF b i) w w'∧∀ k,BF b E k→BF b i k∨w.heap.size≤k):=by
 obtain ⟨⟨ar,M,an⟩,hown,hnil⟩:=ai
 have az:b < w.heap.size:=(cg.1 M).1
 have O:∀ k,i.ownBlock=some k→k≠b∧k < w.heap.size:=fun k hk=>by have :=hown.lt k hk; exact ⟨ab,this.2⟩
 refine enter func203 aa ntmps203 aa<|ak fun V=>ay<|V<|ak fun Y=>ao (aU b)<|e<|cl Hz (JO b ar i w M an) aa fun v6 aH ah=> ?_
 obtain ⟨_,J,A⟩:=ah
 have am:=bZ hown A fun k hk=>(O k hk).1
 have aD:=A.size
 refine nl<|Y<|ak fun Z=>ao (aU b)<|ao (aU b)<|p (nc aa)<|p (fa tE aa)<|p (ld vu aa<|(aX J).trans aa)<|ao (.int .u8 c.toNat)<|e<|kT oM aa aa fun av aE aw q ae=>e<|ap oM (aV am q.md) aa (by have :=q.size; omega) aa (aC.fO ae) (aa) (aa) ab ab fun U aF C G aq al=> ?_
 have aj:=G.aB (Wk.aB q.md J) fun h=>(O b h).1 rfl
 refine p (nc aa)<|p (fa tE aa)<|e<|dA Kj aa aa (by obtain ⟨a,c,h,_⟩:=pY C; exact congrArg eH h) aj (by simp) fun aG I ag=>nl<|Z<|ak fun ac=>p aA<|nl<|ac<|rt<|a6 aa ?_
 have ad:∀ k,U.ownBlock=some k→k≠b:=fun k hk=>by have :=C.lt k hk; omega
 refine ⟨aa,U,⟨⟨_,ag,.inr aa⟩,?_,?_⟩,?_,?_⟩
 rw [bF,sN]; exact bZ C I fun k hk=>ad k hk
 rw [aq]; simp
 refine Md.trans' (Md.trans' (Md.trans' (A.mono fun k _ h=> .inl h) q.md fun _ _ h=>h.elim) G fun k _ h=> .inr h) I fun k _ h=> .inl h
 rintro k (rfl | hk)
 exact .inl<|.inl aa
 by_cases h:i.ownBlock=some k
 exact .inl<|.inr h
 have :=al k hk; have h1:=A.size; have h2:=q.md.size; exact .inr<|by rcases this with h3 | h3; exact absurd h3 h; omega
theorem yK (b:Nat) (C:Value) (l:List UInt8) (w:World) (M:Bd 155 5 w b C l) (Y:l.length≤70368744177664):
 ba au 70 (aY [aU b]) w (fun v w'=>v=str l∧Md (fun k=>C.ownBlock=some k) w w'):=by
 obtain ⟨⟨ad,E,Z⟩,hown,hnil⟩:=M
 obtain ⟨a,c,rfl,U,hle,hk,V⟩:=pY hown
 refine enter func70 aa ntmps70 aa<|ak fun G=>ay<|G<|az fun I=> ?_
 have i:(fun w'=>Md (fun k=>(bz a l.length c).ownBlock=some k) w w') w.drew:=(Md.refl _ _).drew
 refine bK (fun w'=>Md (fun k=>(bz a l.length c).ownBlock=some k) w w') aa wide i<|bH 0 aa (aU b) i<|aI 1 aa (fun _ _=>nc aa) i<|aI 2 aa (fun _ _=>fa tE aa) i<|aI 3 aa (fun w' q=>ld vu aa<|q.aH ((aX E).trans aa) fun h=>by have :=hown.lt _ h; omega) i<|bH 5 aa (aU b) i<|aI 6 aa (fun _ _=>nc aa) i<|aI 7 aa (fun _ _=>fa tE aa) i<|aI 8 aa (fun w' q=>ld vu aa<|q.aH ((aX E).trans aa) fun h=>by have :=hown.lt _ h; omega) i<|aI 9 aa (fun _ _=>bO nT aa aa) i ?_
 refine aI 4 aa (fun _ _=>Rh (v:= .nilFunc) aa (by
  by_cases h:l= []
  have :=hnil.2 h; simp only [lg] at this; exact .inl this.1
  right; have :0 < l.length:=List.length_pos_iff.2 h; omega)) i ?_
 refine he 10 aa ag<|Ri Pf aa aa hown aa ab fun O J ac=> ?_
 have A:(fun w'=>Md (fun k=>(bz a l.length c).ownBlock=some k) w w') O:=i.trans' J fun _ _ h=>h
 refine ⟨A,?_⟩
 exact aI 11 aa (fun _ _=>aA) A<|hn ag<|I<|rt<|a6 aa<|⟨aa,A⟩
end Go.Hb
end
