/-
  Walks and plain laws that the law rests on, laid together. No conditions but those that each theorem names.
-/
import Derived.Test.YtffmhpaepdkabaaGreatDoorMnDeriveSound1
set_option linter.unusedVariables false
set_option maxRecDepth 20000
set_option maxHeartbeats 1000000
open Array renaming foldl_toList→y9,getElem?_eq_some_iff→cy,getElem?_setIfInBounds_ne→Fz,getElem?_setIfInBounds_self_of_lt→FA,length_toList→sD,range→nw,replicate→qB,toArray_toList→u7,toList_inj→vb,toList_map→kB,toList_zip→FC
open Bool renaming and_eq_true→fE,noConfusion→c7,or_eq_false_iff→n8
open Except.ok renaming injEq→o6
open Go.Act renaming put_comm→o7
open Go.Calls renaming mono→jQ
open Go.CallsD renaming mono→FJ
open Go.CallsIn renaming mono→zg
open Go.Code renaming wp_mono→FK
open Go.Deferred renaming ofValue→nz
open Go.Extern.BytealgCount renaming count→Sx
open Go.Extern.BytealgIndexByte renaming indexByte→Sy
open Go.Extern renaming find→FP,findNext→FQ
open Go.Fence renaming wide→gq
open Go.Instr renaming beginRound→FT,checkKey→qE,field→FU,fill→kZ,findKey→vj,findNow→sG,keyThatStays→zi,mapUpdate→zj,sameBits→FX,sameNow→zk,sliceAt→o8,sliceBounds→mT,sureAddr→n9,typeAssert→FY
open Go.Lib renaming indexByte→FZ,run_clear_slice→F1
open Go.Obj.cells renaming injEq→sI
open Go.Oper renaming semAt_eq→F2,semAt_none→sL,upon→ju,uponIn→oa,wp→iF
open Go.Program renaming underlying→F3
open Go.Proofs.Tryz renaming prog→ao
open Go.Region renaming Mode→pd,binds→iG,ready→gF
open Go.Result renaming andThen_ok→ph
open Go.RoundIn renaming mono→zu
open Go.Rows renaming mono→zw
open Go.RowsIn renaming mono→zx
open Go.Sem renaming run→vl,run_bind→pj,run_pure→qH
open Go.Value renaming agg→bq,oneCell'→eW,ownBlock→fT,pointer→vo,slice→bB
open Go.Value.slice renaming injEq→lF
open Go.World renaming alloc_heap_new→vp,frozen?→Ga,ownsRow→bp,putObj→Gb,putObj_heap_other→mV,putObj_heap_same→vq,setCell→vt,size_alloc→Gc
open List.Pairwise renaming filter→Sz,imp→SA
open List renaming append_nil→eb,eq_nil_of_length_eq_zero→gr,ext_getElem?→nB,filterMap_cons→vy,flatMap_cons→jw,flatMap_map→Gk,flatMap_nil→Gl,foldl_cons→qN,getD_cons_succ→Gm,getD_cons_zero→ma,getD_eq_getElem?_getD→cX,getElem?_append_left→lG,getElem?_append_right→me,getElem?_cons_zero→vz,getElem?_eq_getElem→cj,getElem?_eq_some_iff→eH,getElem?_map→gu,getElem?_of_mem→zM,getElem?_set→jR,getElem?_toArray→Gq,length_append→bJ,length_cons→bV,length_drop→fU,length_filter_le→vC,length_map→eX,length_nil→fV,length_replicate→mh,length_take→ec,mapM_toArray→sT,map_append→iJ,map_cons→nD,mem_append→mX,mem_cons→eY,mem_cons_of_mem→oq,mem_cons_self→pn,mem_flatMap→qP,mem_map→lH,mem_of_getElem?→gV,mem_or_eq_of_mem_set→zO,mem_range→sV,mem_singleton→lI,nil_append→lJ,nodup_append→zP,not_mem_nil→sW,pairwise_lt_range→GB,pairwise_map→GC,range→gH,replicate→iK,size_toArray→mi,take_append→sY,take_of_length_le→fq,take_take→GG,take_zero→nG,toArray→a7,zipIdx_cons→vE
open Nat renaming ble→lK,blt→e8,le_of_ble_eq_true→ot,le_refl→cw,le_trans→e9,min_eq_left→mY,mul_le_mul_right→qT,mul_one→qU,succ_mul→nH,zero_le→qV
open Option renaming bind_some→mj,map_eq_some_iff→lL,map_some→kE
open Option.some renaming inj→qW,injEq→eZ
open Prod renaming fst→gW
open Prod.mk renaming injEq→s5
open UInt8 renaming toNat→GO,toNat_inj→pA
open Go.Proofs.Tryz
open Go.RowKit
section
set_option linter.unusedSimpArgs false
namespace Go.Hb
open Classical
structure mo (P:Program) (k:TypeId) (isK:Value→Prop):Prop where
 key:s8 P k isK
 stays:∀ w v,isK v→(zi v v).run P w= .ok v w
def gD (v:Value):Prop := ∃ s:List UInt8,v=str s
def ni (q:IntKind) (v:Value):Prop := ∃ a:Int,v= .int q a
theorem B5 {d:TypeDesc} {isK:Value→Prop} (hs:∀ x y,isK x→isK y→∃ a,zk d x y=some a∧(a=true↔x=y)) {x:Value} (A:isK x):∀ (es:List MapEntry) (i:Nat),(∀ e∈es,isK e.key)→
 (sG d x es i=some none∧∀ e∈es,e.key≠x)∨∃ j e,sG d x es i=some (some (i+j,e.val))∧es[j]? =some e∧e.key=x
 | [],i,_=> .inl ⟨rfl,fun _ h=>by simp at h⟩
 | e::es,i,h=>by
   obtain ⟨a,h1,h2⟩:=hs x e.key A<|h e<|by simp
   cases a with
   | true =>exact .inr ⟨0,e,by simp [sG,h1],rfl,(h2.1 rfl).symm⟩
   | false =>
     have E:e.key≠x:=fun C=>by cases h2.2 C.symm
     rcases B5 hs A es (i+1) (fun e he=>h e<|by simp [he]) with ⟨h3,h4⟩ | ⟨j,c,h3,h4,h5⟩
     · refine .inl ⟨by simp [sG,h1,h3],fun c q=> ?_⟩
       rcases eY.1 q with rfl | q
       · exact E
       · exact h4 c q
     · refine .inr ⟨j+1,c,?_,h4,h5⟩
       simp only [sG,h1,h3]; rw [show i+1 +j=i+(j+1) from by omega]
theorem C3 {P:Program} {k:TypeId} {d:TypeDesc} {isK:Value→Prop} (hk:P.underlying k=some d) (hs:∀ x y,isK x→isK y→∃ a,zk d x y=some a∧(a=true↔x=y)) (c:∀ em w v,isK v→(qE em 10000 k v).run P w= .ok () w):s8 P k isK where
 check:=c
 find w x es hx hes:=by
  rcases B5 hs hx es 0 hes with ⟨h1,h2⟩ | ⟨j,e,h1,h2,h3⟩
  · exact .inl ⟨by simp [vj,dj hk,h1],h2⟩
  · exact .inr ⟨j,e,by simp [vj,dj hk,h1],h2,h3⟩
theorem Ao (a b:ByteArray):(a==b)=decide (a=b):=by
 rw [Bool.eq_iff_iff,decide_eq_true_iff]
 show ((a.data==b.data)=true)↔_
 rw [beq_iff_eq]
 exact ⟨fun h=>by cases a; cases b; cases h; rfl,fun h=>by rw [h]⟩
theorem NX {P:Program} {k:TypeId} (hk:P.underlying k=some .string):mo P k gD where
 key:=C3 hk (by
  rintro _ _ ⟨a,rfl⟩ ⟨b,rfl⟩
  refine ⟨_,aa,?_⟩
  rw [Ao,decide_eq_true_iff]
  constructor
  · intro h; unfold str; rw [h]
  · intro h; unfold str at h; cases h; rfl) (by rintro em w _ ⟨a,rfl⟩; exact Jm (n:=9999) hk w)
 stays w v hv:=by obtain ⟨a,rfl⟩:=hv; simp [zi,FX,str,Ao]
theorem Jl {P:Program} {k:TypeId} {q r:IntKind} {em:Bool} {n:Nat} {a:Int} (hk:P.underlying k=some (.int q)) (w:World):(qE em (n+1) k<|.int r a).run P w= .ok () w:=by
 simp only [qE,pj,dj hk,ph,qH]
theorem NW {P:Program} {k:TypeId} {q r:IntKind} (hk:P.underlying k=some (.int q)):mo P k (ni r) where
 key:=C3 hk (by
  rintro _ _ ⟨a,rfl⟩ ⟨b,rfl⟩
  refine ⟨decide (a=b),by simp [zk]; rfl,?_⟩
  rw [decide_eq_true_iff]
  exact ⟨fun h=>by rw [h],fun h=>by cases h; rfl⟩) (by rintro em w _ ⟨a,rfl⟩; exact Jl (n:=9999) hk w)
 stays w v hv:=by obtain ⟨a,rfl⟩:=hv; simp [zi,FX]
def bU (h:Array Obj) (b:Nat) (isK:Value→Prop) (f:Value→Option Value):Prop :=
 ∃ kvs,ox h b kvs∧(∀ p∈kvs,isK p.1)∧(kvs.map gW).Nodup∧∀ k v,f k=some v↔(k,v)∈kvs
theorem bU.md {F:Nat→Prop} {w w':World} {b:Nat} {isK:Value→Prop} {f:Value→Option Value} (h:bU w.heap b isK f) (hm:Md F w w') (a:¬F b):bU w'.heap b isK f:=
 let ⟨kvs,h1,h2⟩:=h; ⟨kvs,h1.md hm a,h2⟩
theorem bU.wk {w w':World} {b:Nat} {isK:Value→Prop} {f:Value→Option Value} (h:bU w.heap b isK f) (hm:Wk w w'):bU w'.heap b isK f:=h.md hm id
theorem bU.nil {h:Array Obj} {b:Nat} {isK:Value→Prop} {c:Nat} (hm:h[b]? =some (.map #[] c)):bU h b isK fun _=>none:=
 ⟨[],⟨_,_,hm,rfl⟩,fun p hp=>(by simp at hp),(by simp),fun k v=>by simp⟩
theorem bU.isMap {h:Array Obj} {b:Nat} {isK:Value→Prop} {f:Value→Option Value} (hm:bU h b isK f):∃ es c,h[b]? =some (.map es c):=let ⟨_,⟨es,c,h1,_⟩,_⟩:=hm; ⟨es,c,h1⟩
theorem bU.nm {h:Array Obj} {b:Nat} {isK:Value→Prop} {f:Value→Option Value} (hm:bU h b isK f) {cur:Array Value} {e:TypeId} {z:Nat×Nat} :h[b]?≠some (.cells cur e z):=by
 obtain ⟨es,c,h1⟩:=hm.isMap; rw [h1]; intro h; cases h
noncomputable def bD (f:Value→Option Value) (k v:Value):Value→Option Value:=fun q=>if q=k then some v else f q
theorem r7 (f:Value→Option Value) (k v:Value):bD f k v k=some v:=if_pos rfl
theorem qh {f:Value→Option Value} {k v q:Value} (h:q≠k):bD f k v q=f q:=if_neg h
section
variable {P:Program} {N:Fm} {σ:Nat→Value} {w:World} {dst:Option Nat} {ty:TypeId} {pos :String} {af:Array Edge} {g:Option (Nat×Bool)} {x y z:Operand} {K:(Nat→Value)→World→Prop}
variable {t k e:TypeId} {isK:Value→Prop} {b:Nat} {f:Value→Option Value} {kx v zv:Value}
theorem Dh {ok:Bool} (i:P.underlying t=some (.map k e)) (C:zeroV P e=some zv) (c:mo P k isK) (hm:bU w.heap b isK f) (q:ev N σ x= .map (some b)) (A:ev N σ y=kx) (hi:isK kx):
 (execOp (ev N σ) ⟨dst,.lookup t x y ok,ty,pos,af,g⟩).run P w= .ok (.value (if ok then .tuple #[(f kx).getD zv,.bool (f kx).isSome] else (f kx).getD zv)) w:=by
 obtain ⟨kvs,h1,h2,h3,h4⟩:=hm
 cases hf:f kx with
 | none=>exact Of i C c.key h1 h2 q A hi fun v a=>by rw [← h4] at a; rw [hf] at a; cases a
 | some v=>exact Oe i c.key h1 h2 q A hi h3<|(h4 kx v).1 hf
theorem mF (c:P.underlying t=some (.map k e)) (C:zeroV P e=some zv) (a:mo P k isK) (hm:bU w.heap b isK f) (q:ev N σ x= .map (some b)) (A:ev N σ y=kx) (hi:isK kx) (i:(f kx).getD zv=v):
 (execOp (ev N σ) ⟨dst,.lookup t x y false,ty,pos,af,g⟩).run P w= .ok (.value v) w:=by
 rw [Dh c C a hm q A hi,i]; rfl
theorem Di {ob:Bool} (i:P.underlying t=some (.map k e)) (E:zeroV P e=some zv) (a:mo P k isK) (hm:bU w.heap b isK f) (A:ev N σ x= .map (some b)) (C:ev N σ y=kx) (hi:isK kx) (q:(f kx).getD zv=v) (c:(f kx).isSome=ob):
 (execOp (ev N σ) ⟨dst,.lookup t x y true,ty,pos,af,g⟩).run P w= .ok (.value<|.tuple #[v,.bool ob]) w:=by
 rw [Dh i E a hm A C hi,q,c]; rfl
theorem E2 (ad:P.underlying t=some (.map k e)) (M:mo P k isK) (hm:bU w.heap b isK f) (hi:isK kx):
 ∃ w',(zj t (.map<|some b) kx v).run P w= .ok () w'∧Md (fun j=>j=b) w w'∧bU w'.heap b isK (bD f kx v):=by
 obtain ⟨kvs,⟨es,c,J,he⟩,h2,h3,h4⟩:=hm
 have V:=(cy.1 J).1
 rcases M.key.find w kx es.toList hi (xo he h2) with ⟨h1,am⟩ | ⟨j,U,h1,E,h5⟩
 · have ac:∀ u,(kx,u)∉kvs:=fun u hu=>by
    rw [← he] at hu
    obtain ⟨ae,aj,ag⟩:=lH.1 hu
    cases ag
    exact am ae aj aa
   refine ⟨{w with heap:=w.heap.setIfInBounds b<|.map (es.push {key:=kx,val:=v,born:=c})<|c+1},by simp [zj,dj ad,run_getObj_map J,M.key.check _ w kx hi,h1,setObj,vl,J],⟨aa,aa,by simp,fun i _ G=>by simp only; rw [Fz (fun e=>G e.symm)]⟩,kvs++ [(kx,v)],⟨_,_,by simp only; rw [FA V],by simp [he]⟩,?_,?_,?_⟩
   · intro p hp
     rcases mX.1 hp with hp | hp
     · exact h2 p hp
     · rw [lI.1 hp]; exact hi
   · rw [iJ,zP]
     refine ⟨h3,by simp,?_⟩
     intro a ah ao Y ai
     simp at Y
     subst ai Y
     obtain ⟨p,hp,an⟩:=lH.1 ah
     exact ac p.2<|by rw [← an]; exact hp
   · intro q u
     unfold bD
     rw [mX,lI]
     by_cases C:q=kx
     · subst C
       rw [if_pos rfl]
       constructor
       · intro h; cases h; exact .inr rfl
       · rintro (h | h)
         · exact absurd h<|ac u
         · cases h; rfl
     · rw [if_neg C,h4]
       constructor
       · exact .inl
       · rintro (h | h)
         · exact h
         · cases h; exact absurd rfl C
 · have ap:j < es.size:=by have :=(eH.1 E).1; simpa using this
   have Z:es[j]? =some U:=by simpa using E
   refine ⟨{w with heap:=w.heap.setIfInBounds b<|.map (es.modify j fun e=> {e with key:=kx,val:=v}) c},?_,⟨aa,aa,by simp,fun i _ G=>by simp only; rw [Fz (fun e=>G e.symm)]⟩,kvs.set j (kx,v),⟨_,_,by simp only; rw [FA V],?_⟩,?_,?_,?_⟩
   · have hs:=M.stays w kx hi
     simp [zj,dj ad,run_getObj_map J,M.key.check _ w kx hi,h1,Z,h5,hs,setObj,vl,J]
   · rw [← he]
     apply nB
     intro i
     simp only [Array.toList_modify,gu,List.getElem?_modify,jR,eX]
     by_cases I:j=i
     · subst I; rw [E]; simp; have :=(eH.1 E).1; simpa using this
     · simp [I]
   · intro p hp
     rcases zO hp with hp | hp
     · exact h2 p hp
     · rw [hp]; exact hi
   · have :(kvs.set j (kx,v)).map gW=kvs.map gW:=by
      apply nB
      intro i
      simp only [gu,jR]
      by_cases I:j=i
      · subst I
        rw [← he]; simp only [gu,E,eX]
        have :=(eH.1 E).1
        simp [this,h5]
        simpa using this
      · simp [I]
     rw [this]; exact h3
   · intro q u
     have O:kvs[j]? =some (kx,U.val):=by rw [← he]; simp [E,h5,Z]
     have ab:=(eH.1 O).1
     have al:(kx,v)∈kvs.set j (kx,v):=gV (i:=j)<|by rw [jR,if_pos rfl,if_pos ab]
     unfold bD
     by_cases C:q=kx
     · subst C
       rw [if_pos rfl]
       constructor
       · intro h; cases h; exact al
       · intro h
         obtain ⟨i,A⟩:=zM h
         rw [jR] at A
         split at A
         · rename_i ak
           subst ak
           cases A; rfl
         · rename_i G
           exfalso
           exact G<|(List.getElem?_inj (i:=j) (j:=i) (by simpa using ab) h3).1<|by simp [O,A]
     · rw [if_neg C,h4]
       constructor
       · intro h
         obtain ⟨i,A⟩:=zM h
         have G:j≠i:=by rintro rfl; rw [O] at A; cases A; exact C rfl
         exact gV (i:=i)<|by rw [jR,if_neg G]; exact A
       · intro h
         rcases zO h with h | h
         · exact h
         · cases h; exact absurd rfl C
theorem qs (i:P.underlying t=some (.map k e)) (a:mo P k isK) (hm:bU w.heap b isK f) (q:ev N σ x= .map (some b)) (A:ev N σ y=kx) (C:ev N σ z=v) (hi:isK kx)
 (E:∀ w',Md (fun j=>j=b) w w'→bU w'.heap b isK (bD f kx v)→K σ w'):cE P N ⟨none,.mapUpdate t x y z,ty,pos,af,g⟩ σ w K:=by
 obtain ⟨w',h1,h2,h3⟩:=E2 (v:=v) i a hm hi
 have c:(execOp (ev N σ) ⟨none,.mapUpdate t x y z,ty,pos,af,g⟩).run P w= .ok .skip w':=by
  simp [execOp,q,A,C,h1]
 unfold cE iF
 rw [fH,c]
 exact ⟨σ,aa,E w' h2 h3⟩
theorem kO (i:P.underlying t=some (.map k e)) (a:mo P k isK) (hm:bU w.heap b isK f) (q:ev N σ x= .map (some b)) (A:ev N σ y=kx) (C:ev N σ z=v) (hi:isK kx)
 (E:∀ w',Md (fun j=>j=b) w w'→bU w'.heap b isK (bD f kx v)→K σ w'):cE P N ⟨none,.insert t x y z,ty,pos,af,g⟩ σ w K:=by
 obtain ⟨w',h1,h2,h3⟩:=E2 (v:=v) i a hm hi
 have c:(execOp (ev N σ) ⟨none,.insert t x y z,ty,pos,af,g⟩).run P w= .ok .skip w':=by
  simp [execOp,q,A,C,h1]
 unfold cE iF
 rw [fH,c]
 exact ⟨σ,aa,E w' h2 h3⟩
end
end Go.Hb
end
section
namespace Go.Hb
section
variable {P:Program} {N:Fm} {σ:Nat→Value} {w:World} {fn:Func} {R:Value→World→Prop}
theorem Oo {t b off :Nat} {v:Value} (hu:cR P t=some none) (a:Hb.aI w.heap b off =some v):(loadVar t ⟨b,off,none⟩).run P w= .ok v w:=by
 have c:w.cell? ⟨b,off,none⟩=some v:=by rw [lQ]; exact a
 unfold cR at hu
 cases hd:P.underlying t with
 | none=>rw [hd] at hu; cases hu
 | some d=>
   rw [hd] at hu
   cases d <;> first
    | (simp only [lL] at hu; obtain ⟨_,_,h⟩:=hu; cases h; done)
    | simp [loadVar,isAgg,dj hd,run_load,c]
theorem Oq {t n b off :Nat} {cs:List Value} (hu:cR P t=some (some n)) (A:cs.length=n) (c:∀ j,j < n→Hb.aI w.heap b (off+j)=cs[j]?):(loadVar t ⟨b,off,none⟩).run P w= .ok (.agg cs.toArray) w:=by
 have q:(loadCells ⟨b,off,none⟩ n).run P w= .ok cs.toArray w:=by
  subst A
  refine run_loadCells_list (P:=P) w ⟨b,off,none⟩ cs fun j v a=> ?_
  rw [kH,lQ]
  exact (c j (eH.1 a).1).trans a
 unfold cR at hu
 cases hd:P.underlying t with
 | none=>rw [hd] at hu; cases hu
 | some d=>
   rw [hd] at hu
   cases hi:P.info? t with
   | none=>simp [F3,hi] at hd
   | some i=>
     rw [hi] at hu
     cases d <;> first
      | (cases hu; done)
      | (simp only [kE,eZ] at hu; subst hu
         simp [loadVar,isAgg,dj hd,sizeOf,gd hi,q])
def lN (P:Program) (N:Fm) (σ:Nat→Value) (w:World):ResultVar→Value→Prop
 | .tmp t,v=>ev N σ (.tmp t)=v
 | .cell a t,v=> ∃ ad,ev N σ (.tmp a)= .pointer (some ad)∧(loadVar t ad).run P w= .ok v w
theorem dX {t:Tmp} :lN P N σ w (.tmp t) (ev N σ<|.tmp t):=rfl
theorem yI {a t b off :Nat} {v:Value} (i:ev N σ (.tmp a)= .pointer (some ⟨b,off,none⟩)) (hu:cR P t=some none) (c:Hb.aI w.heap b off =some v):lN P N σ w (.cell a t) v:=⟨_,i,Oo hu c⟩
theorem dB {a t n b off :Nat} {cs:List Value} (q:ev N σ (.tmp a)= .pointer (some ⟨b,off,none⟩)) (hu:cR P t=some (some n)) (i:cs.length=n) (c:∀ j,j < n→Hb.aI w.heap b (off+j)=cs[j]?):lN P N σ w (.cell a t) (.agg cs.toArray):=⟨_,q,Oq hu i c⟩
def mK (tmps:Array Value):ResultVar→Sem Value
 | .tmp t=>pure<|tmps.getD t undef
 | .cell a t=>do loadVar t (← asAddr (tmps.getD a undef))
theorem lx {r:ResultVar} {v:Value} (h:lN P N σ w r v):(mK (act N σ).tmps r).run P w= .ok v w:=by
 cases r with
 | tmp t=>
   show vl P (pure<|(act N σ).tmps.getD t undef) w=_
   rw [kY]; simp only [lN] at h; rw [h]; rfl
 | cell a t=>
   obtain ⟨ad,h1,h2⟩:=h
   show vl P (do loadVar t (← asAddr ((act N σ).tmps.getD a undef))) w=_
   rw [kY,h1]
   simp [asAddr,h2]
theorem Qe {tmps:Array Value} {r:ResultVar} {v:Value} (h:fn.results= #[r]) (h1:(mK tmps r).run P w= .ok v w):(results fn tmps).run P w= .ok v w:=by
 have a:(results fn tmps)=(do let vs ← #[r].mapM (mK tmps); pure (if h:vs.size=1 then vs[0] else .tuple vs)):=by
  unfold results; rw [h]; rfl
 rw [a]; simp [sT,h1]
theorem uu {tmps:Array Value} {r s:ResultVar} {v u:Value} (h:fn.results= #[r,s]) (h1:(mK tmps r).run P w= .ok v w) (h2:(mK tmps s).run P w= .ok u w):(results fn tmps).run P w= .ok (.tuple #[v,u]) w:=by
 have a:(results fn tmps)=(do let vs ← #[r,s].mapM (mK tmps); pure (if h:vs.size=1 then vs[0] else .tuple vs)):=by
  unfold results; rw [h]; rfl
 rw [a]; simp [sT,h1,h2]
theorem Qf {tmps:Array Value} {r s q:ResultVar} {v u z:Value} (h:fn.results= #[r,s,q]) (h1:(mK tmps r).run P w= .ok v w) (h2:(mK tmps s).run P w= .ok u w) (h3:(mK tmps q).run P w= .ok z w):(results fn tmps).run P w= .ok (.tuple #[v,u,z]) w:=by
 have a:(results fn tmps)=(do let vs ← #[r,s,q].mapM (mK tmps); pure (if h:vs.size=1 then vs[0] else .tuple vs)):=by
  unfold results; rw [h]; rfl
 rw [a]; simp [sT,h1,h2,h3]
theorem rG {r:ResultVar} {v:Value} (h:fn.results= #[r]) (h1:lN P N σ w r v) (a:R v w):fin P fn N R .ret σ w:=⟨v,Qe h (lx h1),a⟩
theorem ew {r s:ResultVar} {v u:Value} (h:fn.results= #[r,s]) (h1:lN P N σ w r v) (h2:lN P N σ w s u) (a:R (.tuple #[v,u]) w):fin P fn N R .ret σ w:=⟨_,uu h (lx h1) (lx h2),a⟩
theorem BT {r s q:ResultVar} {v u z:Value} (h:fn.results= #[r,s,q]) (h1:lN P N σ w r v) (h2:lN P N σ w s u) (h3:lN P N σ w q z) (a:R (.tuple #[v,u,z]) w):fin P fn N R .ret σ w:=⟨_,Qf h (lx h1) (lx h2) (lx h3),a⟩
end
end Go.Hb
end
section
namespace Go.Hb
def l3 (P:Program) (N:Fm) (c:Code) (B:Exit→Act→World→Prop) (σ:Nat→Value) (w:World):Prop :=c.wpIn (fe N.r) 0 P B (act N σ) w
def qb (N:Fm) (B:Exit→Act→World→Prop):Exit→(Nat→Value)→World→Prop :=fun e σ w=>B e (act N σ) w
section
variable {P:Program} {N:Fm} {B:Exit→Act→World→Prop} {σ:Nat→Value} {w:World}
theorem dI {x y:Code} (h:l3 P N x (Exit.then (y.wpIn (fe N.r) 0 P B) B) σ w):l3 P N (.seq x y) B σ w:=wpIn_seq h
theorem dE {y:Code} (h:l3 P N y B σ w):qb N (Exit.then (y.wpIn (fe N.r) 0 P B) B) .normal σ w:=h
theorem prt {y:Act→World→Prop} (h:qb N B .ret σ w):qb N (Exit.then y B) .ret σ w:=h
theorem oY (h:qb N B .ret σ w):l3 P N .ret B σ w:=wpIn_ret h
theorem dY {c:Code} (h:cH P N c (qb N B) σ w):l3 P N c B σ w:=by
 unfold cH at h
 refine wpIn_mono h ?_
 intro e a w i
 cases e with
 | panic c=>obtain ⟨σ,rfl,q⟩:=i; exact q σ fun _ _=>rfl
 | outgrown=>exact i.elim
 | _=>obtain ⟨σ,rfl,q⟩:=i; exact q
end
theorem uz (fn:Func) (args:List Value) (F:List Nat) (hn:lK args.length fn.ntmps=true):({tmps:=args.toArray++qB (fn.ntmps - args.toArray.size) undef,defers:= []} :Act)=act ⟨fn.ntmps,[],F,none⟩ (kV args):=by
 have a:args.length≤fn.ntmps:=by simpa using hn
 refine tg aa fun i=> ?_
 rw [m7]
 simp only [kV,cX,mi]
 by_cases h1:i < args.length
 · rw [Array.getElem?_append_left (by simpa using h1),if_pos ab]
   simp [h1]
 · rw [Array.getElem?_append_right (by simpa using h1)]
   simp only [mi,Array.getElem?_replicate]
   by_cases h2:i < fn.ntmps
   · rw [if_pos ab,if_pos h2,List.getElem?_eq_none ab]; rfl
   · rw [if_neg ab,if_neg h2]
abbrev Bm (P:Program) (fn:Func) (R:Value→World→Prop):Exit→Act→World→Prop :=bodyPostM gq 0 P fn (fun e w'=> ∃ v,e= .returned v∧R v w')
theorem tM {P:Program} {f:FuncId} {N:Nat} {fn:Func} {c:Code} {args:List Value} {w:World} {R:Value→World→Prop} (F:List Nat) (q:P.funcs[f]? =some fn) (i:fn.body=some c)
 (a:fn.ntmps=N) (hn:lK args.length N=true) (h:l3 P ⟨N,[],F,none⟩ c (Bm P fn R) (kV args) w):bd P f args.toArray w R:=by
 subst a
 refine callsIn_wide.1<|callsIn_of_wp_marks (F:=gq) (n:=0) q i trivial ?_
 rw [uz fn args F hn]
 exact h
section
variable {P:Program} {n:Nat} {F:List Nat} {σ:Nat→Value} {w:World} {fn:Func} {R:Value→World→Prop}
theorem C9 {e:Exit} (he:e= .ret∨e= .normal) {v:Value} (c:(results fn (act ⟨n,[],F,none⟩ σ).tmps).run P w= .ok v w) (a:R v w):qb ⟨n,[],F,none⟩ (Bm P fn R) e σ w:=by
 rcases he with rfl | rfl <;> exact ⟨v,c,v,rfl,a⟩
theorem BQ {t:Nat} {v:Value} (h:fn.results= #[.tmp t]) (c:ev ⟨n,[],F,none⟩ σ (.tmp t)=v) (a:R v w):qb ⟨n,[],F,none⟩ (Bm P fn R) .ret σ w:=
 C9 (.inl rfl) (by rw [results_tmp h,kY,c]) a
theorem BR {t u:Nat} {v a:Value} (h:fn.results= #[.tmp t,.tmp u]) (i:ev ⟨n,[],F,none⟩ σ (.tmp t)=v) (hu:ev ⟨n,[],F,none⟩ σ (.tmp u)=a) (c:R (.tuple #[v,a]) w):qb ⟨n,[],F,none⟩ (Bm P fn R) .ret σ w:=
 C9 (.inl rfl) (by rw [results_tmp2 h,kY,kY,i,hu]) c
theorem Da {D:Nat} {v:Value} (a:w.heap[D]? =some (.deferred<|some [])) (i:∀ w',(results fn (act ⟨n,[{target:= .collected D,args:= #[]}],F,none⟩ σ).tmps).run P w'= .ok v w') (c:R v (w.putObj D<|.deferred none)):
 qb ⟨n,[{target:= .collected D,args:= #[]}],F,none⟩ (Bm P fn R) .ret σ w:=
 ⟨FrameMode.noConfusion,.inl ⟨_,_,rfl,run_takeDeferred a,⟨v,i _,v,rfl,c⟩⟩⟩
theorem tP {D t:Nat} {v:Value} (h:fn.results= #[.tmp t]) (i:ev ⟨n,[{target:= .collected D,args:= #[]}],F,none⟩ σ (.tmp t)=v) (a:w.heap[D]? =some (.deferred<|some [])) (c:R v (w.putObj D<|.deferred none)):
 qb ⟨n,[{target:= .collected D,args:= #[]}],F,none⟩ (Bm P fn R) .ret σ w:=
 Da a (fun w'=>by rw [results_tmp h,kY,i]) c
theorem BS {D t u:Nat} {v a:Value} (h:fn.results= #[.tmp t,.tmp u]) (q:ev ⟨n,[{target:= .collected D,args:= #[]}],F,none⟩ σ (.tmp t)=v) (hu:ev ⟨n,[{target:= .collected D,args:= #[]}],F,none⟩ σ (.tmp u)=a)
 (c:w.heap[D]? =some (.deferred<|some [])) (i:R (.tuple #[v,a]) (w.putObj D<|.deferred none)):qb ⟨n,[{target:= .collected D,args:= #[]}],F,none⟩ (Bm P fn R) .ret σ w:=
 Da c (fun w'=>by rw [results_tmp2 h,kY,kY,q,hu]) i
end
theorem c8 {w:World} {B t size n pp a:Nat} {v:Value} {xs:List Value} {cs:Array Value} {z:Nat×Nat} (h:w.ownsRow B t size v n xs) (hp:w.heap[pp]? =some (.cells cs a z)) (i:t≠a):v.ownBlock≠some pp:=by
 intro hk
 rcases h.2 with ⟨h1,_⟩ | ⟨g,cap,cur,h1,_,c,_⟩
 · rw [h1] at hk; simp [fT] at hk
 · rw [h1] at hk
   simp only [fT,eZ] at hk
   subst hk
   rw [c] at hp
   simp only [eZ,sI] at hp
   exact i hp.2.1
section
variable {P:Program} {N:Fm} {σ:Nat→Value} {w:World} {dst:Option Nat} {ty:TypeId} {pos :String} {af:Array Edge} {g:Option (Nat×Bool)} {x:Operand} {K:(Nat→Value)→World→Prop}
theorem q9 {e:TypeId} {v:Value} (a:ev N σ x=v) (h1:v.oneCell'=true) (k:∀ b w',b=w.heap.size→Nw w w'→w'.heap[b]? =some (.cells [v].toArray e (0,0))→K (fD σ dst<|.pointer<|some ⟨b,0,none⟩) w'):
 cE P N ⟨dst,.box e x,ty,pos,af,g⟩ σ w K:=by
 refine l5 (v:=fun b=> .pointer<|some ⟨b,0,none⟩) (ob:= .cells [v].toArray e (0,0)) ?_ k
 have :=nY h1
 simp [execOp,Instr.box,a,this,newVar,newRow]
end
theorem jL (w:World) (k:Nat) (o:Obj):Md (fun j=>j=k) w (w.putObj k o):=
 ⟨rfl,rfl,by simp [Gb],fun j _ a=>mV a⟩
def eu (w w':World):Prop := ∀ (k:Nat) (o:Obj),w.heap[k]? =some o→(∀ cur e z,o≠.cells cur e z)→w'.heap[k]? =some o
theorem eu.trans {a b c:World} (h:eu a b) (i:eu b c):eu a c:=fun k o q hn=>i k o (h k o q hn) hn
theorem eu.md {F:Nat→Prop} {w w':World} (hm:Md F w w') (i:∀ k,F k→∃ cur e z,w.heap[k]? =some (.cells cur e z)):eu w w':=fun k o a hn=>by
 rw [hm.dO k (cy.1 a).1 (fun hk=>by obtain ⟨c,e,z,h⟩:=i k hk; rw [a] at h; exact hn _ _ _<|qW h)]; exact a
theorem eu.wk {w w':World} (hm:Wk w w'):eu w w':=eu.md hm fun _ h=>h.elim
theorem kR {w:World} {B e size n:Nat} {v:Value} {xs:List Value} (h:w.ownsRow B e size v n xs):∀ k,v.ownBlock=some k→∃ cur e z,w.heap[k]? =some (.cells cur e z):=by
 intro k hk
 rcases h.2 with ⟨rfl,_⟩ | ⟨g,cap,c,rfl,_,a,_⟩
 · simp [fT] at hk
 · simp only [fT,eZ] at hk; subst hk; exact ⟨_,_,_,a⟩
def GY {α:Type} (B:Nat) (a:List α→World→Prop):Prop := ∀ pre W W' (F:Nat→Prop),a pre W→Md F W W'→(∀ k,F k→B≤k∧∀ cur e z,W.heap[k]?≠some (.cells cur e z))→a pre W'
section
variable {F:Nat→Prop} {W W':World} {B:Nat}
theorem uJ {b e:Nat} {cs:Array Value} {z:Nat×Nat} (h:W.heap[b]? =some (.cells cs e z)) (hm:Md F W W') (a:∀ k,F k→B≤k∧∀ cur e z,W.heap[k]?≠some (.cells cur e z)):W'.heap[b]? =some (.cells cs e z):=by
 rw [hm.dO b (cy.1 h).1 (fun hk=>(a b hk).2 _ _ _ h)]; exact h
theorem Ex {B' e size n:Nat} {v:Value} {xs:List Value} (h:W.ownsRow B' e size v n xs) (hm:Md F W W') (a:∀ k,F k→B≤k∧∀ cur e z,W.heap[k]?≠some (.cells cur e z)):W'.ownsRow B' e size v n xs:=
 cx h hm fun k hk i=>by obtain ⟨c,e,z,h1⟩:=kR h k hk; exact (a k i).2 _ _ _ h1
theorem Ey {w:World} (h:Wk w W) (hm:Md F W W') (i:w.heap.size≤B) (a:∀ k,F k→B≤k∧∀ cur e z,W.heap[k]?≠some (.cells cur e z)):Wk w W':=Md.trans' h hm fun k hk c=>by have :=(a k c).1; omega
end
def zX {α:Type} (P:Program) (C:Nat) (E:Array Value) (A:α→Array Value) (xs:List α) (q:World→Prop):Prop :=
 ∀ (l:Nat) (a:List α→World→Prop) (W:World),a [] W→(∀ pre W,a pre W→q W)→(∀ pre c i,a pre c→Wk c i→a pre i)→
   (∀ pre x rest c,xs=pre++x::rest→a pre c→YieldAt gq 0 P l (A x) c fun e W'=>e= .returned (.bool true)∧a (pre++ [x]) W')→
   Calls P C (#[.func (.yield l) #[] #[]]++E) W fun e W'=>(∃ v,e= .returned v)∧a xs W'
def Qb (R:World→Prop):Exit→(Nat→Value)→World→Prop
 | .normal,_,w=>R w
 | _,_,_=>False
theorem zZ (N:Fm):∀ (l:List (Tmp×Value)) (σ:Nat→Value),l.foldl (fun t p=>t.setIfInBounds p.1 p.2) (act N σ).tmps=(act N<|l.foldl (fun s p=>cB s p.1 p.2) σ).tmps:=by
 intro l
 induction l with
 | nil=>intro σ; rfl
 | cons p l a=>
   intro σ
   rw [qN,qN,← a]
   congr 1
   have :=congrArg Act.tmps<|il N σ (some p.1) p.2
   exact this
theorem D8 {α:Type} {P:Program} {id n:Nat} {g:Operand} {ps:Array Tmp} {Y body:Code} {Fx:List Nat} {σ:Nat→Value} {w:World} {B:Exit→Act→World→Prop} {U:Nat} {V:Array Value}
 (J:α→Array Value) (xs:List α) (ah:World→Prop) (i:List α→World→Prop) (aB:ev ⟨n,[],Fx,none⟩ σ g= .func (.func U) #[] V) (ay:bc P U) (aI:∀ x,(J x).size=ps.size)
 (aD:zX P U V J xs ah) (aq:i [] w) (az:∀ pre W,i pre W→ah W) (Z:GY w.heap.size i) (an:α→Nat→Value)
 (aw:∀ (l:Nat) (x:α) (W:World) (K:(Nat→Value)→World→Prop),K (an x) W→cH P ⟨n,[],[],some l⟩ Y (kb K fun _ _ _=>False) ((ps.toList.zip (J x).toList).foldl (fun s p=>cB s p.1 p.2) σ) W)
 (ax:∀ (l:Nat) (pre:List α) (x:α) (rest:List α) (W:World),xs=pre++x::rest→i pre W→cH P ⟨n,[],[],some l⟩ body (Qb fun W'=>eu W W'∧i (pre++ [x]) W') (an x) W)
 (hd:∀ (D:Nat) (W:World),w.heap.size≤D→i xs W→W.heap[D]? =some (.deferred<|some [])→qb ⟨n,[{target:= .collected D,args:= #[]}],Fx,none⟩ B .normal σ W):
 l3 P ⟨n,[],Fx,none⟩ (.block id<|.rangeFunc g ps Y body) B σ w:=by
 refine wpIn_block<|wpIn_rangeFunc ?_
 intro fn _
 obtain ⟨rc,O⟩:∃ rc:LoopState→Option Code→Loop,rc=fun st aL=> {state:=st,pending:=aL,fn,tmps:=(act ⟨n,[],Fx,none⟩ σ).tmps,params:=ps,assign:=Y,body,defers:=w.heap.size} :=⟨_,rfl⟩
 obtain ⟨q,ac⟩:∃ q,(w.alloc<|.deferred<|some []).alloc (.loop<|rc .ready none)=q:=⟨_,rfl⟩
 have av:q.heap[w.heap.size+1]? =some (.loop<|rc .ready none):=by
  rw [← ac]; have :=vp (w.alloc<|.deferred<|some []) (.loop<|rc .ready none); rwa [Gc] at this
 have au:q.heap[w.heap.size]? =some (.deferred<|some []):=by
  rw [← ac]; exact (Below.heap_alloc _ _ _<|by simp).trans<|vp w _
 have hn:∀ (W:World) (o:Obj),Wk W (W.alloc o):=fun W o=>(yr W o).md
 have ar:i [] q:=by rw [← ac]; exact Z _ _ _ _ (Z _ _ _ _ aq (hn _ _) fun _ h=>h.elim) (hn _ _) fun _ h=>h.elim
 have aA:(act ⟨n,[],Fx,none⟩ σ).eval g= .func (.func U) #[] V:=by rw [fH]; exact aB
 refine ⟨w.heap.size+1,[{target:= .collected w.heap.size,args:= #[]}],q,{target:= .fn (.func U) V,args:= #[.func (.yield<|w.heap.size+1) #[] #[]]},q,U,
  #[.func (.yield<|w.heap.size+1) #[] #[]]++V,q,?_,?_,fun _ _=>trivial,?_,fun ap=>(by cases ap),?_⟩
 · rw [← ac,O]; exact run_enterLoop_outer _ _ _ _ _
 · simp only [resolve,aA]
   simp [go_sem]
 · have :=ay (#[.func (.yield<|w.heap.size+1) #[] #[]]++V) q
   simp [invoke,go_sem,this]
 · have ae:∀ (pre:List α) (W:World) (o ag:Obj),i pre W→W.heap[w.heap.size+1]? =some o→(∀ cur e z,o≠.cells cur e z)→i pre (W.putObj (w.heap.size+1) ag):=fun pre W o ag h1 h2 h3=>
    Z _ _ _ _ h1 (jL W _ ag) fun k hk=>⟨ab,fun cur e z h4=>by subst hk; rw [h2] at h4; exact h3 _ _ _<|qW h4⟩
   refine callsIn_wide.2 (jQ (aD (w.heap.size+1)
    (fun pre W=>i pre W∧W.heap[w.heap.size+1]? =some (.loop<|rc .ready none)∧W.heap[w.heap.size]? =some (.deferred<|some []))
    q ⟨ar,av,au⟩ (fun pre W h=>az pre W h.1)
    (fun pre A C h hm=>⟨Z _ _ _ _ h.1 hm (fun _ h=>h.elim),(hm.dO _ (cy.1 h.2.1).1 fun h=>h).trans h.2.1,(hm.dO _ (cy.1 h.2.2).1 fun h=>h).trans h.2.2⟩) ?_) ?_)
   · rintro pre x rest W aK ⟨hi,M,hk⟩
     have aH:w.heap.size+1 < W.heap.size:=(cy.1 M).1
     have al:=run_yield (P:=P) (args:=J x) M<|by rw [O]; exact aI x
     rw [O] at al
     refine ⟨fn,_,Y,body,al,roundIn_of_wpIn (F:=gq) trivial ?_⟩
     have aJ:((ps.zip<|J x).foldl (fun tmps (p:Tmp×Value)=>tmps.setIfInBounds p.1 p.2) (act ⟨n,[],Fx,none⟩ σ).tmps)=(act ⟨n,[],[],some<|w.heap.size+1⟩<|(ps.toList.zip (J x).toList).foldl (fun s p=>cB s p.1 p.2) σ).tmps:=by
      rw [← y9,FC]
      exact zZ ⟨n,[],[],some<|w.heap.size+1⟩ _ σ
     have h1:=aw (w.heap.size+1) x W (fun I W'=> ∃ am,(FT<|w.heap.size+1).run P W'= .ok () am∧
      body.wpIn (gq.inRound<|w.heap.size+1) 0 P (roundPost P (w.heap.size+1) fun e W'=>e= .returned (.bool true)∧i (pre++ [x]) W'∧W'.heap[w.heap.size+1]? =some (.loop<|rc .ready none)∧W'.heap[w.heap.size]? =some (.deferred<|some [])) (act ⟨n,[],[],some<|w.heap.size+1⟩ I) am) ?_
     · unfold cH at h1
       have ao:({tmps:=(ps.zip<|J x).foldl (fun tmps (p:Tmp×Value)=>tmps.setIfInBounds p.1 p.2) (act ⟨n,[],Fx,none⟩ σ).tmps,defers:= []} :Act)=act ⟨n,[],[],some<|w.heap.size+1⟩ ((ps.toList.zip (J x).toList).foldl (fun s p=>cB s p.1 p.2) σ):=by rw [aJ]; rfl
       rw [ao]
       refine wpIn_mono h1 ?_
       intro e a w' E
       cases e with
       | normal=>obtain ⟨I,rfl,G⟩:=E; exact G
       | panic c=>obtain ⟨I,rfl,G⟩:=E; exact G I fun _ _=>rfl
       | outgrown=>exact E.elim
       | _=>obtain ⟨I,rfl,G⟩:=E; exact G
     refine ⟨_,run_beginRound M (by rw [O]),?_⟩
     have aG:(W.putObj (w.heap.size+1)<|.loop {rc .ready none with state:= .busy}).heap[w.heap.size+1]? =some (.loop {rc .ready none with state:= .busy}):=vq aH
     have aE:(W.putObj (w.heap.size+1)<|.loop {rc .ready none with state:= .busy}).heap[w.heap.size]? =some (.deferred<|some []):=(mV ab).trans hk
     have h2:=ax (w.heap.size+1) pre x rest _ aK<|ae _ _ _ (.loop {rc .ready none with state:= .busy}) hi M fun _ _ _ h=>by cases h
     unfold cH at h2
     refine wpIn_mono h2 ?_
     intro e a aN E
     cases e with
     | normal=>
       obtain ⟨I,rfl,ai,aC⟩:=E
       have ad:=ai _ _ aG fun _ _ _ h=>by cases h
       have aF:=ai _ _ aE fun _ _ _ h=>by cases h
       have aj:=run_endRound (P:=P) none ad
       rw [O] at aj ad ⊢
       exact ⟨_,_,aj,aa,ae _ _ _ _ aC ad (fun _ _ _ h=>by cases h),vq (cy.1 ad).1,(mV ab).trans aF⟩
     | panic c=>obtain ⟨I,rfl,G⟩:=E; exact (G I fun _ _=>rfl).elim
     | outgrown=>exact E.elim
     | _=>obtain ⟨I,rfl,G⟩:=E; exact G.elim
   · rintro e aM ⟨⟨v,rfl⟩,hi,M,hk⟩
     have ak:=run_endLoop (P:=P) M<|by rw [O]; simp
     rw [O] at ak
     refine ⟨none,_,ak,?_⟩
     rw [O] at M
     exact hd w.heap.size _ (cw _) (ae _ _ _ _ hi M fun _ _ _ h=>by cases h)<|(mV ab).trans hk
section
variable {P:Program} {N:Fm} {ops:Array Oper} {Q:Exit→(Nat→Value)→World→Prop} {rest:List Oper} {σ:Nat→Value} {w:World} {d':Option Nat} {d:Nat} {op:Op} {ty:TypeId} {pos :String} {af:Array Edge} {v:Value}
def mO (P:Program) (N:Fm) (ops:Array Oper) (Q:Exit→(Nat→Value)→World→Prop) (l:List Oper) (σ:Nat→Value) (w:World):Prop :=wpListIn (fe N.r) 0 P ops (lift N Q) l (act N σ) w
theorem P9 {id:Nat} {l:List Oper} (h:mO P N l.toArray Q l σ w):cH P N (.region id l.toArray false) Q σ w:=by
 unfold cH; exact wpIn_region_lit h
theorem OX (h:Q .normal σ w):mO P N ops Q [] σ w:=⟨σ,rfl,h⟩
def yj (o:Op):Bool:=match o with | .defer _=>false | _=>true
theorem OZ {o:Op} (h:yj o=true):∀ c,o≠.defer c:=fun c e=>by subst e; cases h
theorem ey (hn:yj op=true) (h:cE P N ⟨d',op,ty,pos,af,none⟩ σ w (fun σ w=>mO P N ops Q rest σ w)):mO P N ops Q (⟨d',op,ty,pos,af,none⟩::rest) σ w:=by
 unfold mO wpListIn
 rw [if_pos (ij _ rfl _)]
 refine ⟨fun f _=>tR _ f,?_⟩
 rw [xq,F2 _ _ _ (OZ hn)]
 unfold cE iF at h
 generalize (execOp (act N σ).eval ⟨d',op,ty,pos,af,none⟩).run P w=x at h ⊢
 cases x with
 | ok n w'=>
   cases n <;> simp only [ju,oa] at h ⊢ <;>
    first
     | (obtain ⟨q,i,hk⟩:=h; rw [i]; exact hk)
     | (refine ⟨fun a=>(by rw [rH] at a; cases a),zg (BW h) fun e w'' he=> ?_⟩
        cases e with
        | returned v=>obtain ⟨q,i,hk⟩:=he; simp only; rw [i]; exact hk
        | panicked c=>exact he.elim
        | outgrown=>obtain ⟨_,_,A⟩:=he; exact A.elim)
     | (refine ⟨fun a=>(by rw [rH] at a; cases a),zx (xr h) fun v w'' he=> ?_⟩
        obtain ⟨q,i,hk⟩:=he; rw [i]; exact hk)
 | halt x w'=>cases x <;> simp only [ju] at h
theorem py (hn:yj op=true) (h:(execOp (ev N σ) ⟨some d,op,ty,pos,af,none⟩).run P w= .ok (.value v) w) (k:mO P N ops Q rest (cB σ d v) w):mO P N ops Q (⟨some d,op,ty,pos,af,none⟩::rest) σ w:=
 ey hn (l6 h k)
theorem Sd {l:Nat} {fo:Operand} {args:Array Operand} {i:Array TypeId} {L:List Value} {R:World→Prop} (G:ev N σ fo= .func (.yield l) #[] #[]) (C:args.toList.map (ev N σ)=L)
 (J:YieldAt gq 0 P l L.toArray w fun e W'=>e= .returned (.bool true)∧R W') (k:∀ W',R W'→mO P N ops Q rest (cB σ d<|.bool true) W'):
 mO P N ops Q (⟨some d,.call ⟨.value fo,args,i⟩,ty,pos,af,none⟩::rest) σ w:=by
 obtain ⟨fn,tmps,a,b,E,A⟩:=J
 unfold mO wpListIn
 rw [if_pos (ij _ rfl _)]
 refine ⟨fun f _=>tR _ f,?_⟩
 rw [xq,F2 _ _ _ (fun c e=>by cases e),fH]
 have hm:args.map (ev N σ)=L.toArray:=by rw [← C,← kB]
 have I:(execOp (ev N σ) ⟨some d,.call ⟨.value fo,args,i⟩,ty,pos,af,none⟩).run P w= .ok (.round l fn tmps a b) w:=by
  simp [execOp,resolve,G,nz,invoke,hm,E]
 rw [I]
 simp only [oa]
 refine ⟨fun q=>(by rw [rH] at q; cases q),?_⟩
 have h1:RoundIn (fe N.r) (0 - 1) P l fn tmps a b w fun e W'=>e= .returned (.bool true)∧R W':=by
  cases hr:N.r with
  | none=>exact A
  | some k=>exact A
 refine zu h1 ?_
 rintro e W' ⟨rfl,hw⟩
 simp only
 rw [il]
 exact k W' hw
end
end Go.Hb
end
section
namespace Go.Hb
def ee (P:Program) (f:FuncId) (args:Array Value) (w:World) (R:Value→World→Prop) (Pn:List PanicEntry→World→Prop):Prop :=
 Calls P f args w fun e w'=>(∃ v,e= .returned v∧R v w')∨∃ c,e= .panicked c∧Pn c w'
def B3 (P:Program) (fn:Func) (N:Fm) (R:Value→World→Prop) (Pn:List PanicEntry→World→Prop):Exit→(Nat→Value)→World→Prop
 | .normal,σ,w=> ∃ v,(results fn (act N σ).tmps).run P w= .ok v w∧R v w
 | .ret,σ,w=> ∃ v,(results fn (act N σ).tmps).run P w= .ok v w∧R v w
 | .panic c,_,w=>Pn c w
 | _,_,_=>False
theorem hU {P:Program} {fn:Func} {N:Fm} {R:Value→World→Prop} {Pn:List PanicEntry→World→Prop} {e:Exit} {σ:Nat→Value} {w:World} (h:fin P fn N R e σ w):B3 P fn N R Pn e σ w:=by
 cases e <;> first | exact h | exact h.elim
theorem iL {P:Program} {f:FuncId} {N:Nat} {fn:Func} {c:Code} {args:List Value} {w:World} {R:Value→World→Prop} {Pn:List PanicEntry→World→Prop} (I:P.funcs[f]? =some fn) (G:fn.body=some c)
 (E:fn.ntmps=N) (hn:lK args.length N=true) (h:cH P ⟨N,[],[],none⟩ c (B3 P fn ⟨N,[],[],none⟩ R Pn) (kV args) w):ee P f args.toArray w R Pn:=by
 subst E
 refine calls_of_wp I G ?_
 rw [uz fn args [] hn]
 unfold cH at h
 refine FK ?_<|wpIn_wide.1 h
 intro e a w i
 cases e with
 | normal=>obtain ⟨σ,rfl,v,C,A⟩:=i; exact ⟨rfl,v,C,.inl ⟨v,rfl,A⟩⟩
 | ret=>obtain ⟨σ,rfl,v,C,A⟩:=i; exact ⟨rfl,v,C,.inl ⟨v,rfl,A⟩⟩
 | exit id=>obtain ⟨σ,rfl,q⟩:=i; exact q.elim
 | goto l=>obtain ⟨σ,rfl,q⟩:=i; exact q.elim
 | panic c=>obtain ⟨σ,rfl,q⟩:=i; exact ⟨rfl,.inr ⟨c,rfl,q σ fun _ _=>rfl⟩⟩
 | outgrown=>exact i.elim
section
variable {P:Program} {N:Fm} {Q:Exit→(Nat→Value)→World→Prop} {σ:Nat→Value} {w:World} {ops:Array Oper} {rest:List Oper} {dst:Option Nat} {ty:TypeId} {pos :String} {af:Array Edge} {g:Option (Nat×Bool)} {x:Operand}
def mP (P:Program) (N:Fm) (o:Oper) (σ:Nat→Value) (w:World) (K:(Nat→Value)→World→Prop) (Pn:List PanicEntry→World→Prop):Prop :=
 iF P o (act N σ) w (fun a w=> ∃ σ,a=act N σ∧K σ w) (fun e a w=>match e with | .panic c=>a=act N σ∧Pn c w | _=>False)
theorem uV {o:Oper} {K:(Nat→Value)→World→Prop} {Pn:List PanicEntry→World→Prop} {q:Act→World→Prop} (h:mP P N o σ w K Pn) (hk:∀ σ w,K σ w→q (act N σ) w) (hp:∀ c w',Pn c w'→∀ E,(∀ i∈N.F,E i=σ i)→Q (.panic c) E w'):o.wp P (act N σ) w q (lift N Q):=by
 unfold mP at h
 unfold iF at*
 generalize (execOp (act N σ).eval o).run P w=r at h ⊢
 have A:∀ a w,(∃ σ,a=act N σ∧K σ w)→q a w:=by rintro a w ⟨σ,rfl,h⟩; exact hk _ _ h
 have C:∀ c (a:Act) w',(a=act N σ∧Pn c w')→lift N Q (.panic c) a w':=by rintro c a w' ⟨rfl,h⟩; exact ⟨σ,rfl,hp c w' h⟩
 cases r with
 | ok n w'=>
   cases n <;> simp only [ju] at h ⊢ <;>
    first
     | exact A _ _ h
     | exact jQ h (fun e w'' he=>by
      cases e with
      | returned v=>exact A _ _ he
      | panicked c=>exact C _ _ _ ⟨rfl,he.2⟩
      | outgrown=>obtain ⟨_,_,G⟩:=he; exact G.elim)
     | exact zw h fun _ _ he=>A _ _ he
 | halt x w'=>cases x <;> simp only [ju] at h ⊢ <;> exact C _ _ _ ⟨rfl,h.2⟩
theorem cI {f:FuncId} {args:Array Operand} {a:Array TypeId} {L:List Value} {R:Value→World→Prop} {Pn:List PanicEntry→World→Prop} {K:(Nat→Value)→World→Prop} (C:bc P f) (E:ee P f L.toArray w R Pn) (i:args.toList.map (ev N σ)=L)
 (k:∀ v w',R v w'→K (fD σ dst v) w'):mP P N ⟨dst,.call ⟨.value (.func f),args,a⟩,ty,pos,af,g⟩ σ w K Pn:=by
 unfold mP iF
 have hm:args.map (ev N σ)=L.toArray:=by rw [← i,← kB]
 have G:(execOp (ev N σ) ⟨dst,.call ⟨.value (.func f),args,a⟩,ty,pos,af,g⟩).run P w= .ok (.enter f L.toArray) w:=by
  have h2:=C L.toArray w
  simp [execOp,resolve,ev,nz,invoke,hm,h2]
 rw [fH,G]
 simp only [ju]
 refine jQ E ?_
 rintro e w' (⟨v,rfl,A⟩ | ⟨c,rfl,q⟩)
 · exact ⟨_,il ..,k v w' A⟩
 · exact ⟨trivial,q⟩
theorem Ff {f:FuncId} {fo:Operand} {first cap:Array Value} {args:Array Operand} {a:Array TypeId} {L:List Value} {R:Value→World→Prop} {Pn:List PanicEntry→World→Prop} {K:(Nat→Value)→World→Prop} (C:bc P f) (G:ev N σ fo= .func (.func f) first cap) (E:ee P f L.toArray w R Pn) (i:first.toList++args.toList.map (ev N σ)++cap.toList=L)
 (k:∀ v w',R v w'→K (fD σ dst v) w'):mP P N ⟨dst,.call ⟨.value fo,args,a⟩,ty,pos,af,g⟩ σ w K Pn:=by
 unfold mP iF
 have hm:first++args.map (ev N σ)++cap=L.toArray:=by rw [← i]; simp
 have I:(execOp (ev N σ) ⟨dst,.call ⟨.value fo,args,a⟩,ty,pos,af,g⟩).run P w= .ok (.enter f L.toArray) w:=by
  have h2:=C L.toArray w
  simp only [execOp,resolve,G,nz,invoke]
  simp [hm,h2]
 rw [fH,I]
 simp only [ju]
 refine jQ E ?_
 rintro e w' (⟨v,rfl,A⟩ | ⟨c,rfl,q⟩)
 · exact ⟨_,il ..,k v w' A⟩
 · exact ⟨trivial,q⟩
theorem eP {o:Oper} {Pn:List PanicEntry→World→Prop} (q:o.guard=none) (h:mP P N o σ w (fun σ w=>dD P N ops Q rest σ w) Pn) (hp:∀ c w',Pn c w'→∀ a,(∀ i∈N.F,a i=σ i)→Q (.panic c) a w'):dD P N ops Q (o::rest) σ w:=by
 unfold dD wpList
 rw [if_pos (ij o q _)]
 refine .inl<|uV h (fun σ w hk=> ?_) hp
 unfold dD at hk; exact hk
theorem PF {t:TypeId} {v:Value} (q:ev N σ x= .iface t v) (hp:∀ a,(∀ i∈N.F,a i=σ i)→Q (.panic [{v:= .iface t v,recovered:=false}]) a w):dD P N ops Q (⟨dst,.panic x,ty,pos,af,none⟩::rest) σ w:=by
 unfold dD wpList
 rw [if_pos (ij _ rfl _)]
 refine .inl ?_
 unfold iF
 have c:(execOp (ev N σ) ⟨dst,.panic x,ty,pos,af,none⟩).run P w= .halt (.panic<|.iface t v) w:=by
  simp [execOp,q,Instr.panic]
 rw [fH,c]
 exact ⟨σ,aa,hp⟩
theorem OM {t:TypeId} {d:TypeDesc} {v:Value} (hu:P.underlying t=some d) (hd:(match d with | .interface _=>false | _=>true)=true) (a:ev N σ x=v):(execOp (ev N σ) ⟨dst,.makeInterface t x,ty,pos,af,g⟩).run P w= .ok (.value<|.iface t v) w:=by
 cases d <;> first | (cases hd; done) | simp [execOp,Instr.makeInterface,a,dj hu]
def oT (P:Program) (t:TypeId):Bool:=match P.underlying t with | some (.interface _)=>false | some _=>true | none=>false
theorem ON {t:TypeId} {v:Value} (h:oT P t=true) (a:ev N σ x=v):(execOp (ev N σ) ⟨dst,.makeInterface t x,ty,pos,af,g⟩).run P w= .ok (.value<|.iface t v) w:=by
 unfold oT at h
 cases hd:P.underlying t with
 | none=>rw [hd] at h; cases h
 | some d=>rw [hd] at h; exact OM hd (by cases d <;> first | rfl | cases h) a
theorem Rf {xt a:TypeId} {zv:Value} (hu:oT P a=true) (i:zeroV P a=some zv) (c:ev N σ x= .nilIface):(execOp (ev N σ) ⟨dst,.typeAssert x xt a true,ty,pos,af,g⟩).run P w= .ok (.value<|.tuple #[zv,.bool false]) w:=by
 unfold oT at hu
 cases hd:P.underlying a with
 | none=>rw [hd] at hu; cases hu
 | some d=>rw [hd] at hu; cases d <;> first | (cases hu; done) | simp [execOp,FY,c,dj hd,uX i]
theorem Re {xt a:TypeId} {v:Value} (hu:oT P a=true) (c:ev N σ x= .iface a v):(execOp (ev N σ) ⟨dst,.typeAssert x xt a true,ty,pos,af,g⟩).run P w= .ok (.value<|.tuple #[v,.bool true]) w:=by
 unfold oT at hu
 cases hd:P.underlying a with
 | none=>rw [hd] at hu; cases hu
 | some d=>rw [hd] at hu; cases d <;> first | (cases hu; done) | simp [execOp,FY,c,dj hd]
variable {S:World→Prop} {fuel:Nat} {aQ:Array Bool}
theorem p9 {o:Oper} {Pn:List PanicEntry→World→Prop} (i:Nat) (hi:ops[i]? =some o) (A:jM ops aQ i=true) (q:o.guard=none)
 (h:mP P N o σ w (fun σ w=>S w∧eE P N ops Q S fuel (aQ.setIfInBounds i true) σ w) Pn) (hp:∀ c w',Pn c w'→∀ a,(∀ i∈N.F,a i=σ i)→Q (.panic c) a w'):eE P N ops Q S (fuel+1) aQ σ w:=by
 unfold eE at*
 refine wpAnyH_all (rs:= [i]) (by simpa [jM] using A) (by simp) ?_
 intro k hk
 obtain rfl :k=i:=by simpa using hk
 unfold wpOp
 simp only [hi]
 rw [if_pos (ij _ q _)]
 exact .inl<|uV h (fun σ w hk=>hk) hp
end
section
variable {P:Program} {N:Fm} {Q:Exit→(Nat→Value)→World→Prop} {σ:Nat→Value} {w:World} {ops:Array Oper} {S:World→Prop} {fuel:Nat} {aQ:Array Bool}
theorem Nc {o a:Oper} {Pn:List PanicEntry→World→Prop} (i j:Nat) (hi:ops[i]? =some o) (E:ops[j]? =some a) (G:((gF .any ops aQ)== [i,j])=true) (A:o.guard=none) (C:a.guard=none)
 (h:mP P N o σ w (fun σ w=>S w∧eE P N ops Q S fuel (aQ.setIfInBounds i true) σ w) Pn) (hp:∀ c w',Pn c w'→∀ q,(∀ i∈N.F,q i=σ i)→Q (.panic c) q w')
 (h1:cE P N a σ w (fun σ w=>S w∧eE P N ops Q S fuel (aQ.setIfInBounds j true) σ w)):eE P N ops Q S (fuel+1) aQ σ w:=by
 unfold eE at*
 refine wpAnyH_all (rs:= [i,j]) (by simpa using G) (by simp) ?_
 intro k hk
 simp only [eY,sW,or_false] at hk
 rcases hk with rfl | rfl
 · unfold wpOp
   simp only [hi]
   rw [if_pos (ij _ A _)]
   exact .inl<|uV h (fun _ _ hk=>hk) hp
 · unfold wpOp
   simp only [E]
   rw [if_pos (ij _ C _)]
   exact .inl<|qw h1 fun _ _ hk=>hk
end
section
variable {P:Program} {N:Fm} {Q:Exit→(Nat→Value)→World→Prop} {σ:Nat→Value} {w:World} {ops:Array Oper} {S:World→Prop} {fuel r:Nat} {aQ:Array Bool}
theorem Db {o:Oper} {Pn:List PanicEntry→World→Prop} (i:Nat) (hi:ops[i]? =some o) (E:jM ops aQ i=true) (C:o.guard=none)
 (h:mP P N o σ w (fun σ w=>S w∧fS P N ops Q S r fuel (aQ.setIfInBounds i true) σ w) Pn) (hp:∀ c w',Pn c w'→∀ q,(∀ i∈N.F,q i=σ i)→Q (.panic c) q w'):fS P N ops Q S r (fuel+1) aQ σ w:=by
 unfold fS at*
 have a:gF .any ops aQ= [i]:=by simpa [jM] using E
 refine ⟨fun A=>absurd (a ▸ A) (by simp),fun k hk=> ?_⟩
 rw [a] at hk
 obtain rfl :k=i:=by simpa using hk
 unfold wpOp
 simp only [hi]
 rw [if_pos (ij _ C _)]
 exact .inl<|uV h (fun σ w hk=>⟨fun _=>hk.1,hk.2⟩) hp
end
abbrev nJ (P:Program) (fn:Func) (R:Value→World→Prop):Exit→Act→World→Prop :=bodyPostD P fn (fun e w'=> ∃ v,e= .returned v∧R v w')
theorem LD {P:Program} {f:FuncId} {N:Nat} {fn:Func} {c:Code} {args:List Value} {w:World} {R:Value→World→Prop} (F:List Nat) (q:P.funcs[f]? =some fn) (i:fn.body=some c)
 (a:fn.ntmps=N) (hn:lK args.length N=true) (h:l3 P ⟨N,[],F,none⟩ c (nJ P fn R) (kV args) w):bd P f args.toArray w R:=by
 subst a
 refine calls_of_wp_defers q i ?_
 rw [uz fn args F hn]
 exact wpIn_wide.1 h
section
variable {P:Program} {n:Nat} {D:List Deferred} {F:List Nat} {σ:Nat→Value} {w:World} {fn:Func} {R:Value→World→Prop} {B:Exit→Act→World→Prop}
theorem LY {v:Value} (c:(results fn (act ⟨n,[],F,none⟩ σ).tmps).run P w= .ok v w) (a:R v w):qb ⟨n,[],F,none⟩ (nJ P fn R) .ret σ w:=⟨v,c,v,rfl,a⟩
theorem N9:¬LetsOut (nJ P fn R):=fun ⟨_,_,h⟩=>by obtain ⟨v,h,_⟩:=h; cases h
theorem K0 {id d:Nat} {f:FuncId} (I:¬LetsOut B) {cs:Array Operand} {E G:TypeId} {A C:String} {i q:Array Edge} {y:Code} (c:Array Value) (M:cs.toList.map (ev ⟨n,[],F,none⟩ σ)=c.toList) (hd:d < n)
 (h:l3 P ⟨n,[{target:= .fn (.func f) c,args:= #[]}],F,none⟩ y B (cB σ d<|.func (.func f) #[] c) w):
 l3 P ⟨n,[],F,none⟩ (.region id #[⟨some d,.makeFunc (.func f) #[] cs,E,A,i,none⟩,⟨none,.defer ⟨.value (.tmp d),#[],#[]⟩,G,C,q,none⟩] false) (Exit.then (y.wpIn (fe none) 0 P B) B) σ w:=by
 have O:cs.map (ev ⟨n,[],F,none⟩ σ)=c:=vb.1<|by rw [kB]; exact M
 refine wpIn_region ?_
 have J:¬LetsOut (Exit.then (y.wpIn (fe none) 0 P B) B):=fun ⟨a,w,h⟩=>I ⟨a,w,h⟩
 refine xZ (r:=none) J aa _ _ _ ?_
 show wpOps P _ _ [0,1] _ _
 simp only [wpOps,Gq,vz,List.getElem?_cons_succ]
 rw [if_pos (ij _ rfl _)]
 refine .inl ?_
 unfold iF
 have h1:(execOp (act ⟨n,[],F,none⟩ σ).eval ⟨some d,.makeFunc (.func f) #[] cs,E,A,i,none⟩).run P w= .ok (.value<|.func (.func f) #[] c) w:=by
  rw [fH,mf,O]; simp
 rw [h1]
 simp only [ju]
 rw [if_pos (ij _ rfl _),il]
 refine .inl ?_
 have h2:(execOp (act ⟨n,[],F,none⟩<|fD σ (some d)<|.func (.func f) #[] c).eval ⟨none,.defer ⟨.value (.tmp d),#[],#[]⟩,G,C,q,none⟩).run P w= .ok (.defer {target:= .fn (.func f) c,args:= #[]}) w:=by
  have U:ev ⟨n,[],F,none⟩ (cB σ d<|.func (.func f) #[] c) (.tmp d)= .func (.func f) #[] c:=by
   show cond (e8 d n) (cB σ d _ d) undef=_
   rw [show e8 d n=true from by simpa using hd]
   show cB σ d _ d=_
   unfold cB; simp
  rw [fH]
  show (execOp (ev ⟨n,[],F,none⟩<|cB σ d<|.func (.func f) #[] c) _).run P w=_
  simp [execOp,resolve,U,nz]
 rw [h2]
 exact h
end
theorem Pc {P:Program} {ops:Array Oper} {Q:Exit→Act→List Frame→World→Prop} {cs:List Frame} (q:¬LetsOut fun e a w=>Q e a cs w):∀ (l:List Nat) (a:Act) (w:World),wpOps P ops (fun e a w=>Q e a cs w) l a w→wpOpsS P ops Q l a cs w:=by
 intro l
 induction l with
 | nil=>exact fun _ _ h=>h
 | cons i l c=>
   intro a w h
   simp only [wpOps] at h
   simp only [wpOpsS]
   cases ho:ops[i]? with
   | none=>simp only [ho] at h ⊢; exact c a w h
   | some o=>
     simp only [ho] at h ⊢
     by_cases hw:Region.wanted o (yielded ops a.tmps)=true
     · rw [if_pos hw] at h ⊢
       rcases h with h | h
       · unfold iF at h
         generalize (execOp a.eval o).run P w=x at h
         cases x with
         | ok n w'=>
           cases n <;> simp only [ju] at h ⊢ <;>
            first
             | exact c _ _ h
             | exact jQ h fun e w'' he=>by cases e <;> first | exact c _ _ he | exact he
             | exact zw h fun v w'' he=>c _ _ he
         | halt x w'=>cases x <;> simp only [ju] at h ⊢ <;> exact h
       · exact absurd h.2 q
     · rw [if_neg hw] at h ⊢
       exact c _ _ h
theorem Od {P:Program} {ops:Array Oper} {Q A:Exit→Act→World→Prop} (q:∀ e a w,Q e a w→A e a w) (C:¬LetsOut Q):∀ (l:List Oper) (a:Act) (w:World),wpList P ops Q l a w→wpList P ops A l a w:=by
 intro l
 induction l with
 | nil=>exact fun _ _ h=>q _ _ _ h
 | cons o l i=>
   intro a w h
   unfold wpList at h ⊢
   split at h
   · rename_i hw
     rw [if_pos hw]
     rcases h with h | h
     · left
       unfold iF at h ⊢
       generalize (execOp a.eval o).run P w=x at h
       cases x with
       | ok n w'=>
         cases n <;> simp only [ju] at h ⊢ <;>
          first
           | exact i _ _ h
           | exact jQ h (fun e w'' he=>by
            cases e with
            | returned v=>exact i _ _ he
            | panicked c=>exact q _ _ _ he
            | outgrown=>exact absurd he C)
           | exact zw h fun v w'' he=>i _ _ he
       | halt x w'=>cases x <;> simp only [ju] at h ⊢ <;> exact q _ _ _ h
     · exact absurd h.2 C
   · rename_i hw
     rw [if_neg hw]; exact i _ _ h
theorem A9 {P:Program} {f:FuncId} {fn:Func} {id N d:Nat} {ty:TypeId} {pos :String} {af:Array Edge} {rest:List Oper} {y:Code} {args:List Value} {w:World} {u E:FrameMode} {v:Value} {R:World→Prop}
 (ac:P.funcs[f]? =some fn) (aa:fn.body=some (.seq (.region id (⟨some d,.call ⟨.builtin .recover,#[],#[]⟩,ty,pos,af,none⟩::rest).toArray false) y)) (Z:fn.ntmps=N) (hn:lK args.length N=true)
 (ad:∀ (A:Frame) (cs:List Frame),A.mode=u→(recoverD (A::cs)=some (v,{A with mode:=E} ::cs))∨(recoverD (A::cs)=none∧v= .nilIface∧E=u))
 (h:dD P ⟨N,[],[],none⟩ (⟨some d,.call ⟨.builtin .recover,#[],#[]⟩,ty,pos,af,none⟩::rest).toArray (kb (fun σ w=>cH P ⟨N,[],[],none⟩ y (fin P fn ⟨N,[],[],none⟩ fun _ w=>R w) σ w)<|fin P fn ⟨N,[],[],none⟩ fun _ w=>R w) rest (cB (kV args) d v) w):
 CallsD P f args.toArray u w fun e G w'=> ∃ v,e= .returned v∧G=E∧R w':=by
 subst Z
 refine callsD_of_wpS ac aa ?_
 intro A cs hu
 rw [uz fn args [] hn]
 refine wpS_seq<|wpS_region ?_
 have ae:gH (⟨some d,.call ⟨.builtin .recover,#[],#[]⟩,ty,pos,af,none⟩::rest).toArray.size=0::(List.range' 1 rest.length):=by
  rw [mi,bV,List.range_eq_range',List.range'_succ]
 rw [ae]
 simp only [wpOpsS,Gq,vz]
 rw [if_pos (ij _ rfl _)]
 have ag:(execOp (act ⟨fn.ntmps,[],[],none⟩<|kV args).eval ⟨some d,.call ⟨.builtin .recover,#[],#[]⟩,ty,pos,af,none⟩).run P w= .ok .recover w:=by
  rw [fH]
  simp [execOp,resolve,invoke,builtin]
 rw [ag]
 simp only
 obtain ⟨I,J⟩:∃ I,I=({A with mode:=E} ::cs:List Frame):=⟨_,rfl⟩
 have ab:∀ X:Act→List Frame→Prop,X ((act ⟨fn.ntmps,[],[],none⟩<|kV args).put (some d) v) I→
  (match recoverD (A::cs) with
   | some (v,M)=>X ((act ⟨fn.ntmps,[],[],none⟩<|kV args).put (some d) v) M
   | none=>X ((act ⟨fn.ntmps,[],[],none⟩<|kV args).put (some d) .nilIface) (A::cs)):=by
  intro X V
  rcases ad A cs hu with h1 | ⟨h1,h2,h3⟩
  rw [h1]; subst J; exact V
  rw [h1]; subst h2 h3
  have :({A with mode:=E} :Frame)=A:=by subst hu; rfl
  rw [this] at J; subst J; exact V
 refine ab (fun a M=>wpOpsS P _ _ _ a M w) ?_
 rw [il]
 refine Pc ?_ _ _ _ ?_
 rintro ⟨a,w,h⟩
 simp only [Exit.thenS,bodyPostS] at h
 obtain ⟨_,_,h,_⟩:=h; cases h
 have h1:=wpOps_eq_wpList (P:=P) (ops:=(⟨some d,.call ⟨.builtin .recover,#[],#[]⟩,ty,pos,af,none⟩::rest).toArray) (Q:=fun e a w'=>Exit.thenS (Code.wpS P y (bodyPostS P fn A cs fun e G w'=> ∃ v,e= .returned v∧G=E∧R w')) (bodyPostS P fn A cs fun e G w'=> ∃ v,e= .returned v∧G=E∧R w') e a I w') rest 1 fun j=>by simp [Nat.add_comm]
 rw [h1]
 unfold dD at h
 refine Od ?_ yb _ _ _ h
 intro e a w' C
 have Y:∀ (e:Exit) (σ:Nat→Value) (w':World),fin P fn ⟨fn.ntmps,[],[],none⟩ (fun _ w=>R w) e σ w'→bodyPostS P fn A cs (fun e G w'=> ∃ v,e= .returned v∧G=E∧R w') e (act ⟨fn.ntmps,[],[],none⟩ σ) I w':=by
  intro e σ w' q
  cases e with
  | normal=>obtain ⟨v,U,O⟩:=q; exact ⟨rfl,E,J,v,U,v,rfl,rfl,O⟩
  | ret=>obtain ⟨v,U,O⟩:=q; exact ⟨rfl,E,J,v,U,v,rfl,rfl,O⟩
  | _=>exact q.elim
 cases e with
 | normal=>
   obtain ⟨σ,rfl,q⟩:=C
   refine wpS_of_wp ?_
   simp only [kb] at q
   unfold cH at q
   refine FK ?_<|wpIn_wide.1 q
   intro e a w' C
   cases e with
   | panic c=>obtain ⟨σ,rfl,q⟩:=C; exact (q σ fun _ _=>rfl).elim
   | outgrown=>exact C.elim
   | _=>obtain ⟨σ,rfl,q⟩:=C; exact Y _ σ w' q
 | panic c=>obtain ⟨σ,rfl,q⟩:=C; exact (q σ fun _ _=>rfl).elim
 | outgrown=>exact C.elim
 | ret=>obtain ⟨σ,rfl,q⟩:=C; exact Y .ret σ w' q
 | exit i=>obtain ⟨σ,rfl,q⟩:=C; exact q.elim
 | goto i=>obtain ⟨σ,rfl,q⟩:=C; exact q.elim
section
variable {P:Program} {n:Nat} {F:List Nat} {σ:Nat→Value} {w:World} {fn:Func} {R:Value→World→Prop}
theorem LZ {g:FuncId} {a:Array Value} {M:World→Prop} (hu:(invoke (.fn (.func g) a) #[]).run P w= .ok (.enter g a) w)
 (i:CallsD P g a .returning w fun e q w'=> ∃ v,e= .returned v∧q= .returning∧M w') (c:∀ w',M w'→∃ v,(results fn (act ⟨n,[{target:= .fn (.func g) a,args:= #[]}],F,none⟩ σ).tmps).run P w'= .ok v w'∧R v w'):
 qb ⟨n,[{target:= .fn (.func g) a,args:= #[]}],F,none⟩ (nJ P fn R) .ret σ w:=by
 refine leaves_cons (by simp) hu ?_
 refine FJ i ?_
 rintro e A w' ⟨v,rfl,rfl,hm⟩
 obtain ⟨v2,h1,h2⟩:=c w' hm
 exact ⟨v2,h1,v2,aa,h2⟩
theorem L0 {g:FuncId} {a:Array Value} {M:World→Prop} {v:Value} (hu:(invoke (.fn (.func g) a) #[]).run P w= .ok (.enter g a) w)
 (i:CallsD P g a (.panicking [{v:=v,recovered:=false}]) w fun e q w'=> ∃ x,e= .returned x∧q= .panicking [{v:=v,recovered:=true}]∧M w') (c:∀ w',M w'→∃ v,(results fn (act ⟨n,[{target:= .fn (.func g) a,args:= #[]}],F,none⟩ σ).tmps).run P w'= .ok v w'∧R v w'):
 qb ⟨n,[{target:= .fn (.func g) a,args:= #[]}],F,none⟩ (nJ P fn R) (.panic [{v:=v,recovered:=false}]) σ w:=by
 refine leaves_cons (by simp) hu ?_
 refine FJ i ?_
 rintro e A w' ⟨x,rfl,rfl,hm⟩
 obtain ⟨v2,h1,h2⟩:=c w' hm
 exact ⟨v2,h1,v2,aa,h2⟩
end
end Go.Hb
end
section
namespace Go.Hb
def kG (w:World) (B e n:Nat) (v:Value) (xs:List Value):Prop :=
 ∃ a cp,v= .slice a n cp∧n≤cp∧(xs= []∨∃ b o cur z,a=some ⟨b,o,none⟩∧B≤b∧w.heap[b]? =some (.cells cur e z)∧∀ (j:Nat) u,xs[j]? =some u→cur[o+j]? =some u)
theorem Tg.Rq {w:World} {B e n:Nat} {v:Value} {xs:List Value} (h:Tg w B e n v xs):kG w B e n v xs:=by
 obtain ⟨a,cp,rfl,A,c⟩:=h
 refine ⟨a,cp,aa,A,c.imp id ?_⟩
 rintro ⟨b,cur,z,i,q,C,c⟩
 exact ⟨b,0,cur,z,i,q,C,fun j u hu=>by rw [Nat.zero_add]; exact c j u hu⟩
theorem kG.cells {w:World} {B e n cp:Nat} {a:Option Addr} {xs:List Value} (h:kG w B e n (.slice a n cp) xs):n≤cp∧aE w.heap a xs:=by
 obtain ⟨C,E,A,i,c⟩:=h
 cases A
 rcases c with h | ⟨b,o,cur,z,rfl,_,q,c⟩
 · subst h; exact ⟨i,aE.nil _ _⟩
 · refine ⟨i,fun _=>rfl,fun j u hu=> ?_⟩
   show Hb.aI w.heap b (o+j)=_
   rw [aY q]; exact c j u hu
theorem kG.slice {w:World} {B e n:Nat} {v:Value} {xs:List Value} (h:kG w B e n v xs):∃ a cp,v= .slice a n cp:=let ⟨a,cp,hv,_⟩:=h; ⟨a,cp,hv⟩
theorem kG.md {F:Nat→Prop} {w w':World} {B e n:Nat} {v:Value} {xs:List Value} (h:kG w B e n v xs) (hm:Md F w w') (q:∀ k,F k→∀ cur z,w.heap[k]?≠some (.cells cur e z)):kG w' B e n v xs:=by
 obtain ⟨a,cp,rfl,i,h | ⟨b,o,cur,z,rfl,A,c,C⟩⟩:=h
 · exact ⟨a,cp,aa,i,.inl h⟩
 · exact ⟨_,cp,aa,i,.inr ⟨b,o,cur,z,aa,A,by rw [hm.dO b (cy.1 c).1 (fun hk=>q b hk cur z c)]; exact c,C⟩⟩
theorem kG.pT {w:World} {B e n m cp:Nat} {a:Option Addr} {xs:List Value} (h:kG w B e (n+1) (.slice a (n+1) cp) xs) (C:xs.length=(n+1)*m):kG w B e n (.slice (eM a cp 1 m) n<|cp - 1) (xs.drop m):=by
 obtain ⟨G,I,A,J,q⟩:=h
 cases A
 refine ⟨_,_,aa,ab,?_⟩
 rcases q with rfl | ⟨b,o,cur,z,rfl,c,i,E⟩
 · exact .inl<|by simp
 · unfold eM
   by_cases h1:cp=1
   · refine .inl<|gr ?_
     obtain rfl :n=0:=ab
     rw [fU,C]; omega
   · rw [if_neg h1]
     refine .inr ⟨b,o+1 *m,cur,z,?_,c,i,fun j u hu=> ?_⟩
     · rw [kE,kH]
     · rw [List.getElem?_drop] at hu
       have :=E _ u hu
       rw [show o+1 *m+j=o+(m+j) from by omega]; exact this
def dm (w:World) (B e:Nat) (vs:List Value) (a:List (List Nat)):Prop :=vs.length=a.length∧∀ (i:Nat) v l,vs[i]? =some v→a[i]? =some l→Tg w B e l.length v (l.map aR)
theorem dm.nil (w:World) (B e:Nat):dm w B e [] []:=⟨rfl,fun i v l a=>by simp at a⟩
theorem dm.md {F:Nat→Prop} {w w':World} {B e:Nat} {vs:List Value} {a:List (List Nat)} (h:dm w B e vs a) (hm:Md F w w') (c:∀ k,F k→∀ cur z,w.heap[k]?≠some (.cells cur e z)):dm w' B e vs a:=⟨h.1,fun i v l h1 h2=>(h.2 i v l h1 h2).md hm c⟩
theorem dm.wk {w w':World} {B e:Nat} {vs:List Value} {a:List (List Nat)} (h:dm w B e vs a) (hm:Wk w w'):dm w' B e vs a:=h.md hm fun _ hk=>hk.elim
theorem dm.mono {w:World} {B B' e:Nat} {vs:List Value} {a:List (List Nat)} (h:dm w B e vs a) (c:B'≤B):dm w B' e vs a:=⟨h.1,fun i v l h1 h2=>(h.2 i v l h1 h2).mono c⟩
theorem dm.snoc {w:World} {B e:Nat} {vs:List Value} {c:List (List Nat)} {v:Value} {l:List Nat} (a:dm w B e vs c) (A:Tg w B e l.length v (l.map aR)):dm w B e (vs++ [v]) (c++ [l]):=by
 refine ⟨by rw [bJ,bJ,a.1]; rfl,fun i C E h1 h2=> ?_⟩
 have q:=a.1
 by_cases hi:i < vs.length
 · rw [lG hi] at h1
   rw [lG ab] at h2
   exact a.2 i C E h1 h2
 · rw [me ab] at h1
   rw [me ab,← q] at h2
   cases hj:i - vs.length with
   | zero=>rw [hj] at h1 h2; cases h1; cases h2; exact A
   | succ j=>rw [hj] at h1; simp at h1
def gB (t ln:Nat) (e:Int):List PanicEntry:= [{v:= .iface t (.agg [.int .i64 1,.int .i64 (ln:Nat),.int .i64 e].toArray),recovered:=false}]
theorem dw {h:World} {b:Nat} {isK:Value→Prop} {f:Value→Option Value} (hm:bU h.heap b isK f):tag h b=1:=let ⟨_,h1,_⟩:=hm; Ri h1
def Wr (L:List Nat) (ms mt mc B:Nat) (w:World) (k:Nat):Prop :=B≤k∧(k=ms∨k=mt∨k=mc∨L.contains (tag w k)=true)
abbrev Mw (L:List Nat) (ms mt mc B:Nat) (w w':World):Prop :=Md (Wr L ms mt mc B w) w w'
section
variable {L:List Nat} {ms mt mc B:Nat} {w w' w'':World}
theorem Mw.trans (h:Mw L ms mt mc B w w') (a:Mw L ms mt mc B w' w''):Mw L ms mt mc B w w'':=by
 refine Md.trans' h a fun k hk hw=> ?_
 refine Classical.byContradiction fun hn=> ?_
 have :=Md.tag h hk hn
 unfold Wr at hw
 rw [this] at hw
 exact hn hw
theorem Wk.mw (h:Wk w w'):Mw L ms mt mc B w w':=h.mono fun _ _ a=>a.elim
theorem Mw.of {F:Nat→Prop} (h:Md F w w') (i:TF w L F) (c:∀ k,F k→B≤k):Mw L ms mt mc B w w':=h.mono fun k _ a=>⟨c k a,.inr<|.inr<|.inr<|i k a⟩
theorem Mw.wk {a:World} (c:Wk a w) (h:Mw L ms mt mc B w w') (i:a.heap.size≤B):Wk a w':=Md.trans' c h fun k hk hw=>by have :=hw.1; omega
theorem Wr.ne (hs:tag w ms=1) (A:tag w mt=1) (q:tag w mc=1) {e:Nat} (i:L.contains (e+2)=false):∀ k,Wr L ms mt mc B w k→∀ cur z,w.heap[k]?≠some (.cells cur e z):=by
 rintro k ⟨_,rfl | rfl | rfl | h⟩ cur z c <;> have a:=dt c
 · omega
 · omega
 · omega
 · rw [a,i] at h; cases h
end
end Go.Hb
end
section
namespace Go.Hb
section
variable {P:Program} {N:Fm} {σ:Nat→Value} {w:World} {dst:Option Nat} {ty:TypeId} {pos :String} {af:Array Edge} {g:Option (Nat×Bool)} {x y:Operand}
theorem LP (d:Nat) {t e:TypeId} {a:Option Addr} {n c:Nat} (hu:P.underlying t=some (.slice e)):(Op.equalIn (d+1) t (.slice a n c)<|.slice none 0 0).run P w= .ok a.isNone w:=by
 cases a <;> simp [Op.equalIn,dj hu]
theorem LQ {t e:TypeId} {a:Option Addr} {n c:Nat} (hu:P.underlying t=some (.slice e)):(Op.equal t (.slice a n c)<|.slice none 0 0).run P w= .ok a.isNone w:=LP 9999 hu
theorem pV {t A e:TypeId} {a:Option Addr} {n c:Nat} (hu:P.underlying t=some (.slice e)) (i:ev N σ x= .slice a n c) (q:ev N σ y= .slice none 0 0):
 (execOp (ev N σ) ⟨dst,.binOp .eql t x y A,ty,pos,af,g⟩).run P w= .ok (.value<|.bool a.isNone) w:=by
 have h:(binOp .eql t (.slice a n c)<|.slice none 0 0).run P w= .ok (.bool a.isNone) w:=by
  simp only [binOp]; simp [LQ hu]
 simp [execOp,i,q,eqGuard,h]
end
def Rd (h:Array Obj) (v:Value) (n size:Nat) (xs:List Value):Prop := ∃ a c,v= .slice a n c∧aE h a xs∧xs.length=n*size∧(a=none→n=0)
theorem Rd.j8 {w:World} {B e size n:Nat} {v:Value} {xs:List Value} (h:w.ownsRow B e size v n xs):Rd w.heap v n size xs:=by
 obtain ⟨a,c,rfl,h1,_,_,h3⟩:=qg h
 refine ⟨a,c,aa,h1,h.1,fun i=> ?_⟩
 subst i
 rcases h.2 with ⟨h4,h5⟩ | ⟨g,cap,cur,h4,_⟩
 · exact h5
 · simp at h4
theorem DQ {w:World} {B e size n k cp:Nat} {a:Option Addr} {xs:List Value} (h:w.ownsRow B e size (.slice a n cp) n xs) (hk:k≤n) (A:a≠none):w.ownsRow B e size (.slice a k cp) k (xs.take<|k*size):=by
 obtain ⟨c,h⟩:=h
 refine ⟨by rw [ec,c]; exact mY (qT _ hk),?_⟩
 rcases h with ⟨h1,_⟩ | ⟨g,cap,cur,h1,h2,h3,h4,h5,i,q⟩
 · simp only [lF] at h1; exact absurd h1.1 A
 · simp only [lF,true_and] at h1
   obtain ⟨rfl,rfl⟩:=h1
   refine .inr ⟨g,_,cur,aa,h2,h3,ab,h5,i,?_⟩
   rw [← q,GG,mY (qT _ hk)]
section
variable {P:Program} {N:Fm} {σ:Nat→Value} {w:World} {dst:Option Nat} {ty:TypeId} {pos :String} {af:Array Edge} {g:Option (Nat×Bool)} {x y z u:Operand} {K:(Nat→Value)→World→Prop}
theorem QD {t n len cap:Nat} {a:Option Addr} {k E G:IntKind} {i j m:Nat} (he:fY P t=some n) (c:ev N σ x= .slice a len cap) (A:ev N σ y= .int k (i:Nat)) (C:ev N σ z= .int E (j:Nat)) (hu:ev N σ u= .int G (m:Nat)) (h:i≤j∧j≤m∧m≤cap):
 (execOp (ev N σ) ⟨dst,.slice t x (some y) (some z) (some u),ty,pos,af,g⟩).run P w= .ok (.value<|.slice (eM a m i n) (j - i)<|m - i) w:=by
 have h1:(0:Int)≤(i:Int):=ab
 have h2:(0:Int)≤(j:Int):=ab
 have h3:(0:Int)≤(m:Int):=ab
 unfold fY at he
 cases hd:P.underlying t with
 | none=>rw [hd] at he; cases he
 | some d=>
   rw [hd] at he
   cases d <;> first | (cases he; done) | skip
   rename_i e
   cases hi':P.info? e with
   | none=>simp [hi'] at he
   | some q=>
     simp only [hi',kE,eZ] at he
     subst he
     simp only [execOp,o8,Instr.slice,c,A,C,hu,kE,mT,Instr.sliceBound,asIntOf]
     simp [dj hd,gd hi',sizeOf,h.1,h.2.1,h.2.2,eM]
theorem Hp {t e size bytes B n m cp c A:Nat} {xs news:List Value} {a:Option Addr} (Y:fK P t e size bytes=true) (M:w.ownsRow B e size (.slice (some ⟨A,0,none⟩) n cp) n xs) (Z:ev N σ x= .slice (some ⟨A,0,none⟩) n cp)
 (aa:ev N σ y= .slice a m c) (G:aE w.heap a news) (I:a≠none) (J:news.length=m*size) (h1:news.all eW=true) (V:n+m≤cp)
 (k:∀ w',Md (fun q=>q=A) w w'→w'.ownsRow B e size (.slice (some ⟨A,0,none⟩) (n+m) cp) (n+m) (xs++news)→K (fD σ dst<|.slice (some ⟨A,0,none⟩) (n+m) cp) w'):
 cE P N ⟨dst,.call ⟨.builtin .append,#[x,y],#[t,t]⟩,ty,pos,af,g⟩ σ w K:=by
 obtain ⟨hu,i,zv,hi,ae,hs,ab,ag,ac⟩:=n3 Y
 obtain ⟨ad,rfl⟩:∃ ad,a=some ad:=by cases a with | none=>exact absurd rfl I | some ad=>exact ⟨ad,rfl⟩
 have hn:∀ j v,news[j]? =some v→w.cell? (ad.add j)=some v:=fun j v C=>by
  have E:news≠[]:=fun e=>by rw [e] at C; simp at C
  have h2:=G.ok E
  simp only [eZ] at h2
  rw [h2,kH,lQ]; exact G.aI j v C
 obtain ⟨w',U,h2,h3⟩:=Go.run_append_fits (P:=P) (w:=w) B t ty e i size hu hi hs A n cp xs M ad m c news J hn (q5 h1) V
 refine l6 (w':=w') (v:= .slice (some ⟨A,0,none⟩) (n+m) cp) ?_<|k w' ⟨h3.os,h3.output,h3.size,fun q O E=>h3.block q O fun e=>E<|qW e⟩ h2
 simp [execOp,resolve,invoke,builtin,Z,aa,U]
end
end Go.Hb
end
section
namespace Go.Hb
def oD (P:Program) (t:TypeId):Option (Nat×Nat):=
 match P.underlying t with
 | some (.array n e)=>(P.info? e).map fun i=>(n,i.size)
 | _=>none
section
variable {P:Program} {N:Fm} {σ:Nat→Value} {w:World} {dst:Option Nat} {ty:TypeId} {pos :String} {af:Array Edge} {g:Option (Nat×Bool)} {x y:Operand}
theorem kM {t n c b off :Nat} {k:IntKind} {i:Int} (he:oD P t=some (n,c)) (q:ev N σ x= .pointer (some ⟨b,off,none⟩)) (A:ev N σ y= .int k i) (a:0≤i∧i < n):
 (execOp (ev N σ) ⟨dst,.indexAddr t x y,ty,pos,af,g⟩).run P w= .ok (.value<|.pointer<|some ⟨b,off+i.toNat*c,none⟩) w:=by
 unfold oD at he
 cases hd:P.underlying t with
 | none=>rw [hd] at he; cases he
 | some d=>
   rw [hd] at he
   cases d <;> first | (cases he; done) | skip
   rename_i m e
   cases hi:P.info? e with
   | none=>simp [hi] at he
   | some j=>
     simp only [hi,kE,eZ,s5] at he
     obtain ⟨rfl,rfl⟩:=he
     simp [execOp,Instr.indexAt,n9,q,A,asIntOf,dj hd,a.1,a.2,sizeOf,gd hi,kH]
end
theorem OC {h:Array Obj} {b:Nat} {a:List UInt8} (i:bw h b (marksOf a)) (c:UInt8):Hb.aI h b (0 +((c.toNat:Nat):Int).toNat*1)=some (.bool<|decide (c∈a)):=by
 rw [i.aI,show 0 +((c.toNat:Nat):Int).toNat*1=c.toNat from by omega]; exact Oz a c
theorem OD {h:Array Obj} {b:Nat} {a:List UInt8} {c:UInt8} (i:bw h b ((marksOf a).set (0 +((c.toNat:Nat):Int).toNat*1)<|.bool true)):bw h b (marksOf<|a++ [c]):=by
 rw [show 0 +((c.toNat:Nat):Int).toNat*1=c.toNat from by omega,OB] at i; exact i
end Go.Hb
end
section
namespace Go.Hb
theorem NJ (c:UInt8):∀ l:List UInt8,FZ l c=dT c l:=by
 intro l
 induction l with
 | nil=>rfl
 | cons b l A=>
   unfold FZ
   rw [A]
   rw [show dT c (b::l)=if (b::l).idxOf c < (b::l).length then ((b::l).idxOf c:Int) else -1 from rfl,List.idxOf_cons]
   by_cases h:(b==c)=true
   · rw [if_pos h,h]; rfl
   · have i:(b==c)=false :=by simpa using h
     rw [if_neg h,i]
     simp only [cond_false,bV]
     by_cases h1:l.idxOf c < l.length
     · have a:dT c l=l.idxOf c:=if_pos h1
       rw [a,if_neg (fun q=>by have :=eq_of_beq q; omega),if_pos ab]; rfl
     · have a:dT c l= -1:=if_neg h1
       rw [a,if_pos aw,if_neg ab]
theorem Ql {P:Program} {f:FuncId} {fn:Func} (i:P.funcs[f]? =some fn) (q:(fn.name== "runtime.NumGoroutine")=false) (a:fn.body.isNone=true) (hn:FQ fn=none)
 (he:FP fn=some Sy) (l:List UInt8) (c:UInt8) (w:World):(callFunc f #[str l,.int .u8 c.toNat]).run P w= .ok (.value<|.int .i64<|dT c l) w:=by
 rw [run_callFunc_extern i q a hn he]
 unfold str
 rw [Lib.run_indexByteString]
 have h1:((c.toNat:Int)).toNat.toUInt8=c:=pA.1<|by simp
 rw [h1,NJ]
 rfl
theorem Qk {P:Program} {f:FuncId} {fn:Func} (i:P.funcs[f]? =some fn) (q:(fn.name== "runtime.NumGoroutine")=false) (a:fn.body.isNone=true) (hn:FQ fn=none)
 (he:FP fn=some Sx) (l:List UInt8) (c:UInt8) (w:World):(callFunc f #[str l,.int .u8 c.toNat]).run P w= .ok (.value<|.int .i64 (l.count c:Nat)) w:=by
 rw [run_callFunc_extern i q a hn he]
 unfold str
 rw [Lib.run_countString]
 have h1:((c.toNat:Int)).toNat.toUInt8=c:=pA.1<|by simp
 rw [h1]
 rfl
section
variable {P:Program} {N:Fm} {σ:Nat→Value} {w:World} {dst:Option Nat} {ty:TypeId} {pos :String} {af:Array Edge} {g:Option (Nat×Bool)}
theorem Bk {f:FuncId} {a b v:Value} {args:Array Operand} {c:Array TypeId} (h:(callFunc f #[a,b]).run P w= .ok (.value v) w) (i:args.toList.map (ev N σ)= [a,b]):
 (execOp (ev N σ) ⟨dst,.call ⟨.value (.func f),args,c⟩,ty,pos,af,g⟩).run P w= .ok (.value v) w:=by
 have :args.map (ev N σ)= #[a,b]:=by rw [← vb,kB,i]
 simp [execOp,resolve,ev,nz,invoke,this,h]
end
end Go.Hb
end
section
namespace Go.Hb
theorem Qt {L:List Value} {o:Nat} {v:Value} (h:o < L.length):(L.set o v).take (o+1)=L.take o++ [v]:=by
 rw [List.set_eq_take_append_cons_drop,if_pos h,sY,ec,mY ab,Nat.add_sub_cancel_left,fq (by rw [ec]; omega)]
 rfl
theorem Qs {L:List Value} {o m:Nat} {v:Value} (h:o < m):(L.set o v).drop m=L.drop m:=by
 rw [List.drop_set,if_pos h]
theorem Ek (b e:Nat):∀ (vs:List Value) (o:Nat) (L:List Value) (w:World),w.heap[b]? =some (.cells L.toArray e (0,0))→o+vs.length≤L.length→
 (w.setCells b o vs).heap[b]? =some (.cells (L.take o++vs++L.drop (o+vs.length)).toArray e (0,0))∧Md (fun k=>k=b) w (w.setCells b o vs):=by
 intro vs
 induction vs with
 | nil=>intro o L w a _; exact ⟨by simpa [World.setCells] using a,Md.refl _ _⟩
 | cons v r C=>
   intro o L w a i
   simp only [bV] at i
   have h1:(w.setCell ⟨b,o,none⟩ v).heap[b]? =some (.cells (L.set o v).toArray e (0,0)):=by
    have q:=(cy.1 a).1
    have A:w.heap[b]= .cells L.toArray e (0,0):=(cy.1 a).2
    simp only [vt]
    rw [Array.getElem?_eq_getElem (by simpa using q),Array.getElem_modify]
    simp [A,List.setIfInBounds_toArray]
   have c:Md (fun k=>k=b) w (w.setCell ⟨b,o,none⟩ v):=⟨rfl,rfl,by simp [vt],fun k _ hk=>Below.heap_setCell w _ v k hk⟩
   obtain ⟨h2,h3⟩:=C (o+1) (L.set o v) _ h1<|by rw [List.length_set]; omega
   refine ⟨?_,Md.trans c h3⟩
   show ((w.setCell ⟨b,o,none⟩ v).setCells b (o+1) r).heap[b]? =_
   rw [h2,Qt ab,Qs ab,bV,show o+1 +r.length=o+(r.length+1) from by omega]
   simp
section
variable {P:Program} {N:Fm} {σ:Nat→Value} {w:World} {ty:TypeId} {pos :String} {af:Array Edge} {g:Option (Nat×Bool)} {x:Operand} {K:(Nat→Value)→World→Prop}
theorem JL {t e B n k cp C m:Nat} {a:Option Addr} {xs:List Value} {z:Value} (ae:P.underlying t=some (.slice e)) (ah:zeroV P e=some z) (h1:z.oneCell'=true) (V:w.ownsRow B e 1 (.slice a n cp) n xs)
 (E:ev N σ x= .slice (eM a cp k 1) m C) (hm:m=n - k) (hk:k < n) (ai:∀ w',Md (fun q=>(bB a n cp).ownBlock=some q) w w'→w'.ownsRow B e 1 (.slice a n cp) n (xs.take k++iK (n - k) z)→K σ w'):
 cE P N ⟨none,.call ⟨.builtin .clear,#[x],#[t]⟩,ty,pos,af,g⟩ σ w K:=by
 obtain ⟨I,h⟩:=V
 subst hm
 rcases h with ⟨h,rfl⟩ | ⟨c,aj,cur,h,J,O,hle,M,ad,ag⟩
 · omega
 · simp only [lF,true_and] at h
   obtain ⟨rfl,rfl⟩:=h
   have ac:eM (some ⟨c,0,none⟩) cp k 1=some ⟨c,k,none⟩:=by
    unfold eM; rw [if_neg ab]; simp [kH]
   rw [ac] at E
   have A:w.heap[c]? =some (.cells cur.toList.toArray e (0,0)):=by simpa using O
   have i:cur.toList.length=cp*1:=by rw [sD]; exact ad
   have Z:=F1 (P:=P) w t e ty z ae (fun w=>uX ah w) (by cases z <;> first | rfl | (cases h1; done)) h1 c k (n - k) C ab
    (fun j U=>by rw [lQ,aY A]; simp; omega) (fun j U=>by simp only [Ga,show w.heap[c]? =_ from A]; simp)
   obtain ⟨h2,h3⟩:=Ek c e (iK (n - k) z) k cur.toList w A<|by rw [mh,i]; omega
   refine l6 (w':=w.setCells c k<|iK (n - k) z) (v:= .tuple #[]) ?_ (ai _ (h3.mono fun q _ Y=>by subst Y; rfl) ⟨?_,.inr ⟨c,cp,_,aa,J,h2,hle,M,?_,?_⟩⟩)
   · simp [execOp,resolve,invoke,builtin,E,Z]
   · rw [bJ,ec,mh,I]; omega
   · simp only [mi,bJ,ec,fU,mh,i]; omega
   · rw [mh,qU]
     have G:(cur.toList.take k++iK (n - k) z++cur.toList.drop (k+(n - k))).toArray.toList=(cur.toList.take k++iK (n - k) z)++cur.toList.drop (k+(n - k)):=rfl
     rw [G,sY,bJ,ec,mh,i,mY ab,show n - (k+(n - k))=0 by omega,nG,eb,fq (by rw [bJ,ec,mh,i]; omega)]
     rw [← ag,GG,qU,mY ab]
theorem JM {t e B n cp C m:Nat} {a:Option Addr} {xs:List Value} {z:Value} (ag:P.underlying t=some (.slice e)) (ai:zeroV P e=some z) (h1:z.oneCell'=true) (Y:w.ownsRow B e 1 (.slice a n cp) n xs) (M:a≠none)
 (E:ev N σ x= .slice (eM a cp n 1) m C) (hm:0 < m∧n+m≤cp) (aj:∀ w',Md (fun q=>(bB a n cp).ownBlock=some q) w w'→w'.ownsRow B e 1 (.slice a n cp) n xs→K σ w'):
 cE P N ⟨none,.call ⟨.builtin .clear,#[x],#[t]⟩,ty,pos,af,g⟩ σ w K:=by
 obtain ⟨I,h⟩:=Y
 rcases h with ⟨h,rfl⟩ | ⟨c,ak,cur,h,J,U,hle,O,ae,ah⟩
 · simp only [lF] at h; exact absurd h.1 M
 · simp only [lF,true_and] at h
   obtain ⟨rfl,rfl⟩:=h
   have ad:eM (some ⟨c,0,none⟩) cp n 1=some ⟨c,n,none⟩:=by
    unfold eM; rw [if_neg ab]; simp [kH]
   rw [ad] at E
   have A:w.heap[c]? =some (.cells cur.toList.toArray e (0,0)):=by simpa using U
   have i:cur.toList.length=cp*1:=by rw [sD]; exact ae
   have ac:=F1 (P:=P) w t e ty z ag (fun w=>uX ai w) (by cases z <;> first | rfl | (cases h1; done)) h1 c n m C hm.1
    (fun j V=>by rw [lQ,aY A]; simp; omega) (fun j V=>by simp only [Ga,show w.heap[c]? =_ from A]; simp)
   obtain ⟨h2,h3⟩:=Ek c e (iK m z) n cur.toList w A<|by rw [mh,i]; omega
   refine l6 (w':=w.setCells c n<|iK m z) (v:= .tuple #[]) ?_ (aj _ (h3.mono fun q _ Z=>by subst Z; rfl) ⟨I,.inr ⟨c,cp,_,aa,J,h2,hle,O,?_,?_⟩⟩)
   · simp [execOp,resolve,invoke,builtin,E,ac]
   · simp only [mi,bJ,ec,fU,mh,i]; omega
   · rw [mh,qU]
     have G:(cur.toList.take n++iK m z++cur.toList.drop (n+m)).toArray.toList=cur.toList.take n++(iK m z++cur.toList.drop (n+m)):=List.append_assoc _ _ _
     rw [G,sY,ec,i,mY ab,Nat.sub_self,nG,eb,fq (by rw [ec]; omega),← ah,qU]
end
end Go.Hb
end
section
namespace Go.Hb
def vP (P:Program) (t:TypeId):Option (List Value):=
 match P.info? t,P.underlying t with
 | some it,some (.array _ e)=>
   match it.zero,P.info? e with
   | some z,some ie=>if ie.size=1 then some z.cells.toList else none
   | _,_=>none
 | _,_=>none
def r8:List Value→List (Nat×Value)→Option (List Value)
 | a,[]=>some a
 | a,(i,v)::r=>if (v.oneCell' && e8 i a.length)=true then r8 (a.set i v) r else none
theorem PK {a L:List Value} {ps:List (Nat×Value)} (h:r8 a ps=some L):kZ (fun i=>some (i*1,1)) a.toArray ps=some L.toArray:=by
 induction ps generalizing a with
 | nil=>simp only [r8,eZ] at h; subst h; rfl
 | cons q r C=>
   obtain ⟨i,v⟩:=q
   rw [r8] at h
   split at h
   · rename_i c
     simp only [fE] at c
     have A:=nY c.1
     have E:i < a.length:=ot c.2
     simp only [kZ,A,qU]
     rw [if_neg (by simp; omega)]
     have :=C h
     simp only [qU] at this
     rw [← this]
     simp
   · cases h
section
variable {P:Program} {N:Fm} {σ:Nat→Value} {w:World} {dst:Option Nat} {ty:TypeId} {pos :String} {af:Array Edge} {g:Option (Nat×Bool)}
theorem Ap {t:TypeId} {parts:Array (Nat×Operand)} {a L:List Value} {ps:List (Nat×Value)} (h:vP P t=some a) (hp:parts.toList.map (fun q=>(q.1,ev N σ q.2))=ps) (c:r8 a ps=some L):
 (execOp (ev N σ) ⟨dst,.build t parts,ty,pos,af,g⟩).run P w= .ok (.value<|.agg L.toArray) w:=by
 unfold vP at h
 split at h
 · rename_i it n e hi hu
   split at h
   · rename_i z C A he
     split at h
     · rename_i hs
       simp only [eZ] at h
       subst h
       have i:P.built t (parts.map fun q=>(q.1,ev N σ q.2)).toList=some L.toArray:=by
        have :=PK c
        simp only [u7] at this
        simp only [Program.built,hi,hu,A,he,hs,kB,hp]; exact this
       simp [execOp,run_build w t _ _ i]
     · cases h
   · cases h
 · cases h
end
end Go.Hb
end
section
namespace Go.Hb
abbrev bo:Type :=Tx×List Nat
noncomputable def fw (F:aG) (row:List Tx):Except Nat bo:=
 if row.length≠1 then .error 111
 else if (bA<|row.getD 0 []).2.2.2≠0 then .error (bA<|row.getD 0 []).2.2.2
 else if gk (bA<|row.getD 0 []).1=false∨(bA<|row.getD 0 []).1= [] then .error 21
 else if 64 < (bA<|row.getD 0 []).1.length then .error 22
 else if (bA<|row.getD 0 []).2.2.1=false then .ok ((bA<|row.getD 0 []).1,[])
 else match fy F.kind F.aliases (bA<|row.getD 0 []).2.1 with
  | .error e=> .error e
  | .ok set =>if set.all (dS F)=true then .ok ((bA<|row.getD 0 []).1,set) else .error 120
section
variable {F:aG} {row:List Tx}
theorem Lu (h:row.length≠1):fw F row= .error 111:=if_pos h
theorem xi (h:row.length=1) (h1:(bA<|row.getD 0 []).2.2.2≠0):fw F row= .error (bA<|row.getD 0 []).2.2.2:=by
 unfold fw; rw [if_neg (fun h2=>h2 h),if_pos h1]
variable (h:row.length=1) (h1:(bA (row.getD 0 [])).2.2.2=0)
include h h1
theorem BL (h2:gk (bA<|row.getD 0 []).1=false∨(bA<|row.getD 0 []).1= []):fw F row= .error 21:=by
 unfold fw; rw [if_neg (fun h2=>h2 h),if_neg (fun h2=>h2 h1),if_pos h2]
variable (h2:gk (bA (row.getD 0 [])).1=true) (h3:(bA (row.getD 0 [])).1≠[])
include h2 h3
omit h h1 in
theorem rB:¬(gk (bA<|row.getD 0 []).1=false∨(bA<|row.getD 0 []).1= []):=fun h=>h.elim (fun h=>by rw [h2] at h; cases h) h3
theorem Lv (h4:64 < (bA<|row.getD 0 []).1.length):fw F row= .error 22:=by
 unfold fw; rw [if_neg (fun h2=>h2 h),if_neg (fun h2=>h2 h1),if_neg (rB h2 h3),if_pos h4]
variable (h4:¬64 < (bA (row.getD 0 [])).1.length)
include h4
theorem Lw (h5:(bA<|row.getD 0 []).2.2.1=false):fw F row= .ok ((bA<|row.getD 0 []).1,[]):=by
 unfold fw; rw [if_neg (fun h2=>h2 h),if_neg (fun h2=>h2 h1),if_neg (rB h2 h3),if_neg h4,if_pos h5]
variable (h5:(bA (row.getD 0 [])).2.2.1=true)
include h5
theorem Lx {e:Nat} (a:fy F.kind F.aliases (bA<|row.getD 0 []).2.1= .error e):fw F row= .error e:=by
 unfold fw; rw [if_neg (fun h2=>h2 h),if_neg (fun h2=>h2 h1),if_neg (rB h2 h3),if_neg h4,if_neg (by rw [h5]; exact c7),a]
theorem Lz {set :List Nat} {i:Nat} (a:fy F.kind F.aliases (bA<|row.getD 0 []).2.1= .ok set) (hi:i < set.length) (c:dS F (set.getD i 0)=false):fw F row= .error 120:=by
 unfold fw; rw [if_neg (fun h2=>h2 h),if_neg (fun h2=>h2 h1),if_neg (rB h2 h3),if_neg h4,if_neg (by rw [h5]; exact c7),a]
 exact if_neg<|by rw [Af 0 hi c]; exact c7
theorem BM {set :List Nat} (a:fy F.kind F.aliases (bA<|row.getD 0 []).2.1= .ok set) (c:∀ i,i < set.length→dS F (set.getD i 0)=true):fw F row= .ok ((bA<|row.getD 0 []).1,set):=by
 unfold fw; rw [if_neg (fun h2=>h2 h),if_neg (fun h2=>h2 h1),if_neg (rB h2 h3),if_neg h4,if_neg (by rw [h5]; exact c7),a]
 exact if_pos<|Ag 0 c
end
noncomputable def ek (F:aG) (eof:Nat):Nat→List Rw→Except (Nat×Nat) (List bo)
 | 0,[]=> .ok []
 | _+1,[]=> .error (eof,116)
 | 0,(ln,_)::_=> .error (ln,116)
 | n+1,(ln,row)::rows=>match fw F row with
   | .error e=> .error (ln,e)
   | .ok x=>match ek F eof n rows with
     | .error e=> .error e
     | .ok r=> .ok (x::r)
noncomputable def e5 (F:aG) (t:Tx):Except (Nat×Nat) (List bo):=
 if 65536 < t.length then .error (0,10)
 else match et t with
  | []=> .error ((cV t).length+1,116)
  | (ln,row)::rows=>if row.length≠1 then .error (ln,111) else match dZ (row.getD 0 []) 8192 with
    | .error e=> .error (ln,e)
    | .ok n=>ek F ((cV t).length+1) n rows
def gK (F:aG) (eof:Nat) (T:Except (Nat×Nat) (List bo)) (xs:List bo) (n:Nat) (rows:List Rw):Prop :=
 T=match ek F eof n rows with
  | .error e=> .error e
  | .ok r=> .ok<|xs++r
section
variable {F:aG} {eof n ln:Nat} {T:Except (Nat×Nat) (List bo)} {xs:List bo} {rows:List Rw} {row:List Tx}
theorem gK.start:gK F eof (ek F eof n rows) [] n rows:=by
 unfold gK; cases ek F eof n rows <;> rfl
theorem gK.done (h:gK F eof T xs 0 []):T= .ok xs:=by
 unfold gK at h; rw [ek] at h; simpa using h
theorem gK.ends (h:gK F eof T xs n []) (hn:0 < n):T= .error (eof,116):=by
 obtain ⟨m,rfl⟩:∃ m,n=m+1:=⟨n - 1,ab⟩
 unfold gK at h; rw [ek] at h; exact h
theorem gK.more (h:gK F eof T xs 0 ((ln,row)::rows)):T= .error (ln,116):=by
 unfold gK at h; rw [ek] at h; exact h
theorem gK.bad {e:Nat} (h:gK F eof T xs n ((ln,row)::rows)) (hn:0 < n) (he:fw F row= .error e):T= .error (ln,e):=by
 obtain ⟨m,rfl⟩:∃ m,n=m+1:=⟨n - 1,ab⟩
 unfold gK at h; rw [ek,he] at h; exact h
theorem gK.step {x:bo} (h:gK F eof T xs n ((ln,row)::rows)) (hn:0 < n) (he:fw F row= .ok x):gK F eof T (xs++ [x]) (n - 1) rows:=by
 obtain ⟨m,rfl⟩:∃ m,n=m+1:=⟨n - 1,ab⟩
 unfold gK at h ⊢; rw [ek,he] at h
 rw [h,Nat.add_sub_cancel]
 simp only
 cases ek F eof m rows <;> simp
end
section
variable {F:aG} {t:Tx}
theorem Lf (h:65536 < t.length):e5 F t= .error (0,10):=if_pos h
theorem Lg (h:¬65536 < t.length) (h1:et t= []):e5 F t= .error ((cV t).length+1,116):=by
 unfold e5; rw [if_neg h,h1]
variable {ln:Nat} {row:List Tx} {rows:List Rw} (h:¬65536 < t.length) (h1:et t=(ln,row)::rows)
include h h1
theorem Ld (h2:row.length≠1):e5 F t= .error (ln,111):=by
 unfold e5; rw [if_neg h,h1]; exact if_pos h2
theorem Lh (h2:row.length=1) {e:Nat} (h3:dZ (row.getD 0 []) 8192= .error e):e5 F t= .error (ln,e):=by
 unfold e5; rw [if_neg h,h1]; simp only; rw [if_neg (fun h=>h h2),h3]
theorem BH (h2:row.length=1) {n:Nat} (h3:dZ (row.getD 0 []) 8192= .ok n):e5 F t=ek F ((cV t).length+1) n rows:=by
 unfold e5; rw [if_neg h,h1]; simp only; rw [if_neg (fun h=>h h2),h3]
end
theorem MQ {α:Type} {a b:List α} {i:Nat} {d:α} (h:i < a.length):(a++b).getD i d=a.getD i d:=by
 rw [cX,cX,lG h]
def idxs (s:Tx) (xs:List bo):List Nat:=(gH xs.length).filter fun i=>decide ((xs.getD i ([],[])).1=s)
theorem xY (s:Tx) (xs:List bo) (x:bo):idxs s (xs++ [x])=idxs s xs++(if x.1=s then [xs.length] else []):=by
 unfold idxs
 rw [bJ,List.length_singleton,List.range_succ,List.filter_append]
 congr 1
 · refine List.filter_congr fun i hi=> ?_
   have hi:i < xs.length:=by simpa using hi
   rw [MQ hi]
 · by_cases a:x.1=s <;> simp [List.filter,a]
theorem CT (s:Tx) (xs:List bo):(idxs s xs).length≤xs.length:=by
 unfold idxs; have :=vC (fun i=>decide ((xs.getD i ([],[])).1=s)) (gH xs.length); simpa using this
theorem LI {F:aG} {eof:Nat} :∀ {n:Nat} {rows:List Rw} {r:List bo},ek F eof n rows= .ok r→r.length=n∧rows.length=n:=by
 intro n
 induction n with
 | zero=>
   intro rows r h
   cases rows with
   | nil=>rw [ek] at h; cases h; exact ⟨rfl,rfl⟩
   | cons q rows=>rw [ek] at h; cases h
 | succ n a=>
   intro rows r h
   cases rows with
   | nil=>rw [ek] at h; cases h
   | cons q rows=>
     rw [ek] at h
     split at h
     · cases h
     · split at h
       · cases h
       · rename_i h2
         cases h
         have :=a h2
         simp only [bV]; omega
end Go.Hb
end
section
namespace Go.Hb
section
variable {P:Program} {N:Fm} {σ:Nat→Value} {w:World} {dst:Option Nat} {ty:TypeId} {pos :String} {af:Array Edge} {g:Option (Nat×Bool)} {x:Operand}
theorem Hy {t n c b:Nat} (he:oD P t=some (n,c)) (a:ev N σ x= .pointer (some ⟨b,0,none⟩)):
 (execOp (ev N σ) ⟨dst,.slice t x none none none,ty,pos,af,g⟩).run P w= .ok (.value<|.slice (some ⟨b,0,none⟩) n n) w:=by
 unfold oD at he
 cases hd:P.underlying t with
 | none=>rw [hd] at he; cases he
 | some d=>
   rw [hd] at he
   cases d <;> first | (cases he; done) | skip
   rename_i m e
   cases hi:P.info? e with
   | none=>simp [hi] at he
   | some j=>
     simp only [hi,kE,eZ,s5] at he
     obtain ⟨rfl,rfl⟩:=he
     simp [execOp,o8,n9,mT,a,dj hd,sizeOf,gd hi,kH]
def xv (P:Program) (t f:Nat):Option (Nat×Nat):=
 match P.underlying t with
 | some (.struct fs)=>(fs[f]?).map fun d=>(d.type,d.offset)
 | _=>none
theorem Mt {t f c off n:Nat} {cs vs:List Value} (h:xv P t f=some (c,off)) (a:cR P c=some (some n)) (C:ev N σ x= .agg cs.toArray) (A:(cs.drop off).take n=vs):
 (execOp (ev N σ) ⟨dst,.field t x f,ty,pos,af,g⟩).run P w= .ok (.value<|.agg vs.toArray) w:=by
 subst A
 unfold xv at h
 cases hd:P.underlying t with
 | none=>rw [hd] at h; cases h
 | some d=>
   rw [hd] at h
   cases d <;> first | (cases h; done) | skip
   rename_i fs
   simp only [lL] at h
   obtain ⟨fd,q,he⟩:=h
   cases he
   unfold cR at a
   cases hd2:P.underlying fd.type with
   | none=>rw [hd2] at a; cases a
   | some d2=>
     rw [hd2] at a
     cases hi:P.info? fd.type with
     | none=>simp [F3,hi] at hd2
     | some i=>
       rw [hi] at a
       have E:cs.toArray.extract fd.offset (fd.offset+n)=((cs.drop fd.offset).take n).toArray:=by simp
       cases d2 <;> first
        | (cases a; done)
        | (simp only [kE,eZ] at a; subst a
           simp [execOp,FU,dj hd,q,C,asAgg,part,isAgg,dj hd2,sizeOf,gd hi])
end
end Go.Hb
end
namespace Go.Hb
def mL (ps:List Tx) (w:Tx):Bool:=decide (ps.length≤w.length) && (gH ps.length).all fun i=>eI (ps.getD i [])<|w.getD i 0
def rA (ps:List Tx) (w:Tx):Bool:=decide (ps.length≤w.length) && mL ps (w.drop<|w.length - ps.length)
noncomputable def gZ (r:cG) (w:Tx):Bool:=
 decide ((dH r.cond).2=0∧r.strip.length < w.length) &&
  (if r.kind=2 then decide (w.drop (w.length - r.strip.length)=r.strip) && rA (dH r.cond).1 w
   else if r.kind=1 then decide (w.take r.strip.length=r.strip) && mL (dH r.cond).1 w else false)
noncomputable def cQ (r:cG) (w:Tx):Option Tx:=if gZ r w=true then some (if r.kind=2 then w.take (w.length - r.strip.length)++r.add else r.add++w.drop r.strip.length) else none
def di:cG:=⟨0,0,false,[],[],[],[],0⟩
def aT (F:aG) (fs:List Nat) (kind:Nat):List Nat:=(gH F.rules.length).filter fun i=>decide ((F.rules.getD i di).kind=kind∧(F.rules.getD i di).flag∈fs)
def flagsOf (xs:List bo) (e:Int):List Nat:=if 0≤e∧e < xs.length then (xs.getD e.toNat ([],[])).2 else []
def bY (F:aG) (r:Int):List Nat:=if 0≤r∧r < F.rules.length then (F.rules.getD r.toNat di).next else []
def qc (F:aG) (xs:List bo) (e:Int) (k:Nat):Bool:=decide (F.sp.getD k 0≠0∧F.sp.getD k 0∈flagsOf xs e)
def oH (F:aG) (r:Int):Bool:=decide (0≤r∧r < F.rules.length) && !decide (F.sp.getD 0 0≠0∧F.sp.getD 0 0∈bY F r)
structure cJ where
 mM:Tx
 tL:Nat
 fst:Int
 snd:Int
 pre:Int
def my (F:aG) (n:Int):Bool:=decide (n= -1) || (F.rules.getD n.toNat di).fI
def eo (F:aG) (xs:List bo) (e:Nat) (f s p:Int):Bool:=
 if f= -1 then decide (p≠ -1) || !qc F xs e 0
 else if oH F (if s= -1 then f else s)=false then false
 else decide (p= -1) || (my F f && my F s && my F p)
def kI (F:aG) (xs:List bo) (e:Nat) (word:Tx) (f s:Int):List cJ:=if eo F xs e f s (-1)=true then [⟨word,e,f,s,-1⟩] else []
noncomputable def iq (F:aG) (xs:List bo) (e:Nat) (word:Tx) (f s:Int) (p:Nat):Option cJ:=if eo F xs e f s p=true then (cQ (F.rules.getD p di) word).map (fun v=>(⟨v,e,f,s,(p:Int)⟩:cJ)) else none
noncomputable def e0 (F:aG) (xs:List bo) (e:Nat) (word:Tx) (f s:Int):List cJ:=kI F xs e word f s++(aT F (flagsOf xs e) 1).filterMap (iq F xs e word f s)
noncomputable def jN (F:aG) (xs:List bo) (e:Nat) (w:Tx) (s:Int) (z:Nat):List cJ:=match cQ (F.rules.getD z di) w with
 | none=> []
 | some v=>e0 F xs e v s z
noncomputable def gC (F:aG) (xs:List bo) (e:Nat) (s:Nat):List cJ:=match cQ (F.rules.getD s di) (xs.getD e ([],[])).1 with
 | none=> []
 | some w=>e0 F xs e w s (-1)++(aT F (bY F s) 2).flatMap (jN F xs e w s)
noncomputable def eK (F:aG) (xs:List bo) (e:Nat):List cJ:=
 e0 F xs e (xs.getD e ([],[])).1 (-1) (-1)++(aT F (flagsOf xs e) 2).flatMap (gC F xs e)
def ta (q:cG):Prop :=q.strip.length≤32∧q.add.length≤32∧q.cond.length≤4800
structure m5 (F:aG):Prop where
 part:∀ (i:Nat) r,F.rules[i]? =some r→∃ c∈F.bu,c.first≤i∧i < c.first+c.count∧r.flag=c.flag∧r.kind=c.kind
 rl:∀ c∈F.bu,c.first+c.count≤F.rules.length∧∀ i,c.first≤i→i < c.first+c.count→∃ r,F.rules[i]? =some r∧r.flag=c.flag∧r.kind=c.kind
 uniq:(F.bu.map (·.flag)).Nodup
theorem CH {α:Type} {hd:List Tx} {rd:Nat→List Tx→Except Nat α} {eof:Nat} :∀ (n:Nat) (rows:List Rw) (r:List α×List Rw),group hd rd eof n rows= .ok r→∀ x∈r.1,∃ ln row,rd ln row= .ok x:=by
 intro n
 induction n with
 | zero=>intro rows r h; simp only [group,o6] at h; subst h; intro x a; cases a
 | succ n c=>
   intro rows r h
   cases rows with
   | nil=>simp [group] at h
   | cons q rows=>
     obtain ⟨ln,row⟩:=q
     simp only [group] at h
     split at h
     · cases h
     · cases hr:rd ln row with
       | error e=>rw [hr] at h; cases h
       | ok y=>
         rw [hr] at h
         simp only at h
         cases hg:group hd rd eof n rows with
         | error e=>rw [hg] at h; cases h
         | ok i=>
           rw [hg] at h
           simp only [o6] at h
           subst h
           intro x a
           rcases eY.1 a with a | a
           · exact ⟨ln,row,by rw [a]; exact hr⟩
           · exact c rows i hg x a
theorem CO {eof ln:Nat} {F F':aG} {hs:List Tx} {rows rows':List Rw} {row:List Tx} (a:bS eof F hs rows ln row= .ok (F',rows')):
 (F'.aliases=F.aliases∧F'.bu=F.bu∧F'.rules=F.rules)∨
 (F'.bu=F.bu∧F'.rules=F.rules∧∃ l,F'.aliases=F.aliases++l∧∀ x∈l,∃ kd s,jZ kd s= .ok x)∨
 (F'.aliases=F.aliases∧∃ c l,F'.bu=F.bu++ [c]∧F'.rules=F.rules++l∧c.first=F.rules.length∧c.count=l.length∧dS F c.flag=false∧∀ x∈l,∃ ln row,iz F.kind F.aliases c ln row= .ok x):=by
 unfold bS at a
 split at a
 · unfold js at a; split at a <;> cases a; exact .inl ⟨rfl,rfl,rfl⟩
 split at a
 · unfold j5 at a
   split at a
   · cases a
   · split at a <;> cases a; exact .inl ⟨rfl,rfl,rfl⟩
 split at a
 · unfold l0 at a; split at a <;> cases a; exact .inl ⟨rfl,rfl,rfl⟩
 split at a
 · unfold l1 at a; split at a <;> cases a; exact .inl ⟨rfl,rfl,rfl⟩
 split at a
 · unfold j6 at a
   split at a
   · cases a
   · split at a <;> cases a; exact .inl ⟨rfl,rfl,rfl⟩
 split at a
 · unfold j9 at a
   split at a
   · cases a
   · split at a <;> cases a; exact .inl ⟨rfl,rfl,rfl⟩
 split at a
 · unfold jG at a
   split at a
   · cases a
   · split at a
     · cases a
     · split at a
       · cases a
       · rename_i r q
         cases a
         refine .inr<|.inl ⟨aa,aa,r.1,aa,fun x a=> ?_⟩
         obtain ⟨ln,row,h⟩:=CH _ _ _ q x a
         unfold k9 at h
         split at h
         · cases h
         · exact ⟨_,_,h⟩
 · unfold gA at a
   split at a
   · cases a
   · rename_i x i
     split at a
     · cases a
     · split at a
       · cases a
       · split at a
         · cases a
         · split at a
           · cases a
           · rename_i r q
             cases a
             refine .inr<|.inr ⟨aa,_,r.1,aa,aa,aa,(ub _ _ _ q).2.1.symm,?_,fun x a=>CH _ _ _ q x a⟩
             unfold gT at i
             split at i
             · cases i
             · split at i
               · cases i
               · rename_i h; cases i; simpa using h
theorem z1 {Q:aG→Prop} (c:Q gO) (A:∀ (eof ln:Nat) (F F':aG) (hs:List Tx) (rows rows':List Rw) (row:List Tx),Q F→bS eof F hs rows ln row= .ok (F',rows')→Q F') {s:Tx} {F:aG} (h:fu s= .ok F):Q F:=by
 unfold fu at h
 split at h
 · cases h
 · split at h
   · cases h
   · rename_i f i
     split at h
     · cases h
     · cases h
       have key:∀ (k:Nat) (F F':aG) (hs:List Tx) (rows:List Rw) (eof:Nat),Q F→ga eof k F hs rows= .ok F'→Q F':=by
        intro k
        induction k with
        | zero=>intro F F' hs rows eof h a; rw [ga] at a; split at a <;> cases a; exact h
        | succ k E=>
          intro F F' hs rows eof h a
          cases rows with
          | nil=>simp only [ga,o6] at a; exact a ▸ h
          | cons q rows=>
            rw [ga] at a
            split at a
            · cases a
            · split at a
              · cases a
              · split at a
                · cases a
                · split at a
                  · cases a
                  · rename_i r C
                    exact E _ _ _ _ _ (A _ _ _ _ _ _ _ _ h C) a
       exact key _ _ _ _ _ _ c i
def jy (l:List Nat):Prop :=l.Pairwise (· < ·)∧0∉l
theorem MI {kind:Nat} {s:Tx} (a:(ez kind s).2=0):jy (ez kind s).1:=by
 unfold ez at a ⊢
 by_cases h1:s= []
 · rw [if_pos h1] at a; cases a
 · rw [if_neg h1] at a ⊢
   by_cases h2:∃ x∈dW kind s,ei kind x=0
   · rw [if_pos h2] at a; cases a
   · rw [if_neg h2] at a ⊢
     by_cases h3:64 < (dW kind s).length
     · rw [if_pos h3] at a; cases a
     · rw [if_neg h3]
       refine ⟨yu _,fun h4=> ?_⟩
       rw [yt,lH] at h4
       exact h2 h4
theorem Cw {kind:Nat} {s:Tx} {l:List Nat} (h:jZ kind s= .ok l):jy l:=by
 unfold jZ at h
 split at h
 · cases h
 · rename_i a
   cases h
   exact MI<|Classical.not_not.1 a
def pD (F:aG):Prop :=(∀ l∈F.aliases,jy l)∧∀ q∈F.rules,jy q.next∧ta q
theorem B7 {w:Tx} (h:¬gl w≠0):w.length≤32:=by
 unfold gl at h
 split at h
 · exact absurd aw h
 · split at h
   · exact absurd aw h
   · omega
theorem Pz {b:Bool} {fd p:Tx} (h:fk b fd= .ok p):p.length≤32:=by
 unfold fk at h
 split at h
 · cases h; exact qV _
 · split at h
   · cases h
   · split at h
     · cases h
     · split at h
       · cases h
       · rename_i a; cases h; exact B7 a
theorem G3 {r:kF} {p:Tx} (h:kg r= .ok p):p.length≤32:=by
 unfold kg at h
 split at h
 · cases h
 · split at h
   · cases h; exact qV _
   · split at h
     · cases h
     · rename_i a; cases h; exact B7 a
theorem Bl (s:Tx):(dH s).1.length≤16:=by
 unfold dH
 split
 · simp
 · split
   · simp
   · split
     · simp
     · split
       · simp
       · simp only; omega
theorem Qx:∀ {ps:List Tx},ps.length≤16→(n2 ps).length≤4800:=by
 have key:∀ ps:List Tx,(ps.flatMap fun t=>kv<|eI t).length≤ps.length*300:=by
  intro ps
  induction ps with
  | nil=>exact qV _
  | cons t ps a=>
    have :=Em<|eI t
    rw [jw,bJ,bV]; omega
 intro ps h
 unfold n2
 split
 · simp
 · have :=key ps; omega
theorem Kg {row:List Tx} {c:Tx} (h:lh row= .ok c):c.length≤4800:=by
 unfold lh at h
 split at h
 · split at h
   · cases h
   · split at h
     · cases h
     · cases h; exact Qx<|Bl _
 · cases h; simp
theorem rR:jy []:=⟨.nil,sW⟩
theorem Cd {kind:Nat} {al:List (List Nat)} {s:Tx} {l:List Nat} (a:∀ l∈al,jy l) (h:fy kind al s= .ok l):jy l:=by
 unfold fy at h
 split at h
 · exact Cw h
 · split at h
   · cases h
   · split at h
     · cases h
     · cases h
       rename_i n _ _
       rw [cX]
       cases hg:al[n - 1]? with
       | none=>exact rR
       | some x=>exact a x<|gV hg
theorem yK {kind ln:Nat} {al:List (List Nat)} {c:dz} {row:List Tx} {q:cG} (A:∀ l∈al,jy l) (h:iz kind al c ln row= .ok q):(jy q.next∧ta q)∧q.flag=c.flag∧q.kind=c.kind∧q.fI=c.fI:=by
 unfold iz at h
 split at h
 · cases h
 · split at h
   · cases h
   · rename_i hp
     split at h
     · cases h
     · rename_i i
       split at h
       · cases h
       · rename_i nx a
         split at h
         · cases h
         · rename_i C
           cases h
           refine ⟨⟨?_,Pz hp,G3 i,Kg C⟩,aa,aa,aa⟩
           unfold lY at a
           split at a
           · split at a
             · cases a
             · exact Cd A a
           · cases a; exact rR
theorem xw {cs:List dz} {x:Nat} (h:(dx cs x).isSome=false):∀ c∈cs,c.flag≠x:=fun c a i=>by
 unfold dx at h
 have h1:cs.find? (fun c=>decide (c.flag=x))=none:=by
  cases h2:cs.find? (fun c=>decide (c.flag=x)) with
  | none=>rfl
  | some y=>rw [h2] at h; cases h
 have :=List.find?_eq_none.1 h1 c a
 simp [i] at this
theorem vI {s:Tx} {F:aG} (h:fu s= .ok F):pD F∧m5 F:=by
 refine z1 (Q:=fun F=>pD F∧m5 F) ⟨⟨fun l U=>(by cases U),fun l U=>by cases U⟩,⟨fun i r h=>(by cases h),fun c h=>(by cases h),.nil⟩⟩ ?_ h
 rintro eof ln F F' hs rows rows' row ⟨C,E⟩ q
 refine ⟨?_,?_⟩
 · rcases CO q with ⟨h1,_,h3⟩ | ⟨_,h2,l,h3,h4⟩ | ⟨h1,c,l,_,h3,_,_,_,h4⟩
   · exact ⟨h1 ▸ C.1,h3 ▸ C.2⟩
   · refine ⟨fun x q=> ?_,h2 ▸ C.2⟩
     rw [h3] at q
     rcases mX.1 q with q | q
     · exact C.1 x q
     · obtain ⟨_,_,h⟩:=h4 x q; exact Cw h
   · refine ⟨h1 ▸ C.1,fun x q=> ?_⟩
     rw [h3] at q
     rcases mX.1 q with q | q
     · exact C.2 x q
     · obtain ⟨_,_,h⟩:=h4 x q; exact (yK C.1 h).1
 · rcases CO q with ⟨_,h2,h3⟩ | ⟨h2,h3,_⟩ | ⟨_,c,l,h2,h3,h4,h5,O,Z⟩
   · exact ⟨by rw [h2,h3]; exact E.part,by rw [h2,h3]; exact E.rl,by rw [h2]; exact E.uniq⟩
   · exact ⟨by rw [h2,h3]; exact E.part,by rw [h2,h3]; exact E.rl,by rw [h2]; exact E.uniq⟩
   · have V:∀ i,F.rules.length≤i→i < F.rules.length+l.length→∃ r,F'.rules[i]? =some r∧r.flag=c.flag∧r.kind=c.kind:=fun i G J=>by
      have A:i - F.rules.length < l.length:=ab
      refine ⟨l[i - F.rules.length],?_,?_⟩
      · rw [h3,me G,cj A]
      · obtain ⟨_,_,h⟩:=Z _ (List.getElem_mem A); exact ⟨(yK C.1 h).2.1,(yK C.1 h).2.2.1⟩
     refine ⟨fun i r G=> ?_,fun d hd=> ?_,?_⟩
     · by_cases J:i < F.rules.length
       · rw [h3,lG J] at G
         obtain ⟨d,hd,A⟩:=E.part i r G
         exact ⟨d,by rw [h2]; exact List.mem_append_left _ hd,A⟩
       · have A:i < F.rules.length+l.length:=by
          have :=(eH.1 G).1; rw [h3,bJ] at this; exact this
         obtain ⟨ae,I,M⟩:=V i ab A
         rw [G] at I; cases I
         exact ⟨c,by rw [h2]; exact List.mem_append_right _ (lI.2 aa),ab,ab,M⟩
     · rw [h2] at hd
       rcases mX.1 hd with hd | hd
       · obtain ⟨G,J⟩:=E.rl d hd
         refine ⟨by rw [h3,bJ]; omega,fun i A I=> ?_⟩
         obtain ⟨r,M,Y⟩:=J i A I
         exact ⟨r,by rw [h3,lG ab]; exact M,Y⟩
       · obtain rfl :=lI.1 hd
         refine ⟨by rw [h3,bJ]; omega,fun i A I=>V i ab ab⟩
     · rw [h2,iJ,zP]
       refine ⟨E.uniq,by simp,fun a ac b ad=> ?_⟩
       obtain ⟨d,hd,rfl⟩:=lH.1 ac
       obtain rfl :b=c.flag:=by simpa using ad
       unfold dS at O
       rw [n8] at O
       exact xw O.2 d hd
theorem Ly {F:aG} {row:List Tx} {x:bo} (a:pD F) (h:fw F row= .ok x):jy x.2:=by
 unfold fw at h
 split at h
 · cases h
 · split at h
   · cases h
   · split at h
     · cases h
     · split at h
       · cases h
       · split at h
         · cases h; exact rR
         · split at h
           · cases h
           · rename_i set hs
             split at h
             · cases h; exact Cd a.1 hs
             · cases h
theorem LH {F:aG} (i:pD F) {eof:Nat} :∀ {n:Nat} {rows:List Rw} {r:List bo},ek F eof n rows= .ok r→∀ x∈r,jy x.2:=by
 intro n
 induction n with
 | zero=>
   intro rows r h
   cases rows with
   | nil=>rw [ek] at h; cases h; intro x a; cases a
   | cons q rows=>rw [ek] at h; cases h
 | succ n A=>
   intro rows r h
   cases rows with
   | nil=>rw [ek] at h; cases h
   | cons q rows=>
     rw [ek] at h
     split at h
     · cases h
     · rename_i x a
       split at h
       · cases h
       · rename_i h2
         cases h
         intro y c
         rcases eY.1 c with rfl | c
         · exact Ly i a
         · exact A h2 y c
theorem Le {F:aG} (a:pD F) {t:Tx} {xs:List bo} (h:e5 F t= .ok xs):∀ x∈xs,jy x.2:=by
 unfold e5 at h
 split at h
 · cases h
 · split at h
   · cases h
   · split at h
     · cases h
     · split at h
       · cases h
       · exact LH a h
theorem LA {F:aG} {row:List Tx} {x:bo} (h:fw F row= .ok x):1≤x.1.length:=by
 unfold fw at h
 split at h
 · cases h
 · split at h
   · cases h
   · split at h
     · cases h
     · rename_i c
       have h1:1≤(bA<|row.getD 0 []).1.length:=by
        rcases Nat.eq_zero_or_pos (bA<|row.getD 0 []).1.length with a | a
        · exact absurd (Or.inr<|gr a) c
        · exact a
       split at h
       · cases h
       · split at h
         · cases h; exact h1
         · split at h
           · cases h
           · split at h
             · cases h; exact h1
             · cases h
theorem LJ {F:aG} {eof:Nat} :∀ {n:Nat} {rows:List Rw} {r:List bo},ek F eof n rows= .ok r→∀ x∈r,1≤x.1.length:=by
 intro n
 induction n with
 | zero=>
   intro rows r h
   cases rows with
   | nil=>rw [ek] at h; cases h; intro x a; cases a
   | cons q rows=>rw [ek] at h; cases h
 | succ n i=>
   intro rows r h
   cases rows with
   | nil=>rw [ek] at h; cases h
   | cons q rows=>
     rw [ek] at h
     split at h
     · cases h
     · rename_i x a
       split at h
       · cases h
       · rename_i h2
         cases h
         intro y c
         rcases eY.1 c with rfl | c
         · exact LA a
         · exact i h2 y c
theorem Li {F:aG} {t:Tx} {xs:List bo} (h:e5 F t= .ok xs):∀ x∈xs,1≤x.1.length:=by
 unfold e5 at h
 split at h
 · cases h
 · split at h
   · cases h
   · split at h
     · cases h
     · split at h
       · cases h
       · exact LJ h
theorem oS {F:aG} {fs:List Nat} {k i:Nat} :i∈aT F fs k↔i < F.rules.length∧(F.rules.getD i di).kind=k∧(F.rules.getD i di).flag∈fs:=by
 unfold aT; simp
theorem Dy (F:aG) (fs:List Nat) (k:Nat):(aT F fs k).Pairwise (· < ·):=Sz _ GB
theorem rZ (F:aG) (fs:List Nat) (k:Nat):(aT F fs k).length≤F.rules.length:=by
 unfold aT; have :=vC (fun i=>decide ((F.rules.getD i di).kind=k∧(F.rules.getD i di).flag∈fs)) (gH F.rules.length); simpa using this
def fg (F:aG) (k f:Nat):List Nat:=match dx F.bu f with
 | some c=>if c.kind=k then (gH c.count).map (c.first+ ·) else []
 | none=> []
theorem B4 {cs:List dz} {x:Nat} {c:dz} (h:dx cs x=some c):c∈cs∧c.flag=x:=⟨List.mem_of_find?_eq_some h,by simpa using List.find?_some h⟩
theorem L8:∀ {cs:List dz},(cs.map (·.flag)).Nodup→∀ c∈cs,dx cs c.flag=some c:=by
 intro cs
 induction cs with
 | nil=>intro _ c h; cases h
 | cons d cs q=>
   intro h c a
   rw [nD,List.nodup_cons] at h
   unfold dx
   rw [List.find?_cons]
   rcases eY.1 a with rfl | a
   · simp
   · have i:¬d.flag=c.flag:=fun h2=>h.1<|lH.2 ⟨c,a,h2.symm⟩
     rw [decide_eq_false i]
     exact q h.2 c a
theorem ue {F:aG} (a:m5 F) {k f i:Nat} :i∈fg F k f↔i < F.rules.length∧(F.rules.getD i di).kind=k∧(F.rules.getD i di).flag=f:=by
 unfold fg
 constructor
 · intro h
   split at h
   · rename_i c q
     split at h
     · rename_i hk
       obtain ⟨j,I,rfl⟩:=lH.1 h
       rw [sV] at I
       have h1:=B4 q
       obtain ⟨h2,h3⟩:=a.rl c h1.1
       obtain ⟨r,h4,h5,A⟩:=h3 (c.first+j) ab ab
       refine ⟨ab,?_⟩
       rw [cX,h4]
       exact ⟨A.trans hk,h5.trans h1.2⟩
     · cases h
   · cases h
 · rintro ⟨h1,h2,h3⟩
   have h4:F.rules[i]? =some (F.rules.getD i di):=by rw [cX,cj h1]; rfl
   obtain ⟨c,q,h5,A,E,G⟩:=a.part i _ h4
   have C:=L8 a.uniq c q
   rw [← E,h3] at C
   rw [C]
   simp only
   rw [if_pos (G.symm.trans h2)]
   exact lH.2 ⟨i - c.first,sV.2 ab,ab⟩
theorem JN (F:aG) (k f:Nat):(fg F k f).Nodup:=by
 unfold fg
 split
 · split
   · rw [List.Nodup,GC]
     exact SA (fun h=>by omega) GB
   · exact .nil
 · exact .nil
theorem Dw {F:aG} (c:m5 F) {k:Nat} :∀ {fs:List Nat},fs.Pairwise (· < ·)→(fs.flatMap<|fg F k).Nodup∧∀ i,i∈fs.flatMap (fg F k)↔i∈aT F fs k:=by
 intro fs h
 refine ⟨?_,fun i=> ?_⟩
 · induction fs with
   | nil=>exact .nil
   | cons f fs I=>
     rw [List.pairwise_cons] at h
     rw [jw,zP]
     refine ⟨JN F k f,I h.2,fun a A b q C=> ?_⟩
     subst C
     obtain ⟨g,G,q⟩:=qP.1 q
     have h1:=(ue c).1 A
     have h2:=(ue c).1 q
     have :=h.1 g G
     omega
 · rw [qP,oS]
   constructor
   · rintro ⟨f,E,hi⟩
     have h1:=(ue c).1 hi
     exact ⟨h1.1,h1.2.1,h1.2.2 ▸ E⟩
   · rintro ⟨h1,h2,h3⟩
     exact ⟨_,h3,(ue c).2 ⟨h1,h2,aa⟩⟩
theorem QH {F:aG} (A:m5 F) {fs:List Nat} (h:fs.Pairwise (· < ·)) (k:Nat):((fs.flatMap<|fg F k).map fun i:Nat=>(i:Int)).mergeSort (fun x y=>decide (x≤y))=(aT F fs k).map fun i:Nat=>(i:Int):=by
 obtain ⟨h1,h2⟩:=Dw A (k:=k) h
 have hn:=Dy F fs k
 have hp:=(List.mergeSort_perm ((fs.flatMap<|fg F k).map fun i:Nat=>(i:Int)) fun x y=>decide (x≤y)).trans<|((List.perm_ext_iff_of_nodup h1<|hn.imp fun h=>by omega).2 h2).map _
 refine List.Perm.eq_of_pairwise (le:=fun x y:Int=>decide (x≤y)=true) ?_ (List.pairwise_mergeSort ?_ ?_ _) ?_ hp
 · intro a b _ _ h q; have :=of_decide_eq_true h; have :=of_decide_eq_true q; omega
 · intro a b c h q; have :=of_decide_eq_true h; have :=of_decide_eq_true q; exact decide_eq_true ab
 · intro a b; simp only [Bool.or_eq_true,decide_eq_true_eq]; omega
 · rw [GC]; exact hn.imp fun h=>decide_eq_true ab
def Au (l:List cJ):Nat:=(l.map fun d=>d.mM.length).sum
theorem Hu {r:cG} {w v:Tx} (h:cQ r w=some v):r.strip.length < w.length∧v=(if r.kind=2 then w.take (w.length - r.strip.length)++r.add else r.add++w.drop r.strip.length):=by
 unfold cQ at h
 split at h
 · rename_i a
   unfold gZ at a
   rw [fE,decide_eq_true_eq] at a
   cases h
   exact ⟨a.1.2,aa⟩
 · cases h
theorem tq {r:cG} {w v:Tx} (a:r.add.length≤32) (h:cQ r w=some v):1≤v.length∧v.length≤w.length+32:=by
 obtain ⟨h1,rfl⟩:=Hu h
 split
 · rw [bJ,ec]; omega
 · rw [bJ,fU]; omega
def lu (n:Nat):List Int:=(-1)::(gH n).map fun i:Nat=>(i:Int)
noncomputable def eU (F:aG) (L:List Nat) (n:Int) (w:Tx):Option Tx:=if n= -1 then some w else if n.toNat∈L then cQ (F.rules.getD n.toNat di) w else none
noncomputable def iw (F:aG) (xs:List bo) (e:Nat) (f s p:Int):Option Tx:=
 if f= -1∧s≠ -1 then none
 else (eU F (aT F (flagsOf xs e) 2) f (xs.getD e ([],[])).1).bind fun w=>(eU F (aT F (bY F f) 2) s w).bind fun v=>(eU F (aT F (flagsOf xs e) 1) p v).bind fun u=>
  if eo F xs e f s p=true then some u else none
noncomputable def oJ (F:aG) (xs:List bo) (e:Nat) (f s:Int):List cJ:=(lu F.rules.length).filterMap fun p=>(iw F xs e f s p).map fun u=>(⟨u,e,f,s,p⟩:cJ)
noncomputable def rE (F:aG) (xs:List bo) (e:Nat) (f:Int):List cJ:=(lu F.rules.length).flatMap<|oJ F xs e f
theorem L4 {α β:Type} {l:List α} {f:α→Option β} (h:∀ x∈l,f x=none):l.filterMap f= []:=by
 induction l with
 | nil=>rfl
 | cons x l c=>rw [vy,h x (pn ..)]; exact c fun y a=>h y<|oq _ a
theorem xz {α β:Type} {l:List α} {f:α→List β} (h:∀ x∈l,f x= []):l.flatMap f= []:=by
 induction l with
 | nil=>rfl
 | cons x l c=>rw [jw,h x (pn ..),lJ]; exact c fun y a=>h y<|oq _ a
theorem B2 {α β:Type} (q:α→Bool) (f:α→List β):∀ l:List α,(l.filter q).flatMap f=l.flatMap fun x=>if q x=true then f x else []:=by
 intro l
 induction l with
 | nil=>rfl
 | cons x l a=>
   by_cases h:q x=true
   · rw [List.filter_cons_of_pos h,jw,jw,if_pos h,a]
   · rw [List.filter_cons_of_neg h,jw,if_neg h,a]; rfl
theorem Cg {α β:Type} {f g:α→List β} :∀ {l:List α},(∀ x∈l,f x=g x)→l.flatMap f=l.flatMap g:=by
 intro l h
 induction l with
 | nil=>rfl
 | cons x l c=>rw [jw,jw,h x (pn ..),c fun y a=>h y (oq _ a)]
theorem L2 {α β:Type} {f g:α→Option β} :∀ {l:List α},(∀ x∈l,f x=g x)→l.filterMap f=l.filterMap g:=by
 intro l h
 induction l with
 | nil=>rfl
 | cons x l c=>rw [vy,vy,h x (pn ..),c fun y a=>h y (oq _ a)]
theorem yh {F:aG} {fs:List Nat} {k i:Nat} (h:i < F.rules.length):decide ((F.rules.getD i di).kind=k∧(F.rules.getD i di).flag∈fs)=decide (i∈aT F fs k):=by
 rw [decide_eq_decide,oS]; exact ⟨fun h2=>⟨h,h2⟩,fun h2=>h2.2⟩
theorem o3 {F:aG} {L:List Nat} (i:Nat) (w:Tx):eU F L (i:Int) w=if i∈L then cQ (F.rules.getD i di) w else none:=by
 unfold eU; rw [if_neg ab,Int.toNat_natCast]
theorem ss {F:aG} {L:List Nat} (w:Tx):eU F L (-1) w=some w:=by unfold eU; rw [if_pos rfl]
theorem xk {F:aG} {xs:List bo} {e:Nat} {f s:Int} {v:Tx} (h:∀ p,iw F xs e f s p=(eU F (aT F (flagsOf xs e) 1) p v).bind fun u=>if eo F xs e f s p=true then some u else none):oJ F xs e f s=e0 F xs e v f s:=by
 unfold oJ lu e0
 rw [vy,List.filterMap_map]
 have h1:(iw F xs e f s<|-1).map (fun u=>(⟨u,e,f,s,-1⟩:cJ))=if eo F xs e f s (-1)=true then some ⟨v,e,f,s,-1⟩ else none:=by
  rw [h,ss,mj]; split <;> rfl
 have h2:(gH F.rules.length).filterMap ((fun p=>(iw F xs e f s p).map fun u=>(⟨u,e,f,s,p⟩:cJ))∘fun i:Nat=>(i:Int))=(aT F (flagsOf xs e) 1).filterMap (iq F xs e v f s):=by
  have h3:aT F (flagsOf xs e) 1=(gH F.rules.length).filter fun i=>decide ((F.rules.getD i di).kind=1∧(F.rules.getD i di).flag∈flagsOf xs e):=rfl
  rw [h3,List.filterMap_filter]
  refine L2 fun i hi=> ?_
  have hi:i < F.rules.length:=by simpa using hi
  rw [yh hi]
  show (iw F xs e f s (i:Int)).map _=_
  rw [h,o3]
  unfold iq
  by_cases h4:i∈aT F (flagsOf xs e) 1
  · rw [if_pos h4,if_pos (decide_eq_true h4)]
    cases cQ (F.rules.getD i di) v with
    | none=>simp
    | some u=>simp only [mj]; split <;> rfl
  · rw [if_neg h4,if_neg (by rw [decide_eq_false h4]; exact c7)]; rfl
 rw [h1,h2]
 unfold kI
 split
 · rename_i h3; split at h3
   · cases h3
   · rename_i h4; rw [if_neg h4]; rfl
 · rename_i x h3; split at h3
   · rename_i h4; cases h3; rw [if_pos h4]; rfl
   · cases h3
theorem rD {F:aG} {xs:List bo} {e:Nat} {f s:Int} (h:∀ p,iw F xs e f s p=none):oJ F xs e f s= []:=L4 fun p _=>by rw [h p]; rfl
theorem BE (F:aG) (xs:List bo) (e:Nat):eK F xs e=(lu F.rules.length).flatMap (rE F xs e):=by
 unfold lu
 rw [jw,Gk]
 unfold eK
 congr 1
 · unfold rE lu
   rw [jw,xz,eb,xk (v:=(xs.getD e ([],[])).1)]
   · intro p; unfold iw; rw [if_neg (fun h=>h.2 rfl),ss,mj,ss,mj]
   · intro s hs
     obtain ⟨j,_,rfl⟩:=lH.1 hs
     exact rD fun p=>by unfold iw; rw [if_pos ⟨aa,ab⟩]
 · have h3:aT F (flagsOf xs e) 2=(gH F.rules.length).filter fun i=>decide ((F.rules.getD i di).kind=2∧(F.rules.getD i di).flag∈flagsOf xs e):=rfl
   conv =>lhs; rw [h3]
   rw [B2]
   refine Cg fun i hi=> ?_
   have hi:i < F.rules.length:=by simpa using hi
   rw [yh hi]
   have hm:∀ s p,iw F xs e (i:Int) s p=(eU F (aT F (flagsOf xs e) 2) (i:Int) (xs.getD e ([],[])).1).bind fun w=>(eU F (aT F (bY F (i:Int)) 2) s w).bind fun v=>(eU F (aT F (flagsOf xs e) 1) p v).bind fun u=>
    if eo F xs e (i:Int) s p=true then some u else none:=fun s p=>by unfold iw; rw [if_neg (fun h=>by have :=h.1; omega)]
   by_cases h4:i∈aT F (flagsOf xs e) 2
   · rw [if_pos (decide_eq_true h4)]
     unfold gC
     cases h5:cQ (F.rules.getD i di) (xs.getD e ([],[])).1 with
     | none=>
       have :∀ s p,iw F xs e (i:Int) s p=none:=fun s p=>by rw [hm,o3,if_pos h4,h5]; rfl
       exact (xz fun s _=>rD fun p=>this s p).symm
     | some w=>
       have c:∀ s p,iw F xs e (i:Int) s p=(eU F (aT F (bY F (i:Int)) 2) s w).bind fun v=>(eU F (aT F (flagsOf xs e) 1) p v).bind fun u=>if eo F xs e (i:Int) s p=true then some u else none:=fun s p=>by rw [hm,o3,if_pos h4,h5]; rfl
       simp only
       unfold rE lu
       rw [jw,Gk,xk (v:=w) fun p=>by rw [c,ss]; rfl]
       congr 1
       have A:aT F (bY F (i:Int)) 2=(gH F.rules.length).filter fun z=>decide ((F.rules.getD z di).kind=2∧(F.rules.getD z di).flag∈bY F (i:Int)):=rfl
       conv =>lhs; rw [A]
       rw [B2]
       refine Cg fun z q=> ?_
       have q:z < F.rules.length:=by simpa using q
       rw [yh q]
       by_cases a:z∈aT F (bY F (i:Int)) 2
       · rw [if_pos (decide_eq_true a)]
         unfold jN
         cases h8:cQ (F.rules.getD z di) w with
         | none=>exact (rD fun p=>by rw [c,o3,if_pos a,h8]; rfl).symm
         | some v=>exact (xk (v:=v) fun p=>by rw [c,o3,if_pos a,h8]; rfl).symm
       · rw [if_neg (by rw [decide_eq_false a]; exact c7)]
         exact (rD fun p=>by rw [c,o3,if_neg a]; rfl).symm
   · rw [if_neg (by rw [decide_eq_false h4]; exact c7)]
     exact (xz fun s _=>rD fun p=>by rw [hm,o3,if_neg h4]; rfl).symm
end Go.Hb
section
namespace Go.Hb
structure Gw (B:Nat) (fp:Nat→Prop) (w:World) (fp':Nat→Prop) (w':World):Prop where
 sub:∀ k,fp' k→fp k∨w.heap.size≤k
 dO:∀ (k:Nat) (cs:Array Value) (e:Nat) (z:Nat×Nat),B≤k→¬fp k→w.heap[k]? =some (.cells cs e z)→w'.heap[k]? =some (.cells cs e z)
 size:w.heap.size≤w'.heap.size
section
variable {B B':Nat} {fp fp' fp'':Nat→Prop} {w w' w'':World}
theorem Gw.trans (h:Gw B fp w fp' w') (a:Gw B fp' w' fp'' w''):Gw B fp w fp'' w'':=
 ⟨fun k hk=>(a.sub k hk).elim (h.sub k) (fun h2=> .inr<|e9 h.size h2),
  fun k cs e z c hn hk=>a.dO k cs e z c (fun h2=>(h.sub k h2).elim hn fun h3=>by have :=(cy.1 hk).1; omega) (h.dO k cs e z c hn hk),e9 h.size a.size⟩
theorem Gw.mono (h:Gw B fp w fp' w') (a:B≤B'):Gw B' fp w fp' w':=⟨h.sub,fun k cs e z hk=>h.dO k cs e z (e9 a hk),h.size⟩
theorem Gw.md {G:Nat→Prop} (hm:Md G w w') (a:∀ k,G k→fp k∨k < B) (hs:∀ k,fp' k→fp k∨w.heap.size≤k):Gw B fp w fp' w':=
 ⟨hs,fun k cs e z c hn hk=>by rw [hm.dO k (cy.1 hk).1 (fun h=>(a k h).elim hn fun h2=>by omega)]; exact hk,hm.size⟩
theorem Gw.wk (hm:Wk w w'):Gw B fp w fp w':=Gw.md hm (fun _ h=>h.elim) fun _ h=> .inl h
theorem Gw.own {e size n:Nat} {v:Value} {xs:List Value} (h:Gw B fp w fp' w') (a:w.ownsRow B e size v n xs) (i:∀ k,v.ownBlock=some k→¬fp k):w'.ownsRow B e size v n xs∧∀ k,v.ownBlock=some k→¬fp' k:=by
 refine ⟨⟨a.1,?_⟩,fun k hk h2=>(h.sub k h2).elim (i k hk) fun h3=>by have :=(dd a hk).2; omega⟩
 rcases a.2 with h1 | ⟨g,cap,cur,q,c,A,h1⟩
 · exact .inl h1
 · exact .inr ⟨g,cap,cur,q,c,h.dO g cur e (0,0) c (i g<|by rw [q]; rfl) A,h1⟩
theorem Gw.aB {k e:Nat} {cs:Array Value} {z:Nat×Nat} (h:Gw B fp w fp' w') (hk:w.heap[k]? =some (.cells cs e z)) (c:B≤k) (a:¬fp k):w'.heap[k]? =some (.cells cs e z)∧¬fp' k:=
 ⟨h.dO k cs e z c a hk,fun h2=>(h.sub k h2).elim a fun h3=>by have :=(cy.1 hk).1; omega⟩
end
def vH {α:Type} (B:Nat) (a:List α→(Nat→Prop)→World→Prop):Prop := ∀ pre fp W W' (F:Nat→Prop),a pre fp W→Md F W W'→(∀ k,F k→B≤k∧∀ cur e z,W.heap[k]? =some (.cells cur e z)→¬fp k)→a pre fp W'
section
variable {F fp:Nat→Prop} {W W':World} {B:Nat}
theorem jO {b e:Nat} {cs:Array Value} {z:Nat×Nat} (h:W.heap[b]? =some (.cells cs e z)) (hm:Md F W W') (c:b < B) (a:∀ k,F k→B≤k∧∀ cur e z,W.heap[k]? =some (.cells cur e z)→¬fp k):W'.heap[b]? =some (.cells cs e z):=by
 rw [hm.dO b (cy.1 h).1 (fun hk=>by have :=(a b hk).1; omega)]; exact h
theorem uK {B' e size n:Nat} {v:Value} {xs:List Value} (h:W.ownsRow B' e size v n xs) (hm:Md F W W') (q:∀ k,v.ownBlock=some k→fp k) (a:∀ k,F k→B≤k∧∀ cur e z,W.heap[k]? =some (.cells cur e z)→¬fp k):W'.ownsRow B' e size v n xs:=
 cx h hm fun k hk c=>by
  rcases h.2 with ⟨rfl,_⟩ | ⟨g,cap,A,rfl,_,i,_⟩
  · simp [fT] at hk
  · simp only [fT,eZ] at hk; subst hk; exact (a _ c).2 _ _ _ i<|q _ rfl
theorem uL {w:World} (h:Wk w W) (hm:Md F W W') (i:w.heap.size≤B) (a:∀ k,F k→B≤k∧∀ cur e z,W.heap[k]? =some (.cells cur e z)→¬fp k):Wk w W':=Md.trans' h hm fun k hk c=>by have :=(a k c).1; omega
end
def GX {α:Type} (B:Nat) (a:Bool→List α→(Nat→Prop)→World→Prop):Prop := ∀ b pre fp W W' (F:Nat→Prop),a b pre fp W→Md F W W'→(∀ k,F k→B≤k∧¬fp k∧∃ cs e z,W.heap[k]? =some (.cells cs e z))→a b pre fp W'
structure Yc {α:Type} (P:Program) (l B:Nat) (encs:α→Array Value) (xs:List α) (Cap:World→Prop) (J:Bool→List α→(Nat→Prop)→World→Prop):Prop where
 cap:∀ b pre fp W,J b pre fp W→Cap W
 lt:∀ b pre fp W,J b pre fp W→∀ k,fp k→k < W.heap.size
 st:GX B J
 yl:∀ pre x rest fp W1,xs=pre++x::rest→J true pre fp W1→YieldAt gq 0 P l (encs x) W1 fun e W'=> ∃ b,e= .returned (.bool b)∧∃ fp',J b (pre++ [x]) fp' W'∧Gw B fp W1 fp' W'
theorem Yc.wk {α:Type} {P:Program} {l B:Nat} {i:α→Array Value} {xs:List α} {c:World→Prop} {a:Bool→List α→(Nat→Prop)→World→Prop} (h:Yc P l B i xs c a) {b:Bool} {pre:List α} {fp:Nat→Prop} {W W':World} (q:a b pre fp W) (hm:Wk W W'):a b pre fp W':=
 h.st _ _ _ _ _ _ q hm fun _ hk=>hk.elim
theorem Gw.Dp {B:Nat} {fp fp':Nat→Prop} {w a w':World} (h:Gw B fp w fp' a) {G:Nat→Prop} (hm:Md G a w') (i:∀ k,G k→w.heap.size≤k):Gw B fp w fp' w':=
 ⟨h.sub,fun k cs e z c hn hk=>by
  have h1:=(cy.1 hk).1
  rw [hm.dO k (Nat.lt_of_lt_of_le h1 h.size) (fun h2=>by have :=i k h2; omega)]; exact h.dO k cs e z c hn hk,e9 h.size hm.size⟩
theorem Yc.r9 {α:Type} {P:Program} {l B:Nat} {A:α→Array Value} {i:List α} {c:World→Prop} {a:Bool→List α→(Nat→Prop)→World→Prop} (h:Yc P l B A i c a) {b:Bool} {pre:List α} {fp:Nat→Prop} {W W':World} (E:a b pre fp W) {k e:Nat} {cs:Array Value} {z:Nat×Nat} (hk:W.heap[k]? =some (.cells cs e z)) (C:B≤k) (G:¬fp k) (hm:Md (fun q=>q=k) W W'):a b pre fp W':=
 h.st _ _ _ _ _ _ E hm fun q I=>by subst I; exact ⟨C,G,_,_,_,hk⟩
theorem Yc.RW {α:Type} {P:Program} {l B:Nat} {q:α→Array Value} {xs:List α} {a c:World→Prop} {i:Bool→List α→(Nat→Prop)→World→Prop} (h:Yc P l B q xs a i) (C:∀ W,a W→c W):Yc P l B q xs c i:=
 ⟨fun b pre fp W A=>C W (h.cap b pre fp W A),h.lt,h.st,h.yl⟩
def vG {α:Type} (P:Program) (q:Nat) (A:Array Value) (i:α→Array Value) (xs:List α) (c:World→Prop):Prop :=
 ∀ (l:Nat) (a:Bool→List α→(Nat→Prop)→World→Prop) (W:World),a true [] (fun _=>False) W→Yc P l W.heap.size i xs c a→
   Calls P q (#[.func (.yield l) #[] #[]]++A) W fun e W'=>(∃ v,e= .returned v)∧∃ b pre fp,a b pre fp W'∧pre <+:xs∧(b=true→pre=xs)
def Qc (id B:Nat) (fp:Nat→Prop) (W:World) (R:(Nat→Prop)→World→Prop) (X:Bool→(Nat→Prop)→World→Prop):Exit→(Nat→Value)→World→Prop
 | .normal,_,w=>eu W w∧∃ fp',Gw B fp W fp' w∧R fp' w
 | .exit i,_,w=>i=id∧eu W w∧∃ fp',Gw B fp W fp' w∧X false fp' w
 | .ret,_,w=>eu W w∧∃ fp',Gw B fp W fp' w∧X true fp' w
 | _,_,_=>False
def x4 (id:Nat):Bool→Code
 | true => .ret
 | false => .exit id
theorem An {α:Type} {f:α→List Value} {e:Nat} (x:α) (b:Nat) (W W':World) (F:Nat→Prop) (h:W.heap[b]? =some (.cells (f x).toArray e (0,0))) (hm:Md F W W') (a:∀ k,F k→∀ cur e z,W.heap[k]?≠some (.cells cur e z)):W'.heap[b]? =some (.cells (f x).toArray e (0,0)):=by
 rw [hm.dO b (cy.1 h).1 (fun hk=>a b hk _ _ _ h)]; exact h
def JX {α:Type} (a:List α→(Nat→Prop)→World→Prop) (X:Bool→List α→(Nat→Prop)→World→Prop) (S:World→Prop) (T:Bool→World→Prop):Bool→List α→(Nat→Prop)→World→Prop
 | true,pre,fp,W=>a pre fp W∧S W
 | false,pre,fp,W=> ∃ r,X r pre fp W∧T r W
theorem D9 {α:Type} {P:Program} {id n:Nat} {Y:List Deferred} {g:Operand} {ps:Array Tmp} {ap body:Code} {Fx:List Nat} {σ:Nat→Value} {w:World} {B:Exit→Act→World→Prop} {ah:Nat} {ai:Array Value}
 (ad:α→Array Value) (xs:List α) (au:World→Prop) (q:List α→(Nat→Prop)→World→Prop) (X:Bool→List α→(Nat→Prop)→World→Prop) (aS:ev ⟨n,Y,Fx,none⟩ σ g= .func (.func ah) #[] ai) (aP:bc P ah) (a0:∀ x,(ad x).size=ps.size)
 (aT:vG P ah ai ad xs au) (aJ:q [] (fun _=>False) w) (ay:∀ pre fp W,q pre fp W→au W∧∀ k,fp k→k < W.heap.size) (az:∀ r pre fp W,X r pre fp W→au W∧∀ k,fp k→k < W.heap.size) (Z:vH w.heap.size q) (al:∀ r,vH w.heap.size (X r)) (A:α→Nat→World→Prop) (aH:∀ x b W W' (F:Nat→Prop),A x b W→Md F W W'→(∀ k,F k→∀ cur e z,W.heap[k]?≠some (.cells cur e z))→A x b W') (aE:α→Nat→Nat→Value)
 (aN:∀ (l:Nat) (x:α) (W:World) (K:(Nat→Value)→World→Prop),(∀ b W',Wk W W'→A x b W'→K (aE x b) W')→cH P ⟨n,[],[],some l⟩ ap (kb K fun _ _ _=>False) ((ps.toList.zip (ad x).toList).foldl (fun s p=>cB s p.1 p.2) σ) W)
 (aO:∀ (l:Nat) (pre:List α) (x:α) (rest:List α) (fp:Nat→Prop) (b:Nat) (W:World),xs=pre++x::rest→q pre fp W→A x b W→cH P ⟨n,[],[],some l⟩ body (Qc id w.heap.size fp W (q<|pre++ [x]) fun r=>X r<|pre++ [x]) (aE x b) W)
 (hd:∀ (D:Nat) (W:World),w.heap.size≤D→(∃ fp,q xs fp W)→W.heap[D]? =some (.deferred<|some [])→qb ⟨n,{target:= .collected D,args:= #[]} ::Y,Fx,none⟩ B .normal σ W)
 (a3:∀ (D:Nat) (W:World) (pre:List α),w.heap.size≤D→pre <+:xs→(∃ fp,X false pre fp W)→W.heap[D]? =some (.deferred<|some [])→qb ⟨n,{target:= .collected D,args:= #[]} ::Y,Fx,none⟩ B .normal σ W)
 (a4:∀ (D:Nat) (W:World) (pre:List α),w.heap.size≤D→pre <+:xs→(∃ fp,X true pre fp W)→W.heap[D]? =some (.deferred<|some [])→qb ⟨n,{target:= .collected D,args:= #[]} ::Y,Fx,none⟩ B .ret σ W):
 l3 P ⟨n,Y,Fx,none⟩ (.block id<|.rangeFunc g ps ap body) B σ w:=by
 refine wpIn_block<|wpIn_rangeFunc ?_
 intro fn _
 obtain ⟨rc,O⟩:∃ rc:LoopState→Option Code→Loop,rc=fun st a5=> {state:=st,pending:=a5,fn,tmps:=(act ⟨n,Y,Fx,none⟩ σ).tmps,params:=ps,assign:=ap,body,defers:=w.heap.size} :=⟨_,rfl⟩
 obtain ⟨G,ak⟩:∃ G,(w.alloc<|.deferred<|some []).alloc (.loop<|rc .ready none)=G:=⟨_,rfl⟩
 have aM:G.heap[w.heap.size+1]? =some (.loop<|rc .ready none):=by
  rw [← ak]; have :=vp (w.alloc<|.deferred<|some []) (.loop<|rc .ready none); rwa [Gc] at this
 have aL:G.heap[w.heap.size]? =some (.deferred<|some []):=by
  rw [← ak]; exact (Below.heap_alloc _ _ _<|by simp).trans<|vp w _
 have a7:G.heap.size=w.heap.size+2:=by rw [← ak]; simp
 have hn:∀ (W:World) (o:Obj),Wk W (W.alloc o):=fun W o=>(yr W o).md
 have aK:q [] (fun _=>False) G:=by rw [← ak]; exact Z _ _ _ _ _ (Z _ _ _ _ _ aJ (hn _ _) fun _ h=>h.elim) (hn _ _) fun _ h=>h.elim
 have aQ:(act ⟨n,Y,Fx,none⟩ σ).eval g= .func (.func ah) #[] ai:=by rw [fH]; exact aS
 refine ⟨w.heap.size+1,[{target:= .collected w.heap.size,args:= #[]}],G,{target:= .fn (.func ah) ai,args:= #[.func (.yield<|w.heap.size+1) #[] #[]]},G,ah,
  #[.func (.yield<|w.heap.size+1) #[] #[]]++ai,G,?_,?_,fun _ _=>trivial,?_,fun aG=>(by cases aG),?_⟩
 · rw [← ak,O]; exact run_enterLoop_outer _ _ _ _ _
 · simp only [resolve,aQ]
   simp [go_sem]
 · have :=aP (#[.func (.yield<|w.heap.size+1) #[] #[]]++ai) G
   simp [invoke,go_sem,this]
 ·
  have ag:∀ (q:List α→(Nat→Prop)→World→Prop),vH w.heap.size q→∀ (pre:List α) (fp:Nat→Prop) (W:World) (o aj:Obj),q pre fp W→W.heap[w.heap.size+1]? =some o→(∀ cur e z,o≠.cells cur e z)→q pre fp (W.putObj (w.heap.size+1) aj):=fun q Z pre fp W o aj h1 h2 h3=>
   Z _ _ _ _ _ h1 (jL W _ aj) fun k hk=>⟨ab,fun cur e z h4=>by subst hk; rw [h2] at h4; exact absurd (qW h4)<|h3 _ _ _⟩
  have aA:∀ (fp:Nat→Prop) (W:World) (o aj:Obj),W.heap[w.heap.size+1]? =some o→(∀ cur e z,o≠.cells cur e z)→Gw w.heap.size fp W fp (W.putObj (w.heap.size+1) aj):=fun fp W o aj h2 h3=>
   ⟨fun _ h=> .inl h,fun k cs e z _ _ hk=>by
    rw [mV (fun h=>by subst h; rw [h2] at hk; exact h3 _ _ _<|qW hk)]; exact hk,by simp [Gb]⟩
  have aw:∀ {F:Nat→Prop} {A C:World},Md F A C→∀ (k:Nat) (o:Obj),A.heap[k]? =some o→¬F k→C.heap[k]? =some o:=fun hm k o an aR=>by
   rw [hm.dO k (cy.1 an).1 aR]; exact an
  refine callsIn_wide.2 (jQ (aT (w.heap.size+1)
   (JX q X (fun W=>W.heap[w.heap.size+1]? =some (.loop<|rc .ready none)∧W.heap[w.heap.size]? =some (.deferred<|some [])) fun r W=>W.heap[w.heap.size+1]? =some (.loop<|rc .done<|some<|x4 id r)∧W.heap[w.heap.size]? =some (.deferred<|some []))
   G ⟨aK,aM,aL⟩ ⟨fun b pre fp W h=>match b,h with
    | true,h=>(ay pre fp W h.1).1
    | false,⟨r,h,_⟩=>(az r pre fp W h).1,fun b pre fp W h=>match b,h with
    | true,h=>(ay pre fp W h.1).2
    | false,⟨r,h,_⟩=>(az r pre fp W h).2,?_,?_⟩) ?_)
  · intro b pre fp A C F h hm av
    have ax:∀ k,F k→w.heap.size≤k∧∀ cur e z,A.heap[k]? =some (.cells cur e z)→¬fp k:=fun k hk=>⟨by have :=(av k hk).1; omega,fun _ _ _ _=>(av k hk).2.1⟩
    have J:∀ (k:Nat) (o:Obj),A.heap[k]? =some o→(∀ cur e z,o≠.cells cur e z)→C.heap[k]? =some o:=fun k o an aY=>aw hm k o an fun hk=>by
     obtain ⟨cs,e,z,h5⟩:=(av k hk).2.2; rw [an] at h5; exact aY _ _ _<|qW h5
    cases b with
    | true =>exact ⟨Z _ _ _ _ _ h.1 hm ax,J _ _ h.2.1 (fun _ _ _ h=>by cases h),J _ _ h.2.2 fun _ _ _ h=>by cases h⟩
    | false =>
      obtain ⟨r,h1,h2,h3⟩:=h
      exact ⟨r,al r _ _ _ _ _ h1 hm ax,J _ _ h2 (fun _ _ _ h=>by cases h),J _ _ h3 fun _ _ _ h=>by cases h⟩
  · rintro pre x rest fp W a2 ⟨hi,E,hk⟩
    have aC:=run_yield (P:=P) (args:=ad x) E<|by rw [O]; exact a0 x
    rw [O] at aC
    refine ⟨fn,_,ap,body,aC,roundIn_of_wpIn (F:=gq) trivial ?_⟩
    have a1:((ps.zip<|ad x).foldl (fun tmps (p:Tmp×Value)=>tmps.setIfInBounds p.1 p.2) (act ⟨n,Y,Fx,none⟩ σ).tmps)=(act ⟨n,[],[],some<|w.heap.size+1⟩<|(ps.toList.zip (ad x).toList).foldl (fun s p=>cB s p.1 p.2) σ).tmps:=by
     rw [← y9,FC]
     exact zZ ⟨n,[],[],some<|w.heap.size+1⟩ _ σ
    have h1:=aN (w.heap.size+1) x W (fun U W'=> ∃ aD,(FT<|w.heap.size+1).run P W'= .ok () aD∧
     body.wpIn (gq.inRound<|w.heap.size+1) 0 P (roundPost P (w.heap.size+1) fun e W'=> ∃ b,e= .returned (.bool b)∧∃ fp',JX q X (fun W=>W.heap[w.heap.size+1]? =some (.loop<|rc .ready none)∧W.heap[w.heap.size]? =some (.deferred<|some [])) (fun r W=>W.heap[w.heap.size+1]? =some (.loop<|rc .done<|some<|x4 id r)∧W.heap[w.heap.size]? =some (.deferred<|some [])) b (pre++ [x]) fp' W'∧Gw G.heap.size fp W fp' W') (act ⟨n,[],[],some<|w.heap.size+1⟩ U) aD) ?_
    · unfold cH at h1
      have aF:({tmps:=(ps.zip<|ad x).foldl (fun tmps (p:Tmp×Value)=>tmps.setIfInBounds p.1 p.2) (act ⟨n,Y,Fx,none⟩ σ).tmps,defers:= []} :Act)=act ⟨n,[],[],some<|w.heap.size+1⟩ ((ps.toList.zip (ad x).toList).foldl (fun s p=>cB s p.1 p.2) σ):=by rw [a1]; rfl
      rw [aF]
      refine wpIn_mono h1 ?_
      intro e a w' M
      cases e with
      | normal=>obtain ⟨U,rfl,ac⟩:=M; exact ac
      | panic c=>obtain ⟨U,rfl,ac⟩:=M; exact ac U fun _ _=>rfl
      | outgrown=>exact M.elim
      | _=>obtain ⟨U,rfl,ac⟩:=M; exact ac
    intro b V aq aI
    have hi:=Z _ _ _ _ _ hi aq fun _ h=>h.elim
    have E:=aw aq _ _ E fun h=>h
    have hk:=aw aq _ _ hk fun h=>h
    have aX:w.heap.size+1 < V.heap.size:=(cy.1 E).1
    refine ⟨_,run_beginRound E (by rw [O]),?_⟩
    have aW:(V.putObj (w.heap.size+1)<|.loop {rc .ready none with state:= .busy}).heap[w.heap.size+1]? =some (.loop {rc .ready none with state:= .busy}):=vq aX
    have aU:(V.putObj (w.heap.size+1)<|.loop {rc .ready none with state:= .busy}).heap[w.heap.size]? =some (.deferred<|some []):=(mV ab).trans hk
    have aZ:=aA fp V _ (.loop {rc .ready none with state:= .busy}) E fun _ _ _ h=>by cases h
    have h2:=aO (w.heap.size+1) pre x rest fp b _ a2 (ag q Z _ _ _ _ (.loop {rc .ready none with state:= .busy}) hi E fun _ _ _ h=>by cases h)<|aH _ _ _ _ _ aI (jL V (w.heap.size+1) _) fun k hk cur e z h4=>by subst hk; rw [E] at h4; cases h4
    unfold cH at h2
    refine wpIn_mono h2 ?_
    have fin:∀ (j:Option Code) (fp':Nat→Prop) (I:World),eu (V.putObj (w.heap.size+1)<|.loop {rc .ready none with state:= .busy}) I→Gw w.heap.size fp (V.putObj (w.heap.size+1)<|.loop {rc .ready none with state:= .busy}) fp' I→
     (Instr.endRound (w.heap.size+1) j).run P I= .ok (.bool j.isNone) (I.putObj (w.heap.size+1)<|.loop<|rc (if j.isNone then .ready else .done) j)∧
     I.heap[w.heap.size+1]? =some (.loop {rc .ready none with state:= .busy})∧
     (I.putObj (w.heap.size+1)<|.loop<|rc (if j.isNone then .ready else .done) j).heap[w.heap.size+1]? =some (.loop<|rc (if j.isNone then .ready else .done) j)∧
     (I.putObj (w.heap.size+1)<|.loop<|rc (if j.isNone then .ready else .done) j).heap[w.heap.size]? =some (.deferred<|some [])∧
     Gw G.heap.size fp W fp' (I.putObj (w.heap.size+1)<|.loop<|rc (if j.isNone then .ready else .done) j):=fun j fp' I J ae=>by
     have ar:=J _ _ aW fun _ _ _ h=>by cases h
     have aV:=J _ _ aU fun _ _ _ h=>by cases h
     have aB:=run_endRound (P:=P) j ar
     refine ⟨?_,ar,vq (cy.1 ar).1,(mV ab).trans aV,((((Gw.wk aq).trans aZ).trans ae).trans<|aA fp' _ _ _ ar fun _ _ _ h=>by cases h).mono ab⟩
     rw [O] at aB ⊢
     exact aB
    intro e a I M
    cases e with
    | normal=>
      obtain ⟨U,rfl,J,fp',ae,am⟩:=M
      obtain ⟨f1,f2,f3,f4,f5⟩:=fin none fp' I J ae
      exact ⟨_,_,f1,true,aa,fp',⟨ag q Z _ _ _ _ _ am f2 (fun _ _ _ h=>by cases h),f3,f4⟩,f5⟩
    | ret=>
      obtain ⟨U,rfl,J,fp',ae,am⟩:=M
      obtain ⟨f1,f2,f3,f4,f5⟩:=fin (some .ret) fp' I J ae
      exact ⟨_,_,f1,false,aa,fp',⟨true,ag (X true) (al true) _ _ _ _ _ am f2 (fun _ _ _ h=>by cases h),f3,f4⟩,f5⟩
    | exit i=>
      obtain ⟨U,rfl,rfl,J,fp',ae,am⟩:=M
      obtain ⟨f1,f2,f3,f4,f5⟩:=fin (some<|.exit i) fp' I J ae
      exact ⟨_,_,f1,false,aa,fp',⟨false,ag (X false) (al false) _ _ _ _ _ am f2 (fun _ _ _ h=>by cases h),f3,f4⟩,f5⟩
    | panic c=>obtain ⟨U,rfl,ac⟩:=M; exact (ac U fun _ _=>rfl).elim
    | outgrown=>exact M.elim
    | goto t=>obtain ⟨U,rfl,ac⟩:=M; exact ac.elim
  · rintro e a6 ⟨⟨v,rfl⟩,b,pre,fp,hj,hpre,hb1⟩
    cases b with
    | true =>
      obtain ⟨hi,E,hk⟩:=hj
      obtain rfl :=hb1 rfl
      have ao:=run_endLoop (P:=P) E<|by rw [O]; simp
      rw [O] at ao
      refine ⟨none,_,ao,?_⟩
      rw [O] at E
      exact hd w.heap.size _ (cw _) ⟨fp,ag q Z _ _ _ _ _ hi E fun _ _ _ h=>by cases h⟩<|(mV ab).trans hk
    | false =>
      obtain ⟨r,hi,E,hk⟩:=hj
      have ao:=run_endLoop (P:=P) E<|by rw [O]; simp
      rw [O] at ao
      refine ⟨some (x4 id r),_,ao,?_⟩
      rw [O] at E
      cases r with
      | true =>
        refine wpIn_ret ?_
        exact a4 w.heap.size _ pre (cw _) hpre ⟨fp,ag (X true) (al true) _ _ _ _ _ hi E fun _ _ _ h=>by cases h⟩<|(mV ab).trans hk
      | false =>
        refine wpIn_exit ?_
        unfold Exit.inBlock
        simp only [if_true]
        exact a3 w.heap.size _ pre (cw _) hpre ⟨fp,ag (X false) (al false) _ _ _ _ _ hi E fun _ _ _ h=>by cases h⟩<|(mV ab).trans hk
section
variable {P:Program} {N:Fm} {ops:Array Oper} {Q:Exit→(Nat→Value)→World→Prop} {rest:List Oper} {σ:Nat→Value} {w:World} {d':Option Nat} {d:Nat} {op:Op} {ty:TypeId} {pos :String} {af:Array Edge} {v:Value}
end
section
variable {P:Program} {n:Nat} {F:List Nat} {σ:Nat→Value} {w:World} {fn:Func} {R:Value→World→Prop}
end
def xu (P:Program) (s f:Nat):Option Nat:=
 match P.underlying s with
 | some (.struct fs)=>match fs[f]? with
   | some fd=>if cR P fd.type=some none then some fd.offset else none
   | none=>none
 | _=>none
theorem Qm {P:Program} {t:Nat} (hu:cR P t=some none) (w:World):(isAgg t).run P w= .ok false w:=by
 unfold cR at hu
 cases hd:P.underlying t with
 | none=>rw [hd] at hu; cases hu
 | some d=>
   rw [hd] at hu
   cases d <;> first
    | (simp only [lL] at hu; obtain ⟨_,_,h⟩:=hu; cases h; done)
    | simp [isAgg,dj hd]
theorem BU {P:Program} {N:Fm} {σ:Nat→Value} {w:World} {dst:Option Nat} {ty:TypeId} {pos :String} {af:Array Edge} {g:Option (Nat×Bool)} {x:Operand} {s f n:Nat} {cs:Array Value} {v:Value} (a:xu P s f=some n) (A:ev N σ x= .agg cs) (q:cs[n]? =some v):
 (execOp (ev N σ) ⟨dst,.field s x f,ty,pos,af,g⟩).run P w= .ok (.value v) w:=by
 unfold xu at a
 split at a
 · rename_i fs hu
   split at a
   · rename_i fd i
     split at a
     · rename_i c
       cases a
       simp [execOp,FU,dj hu,i,A,asAgg,part,Qm c,q]
     · cases a
   · cases a
 · cases a
section
variable {P:Program} {ops:Array Oper} {Q:Exit→Act→World→Prop} {S:World→Prop} {md:pd}
theorem Fp {i:Nat} {o:Oper} {v:Value} {a:Act} (hi:ops[i]? =some o) (A:YieldsIf P ops S o v a) {K:Act→World→Prop} {w:World} (c:S w) (h:K (a.put o.dst v) w):wpOpIn gq 0 P ops Q i K a w:=by
 unfold wpOpIn
 simp only [hi]
 rcases A with ⟨hw,q⟩ | ⟨hw,rfl⟩
 · rw [if_pos hw]
   refine ⟨fun _ _=>trivial,?_⟩
   rw [show gq.round=none from rfl,sL,q w c]
   exact h
 · rw [if_neg (by rw [hw]; exact c7)]; exact ⟨fun _ _=>trivial,h⟩
theorem Se {j:Nat} {i A:Oper} {v:Value} (I:ops[j]? =some A) (G:i.apart ops A=true)
 (J:∀ cs b,i.op≠.select cs b) (M:∀ cs b,A.op≠.select cs b)
 (C:∀ c a w,Q (.panic c) (a.put i.dst v) w→Q (.panic c) a w) {K:Act→World→Prop} {a:Act} {w:World}
 (q:YieldsIf P ops S i v a) (h:wpOpIn gq 0 P ops Q j K (a.put i.dst v) w):
 wpOpIn gq 0 P ops Q j (fun E w'=>YieldsIf P ops S i v E∧K (E.put i.dst v) w') a w:=by
 obtain ⟨h1,h2,h3⟩:=Oper.apart_spec G
 have dO:∀ (a:Act),YieldsIf P ops S i v a→∀ u,YieldsIf P ops S i v (a.put A.dst u):=fun a q u=>
  q.of_same (execOp_put i J a A.dst u h3) (wanted_put i a A.dst u h3)
 have O:∀ d,YieldsIf P ops S i v {a with defers:=d::a.defers} :=fun d=>q.of_same rfl rfl
 unfold wpOpIn at*
 simp only [I] at*
 rw [wanted_put A a i.dst v h1] at h
 split
 · rename_i hw
   simp only [hw,if_true] at h
   unfold Oper.wpIn at*
   refine ⟨fun _ _=>trivial,?_⟩
   have h:=h.2
   rw [show gq.round=none from rfl,sL,execOp_put A M a i.dst v h1] at h
   rw [show gq.round=none from rfl,sL]
   generalize (execOp a.eval A).run P w=r at*
   cases r with
   | ok x w'=>
     cases x <;> simp only [oa] at h ⊢
     case value u=>exact ⟨dO a q u,by rw [← o7 a v u h2]; exact h⟩
     case skip =>exact ⟨dO a q _,by rw [← o7 a v undef h2]; exact h⟩
     case defer d=>
      refine ⟨dO _ (O d) _,?_⟩
      rw [← o7 _ v undef h2,← Act.put_defers]
      exact h
     case enter f args=>
      refine ⟨h.1,zg h.2 fun e w'' he=> ?_⟩
      cases e with
      | returned u=>exact ⟨dO a q u,by rw [← o7 a v u h2]; exact he⟩
      | panicked c=>exact C _ _ _ he
      | outgrown=>exact he
     case row row args=>exact ⟨h.1,zx h.2 fun u w'' he=>⟨dO a q u,by rw [← o7 a v u h2]; exact he⟩⟩
     case round l f tmps assign body=>
      refine ⟨h.1,zu h.2 fun e w'' he=> ?_⟩
      cases e with
      | returned u=>exact ⟨dO a q u,by rw [← o7 a v u h2]; exact he⟩
      | panicked c=>exact C _ _ _ he
      | outgrown=>exact he
   | halt x w'=>
     cases x <;> simp only [oa] at h ⊢
     case panic u=>exact C _ _ _ h
 · rename_i hw
   simp only [hw] at h
   exact ⟨fun _ _=>trivial,dO a q _,by rw [← o7 a v undef h2]; exact h.2⟩
def nu (P:Program) (md:pd) (ops:Array Oper) (Q:Exit→Act→World→Prop) (S:World→Prop):Nat→Array Bool→Act→World→Prop
 | 0,aQ,a,w=>gF md ops aQ= []∧Q .normal a w
 | fuel+1,aQ,a,w=>
   (gF md ops aQ= []→Q .normal a w)∧
   ∀ i∈gF md ops aQ,wpOpIn gq 0 P ops Q i (fun c w'=>S w'∧nu P md ops Q S fuel (aQ.setIfInBounds i true) c w') a w
theorem Fa:∀ (fuel:Nat) (aQ:Array Bool) (a:Act) (w:World),nu P md ops Q S fuel aQ a w→wpAnyIn gq 0 P md ops Q fuel aQ a w
 | 0,_,_,_,h=>h
 | fuel+1,_,_,_,h=>⟨h.1,fun i hi=>wpOpIn_mono (fun c w' q=>Fa fuel _ c w' q.2)<|h.2 i hi⟩
theorem R9 {i:Nat} {C:Oper} {v:Value} (hi:ops[i]? =some C) (aa:∀ (j:Nat) (o:Oper) cs b,ops[j]? =some o→o.op≠.select cs b)
 (ad:∀ c a w,Q (.panic c) (a.put C.dst v) w→Q (.panic c) a w):
 ∀ (fuel:Nat) (aQ:Array Bool) (a:Act) (w:World),
   (∀ j E,ops[j]? =some E→j≠i→aQ.getD j true =false→(∀ e∈E.after,iG md e=true→e.on≠i)→C.apart ops E=true)→
   i∈gF md ops aQ→YieldsIf P ops S C v a→S w→
   nu P md ops Q S fuel (aQ.setIfInBounds i true) (a.put C.dst v) w→nu P md ops Q S (fuel+1) aQ a w:=by
 intro fuel
 induction fuel with
 | zero=>
   intro aQ a w _ A J G H
   refine ⟨fun h=>(by rw [h] at A; cases A),fun j I=> ?_⟩
   by_cases q:j=i
   · subst q; exact Fp hi J G ⟨G,H⟩
   · have :=ready_mono I q
     rw [H.1] at this
     cases this
 | succ fuel al=>
   intro aQ a w V A J G H
   refine ⟨fun h=>(by rw [h] at A; cases A),fun j I=> ?_⟩
   by_cases q:j=i
   · subst q; exact Fp hi J G ⟨G,H⟩
   · have h1:=H.2 j<|ready_mono I q
     obtain ⟨Z,E,O,ae⟩:=mem_ready.1 I
     have ak:∀ e∈E.after,iG md e=true→e.on≠i:=fun e he ag heq=>by
      have h1:=ae e he ag
      have U:=(mem_ready.1 A).1
      rw [heq] at h1
      rcases Nat.lt_or_ge i aQ.size with M | M
      · simp [M] at U h1; rw [U] at h1; cases h1
      · simp [Array.getElem?_eq_none M] at h1
     have h2:=Se O (V j E O q Z ak) (fun cs b=>aa i C cs b hi) (fun cs b=>aa j E cs b O) ad J h1
     have ah:∀ k ok,ops[k]? =some ok→k≠i→(aQ.setIfInBounds j true).getD k true =false→
      (∀ e∈ok.after,iG md e=true→e.on≠i)→C.apart ops ok=true :=fun k ok hk ai ab aj=>by
      refine V k ok hk ai ?_ aj
      by_cases Y:j=k
      · subst Y; exact Z
      · rw [getD_set_ne true Y] at ab; exact ab
     refine wpOpIn_mono (fun ac w' h3=>⟨h3.2.1,al (aQ.setIfInBounds j true) ac w' ah (ready_mono A<|Ne.symm q) h3.1 h3.2.1 ?_⟩) h2
     rw [Array.setIfInBounds_comm _ _ q]
     exact h3.2.2
theorem y5 {i:Nat} {q:Oper} {v:Value} {fuel:Nat} {aQ:Array Bool} {a:Act} {w:World} (hi:ops[i]? =some q)
 (hs:Region.noSelect ops=true) (E:Region.free md ops aQ i=true) (G:(gF md ops aQ).contains i=true)
 (A:∀ c a w,Q (.panic c) (a.put q.dst v) w→Q (.panic c) a w) (I:YieldsIf P ops S q v a) (C:S w)
 (h:nu P md ops Q S fuel (aQ.setIfInBounds i true) (a.put q.dst v) w):nu P md ops Q S (fuel+1) aQ a w:=
 R9 hi (Region.noSelect_spec hs) A fuel aQ a w (Region.free_spec hi E) (by simpa using G) I C h
theorem Fb {i:Nat} {fuel:Nat} {aQ:Array Bool} {a:Act} {w:World} (E:jM ops aQ i=true)
 (h:wpOpIn gq 0 P ops Q i (fun C w'=>S w'∧nu P .any ops Q S fuel (aQ.setIfInBounds i true) C w') a w):nu P .any ops Q S (fuel+1) aQ a w:=by
 have A:gF .any ops aQ= [i]:=by simpa [jM] using E
 exact ⟨fun c=>(by rw [A] at c; cases c),fun j q=>by rw [A] at q; obtain rfl :=lI.1 q; exact h⟩
end
def jP (P:Program) (N:Fm) (ops:Array Oper) (Q:Exit→(Nat→Value)→World→Prop) (S:World→Prop) (fuel:Nat) (aQ:Array Bool) (σ:Nat→Value) (w:World):Prop :=
 nu P .any ops (lift N Q) S fuel aQ (act N σ) w
section
variable {P:Program} {N:Fm} {ops:Array Oper} {Q:Exit→(Nat→Value)→World→Prop} {σ:Nat→Value} {w:World} {d':Option Nat} {d:Nat} {op:Op} {ty:TypeId} {pos :String} {af:Array Edge} {v:Value}
variable {S:World→Prop} {fuel:Nat} {aQ:Array Bool}
theorem Fq {id:Nat} {l:List Oper} (S:World→Prop) (a:N.r=none) (hm:P.follows .mixedOrders=true) (c:S w.drew) (h:jP P N l.toArray Q S l.length (qB l.length false) σ w.drew):cH P N (.region id l.toArray true) Q σ w:=by
 unfold cH
 rw [a]
 exact wpIn_region_any hm<|Fa _ _ _ _<|by rw [mi]; exact h
theorem yp (i:Nat) (hi:ops[i]? =some ⟨some d,op,ty,pos,af,none⟩) (q:gS N.F ops aQ i=true)
 (C:∀ w,S w→(execOp (ev N σ) ⟨some d,op,ty,pos,af,none⟩).run P w= .ok (.value v) w) (A:S w)
 (k:jP P N ops Q S fuel (aQ.setIfInBounds i true) (cB σ d v) w):jP P N ops Q S (fuel+1) aQ σ w:=by
 simp only [gS,fE] at q
 refine y5 hi q.1.1.1 q.1.1.2 q.1.2 (fun c a w=>nk (by have :=q.2; rwa [hi] at this) c a w) (.inl ⟨ij _ rfl _,fun w A=> ?_⟩) A ?_ (v:=v)
 · rw [fH]; exact C w A
 · rw [il]; exact k
theorem lC (i:Nat) {j t:Nat} {want:Bool} (hi:ops[i]? =some ⟨some d,op,ty,pos,af,some (j,want)⟩) (q:gS N.F ops aQ i=true)
 (C:iN ops j=some t) (E:e8 t N.n=true) (G:σ t= .bool want)
 (I:∀ w,S w→(execOp (ev N σ) ⟨some d,op,ty,pos,af,some (j,want)⟩).run P w= .ok (.value v) w) (A:S w)
 (k:jP P N ops Q S fuel (aQ.setIfInBounds i true) (cB σ d v) w):jP P N ops Q S (fuel+1) aQ σ w:=by
 simp only [gS,fE] at q
 refine y5 hi q.1.1.1 q.1.1.2 q.1.2 (fun c a w=>nk (by have :=q.2; rwa [hi] at this) c a w) (.inl ⟨by rw [nq aa C E G]; cases want <;> rfl,fun w A=> ?_⟩) A ?_ (v:=v)
 · rw [fH]; exact I w A
 · rw [il]; exact k
theorem kA (i:Nat) {j t:Nat} {want b:Bool} (hi:ops[i]? =some ⟨some d,op,ty,pos,af,some (j,want)⟩) (q:gS N.F ops aQ i=true)
 (E:iN ops j=some t) (G:e8 t N.n=true) (I:σ t= .bool b) (C:(b==want)=false) (A:S w)
 (k:jP P N ops Q S fuel (aQ.setIfInBounds i true) (cB σ d undef) w):jP P N ops Q S (fuel+1) aQ σ w:=by
 simp only [gS,fE] at q
 refine y5 hi q.1.1.1 q.1.1.2 q.1.2 (fun c a w=>nk (by have :=q.2; rwa [hi] at this) c a w) (.inr ⟨by rw [nq aa E G I,C],aa⟩) A ?_ (v:=undef)
 rw [il]; exact k
theorem Sb {Q:Exit→Act→World→Prop} {o:Oper} {K:(Nat→Value)→World→Prop} {A:Act→World→Prop} (h:cE P N o σ w K) (hk:∀ σ w,K σ w→A (act N σ) w):o.wpIn gq 0 P (act N σ) w A Q:=by
 refine ⟨fun _ _=>trivial,?_⟩
 rw [show gq.round=none from rfl,sL]
 unfold cE iF at h
 generalize (execOp (act N σ).eval o).run P w=x at h ⊢
 cases x with
 | ok n w'=>
   cases n <;> simp only [ju,oa] at h ⊢ <;>
    first
     | (obtain ⟨C,i,a⟩:=h; rw [i]; exact hk _ _ a)
     | (refine ⟨fun q=>(by cases q),zg (callsIn_wide.2 h) fun e w'' he=> ?_⟩
        cases e with
        | returned v=>obtain ⟨C,i,a⟩:=he; simp only; rw [i]; exact hk _ _ a
        | panicked c=>exact he.elim
        | outgrown=>obtain ⟨_,_,E⟩:=he; exact E.elim)
     | (refine ⟨fun q=>(by cases q),zx (xr (r:=none) h) fun v w'' he=> ?_⟩
        obtain ⟨C,i,a⟩:=he; rw [i]; exact hk _ _ a)
 | halt x w'=>cases x <;> simp only [ju] at h
theorem ye (i:Nat) (hi:ops[i]? =some ⟨d',op,ty,pos,af,none⟩) (a:jM ops aQ i=true)
 (h:cE P N ⟨d',op,ty,pos,af,none⟩ σ w (fun σ w=>S w∧jP P N ops Q S fuel (aQ.setIfInBounds i true) σ w)):jP P N ops Q S (fuel+1) aQ σ w:=by
 refine Fb a ?_
 unfold wpOpIn
 simp only [hi]
 rw [if_pos (ij _ rfl _)]
 exact Sb h fun _ _ hk=>hk
theorem Fs {l:Nat} {fo:Operand} {args:Array Operand} {q:Array TypeId} {R:Bool→World→Prop} (i:Nat) {j t:Nat} {want:Bool} {L:List Value} (hi:ops[i]? =some ⟨some d,.call ⟨.value fo,args,q⟩,ty,pos,af,some (j,want)⟩) (J:jM ops aQ i=true)
 (I:iN ops j=some t) (O:e8 t N.n=true) (U:σ t= .bool want) (G:ev N σ fo= .func (.yield l) #[] #[]) (C:args.toList.map (ev N σ)=L)
 (Y:YieldAt gq 0 P l L.toArray w fun e W'=> ∃ b,e= .returned (.bool b)∧R b W') (k:∀ b W',R b W'→S W'∧jP P N ops Q S fuel (aQ.setIfInBounds i true) (cB σ d<|.bool b) W'):
 jP P N ops Q S (fuel+1) aQ σ w:=by
 refine Fb J ?_
 unfold wpOpIn
 simp only [hi]
 rw [if_pos (by rw [nq rfl I O U]; cases want <;> rfl)]
 obtain ⟨fn,tmps,a,b,M,E⟩:=Y
 refine ⟨fun _ _=>trivial,?_⟩
 rw [show gq.round=none from rfl,sL,fH]
 have hm:args.map (ev N σ)=L.toArray:=by rw [← C,← kB]
 have V:(execOp (ev N σ) ⟨some d,.call ⟨.value fo,args,q⟩,ty,pos,af,some (j,want)⟩).run P w= .ok (.round l fn tmps a b) w:=by
  simp [execOp,resolve,G,nz,invoke,hm,M]
 rw [V]
 simp only [oa]
 refine ⟨fun A=>(by cases A),zu E ?_⟩
 rintro e W' ⟨c,rfl,hw⟩
 simp only
 rw [il]
 exact k c W' hw
theorem yn (c:(gF .any ops aQ).isEmpty=true) (h:Q .normal σ w):jP P N ops Q S fuel aQ σ w:=by
 have a:gF .any ops aQ= []:=by simpa using c
 cases fuel with
 | zero=>exact ⟨a,σ,rfl,h⟩
 | succ n=>exact ⟨fun _=>⟨σ,rfl,h⟩,fun i hi=>by rw [a] at hi; cases hi⟩
theorem Fo {t:Nat} {b:Bool} (h:σ t= .bool b) (c:b=true→jP P N ops Q S fuel aQ (cB σ t<|.bool true) w) (a:b=false→jP P N ops Q S fuel aQ (cB σ t<|.bool false) w):jP P N ops Q S fuel aQ σ w:=by
 cases b
 · have :=a rfl; rwa [l2 h] at this
 · have :=c rfl; rwa [l2 h] at this
end
attribute [irreducible] jP
end Go.Hb
end
namespace Go.Hb
theorem DJ {b:UInt8} {m:Int} (h:48≤b.toNat∧b.toNat≤57) (hm:((b.toNat - 48:Nat):Int)≤m):dZ [b] m= .ok (b.toNat - 48):=by
 have a:fi [b]=b.toNat - 48:=by simp [fi]
 have c:¬oO [b]:=by rintro (h | ⟨h,_⟩) <;> simp at h
 have hd:xe [b]:=fun i hi=>by
  have hi:i=0:=by simpa using hi
  subst hi
  exact decide_eq_true h
 unfold dZ
 rw [DH c hd (by rw [a]; omega),a]
 rfl
theorem y4:ei 1 [65]=65:=by unfold ei; decide+kernel
theorem RX:gT gO [65]= .ok 65:=by
 unfold gT gR gO
 simp only
 rw [y4]
 simp [dS,dx]
theorem RY:jZ 1 [65]= .ok [65]:=by
 have h1:dW 1 [65]= [[65]]:=by decide+kernel
 have h:ez 1 [65]=([65],0):=by
  unfold ez
  rw [h1,if_neg (by simp),if_neg (by simp [y4]),if_neg (by simp),nD,List.map_nil,y4]
  decide+kernel
 unfold jZ
 rw [h]; rfl
def qu:Tx:= [83,70,88,32,65,32,89,32,50,10,83,70,88,32,65,32,48,32,115,10,83,70,88,32,65,32,48,32,101,114,10]
def uT:Tx:= [49,10,100,111,47,65,10]
def iD:aG:=⟨1,[],[],[0,0,0,0,0],3,[],[],[⟨65,2,true,0,2⟩],[⟨2,65,true,[],[115],[46],[],2⟩,⟨2,65,true,[],[101,114],[46],[],3⟩]⟩
def lB:List bo:= [([100,111],[65])]
theorem RR:et qu= [(1,[[83,70,88],[65],[89],[50]]),(2,[[83,70,88],[65],[48],[115]]),(3,[[83,70,88],[65],[48],[101,114]])]:=by decide+kernel
theorem RS:et uT= [(1,[[49]]),(2,[[100,111,47,65]])]:=by decide+kernel
theorem E7 {s:Tx} {ln:Nat} (hw:bA s=(s,[],false,0)) (a:s≠[48]) (c:gl s=0):iz 1 [] ⟨65,2,true,0,2⟩ ln [[83,70,88],[65],[48],s]= .ok ⟨2,65,true,[],s,[46],[],ln⟩:=by
 unfold iz
 rw [if_neg (by simp)]
 simp only [ma,Gm]
 rw [show fk true [48]= .ok [] from if_pos ⟨rfl,rfl⟩,hw]
 simp only
 rw [show kg (s,[],false,0)= .ok s from by unfold kg; rw [if_neg (by simp),if_neg a,if_neg (by simp [c])]]
 rfl
theorem RN:fu qu= .ok iD:=by
 unfold fu
 rw [if_neg aw,RR]
 simp only [bV,fV]
 have i:bS ((cV qu).length+1) gO [] [(2,[[83,70,88],[65],[48],[115]]),(3,[[83,70,88],[65],[48],[101,114]])] 1 [[83,70,88],[65],[89],[50]]= .ok (iD,[]):=by
  unfold bS
  simp only [ma]
  rw [if_neg aw,if_neg aw,if_neg aw,if_neg aw,if_neg aw,if_neg aw,if_neg aw]
  unfold gA
  simp only [ma,Gm]
  rw [RX]
  simp only
  rw [if_neg (by simp),DJ (b:=50) aw aw]
  simp only
  rw [if_neg aw]
  have c:∀ b,b=true→group [[83,70,88],[65]] (iz gO.kind gO.aliases ⟨65,if ([83,70,88]:Tx)=db then 2 else 1,b,gO.rules.length,GO 50 - 48⟩) ((cV qu).length+1) (GO 50 - 48) [(2,[[83,70,88],[65],[48],[115]]),(3,[[83,70,88],[65],[48],[101,114]])]= .ok (iD.rules,[]):=by
   intro b a
   subst a
   show group [[83,70,88],[65]] (iz 1 [] ⟨65,2,true,0,2⟩) _ 2 _=_
   rw [group,if_neg aw,E7 (by decide+kernel) aw aw]
   simp only
   rw [group,if_neg aw,E7 (by decide+kernel) aw aw]
   rfl
  rw [c _ (by simp)]
  simp only [decide_true]
  rfl
 rw [ga]
 simp only [ma]
 rw [if_neg aw,if_neg aw,if_neg aw,i]
 simp only
 rw [ga]
 rfl
theorem RP:e5 iD uT= .ok lB:=by
 have a:fw iD [[100,111,47,65]]= .ok ([100,111],[65]):=by
  have hw:bA [100,111,47,65]=([100,111],[65],true,0):=by decide+kernel
  refine (BM (row:= [[100,111,47,65]]) (set := [65]) aa ?_ ?_ ?_ ?_ ?_ ?_ ?_).trans ?_
  all_goals try simp only [ma,hw]
  · decide
  · decide
  · simp
  · show fy 1 [] [65]=_
    unfold fy; rw [if_pos rfl]; exact RY
  · intro i hi
    have :i=0:=by simpa using hi
    subst this; decide
 have hn:dZ [49] 8192= .ok 1:=DJ aw aw
 rw [BH aw RS rfl (show dZ ([[49]].getD 0 []) 8192= .ok 1 from hn),ek,a]
 simp only
 rw [ek]
 rfl
def sB:List cJ:= [⟨[100,111],0,-1,-1,-1⟩,⟨[100,111,115],0,0,-1,-1⟩,⟨[100,111,101,114],0,1,-1,-1⟩]
theorem E6 (ad:Tx) (ln:Nat):cQ ⟨2,65,true,[],ad,[46],[],ln⟩ [100,111]=some ([100,111]++ad):=by
 have a:dH [46]=([],0):=by unfold dH; rw [if_neg (by simp),if_pos rfl]
 unfold cQ gZ
 simp only [a]
 rw [if_pos (by simp only [if_true,fV]; rfl)]
 rfl
theorem RO:eK iD lB 0=sB:=by
 have h1:aT iD (flagsOf lB (0:Nat)) 1= []:=aw
 have h2:aT iD (flagsOf lB (0:Nat)) 2= [0,1]:=aw
 have h3:aT iD (bY iD (0:Nat)) 2= []:=aw
 have h4:aT iD (bY iD (1:Nat)) 2= []:=aw
 have a:∀ w f s,e0 iD lB 0 w f s=kI iD lB 0 w f s:=fun w f s=>by unfold e0; rw [h1]; simp
 unfold eK
 rw [h2,a]
 simp only [jw,Gl,eb]
 unfold gC
 rw [show cQ (iD.rules.getD 0 di) (lB.getD 0 ([],[])).1=some [100,111,115] from E6 [115] 2,show cQ (iD.rules.getD 1 di) (lB.getD 0 ([],[])).1=some [100,111,101,114] from E6 [101,114] 3]
 simp only [h3,h4,Gl,eb,a]
 unfold kI
 rw [if_pos aw,if_pos aw,if_pos aw]
 rfl
end Go.Hb
section
namespace Go.Hb
section
variable {P:Program} {n:Nat} {Fx:List Nat} {σ:Nat→Value} {w:World} {fn:Func} {R:Value→World→Prop} {B:Exit→Act→World→Prop} {N:Fm}
variable {S:List Nat→(Nat→Value)→World→Prop}
end
theorem Dt (o:Nat):∀ (r:List Value) (m:Nat) (pre a:List Value),pre.length=o+m→r.length≤a.length→
 (r.zipIdx m).foldl (fun (cs:Array Value) (c,j)=>cs.setIfInBounds (o+j) c) (pre++a).toArray=(pre++r++a.drop r.length).toArray
 | [],m,pre,a,_,_=>by simp
 | c::r,m,pre,a,hp,hl=>by
   cases a with
   | nil=>simp at hl
   | cons z a=>
     rw [vE,qN]
     have h1:(pre++z::a).toArray.setIfInBounds (o+m) c=((pre++ [c])++a).toArray:=by rw [← hp]; simp
     show List.foldl _ ((pre++z::a).toArray.setIfInBounds (o+m) c) _=_
     rw [h1,Dt o r (m+1) (pre++ [c]) a (by simp; omega) (by simpa using hl)]
     simp
theorem BZ {size:Nat} :∀ (rest:List (List Value)) (m:Nat) (pre a:List Value),pre.length=m*size→a.length=rest.length*size→(∀ r∈rest,r.length=size)→
 kZ (fun i=>some (i*size,size)) (pre++a).toArray ((rest.zipIdx m).map fun q=>(q.2,bq q.1.toArray))=some (pre++rest.flatten).toArray
 | [],m,pre,a,_,hz,_=>by
   obtain rfl :a= []:=gr<|by simpa using hz
   rfl
 | r::rest,m,pre,a,hp,hz,hr=>by
   have A:=hr r<|pn ..
   have G:a.length=rest.length*size+size:=by rw [hz,bV,nH]
   rw [vE,nD]
   have C:(bq r.toArray).cells=r.toArray:=by simp [Value.cells]
   simp only [kZ,C]
   rw [if_neg (by simp; omega)]
   have h1:=Dt (m*size) r 0 pre a ab ab
   have h2:(r.toArray.zipIdx.foldl (fun (cs:Array Value) (c,j)=>cs.setIfInBounds (m*size+j) c) (pre++a).toArray)=(pre++r++a.drop r.length).toArray:=by
    rw [← h1,← y9]; simp
   rw [h2,BZ rest (m+1) (pre++r) (a.drop r.length) (by rw [bJ,hp,A,nH]) (by rw [fU]; omega) (fun x E=>hr x<|oq _ E)]
   simp
section
variable {P:Program} {N:Fm} {σ:Nat→Value} {w:World} {dst:Option Nat} {ty:TypeId} {pos :String} {af:Array Edge} {g:Option (Nat×Bool)} {K:(Nat→Value)→World→Prop}
theorem HQ {t e size bytes n:Nat} {ps:Array (Nat×Operand)} (rows:List (List Value)) (I:fK P t e size bytes=true) (hp:ps.toList.map (fun p=>(p.1,ev N σ p.2))=(rows.zipIdx 0).map fun q=>(q.2,bq q.1.toArray))
 (A:rows.all (fun r=>r.length==size)=true) (hn:rows.length=n) (hs:(lK (n*size) 1000 && e8 0 n && lK n 1000)=true)
 (k:∀ b w',b=w.heap.size→Nw w w'→w'.heap[b]? =some (.cells rows.flatten.toArray e (0,0))→K (fD σ dst<|.slice (some ⟨b,0,none⟩) n n) w'):cE P N ⟨dst,.buildSlice t n ps,ty,pos,af,g⟩ σ w K:=by
 subst hn
 refine l5 (v:=fun b=> .slice (some ⟨b,0,none⟩) rows.length rows.length) (ob:= .cells rows.flatten.toArray e (0,0)) ?_ k
 obtain ⟨hu,i,zv,hi,J,a,h2,h3,h4⟩:=n3 I
 simp only [fE] at hs
 have E:rows.length*size≤1000:=by simpa using hs.1.1
 have O:rows.length≤1000:=by simpa using hs.2
 have G:0 < rows.length:=by have :=ot hs.1.2; omega
 have c:kZ (fun i=>some (i*size,size)) ((nw<|rows.length*size).map (zv.cells[· % zv.cells.size]!)) (ps.toList.map fun p=>(p.1,ev N σ p.2))=some rows.flatten.toArray:=by
  rw [hp]
  have M:((nw<|rows.length*size).map (zv.cells[· % zv.cells.size]!)).toList.length=rows.length*size:=by simp
  have :=BZ (size:=size) rows 0 [] ((nw<|rows.length*size).map (zv.cells[· % zv.cells.size]!)).toList (by simp) M fun r C=>by have :=List.all_eq_true.1 A r C; simpa using this
  rw [lJ,lJ,u7] at this
  exact this
 simp only [execOp,Instr.buildSlice,pj,dj hu,ph,sizeOf,gd hi,qH,a,Sem.run_ite,zeroValue,J,kB,c]
 rw [if_neg (Nat.not_lt.2<|e9 E aw),if_neg (Nat.pos_iff_ne_zero.1<|Nat.mul_pos G h4)]
 simp [newRow]
end
section
variable {P:Program} {N:Fm} {σ:Nat→Value} {w:World} {dst:Option Nat} {ty:TypeId} {pos :String} {af:Array Edge} {g:Option (Nat×Bool)} {x y:Operand}
end
end Go.Hb
end
section
namespace Go.Hb.eO
open Go.Proofs
def lZ (l:List (Tx×Tx)):List Value:=l.flatMap fun p=> [str p.1,str p.2]
def lR (c:dz):List Value:= [aR c.flag,.int .i64 (c.kind:Nat),.bool c.fI,.int .i64 (c.first:Nat),.int .i64 (c.count:Nat)]
def lg (l:List dz):List Value:=l.flatMap lR
def dC (q:cG×Value):List Value:= [.int .i64 (q.1.kind:Nat),aR q.1.flag,.bool q.1.fI,str q.1.strip,str q.1.add,str q.1.cond,q.2]
def eC (l:List (cG×Value)):List Value:=l.flatMap dC
structure bT where
 rb:Nat
 fb:Nat
 ms:Nat
 mt:Nat
 mc:Nat
 eof:Nat
structure dQ where
 v9:Value
 v10:Value
 v11:Value
 v12:Value
 sa:List Value
 rn:List Value
structure fG where
 vr:Value
 vs:List (Nat×Value)
 vn:Value
def mB (F:aG) (V:dQ) (mc:Nat):List Value:= [.int .i64 (F.kind:Nat),str F.rk,str F.tr,aR (F.sp.getD 0 0),aR (F.sp.getD 1 0),aR (F.sp.getD 2 0),aR (F.sp.getD 3 0),aR (F.sp.getD 4 0),.int .i64 (F.least:Nat),V.v9,V.v10,V.v11,V.v12,.map (some mc)]
def sc (H:bT) (R:fG) (ln:Nat):List Value:= [.pointer (some ⟨H.fb,0,none⟩),R.vr,.int .i64 (ln:Nat),.int .i64 (H.eof:Nat),.map (some H.ms),.map (some H.mt),R.vn]
structure cK (w:World) (B fb mc:Nat) (F:aG) (V:dQ):Prop where
 cells:w.heap[fb]? =some (.cells (mB F V mc).toArray 125 (0,0))
 o9:bp w B 128 2 V.v9 F.c6.length (lZ F.c6)
 fZ:bp w B 70 1 V.v10 F.aliases.length V.sa
 al:dm w B 51 V.sa F.aliases
 fz:bp w B 131 5 V.v11 F.bu.length (lg F.bu)
 ea:bp w B 77 7 V.v12 F.rules.length (eC<|F.rules.zip V.rn)
 nx:dm w B 51 V.rn (F.rules.map (·.next))
 cm:∃ f,bU w.heap mc (ni .u16) f∧∀ x:Nat,f (aR x)=(F.bu.findIdx? fun c=>decide (c.flag=x)).map fun i:Nat=>Value.int .i64 i
 lo:B≤fb∧B≤mc
 jb:F.sp.length=5
theorem cK.md {G:Nat→Prop} {w w':World} {B fb mc:Nat} {F:aG} {V:dQ} (h:cK w B fb mc F V) (hm:Md G w w') {L:List Nat} (a:TF w L G) (c:(L.contains 127 || L.contains 130 || L.contains 72 || L.contains 53 || L.contains 133 || L.contains 79)=false) (E:¬G mc):cK w' B fb mc F V:=by
 simp only [n8] at c
 obtain ⟨⟨⟨⟨⟨h1,h2⟩,h3⟩,h4⟩,h5⟩,h6⟩:=c
 have i:∀ k,G k→∀ cur z,w.heap[k]?≠some (.cells cur 51 z):=fun k hk cur z C=>a.no (dt C) h4 hk
 obtain ⟨f,q,A⟩:=h.cm
 exact ⟨hm.im a h.cells h1,cW h.o9 hm a h2,cW h.fZ hm a h3,h.al.md hm i,cW h.fz hm a h5,cW h.ea hm a h6,h.nx.md hm i,⟨f,q.md hm E,A⟩,h.lo,h.jb⟩
theorem cK.wk {w w':World} {B fb mc:Nat} {F:aG} {V:dQ} (h:cK w B fb mc F V) (hm:Wk w w'):cK w' B fb mc F V:=h.md (L:= []) hm (fun _ hk=>hk.elim) rfl id
structure bW (w:World) (B:Nat) (H:bT) (F:aG) (R:fG) (rows:List Rw) (ln:Nat) (seen:List Tx):Prop where
 cells:w.heap[H.rb]? =some (.cells (sc H R ln).toArray 195 (0,0))
 rws:kG w B 209 rows.length R.vr (kU R.vs)
 rt:gv w B 9 R.vs rows
 sm:∃ f,bU w.heap H.ms gD f∧∀ s:Tx,(f<|str s).getD (.int .i64 0)= .int .i64 (seen.count s:Nat)
 tm:∃ f,bU w.heap H.mt (ni .u16) f∧∀ x:Nat,x≠0→(f<|aR x).getD (.int .i64 0)= .int .i64 ((if dS F x=true then 1 else 0:Nat):Nat)
 on :bp w B 3 1 R.vn F.rules.length (F.rules.map fun r=>Value.int .i64 (r.line:Nat))
 lo:B≤H.rb∧B≤H.ms∧B≤H.mt
 ne:H.ms≠H.mt∧H.ms≠H.mc∧H.mt≠H.mc
theorem bW.md {G:Nat→Prop} {w w':World} {B:Nat} {H:bT} {F:aG} {R:fG} {rows:List Rw} {ln:Nat} {seen:List Tx} (h:bW w B H F R rows ln seen) (hm:Md G w w') {L:List Nat} (a:TF w L G) (i:(L.contains 197 || L.contains 211 || L.contains 11 || L.contains 5)=false) (I:¬G H.ms) (J:¬G H.mt):bW w' B H F R rows ln seen:=by
 simp only [n8] at i
 obtain ⟨⟨⟨h1,h2⟩,h3⟩,h4⟩:=i
 obtain ⟨f,q,A⟩:=h.sm
 obtain ⟨g,C,E⟩:=h.tm
 exact ⟨hm.im a h.cells h1,h.rws.md hm (fun k hk cur z c=>a.no (dt c) h2 hk),h.rt.md hm (fun k hk cur z c=>a.no (dt c) h3 hk),⟨f,q.md hm I,A⟩,⟨g,C.md hm J,E⟩,cW h.on hm a h4,h.lo,h.ne⟩
theorem bW.wk {w w':World} {B:Nat} {H:bT} {F:aG} {R:fG} {rows:List Rw} {ln:Nat} {seen:List Tx} (h:bW w B H F R rows ln seen) (hm:Wk w w'):bW w' B H F R rows ln seen:=h.md (L:= []) hm (fun _ hk=>hk.elim) rfl id id
theorem bW.dR {w:World} {B:Nat} {H:bT} {F:aG} {R:fG} {rows:List Rw} {ln:Nat} {seen:List Tx} (h:bW w B H F R rows ln seen):Hb.aI w.heap H.rb 2=some (.int .i64 (ln:Nat)):=(aY h.cells).trans rfl
structure jg (F:aG) (rows:List Rw) (seen:List Tx):Prop where
 len:F.c6.length+F.aliases.length+F.bu.length+F.rules.length+rows.length≤70000
 sl:seen.length+rows.length≤70000
 row:∀ q∈rows,q.2≠[]∧q.2.length≤70000∧∀ x∈q.2,x.length≤70000
 kd:F.kind=1∨F.kind=2∨F.kind=3
 al:∀ l∈F.aliases,l.length≤64∧l.Pairwise (· < ·)
def St (w:World) (B:Nat) (H:bT) (F:aG) (rows:List Rw) (ln:Nat) (seen:List Tx):Prop := ∃ V R,cK w B H.fb H.mc F V∧bW w B H F R rows ln seen∧jg F rows seen
abbrev ed (B:Nat) (H:bT) (w w':World):Prop :=Mw [197,127,130,72,133,79,5] H.ms H.mt H.mc B w w'
theorem bW.cB {w w':World} {B:Nat} {H:bT} {F:aG} {R R':fG} {rows rows':List Rw} {ln ln':Nat} {seen:List Tx} (h:bW w B H F R rows ln seen) (hm:Md (fun k=>k=H.rb) w w') (A:w'.heap[H.rb]? =some (.cells (sc H R' ln').toArray 195 (0,0))) (J:R'.vn=R.vn) (G:kG w B 209 rows'.length R'.vr (kU R'.vs)) (I:gv w B 9 R'.vs rows'):bW w' B H F R' rows' ln' seen:=by
 obtain ⟨f,i,C⟩:=h.sm
 obtain ⟨g,q,E⟩:=h.tm
 have a:TF w [197] (fun k=>k=H.rb):=TF.eq (dt h.cells) aw
 exact ⟨A,G.md hm (fun k hk cur z c=>a.no (dt c) aw hk),I.md hm (fun k hk cur z c=>a.no (dt c) aw hk),⟨f,i.md hm (a.no (dw i) aw),C⟩,⟨g,q.md hm (a.no (dw q) aw),E⟩,J ▸ cW h.on hm a aw,h.lo,h.ne⟩
theorem gv.tl {w:World} {B e:Nat} {q:Nat×Value} {r:Rw} {vs:List (Nat×Value)} {rs:List Rw} (h:gv w B e (q::vs) (r::rs)):gv w B e vs rs:=⟨by have :=h.1; simpa using this,fun i a c h1 h2=>h.2 (i+1) a c h1 h2⟩
theorem cK.put {w w':World} {B fb mc:Nat} {F F':aG} {V:dQ} (h:cK w B fb mc F V) (hm:Md (fun k=>k=fb) w w') (q:w'.heap[fb]? =some (.cells (mB F' V mc).toArray 125 (0,0))) (h1:F'.c6=F.c6) (h2:F'.aliases=F.aliases) (h3:F'.bu=F.bu) (h4:F'.rules=F.rules) (h5:F'.sp.length=5):cK w' B fb mc F' V:=by
 have a:TF w [127] (fun k=>k=fb):=TF.eq (dt h.cells) aw
 have i:∀ k,k=fb→∀ cur z,w.heap[k]?≠some (.cells cur 51 z):=gz h.cells aw
 obtain ⟨f,c,A⟩:=h.cm
 exact ⟨q,h1 ▸ cW h.o9 hm a aw,h2 ▸ cW h.fZ hm a aw,h2 ▸ h.al.md hm i,h3 ▸ cW h.fz hm a aw,h4 ▸ cW h.ea hm a aw,h4 ▸ h.nx.md hm i,⟨f,c.md hm (a.no (dw c) aw),h3 ▸ A⟩,h.lo,h5⟩
theorem bW.fb {w w':World} {B:Nat} {H:bT} {F c:aG} {V:dQ} {R:fG} {rows:List Rw} {ln:Nat} {seen:List Tx} (h:bW w B H F R rows ln seen) (i:cK w B H.fb H.mc c V) (hm:Md (fun k=>k=H.fb) w w'):bW w' B H F R rows ln seen:=by
 have a:TF w [127] (fun k=>k=H.fb):=TF.eq (dt i.cells) aw
 obtain ⟨f,q,C⟩:=h.sm
 obtain ⟨g,A,E⟩:=h.tm
 exact h.md hm a aw (a.no (dw q) aw)<|a.no (dw A) aw
theorem cK.rb {w w':World} {B:Nat} {H:bT} {F a:aG} {V:dQ} {R:fG} {rows:List Rw} {ln:Nat} {seen:List Tx} (h:cK w B H.fb H.mc a V) (i:bW w B H F R rows ln seen) (hm:Md (fun k=>k=H.rb) w w'):cK w' B H.fb H.mc a V:=by
 have c:TF w [197] (fun k=>k=H.rb):=TF.eq (dt i.cells) aw
 obtain ⟨f,q,A⟩:=h.cm
 exact h.md hm c aw<|c.no (dw q) aw
theorem bW.congr {w:World} {B:Nat} {H:bT} {F F':aG} {R:fG} {rows:List Rw} {ln:Nat} {seen:List Tx} (h:bW w B H F R rows ln seen) (i:F'.rules=F.rules) (hd:∀ x,dS F' x=dS F x):bW w B H F' R rows ln seen:=by
 obtain ⟨g,a,c⟩:=h.tm
 exact ⟨h.cells,h.rws,h.rt,h.sm,⟨g,a,fun x q=>by rw [hd]; exact c x q⟩,i ▸ h.on,h.lo,h.ne⟩
theorem bW.rY {w w':World} {B:Nat} {H:bT} {F F':aG} {R:fG} {rows:List Rw} {ln:Nat} {seen:List Tx} {f:Value→Option Value} (h:bW w B H F R rows ln seen) (hm:Md (fun k=>k=H.mt) w w') (i:bU w'.heap H.mt (ni .u16) f) (E:F'.rules=F.rules) (hd:∀ x:Nat,x≠0→(f<|aR x).getD (.int .i64 0)= .int .i64 ((if dS F' x=true then 1 else 0:Nat):Nat)):bW w' B H F' R rows ln seen:=by
 obtain ⟨g,C,_⟩:=h.tm
 obtain ⟨f0,q,A⟩:=h.sm
 have a:TF w [1] (fun k=>k=H.mt):=TF.eq (dw C) aw
 exact ⟨hm.im a h.cells aw,h.rws.md hm (fun k hk cur z c=>a.no (dt c) aw hk),h.rt.md hm (fun k hk cur z c=>a.no (dt c) aw hk),⟨f0,q.md hm h.ne.1,A⟩,⟨f,i,hd⟩,E ▸ cW h.on hm a aw,h.lo,h.ne⟩
theorem cK.rY {w w':World} {B:Nat} {H:bT} {F a:aG} {V:dQ} {R:fG} {rows:List Rw} {ln:Nat} {seen:List Tx} (h:cK w B H.fb H.mc a V) (c:bW w B H F R rows ln seen) (hm:Md (fun k=>k=H.mt) w w'):cK w' B H.fb H.mc a V:=by
 obtain ⟨g,i,_⟩:=c.tm
 exact h.md (L:= [1]) hm (TF.eq (dw i) aw) aw fun h=>c.ne.2.2 h.symm
theorem ed.fb {w w':World} {B:Nat} {H:bT} {c:aG} {V:dQ} (a:cK w B H.fb H.mc c V) (hm:Md (fun k=>k=H.fb) w w'):ed B H w w':=Mw.of hm (TF.eq (dt a.cells) aw) fun k hk=>hk ▸ a.lo.1
theorem ed.rb {w w':World} {B:Nat} {H:bT} {F:aG} {R:fG} {rows:List Rw} {ln:Nat} {seen:List Tx} (a:bW w B H F R rows ln seen) (hm:Md (fun k=>k=H.rb) w w'):ed B H w w':=Mw.of hm (TF.eq (dt a.cells) aw) fun k hk=>hk ▸ a.lo.1
theorem ed.mt {w w':World} {B:Nat} {H:bT} {F:aG} {R:fG} {rows:List Rw} {ln:Nat} {seen:List Tx} (a:bW w B H F R rows ln seen) (hm:Md (fun k=>k=H.mt) w w'):ed B H w w':=hm.mono fun k _ hk=>⟨hk ▸ a.lo.2.2,.inr<|.inl hk⟩
def gM (B:Nat) (H:bT) (seen:List Tx) (X:Except (Nat×Nat) (aG×List Rw)) (w:World) (v:Value) (w':World):Prop :=v= .tuple #[]∧∃ F' rows' ln',X= .ok (F',rows')∧St w' B H F' rows' ln' seen∧ed B H w w'
def gL (B:Nat) (H:bT) (X:Except (Nat×Nat) (aG×List Rw)) (w:World) (c:List PanicEntry) (w':World):Prop := ∃ l e,X= .error (l,e)∧c=gB 47 l (e:Nat)∧ed B H w w'
def iU (F:aG) (seen:List Tx):Prop := ∀ k∈fC,k∉seen→F.sp.getD (fC.idxOf k) 0=0
theorem KS {F:aG} {i x:Nat} (hi:i < F.sp.length) (a:F.sp.getD i 0=0) (y:Nat) (A:y≠0):dS {F with sp:=F.sp.set i x} y=(decide (y=x) || dS F y):=by
 unfold dS
 show (decide (y∈F.sp.set i x) || _)=_
 rw [← Bool.or_assoc]
 congr 1
 rw [← Bool.decide_or,decide_eq_decide]
 constructor
 · intro h
   rcases zO h with h | h
   · exact .inr h
   · exact .inl h
 · rintro (h | h)
   · subst h; exact List.mem_set hi _
   · obtain ⟨j,q⟩:=zM h
     by_cases c:i=j
     · subst c
       rw [cX,q] at a
       exact absurd a A
     · exact gV (i:=j)<|by rw [jR,if_neg c]; exact q
theorem Tg.r4 {w:World} {B e q n cp b:Nat} {a:Option Addr} {xs:List Value} {cs:Array Value} {z:Nat×Nat} (h:Tg w B e n (.slice a n cp) xs) (I:xs≠[]) (c:w.heap[b]? =some (.cells cs q z)) (E:e≠q):¬(bk a=b):=by
 obtain ⟨J,M,G,_,C⟩:=h
 cases G
 rcases C with rfl | ⟨i,cur,z2,rfl,_,A,_⟩
 · exact absurd aa I
 · rintro rfl
   rw [show (bk<|some ⟨i,0,none⟩)=i from rfl] at c
   rw [A] at c
   simp only [eZ,sI] at c
   exact E c.2.1
theorem Mi {F:aG} {V:dQ} {mc i o x:Nat} (h5:F.sp.length=5) (hi:i < 5) (q:o=3 +i):(mB F V mc).set o (aR x)=mB {F with sp:=F.sp.set i x} V mc:=by
 subst q
 obtain ⟨k,cs,tr,sp,le,A,al,cl,ru⟩:=F
 match sp,h5 with
 | [a,b,c,d,e],_=>
   match i,hi with
   | 0,_=>rfl
   | 1,_=>rfl
   | 2,_=>rfl
   | 3,_=>rfl
   | 4,_=>rfl
theorem BB (b:Bool):decide (((if b=true then 1 else 0:Nat):Int)=0)= !b:=by cases b <;> rfl
theorem ER {x y:Nat} (h:aR x=aR y):x=y:=by unfold aR at h; injection h with _ h; omega
theorem EJ {F F':aG} {f:Value→Option Value} {x:Nat} (hd:dS F x=false) (i:∀ y:Nat,y≠0→(f<|aR y).getD (.int .i64 0)= .int .i64 ((if dS F y=true then 1 else 0:Nat):Nat)) (c:∀ y,y≠0→dS F' y=(decide (y=x) || dS F y)) (y:Nat) (a:y≠0):(bD f (aR x) (.int .i64 (1:Nat))<|aR y).getD (.int .i64 0)= .int .i64 ((if dS F' y=true then 1 else 0:Nat):Nat):=by
 rw [c y a]
 by_cases h:y=x
 · subst h; rw [r7]; simp
 · rw [qh (fun h2=>h<|ER h2),i y a]; simp [h]
theorem ig {G:Nat→Prop} {w w':World} (h:Md G w.drew w'):Md G w w':=⟨h.os,h.output,h.size,h.dO⟩
theorem dm.get {w:World} {B e i:Nat} {vs:List Value} {a:List (List Nat)} (h:dm w B e vs a) (hi:i < a.length):∃ v,vs[i]? =some v∧Tg w B e (a.getD i []).length v ((a.getD i []).map aR):=by
 have h1:i < vs.length:=by rw [h.1]; exact hi
 refine ⟨vs[i],cj h1,h.2 i _ _ (cj h1) ?_⟩
 rw [cX,cj hi]; rfl
theorem Tg.qe {w:World} {B e n cp:Nat} {a:Option Addr} {xs:List Value} (h:Tg w B e n (.slice a n cp) xs) (q:xs.length=n) (c:a=none):n=0:=by
 obtain ⟨C,G,A,_,i⟩:=h
 cases A
 rcases i with rfl | ⟨E,cur,z2,h2,_⟩
 · exact q.symm
 · rw [c] at h2; cases h2
theorem Tg.Dq {G:Nat→Prop} {w w':World} {B e n:Nat} {v:Value} {xs:List Value} (h:Tg w B e n v xs) (hm:Md G w w') (q:∀ k,G k→k < B):Tg w' B e n v xs:=by
 obtain ⟨a,cp,rfl,c,h | ⟨b,cur,z,rfl,A,i,C⟩⟩:=h
 · exact ⟨a,cp,aa,c,.inl h⟩
 · exact ⟨_,cp,aa,c,.inr ⟨b,cur,z,aa,A,by rw [hm.dO b (cy.1 i).1 (fun hk=>by have :=q b hk; omega)]; exact i,C⟩⟩
end Go.Hb.eO
end
section
namespace Go.Hb
abbrev aj (n:Nat):Value:= .int .i64 (n:Nat)
abbrev aW (b:Nat):Value:= .pointer<|some ⟨b,0,none⟩
variable {P:Program} {N:Fm} {ops:Array Oper} {Q:Exit→(Nat→Value)→World→Prop} {σ:Nat→Value} {w:World} {S:World→Prop} {r fuel:Nat} {aQ:Array Bool} {d:Nat} {op:Op} {ty:TypeId} {pos :String} {af:Array Edge} {v:Value}
theorem aJ (i:Nat) (hi:ops[i]? =some ⟨some d,op,ty,pos,af,none⟩) (q:∀ w,S w→(execOp (ev N σ) ⟨some d,op,ty,pos,af,none⟩).run P w= .ok (.value v) w) (a:S w) (k:eE P N ops Q S fuel (aQ.setIfInBounds i true) (cB σ d v) w) (c:gS N.F ops aQ i=true :=by kernel_rfl):eE P N ops Q S (fuel+1) aQ σ w:=hp i hi c q a k
theorem dU (i:Nat) (hi:ops[i]? =some ⟨some d,op,ty,pos,af,none⟩) (q:∀ w,S w→(execOp (ev N σ) ⟨some d,op,ty,pos,af,none⟩).run P w= .ok (.value v) w) (a:S w) (k:fS P N ops Q S r fuel (aQ.setIfInBounds i true) (cB σ d v) w) (c:xO N.F ops aQ r i=true :=by kernel_rfl):fS P N ops Q S r (fuel+1) aQ σ w:=iZ i hi c q a k
theorem bz (i:Nat) (hi:ops[i]? =some ⟨some d,op,ty,pos,af,none⟩) (q:∀ w,(execOp (ev N σ) ⟨some d,op,ty,pos,af,none⟩).run P w= .ok (.value v) w) (a:aQ.getD r false =false→S w) (k:fS P N ops Q S r fuel (aQ.setIfInBounds i true) (cB σ d v) w) (c:ua N.F ops aQ r i=true :=by kernel_rfl):fS P N ops Q S r (fuel+1) aQ σ w:=bX i hi c q a k
theorem bH {x:Operand} (i:Nat) (hi:ops[i]? =some ⟨some d,.move x,ty,pos,af,none⟩) (v:Value) (a:S w) (k:eE P N ops Q S fuel (aQ.setIfInBounds i true) (cB σ d v) w) (q:ev N σ x=v:=by exact aa) (c:gS N.F ops aQ i=true :=by kernel_rfl):eE P N ops Q S (fuel+1) aQ σ w:=hp i hi c (fun _ _=>aH v q) a k
theorem bl {x:Operand} (i:Nat) (hi:ops[i]? =some ⟨some d,.move x,ty,pos,af,none⟩) (v:Value) (a:S w) (k:fS P N ops Q S r fuel (aQ.setIfInBounds i true) (cB σ d v) w) (q:ev N σ x=v:=by exact aa) (c:ua N.F ops aQ r i=true :=by kernel_rfl):fS P N ops Q S r (fuel+1) aQ σ w:=bX i hi c (fun _=>aH v q) (fun _=>a) k
theorem bh {P:Program} {f:FuncId} {fn:Func} (c:P.funcs[f]? =some fn) (hn:(fn.name== "runtime.NumGoroutine")=false :=by kernel_rfl) (a:fn.body.isNone=false :=by kernel_rfl):bc P f:=Jg c hn a
section
variable {rest:List Oper} {x:Operand} {K:(Nat→Value)→World→Prop} {l:List Oper} {id:Nat} {y z:Code} {j t:Nat} {want b:Bool} {fn:Func} {R:Value→World→Prop}
theorem az (h:∀ {K:(Nat→Value)→World→Prop},(∀ {σ w},cH P N y Q σ w→kb K Q .normal σ w)→cH P N z (kb K Q) σ w):cH P N (.seq z y) Q σ w:=sq fun K a=>h fun hw=>a _ _ hw
theorem ak (h:∀ {K:(Nat→Value)→World→Prop},(∀ {σ w},cH P N y Q σ w→kb K Q .normal σ w)→dD P N l.toArray (kb K Q) l σ w) (c:qf N.r l=true :=by exact aa):cH P N (.seq (.region id l.toArray false) y) Q σ w:=sq fun K a=>rg c<|h fun hw=>a _ _ hw
theorem ay (h:Q .normal (cB σ d<|ev N σ x) w):dD P N ops Q [⟨some d,.assign x,ty,pos,af,none⟩] σ w:=p aA<|nl h
theorem bj {id:Nat} (h:Q (.exit id) σ w):kb K Q (.exit id) σ w:=h
theorem aK (h:(iN ops j,e8 t N.n,σ t,b==want)=(some t,true,.bool b,false)) (k:dD P N ops Q rest (cB σ d undef) w):dD P N ops Q (⟨some d,op,ty,pos,af,some (j,want)⟩::rest) σ w:=sk (congrArg gW h) (congrArg (·.2.1) h) (congrArg (·.2.2.1) h) (congrArg (·.2.2.2) h) k
theorem e7 (h:(iN ops j,e8 t N.n,σ t)=(some t,true,undef)) (k:dD P N ops Q rest (cB σ d undef) w):dD P N ops Q (⟨some d,op,ty,pos,af,some (j,want)⟩::rest) σ w:=uA (congrArg gW h) (congrArg (·.2.1) h) (congrArg (·.2.2) h) k
theorem aU (h:(iN ops j,e8 t N.n,σ t)=(some t,true,.bool want)) (a:(execOp (ev N σ) ⟨some d,op,ty,pos,af,some (j,want)⟩).run P w= .ok (.value v) w) (k:dD P N ops Q rest (cB σ d v) w):dD P N ops Q (⟨some d,op,ty,pos,af,some (j,want)⟩::rest) σ w:=pg (congrArg gW h) (congrArg (·.2.1) h) (congrArg (·.2.2) h) a k
theorem a8 (i:Nat) (h:(ops[i]?,iN ops j,e8 t N.n,σ t,b==want)=(some ⟨some d,op,ty,pos,af,some (j,want)⟩,some t,true,.bool b,false)) (a:S w) (k:eE P N ops Q S fuel (aQ.setIfInBounds i true) (cB σ d undef) w) (c:gS N.F ops aQ i=true :=by kernel_rfl):eE P N ops Q S (fuel+1) aQ σ w:=mE i (congrArg gW h) c (congrArg (·.2.1) h) (congrArg (·.2.2.1) h) (congrArg (·.2.2.2.1) h) (congrArg (·.2.2.2.2) h) a k
theorem bg (i:Nat) (h:(ops[i]?,iN ops j,e8 t N.n,σ t)=(some ⟨some d,op,ty,pos,af,some (j,want)⟩,some t,true,.bool want)) (q:∀ w,S w→(execOp (ev N σ) ⟨some d,op,ty,pos,af,some (j,want)⟩).run P w= .ok (.value v) w) (a:S w) (k:eE P N ops Q S fuel (aQ.setIfInBounds i true) (cB σ d v) w) (c:gS N.F ops aQ i=true :=by kernel_rfl):eE P N ops Q S (fuel+1) aQ σ w:=mD i (congrArg gW h) c (congrArg (·.2.1) h) (congrArg (·.2.2.1) h) (congrArg (·.2.2.2) h) q a k
theorem ba (h:(fn.results,ev N σ (.tmp t))=(#[.tmp t],v)) (a:R v w):fin P fn N R .ret σ w:=f1 (congrArg gW h) (congrArg Prod.snd h) a
theorem au (v:Value) (h:dD P N ops Q rest (cB σ d v) w) (a:ev N σ x=v:=by exact aa):dD P N ops Q (⟨some d,.move x,ty,pos,af,none⟩::rest) σ w:=p (aH v a) h
end
end Go.Hb
end
section
namespace Go.Hb.dG
open Go.Proofs
theorem z7:cR ao 113=some none:=ag
theorem qY:cR ao 123=some none:=ag
theorem qZ:cR ao 131=some (some 5):=ag
theorem G9:cR ao 136=some (some 2):=ag
theorem z8:cR ao 152=some none:=ag
theorem vK:cR ao 153=some none:=ag
theorem pG:cR ao 158=some none:=ag
theorem Aa:cR ao 184=some none:=ag
theorem pH:cR ao 187=some none:=ag
theorem pI:cR ao 193=some none:=ag
theorem Ab:cR ao 200=some none:=ag
theorem ti:cR ao 209=some (some 2):=ag
theorem m8:cR ao 22=some none:=ag
theorem lP:cR ao 268=some none:=ag
theorem nK:cR ao 27=some none:=ag
theorem k5:cR ao 270=some (some 1):=ag
theorem bK:cR ao 3=some none:=ag
theorem ji:cR ao 325=some (some 4):=ag
theorem oy:cR ao 340=some none:=ag
theorem oz:cR ao 4=some none:=ag
theorem k6:cR ao 41=some (some 5):=ag
theorem jz:cR ao 47=some (some 3):=ag
theorem vL:cR ao 5=some none:=ag
theorem bP:cR ao 51=some none:=ag
theorem Ac:cR ao 52=some (some 5):=ag
theorem Ad:cR ao 53=some none:=ag
theorem oA:cR ao 54=some none:=ag
theorem tj:cR ao 55=some none:=ag
theorem kh:cR ao 56=some none:=ag
theorem vM:cR ao 58=some (some 13):=ag
theorem eF:cR ao 60=some none:=ag
theorem Ha:cR ao 61=some none:=ag
theorem q4:cR ao 62=some none:=ag
theorem k8:cR ao 70=some none:=ag
theorem jD:cR ao 72=some (some 2):=ag
theorem tk:cR ao 75=some none:=ag
theorem jF:cR ao 77=some (some 7):=ag
theorem oB:cR ao 87=some none:=ag
theorem cO:cR ao 9=some none:=ag
theorem oC:oD ao 325=some (4,1):=ag
theorem Al:oD ao 351=some (256,1):=ag
theorem q7:oD ao 52=some (5,1):=ag
theorem Am:vP ao 325=some ([.int .u64 0,.int .u64 0,.int .u64 0,.int .u64 0]):=ag
theorem vT:tv ao 153 5 9=true :=ag
theorem HV:bc ao 109:=bh func109
theorem Ax:bc ao 111:=bh func111
theorem ki:bc ao 12:=bh func12
theorem vV:bc ao 125:=bh func125
theorem Ay:bc ao 126:=bh func126
theorem HW:bc ao 127:=bh func127
theorem HX:bc ao 128:=bh func128
theorem HY:bc ao 129:=bh func129
theorem vW:bc ao 13:=bh func13
theorem HZ:bc ao 130:=bh func130
theorem ri:bc ao 131:=bh func131
theorem H0:bc ao 132:=bh func132
theorem H2:bc ao 133:=bh func133
theorem H3:bc ao 134:=bh func134
theorem Az:bc ao 135:=bh func135
theorem mx:bc ao 136:=bh func136
theorem vX:bc ao 137:=bh func137
theorem tz:bc ao 138:=bh func138
theorem vY:bc ao 139:=bh func139
theorem AA:bc ao 140:=bh func140
theorem AB:bc ao 141:=bh func141
theorem H4:bc ao 142:=bh func142
theorem H5:bc ao 143:=bh func143
theorem AD:bc ao 144:=bh func144
theorem H6:bc ao 145:=bh func145
theorem H7:bc ao 146:=bh func146
theorem H8:bc ao 147:=bh func147
theorem AE:bc ao 148:=bh func148
theorem AF:bc ao 149:=bh func149
theorem H9:bc ao 150:=bh func150
theorem Ia:bc ao 151:=bh func151
theorem AG:bc ao 16:=bh func16
theorem Ib:bc ao 169:=bh func169
theorem AH:bc ao 189:=bh func189
theorem vZ:bc ao 19:=bh func19
theorem Ic:bc ao 190:=bh func190
theorem wa:bc ao 191:=bh func191
theorem AI:bc ao 192:=bh func192
theorem wc:bc ao 193:=bh func193
theorem Ie:bc ao 194:=bh func194
theorem wg:bc ao 195:=bh func195
theorem tA:bc ao 196:=bh func196
theorem wh:bc ao 197:=bh func197
theorem AJ:bc ao 198:=bh func198
theorem AK:bc ao 199:=bh func199
theorem tB:bc ao 20:=bh func20
theorem AL:bc ao 200:=bh func200
theorem If:bc ao 201:=bh func201
theorem Ig:bc ao 202:=bh func202
theorem AM:bc ao 203:=bh func203
theorem AN:bc ao 204:=bh func204
theorem AO:bc ao 205:=bh func205
theorem Ih:bc ao 206:=bh func206
theorem Ii:bc ao 207:=bh func207
theorem wi:bc ao 208:=bh func208
theorem AP:bc ao 209:=bh func209
theorem Ij:bc ao 21:=bh func21
theorem wj:bc ao 210:=bh func210
theorem wm:bc ao 211:=bh func211
theorem Ik:bc ao 212:=bh func212
theorem Il:bc ao 213:=bh func213
theorem Im:bc ao 227:=bh func227
theorem Io:bc ao 228:=bh func228
theorem Ip:bc ao 238:=bh func238
theorem Iq:bc ao 239:=bh func239
theorem nO:bc ao 24:=bh func24
theorem Ir:bc ao 240:=bh func240
theorem AQ:bc ao 241:=bh func241
theorem AR:bc ao 242:=bh func242
theorem Is:bc ao 243:=bh func243
theorem AS:bc ao 244:=bh func244
theorem It:bc ao 245:=bh func245
theorem Iu:bc ao 246:=bh func246
theorem Iv:bc ao 247:=bh func247
theorem Iw:bc ao 248:=bh func248
theorem Ix:bc ao 249:=bh func249
theorem wo:bc ao 25:=bh func25
theorem Iy:bc ao 250:=bh func250
theorem wq:bc ao 251:=bh func251
theorem Iz:bc ao 26:=bh func26
theorem AT:bc ao 264:=bh func264
theorem IA:bc ao 265:=bh func265
theorem wu:bc ao 266:=bh func266
theorem IB:bc ao 267:=bh func267
theorem wv:bc ao 268:=bh func268
theorem AU:bc ao 269:=bh func269
theorem IC:bc ao 27:=bh func27
theorem ID:bc ao 270:=bh func270
theorem IE:bc ao 279:=bh func279
theorem AV:bc ao 280:=bh func280
theorem IF:bc ao 281:=bh func281
theorem IG:bc ao 282:=bh func282
theorem IH:bc ao 283:=bh func283
theorem II:bc ao 284:=bh func284
theorem IJ:bc ao 285:=bh func285
theorem IK:bc ao 286:=bh func286
theorem IL:bc ao 287:=bh func287
theorem IM:bc ao 288:=bh func288
theorem kj:bc ao 289:=bh func289
theorem IN:bc ao 290:=bh func290
theorem IP:bc ao 291:=bh func291
theorem IQ:bc ao 297:=bh func297
theorem IS:bc ao 298:=bh func298
theorem AW:bc ao 299:=bh func299
theorem wx:bc ao 300:=bh func300
theorem AX:bc ao 301:=bh func301
theorem IT:bc ao 302:=bh func302
theorem wy:bc ao 308:=bh func308
theorem AY:bc ao 40:=bh func40
theorem IU:bc ao 41:=bh func41
theorem IV:bc ao 42:=bh func42
theorem IW:bc ao 45:=bh func45
theorem IX:bc ao 46:=bh func46
theorem IY:bc ao 47:=bh func47
theorem IZ:bc ao 48:=bh func48
theorem I0:bc ao 49:=bh func49
theorem I1:bc ao 50:=bh func50
theorem oF:bc ao 51:=bh func51
theorem I2:bc ao 52:=bh func52
theorem AZ:bc ao 53:=bh func53
theorem A0:bc ao 54:=bh func54
theorem A1:bc ao 55:=bh func55
theorem I3:bc ao 56:=bh func56
theorem wz:bc ao 57:=bh func57
theorem I4:bc ao 58:=bh func58
theorem rj:bc ao 59:=bh func59
theorem I5:bc ao 61:=bh func61
theorem wH:bc ao 70:=bh func70
theorem I6:bc ao 71:=bh func71
theorem I7:bc ao 79:=bh func79
theorem A2:bc ao 80:=bh func80
theorem A3:bc ao 81:=bh func81
theorem I8:bc ao 82:=bh func82
theorem I9:bc ao 83:=bh func83
theorem A4:bc ao 84:=bh func84
theorem fM:bc ao 85:=bh func85
theorem Ja:bc ao 86:=bh func86
theorem pN:bc ao 87:=bh func87
theorem Jb:bc ao 88:=bh func88
theorem Jc:bc ao 89:=bh func89
theorem Jd:bc ao 90:=bh func90
theorem wO:bc ao 91:=bh func91
theorem Je:bc ao 92:=bh func92
theorem A5:bc ao 93:=bh func93
theorem Jf:bc ao 94:=bh func94
theorem A6:bc ao 95:=bh func95
theorem A7:bc ao 96:=bh func96
theorem A8:bc ao 97:=bh func97
theorem Ka:∀ (l:List UInt8) (c:UInt8) (w:World),(callFunc 307 #[str l,.int .u8 c.toNat]).run ao w= .ok (.value<|.int .i64 (l.count c:Nat)) w:=Qk func307 ag ag ag ag
theorem KE:∀ v w,(callFunc 158 #[v]).run ao w= .ok (.value v) w:=fun v w=>ag
theorem oG:dM ao 131=some 5:=ag
theorem KF:dM ao 136=some 2:=ag
theorem KG:dM ao 152=some 1:=ag
theorem KH:dM ao 153=some 1:=ag
theorem KI:dM ao 158=some 1:=ag
theorem Bo:dM ao 187=some 1:=ag
theorem KJ:dM ao 202=some 2:=ag
theorem Bp:dM ao 209=some 2:=ag
theorem Bq:dM ao 268=some 1:=ag
theorem Bs:dM ao 27=some 1:=ag
theorem nP:dM ao 270=some 1:=ag
theorem lj:dM ao 3=some 1:=ag
theorem nb:dM ao 325=some 4:=ag
theorem tE:dM ao 340=some 1:=ag
theorem Bt:dM ao 4=some 1:=ag
theorem tF:dM ao 41=some 5:=ag
theorem gY:dM ao 47=some 3:=ag
theorem eJ:dM ao 51=some 1:=ag
theorem KK:dM ao 52=some 5:=ag
theorem Bu:dM ao 53=some 1:=ag
theorem Bv:dM ao 54=some 1:=ag
theorem Bw:dM ao 55=some 1:=ag
theorem Bx:dM ao 56=some 1:=ag
theorem xc:dM ao 58=some 13:=ag
theorem xd:dM ao 60=some 1:=ag
theorem By:dM ao 62=some 1:=ag
theorem pQ:dM ao 70=some 1:=ag
theorem gP:dM ao 72=some 2:=ag
theorem Bz:dM ao 75=some 1:=ag
theorem lT:dM ao 77=some 7:=ag
theorem KL:dM ao 87=some 1:=ag
theorem nd:dM ao 9=some 1:=ag
theorem LU:fY ao 137=some 2:=ag
theorem oK:fY ao 153=some 1:=ag
theorem pW:fY ao 187=some 2:=ag
theorem BO:fY ao 217=some 1:=ag
theorem BP:fY ao 268=some 4:=ag
theorem rF:fY ao 27=some 5:=ag
theorem xm:fY ao 54=some 1:=ag
theorem LV:fY ao 55=some 5:=ag
theorem km:fY ao 56=some 7:=ag
theorem xn:fY ao 62=some 2:=ag
theorem bE:fY ao 70=some 1:=ag
theorem pX:fY ao 75=some 1:=ag
theorem dN:fY ao 87=some 1:=ag
theorem BV:xu ao 58 8=some 12:=ag
theorem fj:cD ao 125 0=some 0:=ag
theorem Cl:cD ao 125 1=some 13:=ag
theorem xE:cD ao 131 0=some 0:=ag
theorem rI:cD ao 131 1=some 1:=ag
theorem Cm:cD ao 131 2=some 2:=ag
theorem Cn:cD ao 131 3=some 3:=ag
theorem tS:cD ao 131 4=some 4:=ag
theorem MA:cD ao 136 0=some 0:=ag
theorem MB:cD ao 136 1=some 1:=ag
theorem xF:cD ao 155 0=some 0:=ag
theorem tT:cD ao 155 1=some 1:=ag
theorem pZ:cD ao 183 0=some 0:=ag
theorem rJ:cD ao 183 1=some 1:=ag
theorem xG:cD ao 183 2=some 2:=ag
theorem xH:cD ao 183 3=some 3:=ag
theorem Co:cD ao 183 4=some 4:=ag
theorem Cp:cD ao 183 5=some 5:=ag
theorem tU:cD ao 186 0=some 0:=ag
theorem Cq:cD ao 186 1=some 1:=ag
theorem fJ:cD ao 195 0=some 0:=ag
theorem rK:cD ao 195 1=some 1:=ag
theorem rL:cD ao 195 2=some 2:=ag
theorem MC:cD ao 195 3=some 3:=ag
theorem p4:cD ao 195 4=some 4:=ag
theorem xI:cD ao 195 5=some 5:=ag
theorem xJ:cD ao 195 6=some 6:=ag
theorem Cr:cD ao 202 0=some 0:=ag
theorem Cs:cD ao 202 1=some 1:=ag
theorem tV:cD ao 209 0=some 0:=ag
theorem rM:cD ao 209 1=some 1:=ag
theorem kL:cD ao 270 0=some 0:=ag
theorem tW:cD ao 41 0=some 0:=ag
theorem rN:cD ao 41 1=some 1:=ag
theorem kn:cD ao 41 2=some 2:=ag
theorem ko:cD ao 41 3=some 3:=ag
theorem mC:cD ao 41 4=some 4:=ag
theorem p5:cD ao 58 0=some 0:=ag
theorem MD:cD ao 58 1=some 1:=ag
theorem ME:cD ao 58 2=some 2:=ag
theorem tX:cD ao 58 3=some 3:=ag
theorem xK:cD ao 58 4=some 8:=ag
theorem tY:cD ao 58 5=some 9:=ag
theorem ng:cD ao 58 6=some 10:=ag
theorem p6:cD ao 58 7=some 11:=ag
theorem lV:cD ao 58 8=some 12:=ag
theorem tZ:cD ao 64 0=some 0:=ag
theorem MF:cD ao 64 1=some 1:=ag
theorem rO:cD ao 64 2=some 2:=ag
theorem xL:cD ao 64 3=some 15:=ag
theorem rP:cD ao 72 0=some 0:=ag
theorem oM:cD ao 72 1=some 1:=ag
theorem xM:cD ao 77 0=some 0:=ag
theorem rQ:cD ao 77 2=some 2:=ag
theorem p7:cD ao 77 3=some 3:=ag
theorem xN:cD ao 77 4=some 4:=ag
theorem Ct:cD ao 77 5=some 5:=ag
theorem nS:cD ao 77 6=some 6:=ag
theorem Nv:(ao.info? 155).isSome=true :=ag
theorem NN:∀ (l:List UInt8) (c:UInt8) (w:World),(callFunc 292 #[str l,.int .u8 c.toNat]).run ao w= .ok (.value<|.int .i64<|dT c l) w:=Ql func292 ag ag ag ag
theorem oP:mo ao 51 (ni .u16):=NW (q:= .u16) ag
theorem gp:mo ao 9 gD:=NX ag
theorem yg:oT ao 47=true :=ag
theorem PI:ptrTo ao 227 5=true :=ag
theorem QF:fK ao 137 136 2 32=true :=ag
theorem oZ:fK ao 153 5 1 1=true :=ag
theorem Es:fK ao 187 209 2 32=true :=ag
theorem uC:fK ao 268 325 4 32=true :=ag
theorem uD:fK ao 27 41 5 48=true :=ag
theorem uE:fK ao 53 128 2 32=true :=ag
theorem uF:fK ao 54 70 1 24=true :=ag
theorem uG:fK ao 55 131 5 40=true :=ag
theorem qi:fK ao 56 77 7 88=true :=ag
theorem uH:fK ao 62 72 2 40=true :=ag
theorem uI:fK ao 70 51 1 2=true :=ag
theorem o0:fK ao 75 3 1 8=true :=ag
theorem ka:fK ao 87 9 1 16=true :=ag
theorem QV:jt ao 125=some ([(0,13),(13,1)],[.int .i64 0,.string ⟨⟨[]⟩⟩,.string ⟨⟨[]⟩⟩,.int .u16 0,.int .u16 0,.int .u16 0,.int .u16 0,.int .u16 0,.int .i64 0,.slice none 0 0,.slice none 0 0,.slice none 0 0,.slice none 0 0,.map none]):=ag
theorem QW:jt ao 128=some ([(0,1),(1,1)],[.string ⟨⟨[]⟩⟩,.string ⟨⟨[]⟩⟩]):=ag
theorem yR:jt ao 131=some ([(0,1),(1,1),(2,1),(3,1),(4,1)],[.int .u16 0,.int .i64 0,.bool false,.int .i64 0,.int .i64 0]):=ag
theorem yS:jt ao 136=some ([(0,1),(1,1)],[.slice none 0 0,.int .i64 0]):=ag
theorem QX:jt ao 183=some ([(0,1),(1,1),(2,1),(3,1),(4,1),(5,1)],[.pointer none,.slice none 0 0,.int .i64 0,.string ⟨⟨[]⟩⟩,.slice none 0 0,.nilFunc]):=ag
theorem QY:jt ao 186=some ([(0,1),(1,1)],[.slice none 0 0,.map none]):=ag
theorem QZ:jt ao 195=some ([(0,1),(1,1),(2,1),(3,1),(4,1),(5,1),(6,1)],[.pointer none,.slice none 0 0,.int .i64 0,.int .i64 0,.map none,.map none,.slice none 0 0]):=ag
theorem kW:jt ao 202=some ([(0,1),(1,1)],[.int .i64 0,.nilFunc]):=ag
theorem Q0:jt ao 209=some ([(0,1),(1,1)],[.int .i64 0,.slice none 0 0]):=ag
theorem sr:jt ao 270=some ([(0,1)],[.slice none 0 0]):=ag
theorem Ew:jt ao 41=some ([(0,1),(1,1),(2,1),(3,1),(4,1)],[.string ⟨⟨[]⟩⟩,.int .i64 0,.int .i64 0,.int .i64 0,.int .i64 0]):=ag
theorem qj:jt ao 47=some ([(0,1),(1,1),(2,1)],[.int .i64 0,.int .i64 0,.int .i64 0]):=ag
theorem Q1:jt ao 64=some ([(0,1),(1,1),(2,13),(15,1)],[.pointer none,.pointer none,.int .i64 0,.string ⟨⟨[]⟩⟩,.string ⟨⟨[]⟩⟩,.int .u16 0,.int .u16 0,.int .u16 0,.int .u16 0,.int .u16 0,.int .i64 0,.slice none 0 0,.slice none 0 0,.slice none 0 0,.slice none 0 0,.slice none 0 0]):=ag
theorem lz:jt ao 72=some ([(0,1),(1,1)],[.string ⟨⟨[]⟩⟩,.slice none 0 0]):=ag
theorem yT:jt ao 77=some ([(0,1),(1,1),(2,1),(3,1),(4,1),(5,1),(6,1)],[.int .i64 0,.int .u16 0,.bool false,.string ⟨⟨[]⟩⟩,.string ⟨⟨[]⟩⟩,.string ⟨⟨[]⟩⟩,.slice none 0 0]):=ag
theorem o4:ao.underlying 123=some (.map 51 3):=ag
theorem RC:ao.underlying 137=some (.slice 136):=ag
theorem EP:ao.underlying 152=some (.pointer 155):=ag
theorem n5:ao.underlying 153=some (.slice 5):=ag
theorem ES:ao.underlying 184=some (.map 9 75):=ag
theorem uO:ao.underlying 187=some (.slice 209):=ag
theorem n6:ao.underlying 193=some (.map 9 3):=ag
theorem kz:ao.underlying 197=some (.map 9 202):=ag
theorem ET:ao.underlying 217=some (.slice 51):=ag
theorem sv:ao.underlying 22=some (.pointer 64):=ag
theorem EU:ao.underlying 226=some (.int .u64):=ag
theorem n7:ao.underlying 268=some (.slice 325):=ag
theorem qo:ao.underlying 27=some (.slice 41):=ag
theorem u3:ao.underlying 3=some (.int .i64):=ag
theorem RD:ao.underlying 340=some (.int .u64):=ag
theorem u4:ao.underlying 4=some (.bool):=ag
theorem u5:ao.underlying 5=some (.int .u8):=ag
theorem uP:ao.underlying 51=some (.int .u16):=ag
theorem RE:ao.underlying 53=some (.slice 128):=ag
theorem uQ:ao.underlying 54=some (.slice 70):=ag
theorem EV:ao.underlying 55=some (.slice 131):=ag
theorem qp:ao.underlying 56=some (.slice 77):=ag
theorem sw:ao.underlying 60=some (.pointer 125):=ag
theorem EW:ao.underlying 61=some (.pointer 186):=ag
theorem uR:ao.underlying 62=some (.slice 72):=ag
theorem mN:ao.underlying 70=some (.slice 51):=ag
theorem sx:ao.underlying 75=some (.slice 3):=ag
theorem gU:ao.underlying 87=some (.slice 9):=ag
theorem u9:ao.underlying 9=some (.string):=ag
theorem E0:sy ao 152 279 155 2=true :=ag
theorem RJ:(ao.underlying 158).isSome=true :=ag
theorem RK:(ao.underlying 226).isSome=true :=ag
theorem qt:(ao.underlying 3).isSome=true :=ag
theorem sA:(ao.underlying 5).isSome=true :=ag
theorem wide:ao.follows .mixedOrders=true :=ag
theorem qz:zeroOf ao 131=some (some [.int .u16 0,.int .i64 0,.bool false,.int .i64 0,.int .i64 0]):=ag
theorem Sg:zeroOf ao 136=some (some [.slice none 0 0,.int .i64 0]):=ag
theorem Ft:zeroOf ao 155=some (some [.pointer none,.slice none 0 0]):=ag
theorem Sh:zeroOf ao 187=some (some [.slice none 0 0]):=ag
theorem Si:zeroOf ao 202=some (some [.int .i64 0,.nilFunc]):=ag
theorem Fu:zeroOf ao 209=some (some [.int .i64 0,.slice none 0 0]):=ag
theorem Fv:zeroOf ao 27=some (some [.slice none 0 0]):=ag
theorem uY:zeroOf ao 270=some (some [.slice none 0 0]):=ag
theorem Sj:zeroOf ao 3=some (some [.int .i64 0]):=ag
theorem o5:zeroOf ao 325=some (some [.int .u64 0,.int .u64 0,.int .u64 0,.int .u64 0]):=ag
theorem Sk:zeroOf ao 340=some (some [.int .u64 0]):=ag
theorem uZ:zeroOf ao 41=some (some [.string ⟨⟨[]⟩⟩,.int .i64 0,.int .i64 0,.int .i64 0,.int .i64 0]):=ag
theorem mR:zeroOf ao 47=some (some [.int .i64 0,.int .i64 0,.int .i64 0]):=ag
theorem Sl:zeroOf ao 52=some (some [.int .u16 0,.int .u16 0,.int .u16 0,.int .u16 0,.int .u16 0]):=ag
theorem Fw:zeroOf ao 58=some (some [.int .i64 0,.string ⟨⟨[]⟩⟩,.string ⟨⟨[]⟩⟩,.int .u16 0,.int .u16 0,.int .u16 0,.int .u16 0,.int .u16 0,.int .i64 0,.slice none 0 0,.slice none 0 0,.slice none 0 0,.slice none 0 0]):=ag
theorem Sm:zeroOf ao 60=some (some [.pointer none]):=ag
theorem lD:zeroOf ao 72=some (some [.string ⟨⟨[]⟩⟩,.slice none 0 0]):=ag
theorem nv:zeroOf ao 77=some (some [.int .i64 0,.int .u16 0,.bool false,.string ⟨⟨[]⟩⟩,.string ⟨⟨[]⟩⟩,.string ⟨⟨[]⟩⟩,.slice none 0 0]):=ag
theorem Sn:zeroOf ao 87=some (some [.slice none 0 0]):=ag
theorem Sp:zeroOf ao 9=some (some [.string ⟨⟨[]⟩⟩]):=ag
theorem Sq:zeroOf ao 351=some (some<|iK 256<|.bool false):=ag
theorem Sr:zeroV ao 202=some (.agg #[.int .i64 0,.nilFunc]):=ag
theorem mS:zeroV ao 3=some (.int .i64 0):=ag
theorem Ss:zeroV ao 47=some (.agg #[.int .i64 0,.int .i64 0,.int .i64 0]):=ag
theorem Su:zeroV ao 5=some (.int .u8 0):=ag
theorem Sv:zeroV ao 51=some (.int .u16 0):=ag
theorem Sw:zeroV ao 75=some (.slice none 0 0):=ag
end Go.Hb.dG
end
section
namespace Go.Hb
open Go.Hb.dG
open Go.Proofs
theorem Km (b:Nat) (c:Option Addr) (q:Value) (w:World) (a:w.heap[b]? =some (.cells [vo c,q].toArray 155 (0,0))) (hp:c=none∨c=some ⟨b,0,none⟩):
 bd ao 109 (a7 [aW b]) w (fun v w'=>v= .tuple #[]∧w'.heap[b]? =some (.cells [vo (some ⟨b,0,none⟩),q].toArray 155 (0,0))∧Md (fun k=>k=b) w w'):=by
 refine enter func109 aa ntmps109 aa<|ak fun A=>au (aW b)<|p (nc aa)<|p (fa xF aa)<|p (ld z8 aa<|(aY a).trans aa)<|p (lU EP aa aa)<|nl<|A<|cb aa (fun i=> ?_) fun i=> ?_
 obtain rfl :c=none:=by simpa using i
 exact rg aa<|au (aW b)<|au (aW b)<|p (Rr E0 aa a aa)<|p (JZ KE aa)<|p (MM E0 aa a aa)<|p (nc aa)<|p (fa xF aa)<|e<|dF KG aa aa aa a (by simp) fun I G E=>nl<|f0 aa<|⟨aa,E,G⟩
 obtain rfl :c=some ⟨b,0,none⟩:=hp.resolve_left<|by rintro rfl; simp at i
 exact ak fun C=>au (aW b)<|p (nc aa)<|p (fa xF aa)<|p (ld z8 aa<|(aY a).trans aa)<|au (aW b)<|p (OR EP Nv aa aa)<|nl<|C<|cf aa<|aO<|f0 aa<|⟨aa,a,Md.refl _ _⟩
theorem Fl (b:Nat) (i:Value) (l:List UInt8) (c:UInt8) (w:World) (ai:Bd 155 5 w b i l) (ax:l.length≤70368744177664):
 bd ao 203 (a7 [aW b,.int .u8 c.toNat]) w (fun v w'=>v= .nilIface∧∃ E,Bd 155 5 w' b E (l++ [c])∧Md (BF b i) w w'∧∀ k,BF b E k→BF b i k∨w.heap.size≤k):=by
 obtain ⟨⟨ar,M,an⟩,hown,hnil⟩:=ai
 have az:b < w.heap.size:=(cy.1 M).1
 have O:∀ k,i.ownBlock=some k→k≠b∧k < w.heap.size:=fun k hk=>by have :=hown.lt k hk; exact ⟨ab,this.2⟩
 refine enter func203 aa ntmps203 aa<|ak fun V=>ay<|V<|ak fun Y=>au (aW b)<|e<|cl HV (Km b ar i w M an) aa fun v6 aH ah=> ?_
 obtain ⟨_,J,A⟩:=ah
 have am:=cx hown A fun k hk=>(O k hk).1
 have aC:=A.size
 refine nl<|Y<|ak fun Z=>au (aW b)<|au (aW b)<|p (nc aa)<|p (fa tT aa)<|p (ld vK aa<|(aY J).trans aa)<|au (.int .u8 c.toNat)<|e<|lf oZ aa aa fun av aD aw q ae=>e<|ap oZ (aX am q.md) aa (by have :=q.size; omega) aa (aE.fA ae) (aa) (aa) ab ab fun U aF C G aq al=> ?_
 have aj:=G.aB (Wk.aB q.md J) fun h=>(O b h).1 rfl
 refine p (nc aa)<|p (fa tT aa)<|e<|dF KH aa aa (by obtain ⟨a,c,h,_⟩:=qg C; exact congrArg eW h) aj (by simp) fun aG I ag=>nl<|Z<|ak fun ac=>p aA<|nl<|ac<|rt<|ba aa ?_
 have ad:∀ k,U.ownBlock=some k→k≠b:=fun k hk=>by have :=C.lt k hk; omega
 refine ⟨aa,U,⟨⟨_,ag,.inr aa⟩,?_,?_⟩,?_,?_⟩
 rw [bJ,tc]; exact cx C I fun k hk=>ad k hk
 rw [aq]; simp
 refine Md.trans' (Md.trans' (Md.trans' (A.mono fun k _ h=> .inl h) q.md fun _ _ h=>h.elim) G fun k _ h=> .inr h) I fun k _ h=> .inl h
 rintro k (rfl | hk)
 exact .inl<|.inl aa
 by_cases h:i.ownBlock=some k
 exact .inl<|.inr h
 have :=al k hk; have h1:=A.size; have h2:=q.md.size; exact .inr<|by rcases this with h3 | h3; exact absurd h3 h; omega
theorem yX (b:Nat) (C:Value) (l:List UInt8) (w:World) (M:Bd 155 5 w b C l) (Y:l.length≤70368744177664):
 bd ao 70 (a7 [aW b]) w (fun v w'=>v=str l∧Md (fun k=>C.ownBlock=some k) w w'):=by
 obtain ⟨⟨ad,E,Z⟩,hown,hnil⟩:=M
 obtain ⟨a,c,rfl,U,hle,hk,V⟩:=qg hown
 refine enter func70 aa ntmps70 aa<|ak fun G=>ay<|G<|az fun I=> ?_
 have i:(fun w'=>Md (fun k=>(bB a l.length c).ownBlock=some k) w w') w.drew:=(Md.refl _ _).drew
 refine bM (fun w'=>Md (fun k=>(bB a l.length c).ownBlock=some k) w w') aa wide i<|bH 0 aa (aW b) i<|aJ 1 aa (fun _ _=>nc aa) i<|aJ 2 aa (fun _ _=>fa tT aa) i<|aJ 3 aa (fun w' q=>ld vK aa<|q.aI ((aY E).trans aa) fun h=>by have :=hown.lt _ h; omega) i<|bH 5 aa (aW b) i<|aJ 6 aa (fun _ _=>nc aa) i<|aJ 7 aa (fun _ _=>fa tT aa) i<|aJ 8 aa (fun w' q=>ld vK aa<|q.aI ((aY E).trans aa) fun h=>by have :=hown.lt _ h; omega) i<|aJ 9 aa (fun _ _=>bO n5 aa aa) i ?_
 refine aJ 4 aa (fun _ _=>RL (v:= .nilFunc) aa (by
  by_cases h:l= []
  have :=hnil.2 h; simp only [lF] at this; exact .inl this.1
  right; have :0 < l.length:=List.length_pos_iff.2 h; omega)) i ?_
 refine he 10 aa ag<|RM PI aa aa hown aa ab fun O J ac=> ?_
 have A:(fun w'=>Md (fun k=>(bB a l.length c).ownBlock=some k) w w') O:=i.trans' J fun _ _ h=>h
 refine ⟨A,?_⟩
 exact aJ 11 aa (fun _ _=>aA) A<|hn ag<|I<|rt<|ba aa<|⟨aa,A⟩
end Go.Hb
end
