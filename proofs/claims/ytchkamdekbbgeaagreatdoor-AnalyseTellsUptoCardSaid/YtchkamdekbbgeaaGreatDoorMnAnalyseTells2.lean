/-
  Walks and plain laws that the law rests on, laid together. No conditions but those that each theorem names.
-/
import Derived.Test.YtchkamdekbbgeaaGreatDoorMnAnalyseTells1
set_option linter.unusedVariables false
set_option maxRecDepth 20000
set_option maxHeartbeats 1000000
open Array renaming foldl_toList→HF,getElem?_eq_some_iff→cY,getElem?_setIfInBounds_ne→rT,getElem?_setIfInBounds_self_of_lt→rU,length_toList→tD,range→ov,toArray_toList→xf,toList_filter→xg,toList_inj→xh,toList_map→lH,toList_modify→xi,toList_push→A7
open Bool renaming and_eq_true→gd,eq_iff_iff→pc,noConfusion→dA,or_eq_false_iff→pd
open Except.ok renaming injEq→qp
open Go.Calls renaming mono→ju
open Go.CallsD renaming mono→HP
open Go.Code renaming wp_mono→HQ
open Go.Deferred renaming ofValue→pf
open Go.Extern.BytealgCount renaming count→Wo
open Go.Extern.BytealgIndexByte renaming indexByte→Wp
open Go.Extern renaming find→HV,findNext→HW
open Go.Fence renaming wide→ox
open Go.Instr renaming checkKey→mN,entryStore→HY,field→HZ,fill→lI,findKey→qs,findNow→qt,keyThatStays→A9,mapEntry→Ba,mapUpdate→Bb,sameBits→H3,sameNow→Bc,sliceAt→qu,sliceBounds→nI,sureAddr→ph,typeAssert→H4
open Go.Lib renaming indexByte→H5,run_clear_slice→H6
open Go.Obj.cells renaming injEq→tK
open Go.Oper renaming semAt_eq→H7,upon→kz,uponIn→xq,wp→iW
open Go.Program renaming underlying→H8
open Go.Proofs.Tryz renaming prog→au
open Go.Region renaming Mode→qw,ready→jv
open Go.Result renaming andThen_ok→l7
open Go.Rows renaming mono→Bo
open Go.Sem renaming run→qy,run_bind→l8,run_pure→oA
open Go.Value renaming agg→bw,bool→bO,oneCell'→et,ownBlock→iz,pointer→xu,slice→bD,tuple→jw
open Go.Value.slice renaming injEq→l9
open Go.World renaming alloc_heap_new→Ih,frozen?→Ii,ownsRow→bm,putObj_heap_other→xv,putObj_heap_same→Ij,setCell→xw
open List.Pairwise renaming filter→Ws,imp→Wt
open List renaming append_nil→eM,drop_eq_nil_of_le→kX,eq_nil_of_length_eq_zero→fR,ext_getElem?→nK,filterMap_cons→xA,filter_cons→pA,filter_eq_self→xB,flatMap_cons→jg,flatMap_map→Iu,flatMap_nil→Bz,foldl_cons→r5,getD_cons_succ→Iv,getD_cons_zero→ma,getD_eq_getElem?_getD→cM,getElem?_append_left→me,getElem?_append_right→mR,getElem?_cons_zero→xC,getElem?_eq_getElem→bZ,getElem?_eq_some_iff→eu,getElem?_inj→BB,getElem?_map→eR,getElem?_modify→Iy,getElem?_of_mem→tW,getElem?_set→ki,getElem?_toArray→IA,length_append→bK,length_cons→bU,length_drop→gy,length_filter_le→mT,length_map→eX,length_nil→gz,length_replicate→mU,length_singleton→ic,length_take→dB,mapM_toArray→tZ,map_append→gA,map_cons→nM,map_map→IB,mem_append→kY,mem_append_left→xG,mem_append_right→ua,mem_cons→dR,mem_cons_of_mem→nN,mem_cons_self→mV,mem_flatMap→oB,mem_map→gK,mem_map_of_mem→qB,mem_of_getElem?→gB,mem_or_eq_of_mem_set→BE,mem_range→mW,mem_singleton→iX,nil_append→nO,nodup_append→ub,nodup_cons→xH,not_mem_nil→uc,pairwise_lt_range→xJ,pairwise_map→xK,range→fD,replicate→iY,size_toArray→nP,take_append→qD,take_of_length_le→eN,take_take→IP,take_zero→oC,toArray→aX,zipIdx_cons→xL
open Nat renaming ble→mh,blt→gh,eq_zero_or_pos→IW,le_of_ble_eq_true→pC,le_refl→cw,lt_or_ge→ig,min_eq_left→nR,mul_le_mul_right→oD,mul_one→oE,succ_mul→oF,zero_le→mi
open Option renaming bind_some→oG,map_eq_some_iff→mj,map_some→jU
open Option.some renaming inj→xN,injEq→fE
open Prod renaming fst→fS,snd→kA
open Prod.mk renaming injEq→uh
open UInt8 renaming toNat→I3,toNat_inj→pE,toNat_lt→ji
open Go.Proofs.Tryz
open Go.RowKit Go.Proofs
section
set_option linter.unusedSimpArgs false
namespace Go.Hb
open Classical
structure kE (P:Program) (k:TypeId) (isK:Value→Prop):Prop where
 key:se P k isK
 stays:∀ w v,isK v→(A9 v v).run P w= .ok v w
def hU (v:Value):Prop := ∃ s:List UInt8,v=str s
def jn (q:IntKind) (v:Value):Prop := ∃ a:Int,v= .int q a
theorem D0 {d:TypeDesc} {isK:Value→Prop} (hs:∀ x y,isK x→isK y→∃ c,Bc d x y=some c∧(c=true↔x=y)) {x:Value} (E:isK x):∀ (es:List MapEntry) (i:Nat),(∀ e∈es,isK e.key)→
 (qt d x es i=some none∧∀ e∈es,e.key≠x)∨∃ j e,qt d x es i=some (some (i+j,e.val))∧es[j]? =some e∧e.key=x
 | [],i,_=> .inl ⟨rfl,fun _ h=>by simp at h⟩
 | e::es,i,h=>by
   obtain ⟨c,h1,h2⟩:=hs x e.key E<|h e<|by simp
   cases c with
   | true =>exact .inr ⟨0,e,by simp [qt,h1],rfl,(h2.1 rfl).symm⟩
   | false =>
     have I:e.key≠x:=fun G=>by cases h2.2 G.symm
     rcases D0 hs E es (i+1) (fun e he=>h e<|by simp [he]) with ⟨h3,h4⟩ | ⟨j,A,h3,h4,h5⟩
     · refine .inl ⟨by simp [qt,h1,h3],fun A C=> ?_⟩
       rcases dR.1 C with rfl | C
       · exact I
       · exact h4 A C
     · refine .inr ⟨j+1,A,?_,h4,h5⟩
       simp only [qt,h1,h3]; rw [show i+1 +j=i+(j+1) from by omega]
theorem E9 {P:Program} {k:TypeId} {d:TypeDesc} {isK:Value→Prop} (hk:P.underlying k=some d) (hs:∀ x y,isK x→isK y→∃ c,Bc d x y=some c∧(c=true↔x=y)) (A:∀ em w v,isK v→(mN em 10000 k v).run P w= .ok () w):se P k isK where
 check:=A
 find w x es hx hes:=by
  rcases D0 hs hx es 0 hes with ⟨h1,h2⟩ | ⟨j,e,h1,h2,h3⟩
  · exact .inl ⟨by simp [qs,cT hk,h1],h2⟩
  · exact .inr ⟨j,e,by simp [qs,cT hk,h1],h2,h3⟩
theorem x6 (a b:ByteArray):(a==b)=decide (a=b):=by
 rw [pc,decide_eq_true_iff]
 show ((a.data==b.data)=true)↔_
 rw [beq_iff_eq]
 exact ⟨fun h=>by cases a; cases b; cases h; rfl,fun h=>by rw [h]⟩
theorem QV {P:Program} {k:TypeId} (hk:P.underlying k=some .string):kE P k hU where
 key:=E9 hk (by
  rintro _ _ ⟨a,rfl⟩ ⟨b,rfl⟩
  refine ⟨_,aa,?_⟩
  rw [x6,decide_eq_true_iff]
  constructor
  · intro h; unfold str; rw [h]
  · intro h; unfold str at h; cases h; rfl) (by rintro em w _ ⟨a,rfl⟩; exact C0 (n:=9999) hk w)
 stays w v hv:=by obtain ⟨a,rfl⟩:=hv; simp [A9,H3,str,x6]
theorem L5 {P:Program} {k:TypeId} {q r:IntKind} {em:Bool} {n:Nat} {a:Int} (hk:P.underlying k=some (.int q)) (w:World):(mN em (n+1) k<|.int r a).run P w= .ok () w:=by
 simp only [mN,l8,cT hk,l7,oA]
theorem E8 {P:Program} {k:TypeId} {q r:IntKind} (hk:P.underlying k=some (.int q)):kE P k (jn r) where
 key:=E9 hk (by
  rintro _ _ ⟨a,rfl⟩ ⟨b,rfl⟩
  refine ⟨decide (a=b),by simp [Bc]; rfl,?_⟩
  rw [decide_eq_true_iff]
  exact ⟨fun h=>by rw [h],fun h=>by cases h; rfl⟩) (by rintro em w _ ⟨a,rfl⟩; exact L5 (n:=9999) hk w)
 stays w v hv:=by obtain ⟨a,rfl⟩:=hv; simp [A9,H3]
def bQ (h:Array Obj) (b:Nat) (isK:Value→Prop) (f:Value→Option Value):Prop :=
 ∃ kvs,pJ h b kvs∧(∀ p∈kvs,isK p.1)∧(kvs.map fS).Nodup∧∀ k v,f k=some v↔(k,v)∈kvs
theorem bQ.md {F:Nat→Prop} {w w':World} {b:Nat} {isK:Value→Prop} {f:Value→Option Value} (h:bQ w.heap b isK f) (hm:Md F w w') (c:¬F b):bQ w'.heap b isK f:=
 let ⟨kvs,h1,h2⟩:=h; ⟨kvs,h1.md hm c,h2⟩
theorem bQ.wk {w w':World} {b:Nat} {isK:Value→Prop} {f:Value→Option Value} (h:bQ w.heap b isK f) (hm:Wk w w'):bQ w'.heap b isK f:=h.md hm id
theorem bQ.nil {h:Array Obj} {b:Nat} {isK:Value→Prop} {c:Nat} (hm:h[b]? =some (.map #[] c)):bQ h b isK fun _=>none:=
 ⟨[],⟨_,_,hm,rfl⟩,fun p hp=>(by simp at hp),(by simp),fun k v=>by simp⟩
theorem bQ.isMap {h:Array Obj} {b:Nat} {isK:Value→Prop} {f:Value→Option Value} (hm:bQ h b isK f):∃ es c,h[b]? =some (.map es c):=let ⟨_,⟨es,c,h1,_⟩,_⟩:=hm; ⟨es,c,h1⟩
theorem bQ.mF {h:Array Obj} {b:Nat} {isK:Value→Prop} {f:Value→Option Value} (hm:bQ h b isK f) {cur:Array Value} {e:TypeId} {z:Nat×Nat} :h[b]?≠some (.cells cur e z):=by
 obtain ⟨es,c,h1⟩:=hm.isMap; rw [h1]; intro h; cases h
noncomputable def bu (f:Value→Option Value) (k v:Value):Value→Option Value:=fun q=>if q=k then some v else f q
theorem lV (f:Value→Option Value) (k v:Value):bu f k v k=some v:=if_pos rfl
theorem ky {f:Value→Option Value} {k v q:Value} (h:q≠k):bu f k v q=f q:=if_neg h
section
variable {P:Program} {N:Fm} {σ:Nat→Value} {w:World} {dst:Option Nat} {ty:TypeId} {pos :String} {af:Array Edge} {g:Option (Nat×Bool)} {x y z:Operand} {K:(Nat→Value)→World→Prop}
variable {t k e:TypeId} {isK:Value→Prop} {b:Nat} {f:Value→Option Value} {kx v zv:Value}
theorem Fp {ok:Bool} (C:P.underlying t=some (.map k e)) (I:zeroV P e=some zv) (A:kE P k isK) (hm:bQ w.heap b isK f) (E:ev N σ x= .map (some b)) (G:ev N σ y=kx) (hi:isK kx):
 (execOp (ev N σ) ⟨dst,.lookup t x y ok,ty,pos,af,g⟩).run P w= .ok (.value (if ok then .tuple #[(f kx).getD zv,.bool (f kx).isSome] else (f kx).getD zv)) w:=by
 obtain ⟨kvs,h1,h2,h3,h4⟩:=hm
 cases hf:f kx with
 | none=>exact Rl C I A.key h1 h2 E G hi fun v c=>by rw [← h4] at c; rw [hf] at c; cases c
 | some v=>exact Rk C A.key h1 h2 E G hi h3<|(h4 kx v).1 hf
theorem kN (A:P.underlying t=some (.map k e)) (I:zeroV P e=some zv) (c:kE P k isK) (hm:bQ w.heap b isK f) (E:ev N σ x= .map (some b)) (G:ev N σ y=kx) (hi:isK kx) (C:(f kx).getD zv=v):
 (execOp (ev N σ) ⟨dst,.lookup t x y false,ty,pos,af,g⟩).run P w= .ok (.value v) w:=by
 rw [Fp A I c hm E G hi,C]; rfl
theorem Fq {ob:Bool} (C:P.underlying t=some (.map k e)) (J:zeroV P e=some zv) (c:kE P k isK) (hm:bQ w.heap b isK f) (G:ev N σ x= .map (some b)) (I:ev N σ y=kx) (hi:isK kx) (E:(f kx).getD zv=v) (A:(f kx).isSome=ob):
 (execOp (ev N σ) ⟨dst,.lookup t x y true,ty,pos,af,g⟩).run P w= .ok (.value<|.tuple #[v,.bool ob]) w:=by
 rw [Fp C J c hm G I hi,E,A]; rfl
theorem Hi (ag:P.underlying t=some (.map k e)) (O:kE P k isK) (hm:bQ w.heap b isK f) (hi:isK kx):
 ∃ w',(Bb t (.map<|some b) kx v).run P w= .ok () w'∧Md (fun j=>j=b) w w'∧bQ w'.heap b isK (bu f kx v):=by
 obtain ⟨kvs,⟨es,c,J,he⟩,h2,h3,h4⟩:=hm
 have Z:=(cY.1 J).1
 rcases O.key.find w kx es.toList hi (yP he h2) with ⟨h1,ao⟩ | ⟨j,Y,h1,E,h5⟩
 · have ae:∀ u,(kx,u)∉kvs:=fun u hu=>by
    rw [← he] at hu
    obtain ⟨ah,al,ai⟩:=gK.1 hu
    cases ai
    exact ao ah al aa
   refine ⟨{w with heap:=w.heap.setIfInBounds b<|.map (es.push {key:=kx,val:=v,born:=c})<|c+1},by simp [Bb,cT ag,run_getObj_map J,O.key.check _ w kx hi,h1,setObj,qy,J],⟨aa,aa,by simp,fun i _ G=>by simp only; rw [rT (fun e=>G e.symm)]⟩,kvs++ [(kx,v)],⟨_,_,by simp only; rw [rU Z],by simp [he]⟩,?_,?_,?_⟩
   · intro p hp
     rcases kY.1 hp with hp | hp
     · exact h2 p hp
     · rw [iX.1 hp]; exact hi
   · rw [gA,ub]
     refine ⟨h3,by simp,?_⟩
     intro a aj aq ab ak
     simp at ab
     subst ak ab
     obtain ⟨p,hp,ap⟩:=gK.1 aj
     exact ae p.2<|by rw [← ap]; exact hp
   · intro q u
     unfold bu
     rw [kY,iX]
     by_cases C:q=kx
     · subst C
       rw [if_pos rfl]
       constructor
       · intro h; cases h; exact .inr rfl
       · rintro (h | h)
         · exact absurd h<|ae u
         · cases h; rfl
     · rw [if_neg C,h4]
       constructor
       · exact .inl
       · rintro (h | h)
         · exact h
         · cases h; exact absurd rfl C
 · have au:j < es.size:=by have :=(eu.1 E).1; simpa using this
   have ac:es[j]? =some Y:=by simpa using E
   refine ⟨{w with heap:=w.heap.setIfInBounds b<|.map (es.modify j fun e=> {e with key:=kx,val:=v}) c},?_,⟨aa,aa,by simp,fun i _ G=>by simp only; rw [rT (fun e=>G e.symm)]⟩,kvs.set j (kx,v),⟨_,_,by simp only; rw [rU Z],?_⟩,?_,?_,?_⟩
   · have hs:=O.stays w kx hi
     simp [Bb,cT ag,run_getObj_map J,O.key.check _ w kx hi,h1,ac,h5,hs,setObj,qy,J]
   · rw [← he]
     apply nK
     intro i
     simp only [xi,eR,Iy,ki,eX]
     by_cases I:j=i
     · subst I; rw [E]; simp; have :=(eu.1 E).1; simpa using this
     · simp [I]
   · intro p hp
     rcases BE hp with hp | hp
     · exact h2 p hp
     · rw [hp]; exact hi
   · have :(kvs.set j (kx,v)).map fS=kvs.map fS:=by
      apply nK
      intro i
      simp only [eR,ki]
      by_cases I:j=i
      · subst I
        rw [← he]; simp only [eR,E,eX]
        have :=(eu.1 E).1
        simp [this,h5]
        simpa using this
      · simp [I]
     rw [this]; exact h3
   · intro q u
     have V:kvs[j]? =some (kx,Y.val):=by rw [← he]; simp [E,h5,ac]
     have ad:=(eu.1 V).1
     have an:(kx,v)∈kvs.set j (kx,v):=gB (i:=j)<|by rw [ki,if_pos rfl,if_pos ad]
     unfold bu
     by_cases C:q=kx
     · subst C
       rw [if_pos rfl]
       constructor
       · intro h; cases h; exact an
       · intro h
         obtain ⟨i,A⟩:=tW h
         rw [ki] at A
         split at A
         · rename_i am
           subst am
           cases A; rfl
         · rename_i G
           exfalso
           exact G<|(BB (i:=j) (j:=i) (by simpa using ad) h3).1<|by simp [V,A]
     · rw [if_neg C,h4]
       constructor
       · intro h
         obtain ⟨i,A⟩:=tW h
         have G:j≠i:=by rintro rfl; rw [V] at A; cases A; exact C rfl
         exact gB (i:=i)<|by rw [ki,if_neg G]; exact A
       · intro h
         rcases BE h with h | h
         · exact h
         · cases h; exact absurd rfl C
theorem qn (C:P.underlying t=some (.map k e)) (c:kE P k isK) (hm:bQ w.heap b isK f) (E:ev N σ x= .map (some b)) (G:ev N σ y=kx) (I:ev N σ z=v) (hi:isK kx)
 (J:∀ w',Md (fun j=>j=b) w w'→bQ w'.heap b isK (bu f kx v)→K σ w'):cJ P N ⟨none,.mapUpdate t x y z,ty,pos,af,g⟩ σ w K:=by
 obtain ⟨w',h1,h2,h3⟩:=Hi (v:=v) C c hm hi
 have A:(execOp (ev N σ) ⟨none,.mapUpdate t x y z,ty,pos,af,g⟩).run P w= .ok .skip w':=by
  simp [execOp,E,G,I,h1]
 unfold cJ iW
 rw [gN,A]
 exact ⟨σ,aa,J w' h2 h3⟩
theorem ly (C:P.underlying t=some (.map k e)) (c:kE P k isK) (hm:bQ w.heap b isK f) (E:ev N σ x= .map (some b)) (G:ev N σ y=kx) (I:ev N σ z=v) (hi:isK kx)
 (J:∀ w',Md (fun j=>j=b) w w'→bQ w'.heap b isK (bu f kx v)→K σ w'):cJ P N ⟨none,.insert t x y z,ty,pos,af,g⟩ σ w K:=by
 obtain ⟨w',h1,h2,h3⟩:=Hi (v:=v) C c hm hi
 have A:(execOp (ev N σ) ⟨none,.insert t x y z,ty,pos,af,g⟩).run P w= .ok .skip w':=by
  simp [execOp,E,G,I,h1]
 unfold cJ iW
 rw [gN,A]
 exact ⟨σ,aa,J w' h2 h3⟩
end
end Go.Hb
end
section
namespace Go.Hb
section
variable {P:Program} {N:Fm} {σ:Nat→Value} {w:World} {fn:Func} {R:Value→World→Prop}
theorem Rv {t b off :Nat} {v:Value} (hu:c4 P t=some none) (c:Hb.aM w.heap b off =some v):(loadVar t ⟨b,off,none⟩).run P w= .ok v w:=by
 have A:w.cell? ⟨b,off,none⟩=some v:=by rw [mo]; exact c
 unfold c4 at hu
 cases hd:P.underlying t with
 | none=>rw [hd] at hu; cases hu
 | some d=>
   rw [hd] at hu
   cases d <;> first
    | (simp only [mj] at hu; obtain ⟨_,_,h⟩:=hu; cases h; done)
    | simp [loadVar,isAgg,cT hd,run_load,A]
theorem Rx {t n b off :Nat} {cs:List Value} (hu:c4 P t=some (some n)) (E:cs.length=n) (A:∀ j,j < n→Hb.aM w.heap b (off+j)=cs[j]?):(loadVar t ⟨b,off,none⟩).run P w= .ok (.agg cs.toArray) w:=by
 have C:(loadCells ⟨b,off,none⟩ n).run P w= .ok cs.toArray w:=by
  subst E
  refine run_loadCells_list (P:=P) w ⟨b,off,none⟩ cs fun j v c=> ?_
  rw [k4,mo]
  exact (A j (eu.1 c).1).trans c
 unfold c4 at hu
 cases hd:P.underlying t with
 | none=>rw [hd] at hu; cases hu
 | some d=>
   rw [hd] at hu
   cases hi:P.info? t with
   | none=>simp [H8,hi] at hd
   | some i=>
     rw [hi] at hu
     cases d <;> first
      | (cases hu; done)
      | (simp only [jU,fE] at hu; subst hu
         simp [loadVar,isAgg,cT hd,sizeOf,gI hi,C])
def ml (P:Program) (N:Fm) (σ:Nat→Value) (w:World):ResultVar→Value→Prop
 | .tmp t,v=>ev N σ (.tmp t)=v
 | .cell a t,v=> ∃ ad,ev N σ (.tmp a)= .pointer (some ad)∧(loadVar t ad).run P w= .ok v w
theorem ek {t:Tmp} :ml P N σ w (.tmp t) (ev N σ<|.tmp t):=rfl
theorem Al {a t b off :Nat} {v:Value} (A:ev N σ (.tmp a)= .pointer (some ⟨b,off,none⟩)) (hu:c4 P t=some none) (c:Hb.aM w.heap b off =some v):ml P N σ w (.cell a t) v:=⟨_,A,Rv hu c⟩
theorem dN {a t n b off :Nat} {cs:List Value} (C:ev N σ (.tmp a)= .pointer (some ⟨b,off,none⟩)) (hu:c4 P t=some (some n)) (A:cs.length=n) (c:∀ j,j < n→Hb.aM w.heap b (off+j)=cs[j]?):ml P N σ w (.cell a t) (.agg cs.toArray):=⟨_,C,Rx hu A c⟩
def ny (tmps:Array Value):ResultVar→Sem Value
 | .tmp t=>pure<|tmps.getD t undef
 | .cell a t=>do loadVar t (← asAddr (tmps.getD a undef))
theorem lY {r:ResultVar} {v:Value} (h:ml P N σ w r v):(ny (act N σ).tmps r).run P w= .ok v w:=by
 cases r with
 | tmp t=>
   show qy P (pure<|(act N σ).tmps.getD t undef) w=_
   rw [mM]; simp only [ml] at h; rw [h]; rfl
 | cell a t=>
   obtain ⟨ad,h1,h2⟩:=h
   show qy P (do loadVar t (← asAddr ((act N σ).tmps.getD a undef))) w=_
   rw [mM,h1]
   simp [asAddr,h2]
theorem TK {tmps:Array Value} {r:ResultVar} {v:Value} (h:fn.results= #[r]) (h1:(ny tmps r).run P w= .ok v w):(results fn tmps).run P w= .ok v w:=by
 have c:(results fn tmps)=(do let vs ← #[r].mapM (ny tmps); pure (if h:vs.size=1 then vs[0] else .tuple vs)):=by
  unfold results; rw [h]; rfl
 rw [c]; simp [tZ,h1]
theorem vO {tmps:Array Value} {r s:ResultVar} {v u:Value} (h:fn.results= #[r,s]) (h1:(ny tmps r).run P w= .ok v w) (h2:(ny tmps s).run P w= .ok u w):(results fn tmps).run P w= .ok (.tuple #[v,u]) w:=by
 have c:(results fn tmps)=(do let vs ← #[r,s].mapM (ny tmps); pure (if h:vs.size=1 then vs[0] else .tuple vs)):=by
  unfold results; rw [h]; rfl
 rw [c]; simp [tZ,h1,h2]
theorem TL {tmps:Array Value} {r s q:ResultVar} {v u z:Value} (h:fn.results= #[r,s,q]) (h1:(ny tmps r).run P w= .ok v w) (h2:(ny tmps s).run P w= .ok u w) (h3:(ny tmps q).run P w= .ok z w):(results fn tmps).run P w= .ok (.tuple #[v,u,z]) w:=by
 have c:(results fn tmps)=(do let vs ← #[r,s,q].mapM (ny tmps); pure (if h:vs.size=1 then vs[0] else .tuple vs)):=by
  unfold results; rw [h]; rfl
 rw [c]; simp [tZ,h1,h2,h3]
theorem sL {r:ResultVar} {v:Value} (h:fn.results= #[r]) (h1:ml P N σ w r v) (c:R v w):fin P fn N R .ret σ w:=⟨v,TK h (lY h1),c⟩
theorem eU {r s:ResultVar} {v u:Value} (h:fn.results= #[r,s]) (h1:ml P N σ w r v) (h2:ml P N σ w s u) (c:R (.tuple #[v,u]) w):fin P fn N R .ret σ w:=⟨_,vO h (lY h1) (lY h2),c⟩
theorem DN {r s q:ResultVar} {v u z:Value} (h:fn.results= #[r,s,q]) (h1:ml P N σ w r v) (h2:ml P N σ w s u) (h3:ml P N σ w q z) (c:R (.tuple #[v,u,z]) w):fin P fn N R .ret σ w:=⟨_,TL h (lY h1) (lY h2) (lY h3),c⟩
end
end Go.Hb
end
section
namespace Go.Hb
def nB (P:Program) (N:Fm) (c:Code) (B:Exit→Act→World→Prop) (σ:Nat→Value) (w:World):Prop :=c.wpIn (fe N.r) 0 P B (act N σ) w
def qb (N:Fm) (B:Exit→Act→World→Prop):Exit→(Nat→Value)→World→Prop :=fun e σ w=>B e (act N σ) w
section
variable {P:Program} {N:Fm} {B:Exit→Act→World→Prop} {σ:Nat→Value} {w:World}
theorem gv {x y:Code} (h:nB P N x (Exit.then (y.wpIn (fe N.r) 0 P B) B) σ w):nB P N (.seq x y) B σ w:=wpIn_seq h
theorem gF {y:Code} (h:nB P N y B σ w):qb N (Exit.then (y.wpIn (fe N.r) 0 P B) B) .normal σ w:=h
theorem prt {y:Act→World→Prop} (h:qb N B .ret σ w):qb N (Exit.then y B) .ret σ w:=h
theorem Am (h:qb N B .ret σ w):nB P N .ret B σ w:=wpIn_ret h
theorem hY {c:Code} (h:di P N c (qb N B) σ w):nB P N c B σ w:=by
 unfold di at h
 refine wpIn_mono h ?_
 intro e a w A
 cases e with
 | panic c=>obtain ⟨σ,rfl,C⟩:=A; exact C σ fun _ _=>rfl
 | outgrown=>exact A.elim
 | _=>obtain ⟨σ,rfl,C⟩:=A; exact C
end
theorem vT (fn:Func) (args:List Value) (F:List Nat) (hn:mh args.length fn.ntmps=true):({tmps:=args.toArray++Array.replicate (fn.ntmps - args.toArray.size) undef,defers:= []} :Act)=act ⟨fn.ntmps,[],F,none⟩ (lF args):=by
 have c:args.length≤fn.ntmps:=by simpa using hn
 refine ur aa fun i=> ?_
 rw [n2]
 simp only [lF,cM,nP]
 by_cases h1:i < args.length
 · rw [Array.getElem?_append_left (by simpa using h1),if_pos ab]
   simp [h1]
 · rw [Array.getElem?_append_right (by simpa using h1)]
   simp only [nP,Array.getElem?_replicate]
   by_cases h2:i < fn.ntmps
   · rw [if_pos ab,if_pos h2,List.getElem?_eq_none ab]; rfl
   · rw [if_neg ab,if_neg h2]
abbrev Bm (P:Program) (fn:Func) (R:Value→World→Prop):Exit→Act→World→Prop :=bodyPostM ox 0 P fn (fun e w'=> ∃ v,e= .returned v∧R v w')
theorem DH {P:Program} {f:FuncId} {N:Nat} {fn:Func} {c:Code} {args:List Value} {w:World} {R:Value→World→Prop} (F:List Nat) (E:P.funcs[f]? =some fn) (C:fn.body=some c)
 (A:fn.ntmps=N) (hn:mh args.length N=true) (h:nB P ⟨N,[],F,none⟩ c (Bm P fn R) (lF args) w):ba P f args.toArray w R:=by
 subst A
 refine callsIn_wide.1<|callsIn_of_wp_marks (F:=ox) (n:=0) E C trivial ?_
 rw [vT fn args F hn]
 exact h
section
variable {P:Program} {n:Nat} {F:List Nat} {σ:Nat→Value} {w:World} {fn:Func} {R:Value→World→Prop}
theorem Q7 {e:Exit} (he:e= .ret∨e= .normal) {v:Value} (A:(results fn (act ⟨n,[],F,none⟩ σ).tmps).run P w= .ok v w) (c:R v w):qb ⟨n,[],F,none⟩ (Bm P fn R) e σ w:=by
 rcases he with rfl | rfl <;> exact ⟨v,A,v,rfl,c⟩
theorem DL {t u:Nat} {v c:Value} (h:fn.results= #[.tmp t,.tmp u]) (C:ev ⟨n,[],F,none⟩ σ (.tmp t)=v) (hu:ev ⟨n,[],F,none⟩ σ (.tmp u)=c) (A:R (.tuple #[v,c]) w):qb ⟨n,[],F,none⟩ (Bm P fn R) .ret σ w:=
 Q7 (.inl rfl) (by rw [results_tmp2 h,mM,mM,C,hu]) A
theorem Q8 {D:Nat} {v:Value} (c:w.heap[D]? =some (.deferred<|some [])) (C:∀ w',(results fn (act ⟨n,[{target:= .collected D,args:= #[]}],F,none⟩ σ).tmps).run P w'= .ok v w') (A:R v (w.putObj D<|.deferred none)):
 qb ⟨n,[{target:= .collected D,args:= #[]}],F,none⟩ (Bm P fn R) .ret σ w:=
 ⟨FrameMode.noConfusion,.inl ⟨_,_,rfl,run_takeDeferred c,⟨v,C _,v,rfl,A⟩⟩⟩
theorem DM {D t u:Nat} {v c:Value} (h:fn.results= #[.tmp t,.tmp u]) (E:ev ⟨n,[{target:= .collected D,args:= #[]}],F,none⟩ σ (.tmp t)=v) (hu:ev ⟨n,[{target:= .collected D,args:= #[]}],F,none⟩ σ (.tmp u)=c)
 (A:w.heap[D]? =some (.deferred<|some [])) (C:R (.tuple #[v,c]) (w.putObj D<|.deferred none)):qb ⟨n,[{target:= .collected D,args:= #[]}],F,none⟩ (Bm P fn R) .ret σ w:=
 Q8 A (fun w'=>by rw [results_tmp2 h,mM,mM,E,hu]) C
end
theorem dS {w:World} {B t size n pp c:Nat} {v:Value} {xs:List Value} {cs:Array Value} {z:Nat×Nat} (h:w.ownsRow B t size v n xs) (hp:w.heap[pp]? =some (.cells cs c z)) (C:t≠c):v.ownBlock≠some pp:=by
 intro hk
 rcases h.2 with ⟨h1,_⟩ | ⟨g,cap,cur,h1,_,A,_⟩
 · rw [h1] at hk; simp [iz] at hk
 · rw [h1] at hk
   simp only [iz,fE] at hk
   subst hk
   rw [A] at hp
   simp only [fE,tK] at hp
   exact C hp.2.1
section
variable {P:Program} {N:Fm} {σ:Nat→Value} {w:World} {dst:Option Nat} {ty:TypeId} {pos :String} {af:Array Edge} {g:Option (Nat×Bool)} {x:Operand} {K:(Nat→Value)→World→Prop}
theorem sw {e:TypeId} {v:Value} (c:ev N σ x=v) (h1:v.oneCell'=true) (k:∀ b w',b=w.heap.size→Nw w w'→w'.heap[b]? =some (.cells [v].toArray e (0,0))→K (eW σ dst<|.pointer<|some ⟨b,0,none⟩) w'):
 cJ P N ⟨dst,.box e x,ty,pos,af,g⟩ σ w K:=by
 refine l3 (v:=fun b=> .pointer<|some ⟨b,0,none⟩) (ob:= .cells [v].toArray e (0,0)) ?_ k
 have :=oX h1
 simp [execOp,Instr.box,c,this,newVar,newRow]
end
theorem rp (w:World) (k:Nat) (o:Obj):Md (fun j=>j=k) w (w.putObj k o):=
 ⟨rfl,rfl,by simp [World.putObj],fun j _ c=>xv c⟩
def jk (w w':World):Prop := ∀ (k:Nat) (o:Obj),w.heap[k]? =some o→(∀ cur e z,o≠.cells cur e z)→w'.heap[k]? =some o
theorem jk.trans {a b c:World} (h:jk a b) (A:jk b c):jk a c:=fun k o C hn=>A k o (h k o C hn) hn
theorem jk.md {F:Nat→Prop} {w w':World} (hm:Md F w w') (C:∀ k,F k→∃ cur e z,w.heap[k]? =some (.cells cur e z)):jk w w':=fun k o A hn=>by
 rw [hm.gp k (cY.1 A).1 (fun hk=>by obtain ⟨c,e,z,h⟩:=C k hk; rw [A] at h; exact hn _ _ _<|xN h)]; exact A
theorem jk.wk {w w':World} (hm:Wk w w'):jk w w':=jk.md hm fun _ h=>h.elim
theorem td {w:World} {B e size n:Nat} {v:Value} {xs:List Value} (h:w.ownsRow B e size v n xs):∀ k,v.ownBlock=some k→∃ cur e z,w.heap[k]? =some (.cells cur e z):=by
 intro k hk
 rcases h.2 with ⟨rfl,_⟩ | ⟨g,cap,A,rfl,_,c,_⟩
 · simp [iz] at hk
 · simp only [iz,fE] at hk; subst hk; exact ⟨_,_,_,c⟩
def Jd {α:Type} (B:Nat) (c:List α→World→Prop):Prop := ∀ pre W W' (F:Nat→Prop),c pre W→Md F W W'→(∀ k,F k→B≤k∧∀ cur e z,W.heap[k]?≠some (.cells cur e z))→c pre W'
section
variable {F:Nat→Prop} {W W':World} {B:Nat}
theorem wm {b e:Nat} {cs:Array Value} {z:Nat×Nat} (h:W.heap[b]? =some (.cells cs e z)) (hm:Md F W W') (c:∀ k,F k→B≤k∧∀ cur e z,W.heap[k]?≠some (.cells cur e z)):W'.heap[b]? =some (.cells cs e z):=by
 rw [hm.gp b (cY.1 h).1 (fun hk=>(c b hk).2 _ _ _ h)]; exact h
theorem GR {B' e size n:Nat} {v:Value} {xs:List Value} (h:W.ownsRow B' e size v n xs) (hm:Md F W W') (A:∀ k,F k→B≤k∧∀ cur e z,W.heap[k]?≠some (.cells cur e z)):W'.ownsRow B' e size v n xs:=
 cz h hm fun k hk C=>by obtain ⟨c,e,z,h1⟩:=td h k hk; exact (A k C).2 _ _ _ h1
theorem GS {w:World} (h:Wk w W) (hm:Md F W W') (C:w.heap.size≤B) (c:∀ k,F k→B≤k∧∀ cur e z,W.heap[k]?≠some (.cells cur e z)):Wk w W':=Md.trans' h hm fun k hk A=>by have :=(c k A).1; omega
end
def BL {α:Type} (P:Program) (I:Nat) (J:Array Value) (G:α→Array Value) (xs:List α) (E:World→Prop):Prop :=
 ∀ (l:Nat) (c:List α→World→Prop) (W:World),c [] W→(∀ pre W,c pre W→E W)→(∀ pre A C,c pre A→Wk A C→c pre C)→
   (∀ pre x rest A,xs=pre++x::rest→c pre A→YieldAt ox 0 P l (G x) A fun e W'=>e= .returned (.bool true)∧c (pre++ [x]) W')→
   Calls P I (#[.func (.yield l) #[] #[]]++J) W fun e W'=>(∃ v,e= .returned v)∧c xs W'
def TH (R:World→Prop):Exit→(Nat→Value)→World→Prop
 | .normal,_,w=>R w
 | _,_,_=>False
theorem Jg (N:Fm):∀ (l:List (Tmp×Value)) (σ:Nat→Value),l.foldl (fun t p=>t.setIfInBounds p.1 p.2) (act N σ).tmps=(act N<|l.foldl (fun s p=>dq s p.1 p.2) σ).tmps:=by
 intro l
 induction l with
 | nil=>intro σ; rfl
 | cons p l c=>
   intro σ
   rw [r5,r5,← c]
   congr 1
   have :=congrArg Act.tmps<|jZ N σ (some p.1) p.2
   exact this
theorem Gj {α:Type} {P:Program} {id n:Nat} {g:Operand} {ps:Array Tmp} {ae body:Code} {Fx:List Nat} {σ:Nat→Value} {w:World} {B:Exit→Act→World→Prop} {ac:Nat} {ad:Array Value}
 (V:α→Array Value) (xs:List α) (al:World→Prop) (E:List α→World→Prop) (aG:ev ⟨n,[],Fx,none⟩ σ g= .func (.func ac) #[] ad) (aD:bd P ac) (aN:∀ x,(V x).size=ps.size)
 (aI:BL P ac ad V xs al) (ax:E [] w) (aE:∀ pre W,E pre W→al W) (ag:Jd w.heap.size E) (au:α→Nat→Value)
 (aB:∀ (l:Nat) (x:α) (W:World) (K:(Nat→Value)→World→Prop),K (au x) W→di P ⟨n,[],[],some l⟩ ae (kU K fun _ _ _=>False) ((ps.toList.zip (V x).toList).foldl (fun s p=>dq s p.1 p.2) σ) W)
 (aC:∀ (l:Nat) (pre:List α) (x:α) (rest:List α) (W:World),xs=pre++x::rest→E pre W→di P ⟨n,[],[],some l⟩ body (TH fun W'=>jk W W'∧E (pre++ [x]) W') (au x) W)
 (hd:∀ (D:Nat) (W:World),w.heap.size≤D→E xs W→W.heap[D]? =some (.deferred<|some [])→qb ⟨n,[{target:= .collected D,args:= #[]}],Fx,none⟩ B .normal σ W):
 nB P ⟨n,[],Fx,none⟩ (.block id<|.rangeFunc g ps ae body) B σ w:=by
 refine wpIn_block<|wpIn_rangeFunc ?_
 intro fn _
 obtain ⟨rc,Z⟩:∃ rc:LoopState→Option Code→Loop,rc=fun st aQ=> {state:=st,pending:=aQ,fn,tmps:=(act ⟨n,[],Fx,none⟩ σ).tmps,params:=ps,assign:=ae,body,defers:=w.heap.size} :=⟨_,rfl⟩
 obtain ⟨G,ah⟩:∃ G,(w.alloc<|.deferred<|some []).alloc (.loop<|rc .ready none)=G:=⟨_,rfl⟩
 have aA:G.heap[w.heap.size+1]? =some (.loop<|rc .ready none):=by
  rw [← ah]; have :=Ih (w.alloc<|.deferred<|some []) (.loop<|rc .ready none); rwa [World.size_alloc] at this
 have az:G.heap[w.heap.size]? =some (.deferred<|some []):=by
  rw [← ah]; exact (Below.heap_alloc _ _ _<|by simp).trans<|Ih w _
 have hn:∀ (W:World) (o:Obj),Wk W (W.alloc o):=fun W o=>(FW W o).md
 have ay:E [] G:=by rw [← ah]; exact ag _ _ _ _ (ag _ _ _ _ ax (hn _ _) fun _ h=>h.elim) (hn _ _) fun _ h=>h.elim
 have aF:(act ⟨n,[],Fx,none⟩ σ).eval g= .func (.func ac) #[] ad:=by rw [gN]; exact aG
 refine ⟨w.heap.size+1,[{target:= .collected w.heap.size,args:= #[]}],G,{target:= .fn (.func ac) ad,args:= #[.func (.yield<|w.heap.size+1) #[] #[]]},G,ac,
  #[.func (.yield<|w.heap.size+1) #[] #[]]++ad,G,?_,?_,fun _ _=>trivial,?_,fun aw=>(by cases aw),?_⟩
 · rw [← ah,Z]; exact run_enterLoop_outer _ _ _ _ _
 · simp only [resolve,aF]
   simp [go_sem]
 · have :=aD (#[.func (.yield<|w.heap.size+1) #[] #[]]++ad) G
   simp [invoke,go_sem,this]
 · have aj:∀ (pre:List α) (W:World) (o ak:Obj),E pre W→W.heap[w.heap.size+1]? =some o→(∀ cur e z,o≠.cells cur e z)→E pre (W.putObj (w.heap.size+1) ak):=fun pre W o ak h1 h2 h3=>
    ag _ _ _ _ h1 (rp W _ ak) fun k hk=>⟨ab,fun cur e z h4=>by subst hk; rw [h2] at h4; exact h3 _ _ _<|xN h4⟩
   refine callsIn_wide.2 (ju (aI (w.heap.size+1)
    (fun pre W=>E pre W∧W.heap[w.heap.size+1]? =some (.loop<|rc .ready none)∧W.heap[w.heap.size]? =some (.deferred<|some []))
    G ⟨ay,aA,az⟩ (fun pre W h=>aE pre W h.1)
    (fun pre A C h hm=>⟨ag _ _ _ _ h.1 hm (fun _ h=>h.elim),(hm.gp _ (cY.1 h.2.1).1 fun h=>h).trans h.2.1,(hm.gp _ (cY.1 h.2.2).1 fun h=>h).trans h.2.2⟩) ?_) ?_)
   · rintro pre x rest W aP ⟨hi,Y,hk⟩
     have aM:w.heap.size+1 < W.heap.size:=(cY.1 Y).1
     have ap:=run_yield (P:=P) (args:=V x) Y<|by rw [Z]; exact aN x
     rw [Z] at ap
     refine ⟨fn,_,ae,body,ap,roundIn_of_wpIn (F:=ox) trivial ?_⟩
     have aO:((ps.zip<|V x).foldl (fun tmps (p:Tmp×Value)=>tmps.setIfInBounds p.1 p.2) (act ⟨n,[],Fx,none⟩ σ).tmps)=(act ⟨n,[],[],some<|w.heap.size+1⟩<|(ps.toList.zip (V x).toList).foldl (fun s p=>dq s p.1 p.2) σ).tmps:=by
      rw [← HF,Array.toList_zip]
      exact Jg ⟨n,[],[],some<|w.heap.size+1⟩ _ σ
     have h1:=aB (w.heap.size+1) x W (fun O W'=> ∃ aq,(Instr.beginRound<|w.heap.size+1).run P W'= .ok () aq∧
      body.wpIn (ox.inRound<|w.heap.size+1) 0 P (roundPost P (w.heap.size+1) fun e W'=>e= .returned (.bool true)∧E (pre++ [x]) W'∧W'.heap[w.heap.size+1]? =some (.loop<|rc .ready none)∧W'.heap[w.heap.size]? =some (.deferred<|some [])) (act ⟨n,[],[],some<|w.heap.size+1⟩ O) aq) ?_
     · unfold di at h1
       have av:({tmps:=(ps.zip<|V x).foldl (fun tmps (p:Tmp×Value)=>tmps.setIfInBounds p.1 p.2) (act ⟨n,[],Fx,none⟩ σ).tmps,defers:= []} :Act)=act ⟨n,[],[],some<|w.heap.size+1⟩ ((ps.toList.zip (V x).toList).foldl (fun s p=>dq s p.1 p.2) σ):=by rw [aO]; rfl
       rw [av]
       refine wpIn_mono h1 ?_
       intro e a w' I
       cases e with
       | normal=>obtain ⟨O,rfl,J⟩:=I; exact J
       | panic c=>obtain ⟨O,rfl,J⟩:=I; exact J O fun _ _=>rfl
       | outgrown=>exact I.elim
       | _=>obtain ⟨O,rfl,J⟩:=I; exact J
     refine ⟨_,run_beginRound Y (by rw [Z]),?_⟩
     have aL:(W.putObj (w.heap.size+1)<|.loop {rc .ready none with state:= .busy}).heap[w.heap.size+1]? =some (.loop {rc .ready none with state:= .busy}):=Ij aM
     have aJ:(W.putObj (w.heap.size+1)<|.loop {rc .ready none with state:= .busy}).heap[w.heap.size]? =some (.deferred<|some []):=(xv ab).trans hk
     have h2:=aC (w.heap.size+1) pre x rest _ aP<|aj _ _ _ (.loop {rc .ready none with state:= .busy}) hi Y fun _ _ _ h=>by cases h
     unfold di at h2
     refine wpIn_mono h2 ?_
     intro e a aS I
     cases e with
     | normal=>
       obtain ⟨O,rfl,am,aH⟩:=I
       have ai:=am _ _ aL fun _ _ _ h=>by cases h
       have aK:=am _ _ aJ fun _ _ _ h=>by cases h
       have an:=run_endRound (P:=P) none ai
       rw [Z] at an ai ⊢
       exact ⟨_,_,an,aa,aj _ _ _ _ aH ai (fun _ _ _ h=>by cases h),Ij (cY.1 ai).1,(xv ab).trans aK⟩
     | panic c=>obtain ⟨O,rfl,J⟩:=I; exact (J O fun _ _=>rfl).elim
     | outgrown=>exact I.elim
     | _=>obtain ⟨O,rfl,J⟩:=I; exact J.elim
   · rintro e aR ⟨⟨v,rfl⟩,hi,Y,hk⟩
     have ao:=run_endLoop (P:=P) Y<|by rw [Z]; simp
     rw [Z] at ao
     refine ⟨none,_,ao,?_⟩
     rw [Z] at Y
     exact hd w.heap.size _ (cw _) (aj _ _ _ _ hi Y fun _ _ _ h=>by cases h)<|(xv ab).trans hk
section
variable {P:Program} {N:Fm} {ops:Array Oper} {Q:Exit→(Nat→Value)→World→Prop} {rest:List Oper} {σ:Nat→Value} {w:World} {d':Option Nat} {d:Nat} {op:Op} {ty:TypeId} {pos :String} {af:Array Edge} {v:Value}
def nC (P:Program) (N:Fm) (ops:Array Oper) (Q:Exit→(Nat→Value)→World→Prop) (l:List Oper) (σ:Nat→Value) (w:World):Prop :=wpListIn (fe N.r) 0 P ops (lift N Q) l (act N σ) w
theorem TE {id:Nat} {l:List Oper} (h:nC P N l.toArray Q l σ w):di P N (.region id l.toArray false) Q σ w:=by
 unfold di; exact wpIn_region_lit h
theorem Sa (h:Q .normal σ w):nC P N ops Q [] σ w:=⟨σ,rfl,h⟩
def zT (o:Op):Bool:=match o with | .defer _=>false | _=>true
theorem Sc {o:Op} (h:zT o=true):∀ c,o≠.defer c:=fun c e=>by subst e; cases h
theorem ey (hn:zT op=true) (h:cJ P N ⟨d',op,ty,pos,af,none⟩ σ w (fun σ w=>nC P N ops Q rest σ w)):nC P N ops Q (⟨d',op,ty,pos,af,none⟩::rest) σ w:=by
 unfold nC wpListIn
 rw [if_pos (je _ rfl _)]
 refine ⟨fun f _=>vc _ f,?_⟩
 rw [yR,H7 _ _ _ (Sc hn)]
 unfold cJ iW at h
 generalize (execOp (act N σ).eval ⟨d',op,ty,pos,af,none⟩).run P w=x at h ⊢
 cases x with
 | ok n w'=>
   cases n <;> simp only [kz,xq] at h ⊢ <;>
    first
     | (obtain ⟨E,C,hk⟩:=h; rw [C]; exact hk)
     | (refine ⟨fun A=>(by rw [sM] at A; cases A),CallsIn.mono (DS h) fun e w'' he=> ?_⟩
        cases e with
        | returned v=>obtain ⟨E,C,hk⟩:=he; simp only; rw [C]; exact hk
        | panicked c=>exact he.elim
        | outgrown=>obtain ⟨_,_,G⟩:=he; exact G.elim)
     | (refine ⟨fun A=>(by rw [sM] at A; cases A),RowsIn.mono (DT h) fun v w'' he=> ?_⟩
        obtain ⟨E,C,hk⟩:=he; rw [C]; exact hk)
 | halt x w'=>cases x <;> simp only [kz] at h
theorem py (hn:zT op=true) (h:(execOp (ev N σ) ⟨some d,op,ty,pos,af,none⟩).run P w= .ok (.value v) w) (k:nC P N ops Q rest (dq σ d v) w):nC P N ops Q (⟨some d,op,ty,pos,af,none⟩::rest) σ w:=
 ey hn (kW h k)
theorem V6 {l:Nat} {fo:Operand} {args:Array Operand} {A:Array TypeId} {L:List Value} {R:World→Prop} (J:ev N σ fo= .func (.yield l) #[] #[]) (G:args.toList.map (ev N σ)=L)
 (V:YieldAt ox 0 P l L.toArray w fun e W'=>e= .returned (.bool true)∧R W') (k:∀ W',R W'→nC P N ops Q rest (dq σ d<|.bool true) W'):
 nC P N ops Q (⟨some d,.call ⟨.value fo,args,A⟩,ty,pos,af,none⟩::rest) σ w:=by
 obtain ⟨fn,tmps,a,b,I,E⟩:=V
 unfold nC wpListIn
 rw [if_pos (je _ rfl _)]
 refine ⟨fun f _=>vc _ f,?_⟩
 rw [yR,H7 _ _ _ (fun c e=>by cases e),gN]
 have hm:args.map (ev N σ)=L.toArray:=by rw [← G,← lH]
 have O:(execOp (ev N σ) ⟨some d,.call ⟨.value fo,args,A⟩,ty,pos,af,none⟩).run P w= .ok (.round l fn tmps a b) w:=by
  simp [execOp,resolve,J,pf,invoke,hm,I]
 rw [O]
 simp only [xq]
 refine ⟨fun C=>(by rw [sM] at C; cases C),?_⟩
 have h1:RoundIn (fe N.r) (0 - 1) P l fn tmps a b w fun e W'=>e= .returned (.bool true)∧R W':=by
  cases hr:N.r with
  | none=>exact E
  | some k=>exact E
 refine RoundIn.mono h1 ?_
 rintro e W' ⟨rfl,hw⟩
 simp only
 rw [jZ]
 exact k W' hw
end
end Go.Hb
end
section
namespace Go.Hb
def ez (P:Program) (f:FuncId) (args:Array Value) (w:World) (R:Value→World→Prop) (Pn:List PanicEntry→World→Prop):Prop :=
 Calls P f args w fun e w'=>(∃ v,e= .returned v∧R v w')∨∃ c,e= .panicked c∧Pn c w'
def DY (P:Program) (fn:Func) (N:Fm) (R:Value→World→Prop) (Pn:List PanicEntry→World→Prop):Exit→(Nat→Value)→World→Prop
 | .normal,σ,w=> ∃ v,(results fn (act N σ).tmps).run P w= .ok v w∧R v w
 | .ret,σ,w=> ∃ v,(results fn (act N σ).tmps).run P w= .ok v w∧R v w
 | .panic c,_,w=>Pn c w
 | _,_,_=>False
theorem iG {P:Program} {fn:Func} {N:Fm} {R:Value→World→Prop} {Pn:List PanicEntry→World→Prop} {e:Exit} {σ:Nat→Value} {w:World} (h:fin P fn N R e σ w):DY P fn N R Pn e σ w:=by
 cases e <;> first | exact h | exact h.elim
theorem ja {P:Program} {f:FuncId} {N:Nat} {fn:Func} {c:Code} {args:List Value} {w:World} {R:Value→World→Prop} {Pn:List PanicEntry→World→Prop} (O:P.funcs[f]? =some fn) (J:fn.body=some c)
 (I:fn.ntmps=N) (hn:mh args.length N=true) (h:di P ⟨N,[],[],none⟩ c (DY P fn ⟨N,[],[],none⟩ R Pn) (lF args) w):ez P f args.toArray w R Pn:=by
 subst I
 refine calls_of_wp O J ?_
 rw [vT fn args [] hn]
 unfold di at h
 refine HQ ?_<|wpIn_wide.1 h
 intro e a w A
 cases e with
 | normal=>obtain ⟨σ,rfl,v,G,E⟩:=A; exact ⟨rfl,v,G,.inl ⟨v,rfl,E⟩⟩
 | ret=>obtain ⟨σ,rfl,v,G,E⟩:=A; exact ⟨rfl,v,G,.inl ⟨v,rfl,E⟩⟩
 | exit id=>obtain ⟨σ,rfl,C⟩:=A; exact C.elim
 | goto l=>obtain ⟨σ,rfl,C⟩:=A; exact C.elim
 | panic c=>obtain ⟨σ,rfl,C⟩:=A; exact ⟨rfl,.inr ⟨c,rfl,C σ fun _ _=>rfl⟩⟩
 | outgrown=>exact A.elim
section
variable {P:Program} {N:Fm} {Q:Exit→(Nat→Value)→World→Prop} {σ:Nat→Value} {w:World} {ops:Array Oper} {rest:List Oper} {dst:Option Nat} {ty:TypeId} {pos :String} {af:Array Edge} {g:Option (Nat×Bool)} {x:Operand}
def nD (P:Program) (N:Fm) (o:Oper) (σ:Nat→Value) (w:World) (K:(Nat→Value)→World→Prop) (Pn:List PanicEntry→World→Prop):Prop :=
 iW P o (act N σ) w (fun a w=> ∃ σ,a=act N σ∧K σ w) (fun e a w=>match e with | .panic c=>a=act N σ∧Pn c w | _=>False)
theorem wW {o:Oper} {K:(Nat→Value)→World→Prop} {Pn:List PanicEntry→World→Prop} {A:Act→World→Prop} (h:nD P N o σ w K Pn) (hk:∀ σ w,K σ w→A (act N σ) w) (hp:∀ c w',Pn c w'→∀ G,(∀ i∈N.F,G i=σ i)→Q (.panic c) G w'):o.wp P (act N σ) w A (lift N Q):=by
 unfold nD at h
 unfold iW at*
 generalize (execOp (act N σ).eval o).run P w=r at h ⊢
 have C:∀ a w,(∃ σ,a=act N σ∧K σ w)→A a w:=by rintro a w ⟨σ,rfl,h⟩; exact hk _ _ h
 have E:∀ c (a:Act) w',(a=act N σ∧Pn c w')→lift N Q (.panic c) a w':=by rintro c a w' ⟨rfl,h⟩; exact ⟨σ,rfl,hp c w' h⟩
 cases r with
 | ok n w'=>
   cases n <;> simp only [kz] at h ⊢ <;>
    first
     | exact C _ _ h
     | exact ju h (fun e w'' he=>by
      cases e with
      | returned v=>exact C _ _ he
      | panicked c=>exact E _ _ _ ⟨rfl,he.2⟩
      | outgrown=>obtain ⟨_,_,I⟩:=he; exact I.elim)
     | exact Bo h fun _ _ he=>C _ _ he
 | halt x w'=>cases x <;> simp only [kz] at h ⊢ <;> exact E _ _ _ ⟨rfl,h.2⟩
theorem cU {f:FuncId} {args:Array Operand} {A:Array TypeId} {L:List Value} {R:Value→World→Prop} {Pn:List PanicEntry→World→Prop} {K:(Nat→Value)→World→Prop} (I:bd P f) (J:ez P f L.toArray w R Pn) (C:args.toList.map (ev N σ)=L)
 (k:∀ v w',R v w'→K (eW σ dst v) w'):nD P N ⟨dst,.call ⟨.value (.func f),args,A⟩,ty,pos,af,g⟩ σ w K Pn:=by
 unfold nD iW
 have hm:args.map (ev N σ)=L.toArray:=by rw [← C,← lH]
 have O:(execOp (ev N σ) ⟨dst,.call ⟨.value (.func f),args,A⟩,ty,pos,af,g⟩).run P w= .ok (.enter f L.toArray) w:=by
  have h2:=I L.toArray w
  simp [execOp,resolve,ev,pf,invoke,hm,h2]
 rw [gN,O]
 simp only [kz]
 refine ju J ?_
 rintro e w' (⟨v,rfl,G⟩ | ⟨c,rfl,E⟩)
 · exact ⟨_,jZ ..,k v w' G⟩
 · exact ⟨trivial,E⟩
theorem Hu {f:FuncId} {fo:Operand} {first cap:Array Value} {args:Array Operand} {A:Array TypeId} {L:List Value} {R:Value→World→Prop} {Pn:List PanicEntry→World→Prop} {K:(Nat→Value)→World→Prop} (I:bd P f) (O:ev N σ fo= .func (.func f) first cap) (J:ez P f L.toArray w R Pn) (C:first.toList++args.toList.map (ev N σ)++cap.toList=L)
 (k:∀ v w',R v w'→K (eW σ dst v) w'):nD P N ⟨dst,.call ⟨.value fo,args,A⟩,ty,pos,af,g⟩ σ w K Pn:=by
 unfold nD iW
 have hm:first++args.map (ev N σ)++cap=L.toArray:=by rw [← C]; simp
 have V:(execOp (ev N σ) ⟨dst,.call ⟨.value fo,args,A⟩,ty,pos,af,g⟩).run P w= .ok (.enter f L.toArray) w:=by
  have h2:=I L.toArray w
  simp only [execOp,resolve,O,pf,invoke]
  simp [hm,h2]
 rw [gN,V]
 simp only [kz]
 refine ju J ?_
 rintro e w' (⟨v,rfl,G⟩ | ⟨c,rfl,E⟩)
 · exact ⟨_,jZ ..,k v w' G⟩
 · exact ⟨trivial,E⟩
theorem eP {o:Oper} {Pn:List PanicEntry→World→Prop} (C:o.guard=none) (h:nD P N o σ w (fun σ w=>dK P N ops Q rest σ w) Pn) (hp:∀ c w',Pn c w'→∀ A,(∀ i∈N.F,A i=σ i)→Q (.panic c) A w'):dK P N ops Q (o::rest) σ w:=by
 unfold dK wpList
 rw [if_pos (je o C _)]
 refine .inl<|wW h (fun σ w hk=> ?_) hp
 unfold dK at hk; exact hk
theorem S4 {t:TypeId} {v:Value} (C:ev N σ x= .iface t v) (hp:∀ c,(∀ i∈N.F,c i=σ i)→Q (.panic [{v:= .iface t v,recovered:=false}]) c w):dK P N ops Q (⟨dst,.panic x,ty,pos,af,none⟩::rest) σ w:=by
 unfold dK wpList
 rw [if_pos (je _ rfl _)]
 refine .inl ?_
 unfold iW
 have A:(execOp (ev N σ) ⟨dst,.panic x,ty,pos,af,none⟩).run P w= .halt (.panic<|.iface t v) w:=by
  simp [execOp,C,Instr.panic]
 rw [gN,A]
 exact ⟨σ,aa,hp⟩
theorem RS {t:TypeId} {d:TypeDesc} {v:Value} (hu:P.underlying t=some d) (hd:(match d with | .interface _=>false | _=>true)=true) (c:ev N σ x=v):(execOp (ev N σ) ⟨dst,.makeInterface t x,ty,pos,af,g⟩).run P w= .ok (.value<|.iface t v) w:=by
 cases d <;> first | (cases hd; done) | simp [execOp,Instr.makeInterface,c,cT hu]
def qc (P:Program) (t:TypeId):Bool:=match P.underlying t with | some (.interface _)=>false | some _=>true | none=>false
theorem RT {t:TypeId} {v:Value} (h:qc P t=true) (c:ev N σ x=v):(execOp (ev N σ) ⟨dst,.makeInterface t x,ty,pos,af,g⟩).run P w= .ok (.value<|.iface t v) w:=by
 unfold qc at h
 cases hd:P.underlying t with
 | none=>rw [hd] at h; cases h
 | some d=>rw [hd] at h; exact RS hd (by cases d <;> first | rfl | cases h) c
theorem UT {xt a:TypeId} {zv:Value} (hu:qc P a=true) (A:zeroV P a=some zv) (c:ev N σ x= .nilIface):(execOp (ev N σ) ⟨dst,.typeAssert x xt a true,ty,pos,af,g⟩).run P w= .ok (.value<|.tuple #[zv,.bool false]) w:=by
 unfold qc at hu
 cases hd:P.underlying a with
 | none=>rw [hd] at hu; cases hu
 | some d=>rw [hd] at hu; cases d <;> first | (cases hu; done) | simp [execOp,H4,c,cT hd,tB A]
theorem US {xt a:TypeId} {v:Value} (hu:qc P a=true) (c:ev N σ x= .iface a v):(execOp (ev N σ) ⟨dst,.typeAssert x xt a true,ty,pos,af,g⟩).run P w= .ok (.value<|.tuple #[v,.bool true]) w:=by
 unfold qc at hu
 cases hd:P.underlying a with
 | none=>rw [hd] at hu; cases hu
 | some d=>rw [hd] at hu; cases d <;> first | (cases hu; done) | simp [execOp,H4,c,cT hd]
variable {S:World→Prop} {fuel:Nat} {aY:Array Bool}
theorem ri {o:Oper} {Pn:List PanicEntry→World→Prop} (i:Nat) (hi:ops[i]? =some o) (E:lU ops aY i=true) (C:o.guard=none)
 (h:nD P N o σ w (fun σ w=>S w∧fu P N ops Q S fuel (aY.setIfInBounds i true) σ w) Pn) (hp:∀ c w',Pn c w'→∀ A,(∀ i∈N.F,A i=σ i)→Q (.panic c) A w'):fu P N ops Q S (fuel+1) aY σ w:=by
 unfold fu at*
 refine wpAnyH_all (rs:= [i]) (by simpa [lU] using E) (by simp) ?_
 intro k hk
 obtain rfl :k=i:=by simpa using hk
 unfold wpOp
 simp only [hi]
 rw [if_pos (je _ C _)]
 exact .inl<|wW h (fun σ w hk=>hk) hp
end
section
variable {P:Program} {N:Fm} {Q:Exit→(Nat→Value)→World→Prop} {σ:Nat→Value} {w:World} {ops:Array Oper} {S:World→Prop} {fuel:Nat} {aY:Array Bool}
theorem P9 {o A:Oper} {Pn:List PanicEntry→World→Prop} (i j:Nat) (hi:ops[i]? =some o) (I:ops[j]? =some A) (J:((jv .any ops aY)== [i,j])=true) (E:o.guard=none) (G:A.guard=none)
 (h:nD P N o σ w (fun σ w=>S w∧fu P N ops Q S fuel (aY.setIfInBounds i true) σ w) Pn) (hp:∀ c w',Pn c w'→∀ C,(∀ i∈N.F,C i=σ i)→Q (.panic c) C w')
 (h1:cJ P N A σ w (fun σ w=>S w∧fu P N ops Q S fuel (aY.setIfInBounds j true) σ w)):fu P N ops Q S (fuel+1) aY σ w:=by
 unfold fu at*
 refine wpAnyH_all (rs:= [i,j]) (by simpa using J) (by simp) ?_
 intro k hk
 simp only [dR,uc,or_false] at hk
 rcases hk with rfl | rfl
 · unfold wpOp
   simp only [hi]
   rw [if_pos (je _ E _)]
   exact .inl<|wW h (fun _ _ hk=>hk) hp
 · unfold wpOp
   simp only [I]
   rw [if_pos (je _ G _)]
   exact .inl<|rQ h1 fun _ _ hk=>hk
end
section
variable {P:Program} {N:Fm} {Q:Exit→(Nat→Value)→World→Prop} {σ:Nat→Value} {w:World} {ops:Array Oper} {S:World→Prop} {fuel r:Nat} {aY:Array Bool}
theorem Fh {o:Oper} {Pn:List PanicEntry→World→Prop} (i:Nat) (hi:ops[i]? =some o) (I:lU ops aY i=true) (G:o.guard=none)
 (h:nD P N o σ w (fun σ w=>S w∧gx P N ops Q S r fuel (aY.setIfInBounds i true) σ w) Pn) (hp:∀ c w',Pn c w'→∀ C,(∀ i∈N.F,C i=σ i)→Q (.panic c) C w'):gx P N ops Q S r (fuel+1) aY σ w:=by
 unfold gx at*
 have A:jv .any ops aY= [i]:=by simpa [lU] using I
 refine ⟨fun E=>absurd (A ▸ E) (by simp),fun k hk=> ?_⟩
 rw [A] at hk
 obtain rfl :k=i:=by simpa using hk
 unfold wpOp
 simp only [hi]
 rw [if_pos (je _ G _)]
 exact .inl<|wW h (fun σ w hk=>⟨fun _=>hk.1,hk.2⟩) hp
end
abbrev oH (P:Program) (fn:Func) (R:Value→World→Prop):Exit→Act→World→Prop :=bodyPostD P fn (fun e w'=> ∃ v,e= .returned v∧R v w')
theorem Ou {P:Program} {f:FuncId} {N:Nat} {fn:Func} {c:Code} {args:List Value} {w:World} {R:Value→World→Prop} (F:List Nat) (E:P.funcs[f]? =some fn) (C:fn.body=some c)
 (A:fn.ntmps=N) (hn:mh args.length N=true) (h:nB P ⟨N,[],F,none⟩ c (oH P fn R) (lF args) w):ba P f args.toArray w R:=by
 subst A
 refine calls_of_wp_defers E C ?_
 rw [vT fn args F hn]
 exact wpIn_wide.1 h
section
variable {P:Program} {n:Nat} {D:List Deferred} {F:List Nat} {σ:Nat→Value} {w:World} {fn:Func} {R:Value→World→Prop} {B:Exit→Act→World→Prop}
theorem ON {v:Value} (A:(results fn (act ⟨n,[],F,none⟩ σ).tmps).run P w= .ok v w) (c:R v w):qb ⟨n,[],F,none⟩ (oH P fn R) .ret σ w:=⟨v,A,v,rfl,c⟩
theorem Re:¬LetsOut (oH P fn R):=fun ⟨_,_,h⟩=>by obtain ⟨v,h,_⟩:=h; cases h
theorem NU {id d:Nat} {f:FuncId} (O:¬LetsOut B) {cs:Array Operand} {I J:TypeId} {E G:String} {A C:Array Edge} {y:Code} (c:Array Value) (Y:cs.toList.map (ev ⟨n,[],F,none⟩ σ)=c.toList) (hd:d < n)
 (h:nB P ⟨n,[{target:= .fn (.func f) c,args:= #[]}],F,none⟩ y B (dq σ d<|.func (.func f) #[] c) w):
 nB P ⟨n,[],F,none⟩ (.region id #[⟨some d,.makeFunc (.func f) #[] cs,I,E,A,none⟩,⟨none,.defer ⟨.value (.tmp d),#[],#[]⟩,J,G,C,none⟩] false) (Exit.then (y.wpIn (fe none) 0 P B) B) σ w:=by
 have Z:cs.map (ev ⟨n,[],F,none⟩ σ)=c:=xh.1<|by rw [lH]; exact Y
 refine wpIn_region ?_
 have V:¬LetsOut (Exit.then (y.wpIn (fe none) 0 P B) B):=fun ⟨a,w,h⟩=>O ⟨a,w,h⟩
 refine zk (r:=none) V aa _ _ _ ?_
 show wpOps P _ _ [0,1] _ _
 simp only [wpOps,IA,xC,List.getElem?_cons_succ]
 rw [if_pos (je _ rfl _)]
 refine .inl ?_
 unfold iW
 have h1:(execOp (act ⟨n,[],F,none⟩ σ).eval ⟨some d,.makeFunc (.func f) #[] cs,I,E,A,none⟩).run P w= .ok (.value<|.func (.func f) #[] c) w:=by
  rw [gN,mf,Z]; simp
 rw [h1]
 simp only [kz]
 rw [if_pos (je _ rfl _),jZ]
 refine .inl ?_
 have h2:(execOp (act ⟨n,[],F,none⟩<|eW σ (some d)<|.func (.func f) #[] c).eval ⟨none,.defer ⟨.value (.tmp d),#[],#[]⟩,J,G,C,none⟩).run P w= .ok (.defer {target:= .fn (.func f) c,args:= #[]}) w:=by
  have ab:ev ⟨n,[],F,none⟩ (dq σ d<|.func (.func f) #[] c) (.tmp d)= .func (.func f) #[] c:=by
   show cond (gh d n) (dq σ d _ d) undef=_
   rw [show gh d n=true from by simpa using hd]
   show dq σ d _ d=_
   unfold dq; simp
  rw [gN]
  show (execOp (ev ⟨n,[],F,none⟩<|dq σ d<|.func (.func f) #[] c) _).run P w=_
  simp [execOp,resolve,ab,pf]
 rw [h2]
 exact h
end
theorem Ss {P:Program} {ops:Array Oper} {Q:Exit→Act→List Frame→World→Prop} {cs:List Frame} (A:¬LetsOut fun e a w=>Q e a cs w):∀ (l:List Nat) (a:Act) (w:World),wpOps P ops (fun e a w=>Q e a cs w) l a w→wpOpsS P ops Q l a cs w:=by
 intro l
 induction l with
 | nil=>exact fun _ _ h=>h
 | cons i l c=>
   intro a w h
   simp only [wpOps] at h
   simp only [wpOpsS]
   cases ho:ops[i]? with
   | none=>simp only [ho] at h ⊢; exact c a w h
   | some o=>
     simp only [ho] at h ⊢
     by_cases hw:Region.wanted o (yielded ops a.tmps)=true
     · rw [if_pos hw] at h ⊢
       rcases h with h | h
       · unfold iW at h
         generalize (execOp a.eval o).run P w=x at h
         cases x with
         | ok n w'=>
           cases n <;> simp only [kz] at h ⊢ <;>
            first
             | exact c _ _ h
             | exact ju h fun e w'' he=>by cases e <;> first | exact c _ _ he | exact he
             | exact Bo h fun v w'' he=>c _ _ he
         | halt x w'=>cases x <;> simp only [kz] at h ⊢ <;> exact h
       · exact absurd h.2 A
     · rw [if_neg hw] at h ⊢
       exact c _ _ h
theorem Rh {P:Program} {ops:Array Oper} {Q E:Exit→Act→World→Prop} (C:∀ e a w,Q e a w→E e a w) (G:¬LetsOut Q):∀ (l:List Oper) (a:Act) (w:World),wpList P ops Q l a w→wpList P ops E l a w:=by
 intro l
 induction l with
 | nil=>exact fun _ _ h=>C _ _ _ h
 | cons o l A=>
   intro a w h
   unfold wpList at h ⊢
   split at h
   · rename_i hw
     rw [if_pos hw]
     rcases h with h | h
     · left
       unfold iW at h ⊢
       generalize (execOp a.eval o).run P w=x at h
       cases x with
       | ok n w'=>
         cases n <;> simp only [kz] at h ⊢ <;>
          first
           | exact A _ _ h
           | exact ju h (fun e w'' he=>by
            cases e with
            | returned v=>exact A _ _ he
            | panicked c=>exact C _ _ _ he
            | outgrown=>exact absurd he G)
           | exact Bo h fun v w'' he=>A _ _ he
       | halt x w'=>cases x <;> simp only [kz] at h ⊢ <;> exact C _ _ _ h
     · exact absurd h.2 G
   · rename_i hw
     rw [if_neg hw]; exact A _ _ h
theorem CW {P:Program} {f:FuncId} {fn:Func} {id N d:Nat} {ty:TypeId} {pos :String} {af:Array Edge} {rest:List Oper} {y:Code} {args:List Value} {w:World} {u G:FrameMode} {v:Value} {R:World→Prop}
 (ag:P.funcs[f]? =some fn) (ad:fn.body=some (.seq (.region id (⟨some d,.call ⟨.builtin .recover,#[],#[]⟩,ty,pos,af,none⟩::rest).toArray false) y)) (ac:fn.ntmps=N) (hn:mh args.length N=true)
 (ah:∀ (C:Frame) (cs:List Frame),C.mode=u→(recoverD (C::cs)=some (v,{C with mode:=G} ::cs))∨(recoverD (C::cs)=none∧v= .nilIface∧G=u))
 (h:dK P ⟨N,[],[],none⟩ (⟨some d,.call ⟨.builtin .recover,#[],#[]⟩,ty,pos,af,none⟩::rest).toArray (kU (fun σ w=>di P ⟨N,[],[],none⟩ y (fin P fn ⟨N,[],[],none⟩ fun _ w=>R w) σ w)<|fin P fn ⟨N,[],[],none⟩ fun _ w=>R w) rest (dq (lF args) d v) w):
 CallsD P f args.toArray u w fun e I w'=> ∃ v,e= .returned v∧I=G∧R w':=by
 subst ac
 refine callsD_of_wpS ag ad ?_
 intro C cs hu
 rw [vT fn args [] hn]
 refine wpS_seq<|wpS_region ?_
 have ai:fD (⟨some d,.call ⟨.builtin .recover,#[],#[]⟩,ty,pos,af,none⟩::rest).toArray.size=0::(List.range' 1 rest.length):=by
  rw [nP,bU,List.range_eq_range',List.range'_succ]
 rw [ai]
 simp only [wpOpsS,IA,xC]
 rw [if_pos (je _ rfl _)]
 have aj:(execOp (act ⟨fn.ntmps,[],[],none⟩<|lF args).eval ⟨some d,.call ⟨.builtin .recover,#[],#[]⟩,ty,pos,af,none⟩).run P w= .ok .recover w:=by
  rw [gN]
  simp [execOp,resolve,invoke,builtin]
 rw [aj]
 simp only
 obtain ⟨J,O⟩:∃ J,J=({C with mode:=G} ::cs:List Frame):=⟨_,rfl⟩
 have ae:∀ X:Act→List Frame→Prop,X ((act ⟨fn.ntmps,[],[],none⟩<|lF args).put (some d) v) J→
  (match recoverD (C::cs) with
   | some (v,V)=>X ((act ⟨fn.ntmps,[],[],none⟩<|lF args).put (some d) v) V
   | none=>X ((act ⟨fn.ntmps,[],[],none⟩<|lF args).put (some d) .nilIface) (C::cs)):=by
  intro X aa
  rcases ah C cs hu with h1 | ⟨h1,h2,h3⟩
  rw [h1]; subst O; exact aa
  rw [h1]; subst h2 h3
  have :({C with mode:=G} :Frame)=C:=by subst hu; rfl
  rw [this] at O; subst O; exact aa
 refine ae (fun a V=>wpOpsS P _ _ _ a V w) ?_
 rw [jZ]
 refine Ss ?_ _ _ _ ?_
 rintro ⟨a,w,h⟩
 simp only [Exit.thenS,bodyPostS] at h
 obtain ⟨_,_,h,_⟩:=h; cases h
 have h1:=wpOps_eq_wpList (P:=P) (ops:=(⟨some d,.call ⟨.builtin .recover,#[],#[]⟩,ty,pos,af,none⟩::rest).toArray) (Q:=fun e a w'=>Exit.thenS (Code.wpS P y (bodyPostS P fn C cs fun e I w'=> ∃ v,e= .returned v∧I=G∧R w')) (bodyPostS P fn C cs fun e I w'=> ∃ v,e= .returned v∧I=G∧R w') e a J w') rest 1 fun j=>by simp [Nat.add_comm]
 rw [h1]
 unfold dK at h
 refine Rh ?_ zA _ _ _ h
 intro e a w' E
 have ab:∀ (e:Exit) (σ:Nat→Value) (w':World),fin P fn ⟨fn.ntmps,[],[],none⟩ (fun _ w=>R w) e σ w'→bodyPostS P fn C cs (fun e I w'=> ∃ v,e= .returned v∧I=G∧R w') e (act ⟨fn.ntmps,[],[],none⟩ σ) J w':=by
  intro e σ w' A
  cases e with
  | normal=>obtain ⟨v,Z,Y⟩:=A; exact ⟨rfl,G,O,v,Z,v,rfl,rfl,Y⟩
  | ret=>obtain ⟨v,Z,Y⟩:=A; exact ⟨rfl,G,O,v,Z,v,rfl,rfl,Y⟩
  | _=>exact A.elim
 cases e with
 | normal=>
   obtain ⟨σ,rfl,A⟩:=E
   refine wpS_of_wp ?_
   simp only [kU] at A
   unfold di at A
   refine HQ ?_<|wpIn_wide.1 A
   intro e a w' E
   cases e with
   | panic c=>obtain ⟨σ,rfl,A⟩:=E; exact (A σ fun _ _=>rfl).elim
   | outgrown=>exact E.elim
   | _=>obtain ⟨σ,rfl,A⟩:=E; exact ab _ σ w' A
 | panic c=>obtain ⟨σ,rfl,A⟩:=E; exact (A σ fun _ _=>rfl).elim
 | outgrown=>exact E.elim
 | ret=>obtain ⟨σ,rfl,A⟩:=E; exact ab .ret σ w' A
 | exit i=>obtain ⟨σ,rfl,A⟩:=E; exact A.elim
 | goto i=>obtain ⟨σ,rfl,A⟩:=E; exact A.elim
section
variable {P:Program} {n:Nat} {F:List Nat} {σ:Nat→Value} {w:World} {fn:Func} {R:Value→World→Prop}
theorem OO {g:FuncId} {c:Array Value} {M:World→Prop} (hu:(invoke (.fn (.func g) c) #[]).run P w= .ok (.enter g c) w)
 (C:CallsD P g c .returning w fun e E w'=> ∃ v,e= .returned v∧E= .returning∧M w') (A:∀ w',M w'→∃ v,(results fn (act ⟨n,[{target:= .fn (.func g) c,args:= #[]}],F,none⟩ σ).tmps).run P w'= .ok v w'∧R v w'):
 qb ⟨n,[{target:= .fn (.func g) c,args:= #[]}],F,none⟩ (oH P fn R) .ret σ w:=by
 refine leaves_cons (by simp) hu ?_
 refine HP C ?_
 rintro e G w' ⟨v,rfl,rfl,hm⟩
 obtain ⟨v2,h1,h2⟩:=A w' hm
 exact ⟨v2,h1,v2,aa,h2⟩
theorem OP {g:FuncId} {c:Array Value} {M:World→Prop} {v:Value} (hu:(invoke (.fn (.func g) c) #[]).run P w= .ok (.enter g c) w)
 (C:CallsD P g c (.panicking [{v:=v,recovered:=false}]) w fun e E w'=> ∃ x,e= .returned x∧E= .panicking [{v:=v,recovered:=true}]∧M w') (A:∀ w',M w'→∃ v,(results fn (act ⟨n,[{target:= .fn (.func g) c,args:= #[]}],F,none⟩ σ).tmps).run P w'= .ok v w'∧R v w'):
 qb ⟨n,[{target:= .fn (.func g) c,args:= #[]}],F,none⟩ (oH P fn R) (.panic [{v:=v,recovered:=false}]) σ w:=by
 refine leaves_cons (by simp) hu ?_
 refine HP C ?_
 rintro e G w' ⟨x,rfl,rfl,hm⟩
 obtain ⟨v2,h1,h2⟩:=A w' hm
 exact ⟨v2,h1,v2,aa,h2⟩
end
end Go.Hb
end
section
namespace Go.Hb
def k3 (w:World) (B e n:Nat) (v:Value) (xs:List Value):Prop :=
 ∃ a cp,v= .slice a n cp∧n≤cp∧(xs= []∨∃ b o cur z,a=some ⟨b,o,none⟩∧B≤b∧w.heap[b]? =some (.cells cur e z)∧∀ (j:Nat) u,xs[j]? =some u→cur[o+j]? =some u)
theorem Tg.Vb {w:World} {B e n:Nat} {v:Value} {xs:List Value} (h:Tg w B e n v xs):k3 w B e n v xs:=by
 obtain ⟨a,cp,rfl,E,c⟩:=h
 refine ⟨a,cp,aa,E,c.imp id ?_⟩
 rintro ⟨b,cur,z,A,C,G,c⟩
 exact ⟨b,0,cur,z,A,C,G,fun j u hu=>by rw [Nat.zero_add]; exact c j u hu⟩
theorem k3.cells {w:World} {B e n cp:Nat} {a:Option Addr} {xs:List Value} (h:k3 w B e n (.slice a n cp) xs):n≤cp∧aG w.heap a xs:=by
 obtain ⟨G,I,E,A,c⟩:=h
 cases E
 rcases c with h | ⟨b,o,cur,z,rfl,_,C,c⟩
 · subst h; exact ⟨A,aG.nil _ _⟩
 · refine ⟨A,fun _=>rfl,fun j u hu=> ?_⟩
   show Hb.aM w.heap b (o+j)=_
   rw [bj C]; exact c j u hu
theorem k3.slice {w:World} {B e n:Nat} {v:Value} {xs:List Value} (h:k3 w B e n v xs):∃ a cp,v= .slice a n cp:=let ⟨a,cp,hv,_⟩:=h; ⟨a,cp,hv⟩
theorem k3.md {F:Nat→Prop} {w w':World} {B e n:Nat} {v:Value} {xs:List Value} (h:k3 w B e n v xs) (hm:Md F w w') (C:∀ k,F k→∀ cur z,w.heap[k]?≠some (.cells cur e z)):k3 w' B e n v xs:=by
 obtain ⟨a,cp,rfl,A,h | ⟨b,o,cur,z,rfl,E,c,G⟩⟩:=h
 · exact ⟨a,cp,aa,A,.inl h⟩
 · exact ⟨_,cp,aa,A,.inr ⟨b,o,cur,z,aa,E,by rw [hm.gp b (cY.1 c).1 (fun hk=>C b hk cur z c)]; exact c,G⟩⟩
theorem k3.qZ {w:World} {B e n m cp:Nat} {a:Option Addr} {xs:List Value} (h:k3 w B e (n+1) (.slice a (n+1) cp) xs) (G:xs.length=(n+1)*m):k3 w B e n (.slice (eh a cp 1 m) n<|cp - 1) (xs.drop m):=by
 obtain ⟨J,O,E,V,C⟩:=h
 cases E
 refine ⟨_,_,aa,ab,?_⟩
 rcases C with rfl | ⟨b,o,cur,z,rfl,c,A,I⟩
 · exact .inl<|by simp
 · unfold eh
   by_cases h1:cp=1
   · refine .inl<|fR ?_
     obtain rfl :n=0:=ab
     rw [gy,G]; omega
   · rw [if_neg h1]
     refine .inr ⟨b,o+1 *m,cur,z,?_,c,A,fun j u hu=> ?_⟩
     · rw [jU,k4]
     · rw [List.getElem?_drop] at hu
       have :=I _ u hu
       rw [show o+1 *m+j=o+(m+j) from by omega]; exact this
def dw (w:World) (B e:Nat) (vs:List Value) (c:List (List Nat)):Prop :=vs.length=c.length∧∀ (i:Nat) v l,vs[i]? =some v→c[i]? =some l→Tg w B e l.length v (l.map aT)
theorem dw.nil (w:World) (B e:Nat):dw w B e [] []:=⟨rfl,fun i v l c=>by simp at c⟩
theorem dw.md {F:Nat→Prop} {w w':World} {B e:Nat} {vs:List Value} {c:List (List Nat)} (h:dw w B e vs c) (hm:Md F w w') (A:∀ k,F k→∀ cur z,w.heap[k]?≠some (.cells cur e z)):dw w' B e vs c:=⟨h.1,fun i v l h1 h2=>(h.2 i v l h1 h2).md hm A⟩
theorem dw.wk {w w':World} {B e:Nat} {vs:List Value} {c:List (List Nat)} (h:dw w B e vs c) (hm:Wk w w'):dw w' B e vs c:=h.md hm fun _ hk=>hk.elim
theorem dw.mono {w:World} {B B' e:Nat} {vs:List Value} {c:List (List Nat)} (h:dw w B e vs c) (A:B'≤B):dw w B' e vs c:=⟨h.1,fun i v l h1 h2=>(h.2 i v l h1 h2).mono A⟩
theorem dw.snoc {w:World} {B e:Nat} {vs:List Value} {A:List (List Nat)} {v:Value} {l:List Nat} (c:dw w B e vs A) (E:Tg w B e l.length v (l.map aT)):dw w B e (vs++ [v]) (A++ [l]):=by
 refine ⟨by rw [bK,bK,c.1]; rfl,fun i G I h1 h2=> ?_⟩
 have C:=c.1
 by_cases hi:i < vs.length
 · rw [me hi] at h1
   rw [me ab] at h2
   exact c.2 i G I h1 h2
 · rw [mR ab] at h1
   rw [mR ab,← C] at h2
   cases hj:i - vs.length with
   | zero=>rw [hj] at h1 h2; cases h1; cases h2; exact E
   | succ j=>rw [hj] at h1; simp at h1
def gZ (t ln:Nat) (e:Int):List PanicEntry:= [{v:= .iface t (.agg [.int .i64 1,.int .i64 (ln:Nat),.int .i64 e].toArray),recovered:=false}]
theorem dD {h:World} {b:Nat} {isK:Value→Prop} {f:Value→Option Value} (hm:bQ h.heap b isK f):tag h b=1:=let ⟨_,h1,_⟩:=hm; wq h1
def Wr (L:List Nat) (ms mt mc B:Nat) (w:World) (k:Nat):Prop :=B≤k∧(k=ms∨k=mt∨k=mc∨L.contains (tag w k)=true)
abbrev Mw (L:List Nat) (ms mt mc B:Nat) (w w':World):Prop :=Md (Wr L ms mt mc B w) w w'
section
variable {L:List Nat} {ms mt mc B:Nat} {w w' w'':World}
theorem Mw.trans (h:Mw L ms mt mc B w w') (c:Mw L ms mt mc B w' w''):Mw L ms mt mc B w w'':=by
 refine Md.trans' h c fun k hk hw=> ?_
 refine Classical.byContradiction fun hn=> ?_
 have :=Md.tag h hk hn
 unfold Wr at hw
 rw [this] at hw
 exact hn hw
theorem Wk.mw (h:Wk w w'):Mw L ms mt mc B w w':=h.mono fun _ _ c=>c.elim
theorem Mw.of {F:Nat→Prop} (h:Md F w w') (C:TF w L F) (A:∀ k,F k→B≤k):Mw L ms mt mc B w w':=h.mono fun k _ c=>⟨A k c,.inr<|.inr<|.inr<|C k c⟩
theorem Mw.wk {w0:World} (c:Wk w0 w) (h:Mw L ms mt mc B w w') (A:w0.heap.size≤B):Wk w0 w':=Md.trans' c h fun k hk hw=>by have :=hw.1; omega
theorem Wr.ne (hs:tag w ms=1) (G:tag w mt=1) (E:tag w mc=1) {e:Nat} (C:L.contains (e+2)=false):∀ k,Wr L ms mt mc B w k→∀ cur z,w.heap[k]?≠some (.cells cur e z):=by
 rintro k ⟨_,rfl | rfl | rfl | h⟩ cur z A <;> have c:=dO A
 · omega
 · omega
 · omega
 · rw [c,C] at h; cases h
end
end Go.Hb
end
section
namespace Go.Hb
section
variable {P:Program} {N:Fm} {σ:Nat→Value} {w:World} {dst:Option Nat} {ty:TypeId} {pos :String} {af:Array Edge} {g:Option (Nat×Bool)} {x y:Operand}
theorem OF (d:Nat) {t e:TypeId} {a:Option Addr} {n c:Nat} (hu:P.underlying t=some (.slice e)):(Op.equalIn (d+1) t (.slice a n c)<|.slice none 0 0).run P w= .ok a.isNone w:=by
 cases a <;> simp [Op.equalIn,cT hu]
theorem OG {t e:TypeId} {a:Option Addr} {n c:Nat} (hu:P.underlying t=some (.slice e)):(Op.equal t (.slice a n c)<|.slice none 0 0).run P w= .ok a.isNone w:=OF 9999 hu
theorem oQ {t E e:TypeId} {a:Option Addr} {n c:Nat} (hu:P.underlying t=some (.slice e)) (A:ev N σ x= .slice a n c) (C:ev N σ y= .slice none 0 0):
 (execOp (ev N σ) ⟨dst,.binOp .eql t x y E,ty,pos,af,g⟩).run P w= .ok (.value<|.bool a.isNone) w:=by
 have h:(binOp .eql t (.slice a n c)<|.slice none 0 0).run P w= .ok (.bool a.isNone) w:=by
  simp only [binOp]; simp [OG hu]
 simp [execOp,A,C,eqGuard,h]
end
def Rd (h:Array Obj) (v:Value) (n size:Nat) (xs:List Value):Prop := ∃ a c,v= .slice a n c∧aG h a xs∧xs.length=n*size∧(a=none→n=0)
theorem Rd.kg {w:World} {B e size n:Nat} {v:Value} {xs:List Value} (h:w.ownsRow B e size v n xs):Rd w.heap v n size xs:=by
 obtain ⟨a,c,rfl,h1,_,_,h3⟩:=rA h
 refine ⟨a,c,aa,h1,h.1,fun A=> ?_⟩
 subst A
 rcases h.2 with ⟨h4,h5⟩ | ⟨g,cap,cur,h4,_⟩
 · exact h5
 · simp at h4
theorem Ag {w:World} {B e size n k cp:Nat} {a:Option Addr} {xs:List Value} (h:w.ownsRow B e size (.slice a n cp) n xs) (hk:k≤n) (E:a≠none):w.ownsRow B e size (.slice a k cp) k (xs.take<|k*size):=by
 obtain ⟨c,h⟩:=h
 refine ⟨by rw [dB,c]; exact nR (oD _ hk),?_⟩
 rcases h with ⟨h1,_⟩ | ⟨g,cap,cur,h1,h2,h3,h4,h5,A,C⟩
 · simp only [l9] at h1; exact absurd h1.1 E
 · simp only [l9,true_and] at h1
   obtain ⟨rfl,rfl⟩:=h1
   refine .inr ⟨g,_,cur,aa,h2,h3,ab,h5,A,?_⟩
   rw [← C,IP,nR (oD _ hk)]
section
variable {P:Program} {N:Fm} {σ:Nat→Value} {w:World} {dst:Option Nat} {ty:TypeId} {pos :String} {af:Array Edge} {g:Option (Nat×Bool)} {x y z u:Operand} {K:(Nat→Value)→World→Prop}
theorem Ud {t n len cap:Nat} {a:Option Addr} {k E G:IntKind} {i j m:Nat} (he:gC P t=some n) (c:ev N σ x= .slice a len cap) (A:ev N σ y= .int k (i:Nat)) (C:ev N σ z= .int E (j:Nat)) (hu:ev N σ u= .int G (m:Nat)) (h:i≤j∧j≤m∧m≤cap):
 (execOp (ev N σ) ⟨dst,.slice t x (some y) (some z) (some u),ty,pos,af,g⟩).run P w= .ok (.value<|.slice (eh a m i n) (j - i)<|m - i) w:=by
 have h1:(0:Int)≤(i:Int):=ab
 have h2:(0:Int)≤(j:Int):=ab
 have h3:(0:Int)≤(m:Int):=ab
 unfold gC at he
 cases hd:P.underlying t with
 | none=>rw [hd] at he; cases he
 | some d=>
   rw [hd] at he
   cases d <;> first | (cases he; done) | skip
   rename_i e
   cases hi':P.info? e with
   | none=>simp [hi'] at he
   | some q=>
     simp only [hi',jU,fE] at he
     subst he
     simp only [execOp,qu,Instr.slice,c,A,C,hu,jU,nI,Instr.sliceBound,asIntOf]
     simp [cT hd,gI hi',sizeOf,h.1,h.2.1,h.2.2,eh]
theorem JG {t e size bytes B n m cp c A:Nat} {xs news:List Value} {a:Option Addr} (aa:fZ P t e size bytes=true) (O:w.ownsRow B e size (.slice (some ⟨A,0,none⟩) n cp) n xs) (ab:ev N σ x= .slice (some ⟨A,0,none⟩) n cp)
 (ac:ev N σ y= .slice a m c) (G:aG w.heap a news) (I:a≠none) (J:news.length=m*size) (h1:news.all et=true) (Z:n+m≤cp)
 (k:∀ w',Md (fun q=>q=A) w w'→w'.ownsRow B e size (.slice (some ⟨A,0,none⟩) (n+m) cp) (n+m) (xs++news)→K (eW σ dst<|.slice (some ⟨A,0,none⟩) (n+m) cp) w'):
 cJ P N ⟨dst,.call ⟨.builtin .append,#[x,y],#[t,t]⟩,ty,pos,af,g⟩ σ w K:=by
 obtain ⟨hu,i,zv,hi,ah,hs,ae,ai,ag⟩:=o3 aa
 obtain ⟨ad,rfl⟩:∃ ad,a=some ad:=by cases a with | none=>exact absurd rfl I | some ad=>exact ⟨ad,rfl⟩
 have hn:∀ j v,news[j]? =some v→w.cell? (ad.add j)=some v:=fun j v C=>by
  have E:news≠[]:=fun e=>by rw [e] at C; simp at C
  have h2:=G.ok E
  simp only [fE] at h2
  rw [h2,k4,mo]; exact G.aM j v C
 obtain ⟨w',Y,h2,h3⟩:=Go.run_append_fits (P:=P) (w:=w) B t ty e i size hu hi hs A n cp xs O ad m c news J hn (ss h1) Z
 refine kW (w':=w') (v:= .slice (some ⟨A,0,none⟩) (n+m) cp) ?_<|k w' ⟨h3.os,h3.output,h3.size,fun q V E=>h3.block q V fun e=>E<|xN e⟩ h2
 simp [execOp,resolve,invoke,builtin,ab,ac,Y]
end
end Go.Hb
end
section
namespace Go.Hb
def pO (P:Program) (t:TypeId):Option (Nat×Nat):=
 match P.underlying t with
 | some (.array n e)=>(P.info? e).map fun i=>(n,i.size)
 | _=>none
section
variable {P:Program} {N:Fm} {σ:Nat→Value} {w:World} {dst:Option Nat} {ty:TypeId} {pos :String} {af:Array Edge} {g:Option (Nat×Bool)} {x y:Operand}
theorem lu {t n A b off :Nat} {k:IntKind} {i:Int} (he:pO P t=some (n,A)) (C:ev N σ x= .pointer (some ⟨b,off,none⟩)) (E:ev N σ y= .int k i) (c:0≤i∧i < n):
 (execOp (ev N σ) ⟨dst,.indexAddr t x y,ty,pos,af,g⟩).run P w= .ok (.value<|.pointer<|some ⟨b,off+i.toNat*A,none⟩) w:=by
 unfold pO at he
 cases hd:P.underlying t with
 | none=>rw [hd] at he; cases he
 | some d=>
   rw [hd] at he
   cases d <;> first | (cases he; done) | skip
   rename_i m e
   cases hi:P.info? e with
   | none=>simp [hi] at he
   | some j=>
     simp only [hi,jU,fE,uh] at he
     obtain ⟨rfl,rfl⟩:=he
     simp [execOp,Instr.indexAt,ph,C,E,asIntOf,cT hd,c.1,c.2,sizeOf,gI hi,k4]
end
theorem RG {h:Array Obj} {b:Nat} {a:List UInt8} (A:bE h b (marksOf a)) (c:UInt8):Hb.aM h b (0 +((c.toNat:Nat):Int).toNat*1)=some (.bool<|decide (c∈a)):=by
 rw [A.aM,show 0 +((c.toNat:Nat):Int).toNat*1=c.toNat from by omega]; exact RD a c
theorem RH {h:Array Obj} {b:Nat} {a:List UInt8} {c:UInt8} (A:bE h b ((marksOf a).set (0 +((c.toNat:Nat):Int).toNat*1)<|.bool true)):bE h b (marksOf<|a++ [c]):=by
 rw [show 0 +((c.toNat:Nat):Int).toNat*1=c.toNat from by omega,RF] at A; exact A
end Go.Hb
end
section
namespace Go.Hb
theorem QI (c:UInt8):∀ l:List UInt8,H5 l c=eb c l:=by
 intro l
 induction l with
 | nil=>rfl
 | cons b l G=>
   unfold H5
   rw [G]
   rw [show eb c (b::l)=if (b::l).idxOf c < (b::l).length then ((b::l).idxOf c:Int) else -1 from rfl,List.idxOf_cons]
   by_cases h:(b==c)=true
   · rw [if_pos h,h]; rfl
   · have C:(b==c)=false :=by simpa using h
     rw [if_neg h,C]
     simp only [cond_false,bU]
     by_cases h1:l.idxOf c < l.length
     · have A:eb c l=l.idxOf c:=if_pos h1
       rw [A,if_neg (fun E=>by have :=eq_of_beq E; omega),if_pos ab]; rfl
     · have A:eb c l= -1:=if_neg h1
       rw [A,if_pos ay,if_neg ab]
theorem TQ {P:Program} {f:FuncId} {fn:Func} (C:P.funcs[f]? =some fn) (E:(fn.name== "runtime.NumGoroutine")=false) (A:fn.body.isNone=true) (hn:HW fn=none)
 (he:HV fn=some Wp) (l:List UInt8) (c:UInt8) (w:World):(callFunc f #[str l,.int .u8 c.toNat]).run P w= .ok (.value<|.int .i64<|eb c l) w:=by
 rw [run_callFunc_extern C E A hn he]
 unfold str
 rw [Lib.run_indexByteString]
 have h1:((c.toNat:Int)).toNat.toUInt8=c:=pE.1<|by simp
 rw [h1,QI]
 rfl
theorem TP {P:Program} {f:FuncId} {fn:Func} (C:P.funcs[f]? =some fn) (E:(fn.name== "runtime.NumGoroutine")=false) (A:fn.body.isNone=true) (hn:HW fn=none)
 (he:HV fn=some Wo) (l:List UInt8) (c:UInt8) (w:World):(callFunc f #[str l,.int .u8 c.toNat]).run P w= .ok (.value<|.int .i64 (l.count c:Nat)) w:=by
 rw [run_callFunc_extern C E A hn he]
 unfold str
 rw [Lib.run_countString]
 have h1:((c.toNat:Int)).toNat.toUInt8=c:=pE.1<|by simp
 rw [h1]
 rfl
section
variable {P:Program} {N:Fm} {σ:Nat→Value} {w:World} {dst:Option Nat} {ty:TypeId} {pos :String} {af:Array Edge} {g:Option (Nat×Bool)}
theorem Dc {f:FuncId} {a b v:Value} {args:Array Operand} {c:Array TypeId} (h:(callFunc f #[a,b]).run P w= .ok (.value v) w) (A:args.toList.map (ev N σ)= [a,b]):
 (execOp (ev N σ) ⟨dst,.call ⟨.value (.func f),args,c⟩,ty,pos,af,g⟩).run P w= .ok (.value v) w:=by
 have :args.map (ev N σ)= #[a,b]:=by rw [← xh,lH,A]
 simp [execOp,resolve,ev,pf,invoke,this,h]
end
end Go.Hb
end
section
namespace Go.Hb
theorem T2 {L:List Value} {o:Nat} {v:Value} (h:o < L.length):(L.set o v).take (o+1)=L.take o++ [v]:=by
 rw [List.set_eq_take_append_cons_drop,if_pos h,qD,dB,nR ab,Nat.add_sub_cancel_left,eN (by rw [dB]; omega)]
 rfl
theorem T1 {L:List Value} {o m:Nat} {v:Value} (h:o < m):(L.set o v).drop m=L.drop m:=by
 rw [List.drop_set,if_pos h]
theorem Gz (b e:Nat):∀ (vs:List Value) (o:Nat) (L:List Value) (w:World),w.heap[b]? =some (.cells L.toArray e (0,0))→o+vs.length≤L.length→
 (w.setCells b o vs).heap[b]? =some (.cells (L.take o++vs++L.drop (o+vs.length)).toArray e (0,0))∧Md (fun k=>k=b) w (w.setCells b o vs):=by
 intro vs
 induction vs with
 | nil=>intro o L w c _; exact ⟨by simpa [World.setCells] using c,Md.refl _ _⟩
 | cons v r I=>
   intro o L w c C
   simp only [bU] at C
   have h1:(w.setCell ⟨b,o,none⟩ v).heap[b]? =some (.cells (L.set o v).toArray e (0,0)):=by
    have E:=(cY.1 c).1
    have G:w.heap[b]= .cells L.toArray e (0,0):=(cY.1 c).2
    simp only [xw]
    rw [Array.getElem?_eq_getElem (by simpa using E),Array.getElem_modify]
    simp [G,List.setIfInBounds_toArray]
   have A:Md (fun k=>k=b) w (w.setCell ⟨b,o,none⟩ v):=⟨rfl,rfl,by simp [xw],fun k _ hk=>Below.heap_setCell w _ v k hk⟩
   obtain ⟨h2,h3⟩:=I (o+1) (L.set o v) _ h1<|by rw [List.length_set]; omega
   refine ⟨?_,Md.trans A h3⟩
   show ((w.setCell ⟨b,o,none⟩ v).setCells b (o+1) r).heap[b]? =_
   rw [h2,T2 ab,T1 ab,bU,show o+1 +r.length=o+(r.length+1) from by omega]
   simp
section
variable {P:Program} {N:Fm} {σ:Nat→Value} {w:World} {ty:TypeId} {pos :String} {af:Array Edge} {g:Option (Nat×Bool)} {x:Operand} {K:(Nat→Value)→World→Prop}
theorem C7 {t e B n k cp E m:Nat} {a:Option Addr} {xs:List Value} {z:Value} (ai:P.underlying t=some (.slice e)) (ak:zeroV P e=some z) (h1:z.oneCell'=true) (ac:w.ownsRow B e 1 (.slice a n cp) n xs)
 (G:ev N σ x= .slice (eh a cp k 1) m E) (hm:m=n - k) (hk:k < n) (al:∀ w',Md (fun q=>(bD a n cp).ownBlock=some q) w w'→w'.ownsRow B e 1 (.slice a n cp) n (xs.take k++iY (n - k) z)→K σ w'):
 cJ P N ⟨none,.call ⟨.builtin .clear,#[x],#[t]⟩,ty,pos,af,g⟩ σ w K:=by
 obtain ⟨J,h⟩:=ac
 subst hm
 rcases h with ⟨h,rfl⟩ | ⟨c,am,cur,h,O,Y,hle,V,ah,aj⟩
 · omega
 · simp only [l9,true_and] at h
   obtain ⟨rfl,rfl⟩:=h
   have ag:eh (some ⟨c,0,none⟩) cp k 1=some ⟨c,k,none⟩:=by
    unfold eh; rw [if_neg ab]; simp [k4]
   rw [ag] at G
   have C:w.heap[c]? =some (.cells cur.toList.toArray e (0,0)):=by simpa using Y
   have A:cur.toList.length=cp*1:=by rw [tD]; exact ah
   have ae:=H6 (P:=P) w t e ty z ai (fun w=>tB ak w) (by cases z <;> first | rfl | (cases h1; done)) h1 c k (n - k) E ab
    (fun j Z=>by rw [mo,bj C]; simp; omega) (fun j Z=>by simp only [Ii,show w.heap[c]? =_ from C]; simp)
   obtain ⟨h2,h3⟩:=Gz c e (iY (n - k) z) k cur.toList w C<|by rw [mU,A]; omega
   refine kW (w':=w.setCells c k<|iY (n - k) z) (v:= .tuple #[]) ?_ (al _ (h3.mono fun q _ ad=>by subst ad; rfl) ⟨?_,.inr ⟨c,cp,_,aa,O,h2,hle,V,?_,?_⟩⟩)
   · simp [execOp,resolve,invoke,builtin,G,ae]
   · rw [bK,dB,mU,J]; omega
   · simp only [nP,bK,dB,gy,mU,A]; omega
   · rw [mU,oE]
     have I:(cur.toList.take k++iY (n - k) z++cur.toList.drop (k+(n - k))).toArray.toList=(cur.toList.take k++iY (n - k) z)++cur.toList.drop (k+(n - k)):=rfl
     rw [I,qD,bK,dB,mU,A,nR ab,show n - (k+(n - k))=0 by omega,oC,eM,eN (by rw [bK,dB,mU,A]; omega)]
     rw [← aj,IP,oE,nR ab]
theorem MA {t e B n cp E m:Nat} {a:Option Addr} {xs:List Value} {z:Value} (aj:P.underlying t=some (.slice e)) (al:zeroV P e=some z) (h1:z.oneCell'=true) (ad:w.ownsRow B e 1 (.slice a n cp) n xs) (V:a≠none)
 (G:ev N σ x= .slice (eh a cp n 1) m E) (hm:0 < m∧n+m≤cp) (am:∀ w',Md (fun q=>(bD a n cp).ownBlock=some q) w w'→w'.ownsRow B e 1 (.slice a n cp) n xs→K σ w'):
 cJ P N ⟨none,.call ⟨.builtin .clear,#[x],#[t]⟩,ty,pos,af,g⟩ σ w K:=by
 obtain ⟨J,h⟩:=ad
 rcases h with ⟨h,rfl⟩ | ⟨c,an,cur,h,O,Z,hle,Y,ai,ak⟩
 · simp only [l9] at h; exact absurd h.1 V
 · simp only [l9,true_and] at h
   obtain ⟨rfl,rfl⟩:=h
   have ah:eh (some ⟨c,0,none⟩) cp n 1=some ⟨c,n,none⟩:=by
    unfold eh; rw [if_neg ab]; simp [k4]
   rw [ah] at G
   have C:w.heap[c]? =some (.cells cur.toList.toArray e (0,0)):=by simpa using Z
   have A:cur.toList.length=cp*1:=by rw [tD]; exact ai
   have ag:=H6 (P:=P) w t e ty z aj (fun w=>tB al w) (by cases z <;> first | rfl | (cases h1; done)) h1 c n m E hm.1
    (fun j ac=>by rw [mo,bj C]; simp; omega) (fun j ac=>by simp only [Ii,show w.heap[c]? =_ from C]; simp)
   obtain ⟨h2,h3⟩:=Gz c e (iY m z) n cur.toList w C<|by rw [mU,A]; omega
   refine kW (w':=w.setCells c n<|iY m z) (v:= .tuple #[]) ?_ (am _ (h3.mono fun q _ ae=>by subst ae; rfl) ⟨J,.inr ⟨c,cp,_,aa,O,h2,hle,Y,?_,?_⟩⟩)
   · simp [execOp,resolve,invoke,builtin,G,ag]
   · simp only [nP,bK,dB,gy,mU,A]; omega
   · rw [mU,oE]
     have I:(cur.toList.take n++iY m z++cur.toList.drop (n+m)).toArray.toList=cur.toList.take n++(iY m z++cur.toList.drop (n+m)):=List.append_assoc _ _ _
     rw [I,qD,dB,A,nR ab,Nat.sub_self,oC,eM,eN (by rw [dB]; omega),← ak,oE]
end
end Go.Hb
end
section
namespace Go.Hb
def x3 (P:Program) (t:TypeId):Option (List Value):=
 match P.info? t,P.underlying t with
 | some it,some (.array _ e)=>
   match it.zero,P.info? e with
   | some z,some ie=>if ie.size=1 then some z.cells.toList else none
   | _,_=>none
 | _,_=>none
def th:List Value→List (Nat×Value)→Option (List Value)
 | c,[]=>some c
 | c,(i,v)::r=>if (v.oneCell' && gh i c.length)=true then th (c.set i v) r else none
theorem Tc {c L:List Value} {ps:List (Nat×Value)} (h:th c ps=some L):lI (fun i=>some (i*1,1)) c.toArray ps=some L.toArray:=by
 induction ps generalizing c with
 | nil=>simp only [th,fE] at h; subst h; rfl
 | cons q r E=>
   obtain ⟨i,v⟩:=q
   rw [th] at h
   split at h
   · rename_i A
     simp only [gd] at A
     have C:=oX A.1
     have G:i < c.length:=pC A.2
     simp only [lI,C,oE]
     rw [if_neg (by simp; omega)]
     have :=E h
     simp only [oE] at this
     rw [← this]
     simp
   · cases h
section
variable {P:Program} {N:Fm} {σ:Nat→Value} {w:World} {dst:Option Nat} {ty:TypeId} {pos :String} {af:Array Edge} {g:Option (Nat×Bool)}
theorem B8 {t:TypeId} {parts:Array (Nat×Operand)} {c L:List Value} {ps:List (Nat×Value)} (h:x3 P t=some c) (hp:parts.toList.map (fun q=>(q.1,ev N σ q.2))=ps) (A:th c ps=some L):
 (execOp (ev N σ) ⟨dst,.build t parts,ty,pos,af,g⟩).run P w= .ok (.value<|.agg L.toArray) w:=by
 unfold x3 at h
 split at h
 · rename_i it n e hi hu
   split at h
   · rename_i z G E he
     split at h
     · rename_i hs
       simp only [fE] at h
       subst h
       have C:P.built t (parts.map fun q=>(q.1,ev N σ q.2)).toList=some L.toArray:=by
        have :=Tc A
        simp only [xf] at this
        simp only [Program.built,hi,hu,E,he,hs,lH,hp]; exact this
       simp [execOp,run_build w t _ _ C]
     · cases h
   · cases h
 · cases h
end
end Go.Hb
end
section
namespace Go.Hb
abbrev bh:Type :=Tx×List Nat
noncomputable def fy (F:aB) (row:List Tx):Except Nat bh:=
 if row.length≠1 then .error 111
 else if (bA<|row.getD 0 []).2.2.2≠0 then .error (bA<|row.getD 0 []).2.2.2
 else if gO (bA<|row.getD 0 []).1=false∨(bA<|row.getD 0 []).1= [] then .error 21
 else if 64 < (bA<|row.getD 0 []).1.length then .error 22
 else if (bA<|row.getD 0 []).2.2.1=false then .ok ((bA<|row.getD 0 []).1,[])
 else match fM F.kind F.aliases (bA<|row.getD 0 []).2.1 with
  | .error e=> .error e
  | .ok set =>if set.all (ea F)=true then .ok ((bA<|row.getD 0 []).1,set) else .error 120
section
variable {F:aB} {row:List Tx}
theorem Oh (h:row.length≠1):fy F row= .error 111:=if_pos h
theorem yJ (h:row.length=1) (h1:(bA<|row.getD 0 []).2.2.2≠0):fy F row= .error (bA<|row.getD 0 []).2.2.2:=by
 unfold fy; rw [if_neg (fun h2=>h2 h),if_pos h1]
variable (h:row.length=1) (h1:(bA (row.getD 0 [])).2.2.2=0)
include h h1
theorem DF (h2:gO (bA<|row.getD 0 []).1=false∨(bA<|row.getD 0 []).1= []):fy F row= .error 21:=by
 unfold fy; rw [if_neg (fun h2=>h2 h),if_neg (fun h2=>h2 h1),if_pos h2]
variable (h2:gO (bA (row.getD 0 [])).1=true) (h3:(bA (row.getD 0 [])).1≠[])
include h2 h3
omit h h1 in
theorem sI:¬(gO (bA<|row.getD 0 []).1=false∨(bA<|row.getD 0 []).1= []):=fun h=>h.elim (fun h=>by rw [h2] at h; cases h) h3
theorem Oi (h4:64 < (bA<|row.getD 0 []).1.length):fy F row= .error 22:=by
 unfold fy; rw [if_neg (fun h2=>h2 h),if_neg (fun h2=>h2 h1),if_neg (sI h2 h3),if_pos h4]
variable (h4:¬64 < (bA (row.getD 0 [])).1.length)
include h4
theorem Oj (h5:(bA<|row.getD 0 []).2.2.1=false):fy F row= .ok ((bA<|row.getD 0 []).1,[]):=by
 unfold fy; rw [if_neg (fun h2=>h2 h),if_neg (fun h2=>h2 h1),if_neg (sI h2 h3),if_neg h4,if_pos h5]
variable (h5:(bA (row.getD 0 [])).2.2.1=true)
include h5
theorem Ol {e:Nat} (c:fM F.kind F.aliases (bA<|row.getD 0 []).2.1= .error e):fy F row= .error e:=by
 unfold fy; rw [if_neg (fun h2=>h2 h),if_neg (fun h2=>h2 h1),if_neg (sI h2 h3),if_neg h4,if_neg (by rw [h5]; exact dA),c]
theorem On {set :List Nat} {i:Nat} (c:fM F.kind F.aliases (bA<|row.getD 0 []).2.1= .ok set) (hi:i < set.length) (A:ea F (set.getD i 0)=false):fy F row= .error 120:=by
 unfold fy; rw [if_neg (fun h2=>h2 h),if_neg (fun h2=>h2 h1),if_neg (sI h2 h3),if_neg h4,if_neg (by rw [h5]; exact dA),c]
 exact if_neg<|by rw [BV 0 hi A]; exact dA
theorem DG {set :List Nat} (c:fM F.kind F.aliases (bA<|row.getD 0 []).2.1= .ok set) (A:∀ i,i < set.length→ea F (set.getD i 0)=true):fy F row= .ok ((bA<|row.getD 0 []).1,set):=by
 unfold fy; rw [if_neg (fun h2=>h2 h),if_neg (fun h2=>h2 h1),if_neg (sI h2 h3),if_neg h4,if_neg (by rw [h5]; exact dA),c]
 exact if_pos<|BW 0 A
end
noncomputable def eC (F:aB) (eof:Nat):Nat→List Rw→Except (Nat×Nat) (List bh)
 | 0,[]=> .ok []
 | _+1,[]=> .error (eof,116)
 | 0,(ln,_)::_=> .error (ln,116)
 | n+1,(ln,row)::rows=>match fy F row with
   | .error e=> .error (ln,e)
   | .ok x=>match eC F eof n rows with
     | .error e=> .error e
     | .ok r=> .ok (x::r)
noncomputable def fw (F:aB) (t:Tx):Except (Nat×Nat) (List bh):=
 if 65536 < t.length then .error (0,10)
 else match eK t with
  | []=> .error ((da t).length+1,116)
  | (ln,row)::rows=>if row.length≠1 then .error (ln,111) else match ei (row.getD 0 []) 8192 with
    | .error e=> .error (ln,e)
    | .ok n=>eC F ((da t).length+1) n rows
def ij (F:aB) (eof:Nat) (T:Except (Nat×Nat) (List bh)) (xs:List bh) (n:Nat) (rows:List Rw):Prop :=
 T=match eC F eof n rows with
  | .error e=> .error e
  | .ok r=> .ok<|xs++r
section
variable {F:aB} {eof n ln:Nat} {T:Except (Nat×Nat) (List bh)} {xs:List bh} {rows:List Rw} {row:List Tx}
theorem ij.start:ij F eof (eC F eof n rows) [] n rows:=by
 unfold ij; cases eC F eof n rows <;> rfl
theorem ij.done (h:ij F eof T xs 0 []):T= .ok xs:=by
 unfold ij at h; rw [eC] at h; simpa using h
theorem ij.ends (h:ij F eof T xs n []) (hn:0 < n):T= .error (eof,116):=by
 obtain ⟨m,rfl⟩:∃ m,n=m+1:=⟨n - 1,ab⟩
 unfold ij at h; rw [eC] at h; exact h
theorem ij.more (h:ij F eof T xs 0 ((ln,row)::rows)):T= .error (ln,116):=by
 unfold ij at h; rw [eC] at h; exact h
theorem ij.bad {e:Nat} (h:ij F eof T xs n ((ln,row)::rows)) (hn:0 < n) (he:fy F row= .error e):T= .error (ln,e):=by
 obtain ⟨m,rfl⟩:∃ m,n=m+1:=⟨n - 1,ab⟩
 unfold ij at h; rw [eC,he] at h; exact h
theorem ij.step {x:bh} (h:ij F eof T xs n ((ln,row)::rows)) (hn:0 < n) (he:fy F row= .ok x):ij F eof T (xs++ [x]) (n - 1) rows:=by
 obtain ⟨m,rfl⟩:∃ m,n=m+1:=⟨n - 1,ab⟩
 unfold ij at h ⊢; rw [eC,he] at h
 rw [h,Nat.add_sub_cancel]
 simp only
 cases eC F eof m rows <;> simp
end
section
variable {F:aB} {t:Tx}
theorem N0 (h:65536 < t.length):fw F t= .error (0,10):=if_pos h
theorem N1 (h:¬65536 < t.length) (h1:eK t= []):fw F t= .error ((da t).length+1,116):=by
 unfold fw; rw [if_neg h,h1]
variable {ln:Nat} {row:List Tx} {rows:List Rw} (h:¬65536 < t.length) (h1:eK t=(ln,row)::rows)
include h h1
theorem NY (h2:row.length≠1):fw F t= .error (ln,111):=by
 unfold fw; rw [if_neg h,h1]; exact if_pos h2
theorem N2 (h2:row.length=1) {e:Nat} (h3:ei (row.getD 0 []) 8192= .error e):fw F t= .error (ln,e):=by
 unfold fw; rw [if_neg h,h1]; simp only; rw [if_neg (fun h=>h h2),h3]
theorem Dy (h2:row.length=1) {n:Nat} (h3:ei (row.getD 0 []) 8192= .ok n):fw F t=eC F ((da t).length+1) n rows:=by
 unfold fw; rw [if_neg h,h1]; simp only; rw [if_neg (fun h=>h h2),h3]
end
theorem PK {α:Type} {a b:List α} {i:Nat} {d:α} (h:i < a.length):(a++b).getD i d=a.getD i d:=by
 rw [cM,cM,me h]
def idxs (s:Tx) (xs:List bh):List Nat:=(fD xs.length).filter fun i=>decide ((xs.getD i ([],[])).1=s)
theorem zj (s:Tx) (xs:List bh) (x:bh):idxs s (xs++ [x])=idxs s xs++(if x.1=s then [xs.length] else []):=by
 unfold idxs
 rw [bK,ic,List.range_succ,List.filter_append]
 congr 1
 · refine List.filter_congr fun i hi=> ?_
   have hi:i < xs.length:=by simpa using hi
   rw [PK hi]
 · by_cases c:x.1=s <;> simp [List.filter,c]
theorem zi (s:Tx) (xs:List bh):(idxs s xs).length≤xs.length:=by
 unfold idxs; have :=mT (fun i=>decide ((xs.getD i ([],[])).1=s)) (fD xs.length); simpa using this
theorem Ox {F:aB} {eof:Nat} :∀ {n:Nat} {rows:List Rw} {r:List bh},eC F eof n rows= .ok r→r.length=n∧rows.length=n:=by
 intro n
 induction n with
 | zero=>
   intro rows r h
   cases rows with
   | nil=>rw [eC] at h; cases h; exact ⟨rfl,rfl⟩
   | cons q rows=>rw [eC] at h; cases h
 | succ n c=>
   intro rows r h
   cases rows with
   | nil=>rw [eC] at h; cases h
   | cons q rows=>
     rw [eC] at h
     split at h
     · cases h
     · split at h
       · cases h
       · rename_i h2
         cases h
         have :=c h2
         simp only [bU]; omega
end Go.Hb
end
section
namespace Go.Hb
section
variable {P:Program} {N:Fm} {σ:Nat→Value} {w:World} {dst:Option Nat} {ty:TypeId} {pos :String} {af:Array Edge} {g:Option (Nat×Bool)} {x:Operand}
theorem JS {t n A b:Nat} (he:pO P t=some (n,A)) (c:ev N σ x= .pointer (some ⟨b,0,none⟩)):
 (execOp (ev N σ) ⟨dst,.slice t x none none none,ty,pos,af,g⟩).run P w= .ok (.value<|.slice (some ⟨b,0,none⟩) n n) w:=by
 unfold pO at he
 cases hd:P.underlying t with
 | none=>rw [hd] at he; cases he
 | some d=>
   rw [hd] at he
   cases d <;> first | (cases he; done) | skip
   rename_i m e
   cases hi:P.info? e with
   | none=>simp [hi] at he
   | some j=>
     simp only [hi,jU,fE,uh] at he
     obtain ⟨rfl,rfl⟩:=he
     simp [execOp,qu,ph,nI,c,cT hd,sizeOf,gI hi,k4]
def yT (P:Program) (t f:Nat):Option (Nat×Nat):=
 match P.underlying t with
 | some (.struct fs)=>(fs[f]?).map fun d=>(d.type,d.offset)
 | _=>none
theorem Ph {t f A off n:Nat} {cs vs:List Value} (h:yT P t f=some (A,off)) (c:c4 P A=some (some n)) (G:ev N σ x= .agg cs.toArray) (E:(cs.drop off).take n=vs):
 (execOp (ev N σ) ⟨dst,.field t x f,ty,pos,af,g⟩).run P w= .ok (.value<|.agg vs.toArray) w:=by
 subst E
 unfold yT at h
 cases hd:P.underlying t with
 | none=>rw [hd] at h; cases h
 | some d=>
   rw [hd] at h
   cases d <;> first | (cases h; done) | skip
   rename_i fs
   simp only [mj] at h
   obtain ⟨fd,C,he⟩:=h
   cases he
   unfold c4 at c
   cases hd2:P.underlying fd.type with
   | none=>rw [hd2] at c; cases c
   | some d2=>
     rw [hd2] at c
     cases hi:P.info? fd.type with
     | none=>simp [H8,hi] at hd2
     | some i=>
       rw [hi] at c
       have I:cs.toArray.extract fd.offset (fd.offset+n)=((cs.drop fd.offset).take n).toArray:=by simp
       cases d2 <;> first
        | (cases c; done)
        | (simp only [jU,fE] at c; subst c
           simp [execOp,HZ,cT hd,C,G,asAgg,part,isAgg,cT hd2,sizeOf,gI hi])
end
end Go.Hb
end
namespace Go.Hb
def nz (ps:List Tx) (w:Tx):Bool:=decide (ps.length≤w.length) && (fD ps.length).all fun i=>eY (ps.getD i [])<|w.getD i 0
def sH (ps:List Tx) (w:Tx):Bool:=decide (ps.length≤w.length) && nz ps (w.drop<|w.length - ps.length)
noncomputable def gl (r:cC) (w:Tx):Bool:=
 decide ((dP r.cond).2=0∧r.strip.length < w.length) &&
  (if r.kind=2 then decide (w.drop (w.length - r.strip.length)=r.strip) && sH (dP r.cond).1 w
   else if r.kind=1 then decide (w.take r.strip.length=r.strip) && nz (dP r.cond).1 w else false)
noncomputable def fW (r:cC) (w:Tx):Option Tx:=if gl r w=true then some (if r.kind=2 then w.take (w.length - r.strip.length)++r.add else r.add++w.drop r.strip.length) else none
def dp:cC:=⟨0,0,false,[],[],[],[],0⟩
def bC (F:aB) (fs:List Nat) (kind:Nat):List Nat:=(fD F.rules.length).filter fun i=>decide ((F.rules.getD i dp).kind=kind∧(F.rules.getD i dp).flag∈fs)
def flagsOf (xs:List bh) (e:Int):List Nat:=if 0≤e∧e < xs.length then (xs.getD e.toNat ([],[])).2 else []
def bY (F:aB) (r:Int):List Nat:=if 0≤r∧r < F.rules.length then (F.rules.getD r.toNat dp).next else []
def rl (F:aB) (xs:List bh) (e:Int) (k:Nat):Bool:=decide (F.sp.getD k 0≠0∧F.sp.getD k 0∈flagsOf xs e)
def pV (F:aB) (r:Int):Bool:=decide (0≤r∧r < F.rules.length) && !decide (F.sp.getD 0 0≠0∧F.sp.getD 0 0∈bY F r)
structure bF where
 ga:Tx
 ca:Nat
 fst:Int
 snd:Int
 pre:Int
def ng (F:aB) (n:Int):Bool:=decide (n= -1) || (F.rules.getD n.toNat dp).fX
def fi (F:aB) (xs:List bh) (e:Nat) (f s p:Int):Bool:=
 if f= -1 then decide (p≠ -1) || !rl F xs e 0
 else if pV F (if s= -1 then f else s)=false then false
 else decide (p= -1) || (ng F f && ng F s && ng F p)
def qT (F:aB) (xs:List bh) (e:Nat) (word:Tx) (f s:Int):List bF:=if fi F xs e f s (-1)=true then [⟨word,e,f,s,-1⟩] else []
noncomputable def uR (F:aB) (xs:List bh) (e:Nat) (word:Tx) (f s:Int) (p:Nat):Option bF:=if fi F xs e f s p=true then (fW (F.rules.getD p dp) word).map (fun v=>(⟨v,e,f,s,(p:Int)⟩:bF)) else none
noncomputable def nf (F:aB) (xs:List bh) (e:Nat) (word:Tx) (f s:Int):List bF:=qT F xs e word f s++(bC F (flagsOf xs e) 1).filterMap (uR F xs e word f s)
noncomputable def wi (F:aB) (xs:List bh) (e:Nat) (w:Tx) (s:Int) (z:Nat):List bF:=match fW (F.rules.getD z dp) w with
 | none=> []
 | some v=>nf F xs e v s z
noncomputable def sX (F:aB) (xs:List bh) (e:Nat) (s:Nat):List bF:=match fW (F.rules.getD s dp) (xs.getD e ([],[])).1 with
 | none=> []
 | some w=>nf F xs e w s (-1)++(bC F (bY F s) 2).flatMap (wi F xs e w s)
noncomputable def kJ (F:aB) (xs:List bh) (e:Nat):List bF:=
 nf F xs e (xs.getD e ([],[])).1 (-1) (-1)++(bC F (flagsOf xs e) 2).flatMap (sX F xs e)
def um (q:cC):Prop :=q.strip.length≤32∧q.add.length≤32∧q.cond.length≤4800
structure nW (F:aB):Prop where
 part:∀ (i:Nat) r,F.rules[i]? =some r→∃ c∈F.bz,c.first≤i∧i < c.first+c.count∧r.flag=c.flag∧r.kind=c.kind
 sB:∀ c∈F.bz,c.first+c.count≤F.rules.length∧∀ i,c.first≤i→i < c.first+c.count→∃ r,F.rules[i]? =some r∧r.flag=c.flag∧r.kind=c.kind
 uniq:(F.bz.map (·.flag)).Nodup
theorem EJ {α:Type} {hd:List Tx} {rd:Nat→List Tx→Except Nat α} {eof:Nat} :∀ (n:Nat) (rows:List Rw) (r:List α×List Rw),group hd rd eof n rows= .ok r→∀ x∈r.1,∃ ln row,rd ln row= .ok x:=by
 intro n
 induction n with
 | zero=>intro rows r h; simp only [group,qp] at h; subst h; intro x c; cases c
 | succ n A=>
   intro rows r h
   cases rows with
   | nil=>simp [group] at h
   | cons q rows=>
     obtain ⟨ln,row⟩:=q
     simp only [group] at h
     split at h
     · cases h
     · cases hr:rd ln row with
       | error e=>rw [hr] at h; cases h
       | ok y=>
         rw [hr] at h
         simp only at h
         cases hg:group hd rd eof n rows with
         | error e=>rw [hg] at h; cases h
         | ok C=>
           rw [hg] at h
           simp only [qp] at h
           subst h
           intro x c
           rcases dR.1 c with c | c
           · exact ⟨ln,row,by rw [c]; exact hr⟩
           · exact A rows C hg x c
theorem ES {eof ln:Nat} {F F':aB} {hs:List Tx} {rows rows':List Rw} {row:List Tx} (A:bX eof F hs rows ln row= .ok (F',rows')):
 (F'.aliases=F.aliases∧F'.bz=F.bz∧F'.rules=F.rules)∨
 (F'.bz=F.bz∧F'.rules=F.rules∧∃ l,F'.aliases=F.aliases++l∧∀ x∈l,∃ kd s,kq kd s= .ok x)∨
 (F'.aliases=F.aliases∧∃ c l,F'.bz=F.bz++ [c]∧F'.rules=F.rules++l∧c.first=F.rules.length∧c.count=l.length∧ea F c.flag=false∧∀ x∈l,∃ ln row,iV F.kind F.aliases c ln row= .ok x):=by
 unfold bX at A
 split at A
 · unfold jt at A; split at A <;> cases A; exact .inl ⟨rfl,rfl,rfl⟩
 split at A
 · unfold ke at A
   split at A
   · cases A
   · split at A <;> cases A; exact .inl ⟨rfl,rfl,rfl⟩
 split at A
 · unfold l0 at A; split at A <;> cases A; exact .inl ⟨rfl,rfl,rfl⟩
 split at A
 · unfold l1 at A; split at A <;> cases A; exact .inl ⟨rfl,rfl,rfl⟩
 split at A
 · unfold kf at A
   split at A
   · cases A
   · split at A <;> cases A; exact .inl ⟨rfl,rfl,rfl⟩
 split at A
 · unfold kh at A
   split at A
   · cases A
   · split at A <;> cases A; exact .inl ⟨rfl,rfl,rfl⟩
 split at A
 · unfold jG at A
   split at A
   · cases A
   · split at A
     · cases A
     · split at A
       · cases A
       · rename_i r E
         cases A
         refine .inr<|.inl ⟨aa,aa,r.1,aa,fun x A=> ?_⟩
         obtain ⟨ln,row,h⟩:=EJ _ _ _ E x A
         unfold lM at h
         split at h
         · cases h
         · exact ⟨_,_,h⟩
 · unfold gP at A
   split at A
   · cases A
   · rename_i x C
     split at A
     · cases A
     · split at A
       · cases A
       · split at A
         · cases A
         · split at A
           · cases A
           · rename_i r E
             cases A
             refine .inr<|.inr ⟨aa,_,r.1,aa,aa,aa,(sY _ _ _ E).2.1.symm,?_,fun x A=>EJ _ _ _ E x A⟩
             unfold iw at C
             split at C
             · cases C
             · split at C
               · cases C
               · rename_i h; cases C; simpa using h
theorem xR {Q:aB→Prop} (A:Q im) (E:∀ (eof ln:Nat) (F F':aB) (hs:List Tx) (rows rows':List Rw) (row:List Tx),Q F→bX eof F hs rows ln row= .ok (F',rows')→Q F') {s:Tx} {F:aB} (h:fF s= .ok F):Q F:=by
 unfold fF at h
 split at h
 · cases h
 · split at h
   · cases h
   · rename_i f C
     split at h
     · cases h
     · cases h
       have key:∀ (k:Nat) (F F':aB) (hs:List Tx) (rows:List Rw) (eof:Nat),Q F→gH eof k F hs rows= .ok F'→Q F':=by
        intro k
        induction k with
        | zero=>intro F F' hs rows eof h c; rw [gH] at c; split at c <;> cases c; exact h
        | succ k I=>
          intro F F' hs rows eof h c
          cases rows with
          | nil=>simp only [gH,qp] at c; exact c ▸ h
          | cons q rows=>
            rw [gH] at c
            split at c
            · cases c
            · split at c
              · cases c
              · split at c
                · cases c
                · split at c
                  · cases c
                  · rename_i r G
                    exact I _ _ _ _ _ (E _ _ _ _ _ _ _ _ h G) c
       exact key _ _ _ _ _ _ A C
def jX (l:List Nat):Prop :=l.Pairwise (· < ·)∧0∉l
theorem Px {kind:Nat} {s:Tx} (c:(eO kind s).2=0):jX (eO kind s).1:=by
 unfold eO at c ⊢
 by_cases h1:s= []
 · rw [if_pos h1] at c; cases c
 · rw [if_neg h1] at c ⊢
   by_cases h2:∃ x∈ee kind s,eD kind x=0
   · rw [if_pos h2] at c; cases c
   · rw [if_neg h2] at c ⊢
     by_cases h3:64 < (ee kind s).length
     · rw [if_pos h3] at c; cases c
     · rw [if_neg h3]
       refine ⟨zZ _,fun h4=> ?_⟩
       rw [zY,gK] at h4
       exact h2 h4
theorem Et {kind:Nat} {s:Tx} {l:List Nat} (h:kq kind s= .ok l):jX l:=by
 unfold kq at h
 split at h
 · cases h
 · rename_i c
   cases h
   exact Px<|Classical.not_not.1 c
def qG (F:aB):Prop :=(∀ l∈F.aliases,jX l)∧∀ q∈F.rules,jX q.next∧um q
theorem D2 {w:Tx} (h:¬gR w≠0):w.length≤32:=by
 unfold gR at h
 split at h
 · exact absurd ay h
 · split at h
   · exact absurd ay h
   · omega
theorem SX {b:Bool} {fd p:Tx} (h:fJ b fd= .ok p):p.length≤32:=by
 unfold fJ at h
 split at h
 · cases h; exact mi _
 · split at h
   · cases h
   · split at h
     · cases h
     · split at h
       · cases h
       · rename_i c; cases h; exact D2 c
theorem Jk {r:k0} {p:Tx} (h:kF r= .ok p):p.length≤32:=by
 unfold kF at h
 split at h
 · cases h
 · split at h
   · cases h; exact mi _
   · split at h
     · cases h
     · rename_i c; cases h; exact D2 c
theorem Dg (s:Tx):(dP s).1.length≤16:=by
 unfold dP
 split
 · simp
 · split
   · simp
   · split
     · simp
     · split
       · simp
       · simp only; omega
theorem T7:∀ {ps:List Tx},ps.length≤16→(o0 ps).length≤4800:=by
 have key:∀ ps:List Tx,(ps.flatMap fun t=>kR<|eY t).length≤ps.length*300:=by
  intro ps
  induction ps with
  | nil=>exact mi _
  | cons t ps c=>
    have :=GB<|eY t
    rw [jg,bK,bU]; omega
 intro ps h
 unfold o0
 split
 · simp
 · have :=key ps; omega
theorem MY {row:List Tx} {c:Tx} (h:lP row= .ok c):c.length≤4800:=by
 unfold lP at h
 split at h
 · split at h
   · cases h
   · split at h
     · cases h
     · cases h; exact T7<|Dg _
 · cases h; simp
theorem sW:jX []:=⟨.nil,uc⟩
theorem D9 {kind:Nat} {al:List (List Nat)} {s:Tx} {l:List Nat} (c:∀ l∈al,jX l) (h:fM kind al s= .ok l):jX l:=by
 unfold fM at h
 split at h
 · exact Et h
 · split at h
   · cases h
   · split at h
     · cases h
     · cases h
       rename_i n _ _
       rw [cM]
       cases hg:al[n - 1]? with
       | none=>exact sW
       | some x=>exact c x<|gB hg
theorem Ao {kind ln:Nat} {al:List (List Nat)} {c:dI} {row:List Tx} {q:cC} (E:∀ l∈al,jX l) (h:iV kind al c ln row= .ok q):(jX q.next∧um q)∧q.flag=c.flag∧q.kind=c.kind∧q.fX=c.fX:=by
 unfold iV at h
 split at h
 · cases h
 · split at h
   · cases h
   · rename_i hp
     split at h
     · cases h
     · rename_i C
       split at h
       · cases h
       · rename_i nx A
         split at h
         · cases h
         · rename_i G
           cases h
           refine ⟨⟨?_,SX hp,Jk C,MY G⟩,aa,aa,aa⟩
           unfold mG at A
           split at A
           · split at A
             · cases A
             · exact D9 E A
           · cases A; exact sW
theorem yU {cs:List dI} {x:Nat} (h:(dE cs x).isSome=false):∀ c∈cs,c.flag≠x:=fun c A C=>by
 unfold dE at h
 have h1:cs.find? (fun c=>decide (c.flag=x))=none:=by
  cases h2:cs.find? (fun c=>decide (c.flag=x)) with
  | none=>rfl
  | some y=>rw [h2] at h; cases h
 have :=List.find?_eq_none.1 h1 c A
 simp [C] at this
theorem xQ {s:Tx} {F:aB} (h:fF s= .ok F):qG F∧nW F:=by
 refine xR (Q:=fun F=>qG F∧nW F) ⟨⟨fun l Z=>(by cases Z),fun l Z=>by cases Z⟩,⟨fun i r h=>(by cases h),fun c h=>(by cases h),.nil⟩⟩ ?_ h
 rintro eof ln F F' hs rows rows' row ⟨E,G⟩ A
 refine ⟨?_,?_⟩
 · rcases ES A with ⟨h1,_,h3⟩ | ⟨_,h2,l,h3,h4⟩ | ⟨h1,c,l,_,h3,_,_,_,h4⟩
   · exact ⟨h1 ▸ E.1,h3 ▸ E.2⟩
   · refine ⟨fun x A=> ?_,h2 ▸ E.2⟩
     rw [h3] at A
     rcases kY.1 A with A | A
     · exact E.1 x A
     · obtain ⟨_,_,h⟩:=h4 x A; exact Et h
   · refine ⟨h1 ▸ E.1,fun x A=> ?_⟩
     rw [h3] at A
     rcases kY.1 A with A | A
     · exact E.2 x A
     · obtain ⟨_,_,h⟩:=h4 x A; exact (Ao E.1 h).1
 · rcases ES A with ⟨_,h2,h3⟩ | ⟨h2,h3,_⟩ | ⟨_,c,l,h2,h3,h4,h5,Y,ae⟩
   · exact ⟨by rw [h2,h3]; exact G.part,by rw [h2,h3]; exact G.sB,by rw [h2]; exact G.uniq⟩
   · exact ⟨by rw [h2,h3]; exact G.part,by rw [h2,h3]; exact G.sB,by rw [h2]; exact G.uniq⟩
   · have ac:∀ i,F.rules.length≤i→i < F.rules.length+l.length→∃ r,F'.rules[i]? =some r∧r.flag=c.flag∧r.kind=c.kind:=fun i I O=>by
      have C:i - F.rules.length < l.length:=ab
      refine ⟨l[i - F.rules.length],?_,?_⟩
      · rw [h3,mR I,bZ C]
      · obtain ⟨_,_,h⟩:=ae _ (List.getElem_mem C); exact ⟨(Ao E.1 h).2.1,(Ao E.1 h).2.2.1⟩
     refine ⟨fun i r I=> ?_,fun d hd=> ?_,?_⟩
     · by_cases O:i < F.rules.length
       · rw [h3,me O] at I
         obtain ⟨d,hd,C⟩:=G.part i r I
         exact ⟨d,by rw [h2]; exact xG _ hd,C⟩
       · have C:i < F.rules.length+l.length:=by
          have :=(eu.1 I).1; rw [h3,bK] at this; exact this
         obtain ⟨ai,J,V⟩:=ac i ab C
         rw [I] at J; cases J
         exact ⟨c,by rw [h2]; exact ua _ (iX.2 aa),ab,ab,V⟩
     · rw [h2] at hd
       rcases kY.1 hd with hd | hd
       · obtain ⟨I,O⟩:=G.sB d hd
         refine ⟨by rw [h3,bK]; omega,fun i C J=> ?_⟩
         obtain ⟨r,V,ad⟩:=O i C J
         exact ⟨r,by rw [h3,me ab]; exact V,ad⟩
       · obtain rfl :=iX.1 hd
         refine ⟨by rw [h3,bK]; omega,fun i C J=>ac i ab ab⟩
     · rw [h2,gA,ub]
       refine ⟨G.uniq,by simp,fun a ag b ah=> ?_⟩
       obtain ⟨d,hd,rfl⟩:=gK.1 ag
       obtain rfl :b=c.flag:=by simpa using ah
       unfold ea at Y
       rw [pd] at Y
       exact yU Y.2 d hd
theorem Om {F:aB} {row:List Tx} {x:bh} (c:qG F) (h:fy F row= .ok x):jX x.2:=by
 unfold fy at h
 split at h
 · cases h
 · split at h
   · cases h
   · split at h
     · cases h
     · split at h
       · cases h
       · split at h
         · cases h; exact sW
         · split at h
           · cases h
           · rename_i set hs
             split at h
             · cases h; exact D9 c.1 hs
             · cases h
theorem Ow {F:aB} (C:qG F) {eof:Nat} :∀ {n:Nat} {rows:List Rw} {r:List bh},eC F eof n rows= .ok r→∀ x∈r,jX x.2:=by
 intro n
 induction n with
 | zero=>
   intro rows r h
   cases rows with
   | nil=>rw [eC] at h; cases h; intro x c; cases c
   | cons q rows=>rw [eC] at h; cases h
 | succ n E=>
   intro rows r h
   cases rows with
   | nil=>rw [eC] at h; cases h
   | cons q rows=>
     rw [eC] at h
     split at h
     · cases h
     · rename_i x c
       split at h
       · cases h
       · rename_i h2
         cases h
         intro y A
         rcases dR.1 A with rfl | A
         · exact Om C c
         · exact E h2 y A
theorem NZ {F:aB} (c:qG F) {t:Tx} {xs:List bh} (h:fw F t= .ok xs):∀ x∈xs,jX x.2:=by
 unfold fw at h
 split at h
 · cases h
 · split at h
   · cases h
   · split at h
     · cases h
     · split at h
       · cases h
       · exact Ow c h
theorem Oo {F:aB} {row:List Tx} {x:bh} (h:fy F row= .ok x):1≤x.1.length:=by
 unfold fy at h
 split at h
 · cases h
 · split at h
   · cases h
   · split at h
     · cases h
     · rename_i A
       have h1:1≤(bA<|row.getD 0 []).1.length:=by
        rcases IW (bA<|row.getD 0 []).1.length with c | c
        · exact absurd (Or.inr<|fR c) A
        · exact c
       split at h
       · cases h
       · split at h
         · cases h; exact h1
         · split at h
           · cases h
           · split at h
             · cases h; exact h1
             · cases h
theorem Oy {F:aB} {eof:Nat} :∀ {n:Nat} {rows:List Rw} {r:List bh},eC F eof n rows= .ok r→∀ x∈r,1≤x.1.length:=by
 intro n
 induction n with
 | zero=>
   intro rows r h
   cases rows with
   | nil=>rw [eC] at h; cases h; intro x c; cases c
   | cons q rows=>rw [eC] at h; cases h
 | succ n C=>
   intro rows r h
   cases rows with
   | nil=>rw [eC] at h; cases h
   | cons q rows=>
     rw [eC] at h
     split at h
     · cases h
     · rename_i x c
       split at h
       · cases h
       · rename_i h2
         cases h
         intro y A
         rcases dR.1 A with rfl | A
         · exact Oo c
         · exact C h2 y A
theorem N3 {F:aB} {t:Tx} {xs:List bh} (h:fw F t= .ok xs):∀ x∈xs,1≤x.1.length:=by
 unfold fw at h
 split at h
 · cases h
 · split at h
   · cases h
   · split at h
     · cases h
     · split at h
       · cases h
       · exact Oy h
theorem oh {F:aB} {fs:List Nat} {k i:Nat} :i∈bC F fs k↔i < F.rules.length∧(F.rules.getD i dp).kind=k∧(F.rules.getD i dp).flag∈fs:=by
 unfold bC; simp
theorem zR (F:aB) (fs:List Nat) (k:Nat):(bC F fs k).Pairwise (· < ·):=Ws _ xJ
theorem zO (F:aB) (fs:List Nat) (k:Nat):(bC F fs k).length≤F.rules.length:=by
 unfold bC; have :=mT (fun i=>decide ((F.rules.getD i dp).kind=k∧(F.rules.getD i dp).flag∈fs)) (fD F.rules.length); simpa using this
def fG (F:aB) (k f:Nat):List Nat:=match dE F.bz f with
 | some c=>if c.kind=k then (fD c.count).map (c.first+ ·) else []
 | none=> []
theorem DZ {cs:List dI} {x:Nat} {c:dI} (h:dE cs x=some c):c∈cs∧c.flag=x:=⟨List.mem_of_find?_eq_some h,by simpa using List.find?_some h⟩
theorem OW:∀ {cs:List dI},(cs.map (·.flag)).Nodup→∀ c∈cs,dE cs c.flag=some c:=by
 intro cs
 induction cs with
 | nil=>intro _ c h; cases h
 | cons d cs E=>
   intro h c A
   rw [nM,xH] at h
   unfold dE
   rw [List.find?_cons]
   rcases dR.1 A with rfl | A
   · simp
   · have C:¬d.flag=c.flag:=fun h2=>h.1<|gK.2 ⟨c,A,h2.symm⟩
     rw [decide_eq_false C]
     exact E h.2 c A
theorem vB {F:aB} (A:nW F) {k f i:Nat} :i∈fG F k f↔i < F.rules.length∧(F.rules.getD i dp).kind=k∧(F.rules.getD i dp).flag=f:=by
 unfold fG
 constructor
 · intro h
   split at h
   · rename_i c C
     split at h
     · rename_i hk
       obtain ⟨j,O,rfl⟩:=gK.1 h
       rw [mW] at O
       have h1:=DZ C
       obtain ⟨h2,h3⟩:=A.sB c h1.1
       obtain ⟨r,h4,h5,E⟩:=h3 (c.first+j) ab ab
       refine ⟨ab,?_⟩
       rw [cM,h4]
       exact ⟨E.trans hk,h5.trans h1.2⟩
     · cases h
   · cases h
 · rintro ⟨h1,h2,h3⟩
   have h4:F.rules[i]? =some (F.rules.getD i dp):=by rw [cM,bZ h1]; rfl
   obtain ⟨c,C,h5,E,I,J⟩:=A.part i _ h4
   have G:=OW A.uniq c C
   rw [← I,h3] at G
   rw [G]
   simp only
   rw [if_pos (J.symm.trans h2)]
   exact gK.2 ⟨i - c.first,mW.2 ab,ab⟩
theorem MB (F:aB) (k f:Nat):(fG F k f).Nodup:=by
 unfold fG
 split
 · split
   · rw [List.Nodup,xK]
     exact Wt (fun h=>by omega) xJ
   · exact .nil
 · exact .nil
theorem FJ {F:aB} (c:nW F) {k:Nat} :∀ {fs:List Nat},fs.Pairwise (· < ·)→(fs.flatMap<|fG F k).Nodup∧∀ i,i∈fs.flatMap (fG F k)↔i∈bC F fs k:=by
 intro fs h
 refine ⟨?_,fun i=> ?_⟩
 · induction fs with
   | nil=>exact .nil
   | cons f fs J=>
     rw [List.pairwise_cons] at h
     rw [jg,ub]
     refine ⟨MB F k f,J h.2,fun a C b A E=> ?_⟩
     subst E
     obtain ⟨g,I,A⟩:=oB.1 A
     have h1:=(vB c).1 C
     have h2:=(vB c).1 A
     have :=h.1 g I
     omega
 · rw [oB,oh]
   constructor
   · rintro ⟨f,G,hi⟩
     have h1:=(vB c).1 hi
     exact ⟨h1.1,h1.2.1,h1.2.2 ▸ G⟩
   · rintro ⟨h1,h2,h3⟩
     exact ⟨_,h3,(vB c).2 ⟨h1,h2,aa⟩⟩
theorem Ui {F:aB} (C:nW F) {fs:List Nat} (h:fs.Pairwise (· < ·)) (k:Nat):((fs.flatMap<|fG F k).map fun i:Nat=>(i:Int)).mergeSort (fun x y=>decide (x≤y))=(bC F fs k).map fun i:Nat=>(i:Int):=by
 obtain ⟨h1,h2⟩:=FJ C (k:=k) h
 have hn:=zR F fs k
 have hp:=(List.mergeSort_perm ((fs.flatMap<|fG F k).map fun i:Nat=>(i:Int)) fun x y=>decide (x≤y)).trans<|((List.perm_ext_iff_of_nodup h1<|hn.imp fun h=>by omega).2 h2).map _
 refine List.Perm.eq_of_pairwise (le:=fun x y:Int=>decide (x≤y)=true) ?_ (List.pairwise_mergeSort ?_ ?_ _) ?_ hp
 · intro a b _ _ h A; have :=of_decide_eq_true h; have :=of_decide_eq_true A; omega
 · intro a b c h A; have :=of_decide_eq_true h; have :=of_decide_eq_true A; exact decide_eq_true ab
 · intro a b; simp only [Bool.or_eq_true,decide_eq_true_eq]; omega
 · rw [xK]; exact hn.imp fun h=>decide_eq_true ab
def Cc (l:List bF):Nat:=(l.map fun d=>d.ga.length).sum
theorem JM {r:cC} {w v:Tx} (h:fW r w=some v):r.strip.length < w.length∧v=(if r.kind=2 then w.take (w.length - r.strip.length)++r.add else r.add++w.drop r.strip.length):=by
 unfold fW at h
 split at h
 · rename_i c
   unfold gl at c
   rw [gd,decide_eq_true_eq] at c
   cases h
   exact ⟨c.1.2,aa⟩
 · cases h
theorem JL {r:cC} {w v:Tx} (c:r.add.length≤32) (h:fW r w=some v):1≤v.length∧v.length≤w.length+32:=by
 obtain ⟨h1,rfl⟩:=JM h
 split
 · rw [bK,dB]; omega
 · rw [bK,gy]; omega
def lC (n:Nat):List Int:=(-1)::(fD n).map fun i:Nat=>(i:Int)
noncomputable def fq (F:aB) (L:List Nat) (n:Int) (w:Tx):Option Tx:=if n= -1 then some w else if n.toNat∈L then fW (F.rules.getD n.toNat dp) w else none
noncomputable def fz (F:aB) (xs:List bh) (e:Nat) (f s p:Int):Option Tx:=
 if f= -1∧s≠ -1 then none
 else (fq F (bC F (flagsOf xs e) 2) f (xs.getD e ([],[])).1).bind fun w=>(fq F (bC F (bY F f) 2) s w).bind fun v=>(fq F (bC F (flagsOf xs e) 1) p v).bind fun u=>
  if fi F xs e f s p=true then some u else none
noncomputable def pX (F:aB) (xs:List bh) (e:Nat) (f s:Int):List bF:=(lC F.rules.length).filterMap fun p=>(fz F xs e f s p).map fun u=>(⟨u,e,f,s,p⟩:bF)
noncomputable def sK (F:aB) (xs:List bh) (e:Nat) (f:Int):List bF:=(lC F.rules.length).flatMap<|pX F xs e f
theorem OT {α β:Type} {l:List α} {f:α→Option β} (h:∀ x∈l,f x=none):l.filterMap f= []:=by
 induction l with
 | nil=>rfl
 | cons x l A=>rw [xA,h x (mV ..)]; exact A fun y c=>h y<|nN _ c
theorem yW {α β:Type} {l:List α} {f:α→List β} (h:∀ x∈l,f x= []):l.flatMap f= []:=by
 induction l with
 | nil=>rfl
 | cons x l A=>rw [jg,h x (mV ..),nO]; exact A fun y c=>h y<|nN _ c
theorem DX {α β:Type} (q:α→Bool) (f:α→List β):∀ l:List α,(l.filter q).flatMap f=l.flatMap fun x=>if q x=true then f x else []:=by
 intro l
 induction l with
 | nil=>rfl
 | cons x l c=>
   by_cases h:q x=true
   · rw [List.filter_cons_of_pos h,jg,jg,if_pos h,c]
   · rw [List.filter_cons_of_neg h,jg,if_neg h,c]; rfl
theorem Eb {α β:Type} {f g:α→List β} :∀ {l:List α},(∀ x∈l,f x=g x)→l.flatMap f=l.flatMap g:=by
 intro l h
 induction l with
 | nil=>rfl
 | cons x l A=>rw [jg,jg,h x (mV ..),A fun y c=>h y (nN _ c)]
theorem OS {α β:Type} {f g:α→Option β} :∀ {l:List α},(∀ x∈l,f x=g x)→l.filterMap f=l.filterMap g:=by
 intro l h
 induction l with
 | nil=>rfl
 | cons x l A=>rw [xA,xA,h x (mV ..),A fun y c=>h y (nN _ c)]
theorem zQ {F:aB} {fs:List Nat} {k i:Nat} (h:i < F.rules.length):decide ((F.rules.getD i dp).kind=k∧(F.rules.getD i dp).flag∈fs)=decide (i∈bC F fs k):=by
 rw [decide_eq_decide,oh]; exact ⟨fun h2=>⟨h,h2⟩,fun h2=>h2.2⟩
theorem qk {F:aB} {L:List Nat} (i:Nat) (w:Tx):fq F L (i:Int) w=if i∈L then fW (F.rules.getD i dp) w else none:=by
 unfold fq; rw [if_neg ab,Int.toNat_natCast]
theorem tv {F:aB} {L:List Nat} (w:Tx):fq F L (-1) w=some w:=by unfold fq; rw [if_pos rfl]
theorem yM {F:aB} {xs:List bh} {e:Nat} {f s:Int} {v:Tx} (h:∀ p,fz F xs e f s p=(fq F (bC F (flagsOf xs e) 1) p v).bind fun u=>if fi F xs e f s p=true then some u else none):pX F xs e f s=nf F xs e v f s:=by
 unfold pX lC nf
 rw [xA,List.filterMap_map]
 have h1:(fz F xs e f s<|-1).map (fun u=>(⟨u,e,f,s,-1⟩:bF))=if fi F xs e f s (-1)=true then some ⟨v,e,f,s,-1⟩ else none:=by
  rw [h,tv,oG]; split <;> rfl
 have h2:(fD F.rules.length).filterMap ((fun p=>(fz F xs e f s p).map fun u=>(⟨u,e,f,s,p⟩:bF))∘fun i:Nat=>(i:Int))=(bC F (flagsOf xs e) 1).filterMap (uR F xs e v f s):=by
  have h3:bC F (flagsOf xs e) 1=(fD F.rules.length).filter fun i=>decide ((F.rules.getD i dp).kind=1∧(F.rules.getD i dp).flag∈flagsOf xs e):=rfl
  rw [h3,List.filterMap_filter]
  refine OS fun i hi=> ?_
  have hi:i < F.rules.length:=by simpa using hi
  rw [zQ hi]
  show (fz F xs e f s (i:Int)).map _=_
  rw [h,qk]
  unfold uR
  by_cases h4:i∈bC F (flagsOf xs e) 1
  · rw [if_pos h4,if_pos (decide_eq_true h4)]
    cases fW (F.rules.getD i dp) v with
    | none=>simp
    | some u=>simp only [oG]; split <;> rfl
  · rw [if_neg h4,if_neg (by rw [decide_eq_false h4]; exact dA)]; rfl
 rw [h1,h2]
 unfold qT
 split
 · rename_i h3; split at h3
   · cases h3
   · rename_i h4; rw [if_neg h4]; rfl
 · rename_i x h3; split at h3
   · rename_i h4; cases h3; rw [if_pos h4]; rfl
   · cases h3
theorem sJ {F:aB} {xs:List bh} {e:Nat} {f s:Int} (h:∀ p,fz F xs e f s p=none):pX F xs e f s= []:=OT fun p _=>by rw [h p]; rfl
theorem yE (F:aB) (xs:List bh) (e:Nat):kJ F xs e=(lC F.rules.length).flatMap (sK F xs e):=by
 unfold lC
 rw [jg,Iu]
 unfold kJ
 congr 1
 · unfold sK lC
   rw [jg,yW,eM,yM (v:=(xs.getD e ([],[])).1)]
   · intro p; unfold fz; rw [if_neg (fun h=>h.2 rfl),tv,oG,tv,oG]
   · intro s hs
     obtain ⟨j,_,rfl⟩:=gK.1 hs
     exact sJ fun p=>by unfold fz; rw [if_pos ⟨aa,ab⟩]
 · have h3:bC F (flagsOf xs e) 2=(fD F.rules.length).filter fun i=>decide ((F.rules.getD i dp).kind=2∧(F.rules.getD i dp).flag∈flagsOf xs e):=rfl
   conv =>lhs; rw [h3]
   rw [DX]
   refine Eb fun i hi=> ?_
   have hi:i < F.rules.length:=by simpa using hi
   rw [zQ hi]
   have hm:∀ s p,fz F xs e (i:Int) s p=(fq F (bC F (flagsOf xs e) 2) (i:Int) (xs.getD e ([],[])).1).bind fun w=>(fq F (bC F (bY F (i:Int)) 2) s w).bind fun v=>(fq F (bC F (flagsOf xs e) 1) p v).bind fun u=>
    if fi F xs e (i:Int) s p=true then some u else none:=fun s p=>by unfold fz; rw [if_neg (fun h=>by have :=h.1; omega)]
   by_cases h4:i∈bC F (flagsOf xs e) 2
   · rw [if_pos (decide_eq_true h4)]
     unfold sX
     cases h5:fW (F.rules.getD i dp) (xs.getD e ([],[])).1 with
     | none=>
       have :∀ s p,fz F xs e (i:Int) s p=none:=fun s p=>by rw [hm,qk,if_pos h4,h5]; rfl
       exact (yW fun s _=>sJ fun p=>this s p).symm
     | some w=>
       have A:∀ s p,fz F xs e (i:Int) s p=(fq F (bC F (bY F (i:Int)) 2) s w).bind fun v=>(fq F (bC F (flagsOf xs e) 1) p v).bind fun u=>if fi F xs e (i:Int) s p=true then some u else none:=fun s p=>by rw [hm,qk,if_pos h4,h5]; rfl
       simp only
       unfold sK lC
       rw [jg,Iu,yM (v:=w) fun p=>by rw [A,tv]; rfl]
       congr 1
       have E:bC F (bY F (i:Int)) 2=(fD F.rules.length).filter fun z=>decide ((F.rules.getD z dp).kind=2∧(F.rules.getD z dp).flag∈bY F (i:Int)):=rfl
       conv =>lhs; rw [E]
       rw [DX]
       refine Eb fun z C=> ?_
       have C:z < F.rules.length:=by simpa using C
       rw [zQ C]
       by_cases c:z∈bC F (bY F (i:Int)) 2
       · rw [if_pos (decide_eq_true c)]
         unfold wi
         cases h8:fW (F.rules.getD z dp) w with
         | none=>exact (sJ fun p=>by rw [A,qk,if_pos c,h8]; rfl).symm
         | some v=>exact (yM (v:=v) fun p=>by rw [A,qk,if_pos c,h8]; rfl).symm
       · rw [if_neg (by rw [decide_eq_false c]; exact dA)]
         exact (sJ fun p=>by rw [A,qk,if_neg c]; rfl).symm
   · rw [if_neg (by rw [decide_eq_false h4]; exact dA)]
     exact (yW fun s _=>sJ fun p=>by rw [hm,qk,if_neg h4]; rfl).symm
end Go.Hb
section
namespace Go.Hb
section
variable {B B':Nat} {fp fp' fp'':Nat→Prop} {w w' w'':World}
end
section
variable {F fp:Nat→Prop} {W W':World} {B:Nat}
end
section
variable {P:Program} {N:Fm} {ops:Array Oper} {Q:Exit→(Nat→Value)→World→Prop} {rest:List Oper} {σ:Nat→Value} {w:World} {d':Option Nat} {d:Nat} {op:Op} {ty:TypeId} {pos :String} {af:Array Edge} {v:Value}
end
section
variable {P:Program} {n:Nat} {F:List Nat} {σ:Nat→Value} {w:World} {fn:Func} {R:Value→World→Prop}
end
def yS (P:Program) (s f:Nat):Option Nat:=
 match P.underlying s with
 | some (.struct fs)=>match fs[f]? with
   | some fd=>if c4 P fd.type=some none then some fd.offset else none
   | none=>none
 | _=>none
theorem TR {P:Program} {t:Nat} (hu:c4 P t=some none) (w:World):(isAgg t).run P w= .ok false w:=by
 unfold c4 at hu
 cases hd:P.underlying t with
 | none=>rw [hd] at hu; cases hu
 | some d=>
   rw [hd] at hu
   cases d <;> first
    | (simp only [mj] at hu; obtain ⟨_,_,h⟩:=hu; cases h; done)
    | simp [isAgg,cT hd]
theorem DO {P:Program} {N:Fm} {σ:Nat→Value} {w:World} {dst:Option Nat} {ty:TypeId} {pos :String} {af:Array Edge} {g:Option (Nat×Bool)} {x:Operand} {s f n:Nat} {cs:Array Value} {v:Value} (c:yS P s f=some n) (G:ev N σ x= .agg cs) (E:cs[n]? =some v):
 (execOp (ev N σ) ⟨dst,.field s x f,ty,pos,af,g⟩).run P w= .ok (.value v) w:=by
 unfold yS at c
 split at c
 · rename_i fs hu
   split at c
   · rename_i fd C
     split at c
     · rename_i A
       cases c
       simp [execOp,HZ,cT hu,C,G,asAgg,part,TR A,E]
     · cases c
   · cases c
 · cases c
section
variable {P:Program} {ops:Array Oper} {Q:Exit→Act→World→Prop} {S:World→Prop} {md:qw}
def Hr (P:Program) (md:qw) (ops:Array Oper) (Q:Exit→Act→World→Prop) (S:World→Prop):Nat→Array Bool→Act→World→Prop
 | 0,aY,a,w=>jv md ops aY= []∧Q .normal a w
 | fuel+1,aY,a,w=>
   (jv md ops aY= []→Q .normal a w)∧
   ∀ i∈jv md ops aY,wpOpIn ox 0 P ops Q i (fun c w'=>S w'∧Hr P md ops Q S fuel (aY.setIfInBounds i true) c w') a w
end
def V1 (P:Program) (N:Fm) (ops:Array Oper) (Q:Exit→(Nat→Value)→World→Prop) (S:World→Prop) (fuel:Nat) (aY:Array Bool) (σ:Nat→Value) (w:World):Prop :=
 Hr P .any ops (lift N Q) S fuel aY (act N σ) w
section
variable {P:Program} {N:Fm} {ops:Array Oper} {Q:Exit→(Nat→Value)→World→Prop} {σ:Nat→Value} {w:World} {d':Option Nat} {d:Nat} {op:Op} {ty:TypeId} {pos :String} {af:Array Edge} {v:Value}
variable {S:World→Prop} {fuel:Nat} {aY:Array Bool}
end
attribute [irreducible] V1
end Go.Hb
end
namespace Go.Hb
theorem FV {b:UInt8} {m:Int} (h:48≤b.toNat∧b.toNat≤57) (hm:((b.toNat - 48:Nat):Int)≤m):ei [b] m= .ok (b.toNat - 48):=by
 have c:fH [b]=b.toNat - 48:=by simp [fH]
 have A:¬p8 [b]:=by rintro (h | ⟨h,_⟩) <;> simp at h
 have hd:yF [b]:=fun i hi=>by
  have hi:i=0:=by simpa using hi
  subst hi
  exact decide_eq_true h
 unfold ei
 rw [FT A hd (by rw [c]; omega),c]
 rfl
theorem A0:eD 1 [65]=65:=by unfold eD; decide+kernel
theorem VS:iw im [65]= .ok 65:=by
 unfold iw iu im
 simp only
 rw [A0]
 simp [ea,dE]
theorem VT:kq 1 [65]= .ok [65]:=by
 have h1:ee 1 [65]= [[65]]:=by decide+kernel
 have h:eO 1 [65]=([65],0):=by
  unfold eO
  rw [h1,if_neg (by simp),if_neg (by simp [A0]),if_neg (by simp),nM,List.map_nil,A0]
  decide+kernel
 unfold kq
 rw [h]; rfl
end Go.Hb
section
namespace Go.Hb
section
variable {P:Program} {n:Nat} {Fx:List Nat} {σ:Nat→Value} {w:World} {fn:Func} {R:Value→World→Prop} {B:Exit→Act→World→Prop} {N:Fm}
variable {S:List Nat→(Nat→Value)→World→Prop}
end
theorem FE (o:Nat):∀ (r:List Value) (m:Nat) (pre A:List Value),pre.length=o+m→r.length≤A.length→
 (r.zipIdx m).foldl (fun (cs:Array Value) (c,j)=>cs.setIfInBounds (o+j) c) (pre++A).toArray=(pre++r++A.drop r.length).toArray
 | [],m,pre,A,_,_=>by simp
 | c::r,m,pre,A,hp,hl=>by
   cases A with
   | nil=>simp at hl
   | cons z A=>
     rw [xL,r5]
     have h1:(pre++z::A).toArray.setIfInBounds (o+m) c=((pre++ [c])++A).toArray:=by rw [← hp]; simp
     show List.foldl _ ((pre++z::A).toArray.setIfInBounds (o+m) c) _=_
     rw [h1,FE o r (m+1) (pre++ [c]) A (by simp; omega) (by simpa using hl)]
     simp
theorem DW {size:Nat} :∀ (rest:List (List Value)) (m:Nat) (pre A:List Value),pre.length=m*size→A.length=rest.length*size→(∀ r∈rest,r.length=size)→
 lI (fun i=>some (i*size,size)) (pre++A).toArray ((rest.zipIdx m).map fun q=>(q.2,bw q.1.toArray))=some (pre++rest.flatten).toArray
 | [],m,pre,A,_,hz,_=>by
   obtain rfl :A= []:=fR<|by simpa using hz
   rfl
 | r::rest,m,pre,A,hp,hz,hr=>by
   have C:=hr r<|mV ..
   have I:A.length=rest.length*size+size:=by rw [hz,bU,oF]
   rw [xL,nM]
   have E:(bw r.toArray).cells=r.toArray:=by simp [Value.cells]
   simp only [lI,E]
   rw [if_neg (by simp; omega)]
   have h1:=FE (m*size) r 0 pre A ab ab
   have h2:(r.toArray.zipIdx.foldl (fun (cs:Array Value) (c,j)=>cs.setIfInBounds (m*size+j) c) (pre++A).toArray)=(pre++r++A.drop r.length).toArray:=by
    rw [← h1,← HF]; simp
   rw [h2,DW rest (m+1) (pre++r) (A.drop r.length) (by rw [bK,hp,C,oF]) (by rw [gy]; omega) (fun x G=>hr x<|nN _ G)]
   simp
section
variable {P:Program} {N:Fm} {σ:Nat→Value} {w:World} {dst:Option Nat} {ty:TypeId} {pos :String} {af:Array Edge} {g:Option (Nat×Bool)} {K:(Nat→Value)→World→Prop}
theorem Kh {t e size bytes n:Nat} {ps:Array (Nat×Operand)} (rows:List (List Value)) (J:fZ P t e size bytes=true) (hp:ps.toList.map (fun p=>(p.1,ev N σ p.2))=(rows.zipIdx 0).map fun q=>(q.2,bw q.1.toArray))
 (C:rows.all (fun r=>r.length==size)=true) (hn:rows.length=n) (hs:(mh (n*size) 1000 && gh 0 n && mh n 1000)=true)
 (k:∀ b w',b=w.heap.size→Nw w w'→w'.heap[b]? =some (.cells rows.flatten.toArray e (0,0))→K (eW σ dst<|.slice (some ⟨b,0,none⟩) n n) w'):cJ P N ⟨dst,.buildSlice t n ps,ty,pos,af,g⟩ σ w K:=by
 subst hn
 refine l3 (v:=fun b=> .slice (some ⟨b,0,none⟩) rows.length rows.length) (ob:= .cells rows.flatten.toArray e (0,0)) ?_ k
 obtain ⟨hu,i,zv,hi,O,c,h2,h3,h4⟩:=o3 J
 simp only [gd] at hs
 have G:rows.length*size≤1000:=by simpa using hs.1.1
 have Y:rows.length≤1000:=by simpa using hs.2
 have I:0 < rows.length:=by have :=pC hs.1.2; omega
 have A:lI (fun i=>some (i*size,size)) ((ov<|rows.length*size).map (zv.cells[· % zv.cells.size]!)) (ps.toList.map fun p=>(p.1,ev N σ p.2))=some rows.flatten.toArray:=by
  rw [hp]
  have V:((ov<|rows.length*size).map (zv.cells[· % zv.cells.size]!)).toList.length=rows.length*size:=by simp
  have :=DW (size:=size) rows 0 [] ((ov<|rows.length*size).map (zv.cells[· % zv.cells.size]!)).toList (by simp) V fun r E=>by have :=List.all_eq_true.1 C r E; simpa using this
  rw [nO,nO,xf] at this
  exact this
 simp only [execOp,Instr.buildSlice,l8,cT hu,l7,sizeOf,gI hi,oA,c,Sem.run_ite,zeroValue,O,lH,A]
 rw [if_neg (Nat.not_lt.2<|Nat.le_trans G ay),if_neg (Nat.pos_iff_ne_zero.1<|Nat.mul_pos I h4)]
 simp [newRow]
end
section
variable {P:Program} {N:Fm} {σ:Nat→Value} {w:World} {dst:Option Nat} {ty:TypeId} {pos :String} {af:Array Edge} {g:Option (Nat×Bool)} {x y:Operand}
end
end Go.Hb
end
section
namespace Go.Hb
open Go.ChangeMaps
open Classical
structure pH (es:List MapEntry) (c:Nat):Prop where
 lt:∀ e∈es,e.born < c
 nd:(es.map (·.born)).Nodup
structure nX (es:List MapEntry) (isK:Value→Prop) (f:Value→Option Value):Prop where
 ks:∀ e∈es,isK e.key
 nd:(es.map (·.key)).Nodup
 iff :∀ k v,f k=some v↔∃ e∈es,e.key=k∧e.val=v
def jY (h:Array Obj) (b:Nat) (isK:Value→Prop) (f:Value→Option Value):Prop := ∃ es c,h[b]? =some (.map es c)∧pH es.toList c∧nX es.toList isK f
theorem jY.vE {h:Array Obj} {b:Nat} {isK:Value→Prop} {f:Value→Option Value} (hm:jY h b isK f):bQ h b isK f:=by
 obtain ⟨es,c,h1,_,h3⟩:=hm
 refine ⟨_,⟨es,c,h1,aa⟩,fun p hp=> ?_,?_,fun k v=> ?_⟩
 · obtain ⟨e,he,rfl⟩:=gK.1 hp; exact h3.ks e he
 · rw [IB]; exact h3.nd
 · rw [h3.iff,gK]
   exact ⟨fun ⟨e,he,h1,h2⟩=>⟨e,he,by rw [h1,h2]⟩,fun ⟨e,he,h1⟩=>⟨e,he,congrArg fS h1,congrArg kA h1⟩⟩
theorem jY.md {F:Nat→Prop} {w w':World} {b:Nat} {isK:Value→Prop} {f:Value→Option Value} (h:jY w.heap b isK f) (hm:Md F w w') (A:¬F b):jY w'.heap b isK f:=by
 obtain ⟨es,c,h1,h2⟩:=h
 exact ⟨es,c,by rw [hm.gp b (cY.1 h1).1 A]; exact h1,h2⟩
theorem jY.nil {h:Array Obj} {b:Nat} {isK:Value→Prop} {c:Nat} (hm:h[b]? =some (.map #[] c)):jY h b isK fun _=>none:=
 ⟨#[],c,hm,⟨fun _ h=>by simp at h,by simp⟩,fun _ h=>by simp at h,by simp,fun k v=>by simp⟩
def qH (h:Array Obj) (b:Nat) (isK:Value→Prop) (f:Value→Option Value) (kx:Value) (st:Nat):Prop := ∃ es c,h[b]? =some (.map es c)∧pH es.toList c∧nX es.toList isK f∧∃ e∈es.toList,e.key=kx∧e.born=st
theorem qH.RV {h:Array Obj} {b:Nat} {isK:Value→Prop} {f:Value→Option Value} {kx:Value} {st:Nat} (hm:qH h b isK f kx st):jY h b isK f:=let ⟨es,c,h1,h2,h3,_⟩:=hm; ⟨es,c,h1,h2,h3⟩
theorem nX.push {es:List MapEntry} {isK:Value→Prop} {f:Value→Option Value} {kx v:Value} {c:Nat} (h:nX es isK f) (hi:isK kx) (C:∀ e∈es,e.key≠kx):nX (es++ [{key:=kx,val:=v,born:=c}]) isK (bu f kx v) where
 ks e he:=by
  rcases kY.1 he with he | he
  · exact h.ks e he
  · rw [iX.1 he]; exact hi
 nd:=by
  rw [gA,ub]
  refine ⟨h.nd,by simp,fun a E b A G=> ?_⟩
  obtain ⟨e,he,rfl⟩:=gK.1 E
  simp at A
  exact C e he<|by rw [G,A]
 iff k u:=by
  unfold bu
  by_cases hk:k=kx
  · subst hk
    rw [if_pos rfl]
    constructor
    · intro h1; cases h1; exact ⟨_,ua _ (iX.2 rfl),rfl,rfl⟩
    · rintro ⟨e,he,h1,h2⟩
      rcases kY.1 he with he | he
      · exact absurd h1<|C e he
      · rw [iX.1 he] at h2; rw [← h2]
  · rw [if_neg hk,h.iff]
    constructor
    · rintro ⟨e,he,h1⟩; exact ⟨e,xG _ he,h1⟩
    · rintro ⟨e,he,h1,h2⟩
      rcases kY.1 he with he | he
      · exact ⟨e,he,h1,h2⟩
      · rw [iX.1 he] at h1; exact absurd h1.symm hk
theorem pH.push {es:List MapEntry} {kx v:Value} {c:Nat} (h:pH es c):pH (es++ [{key:=kx,val:=v,born:=c}]) (c+1) where
 lt e he:=by
  rcases kY.1 he with he | he
  · have :=h.lt e he; omega
  · rw [iX.1 he]; exact Nat.lt_succ_self _
 nd:=by
  rw [gA,ub]
  refine ⟨h.nd,by simp,fun a A b C E=> ?_⟩
  obtain ⟨e,he,rfl⟩:=gK.1 A
  simp at C
  have :=h.lt e he; omega
theorem vD {α:Type} (l:List α) (g:α→α) (i j:Nat):(l.modify i g)[j]? =if i=j then (l[j]?).map g else l[j]? :=by
 rw [Iy]
 by_cases h:i=j
 · simp [h]
 · simp [h]
theorem rr {α:Type} {l:List α} {g:α→α} {i:Nat} {e:α} (hi:l[i]? =some e) (x:α):x∈l.modify i g↔x=g e∨∃ j,j≠i∧l[j]? =some x:=by
 rw [List.mem_iff_getElem?]
 constructor
 · rintro ⟨j,c⟩
   rw [vD] at c
   by_cases h:i=j
   · subst h; rw [if_pos rfl,hi] at c; exact .inl (xN c).symm
   · rw [if_neg h] at c
     exact .inr ⟨j,fun e=>h e.symm,c⟩
 · rintro (rfl | ⟨j,c,h⟩)
   · exact ⟨i,by rw [vD,if_pos aa,hi]; rfl⟩
   · exact ⟨j,by rw [vD,if_neg (fun e=>c e.symm),h]⟩
theorem FI {α β:Type} {l:List α} (g:α→α) (p:α→β) (hp:∀ x,p (g x)=p x) (i:Nat):(l.modify i g).map p=l.map p:=by
 apply nK
 intro j
 rw [eR,eR,vD]
 cases l[j]? with
 | none=>by_cases h:i=j <;> simp [h]
 | some x=>by_cases h:i=j <;> simp [h,hp]
theorem nX.T3 {es:List MapEntry} {isK:Value→Prop} {f:Value→Option Value} {v:Value} {i:Nat} {e:MapEntry} (h:nX es isK f) (hi:es[i]? =some e):nX (es.modify i fun e=> {e with val:=v}) isK (bu f e.key v) where
 ks x A:=by
  rcases (rr hi x).1 A with rfl | ⟨j,_,c⟩
  · exact h.ks e<|gB hi
  · exact h.ks x<|gB c
 nd:=by rw [FI (fun e:MapEntry=> {e with val:=v}) (·.key) (fun _=>rfl)]; exact h.nd
 iff k u:=by
  have I:∀ {j:Nat} {x:MapEntry},es[j]? =some x→x.key=e.key→j=i:=fun {j x} c hk=>by
   have G:=(eu.1 c).1
   exact (BB (by simpa using G) h.nd).1<|by rw [eR,eR,c,hi,jU,jU,hk]
  unfold bu
  by_cases hk:k=e.key
  · subst hk
    rw [if_pos rfl]
    constructor
    · intro h1; cases h1; exact ⟨_,(rr hi _).2 (.inl rfl),rfl,rfl⟩
    · rintro ⟨x,A,h1,h2⟩
      rcases (rr hi x).1 A with rfl | ⟨j,c,E⟩
      · rw [← h2]
      · exact absurd (I E h1) c
  · rw [if_neg hk,h.iff]
    constructor
    · rintro ⟨x,A,h1,h2⟩
      obtain ⟨j,c⟩:=tW A
      have C:j≠i:=fun C=>by subst C; rw [hi] at c; cases c; exact hk h1.symm
      exact ⟨x,(rr hi x).2 (.inr ⟨j,C,c⟩),h1,h2⟩
    · rintro ⟨x,A,h1,h2⟩
      rcases (rr hi x).1 A with rfl | ⟨j,_,E⟩
      · exact absurd h1.symm hk
      · exact ⟨x,gB E,h1,h2⟩
theorem Tb {f:Value→Option Value} {k v:Value} (h:f k=some v):bu f k v=f:=by
 funext q; unfold bu
 by_cases c:q=k
 · subst c; rw [if_pos rfl,h]
 · rw [if_neg c]
section
variable {P:Program} {N:Fm} {σ:Nat→Value} {w:World} {dst:Option Nat} {ty:TypeId} {pos :String} {af:Array Edge} {g:Option (Nat×Bool)} {x y z:Operand} {K:(Nat→Value)→World→Prop}
variable {t k e:TypeId} {isK:Value→Prop} {b:Nat} {f:Value→Option Value} {kx v zv:Value}
theorem RJ (ae:P.underlying t=some (.map k e)) (aj:zeroV P e=some zv) (I:kE P k isK) (hm:jY w.heap b isK f) (hi:isK kx):
 ∃ st w',(Ba t (.map<|some b) kx).run P w= .ok (.tuple #[(f kx).getD zv,.int .i64 ((st:Nat):Int)]) w'∧Md (fun j=>j=b) w w'∧qH w'.heap b isK (bu f kx<|(f kx).getD zv) kx st:=by
 obtain ⟨es,c,G,O,E⟩:=hm
 have V:=(cY.1 G).1
 rcases I.key.find w kx es.toList hi E.ks with ⟨h1,ad⟩ | ⟨j,C,h1,Z,h5⟩
 · have A:f kx=none:=by
    cases A:f kx with
    | none=>rfl
    | some u=>obtain ⟨ag,ah,h2,_⟩:=(E.iff kx u).1 A; exact absurd h2<|ad ag ah
   refine ⟨c,{w with heap:=w.heap.setIfInBounds b<|.map (es.push {key:=kx,val:=zv,born:=c})<|c+1},?_,⟨aa,aa,by simp,fun i _ J=>by simp only; rw [rT (fun e=>J e.symm)]⟩,es.push {key:=kx,val:=zv,born:=c},c+1,by simp only; rw [rU V],?_,?_,?_⟩
   · rw [A]
     simp [Ba,cT ae,run_getObj_map G,I.key.check _ w kx hi,h1,setObj,qy,G,tB aj,goInt]
   · rw [A7]; exact O.push
   · rw [A7,A]; exact E.push hi ad
   · exact ⟨_,by rw [A7]; exact ua _ (iX.2 aa),aa,aa⟩
 · have ab:es[j]? =some C:=by simpa using Z
   have ac:=gB Z
   have A:f kx=some C.val:=(E.iff kx _).2 ⟨C,ac,h5,rfl⟩
   have ai:(es.modify j fun e=> {e with key:=kx})=es:=by
    apply Array.ext_getElem?
    intro i
    rw [Array.getElem?_modify]
    by_cases Y:j=i
    · subst Y; rw [if_pos rfl,ab,← h5]; rfl
    · rw [if_neg Y]
   refine ⟨C.born,{w with heap:=w.heap.setIfInBounds b<|.map (es.modify j fun e=> {e with key:=kx}) c},?_,⟨aa,aa,by simp,fun i _ J=>by simp only; rw [rT (fun e=>J e.symm)]⟩,es,c,by simp only; rw [rU V,ai],O,?_,C,ac,h5,aa⟩
   · have hs:=I.stays w kx hi
     rw [A]
     simp [Ba,cT ae,run_getObj_map G,I.key.check _ w kx hi,h1,ab,h5,hs,setObj,qy,G,goInt]
   · rw [A]; show nX _ _ (bu f kx C.val); rw [Tb A]; exact E
theorem RI (A:P.underlying t=some (.map k e)) (G:zeroV P e=some zv) (c:kE P k isK) (hm:jY w.heap b isK f) (C:ev N σ x= .map (some b)) (E:ev N σ y=kx) (hi:isK kx)
 (I:∀ (st:Nat) w',Md (fun j=>j=b) w w'→qH w'.heap b isK (bu f kx<|(f kx).getD zv) kx st→K (eW σ dst<|.tuple #[(f kx).getD zv,.int .i64 (st:Nat)]) w'):cJ P N ⟨dst,.mapEntry t x y,ty,pos,af,g⟩ σ w K:=by
 obtain ⟨st,w',h1,h2,h3⟩:=RJ A G c hm hi
 refine kW (v:= .tuple #[(f kx).getD zv,.int .i64 (st:Nat)]) ?_<|I st w' h2 h3
 simp [execOp,C,E,h1]
theorem RL {st:Nat} (hm:qH w.heap b isK f kx st):∃ w',(HY t (.map<|some b) (.int .i64 (st:Nat)) v).run P w= .ok () w'∧Md (fun j=>j=b) w w'∧jY w'.heap b isK (bu f kx v):=by
 obtain ⟨es,c,E,C,Z,G,I,ae,V⟩:=hm
 have ab:=(cY.1 E).1
 obtain ⟨i,hi⟩:=tW I
 have J:es[i]? =some G:=by simpa using hi
 have ad:=(cY.1 J).1
 have ac:es.findIdx? (fun e=>(e.born:Int)==(st:Int))=some i:=by
  rw [Array.findIdx?_eq_some_iff_getElem]
  refine ⟨ad,?_,fun j O=> ?_⟩
  · rw [(cY.1 J).2,V]; simp
  · have A:(es.toList.map (·.born))[j]?≠(es.toList.map (·.born))[i]? :=fun h=>by
     have :=(BB (by simp; omega) C.nd).1 h; omega
    rw [eR,eR,hi,bZ (by simp; omega)] at A
    simp only [jU,Array.getElem_toList] at A
    simp only [beq_iff_eq]
    intro h
    exact A<|congrArg some<|by rw [V]; omega
 refine ⟨{w with heap:=w.heap.setIfInBounds b<|.map (es.modify i fun e=> {e with val:=v}) c},?_,⟨aa,aa,by simp,fun j _ A=>by simp only; rw [rT (fun e=>A e.symm)]⟩,es.modify i fun e=> {e with val:=v},c,by simp only; rw [rU ab],⟨fun x Y=> ?_,?_⟩,?_⟩
 · simp [HY,run_getObj_map E,asInt,asIntOf,ac,setObj,qy,E]
 · rw [xi] at Y
   rcases (rr hi x).1 Y with rfl | ⟨j,_,O⟩
   · exact C.lt G I
   · exact C.lt x<|gB O
 · rw [xi,FI (fun e:MapEntry=> {e with val:=v}) (·.born) (fun _=>rfl)]; exact C.nd
 · rw [xi,← ae]; exact Z.T3 hi
theorem RK {st:Nat} (hm:qH w.heap b isK f kx st) (A:ev N σ x= .map (some b)) (C:ev N σ y= .int .i64 (st:Nat)) (E:ev N σ z=v)
 (G:∀ w',Md (fun j=>j=b) w w'→jY w'.heap b isK (bu f kx v)→K σ w'):cJ P N ⟨none,.entryStore t x y z,ty,pos,af,g⟩ σ w K:=by
 obtain ⟨w',h1,h2,h3⟩:=RL (P:=P) (t:=t) (v:=v) hm
 have c:(execOp (ev N σ) ⟨none,.entryStore t x y z,ty,pos,af,g⟩).run P w= .ok .skip w':=by
  simp [execOp,A,C,E,h1]
 unfold cJ iW
 rw [gN,c]
 exact ⟨σ,aa,G w' h2 h3⟩
end
def nY (h:Array Obj) (r b:Nat) (left :List (Value×Value)):Prop :=
 ∃ (es:Array MapEntry) (c:Nat) (seen:Array Nat) (A:Nat),h[r]? =some (.mapIter (some b) c seen A)∧c≤A∧h[b]? =some (.map es c)∧pH es.toList c∧(leftOf es seen).toList.map (fun e=>(e.key,e.val))=left
def sg (h:Array Obj) (r b:Nat) (left :List (Value×Value)) (A:Value×Value):Prop :=
 ∃ (es:Array MapEntry) (c:Nat) (seen:Array Nat) (e:MapEntry),h[r]? =some (.mapIter (some b) c (seen.push e.born) c)∧h[b]? =some (.map es c)∧pH es.toList c∧(leftOf es<|seen.push e.born).toList.map (fun e=>(e.key,e.val))=left∧e∈es.toList∧(e.key,e.val)=A
theorem sg.RW {h:Array Obj} {r b:Nat} {left :List (Value×Value)} {A:Value×Value} (hm:sg h r b left A):nY h r b left :=let ⟨es,c,seen,e,h1,h2,h3,h4,_⟩:=hm; ⟨es,c,_,c,h1,cw _,h2,h3,h4⟩
theorem nY.md {F:Nat→Prop} {w w':World} {r b:Nat} {left :List (Value×Value)} (h:nY w.heap r b left) (hm:Md F w w') (E:¬F r) (C:¬F b):nY w'.heap r b left :=by
 obtain ⟨es,c,seen,A,h1,h2,h3,h4⟩:=h
 exact ⟨es,c,seen,A,by rw [hm.gp r (cY.1 h1).1 E]; exact h1,h2,by rw [hm.gp b (cY.1 h3).1 C]; exact h3,h4⟩
section
variable {P:Program} {N:Fm} {σ:Nat→Value} {w:World} {dst:Option Nat} {ty:TypeId} {pos :String} {af:Array Edge} {g:Option (Nat×Bool)} {x y z:Operand} {K:(Nat→Value)→World→Prop}
variable {t k e:TypeId} {isK:Value→Prop} {b:Nat} {f:Value→Option Value} {kx v zv:Value}
theorem TD (I:P.underlying t=some (.map k e)) (hm:jY w.heap b isK f) (J:ev N σ x= .map (some b))
 (O:∀ r w' left,r=w.heap.size→Nw w w'→nY w'.heap r b left→(∀ p∈left,isK p.1)→(left.map fS).Nodup→(∀ k v,f k=some v↔(k,v)∈left)→K (eW σ dst<|.pointer<|some ⟨r,0,none⟩) w'):
 cJ P N ⟨dst,.range t x,ty,pos,af,g⟩ σ w K:=by
 obtain ⟨es,c,C,E,A⟩:=hm
 have G:=(cY.1 C).1
 refine l3 (v:=fun r=> .pointer<|some ⟨r,0,none⟩) (ob:= .mapIter (some b) c #[] c) ?_ (fun r w' h1 h2 h3=>O r w' (es.toList.map fun e=>(e.key,e.val)) h1 h2 ⟨es,c,#[],c,h3,cw _,by rw [h2.md.gp b G id]; exact C,E,by unfold leftOf; simp only [xg]; rw [xB.2 (fun x _=>by simp)]⟩ ?_ ?_ ?_)
 · simp [execOp,J,Instr.range,cT I,run_getObj_map C]
 · intro p hp; obtain ⟨e,he,rfl⟩:=gK.1 hp; exact A.ks e he
 · rw [IB]; exact A.nd
 · intro k v
   rw [A.iff,gK]
   exact ⟨fun ⟨e,he,h1,h2⟩=>⟨e,he,by rw [h1,h2]⟩,fun ⟨e,he,h1⟩=>⟨e,he,congrArg fS h1,congrArg kA h1⟩⟩
theorem Ra {es:Array MapEntry} {seen:Array Nat} {e:MapEntry} (hn:(es.toList.map (·.born)).Nodup) (he:e∈(leftOf es seen).toList):(leftOf es seen).toList.Perm (e::(leftOf es<|seen.push e.born).toList):=by
 have h1:(leftOf es<|seen.push e.born).toList=(leftOf es seen).toList.filter fun x=>x.born !=e.born:=by
  unfold leftOf
  simp only [xg,List.filter_filter]
  congr 1
  funext x
  have C:(seen.push e.born).contains x.born=(seen.contains x.born || x.born==e.born):=by
   rw [pc]; simp [Array.mem_push]
  rw [C,Bool.not_or,Bool.and_comm]; rfl
 have c:((leftOf es seen).toList.map (·.born)).Nodup:=by
  unfold leftOf
  rw [xg]
  exact (List.filter_sublist.map _).nodup hn
 rw [h1]
 generalize (leftOf es seen).toList=l at he c
 clear h1
 induction l with
 | nil=>cases he
 | cons a l I=>
   rw [nM,xH] at c
   by_cases A:a=e
   · subst A
     have h2:(a::l).filter (fun x=>x.born !=a.born)=l:=by
      rw [pA,if_neg (by simp)]
      exact xB.2 fun x G=>by
       have :x.born≠a.born:=fun h=>c.1<|h ▸ qB G
       simpa using this
     rw [h2]
   · have EO:e∈l:=by
      rcases dR.1 he with h | h
      · exact absurd h.symm A
      · exact h
     have E:a.born≠e.born:=fun h=>c.1<|h ▸ qB EO
     rw [pA,if_pos (by simpa using E)]
     exact ((I EO c.2).cons a).trans<|List.Perm.swap e a _
theorem Sk {r:Nat} {left :List (Value×Value)} (hm:nY w.heap r b left) (Y:ev N σ x= .pointer (some ⟨r,0,none⟩))
 (ad:left = []→K (eW σ dst<|.tuple #[.bool false]) w)
 (h1:∀ C Z w',left.Perm (C::Z)→Md (fun j=>j=r) w w'→sg w'.heap r b Z C→K (eW σ dst<|.tuple #[.bool true,C.1,C.2]) w'):
 cJ P N ⟨dst,.next x false,ty,pos,af,g⟩ σ w K:=by
 obtain ⟨es,c,seen,ac,G,ae,A,E,rfl⟩:=hm
 rcases run_next_at (P:=P) w ty r b c ac seen es c G A E.lt ae with ⟨h2,J⟩ | ⟨e,he,ab,O,J⟩
 · refine kW (v:= .tuple #[.bool false]) ?_<|ad<|by rw [Array.eq_empty_of_size_eq_zero h2]; rfl
   simp [execOp,Y,J]
 · have I:ab.heap=w.heap:=by rcases O with rfl | rfl <;> rfl
   have V:Md (fun j=>j=r) w (setBlock ab r<|.mapIter (some b) c (seen.push e.born) c):=by
    refine ⟨?_,?_,?_,fun j _ ag=> ?_⟩
    · rcases O with rfl | rfl <;> rfl
    · rcases O with rfl | rfl <;> rfl
    · simp [setBlock,I]
    · simp only [setBlock,I]; rw [rT (fun e=>ag e.symm)]
   have ah:r≠b:=fun h=>by subst h; rw [G] at A; cases A
   refine kW (v:= .tuple #[.bool true,e.key,e.val]) ?_ (h1 (e.key,e.val) _ _ (by have :=(Ra E.nd he).map (fun e=>(e.key,e.val)); exact this) V ⟨es,c,seen,e,?_,?_,E,aa,?_,aa⟩)
   · simp [execOp,Y,J]
   · simp only [setBlock,I]; rw [rU (cY.1 G).1]
   · rw [V.gp b (cY.1 A).1 (fun h=>ah h.symm)]; exact A
   · unfold leftOf at he
     rw [xg] at he
     exact (List.mem_filter.1 he).1
def FX (b:Bool) (c:Value×Value):Value:=match b with | true => .tuple #[.bool true,c.1,c.2] | false => .tuple #[.bool false]
theorem Sj {c:Bool} {C:Value×Value} (A:ev N σ x=FX c C):(execOp (ev N σ) ⟨dst,.extract x 0,ty,pos,af,g⟩).run P w= .ok (.value<|.bool c) w:=by
 cases c
 · exact xt A aa
 · exact xt A aa
theorem Si {r:Nat} {left :List (Value×Value)} (hm:nY w.heap r b left) (G:ev N σ x= .pointer (some ⟨r,0,none⟩))
 (h:∀ C c A w',(C=false→left = []∧w'=w)→(C=true→left.Perm (c::A)∧Md (fun j=>j=r) w w'∧sg w'.heap r b A c)→K (eW σ dst<|FX C c) w'):
 cJ P N ⟨dst,.next x false,ty,pos,af,g⟩ σ w K:=
 Sk hm G (fun E=>h false (.nilFunc,.nilFunc) [] w (fun _=>⟨E,rfl⟩) fun h=>by cases h) (fun c A w' h1 h2 h3=>h true c A w' (fun h=>by cases h) fun _=>⟨h1,h2,h3⟩)
theorem ca {r:Nat} {left :List (Value×Value)} {A:Value×Value} (hm:sg w.heap r b left A) (C:ev N σ x= .pointer (some ⟨r,0,none⟩)):
 (execOp (ev N σ) ⟨dst,.entry x,ty,pos,af,g⟩).run P w= .ok (.value<|.tuple #[A.1,A.2]) w:=by
 obtain ⟨es,c,seen,e,h1,h2,h3,_,h5,rfl⟩:=hm
 have :=run_entry_at (P:=P) w r b c seen es c e h1 h2 h5 h3.nd
 simp [execOp,C,this]
end
end Go.Hb
end
namespace Go.Hb
def rN:Tx:= [83,70,88,32,65,32,89,32,49,10,83,70,88,32,65,32,48,32,115,10]
def wT:Tx:= [50,10,103,97,115,10,103,97,47,65,10]
def fC:aB:=⟨1,[],[],[0,0,0,0,0],3,[],[],[⟨65,2,true,0,1⟩],[⟨2,65,true,[],[115],[46],[],2⟩]⟩
def gS:List bh:= [([103,97,115],[]),([103,97],[65])]
theorem VI:eK rN= [(1,[[83,70,88],[65],[89],[49]]),(2,[[83,70,88],[65],[48],[115]])]:=by decide+kernel
theorem VJ:eK wT= [(1,[[50]]),(2,[[103,97,115]]),(3,[[103,97,47,65]])]:=by decide+kernel
theorem VK {s:Tx} {ln:Nat} (hw:bA s=(s,[],false,0)) (c:s≠[48]) (A:gR s=0):iV 1 [] ⟨65,2,true,0,1⟩ ln [[83,70,88],[65],[48],s]= .ok ⟨2,65,true,[],s,[46],[],ln⟩:=by
 unfold iV
 rw [if_neg (by simp)]
 simp only [ma,Iv]
 rw [show fJ true [48]= .ok [] from if_pos ⟨rfl,rfl⟩,hw]
 simp only
 rw [show kF (s,[],false,0)= .ok s from by unfold kF; rw [if_neg (by simp),if_neg c,if_neg (by simp [A])]]
 rfl
theorem VB:fF rN= .ok fC:=by
 unfold fF
 rw [if_neg ay,VI]
 simp only [bU,gz]
 have C:bX ((da rN).length+1) im [] [(2,[[83,70,88],[65],[48],[115]])] 1 [[83,70,88],[65],[89],[49]]= .ok (fC,[]):=by
  unfold bX
  simp only [ma]
  rw [if_neg ay,if_neg ay,if_neg ay,if_neg ay,if_neg ay,if_neg ay,if_neg ay]
  unfold gP
  simp only [ma,Iv]
  rw [VS]
  simp only
  rw [if_neg (by simp),FV (b:=49) ay ay]
  simp only
  rw [if_neg ay]
  have A:∀ b,b=true→group [[83,70,88],[65]] (iV im.kind im.aliases ⟨65,if ([83,70,88]:Tx)=du then 2 else 1,b,im.rules.length,I3 49 - 48⟩) ((da rN).length+1) (I3 49 - 48) [(2,[[83,70,88],[65],[48],[115]])]= .ok (fC.rules,[]):=by
   intro b c
   subst c
   show group [[83,70,88],[65]] (iV 1 [] ⟨65,2,true,0,1⟩) _ 1 _=_
   rw [group,if_neg ay,VK (by decide+kernel) ay ay]
   rfl
  rw [A _ (by simp)]
  simp only [decide_true]
  rfl
 rw [gH]
 simp only [ma]
 rw [if_neg ay,if_neg ay,if_neg ay,C]
 simp only
 rw [gH]
 rfl
theorem VF:fw fC wT= .ok gS:=by
 have A:fy fC [[103,97,47,65]]= .ok ([103,97],[65]):=by
  have hw:bA [103,97,47,65]=([103,97],[65],true,0):=by decide+kernel
  refine (DG (row:= [[103,97,47,65]]) (set := [65]) aa ?_ ?_ ?_ ?_ ?_ ?_ ?_).trans ?_
  all_goals try simp only [ma,hw]
  · decide
  · decide
  · simp
  · show fM 1 [] [65]=_
    unfold fM; rw [if_pos rfl]; exact VT
  · intro i hi
    have :i=0:=by simpa using hi
    subst this; decide
 have c:fy fC [[103,97,115]]= .ok ([103,97,115],[]):=by
  have hw:bA [103,97,115]=([103,97,115],[],false,0):=by decide+kernel
  unfold fy
  simp only [ma,hw]
  rw [if_neg (by simp),if_neg (by simp),if_neg ay,if_neg ay,if_pos trivial]
 have hn:ei [50] 8192= .ok 2:=FV ay ay
 rw [Dy ay VJ rfl (show ei ([[50]].getD 0 []) 8192= .ok 2 from hn),eC,c]
 simp only
 rw [eC,A]
 simp only
 rw [eC]
 rfl
theorem VC:fW ⟨2,65,true,[],[115],[46],[],2⟩ [103,97]=some [103,97,115]:=by
 have c:dP [46]=([],0):=by unfold dP; rw [if_neg (by simp),if_pos rfl]
 unfold fW gl
 simp only [c]
 rw [if_pos (by simp only [if_true,gz]; rfl)]
 rfl
def wU:List bF:= [⟨[103,97,115],0,-1,-1,-1⟩,⟨[103,97,115],1,0,-1,-1⟩]
theorem VD:kJ fC gS 0= [⟨[103,97,115],0,-1,-1,-1⟩]:=by
 have h1:bC fC (flagsOf gS (0:Nat)) 1= []:=ay
 have h2:bC fC (flagsOf gS (0:Nat)) 2= []:=ay
 unfold kJ nf
 rw [h1,h2]
 simp only [Bz,eM,List.filterMap_nil]
 unfold qT
 rw [if_pos ay]
 rfl
theorem VE:kJ fC gS 1= [⟨[103,97],1,-1,-1,-1⟩,⟨[103,97,115],1,0,-1,-1⟩]:=by
 have h1:bC fC (flagsOf gS (1:Nat)) 1= []:=ay
 have h2:bC fC (flagsOf gS (1:Nat)) 2= [0]:=ay
 have h3:bC fC (bY fC (0:Nat)) 2= []:=ay
 have c:∀ w f s,nf fC gS 1 w f s=qT fC gS 1 w f s:=fun w f s=>by unfold nf; rw [h1]; simp
 unfold kJ
 rw [h2,c]
 simp only [jg,Bz,eM]
 unfold sX
 rw [show fW (fC.rules.getD 0 dp) (gS.getD 1 ([],[])).1=some [103,97,115] from VC]
 simp only [h3,Bz,eM,c]
 unfold qT
 rw [if_pos ay,if_pos ay]
 rfl
end Go.Hb
namespace Go.Hb.dV
def mI (l:List (Tx×Tx)):List Value:=l.flatMap fun p=> [str p.1,str p.2]
def my (c:dI):List Value:= [aT c.flag,.int .i64 (c.kind:Nat),.bool c.fX,.int .i64 (c.first:Nat),.int .i64 (c.count:Nat)]
def lO (l:List dI):List Value:=l.flatMap my
def dG (q:cC×Value):List Value:= [.int .i64 (q.1.kind:Nat),aT q.1.flag,.bool q.1.fX,str q.1.strip,str q.1.add,str q.1.cond,q.2]
def fP (l:List (cC×Value)):List Value:=l.flatMap dG
structure cj where
 rb:Nat
 fb:Nat
 ms:Nat
 mt:Nat
 mc:Nat
 eof:Nat
structure dU where
 v9:Value
 v10:Value
 v11:Value
 v12:Value
 sa:List Value
 rn:List Value
structure fT where
 vr:Value
 vs:List (Nat×Value)
 vn:Value
def nk (F:aB) (V:dU) (mc:Nat):List Value:= [.int .i64 (F.kind:Nat),str F.sA,str F.tr,aT (F.sp.getD 0 0),aT (F.sp.getD 1 0),aT (F.sp.getD 2 0),aT (F.sp.getD 3 0),aT (F.sp.getD 4 0),.int .i64 (F.least:Nat),V.v9,V.v10,V.v11,V.v12,.map (some mc)]
def ti (H:cj) (R:fT) (ln:Nat):List Value:= [.pointer (some ⟨H.fb,0,none⟩),R.vr,.int .i64 (ln:Nat),.int .i64 (H.eof:Nat),.map (some H.ms),.map (some H.mt),R.vn]
structure cV (w:World) (B fb mc:Nat) (F:aB) (V:dU):Prop where
 cells:w.heap[fb]? =some (.cells (nk F V mc).toArray 164 (0,0))
 o9:bm w B 189 2 V.v9 F.dj.length (mI F.dj)
 gG:bm w B 51 1 V.v10 F.aliases.length V.sa
 al:dw w B 95 V.sa F.aliases
 fN:bm w B 192 5 V.v11 F.bz.length (lO F.bz)
 ej:bm w B 134 7 V.v12 F.rules.length (fP<|F.rules.zip V.rn)
 nx:dw w B 95 V.rn (F.rules.map (·.next))
 cm:∃ f,bQ w.heap mc (jn .u16) f∧∀ x:Nat,f (aT x)=(F.bz.findIdx? fun c=>decide (c.flag=x)).map fun i:Nat=>Value.int .i64 i
 lo:B≤fb∧B≤mc
 js:F.sp.length=5
theorem cV.md {G:Nat→Prop} {w w':World} {B fb mc:Nat} {F:aB} {V:dU} (h:cV w B fb mc F V) (hm:Md G w w') {L:List Nat} (c:TF w L G) (A:(L.contains 166 || L.contains 191 || L.contains 53 || L.contains 97 || L.contains 194 || L.contains 136)=false) (O:¬G mc):cV w' B fb mc F V:=by
 simp only [pd] at A
 obtain ⟨⟨⟨⟨⟨h1,h2⟩,h3⟩,h4⟩,h5⟩,h6⟩:=A
 have C:∀ k,G k→∀ cur z,w.heap[k]?≠some (.cells cur 95 z):=fun k hk cur z J=>c.no (dO J) h4 hk
 obtain ⟨f,E,I⟩:=h.cm
 exact ⟨hm.jH c h.cells h1,c5 h.o9 hm c h2,c5 h.gG hm c h3,h.al.md hm C,c5 h.fN hm c h5,c5 h.ej hm c h6,h.nx.md hm C,⟨f,E.md hm O,I⟩,h.lo,h.js⟩
theorem cV.wk {w w':World} {B fb mc:Nat} {F:aB} {V:dU} (h:cV w B fb mc F V) (hm:Wk w w'):cV w' B fb mc F V:=h.md (L:= []) hm (fun _ hk=>hk.elim) rfl id
structure cx (w:World) (B:Nat) (H:cj) (F:aB) (R:fT) (rows:List Rw) (ln:Nat) (seen:List Tx):Prop where
 cells:w.heap[H.rb]? =some (.cells (ti H R ln).toArray 167 (0,0))
 rws:k3 w B 181 rows.length R.vr (lE R.vs)
 rt:gU w B 9 R.vs rows
 sm:∃ f,bQ w.heap H.ms hU f∧∀ s:Tx,(f<|str s).getD (.int .i64 0)= .int .i64 (seen.count s:Nat)
 tm:∃ f,bQ w.heap H.mt (jn .u16) f∧∀ x:Nat,x≠0→(f<|aT x).getD (.int .i64 0)= .int .i64 ((if ea F x=true then 1 else 0:Nat):Nat)
 on :bm w B 3 1 R.vn F.rules.length (F.rules.map fun r=>Value.int .i64 (r.line:Nat))
 lo:B≤H.rb∧B≤H.ms∧B≤H.mt
 ne:H.ms≠H.mt∧H.ms≠H.mc∧H.mt≠H.mc
theorem cx.md {G:Nat→Prop} {w w':World} {B:Nat} {H:cj} {F:aB} {R:fT} {rows:List Rw} {ln:Nat} {seen:List Tx} (h:cx w B H F R rows ln seen) (hm:Md G w w') {L:List Nat} (c:TF w L G) (C:(L.contains 169 || L.contains 183 || L.contains 11 || L.contains 5)=false) (V:¬G H.ms) (Y:¬G H.mt):cx w' B H F R rows ln seen:=by
 simp only [pd] at C
 obtain ⟨⟨⟨h1,h2⟩,h3⟩,h4⟩:=C
 obtain ⟨f,E,I⟩:=h.sm
 obtain ⟨g,J,O⟩:=h.tm
 exact ⟨hm.jH c h.cells h1,h.rws.md hm (fun k hk cur z A=>c.no (dO A) h2 hk),h.rt.md hm (fun k hk cur z A=>c.no (dO A) h3 hk),⟨f,E.md hm V,I⟩,⟨g,J.md hm Y,O⟩,c5 h.on hm c h4,h.lo,h.ne⟩
theorem cx.wk {w w':World} {B:Nat} {H:cj} {F:aB} {R:fT} {rows:List Rw} {ln:Nat} {seen:List Tx} (h:cx w B H F R rows ln seen) (hm:Wk w w'):cx w' B H F R rows ln seen:=h.md (L:= []) hm (fun _ hk=>hk.elim) rfl id id
theorem cx.dX {w:World} {B:Nat} {H:cj} {F:aB} {R:fT} {rows:List Rw} {ln:Nat} {seen:List Tx} (h:cx w B H F R rows ln seen):Hb.aM w.heap H.rb 2=some (.int .i64 (ln:Nat)):=(bj h.cells).trans rfl
structure jz (F:aB) (rows:List Rw) (seen:List Tx):Prop where
 len:F.dj.length+F.aliases.length+F.bz.length+F.rules.length+rows.length≤70000
 sl:seen.length+rows.length≤70000
 row:∀ q∈rows,q.2≠[]∧q.2.length≤70000∧∀ x∈q.2,x.length≤70000
 kd:F.kind=1∨F.kind=2∨F.kind=3
 al:∀ l∈F.aliases,l.length≤64∧l.Pairwise (· < ·)
def St (w:World) (B:Nat) (H:cj) (F:aB) (rows:List Rw) (ln:Nat) (seen:List Tx):Prop := ∃ V R,cV w B H.fb H.mc F V∧cx w B H F R rows ln seen∧jz F rows seen
abbrev ew (B:Nat) (H:cj) (w w':World):Prop :=Mw [169,166,191,53,194,136,5] H.ms H.mt H.mc B w w'
theorem cx.dq {w w':World} {B:Nat} {H:cj} {F:aB} {R R':fT} {rows rows':List Rw} {ln ln':Nat} {seen:List Tx} (h:cx w B H F R rows ln seen) (hm:Md (fun k=>k=H.rb) w w') (G:w'.heap[H.rb]? =some (.cells (ti H R' ln').toArray 167 (0,0))) (Y:R'.vn=R.vn) (O:k3 w B 181 rows'.length R'.vr (lE R'.vs)) (V:gU w B 9 R'.vs rows'):cx w' B H F R' rows' ln' seen:=by
 obtain ⟨f,C,I⟩:=h.sm
 obtain ⟨g,E,J⟩:=h.tm
 have c:TF w [169] (fun k=>k=H.rb):=TF.eq (dO h.cells) ay
 exact ⟨G,O.md hm (fun k hk cur z A=>c.no (dO A) ay hk),V.md hm (fun k hk cur z A=>c.no (dO A) ay hk),⟨f,C.md hm (c.no (dD C) ay),I⟩,⟨g,E.md hm (c.no (dD E) ay),J⟩,Y ▸ c5 h.on hm c ay,h.lo,h.ne⟩
theorem gU.tl {w:World} {B e:Nat} {q:Nat×Value} {r:Rw} {vs:List (Nat×Value)} {rs:List Rw} (h:gU w B e (q::vs) (r::rs)):gU w B e vs rs:=⟨by have :=h.1; simpa using this,fun i c A h1 h2=>h.2 (i+1) c A h1 h2⟩
theorem cV.put {w w':World} {B fb mc:Nat} {F F':aB} {V:dU} (h:cV w B fb mc F V) (hm:Md (fun k=>k=fb) w w') (E:w'.heap[fb]? =some (.cells (nk F' V mc).toArray 164 (0,0))) (h1:F'.dj=F.dj) (h2:F'.aliases=F.aliases) (h3:F'.bz=F.bz) (h4:F'.rules=F.rules) (h5:F'.sp.length=5):cV w' B fb mc F' V:=by
 have c:TF w [166] (fun k=>k=fb):=TF.eq (dO h.cells) ay
 have C:∀ k,k=fb→∀ cur z,w.heap[k]?≠some (.cells cur 95 z):=gW h.cells ay
 obtain ⟨f,A,G⟩:=h.cm
 exact ⟨E,h1 ▸ c5 h.o9 hm c ay,h2 ▸ c5 h.gG hm c ay,h2 ▸ h.al.md hm C,h3 ▸ c5 h.fN hm c ay,h4 ▸ c5 h.ej hm c ay,h4 ▸ h.nx.md hm C,⟨f,A.md hm (c.no (dD A) ay),h3 ▸ G⟩,h.lo,h5⟩
theorem cx.fb {w w':World} {B:Nat} {H:cj} {F A:aB} {V:dU} {R:fT} {rows:List Rw} {ln:Nat} {seen:List Tx} (h:cx w B H F R rows ln seen) (C:cV w B H.fb H.mc A V) (hm:Md (fun k=>k=H.fb) w w'):cx w' B H F R rows ln seen:=by
 have c:TF w [166] (fun k=>k=H.fb):=TF.eq (dO C.cells) ay
 obtain ⟨f,E,I⟩:=h.sm
 obtain ⟨g,G,J⟩:=h.tm
 exact h.md hm c ay (c.no (dD E) ay)<|c.no (dD G) ay
theorem cV.rb {w w':World} {B:Nat} {H:cj} {F c:aB} {V:dU} {R:fT} {rows:List Rw} {ln:Nat} {seen:List Tx} (h:cV w B H.fb H.mc c V) (C:cx w B H F R rows ln seen) (hm:Md (fun k=>k=H.rb) w w'):cV w' B H.fb H.mc c V:=by
 have A:TF w [169] (fun k=>k=H.rb):=TF.eq (dO C.cells) ay
 obtain ⟨f,E,G⟩:=h.cm
 exact h.md hm A ay<|A.no (dD E) ay
theorem cx.congr {w:World} {B:Nat} {H:cj} {F F':aB} {R:fT} {rows:List Rw} {ln:Nat} {seen:List Tx} (h:cx w B H F R rows ln seen) (C:F'.rules=F.rules) (hd:∀ x,ea F' x=ea F x):cx w B H F' R rows ln seen:=by
 obtain ⟨g,c,A⟩:=h.tm
 exact ⟨h.cells,h.rws,h.rt,h.sm,⟨g,c,fun x E=>by rw [hd]; exact A x E⟩,C ▸ h.on,h.lo,h.ne⟩
theorem cx.ta {w w':World} {B:Nat} {H:cj} {F F':aB} {R:fT} {rows:List Rw} {ln:Nat} {seen:List Tx} {f:Value→Option Value} (h:cx w B H F R rows ln seen) (hm:Md (fun k=>k=H.mt) w w') (C:bQ w'.heap H.mt (jn .u16) f) (J:F'.rules=F.rules) (hd:∀ x:Nat,x≠0→(f<|aT x).getD (.int .i64 0)= .int .i64 ((if ea F' x=true then 1 else 0:Nat):Nat)):cx w' B H F' R rows ln seen:=by
 obtain ⟨g,I,_⟩:=h.tm
 obtain ⟨f0,E,G⟩:=h.sm
 have c:TF w [1] (fun k=>k=H.mt):=TF.eq (dD I) ay
 exact ⟨hm.jH c h.cells ay,h.rws.md hm (fun k hk cur z A=>c.no (dO A) ay hk),h.rt.md hm (fun k hk cur z A=>c.no (dO A) ay hk),⟨f0,E.md hm h.ne.1,G⟩,⟨f,C,hd⟩,J ▸ c5 h.on hm c ay,h.lo,h.ne⟩
theorem cV.ta {w w':World} {B:Nat} {H:cj} {F c:aB} {V:dU} {R:fT} {rows:List Rw} {ln:Nat} {seen:List Tx} (h:cV w B H.fb H.mc c V) (A:cx w B H F R rows ln seen) (hm:Md (fun k=>k=H.mt) w w'):cV w' B H.fb H.mc c V:=by
 obtain ⟨g,C,_⟩:=A.tm
 exact h.md (L:= [1]) hm (TF.eq (dD C) ay) ay fun h=>A.ne.2.2 h.symm
theorem ew.fb {w w':World} {B:Nat} {H:cj} {A:aB} {V:dU} (c:cV w B H.fb H.mc A V) (hm:Md (fun k=>k=H.fb) w w'):ew B H w w':=Mw.of hm (TF.eq (dO c.cells) ay) fun k hk=>hk ▸ c.lo.1
theorem ew.rb {w w':World} {B:Nat} {H:cj} {F:aB} {R:fT} {rows:List Rw} {ln:Nat} {seen:List Tx} (c:cx w B H F R rows ln seen) (hm:Md (fun k=>k=H.rb) w w'):ew B H w w':=Mw.of hm (TF.eq (dO c.cells) ay) fun k hk=>hk ▸ c.lo.1
theorem ew.mt {w w':World} {B:Nat} {H:cj} {F:aB} {R:fT} {rows:List Rw} {ln:Nat} {seen:List Tx} (c:cx w B H F R rows ln seen) (hm:Md (fun k=>k=H.mt) w w'):ew B H w w':=hm.mono fun k _ hk=>⟨hk ▸ c.lo.2.2,.inr<|.inl hk⟩
def il (B:Nat) (H:cj) (seen:List Tx) (X:Except (Nat×Nat) (aB×List Rw)) (w:World) (v:Value) (w':World):Prop :=v= .tuple #[]∧∃ F' rows' ln',X= .ok (F',rows')∧St w' B H F' rows' ln' seen∧ew B H w w'
def ik (B:Nat) (H:cj) (X:Except (Nat×Nat) (aB×List Rw)) (w:World) (c:List PanicEntry) (w':World):Prop := ∃ l e,X= .error (l,e)∧c=gZ 45 l (e:Nat)∧ew B H w w'
def jl (F:aB) (seen:List Tx):Prop := ∀ k∈fQ,k∉seen→F.sp.getD (fQ.idxOf k) 0=0
theorem NK {F:aB} {i x:Nat} (hi:i < F.sp.length) (c:F.sp.getD i 0=0) (y:Nat) (E:y≠0):ea {F with sp:=F.sp.set i x} y=(decide (y=x) || ea F y):=by
 unfold ea
 show (decide (y∈F.sp.set i x) || _)=_
 rw [← Bool.or_assoc]
 congr 1
 rw [← Bool.decide_or,decide_eq_decide]
 constructor
 · intro h
   rcases BE h with h | h
   · exact .inr h
   · exact .inl h
 · rintro (h | h)
   · subst h; exact List.mem_set hi _
   · obtain ⟨j,C⟩:=tW h
     by_cases A:i=j
     · subst A
       rw [cM,C] at c
       exact absurd c E
     · exact gB (i:=j)<|by rw [ki,if_neg A]; exact C
theorem Tg.tc {w:World} {B e C n cp b:Nat} {a:Option Addr} {xs:List Value} {cs:Array Value} {z:Nat×Nat} (h:Tg w B e n (.slice a n cp) xs) (O:xs≠[]) (c:w.heap[b]? =some (.cells cs C z)) (I:e≠C):¬(bk a=b):=by
 obtain ⟨V,Y,J,_,G⟩:=h
 cases J
 rcases G with rfl | ⟨A,cur,z2,rfl,_,E,_⟩
 · exact absurd aa O
 · rintro rfl
   rw [show (bk<|some ⟨A,0,none⟩)=A from rfl] at c
   rw [E] at c
   simp only [fE,tK] at c
   exact I c.2.1
theorem O6 {F:aB} {V:dU} {mc i o x:Nat} (h5:F.sp.length=5) (hi:i < 5) (A:o=3 +i):(nk F V mc).set o (aT x)=nk {F with sp:=F.sp.set i x} V mc:=by
 subst A
 obtain ⟨k,cs,tr,sp,le,C,al,cl,ru⟩:=F
 match sp,h5 with
 | [a,b,c,d,e],_=>
   match i,hi with
   | 0,_=>rfl
   | 1,_=>rfl
   | 2,_=>rfl
   | 3,_=>rfl
   | 4,_=>rfl
theorem Dv (b:Bool):decide (((if b=true then 1 else 0:Nat):Int)=0)= !b:=by cases b <;> rfl
theorem G8 {x y:Nat} (h:aT x=aT y):x=y:=by unfold aT at h; injection h with _ h; omega
theorem G0 {F F':aB} {f:Value→Option Value} {x:Nat} (hd:ea F x=false) (C:∀ y:Nat,y≠0→(f<|aT y).getD (.int .i64 0)= .int .i64 ((if ea F y=true then 1 else 0:Nat):Nat)) (A:∀ y,y≠0→ea F' y=(decide (y=x) || ea F y)) (y:Nat) (c:y≠0):(bu f (aT x) (.int .i64 (1:Nat))<|aT y).getD (.int .i64 0)= .int .i64 ((if ea F' y=true then 1 else 0:Nat):Nat):=by
 rw [A y c]
 by_cases h:y=x
 · subst h; rw [lV]; simp
 · rw [ky (fun h2=>h<|G8 h2),C y c]; simp [h]
theorem iN {G:Nat→Prop} {w w':World} (h:Md G w.drew w'):Md G w w':=⟨h.os,h.output,h.size,h.gp⟩
theorem dw.get {w:World} {B e i:Nat} {vs:List Value} {c:List (List Nat)} (h:dw w B e vs c) (hi:i < c.length):∃ v,vs[i]? =some v∧Tg w B e (c.getD i []).length v ((c.getD i []).map aT):=by
 have h1:i < vs.length:=by rw [h.1]; exact hi
 refine ⟨vs[i],bZ h1,h.2 i _ _ (bZ h1) ?_⟩
 rw [cM,bZ hi]; rfl
theorem Tg.ry {w:World} {B e n cp:Nat} {a:Option Addr} {xs:List Value} (h:Tg w B e n (.slice a n cp) xs) (C:xs.length=n) (c:a=none):n=0:=by
 obtain ⟨G,J,E,_,A⟩:=h
 cases E
 rcases A with rfl | ⟨I,cur,z2,h2,_⟩
 · exact C.symm
 · rw [c] at h2; cases h2
theorem Tg.FA {G:Nat→Prop} {w w':World} {B e n:Nat} {v:Value} {xs:List Value} (h:Tg w B e n v xs) (hm:Md G w w') (C:∀ k,G k→k < B):Tg w' B e n v xs:=by
 obtain ⟨a,cp,rfl,c,h | ⟨b,cur,z,rfl,E,A,I⟩⟩:=h
 · exact ⟨a,cp,aa,c,.inl h⟩
 · exact ⟨_,cp,aa,c,.inr ⟨b,cur,z,aa,E,by rw [hm.gp b (cY.1 A).1 (fun hk=>by have :=C b hk; omega)]; exact A,I⟩⟩
end Go.Hb.dV
section
namespace Go.Hb
abbrev aj (n:Nat):Value:= .int .i64 (n:Nat)
abbrev aV (b:Nat):Value:= .pointer<|some ⟨b,0,none⟩
variable {P:Program} {N:Fm} {ops:Array Oper} {Q:Exit→(Nat→Value)→World→Prop} {σ:Nat→Value} {w:World} {S:World→Prop} {r fuel:Nat} {aY:Array Bool} {d:Nat} {op:Op} {ty:TypeId} {pos :String} {af:Array Edge} {v:Value}
theorem aR (i:Nat) (hi:ops[i]? =some ⟨some d,op,ty,pos,af,none⟩) (C:∀ w,S w→(execOp (ev N σ) ⟨some d,op,ty,pos,af,none⟩).run P w= .ok (.value v) w) (c:S w) (k:fu P N ops Q S fuel (aY.setIfInBounds i true) (dq σ d v) w) (A:j7 N.F ops aY i=true :=by kernel_rfl):fu P N ops Q S (fuel+1) aY σ w:=hp i hi A C c k
theorem ed (i:Nat) (hi:ops[i]? =some ⟨some d,op,ty,pos,af,none⟩) (C:∀ w,S w→(execOp (ev N σ) ⟨some d,op,ty,pos,af,none⟩).run P w= .ok (.value v) w) (c:S w) (k:gx P N ops Q S r fuel (aY.setIfInBounds i true) (dq σ d v) w) (A:za N.F ops aY r i=true :=by kernel_rfl):gx P N ops Q S r (fuel+1) aY σ w:=jq i hi A C c k
theorem bB (i:Nat) (hi:ops[i]? =some ⟨some d,op,ty,pos,af,none⟩) (C:∀ w,(execOp (ev N σ) ⟨some d,op,ty,pos,af,none⟩).run P w= .ok (.value v) w) (c:aY.getD r false =false→S w) (k:gx P N ops Q S r fuel (aY.setIfInBounds i true) (dq σ d v) w) (A:vu N.F ops aY r i=true :=by kernel_rfl):gx P N ops Q S r (fuel+1) aY σ w:=cy i hi A C c k
theorem bT {x:Operand} (i:Nat) (hi:ops[i]? =some ⟨some d,.move x,ty,pos,af,none⟩) (v:Value) (c:S w) (k:fu P N ops Q S fuel (aY.setIfInBounds i true) (dq σ d v) w) (C:ev N σ x=v:=by exact aa) (A:j7 N.F ops aY i=true :=by kernel_rfl):fu P N ops Q S (fuel+1) aY σ w:=hp i hi A (fun _ _=>aH v C) c k
theorem bo {x:Operand} (i:Nat) (hi:ops[i]? =some ⟨some d,.move x,ty,pos,af,none⟩) (v:Value) (c:S w) (k:gx P N ops Q S r fuel (aY.setIfInBounds i true) (dq σ d v) w) (C:ev N σ x=v:=by exact aa) (A:vu N.F ops aY r i=true :=by kernel_rfl):gx P N ops Q S r (fuel+1) aY σ w:=cy i hi A (fun _=>aH v C) (fun _=>c) k
theorem bg {P:Program} {f:FuncId} {fn:Func} (A:P.funcs[f]? =some fn) (hn:(fn.name== "runtime.NumGoroutine")=false :=by kernel_rfl) (c:fn.body.isNone=false :=by kernel_rfl):bd P f:=LS A hn c
section
variable {rest:List Oper} {x:Operand} {K:(Nat→Value)→World→Prop} {l:List Oper} {id:Nat} {y z:Code} {j t:Nat} {want b:Bool} {fn:Func} {R:Value→World→Prop}
theorem az (h:∀ {K:(Nat→Value)→World→Prop},(∀ {σ w},di P N y Q σ w→kU K Q .normal σ w)→di P N z (kU K Q) σ w):di P N (.seq z y) Q σ w:=sq fun K c=>h fun hw=>c _ _ hw
theorem ak (h:∀ {K:(Nat→Value)→World→Prop},(∀ {σ w},di P N y Q σ w→kU K Q .normal σ w)→dK P N l.toArray (kU K Q) l σ w) (A:rz N.r l=true :=by exact aa):di P N (.seq (.region id l.toArray false) y) Q σ w:=sq fun K c=>rg A<|h fun hw=>c _ _ hw
theorem aw (h:Q .normal (dq σ d<|ev N σ x) w):dK P N ops Q [⟨some d,.assign x,ty,pos,af,none⟩] σ w:=p aC<|nl h
theorem bc {id:Nat} (h:Q (.exit id) σ w):kU K Q (.exit id) σ w:=h
theorem aJ (h:(j8 ops j,gh t N.n,σ t,b==want)=(some t,true,.bool b,false)) (k:dK P N ops Q rest (dq σ d undef) w):dK P N ops Q (⟨some d,op,ty,pos,af,some (j,want)⟩::rest) σ w:=sk (congrArg fS h) (congrArg (·.2.1) h) (congrArg (·.2.2.1) h) (congrArg (·.2.2.2) h) k
theorem fA (h:(j8 ops j,gh t N.n,σ t)=(some t,true,undef)) (k:dK P N ops Q rest (dq σ d undef) w):dK P N ops Q (⟨some d,op,ty,pos,af,some (j,want)⟩::rest) σ w:=vU (congrArg fS h) (congrArg (·.2.1) h) (congrArg (·.2.2) h) k
theorem aK (h:(j8 ops j,gh t N.n,σ t)=(some t,true,.bool want)) (c:(execOp (ev N σ) ⟨some d,op,ty,pos,af,some (j,want)⟩).run P w= .ok (.value v) w) (k:dK P N ops Q rest (dq σ d v) w):dK P N ops Q (⟨some d,op,ty,pos,af,some (j,want)⟩::rest) σ w:=pg (congrArg fS h) (congrArg (·.2.1) h) (congrArg (·.2.2) h) c k
theorem bl (i:Nat) (h:(ops[i]?,j8 ops j,gh t N.n,σ t,b==want)=(some ⟨some d,op,ty,pos,af,some (j,want)⟩,some t,true,.bool b,false)) (c:S w) (k:fu P N ops Q S fuel (aY.setIfInBounds i true) (dq σ d undef) w) (A:j7 N.F ops aY i=true :=by kernel_rfl):fu P N ops Q S (fuel+1) aY σ w:=nn i (congrArg fS h) A (congrArg (·.2.1) h) (congrArg (·.2.2.1) h) (congrArg (·.2.2.2.1) h) (congrArg (·.2.2.2.2) h) c k
theorem bq (i:Nat) (h:(ops[i]?,j8 ops j,gh t N.n,σ t)=(some ⟨some d,op,ty,pos,af,some (j,want)⟩,some t,true,.bool want)) (C:∀ w,S w→(execOp (ev N σ) ⟨some d,op,ty,pos,af,some (j,want)⟩).run P w= .ok (.value v) w) (c:S w) (k:fu P N ops Q S fuel (aY.setIfInBounds i true) (dq σ d v) w) (A:j7 N.F ops aY i=true :=by kernel_rfl):fu P N ops Q S (fuel+1) aY σ w:=nm i (congrArg fS h) A (congrArg (·.2.1) h) (congrArg (·.2.2.1) h) (congrArg (·.2.2.2) h) C c k
theorem a6 (h:(fn.results,ev N σ (.tmp t))=(#[.tmp t],v)) (c:R v w):fin P fn N R .ret σ w:=f1 (congrArg fS h) (congrArg kA h) c
theorem ao (v:Value) (h:dK P N ops Q rest (dq σ d v) w) (c:ev N σ x=v:=by exact aa):dK P N ops Q (⟨some d,.move x,ty,pos,af,none⟩::rest) σ w:=p (aH v c) h
end
end Go.Hb
end
namespace Go.Hb.dx
theorem k5:c4 au 100=some none:=ag
theorem xT:c4 au 102=some (some 13):=ag
theorem si:c4 au 103=some none:=ag
theorem Jr:c4 au 112=some (some 2):=ag
theorem xU:c4 au 129=some none:=ag
theorem BN:c4 au 130=some none:=ag
theorem j0:c4 au 134=some (some 7):=ag
theorem qJ:c4 au 156=some none:=ag
theorem sj:c4 au 162=some none:=ag
theorem qK:c4 au 165=some none:=ag
theorem BO:c4 au 172=some none:=ag
theorem uv:c4 au 181=some (some 2):=ag
theorem xV:c4 au 182=some none:=ag
theorem sn:c4 au 192=some (some 5):=ag
theorem sr:c4 au 24=some none:=ag
theorem qL:c4 au 242=some none:=ag
theorem xW:c4 au 261=some none:=ag
theorem mm:c4 au 273=some none:=ag
theorem lK:c4 au 275=some (some 1):=ag
theorem pK:c4 au 287=some none:=ag
theorem bR:c4 au 3=some none:=ag
theorem BQ:c4 au 307=some none:=ag
theorem jF:c4 au 321=some (some 4):=ag
theorem pL:c4 au 35=some none:=ag
theorem oJ:c4 au 4=some none:=ag
theorem j4:c4 au 45=some (some 3):=ag
theorem k6:c4 au 49=some (some 5):=ag
theorem xX:c4 au 5=some none:=ag
theorem lL:c4 au 51=some none:=ag
theorem km:c4 au 53=some (some 2):=ag
theorem xY:c4 au 85=some none:=ag
theorem eT:c4 au 88=some none:=ag
theorem cB:c4 au 9=some none:=ag
theorem BR:c4 au 91=some none:=ag
theorem bW:c4 au 95=some none:=ag
theorem BS:c4 au 96=some (some 5):=ag
theorem BT:c4 au 97=some none:=ag
theorem pM:c4 au 98=some none:=ag
theorem uw:c4 au 99=some none:=ag
theorem pN:pO au 321=some (4,1):=ag
theorem B6:pO au 337=some (256,1):=ag
theorem su:pO au 96=some (5,1):=ag
theorem B7:x3 au 321=some ([.int .u64 0,.int .u64 0,.int .u64 0,.int .u64 0]):=ag
theorem x8:uC au 261 5 9=true :=ag
theorem kH:bd au 10:=bg func10
theorem ya:bd au 101:=bg func101
theorem Km:bd au 102:=bg func102
theorem Cf:bd au 103:=bg func103
theorem Cg:bd au 104:=bg func104
theorem Kn:bd au 106:=bg func106
theorem uF:bd au 107:=bg func107
theorem ko:bd au 11:=bg func11
theorem Ch:bd au 113:=bg func113
theorem Ko:bd au 124:=bg func124
theorem Ci:bd au 125:=bg func125
theorem Kp:bd au 126:=bg func126
theorem Kq:bd au 127:=bg func127
theorem Kr:bd au 128:=bg func128
theorem Ks:bd au 129:=bg func129
theorem sy:bd au 130:=bg func130
theorem Kt:bd au 131:=bg func131
theorem Ku:bd au 132:=bg func132
theorem Kv:bd au 133:=bg func133
theorem Cj:bd au 134:=bg func134
theorem nb:bd au 135:=bg func135
theorem yb:bd au 136:=bg func136
theorem uG:bd au 137:=bg func137
theorem yc:bd au 138:=bg func138
theorem Ck:bd au 139:=bg func139
theorem uH:bd au 14:=bg func14
theorem Cl:bd au 140:=bg func140
theorem Kw:bd au 141:=bg func141
theorem Kx:bd au 142:=bg func142
theorem Ky:bd au 143:=bg func143
theorem Kz:bd au 144:=bg func144
theorem Cm:bd au 145:=bg func145
theorem Cn:bd au 146:=bg func146
theorem pS:bd au 15:=bg func15
theorem uI:bd au 16:=bg func16
theorem KA:bd au 161:=bg func161
theorem KB:bd au 162:=bg func162
theorem KC:bd au 163:=bg func163
theorem Co:bd au 164:=bg func164
theorem KD:bd au 165:=bg func165
theorem KE:bd au 166:=bg func166
theorem KF:bd au 167:=bg func167
theorem Cp:bd au 168:=bg func168
theorem Cq:bd au 177:=bg func177
theorem KG:bd au 184:=bg func184
theorem KH:bd au 185:=bg func185
theorem Cr:bd au 189:=bg func189
theorem yd:bd au 19:=bg func19
theorem KI:bd au 190:=bg func190
theorem ye:bd au 191:=bg func191
theorem Cs:bd au 192:=bg func192
theorem yf:bd au 193:=bg func193
theorem KJ:bd au 194:=bg func194
theorem yg:bd au 195:=bg func195
theorem uJ:bd au 196:=bg func196
theorem yh:bd au 197:=bg func197
theorem Ct:bd au 198:=bg func198
theorem Cu:bd au 199:=bg func199
theorem Cv:bd au 200:=bg func200
theorem KK:bd au 201:=bg func201
theorem yi:bd au 202:=bg func202
theorem KL:bd au 203:=bg func203
theorem Cw:bd au 204:=bg func204
theorem Cx:bd au 205:=bg func205
theorem Cy:bd au 206:=bg func206
theorem KM:bd au 207:=bg func207
theorem Cz:bd au 209:=bg func209
theorem KN:bd au 210:=bg func210
theorem KO:bd au 215:=bg func215
theorem uK:bd au 216:=bg func216
theorem yj:bd au 217:=bg func217
theorem KP:bd au 218:=bg func218
theorem yl:bd au 219:=bg func219
theorem qP:bd au 22:=bg func22
theorem CA:bd au 220:=bg func220
theorem KQ:bd au 221:=bg func221
theorem uL:bd au 23:=bg func23
theorem KR:bd au 232:=bg func232
theorem KS:bd au 233:=bg func233
theorem KU:bd au 234:=bg func234
theorem CB:bd au 235:=bg func235
theorem CC:bd au 236:=bg func236
theorem KV:bd au 237:=bg func237
theorem CD:bd au 238:=bg func238
theorem KW:bd au 239:=bg func239
theorem pT:bd au 24:=bg func24
theorem KX:bd au 240:=bg func240
theorem KY:bd au 241:=bg func241
theorem KZ:bd au 242:=bg func242
theorem K0:bd au 25:=bg func25
theorem La:bd au 257:=bg func257
theorem Lb:bd au 258:=bg func258
theorem ym:bd au 259:=bg func259
theorem CE:bd au 263:=bg func263
theorem Lc:bd au 264:=bg func264
theorem yn:bd au 265:=bg func265
theorem Ld:bd au 266:=bg func266
theorem yo:bd au 268:=bg func268
theorem CF:bd au 275:=bg func275
theorem Le:bd au 280:=bg func280
theorem CG:bd au 281:=bg func281
theorem Lf:bd au 282:=bg func282
theorem Lg:bd au 283:=bg func283
theorem Lh:bd au 284:=bg func284
theorem Li:bd au 285:=bg func285
theorem Lj:bd au 286:=bg func286
theorem Lk:bd au 287:=bg func287
theorem Ll:bd au 288:=bg func288
theorem Lm:bd au 289:=bg func289
theorem kI:bd au 290:=bg func290
theorem Ln:bd au 291:=bg func291
theorem Lo:bd au 292:=bg func292
theorem Lp:bd au 298:=bg func298
theorem Lq:bd au 299:=bg func299
theorem qQ:bd au 30:=bg func30
theorem CH:bd au 300:=bg func300
theorem yp:bd au 301:=bg func301
theorem CI:bd au 302:=bg func302
theorem Lr:bd au 303:=bg func303
theorem yq:bd au 308:=bg func308
theorem CJ:bd au 31:=bg func31
theorem uM:bd au 33:=bg func33
theorem CK:bd au 35:=bg func35
theorem CL:bd au 36:=bg func36
theorem Ls:bd au 39:=bg func39
theorem Lt:bd au 40:=bg func40
theorem uN:bd au 41:=bg func41
theorem Lu:bd au 42:=bg func42
theorem CM:bd au 43:=bg func43
theorem qR:bd au 44:=bg func44
theorem Lv:bd au 45:=bg func45
theorem CN:bd au 46:=bg func46
theorem Lw:bd au 47:=bg func47
theorem Lx:bd au 48:=bg func48
theorem Ly:bd au 49:=bg func49
theorem Lz:bd au 51:=bg func51
theorem LA:bd au 57:=bg func57
theorem CO:bd au 58:=bg func58
theorem yr:bd au 59:=bg func59
theorem LB:bd au 60:=bg func60
theorem LC:bd au 61:=bg func61
theorem CP:bd au 63:=bg func63
theorem LD:bd au 64:=bg func64
theorem CQ:bd au 66:=bg func66
theorem CR:bd au 70:=bg func70
theorem CS:bd au 71:=bg func71
theorem LF:bd au 72:=bg func72
theorem LG:bd au 73:=bg func73
theorem CT:bd au 74:=bg func74
theorem gj:bd au 75:=bg func75
theorem LH:bd au 76:=bg func76
theorem qS:bd au 77:=bg func77
theorem LI:bd au 78:=bg func78
theorem LJ:bd au 79:=bg func79
theorem LK:bd au 80:=bg func80
theorem LL:bd au 81:=bg func81
theorem LM:bd au 82:=bg func82
theorem LN:bd au 83:=bg func83
theorem LO:bd au 84:=bg func84
theorem LP:bd au 85:=bg func85
theorem ys:bd au 86:=bg func86
theorem CU:bd au 87:=bg func87
theorem LQ:bd au 88:=bg func88
theorem LR:bd au 89:=bg func89
theorem CV:bd au 90:=bg func90
theorem MR:∀ (l:List UInt8) (c:UInt8) (w:World),(callFunc 307 #[str l,.int .u8 c.toNat]).run au w= .ok (.value<|.int .i64 (l.count c:Nat)) w:=TP func307 ag ag ag ag
theorem No:∀ v w,(callFunc 267 #[v]).run au w= .ok (.value v) w:=fun v w=>ag
theorem Dj:dW au 100=some 1:=ag
theorem yC:dW au 102=some 13:=ag
theorem Dk:dW au 103=some 1:=ag
theorem Np:dW au 112=some 2:=ag
theorem mA:dW au 134=some 7:=ag
theorem Dl:dW au 156=some 1:=ag
theorem Nq:dW au 174=some 2:=ag
theorem Dm:dW au 181=some 2:=ag
theorem pU:dW au 192=some 5:=ag
theorem Nr:dW au 242=some 1:=ag
theorem Ns:dW au 261=some 1:=ag
theorem Dn:dW au 273=some 1:=ag
theorem oO:dW au 275=some 1:=ag
theorem uS:dW au 287=some 1:=ag
theorem j6:dW au 3=some 1:=ag
theorem Nt:dW au 307=some 1:=ag
theorem n5:dW au 321=some 4:=ag
theorem Nu:dW au 35=some 1:=ag
theorem Dp:dW au 4=some 1:=ag
theorem iF:dW au 45=some 3:=ag
theorem uT:dW au 49=some 5:=ag
theorem qW:dW au 51=some 1:=ag
theorem iR:dW au 53=some 2:=ag
theorem Nv:dW au 85=some 1:=ag
theorem yD:dW au 88=some 1:=ag
theorem oP:dW au 9=some 1:=ag
theorem eZ:dW au 95=some 1:=ag
theorem Nz:dW au 96=some 5:=ag
theorem Dq:dW au 97=some 1:=ag
theorem Dr:dW au 98=some 1:=ag
theorem Ds:dW au 99=some 1:=ag
theorem lg:gC au 100=some 7:=ag
theorem yN:gC au 103=some 2:=ag
theorem DJ:gC au 108=some 1:=ag
theorem OJ:gC au 113=some 2:=ag
theorem q5:gC au 156=some 2:=ag
theorem pY:gC au 261=some 1:=ag
theorem DK:gC au 273=some 4:=ag
theorem pZ:gC au 29=some 5:=ag
theorem c8:gC au 35=some 1:=ag
theorem bI:gC au 51=some 1:=ag
theorem q6:gC au 85=some 1:=ag
theorem yO:gC au 98=some 1:=ag
theorem OK:gC au 99=some 5:=ag
theorem DP:yS au 102 8=some 12:=ag
theorem q8:cR au 102 0=some 0:=ag
theorem Po:cR au 102 1=some 1:=ag
theorem Pp:cR au 102 2=some 2:=ag
theorem vj:cR au 102 3=some 3:=ag
theorem y0:cR au 102 4=some 8:=ag
theorem vk:cR au 102 5=some 9:=ag
theorem n9:cR au 102 6=some 10:=ag
theorem q9:cR au 102 7=some 11:=ag
theorem mC:cR au 102 8=some 12:=ag
theorem vl:cR au 105 0=some 0:=ag
theorem Eg:cR au 105 1=some 1:=ag
theorem sN:cR au 105 2=some 2:=ag
theorem y1:cR au 105 3=some 15:=ag
theorem Pq:cR au 112 0=some 0:=ag
theorem Pr:cR au 112 1=some 1:=ag
theorem Eh:cR au 132 0=some 0:=ag
theorem vm:cR au 132 1=some 1:=ag
theorem y4:cR au 132 2=some 2:=ag
theorem Ei:cR au 132 3=some 3:=ag
theorem sO:cR au 134 0=some 0:=ag
theorem sP:cR au 134 2=some 2:=ag
theorem oR:cR au 134 3=some 3:=ag
theorem sQ:cR au 134 4=some 4:=ag
theorem Ej:cR au 134 5=some 5:=ag
theorem oS:cR au 134 6=some 6:=ag
theorem fI:cR au 164 0=some 0:=ag
theorem Ek:cR au 164 1=some 13:=ag
theorem fY:cR au 167 0=some 0:=ag
theorem sR:cR au 167 1=some 1:=ag
theorem sS:cR au 167 2=some 2:=ag
theorem Ps:cR au 167 3=some 3:=ag
theorem ra:cR au 167 4=some 4:=ag
theorem y5:cR au 167 5=some 5:=ag
theorem y6:cR au 167 6=some 6:=ag
theorem El:cR au 174 0=some 0:=ag
theorem Em:cR au 174 1=some 1:=ag
theorem vo:cR au 181 0=some 0:=ag
theorem sT:cR au 181 1=some 1:=ag
theorem vp:cR au 184 0=some 0:=ag
theorem y7:cR au 184 1=some 1:=ag
theorem y8:cR au 192 0=some 0:=ag
theorem sU:cR au 192 1=some 1:=ag
theorem En:cR au 192 2=some 2:=ag
theorem Eo:cR au 192 3=some 3:=ag
theorem vq:cR au 192 4=some 4:=ag
theorem lh:cR au 275 0=some 0:=ag
theorem y9:cR au 309 0=some 0:=ag
theorem vt:cR au 309 1=some 1:=ag
theorem Pt:cR au 49 0=some 0:=ag
theorem lj:cR au 49 1=some 1:=ag
theorem lk:cR au 49 2=some 2:=ag
theorem ll:cR au 49 3=some 3:=ag
theorem oa:cR au 49 4=some 4:=ag
theorem sV:cR au 53 0=some 0:=ag
theorem p6:cR au 53 1=some 1:=ag
theorem Qx:(au.info? 309).isSome=true :=ag
theorem QM:∀ (l:List UInt8) (c:UInt8) (w:World),(callFunc 295 #[str l,.int .u8 c.toNat]).run au w= .ok (.value<|.int .i64<|eb c l) w:=TQ func295 ag ag ag ag
theorem zp:kE au 3 (jn .i64):=E8 (q:= .i64) ag
theorem gE:kE au 9 hU:=QV ag
theorem p9:kE au 95 (jn .u16):=E8 (q:= .u16) ag
theorem zM:qc au 45=true :=ag
theorem S9:ptrTo au 342 5=true :=ag
theorem vV:fZ au 100 134 7 88=true :=ag
theorem vW:fZ au 103 53 2 40=true :=ag
theorem Uf:fZ au 113 112 2 32=true :=ag
theorem GK:fZ au 156 181 2 32=true :=ag
theorem qj:fZ au 261 5 1 1=true :=ag
theorem vX:fZ au 273 321 4 32=true :=ag
theorem vY:fZ au 29 49 5 48=true :=ag
theorem jP:fZ au 35 9 1 16=true :=ag
theorem vZ:fZ au 51 95 1 2=true :=ag
theorem mK:fZ au 85 3 1 8=true :=ag
theorem wa:fZ au 97 189 2 32=true :=ag
theorem wc:fZ au 98 51 1 24=true :=ag
theorem wg:fZ au 99 192 5 40=true :=ag
theorem Ut:jQ au 105=some ([(0,1),(1,1),(2,13),(15,1)],[.pointer none,.pointer none,.int .i64 0,.string ⟨⟨[]⟩⟩,.string ⟨⟨[]⟩⟩,.int .u16 0,.int .u16 0,.int .u16 0,.int .u16 0,.int .u16 0,.int .i64 0,.slice none 0 0,.slice none 0 0,.slice none 0 0,.slice none 0 0,.slice none 0 0]):=ag
theorem AD:jQ au 112=some ([(0,1),(1,1)],[.slice none 0 0,.int .i64 0]):=ag
theorem Uu:jQ au 132=some ([(0,1),(1,1),(2,1),(3,1)],[.pointer none,.slice none 0 0,.map none,.map none]):=ag
theorem AE:jQ au 134=some ([(0,1),(1,1),(2,1),(3,1),(4,1),(5,1),(6,1)],[.int .i64 0,.int .u16 0,.bool false,.string ⟨⟨[]⟩⟩,.string ⟨⟨[]⟩⟩,.string ⟨⟨[]⟩⟩,.slice none 0 0]):=ag
theorem Uv:jQ au 164=some ([(0,13),(13,1)],[.int .i64 0,.string ⟨⟨[]⟩⟩,.string ⟨⟨[]⟩⟩,.int .u16 0,.int .u16 0,.int .u16 0,.int .u16 0,.int .u16 0,.int .i64 0,.slice none 0 0,.slice none 0 0,.slice none 0 0,.slice none 0 0,.map none]):=ag
theorem Uw:jQ au 167=some ([(0,1),(1,1),(2,1),(3,1),(4,1),(5,1),(6,1)],[.pointer none,.slice none 0 0,.int .i64 0,.int .i64 0,.map none,.map none,.slice none 0 0]):=ag
theorem lG:jQ au 174=some ([(0,1),(1,1)],[.int .i64 0,.nilFunc]):=ag
theorem Ux:jQ au 181=some ([(0,1),(1,1)],[.int .i64 0,.slice none 0 0]):=ag
theorem Uy:jQ au 184=some ([(0,1),(1,1)],[.slice none 0 0,.map none]):=ag
theorem Uz:jQ au 189=some ([(0,1),(1,1)],[.string ⟨⟨[]⟩⟩,.string ⟨⟨[]⟩⟩]):=ag
theorem AF:jQ au 192=some ([(0,1),(1,1),(2,1),(3,1),(4,1)],[.int .u16 0,.int .i64 0,.bool false,.int .i64 0,.int .i64 0]):=ag
theorem tu:jQ au 275=some ([(0,1)],[.slice none 0 0]):=ag
theorem rD:jQ au 45=some ([(0,1),(1,1),(2,1)],[.int .i64 0,.int .i64 0,.int .i64 0]):=ag
theorem AG:jQ au 49=some ([(0,1),(1,1),(2,1),(3,1),(4,1)],[.string ⟨⟨[]⟩⟩,.int .i64 0,.int .i64 0,.int .i64 0,.int .i64 0]):=ag
theorem mL:jQ au 53=some ([(0,1),(1,1)],[.string ⟨⟨[]⟩⟩,.slice none 0 0]):=ag
theorem o4:au.underlying 100=some (.slice 134):=ag
theorem wy:au.underlying 103=some (.slice 53):=ag
theorem G6:au.underlying 108=some (.slice 95):=ag
theorem Vm:au.underlying 113=some (.slice 112):=ag
theorem AP:au.underlying 129=some (.map 3 85):=ag
theorem AQ:au.underlying 130=some (.map 49 3):=ag
theorem G7:au.underlying 145=some (.int .u64):=ag
theorem wz:au.underlying 156=some (.slice 181):=ag
theorem ql:au.underlying 162=some (.map 95 3):=ag
theorem o5:au.underlying 165=some (.map 9 3):=ag
theorem kV:au.underlying 169=some (.map 9 174):=ag
theorem AR:au.underlying 182=some (.map 9 85):=ag
theorem wH:au.underlying 24=some (.pointer 105):=ag
theorem o6:au.underlying 261=some (.slice 5):=ag
theorem o7:au.underlying 273=some (.slice 321):=ag
theorem Vn:au.underlying 287=some (.int .u64):=ag
theorem l2:au.underlying 29=some (.slice 49):=ag
theorem u3:au.underlying 3=some (.int .i64):=ag
theorem G9:au.underlying 307=some (.pointer 309):=ag
theorem e8:au.underlying 35=some (.slice 9):=ag
theorem u4:au.underlying 4=some (.bool):=ag
theorem u5:au.underlying 5=some (.int .u8):=ag
theorem nA:au.underlying 51=some (.slice 95):=ag
theorem rK:au.underlying 85=some (.slice 3):=ag
theorem tx:au.underlying 88=some (.pointer 164):=ag
theorem u9:au.underlying 9=some (.string):=ag
theorem AV:au.underlying 91=some (.pointer 184):=ag
theorem wO:au.underlying 95=some (.int .u16):=ag
theorem Vq:au.underlying 97=some (.slice 189):=ag
theorem wP:au.underlying 98=some (.slice 51):=ag
theorem Hd:au.underlying 99=some (.slice 192):=ag
theorem Hf:tz au 307 364 309 2=true :=ag
theorem Vw:(au.underlying 145).isSome=true :=ag
theorem Vx:(au.underlying 242).isSome=true :=ag
theorem rM:(au.underlying 3).isSome=true :=ag
theorem tA:(au.underlying 5).isSome=true :=ag
theorem wide:au.follows .mixedOrders=true :=ag
theorem HB:zeroOf au 102=some (some [.int .i64 0,.string ⟨⟨[]⟩⟩,.string ⟨⟨[]⟩⟩,.int .u16 0,.int .u16 0,.int .u16 0,.int .u16 0,.int .u16 0,.int .i64 0,.slice none 0 0,.slice none 0 0,.slice none 0 0,.slice none 0 0]):=ag
theorem V8:zeroOf au 112=some (some [.slice none 0 0,.int .i64 0]):=ag
theorem ou:zeroOf au 134=some (some [.int .i64 0,.int .u16 0,.bool false,.string ⟨⟨[]⟩⟩,.string ⟨⟨[]⟩⟩,.string ⟨⟨[]⟩⟩,.slice none 0 0]):=ag
theorem V9:zeroOf au 156=some (some [.slice none 0 0]):=ag
theorem Wa:zeroOf au 174=some (some [.int .i64 0,.nilFunc]):=ag
theorem HC:zeroOf au 181=some (some [.int .i64 0,.slice none 0 0]):=ag
theorem rS:zeroOf au 192=some (some [.int .u16 0,.int .i64 0,.bool false,.int .i64 0,.int .i64 0]):=ag
theorem wY:zeroOf au 275=some (some [.slice none 0 0]):=ag
theorem Wb:zeroOf au 287=some (some [.int .u64 0]):=ag
theorem Wc:zeroOf au 3=some (some [.int .i64 0]):=ag
theorem HD:zeroOf au 309=some (some [.pointer none,.slice none 0 0]):=ag
theorem qo:zeroOf au 321=some (some [.int .u64 0,.int .u64 0,.int .u64 0,.int .u64 0]):=ag
theorem Wd:zeroOf au 35=some (some [.slice none 0 0]):=ag
theorem nG:zeroOf au 45=some (some [.int .i64 0,.int .i64 0,.int .i64 0]):=ag
theorem xa:zeroOf au 49=some (some [.string ⟨⟨[]⟩⟩,.int .i64 0,.int .i64 0,.int .i64 0,.int .i64 0]):=ag
theorem nH:zeroOf au 53=some (some [.string ⟨⟨[]⟩⟩,.slice none 0 0]):=ag
theorem We:zeroOf au 88=some (some [.pointer none]):=ag
theorem Wf:zeroOf au 9=some (some [.string ⟨⟨[]⟩⟩]):=ag
theorem Wg:zeroOf au 96=some (some [.int .u16 0,.int .u16 0,.int .u16 0,.int .u16 0,.int .u16 0]):=ag
theorem Wh:zeroOf au 337=some (some<|iY 256<|.bool false):=ag
theorem Wi:zeroV au 174=some (.agg #[.int .i64 0,.nilFunc]):=ag
theorem l5:zeroV au 3=some (.int .i64 0):=ag
theorem Wj:zeroV au 45=some (.agg #[.int .i64 0,.int .i64 0,.int .i64 0]):=ag
theorem Wl:zeroV au 5=some (.int .u8 0):=ag
theorem xc:zeroV au 85=some (.slice none 0 0):=ag
theorem Wm:zeroV au 9=some (.string ⟨⟨[]⟩⟩):=ag
theorem Wn:zeroV au 95=some (.int .u16 0):=ag
end Go.Hb.dx
section
namespace Go.Hb
open Go.Hb.dx
theorem M6 (b:Nat) (A:Option Addr) (E:Value) (w:World) (c:w.heap[b]? =some (.cells [xu A,E].toArray 309 (0,0))) (hp:A=none∨A=some ⟨b,0,none⟩):
 ba au 240 (aX [aV b]) w (fun v w'=>v= .tuple #[]∧w'.heap[b]? =some (.cells [xu (some ⟨b,0,none⟩),E].toArray 309 (0,0))∧Md (fun k=>k=b) w w'):=by
 refine enter func240 aa ntmps240 aa<|ak fun G=>ao (aV b)<|p (nc aa)<|p (fa y9 aa)<|p (ld BQ aa<|(bj c).trans aa)<|p (lf G9 aa aa)<|nl<|G<|cb aa (fun C=> ?_) fun C=> ?_
 obtain rfl :A=none:=by simpa using C
 exact rg aa<|ao (aV b)<|ao (aV b)<|p (Vc Hf aa c aa)<|p (MM No aa)<|p (PC Hf aa c aa)<|p (nc aa)<|p (fa y9 aa)<|e<|dQ Nt aa aa aa c (by simp) fun V O J=>nl<|f0 aa<|⟨aa,J,O⟩
 obtain rfl :A=some ⟨b,0,none⟩:=hp.resolve_left<|by rintro rfl; simp at C
 exact ak fun I=>ao (aV b)<|p (nc aa)<|p (fa y9 aa)<|p (ld BQ aa<|(bj c).trans aa)<|ao (aV b)<|p (RZ G9 Qx aa aa)<|nl<|I<|cf aa<|aQ<|f0 aa<|⟨aa,c,Md.refl _ _⟩
theorem HA (b:Nat) (A:Value) (l:List UInt8) (c:UInt8) (w:World) (an:Bd 309 5 w b A l) (aF:l.length≤70368744177664):
 ba au 204 (aX [aV b,.int .u8 c.toNat]) w (fun v w'=>v= .nilIface∧∃ I,Bd 309 5 w' b I (l++ [c])∧Md (BF b A) w w'∧∀ k,BF b I k→BF b A k∨w.heap.size≤k):=by
 obtain ⟨⟨aA,Y,ay⟩,hown,hnil⟩:=an
 have aH:b < w.heap.size:=(cY.1 Y).1
 have Z:∀ k,A.ownBlock=some k→k≠b∧k < w.heap.size:=fun k hk=>by have :=hown.lt k hk; exact ⟨ab,this.2⟩
 refine enter func204 aa ntmps204 aa<|ak fun ad=>aw<|ad<|ak fun ae=>ao (aV b)<|e<|cl KX (M6 b aA A w Y ay) aa fun v6 aM am=> ?_
 obtain ⟨_,V,E⟩:=am
 have ax:=cz hown E fun k hk=>(Z k hk).1
 have aI:=E.size
 refine nl<|ae<|ak fun ag=>ao (aV b)<|ao (aV b)<|p (nc aa)<|p (fa vt aa)<|p (ld xW aa<|(bj V).trans aa)<|ao (.int .u8 c.toNat)<|e<|kG qj aa aa fun aB aJ aD C aj=>e<|ap qj (a8 ax C.md) aa (by have :=C.size; omega) aa (aG.fO aj) (aa) (aa) ab ab fun ac aK G J az av=> ?_
 have aq:=J.aE (Wk.aE C.md V) fun h=>(Z b h).1 rfl
 refine p (nc aa)<|p (fa vt aa)<|e<|dQ Ns aa aa (by obtain ⟨a,c,h,_⟩:=rA G; exact congrArg et h) aq (by simp) fun aL O al=>nl<|ag<|ak fun ah=>p aC<|nl<|ah<|rt<|a6 aa ?_
 have ai:∀ k,ac.ownBlock=some k→k≠b:=fun k hk=>by have :=G.lt k hk; omega
 refine ⟨aa,ac,⟨⟨_,al,.inr aa⟩,?_,?_⟩,?_,?_⟩
 rw [bK,uo]; exact cz G O fun k hk=>ai k hk
 rw [az]; simp
 refine Md.trans' (Md.trans' (Md.trans' (E.mono fun k _ h=> .inl h) C.md fun _ _ h=>h.elim) J fun k _ h=> .inr h) O fun k _ h=> .inl h
 rintro k (rfl | hk)
 exact .inl<|.inl aa
 by_cases h:A.ownBlock=some k
 exact .inl<|.inr h
 have :=av k hk; have h1:=E.size; have h2:=C.md.size; exact .inr<|by rcases this with h3 | h3; exact absurd h3 h; omega
theorem AK (b:Nat) (G:Value) (l:List UInt8) (w:World) (Y:Bd 309 5 w b G l) (ae:l.length≤70368744177664):
 ba au 202 (aX [aV b]) w (fun v w'=>v=str l∧Md (fun k=>G.ownBlock=some k) w w'):=by
 obtain ⟨⟨aj,I,ah⟩,hown,hnil⟩:=Y
 obtain ⟨a,c,rfl,ac,hle,hk,ad⟩:=rA hown
 refine enter func202 aa ntmps202 aa<|ak fun J=>aw<|J<|az fun O=> ?_
 have A:(fun w'=>Md (fun k=>(bD a l.length c).ownBlock=some k) w w') w.drew:=(Md.refl _ _).drew
 refine cD (fun w'=>Md (fun k=>(bD a l.length c).ownBlock=some k) w w') aa wide A<|bT 0 aa (aV b) A<|aR 1 aa (fun _ _=>nc aa) A<|aR 2 aa (fun _ _=>fa vt aa) A<|aR 3 aa (fun w' C=>ld xW aa<|C.aM ((bj I).trans aa) fun h=>by have :=hown.lt _ h; omega) A<|bT 5 aa (aV b) A<|aR 6 aa (fun _ _=>nc aa) A<|aR 7 aa (fun _ _=>fa vt aa) A<|aR 8 aa (fun w' C=>ld xW aa<|C.aM ((bj I).trans aa) fun h=>by have :=hown.lt _ h; omega) A<|aR 9 aa (fun _ _=>bM o6 aa aa) A ?_
 refine aR 4 aa (fun _ _=>Vy (v:= .nilFunc) aa (by
  by_cases h:l= []
  have :=hnil.2 h; simp only [l9] at this; exact .inl this.1
  right; have :0 < l.length:=List.length_pos_iff.2 h; omega)) A ?_
 refine he 10 aa ag<|Vz S9 aa aa hown aa ab fun Z V ai=> ?_
 have E:(fun w'=>Md (fun k=>(bD a l.length c).ownBlock=some k) w w') Z:=A.trans' V fun _ _ h=>h
 refine ⟨E,?_⟩
 exact aR 11 aa (fun _ _=>aC) E<|hn ag<|O<|rt<|a6 aa<|⟨aa,E⟩
end Go.Hb
end
section
namespace Go.Hb
open Go.Hb.dx
theorem lQ (b:UInt8):p5 b=decide ((b.toNat:Int)=92∨(b.toNat:Int)=47∨(b.toNat:Int)=35):=by
 unfold p5; exact decide_eq_decide.2 ab
theorem D3 (b:UInt8):ir b=decide (32 < (b.toNat:Int)∧(b.toNat:Int)≠127):=by
 unfold ir; exact decide_eq_decide.2 ab
theorem O2 {b:UInt8} (h:¬(32 < (b.toNat:Int)∧(b.toNat:Int)≠127)):ir b=false :=by rw [D3]; exact decide_eq_false h
theorem D4 (b:UInt8) (w:World):
 ba au 205 (aX [.int .u8 b.toNat]) w (fun v w'=>v= .bool (ir b)∧Wk w w'):=by
 refine enter func205 aa ntmps205 aa<|ak fun A=>aw<|A<|ak fun c=>ao (.int .u8 b.toNat)<|p (gt aa aa)<|p mv<|gs (t:=5) aa (fun C=> ?_) fun C=> ?_
 exact aK aa (aH (.int .u8 b.toNat) aa)<|aK aa (gu aa aa)<|p (bN aa)<|aw<|c<|rt<|a6 aa<|⟨by show bO (decide _)=_; rw [D3]; exact bv (by constructor <;> intro h <;> first | exact ⟨ab,h⟩ | exact h.2),Md.refl _ _⟩
 exact aJ aa<|aJ aa<|p (bH aa)<|aw<|c<|rt<|a6 aa<|⟨by show bO false =_; rw [O2 ab],Md.refl _ _⟩
theorem RC (b:UInt8) (w:World):
 ba au 203 (aX [.int .u8 b.toNat]) w (fun v w'=>v= .bool (p5 b)∧Wk w w'):=by
 refine enter func203 aa ntmps203 aa<|ak fun I=>aw<|I<|az fun E=>ak fun J=>ao (.int .u8 b.toNat)<|nl<|J<|aE<|az fun G=>ak fun O=>p (cg aa aa)<|aw<|O<|cd aa (fun c=> ?_) fun c=> ?_
 refine aQ<|G<|cd aa (fun c=> ?_) fun c=> ?_
 refine ak fun C=>aw<|C<|rt<|br<|tr<|a6 aa ?_
 first | exact ⟨by show bO true =_; rw [lQ,decide_eq_true ab],Md.refl _ _⟩ | exact ⟨by show bO false =_; rw [lQ,decide_eq_false ab],Md.refl _ _⟩
 refine aQ<|bn<|E<|ak fun C=>aw<|C<|rt<|a6 aa ?_
 first | exact ⟨by show bO true =_; rw [lQ,decide_eq_true ab],Md.refl _ _⟩ | exact ⟨by show bO false =_; rw [lQ,decide_eq_false ab],Md.refl _ _⟩
 refine ak fun C=>p (cg aa aa)<|aw<|C<|cd aa (fun c=> ?_) fun c=> ?_
 refine aQ<|G<|cd aa (fun c=> ?_) fun c=> ?_
 refine ak fun A=>aw<|A<|rt<|br<|tr<|a6 aa ?_
 first | exact ⟨by show bO true =_; rw [lQ,decide_eq_true ab],Md.refl _ _⟩ | exact ⟨by show bO false =_; rw [lQ,decide_eq_false ab],Md.refl _ _⟩
 refine aQ<|bn<|E<|ak fun A=>aw<|A<|rt<|a6 aa ?_
 first | exact ⟨by show bO true =_; rw [lQ,decide_eq_true ab],Md.refl _ _⟩ | exact ⟨by show bO false =_; rw [lQ,decide_eq_false ab],Md.refl _ _⟩
 refine rg aa<|p (cg aa aa)<|aw<|G<|cd aa (fun c=> ?_) fun c=> ?_
 refine ak fun A=>aw<|A<|rt<|br<|tr<|a6 aa ?_
 first | exact ⟨by show bO true =_; rw [lQ,decide_eq_true ab],Md.refl _ _⟩ | exact ⟨by show bO false =_; rw [lQ,decide_eq_false ab],Md.refl _ _⟩
 refine aQ<|bn<|E<|ak fun A=>aw<|A<|rt<|a6 aa ?_
 first | exact ⟨by show bO true =_; rw [lQ,decide_eq_true ab],Md.refl _ _⟩ | exact ⟨by show bO false =_; rw [lQ,decide_eq_false ab],Md.refl _ _⟩
theorem Hn (s:List UInt8) (w:World) (hs:s.length≤1048576):
 ba au 139 (aX [str s]) w (fun v w'=>v= .bool (oq s)∧Wk w w'):=by
 refine enter func139 aa ntmps139 aa<|ak fun ae=>aw<|ae<|az fun ai=>ak fun O=>ao (str s)<|p (iS aa aa)<|p mv<|gs (t:=6) aa (fun I=> ?_) fun I=> ?_
 exact aJ aa<|aJ aa<|aJ aa<|p (bN aa)<|nl<|O<|ct aa<|az fun c=>rg aa<|aw<|c<|rt<|tr<|a6 aa<|⟨by show bO false =_; unfold oq; rw [decide_eq_false (by rw [I]; simp)],Md.refl _ _⟩
 refine aK aa (aH (str s) aa)<|aK aa (dv u9 aa aa)<|aK aa (gt aa aa)<|p (bH aa)<|nl<|O<|cd aa (fun aq=> ?_) fun aq=> ?_
 exact ak fun c=>aw<|c<|rt<|tr<|a6 aa<|⟨by show bO false =_; unfold oq; rw [decide_eq_false ab],Md.refl _ _⟩
 refine aQ<|ai<|az fun c=>ak fun aj=>ao (str s)<|p (dv u9 aa aa)<|p mv<|nl<|aj<|aE<|lp (fun V A ac=> ∃ (i:Nat),(i≤s.length∧1≤s.length∧s.length≤64)∧(∀ j,j < i→ir (s.getD j 0)=true)∧(Wk w ac)∧(A 0=str s)∧(A 12= .int .i64 s.length)∧(A 13= .int .i64 i)∧(s.length - i=V)) _ ⟨0,(⟨ab,by rcases IW s.length with h | h <;> first | exact absurd (List.length_eq_zero_iff.1 h) I | exact h,ab⟩),(fun j Z=>by omega),(Md.refl _ _),aa,aa,aa,aa⟩ ?_
 rintro V A ac ⟨i,hi,hp,E,ax,ay,aA,rfl⟩
 refine fx 0 ax<|fx 12 ay<|fx 13 aA<|ak fun al=>p (lt aa aa)<|nl<|al<|az fun am=>cd aa (fun av=> ?_) fun av=> ?_
 refine aQ<|am<|az fun C=>aE<|ak fun an=>ao (.int .i64 i)<|p (bV (.int .i64 i) aa)<|nl<|an<|ak fun ag=>ao (str s)<|ao (.int .i64 i)<|p (jL u9 aa aa ab)<|e<|cl Cx (D4 (s.getD i 0) _) aa fun aB aD ap=> ?_
 obtain ⟨rfl,Y⟩:=ap
 refine p (no aa)<|nl<|ag<|cb aa (fun G=> ?_) fun G=> ?_
 have J:ir (s.getD i 0)=false :=by simpa using G
 exact ak fun ah=>aw<|ah<|rt<|br<|tr<|tr<|br<|tr<|a6 aa<|⟨by show bO false =_; unfold oq; rw [uD (i:=i) ab J,decide_eq_false (by simp)],Md.trans E Y⟩
 have J:ir (s.getD i 0)=true :=by simpa using G
 exact aQ<|bn<|C<|rg aa<|p (ad aa aa<|cH ab)<|p mv<|nl<|tn<|⟨_,ab,i+1,ab,(fun j Z=>by rcases ig j i with h | h <;> first | exact hp j h | (rw [show j=i by omega]; exact J)),(Md.trans E Y),aa,aa,aa,aa⟩
 exact ext<|bc<|bc<|be<|c<|ak fun C=>p aC<|nl<|C<|rt<|a6 aa<|⟨by show bO true =_; unfold oq; rw [uE (fun j Z=>hp j ab),decide_eq_true ⟨hi.2.1,hi.2.2,aa⟩],E⟩
theorem A2 (s:List UInt8) (w:World) (hs:s.length≤1048576):
 ba au 138 (aX [str s]) w (fun v w'=>v=Td (bA s)∧Wk w w'):=by
 refine enter func138 aa ntmps138 aa<|ak fun av=>p aC<|p aC<|p aC<|aw<|av<|ak fun aF=>e<|iq HD fun c bv bl aZ aP=>nl<|aF<|az fun aG=>ak fun aI=>aw<|aI<|aE<|lp (fun ap O J=> ∃ (i:Nat) (acc:List UInt8) (A:Value),(i≤s.length∧acc.length≤i)∧(Bd 309 5 J c A acc)∧(Wk w J)∧(iO acc (s.drop i)=bA s)∧(O 0=str s)∧(O 6=aV c)∧(O 7= .int .i64 i)∧(s.length - i=ap)) _ ⟨0,[],.slice none 0 0,(by simp),(Bd.new aP),aZ.md,aa,aa,aa,aa,aa⟩ ?_
 rintro ap O J ⟨i,acc,A,hi,C,E,hd,bb,bd,bg,rfl⟩
 refine fx 0 bb<|fx 6 bd<|fx 7 bg<|az fun aL=>ak fun aM=>ao (.int .i64 i)<|ao (str s)<|p (dv u9 aa aa)<|p (lt aa aa)<|nl<|aM<|cd aa (fun a5=> ?_) fun a5=> ?_
 refine aQ<|aL<|az fun ac=>aE<|ak fun aN=>ao (str s)<|ao (.int .i64 i)<|p (jL u9 aa aa ab)<|nl<|aN<|aE ?_
 refine eV (fun V al=> ∃ (k:Nat),(k < s.length∧i≤k∧k≤i+1)∧(Bd 309 5 al c A acc)∧(Wk w al)∧(iO (acc++ [s.getD k 0]) (s.drop<|k+1)=bA s)∧(V 0=str s)∧(V 6=aV c)∧(V 7= .int .i64 k)) ?_ ?_
 refine aE<|az fun ae=>aE<|az fun ax=>aE<|az fun aA=>az fun aB=>az fun aD=>rg aa<|p (cg aa aa)<|aw<|aD<|cd aa (fun a6=> ?_) fun a6=> ?_
 have a4:(s.getD i 0).toNat=47:=ab
 refine ext<|bc<|bc<|be<|ax<|az fun am=>az fun Y=> ?_
 have G:(fun w'=>True) J.drew:=trivial
 refine cD (fun w'=>True) aa wide G<|bT 1 aa (str s) G<|bT 2 aa (.int .i64 i) G<|aR 3 aa (fun _ _=>bG ((i+1:Nat):Int) aa aa<|bf ab ab) G<|aR 4 aa (fun _ _=>oo u9 aa aa ab) G<|he 0 aa ag<|cl yi (AK c A acc _ (C.md (Md.refl (fun _=>False) _).drew fun _ _ h=>h) ab) aa fun v21 bk a0=> ?_
 obtain ⟨rfl,aU⟩:=a0
 have I:(fun w'=>True) bk:=trivial
 refine ⟨I,?_⟩
 refine aR 5 aa (fun _ _=>aC) I<|aR 6 aa (fun _ _=>aC) I<|aR 7 aa (fun _ _=>aC) I<|aR 8 aa (fun _ _=>aC) I<|hn ag<|Y<|rt<|tr<|br<|tr<|br<|tr<|br<|br<|tr<|tr<|br<|tr<|f4 aa aa aa aa aa ?_
 skip
 exact ⟨by rw [← hd,drop_cons 0 (by omega :i < s.length),Hz a4]; rfl,C.AI E (Md.trans (Md.refl _ _).drew aU) ab⟩
 refine aQ<|aB<|ak fun am=>p (cg aa aa)<|aw<|am<|cd aa (fun a7=> ?_) fun a7=> ?_
 have ai:(s.getD i 0).toNat=92:=ab
 refine ext<|bc<|na ay<|bc<|be<|ae<|ak fun Y=>ao (.int .i64 i)<|p (bG ((i+1:Nat):Int) aa aa<|bf ab ab)<|aw<|Y<|ak fun an=>p mv<|ao (str s)<|p (dv u9 aa aa)<|p (cg aa aa)<|p mv<|gs (t:=32) aa (fun a9=> ?_) fun a9=> ?_
 refine aJ aa<|aJ aa<|aJ aa<|aJ aa<|aJ aa<|p (bN aa)<|nl<|an<|ct aa<|ak fun Z=>p aC<|p aC<|p aC<|p aC<|nl<|Z<|rt<|br<|tr<|br<|br<|tr<|tr ?_
 exact br<|tr<|f4 aa aa aa aa aa<|⟨by rw [← hd,drop_cons 0 (by omega :i < s.length),kX ab,Hw ai]; rfl,E⟩
 refine aK aa (aH (str s) aa)<|aK aa mv<|aK aa (jL u9 aa aa ab)<|eg aa aa aa<|cl KL (RC (s.getD (i+1) 0) _) aa fun bo bs a1=> ?_
 obtain ⟨rfl,ah⟩:=a1
 refine aK aa (no aa)<|p (bH aa)<|nl<|an<|cb aa (fun aj=> ?_) fun aj=> ?_
 exact ak fun Z=>p aC<|p aC<|p aC<|aw<|Z<|rt<|br<|tr<|br<|br<|tr<|tr<|br<|tr<|f4 aa aa aa aa aa<|⟨by rw [← hd,drop_cons 0 (by omega :i < s.length),drop_cons 0 (by omega :i+1 < s.length),Hx ai (by simpa using aj)]; rfl,Md.trans E ah⟩
 exact aQ<|bn<|tn<|⟨i+1,ab,(C.md ah fun _ _ h=>h),(Md.trans E ah),(by rw [← hd,drop_cons 0 (by omega :i < s.length),drop_cons 0 (by omega :i+1 < s.length),Hv ai (by simpa using aj)]),aa,aa,aa⟩
 exact aQ<|aA<|ext<|na ay<|bc<|na ay<|bc<|be<|tn<|⟨i,ab,C,E,(by rw [← hd,drop_cons 0 (by omega :i < s.length),Hy ab ab]),aa,aa,aa⟩
 rintro V al ⟨k,hk,aq,aT,a8,bh,bi,bj⟩
 refine fx 0 bh<|fx 6 bi<|fx 7 bj<|ak fun ae=>ao (str s)<|ao (.int .i64 k)<|p (jL u9 aa aa ab)<|e<|cl Cw (HA c A (acc) (s.getD k 0) _ aq ab) aa fun bp bt a2=> ?_
 obtain ⟨rfl,aO,aS,aW,bm⟩:=a2
 exact nl<|ae<|ext<|be<|bn<|ac<|rg aa<|ao (.int .i64 k)<|p (ad aa aa<|cH ab)<|p aC<|nl<|tn<|⟨_,ab,k+1,acc++ [s.getD k 0],aO,(by rw [bK,ic]; omega),aS,(aq.step aT aW ab),a8,aa,aa,aa,aa⟩
 refine ext<|bc<|bc<|be<|aG<|ak fun ac=>e<|cl yi (AK c A acc _ C ab) aa fun bq bu a3=> ?_
 obtain ⟨rfl,aY⟩:=a3
 exact p aC<|p aC<|p aC<|aw<|ac<|rt<|f4 aa aa aa aa aa<|⟨by rw [← hd,kX ab,A1]; rfl,C.AI E aY ab⟩
theorem Rf (s:List UInt8) (w:World) (hs:s.length≤1048576):
 ba au 194 (aX [str s]) w (fun v w'=>v= .tuple #[str (letE s).1,.int .i64 (letE s).2]∧Wk w w'):=by
 refine enter func194 aa ntmps194 aa<|ak fun aG=>p aC<|aw<|aG<|ak fun aL=>e<|al Wh fun ac bh bj J ax=> ?_
 have aW:bE bh.heap ac (marksOf []):=by rw [RE]; exact ax
 refine nl<|aL<|az fun aM=>ak fun aN=>ao (str s)<|p (iS aa aa)<|nl<|aN<|cd aa (fun ap=> ?_) fun ap=> ?_
 exact ak fun Z=>p aC<|aw<|Z<|rt<|tr<|f2 aa aa aa<|⟨by show jw #[str [],.int .i64 21]=_; unfold letE; rw [if_pos (.inl ap)]; rfl,J.md⟩
 refine aQ<|aM<|ak fun Z=>e<|iq HD fun I bu bl aF aY=>nl<|Z<|az fun aO=>ak fun aP=>ao (str s)<|p (dv u9 aa aa)<|p mv<|nl<|aP<|aE ?_
 have bk:=ax.lt
 refine lp (fun av c V=> ∃ (i:Nat) (A:Value),(i≤s.length)∧(∀ j,j < i→ir (s.getD j 0)=true)∧(bE V.heap ac<|marksOf<|lets<|s.take i)∧(Bd 309 5 V I A<|lets<|s.take i)∧(Wk w V)∧(c 0=str s)∧(c 4=aV ac)∧(c 5=aV I)∧(c 10= .int .i64 s.length)∧(c 11= .int .i64 i)∧(s.length - i=av)) _ ⟨0,.slice none 0 0,ab,(fun j aq=>by omega),(aF.md.B aW),(Bd.new aY),(Md.trans J.md aF.md),aa,aa,aa,aa,aa,aa⟩ ?_
 rintro av c V ⟨i,A,hi,hp,aD,ag,aj,a8,bd,bf,a9,bb,rfl⟩
 refine fx 0 a8<|fx 4 bd<|fx 5 bf<|fx 10 a9<|fx 11 bb ?_
 have a7:=Fk<|s.take i
 rw [dB] at a7
 have bm:=aD.lt
 refine ak fun aR=>p (lt aa aa)<|nl<|aR<|az fun aS=>cd aa (fun a6=> ?_) fun a6=> ?_
 refine aQ<|aS<|az fun G=>aE<|ak fun aH=>ao (.int .i64 i)<|p (bV (.int .i64 i) aa)<|nl<|aH<|az fun aI=>ak fun aJ=>ao (str s)<|ao (.int .i64 i)<|p (jL u9 aa aa ab)<|e<|cl Cx (D4 (s.getD i 0) _) aa fun v17 bg a3=> ?_
 obtain ⟨rfl,C⟩:=a3
 refine p (no aa)<|nl<|aJ<|cb aa (fun am=> ?_) fun am=> ?_
 have O:ir (s.getD i 0)=false :=by simpa using am
 exact ak fun Y=>p aC<|aw<|Y<|rt<|tr<|br<|tr<|tr<|br<|tr<|f2 aa aa aa<|⟨by show jw #[str [],.int .i64 21]=_; unfold letE; rw [if_pos (.inr<|uD ab O)]; rfl,Md.trans aj C⟩
 have O:ir (s.getD i 0)=true :=by simpa using am
 have ay:Wk w bg:=Md.trans aj C
 have ae:=C.B aD
 have ai:=ag.md C fun _ _ h=>h
 have bp:=C.size
 refine aQ<|aI<|ak fun Y=>ao (str s)<|ao (.int .i64 i)<|p (jL u9 aa aa ab)<|p (lu B6 aa aa<|by have :=ji (s.getD i 0); omega)<|p (ld oJ aa<|RG ae _)<|p (no aa)<|nl<|Y<|cb aa (fun an=> ?_) fun an=> ?_
 have E:¬s.getD i 0∈lets (s.take i):=of_decide_eq_false<|by simpa using an
 refine ak fun aK=>ao (str s)<|ao (.int .i64 i)<|p (jL u9 aa aa ab)<|p (lu B6 aa aa<|by have :=ji (s.getD i 0); omega)<|e<|st Dp aa aa (aa) (ae) (by rw [Fy]; have :=ji (s.getD i 0); omega) fun bi aA aU=> ?_
 have a2:=RH aU
 have a0:Wk w bi:=Md.trans' ay aA fun k hk h=>by omega
 have ah:=ai.md aA fun k hk h=>by have :=ai.gZ hk; omega
 refine nl<|aK<|rg aa<|ao (str s)<|ao (.int .i64 i)<|p (jL u9 aa aa ab)<|e<|cl Cw (HA I A (lets<|s.take i) (s.getD i 0) _ ah ab) aa fun v32 bs a4=> ?_
 obtain ⟨rfl,aT,aZ,aB,bo⟩:=a4
 exact nl<|bn<|G<|rg aa<|p (ad aa aa<|cH ab)<|p mv<|nl<|tn<|⟨_,ab,i+1,aT,ab,(fun j aq=>by rcases ig j i with h | h <;> first | exact hp j h | (rw [show j=i by omega]; exact O)),(by rw [vz ab,if_neg E]; exact aB.B a2 fun h=>by have :=ah.gZ h; omega),(by rw [vz ab,if_neg E]; exact aZ),(ah.step a0 aB<|by have :=J.md.size; omega),aa,aa,aa,aa,aa,aa⟩
 have E:s.getD i 0∈lets (s.take i):=by simpa using an
 exact aQ<|bn<|G<|rg aa<|p (ad aa aa<|cH ab)<|p mv<|nl<|tn<|⟨_,ab,i+1,A,ab,(fun j aq=>by rcases ig j i with h | h <;> first | exact hp j h | (rw [show j=i by omega]; exact O)),(by rw [vz ab,if_pos E]; exact ae),(by rw [vz ab,if_pos E]; exact ai),ay,aa,aa,aa,aa,aa,aa⟩
 refine ext<|bc<|bc<|be<|aO<|ak fun G=>e<|cl yi (AK I A (lets<|s.take i) _ ag<|by have :=Fk (s.take i); rw [dB] at this; omega) aa fun bq bt a5=> ?_
 obtain ⟨rfl,a1⟩:=a5
 exact p aC<|aw<|G<|rt<|f2 aa aa aa<|⟨by show jw #[str (lets<|s.take i),.int .i64 0]=_; unfold letE; rw [if_neg (by rw [uE (fun j aq=>hp j ab)]; exact fun h=>h.elim ap dA),show s.take i=s from eN ab]; rfl,ag.AI aj a1<|by have :=J.md.size; omega⟩
end Go.Hb
end
