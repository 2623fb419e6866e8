/-
  Walks and plain laws that the law rests on, laid together. No conditions but those that each theorem names.
-/
import Derived.Test.YtchkamdekbbgeaaGreatDoorMnAnalyseCounts1
set_option linter.unusedVariables false
set_option maxRecDepth 20000
set_option maxHeartbeats 1000000
open Array renaming foldl_toList→BZ,getElem?_eq_some_iff→bT,getElem?_setIfInBounds_ne→sJ,getElem?_setIfInBounds_self_of_lt→sK,length_toList→uM,range→ph,replicate→sL,toArray_toList→xT,toList_filter→xU,toList_inj→xV,toList_map→lJ,toList_modify→xW,toList_push→B5,toList_zip→IQ
open Bool renaming and_eq_true→gp,eq_iff_iff→p8,noConfusion→c7,or_eq_false_iff→pk
open Except.ok renaming injEq→qT
open Go.Act renaming put_comm→qU
open Go.Calls renaming mono→j7
open Go.CallsD renaming mono→IZ
open Go.CallsIn renaming mono→B8
open Go.Code renaming wp_mono→I0
open Go.Deferred renaming ofValue→pn
open Go.Extern.BytealgCount renaming count→Xz
open Go.Extern.BytealgIndexByte renaming indexByte→XA
open Go.Extern renaming find→I5,findNext→I6
open Go.Fence renaming wide→ij
open Go.FrameMode renaming noConfusion→B9
open Go.Instr renaming beginRound→I8,checkKey→nC,entryStore→I9,field→Ja,fill→l9,findKey→qW,findNow→qX,keyThatStays→Cb,mapEntry→Cc,mapUpdate→Cd,sameBits→Jd,sameNow→Ce,sliceAt→qY,sliceBounds→ox,sureAddr→p9,typeAssert→Je
open Go.Lib renaming indexByte→Jf,run_clear_slice→Jg
open Go.Obj.cells renaming injEq→uR
open Go.Oper renaming semAt_eq→Jh,semAt_none→uU,upon→kr,uponIn→qa,wp→ji
open Go.Program renaming underlying→Ji
open Go.Region renaming Mode→q4,binds→js,ready→iF
open Go.Result renaming andThen_ok→nD
open Go.RoundIn renaming mono→Cn
open Go.Rows renaming mono→Co
open Go.RowsIn renaming mono→Cp
open Go.Sem renaming run→q5,run_bind→nE,run_pure→q6
open Go.Value renaming agg→bA,ownBlock→gH,slice→bC
open Go.Value.slice renaming injEq→ma
open Go.World renaming alloc_heap_new→x6,frozen?→Jq,ownsRow→bq,putObj→Jr,putObj_heap_other→nJ,putObj_heap_same→x7,setCell→x8,size_alloc→Js
open List.Pairwise renaming filter→XC,imp→XD
open List renaming append_nil→eu,eq_nil_of_length_eq_zero→gq,ext_getElem?→oz,filterMap_cons→yf,filter_cons→pA,filter_eq_self→yg,flatMap_cons→jt,flatMap_map→Jz,flatMap_nil→CA,foldl_cons→sT,getD_cons_succ→JA,getD_cons_zero→mJ,getD_eq_getElem?_getD→cU,getElem?_append_left→mK,getElem?_append_right→nK,getElem?_cons_zero→yh,getElem?_eq_getElem→bX,getElem?_eq_some_iff→eR,getElem?_inj→CD,getElem?_map→fF,getElem?_modify→JC,getElem?_of_mem→q9,getElem?_set→kt,getElem?_toArray→JE,length_append→bJ,length_cons→bS,length_drop→gI,length_filter_le→mM,length_map→e9,length_nil→gJ,length_replicate→nL,length_take→eE,mapM_toArray→vd,map_append→gV,map_cons→mO,map_map→JG,mem_append→iW,mem_append_left→sW,mem_append_right→qh,mem_cons→ew,mem_cons_of_mem→nM,mem_cons_self→nN,mem_flatMap→nO,mem_map→gW,mem_map_of_mem→ra,mem_of_getElem?→fU,mem_or_eq_of_mem_set→CF,mem_range→nP,mem_singleton→gK,nil_append→oB,nodup_append→rh,nodup_cons→ri,not_mem_nil→ym,pairwise_lt_range→yo,pairwise_map→yq,range→fM,replicate→jM,size_toArray→nR,take_append→vf,take_of_length_le→fu,take_take→JS,take_zero→pB,zipIdx_cons→yt
open Nat renaming ble→mP,blt→fV,le_of_ble_eq_true→qi,le_refl→cj,le_trans→dS,min_eq_left→oC,mul_le_mul_right→oD,mul_one→s8,succ_mul→nT,zero_le→ku
open Option renaming bind_some→pC,map_eq_some_iff→mg,map_some→ky
open Option.some renaming inj→rl,injEq→fO
open Prod renaming fst→gr
open Prod.mk renaming injEq→vl
open UInt8 renaming toNat→Kd,toNat_inj→rp
open Go.Proofs.Tryz
open Go.RowKit
section
set_option linter.unusedSimpArgs false
namespace Go.Hb
open Classical
structure lg (P:Program) (k:TypeId) (isK:Value→Prop):Prop where
 key:ta P k isK
 stays:∀ w v,isK v→(Cb v v).run P w= .ok v w
def iu (v:Value):Prop := ∃ s:List UInt8,v=str s
def jU (q:IntKind) (v:Value):Prop := ∃ a:Int,v= .int q a
theorem E0 {d:TypeDesc} {isK:Value→Prop} (hs:∀ x y,isK x→isK y→∃ c,Ce d x y=some c∧(c=true↔x=y)) {x:Value} (E:isK x):∀ (es:List MapEntry) (i:Nat),(∀ e∈es,isK e.key)→
 (qX d x es i=some none∧∀ e∈es,e.key≠x)∨∃ j e,qX d x es i=some (some (i+j,e.val))∧es[j]? =some e∧e.key=x
 | [],i,_=> .inl ⟨rfl,fun _ h=>by simp at h⟩
 | e::es,i,h=>by
   obtain ⟨c,h1,h2⟩:=hs x e.key E<|h e<|by simp
   cases c with
   | true =>exact .inr ⟨0,e,by simp [qX,h1],rfl,(h2.1 rfl).symm⟩
   | false =>
     have I:e.key≠x:=fun G=>by cases h2.2 G.symm
     rcases E0 hs E es (i+1) (fun e he=>h e<|by simp [he]) with ⟨h3,h4⟩ | ⟨j,A,h3,h4,h5⟩
     · refine .inl ⟨by simp [qX,h1,h3],fun A C=> ?_⟩
       rcases ew.1 C with rfl | C
       · exact I
       · exact h4 A C
     · refine .inr ⟨j+1,A,?_,h4,h5⟩
       simp only [qX,h1,h3]; rw [show i+1 +j=i+(j+1) from by omega]
theorem Ga {P:Program} {k:TypeId} {d:TypeDesc} {isK:Value→Prop} (hk:P.underlying k=some d) (hs:∀ x y,isK x→isK y→∃ c,Ce d x y=some c∧(c=true↔x=y)) (A:∀ em w v,isK v→(nC em 10000 k v).run P w= .ok () w):ta P k isK where
 check:=A
 find w x es hx hes:=by
  rcases E0 hs hx es 0 hes with ⟨h1,h2⟩ | ⟨j,e,h1,h2,h3⟩
  · exact .inl ⟨by simp [qW,db hk,h1],h2⟩
  · exact .inr ⟨j,e,by simp [qW,db hk,h1],h2,h3⟩
theorem yM (a b:ByteArray):(a==b)=decide (a=b):=by
 rw [p8,decide_eq_true_iff]
 show ((a.data==b.data)=true)↔_
 rw [beq_iff_eq]
 exact ⟨fun h=>by cases a; cases b; cases h; rfl,fun h=>by rw [h]⟩
theorem Sl {P:Program} {k:TypeId} (hk:P.underlying k=some .string):lg P k iu where
 key:=Ga hk (by
  rintro _ _ ⟨a,rfl⟩ ⟨b,rfl⟩
  refine ⟨_,aa,?_⟩
  rw [yM,decide_eq_true_iff]
  constructor
  · intro h; unfold str; rw [h]
  · intro h; unfold str at h; cases h; rfl) (by rintro em w _ ⟨a,rfl⟩; exact D5 (n:=9999) hk w)
 stays w v hv:=by obtain ⟨a,rfl⟩:=hv; simp [Cb,Jd,str,yM]
theorem Nj {P:Program} {k:TypeId} {q r:IntKind} {em:Bool} {n:Nat} {a:Int} (hk:P.underlying k=some (.int q)) (w:World):(nC em (n+1) k<|.int r a).run P w= .ok () w:=by
 simp only [nC,nE,db hk,nD,q6]
theorem F9 {P:Program} {k:TypeId} {q r:IntKind} (hk:P.underlying k=some (.int q)):lg P k (jU r) where
 key:=Ga hk (by
  rintro _ _ ⟨a,rfl⟩ ⟨b,rfl⟩
  refine ⟨decide (a=b),by simp [Ce]; rfl,?_⟩
  rw [decide_eq_true_iff]
  exact ⟨fun h=>by rw [h],fun h=>by cases h; rfl⟩) (by rintro em w _ ⟨a,rfl⟩; exact Nj (n:=9999) hk w)
 stays w v hv:=by obtain ⟨a,rfl⟩:=hv; simp [Cb,Jd]
def bQ (h:Array Obj) (b:Nat) (isK:Value→Prop) (f:Value→Option Value):Prop :=
 ∃ kvs,qn h b kvs∧(∀ p∈kvs,isK p.1)∧(kvs.map gr).Nodup∧∀ k v,f k=some v↔(k,v)∈kvs
theorem bQ.md {F:Nat→Prop} {w w':World} {b:Nat} {isK:Value→Prop} {f:Value→Option Value} (h:bQ w.heap b isK f) (hm:Md F w w') (c:¬F b):bQ w'.heap b isK f:=
 let ⟨kvs,h1,h2⟩:=h; ⟨kvs,h1.md hm c,h2⟩
theorem bQ.wk {w w':World} {b:Nat} {isK:Value→Prop} {f:Value→Option Value} (h:bQ w.heap b isK f) (hm:Wk w w'):bQ w'.heap b isK f:=h.md hm id
theorem bQ.nil {h:Array Obj} {b:Nat} {isK:Value→Prop} {c:Nat} (hm:h[b]? =some (.map #[] c)):bQ h b isK fun _=>none:=
 ⟨[],⟨_,_,hm,rfl⟩,fun p hp=>(by simp at hp),(by simp),fun k v=>by simp⟩
theorem bQ.isMap {h:Array Obj} {b:Nat} {isK:Value→Prop} {f:Value→Option Value} (hm:bQ h b isK f):∃ es c,h[b]? =some (.map es c):=let ⟨_,⟨es,c,h1,_⟩,_⟩:=hm; ⟨es,c,h1⟩
theorem bQ.nm {h:Array Obj} {b:Nat} {isK:Value→Prop} {f:Value→Option Value} (hm:bQ h b isK f) {cur:Array Value} {e:TypeId} {z:Nat×Nat} :h[b]?≠some (.cells cur e z):=by
 obtain ⟨es,c,h1⟩:=hm.isMap; rw [h1]; intro h; cases h
noncomputable def bz (f:Value→Option Value) (k v:Value):Value→Option Value:=fun q=>if q=k then some v else f q
theorem mB (f:Value→Option Value) (k v:Value):bz f k v k=some v:=if_pos rfl
theorem k0 {f:Value→Option Value} {k v q:Value} (h:q≠k):bz f k v q=f q:=if_neg h
section
variable {P:Program} {N:Fm} {σ:Nat→Value} {w:World} {dst:Option Nat} {ty:TypeId} {pos :String} {af:Array Edge} {g:Option (Nat×Bool)} {x y z:Operand} {K:(Nat→Value)→World→Prop}
variable {t k e:TypeId} {isK:Value→Prop} {b:Nat} {f:Value→Option Value} {kx v zv:Value}
theorem Gn {ok:Bool} (C:P.underlying t=some (.map k e)) (I:zeroV P e=some zv) (A:lg P k isK) (hm:bQ w.heap b isK f) (E:ev N σ x= .map (some b)) (G:ev N σ y=kx) (hi:isK kx):
 (execOp (ev N σ) ⟨dst,.lookup t x y ok,ty,pos,af,g⟩).run P w= .ok (.value (if ok then .tuple #[(f kx).getD zv,.bool (f kx).isSome] else (f kx).getD zv)) w:=by
 obtain ⟨kvs,h1,h2,h3,h4⟩:=hm
 cases hf:f kx with
 | none=>exact SK C I A.key h1 h2 E G hi fun v c=>by rw [← h4] at c; rw [hf] at c; cases c
 | some v=>exact SJ C A.key h1 h2 E G hi h3<|(h4 kx v).1 hf
theorem lB (A:P.underlying t=some (.map k e)) (I:zeroV P e=some zv) (c:lg P k isK) (hm:bQ w.heap b isK f) (E:ev N σ x= .map (some b)) (G:ev N σ y=kx) (hi:isK kx) (C:(f kx).getD zv=v):
 (execOp (ev N σ) ⟨dst,.lookup t x y false,ty,pos,af,g⟩).run P w= .ok (.value v) w:=by
 rw [Gn A I c hm E G hi,C]; rfl
theorem Gp {ob:Bool} (C:P.underlying t=some (.map k e)) (J:zeroV P e=some zv) (c:lg P k isK) (hm:bQ w.heap b isK f) (G:ev N σ x= .map (some b)) (I:ev N σ y=kx) (hi:isK kx) (E:(f kx).getD zv=v) (A:(f kx).isSome=ob):
 (execOp (ev N σ) ⟨dst,.lookup t x y true,ty,pos,af,g⟩).run P w= .ok (.value<|.tuple #[v,.bool ob]) w:=by
 rw [Gn C J c hm G I hi,E,A]; rfl
theorem Ik (ag:P.underlying t=some (.map k e)) (O:lg P k isK) (hm:bQ w.heap b isK f) (hi:isK kx):
 ∃ w',(Cd t (.map<|some b) kx v).run P w= .ok () w'∧Md (fun j=>j=b) w w'∧bQ w'.heap b isK (bz f kx v):=by
 obtain ⟨kvs,⟨es,c,J,he⟩,h2,h3,h4⟩:=hm
 have Z:=(bT.1 J).1
 rcases O.key.find w kx es.toList hi (zH he h2) with ⟨h1,ao⟩ | ⟨j,Y,h1,E,h5⟩
 · have ae:∀ u,(kx,u)∉kvs:=fun u hu=>by
    rw [← he] at hu
    obtain ⟨ah,al,ai⟩:=gW.1 hu
    cases ai
    exact ao ah al aa
   refine ⟨{w with heap:=w.heap.setIfInBounds b<|.map (es.push {key:=kx,val:=v,born:=c})<|c+1},by simp [Cd,db ag,run_getObj_map J,O.key.check _ w kx hi,h1,setObj,q5,J],⟨aa,aa,by simp,fun i _ G=>by simp only; rw [sJ (fun e=>G e.symm)]⟩,kvs++ [(kx,v)],⟨_,_,by simp only; rw [sK Z],by simp [he]⟩,?_,?_,?_⟩
   · intro p hp
     rcases iW.1 hp with hp | hp
     · exact h2 p hp
     · rw [gK.1 hp]; exact hi
   · rw [gV,rh]
     refine ⟨h3,by simp,?_⟩
     intro a aj aq ab ak
     simp at ab
     subst ak ab
     obtain ⟨p,hp,ap⟩:=gW.1 aj
     exact ae p.2<|by rw [← ap]; exact hp
   · intro q u
     unfold bz
     rw [iW,gK]
     by_cases C:q=kx
     · subst C
       rw [if_pos rfl]
       constructor
       · intro h; cases h; exact .inr rfl
       · rintro (h | h)
         · exact absurd h<|ae u
         · cases h; rfl
     · rw [if_neg C,h4]
       constructor
       · exact .inl
       · rintro (h | h)
         · exact h
         · cases h; exact absurd rfl C
 · have au:j < es.size:=by have :=(eR.1 E).1; simpa using this
   have ac:es[j]? =some Y:=by simpa using E
   refine ⟨{w with heap:=w.heap.setIfInBounds b<|.map (es.modify j fun e=> {e with key:=kx,val:=v}) c},?_,⟨aa,aa,by simp,fun i _ G=>by simp only; rw [sJ (fun e=>G e.symm)]⟩,kvs.set j (kx,v),⟨_,_,by simp only; rw [sK Z],?_⟩,?_,?_,?_⟩
   · have hs:=O.stays w kx hi
     simp [Cd,db ag,run_getObj_map J,O.key.check _ w kx hi,h1,ac,h5,hs,setObj,q5,J]
   · rw [← he]
     apply oz
     intro i
     simp only [xW,fF,JC,kt,e9]
     by_cases I:j=i
     · subst I; rw [E]; simp; have :=(eR.1 E).1; simpa using this
     · simp [I]
   · intro p hp
     rcases CF hp with hp | hp
     · exact h2 p hp
     · rw [hp]; exact hi
   · have :(kvs.set j (kx,v)).map gr=kvs.map gr:=by
      apply oz
      intro i
      simp only [fF,kt]
      by_cases I:j=i
      · subst I
        rw [← he]; simp only [fF,E,e9]
        have :=(eR.1 E).1
        simp [this,h5]
        simpa using this
      · simp [I]
     rw [this]; exact h3
   · intro q u
     have V:kvs[j]? =some (kx,Y.val):=by rw [← he]; simp [E,h5,ac]
     have ad:=(eR.1 V).1
     have an:(kx,v)∈kvs.set j (kx,v):=fU (i:=j)<|by rw [kt,if_pos rfl,if_pos ad]
     unfold bz
     by_cases C:q=kx
     · subst C
       rw [if_pos rfl]
       constructor
       · intro h; cases h; exact an
       · intro h
         obtain ⟨i,A⟩:=q9 h
         rw [kt] at A
         split at A
         · rename_i am
           subst am
           cases A; rfl
         · rename_i G
           exfalso
           exact G<|(CD (i:=j) (j:=i) (by simpa using ad) h3).1<|by simp [V,A]
     · rw [if_neg C,h4]
       constructor
       · intro h
         obtain ⟨i,A⟩:=q9 h
         have G:j≠i:=by rintro rfl; rw [V] at A; cases A; exact C rfl
         exact fU (i:=i)<|by rw [kt,if_neg G]; exact A
       · intro h
         rcases CF h with h | h
         · exact h
         · cases h; exact absurd rfl C
theorem qR (C:P.underlying t=some (.map k e)) (c:lg P k isK) (hm:bQ w.heap b isK f) (E:ev N σ x= .map (some b)) (G:ev N σ y=kx) (I:ev N σ z=v) (hi:isK kx)
 (J:∀ w',Md (fun j=>j=b) w w'→bQ w'.heap b isK (bz f kx v)→K σ w'):cH P N ⟨none,.mapUpdate t x y z,ty,pos,af,g⟩ σ w K:=by
 obtain ⟨w',h1,h2,h3⟩:=Ik (v:=v) C c hm hi
 have A:(execOp (ev N σ) ⟨none,.mapUpdate t x y z,ty,pos,af,g⟩).run P w= .ok .skip w':=by
  simp [execOp,E,G,I,h1]
 unfold cH ji
 rw [gh,A]
 exact ⟨σ,aa,J w' h2 h3⟩
theorem lY (C:P.underlying t=some (.map k e)) (c:lg P k isK) (hm:bQ w.heap b isK f) (E:ev N σ x= .map (some b)) (G:ev N σ y=kx) (I:ev N σ z=v) (hi:isK kx)
 (J:∀ w',Md (fun j=>j=b) w w'→bQ w'.heap b isK (bz f kx v)→K σ w'):cH P N ⟨none,.insert t x y z,ty,pos,af,g⟩ σ w K:=by
 obtain ⟨w',h1,h2,h3⟩:=Ik (v:=v) C c hm hi
 have A:(execOp (ev N σ) ⟨none,.insert t x y z,ty,pos,af,g⟩).run P w= .ok .skip w':=by
  simp [execOp,E,G,I,h1]
 unfold cH ji
 rw [gh,A]
 exact ⟨σ,aa,J w' h2 h3⟩
end
end Go.Hb
end
section
namespace Go.Hb
section
variable {P:Program} {N:Fm} {σ:Nat→Value} {w:World} {fn:Func} {R:Value→World→Prop}
theorem SU {t b off :Nat} {v:Value} (hu:dt P t=some none) (c:Hb.aJ w.heap b off =some v):(loadVar t ⟨b,off,none⟩).run P w= .ok v w:=by
 have A:w.cell? ⟨b,off,none⟩=some v:=by rw [mT]; exact c
 unfold dt at hu
 cases hd:P.underlying t with
 | none=>rw [hd] at hu; cases hu
 | some d=>
   rw [hd] at hu
   cases d <;> first
    | (simp only [mg] at hu; obtain ⟨_,_,h⟩:=hu; cases h; done)
    | simp [loadVar,isAgg,db hd,run_load,A]
theorem SV {t n b off :Nat} {cs:List Value} (hu:dt P t=some (some n)) (E:cs.length=n) (A:∀ j,j < n→Hb.aJ w.heap b (off+j)=cs[j]?):(loadVar t ⟨b,off,none⟩).run P w= .ok (.agg cs.toArray) w:=by
 have C:(loadCells ⟨b,off,none⟩ n).run P w= .ok cs.toArray w:=by
  subst E
  refine run_loadCells_list (P:=P) w ⟨b,off,none⟩ cs fun j v c=> ?_
  rw [lO,mT]
  exact (A j (eR.1 c).1).trans c
 unfold dt at hu
 cases hd:P.underlying t with
 | none=>rw [hd] at hu; cases hu
 | some d=>
   rw [hd] at hu
   cases hi:P.info? t with
   | none=>simp [Ji,hi] at hd
   | some i=>
     rw [hi] at hu
     cases d <;> first
      | (cases hu; done)
      | (simp only [ky,fO] at hu; subst hu
         simp [loadVar,isAgg,db hd,sizeOf,gS hi,C])
def jw (P:Program) (N:Fm) (σ:Nat→Value) (w:World):ResultVar→Value→Prop
 | .tmp t,v=>ev N σ (.tmp t)=v
 | .cell a t,v=> ∃ ad,ev N σ (.tmp a)= .pointer (some ad)∧(loadVar t ad).run P w= .ok v w
theorem eI {t:Tmp} :jw P N σ w (.tmp t) (ev N σ<|.tmp t):=rfl
theorem gR {a t b off :Nat} {v:Value} (A:ev N σ (.tmp a)= .pointer (some ⟨b,off,none⟩)) (hu:dt P t=some none) (c:Hb.aJ w.heap b off =some v):jw P N σ w (.cell a t) v:=⟨_,A,SU hu c⟩
theorem dZ {a t n b off :Nat} {cs:List Value} (C:ev N σ (.tmp a)= .pointer (some ⟨b,off,none⟩)) (hu:dt P t=some (some n)) (A:cs.length=n) (c:∀ j,j < n→Hb.aJ w.heap b (off+j)=cs[j]?):jw P N σ w (.cell a t) (.agg cs.toArray):=⟨_,C,SV hu A c⟩
def om (tmps:Array Value):ResultVar→Sem Value
 | .tmp t=>pure<|tmps.getD t undef
 | .cell a t=>do loadVar t (← asAddr (tmps.getD a undef))
theorem jq {r:ResultVar} {v:Value} (h:jw P N σ w r v):(om (act N σ).tmps r).run P w= .ok v w:=by
 cases r with
 | tmp t=>
   show q5 P (pure<|(act N σ).tmps.getD t undef) w=_
   rw [ny]; simp only [jw] at h; rw [h]; rfl
 | cell a t=>
   obtain ⟨ad,h1,h2⟩:=h
   show q5 P (do loadVar t (← asAddr ((act N σ).tmps.getD a undef))) w=_
   rw [ny,h1]
   simp [asAddr,h2]
theorem Bi {tmps:Array Value} {r:ResultVar} {v:Value} (h:fn.results= #[r]) (h1:(om tmps r).run P w= .ok v w):(results fn tmps).run P w= .ok v w:=by
 have c:(results fn tmps)=(do let vs ← #[r].mapM (om tmps); pure (if h:vs.size=1 then vs[0] else .tuple vs)):=by
  unfold results; rw [h]; rfl
 rw [c]; simp [vd,h1]
theorem xh {tmps:Array Value} {r s:ResultVar} {v u:Value} (h:fn.results= #[r,s]) (h1:(om tmps r).run P w= .ok v w) (h2:(om tmps s).run P w= .ok u w):(results fn tmps).run P w= .ok (.tuple #[v,u]) w:=by
 have c:(results fn tmps)=(do let vs ← #[r,s].mapM (om tmps); pure (if h:vs.size=1 then vs[0] else .tuple vs)):=by
  unfold results; rw [h]; rfl
 rw [c]; simp [vd,h1,h2]
theorem Bj {tmps:Array Value} {r s q:ResultVar} {v u z:Value} (h:fn.results= #[r,s,q]) (h1:(om tmps r).run P w= .ok v w) (h2:(om tmps s).run P w= .ok u w) (h3:(om tmps q).run P w= .ok z w):(results fn tmps).run P w= .ok (.tuple #[v,u,z]) w:=by
 have c:(results fn tmps)=(do let vs ← #[r,s,q].mapM (om tmps); pure (if h:vs.size=1 then vs[0] else .tuple vs)):=by
  unfold results; rw [h]; rfl
 rw [c]; simp [vd,h1,h2,h3]
theorem tL {r:ResultVar} {v:Value} (h:fn.results= #[r]) (h1:jw P N σ w r v) (c:R v w):fin P fn N R .ret σ w:=⟨v,Bi h (jq h1),c⟩
theorem fg {r s:ResultVar} {v u:Value} (h:fn.results= #[r,s]) (h1:jw P N σ w r v) (h2:jw P N σ w s u) (c:R (.tuple #[v,u]) w):fin P fn N R .ret σ w:=⟨_,xh h (jq h1) (jq h2),c⟩
theorem EO {r s q:ResultVar} {v u z:Value} (h:fn.results= #[r,s,q]) (h1:jw P N σ w r v) (h2:jw P N σ w s u) (h3:jw P N σ w q z) (c:R (.tuple #[v,u,z]) w):fin P fn N R .ret σ w:=⟨_,Bj h (jq h1) (jq h2) (jq h3),c⟩
end
end Go.Hb
end
section
namespace Go.Hb
def nA (P:Program) (N:Fm) (c:Code) (B:Exit→Act→World→Prop) (σ:Nat→Value) (w:World):Prop :=c.wpIn (fe N.r) 0 P B (act N σ) w
def qb (N:Fm) (B:Exit→Act→World→Prop):Exit→(Nat→Value)→World→Prop :=fun e σ w=>B e (act N σ) w
section
variable {P:Program} {N:Fm} {B:Exit→Act→World→Prop} {σ:Nat→Value} {w:World}
theorem cG {x y:Code} (h:nA P N x (Exit.then (y.wpIn (fe N.r) 0 P B) B) σ w):nA P N (.seq x y) B σ w:=wpIn_seq h
theorem cK {y:Code} (h:nA P N y B σ w):qb N (Exit.then (y.wpIn (fe N.r) 0 P B) B) .normal σ w:=h
theorem prt {y:Act→World→Prop} (h:qb N B .ret σ w):qb N (Exit.then y B) .ret σ w:=h
theorem sn (h:qb N B .ret σ w):nA P N .ret B σ w:=wpIn_ret h
theorem cV {c:Code} (h:di P N c (qb N B) σ w):nA P N c B σ w:=by
 unfold di at h
 refine wpIn_mono h ?_
 intro e a w A
 cases e with
 | panic c=>obtain ⟨σ,rfl,C⟩:=A; exact C σ fun _ _=>rfl
 | outgrown=>exact A.elim
 | _=>obtain ⟨σ,rfl,C⟩:=A; exact C
end
theorem xn (fn:Func) (args:List Value) (F:List Nat) (hn:mP args.length fn.ntmps=true):({tmps:=args.toArray++sL (fn.ntmps - args.toArray.size) undef,defers:= []} :Act)=act ⟨fn.ntmps,[],F,none⟩ (l7 args):=by
 have c:args.length≤fn.ntmps:=by simpa using hn
 refine vt aa fun i=> ?_
 rw [oL]
 simp only [l7,cU,nR]
 by_cases h1:i < args.length
 · rw [Array.getElem?_append_left (by simpa using h1),if_pos ab]
   simp [h1]
 · rw [Array.getElem?_append_right (by simpa using h1)]
   simp only [nR,Array.getElem?_replicate]
   by_cases h2:i < fn.ntmps
   · rw [if_pos ab,if_pos h2,List.getElem?_eq_none ab]; rfl
   · rw [if_neg ab,if_neg h2]
abbrev Bm (P:Program) (fn:Func) (R:Value→World→Prop):Exit→Act→World→Prop :=bodyPostM ij 0 P fn (fun e w'=> ∃ v,e= .returned v∧R v w')
theorem qA {P:Program} {f:FuncId} {N:Nat} {fn:Func} {c:Code} {args:List Value} {w:World} {R:Value→World→Prop} (F:List Nat) (E:P.funcs[f]? =some fn) (C:fn.body=some c)
 (A:fn.ntmps=N) (hn:mP args.length N=true) (h:nA P ⟨N,[],F,none⟩ c (Bm P fn R) (l7 args) w):bf P f args.toArray w R:=by
 subst A
 refine callsIn_wide.1<|callsIn_of_wp_marks (F:=ij) (n:=0) E C trivial ?_
 rw [xn fn args F hn]
 exact h
section
variable {P:Program} {n:Nat} {F:List Nat} {σ:Nat→Value} {w:World} {fn:Func} {R:Value→World→Prop}
theorem AA {e:Exit} (he:e= .ret∨e= .normal) {v:Value} (A:(results fn (act ⟨n,[],F,none⟩ σ).tmps).run P w= .ok v w) (c:R v w):qb ⟨n,[],F,none⟩ (Bm P fn R) e σ w:=by
 rcases he with rfl | rfl <;> exact ⟨v,A,v,rfl,c⟩
theorem EM {t u:Nat} {v c:Value} (h:fn.results= #[.tmp t,.tmp u]) (C:ev ⟨n,[],F,none⟩ σ (.tmp t)=v) (hu:ev ⟨n,[],F,none⟩ σ (.tmp u)=c) (A:R (.tuple #[v,c]) w):qb ⟨n,[],F,none⟩ (Bm P fn R) .ret σ w:=
 AA (.inl rfl) (by rw [results_tmp2 h,ny,ny,C,hu]) A
theorem Sy {D:Nat} {v:Value} (c:w.heap[D]? =some (.deferred<|some [])) (C:∀ w',(results fn (act ⟨n,[{target:= .collected D,args:= #[]}],F,none⟩ σ).tmps).run P w'= .ok v w') (A:R v (w.putObj D<|.deferred none)):
 qb ⟨n,[{target:= .collected D,args:= #[]}],F,none⟩ (Bm P fn R) .ret σ w:=
 ⟨B9,.inl ⟨_,_,rfl,run_takeDeferred c,⟨v,C _,v,rfl,A⟩⟩⟩
theorem EN {D t u:Nat} {v c:Value} (h:fn.results= #[.tmp t,.tmp u]) (E:ev ⟨n,[{target:= .collected D,args:= #[]}],F,none⟩ σ (.tmp t)=v) (hu:ev ⟨n,[{target:= .collected D,args:= #[]}],F,none⟩ σ (.tmp u)=c)
 (A:w.heap[D]? =some (.deferred<|some [])) (C:R (.tuple #[v,c]) (w.putObj D<|.deferred none)):qb ⟨n,[{target:= .collected D,args:= #[]}],F,none⟩ (Bm P fn R) .ret σ w:=
 Sy A (fun w'=>by rw [results_tmp2 h,ny,ny,E,hu]) C
end
theorem dQ {w:World} {B t size n pp c:Nat} {v:Value} {xs:List Value} {cs:Array Value} {z:Nat×Nat} (h:w.ownsRow B t size v n xs) (hp:w.heap[pp]? =some (.cells cs c z)) (C:t≠c):v.ownBlock≠some pp:=by
 intro hk
 rcases h.2 with ⟨h1,_⟩ | ⟨g,cap,cur,h1,_,A,_⟩
 · rw [h1] at hk; simp [gH] at hk
 · rw [h1] at hk
   simp only [gH,fO] at hk
   subst hk
   rw [A] at hp
   simp only [fO,uR] at hp
   exact C hp.2.1
section
variable {P:Program} {N:Fm} {σ:Nat→Value} {w:World} {dst:Option Nat} {ty:TypeId} {pos :String} {af:Array Edge} {g:Option (Nat×Bool)} {x:Operand} {K:(Nat→Value)→World→Prop}
theorem rJ {e:TypeId} {v:Value} (c:ev N σ x=v) (h1:v.oneCell'=true) (k:∀ b w',b=w.heap.size→Nw w w'→w'.heap[b]? =some (.cells [v].toArray e (0,0))→K (fq σ dst<|.pointer<|some ⟨b,0,none⟩) w'):
 cH P N ⟨dst,.box e x,ty,pos,af,g⟩ σ w K:=by
 refine mF (v:=fun b=> .pointer<|some ⟨b,0,none⟩) (ob:= .cells [v].toArray e (0,0)) ?_ k
 have :=pT h1
 simp [execOp,Instr.box,c,this,newVar,newRow]
end
theorem l1 (w:World) (k:Nat) (o:Obj):Md (fun j=>j=k) w (w.putObj k o):=
 ⟨rfl,rfl,by simp [Jr],fun j _ c=>nJ c⟩
def eS (w w':World):Prop := ∀ (k:Nat) (o:Obj),w.heap[k]? =some o→(∀ cur e z,o≠.cells cur e z)→w'.heap[k]? =some o
theorem eS.trans {a b c:World} (h:eS a b) (A:eS b c):eS a c:=fun k o C hn=>A k o (h k o C hn) hn
theorem eS.md {F:Nat→Prop} {w w':World} (hm:Md F w w') (C:∀ k,F k→∃ cur e z,w.heap[k]? =some (.cells cur e z)):eS w w':=fun k o A hn=>by
 rw [hm.dv k (bT.1 A).1 (fun hk=>by obtain ⟨c,e,z,h⟩:=C k hk; rw [A] at h; exact hn _ _ _<|rl h)]; exact A
theorem eS.wk {w w':World} (hm:Wk w w'):eS w w':=eS.md hm fun _ h=>h.elim
theorem sj {w:World} {B e size n:Nat} {v:Value} {xs:List Value} (h:w.ownsRow B e size v n xs):∀ k,v.ownBlock=some k→∃ cur e z,w.heap[k]? =some (.cells cur e z):=by
 intro k hk
 rcases h.2 with ⟨rfl,_⟩ | ⟨g,cap,A,rfl,_,c,_⟩
 · simp [gH] at hk
 · simp only [gH,fO] at hk; subst hk; exact ⟨_,_,_,c⟩
def Kn {α:Type} (B:Nat) (c:List α→World→Prop):Prop := ∀ pre W W' (F:Nat→Prop),c pre W→Md F W W'→(∀ k,F k→B≤k∧∀ cur e z,W.heap[k]?≠some (.cells cur e z))→c pre W'
section
variable {F:Nat→Prop} {W W':World} {B:Nat}
theorem xA {b e:Nat} {cs:Array Value} {z:Nat×Nat} (h:W.heap[b]? =some (.cells cs e z)) (hm:Md F W W') (c:∀ k,F k→B≤k∧∀ cur e z,W.heap[k]?≠some (.cells cur e z)):W'.heap[b]? =some (.cells cs e z):=by
 rw [hm.dv b (bT.1 h).1 (fun hk=>(c b hk).2 _ _ _ h)]; exact h
theorem HQ {B' e size n:Nat} {v:Value} {xs:List Value} (h:W.ownsRow B' e size v n xs) (hm:Md F W W') (A:∀ k,F k→B≤k∧∀ cur e z,W.heap[k]?≠some (.cells cur e z)):W'.ownsRow B' e size v n xs:=
 cD h hm fun k hk C=>by obtain ⟨c,e,z,h1⟩:=sj h k hk; exact (A k C).2 _ _ _ h1
theorem HR {w:World} (h:Wk w W) (hm:Md F W W') (C:w.heap.size≤B) (c:∀ k,F k→B≤k∧∀ cur e z,W.heap[k]?≠some (.cells cur e z)):Wk w W':=Md.trans' h hm fun k hk A=>by have :=(c k A).1; omega
end
def CM {α:Type} (P:Program) (I:Nat) (J:Array Value) (G:α→Array Value) (xs:List α) (E:World→Prop):Prop :=
 ∀ (l:Nat) (c:List α→World→Prop) (W:World),c [] W→(∀ pre W,c pre W→E W)→(∀ pre A C,c pre A→Wk A C→c pre C)→
   (∀ pre x rest A,xs=pre++x::rest→c pre A→YieldAt ij 0 P l (G x) A fun e W'=>e= .returned (.bool true)∧c (pre++ [x]) W')→
   Calls P I (#[.func (.yield l) #[] #[]]++J) W fun e W'=>(∃ v,e= .returned v)∧c xs W'
def UX (R:World→Prop):Exit→(Nat→Value)→World→Prop
 | .normal,_,w=>R w
 | _,_,_=>False
theorem CO (N:Fm):∀ (l:List (Tmp×Value)) (σ:Nat→Value),l.foldl (fun t p=>t.setIfInBounds p.1 p.2) (act N σ).tmps=(act N<|l.foldl (fun s p=>c6 s p.1 p.2) σ).tmps:=by
 intro l
 induction l with
 | nil=>intro σ; rfl
 | cons p l c=>
   intro σ
   rw [sT,sT,← c]
   congr 1
   have :=congrArg Act.tmps<|jl N σ (some p.1) p.2
   exact this
theorem Hm {α:Type} {P:Program} {id n:Nat} {g:Operand} {ps:Array Tmp} {ae body:Code} {Fx:List Nat} {σ:Nat→Value} {w:World} {B:Exit→Act→World→Prop} {ac:Nat} {ad:Array Value}
 (V:α→Array Value) (xs:List α) (al:World→Prop) (E:List α→World→Prop) (aG:ev ⟨n,[],Fx,none⟩ σ g= .func (.func ac) #[] ad) (aD:bd P ac) (aN:∀ x,(V x).size=ps.size)
 (aI:CM P ac ad V xs al) (ax:E [] w) (aE:∀ pre W,E pre W→al W) (ag:Kn w.heap.size E) (au:α→Nat→Value)
 (aB:∀ (l:Nat) (x:α) (W:World) (K:(Nat→Value)→World→Prop),K (au x) W→di P ⟨n,[],[],some l⟩ ae (k9 K fun _ _ _=>False) ((ps.toList.zip (V x).toList).foldl (fun s p=>c6 s p.1 p.2) σ) W)
 (aC:∀ (l:Nat) (pre:List α) (x:α) (rest:List α) (W:World),xs=pre++x::rest→E pre W→di P ⟨n,[],[],some l⟩ body (UX fun W'=>eS W W'∧E (pre++ [x]) W') (au x) W)
 (hd:∀ (D:Nat) (W:World),w.heap.size≤D→E xs W→W.heap[D]? =some (.deferred<|some [])→qb ⟨n,[{target:= .collected D,args:= #[]}],Fx,none⟩ B .normal σ W):
 nA P ⟨n,[],Fx,none⟩ (.block id<|.rangeFunc g ps ae body) B σ w:=by
 refine wpIn_block<|wpIn_rangeFunc ?_
 intro fn _
 obtain ⟨rc,Z⟩:∃ rc:LoopState→Option Code→Loop,rc=fun st aQ=> {state:=st,pending:=aQ,fn,tmps:=(act ⟨n,[],Fx,none⟩ σ).tmps,params:=ps,assign:=ae,body,defers:=w.heap.size} :=⟨_,rfl⟩
 obtain ⟨G,ah⟩:∃ G,(w.alloc<|.deferred<|some []).alloc (.loop<|rc .ready none)=G:=⟨_,rfl⟩
 have aA:G.heap[w.heap.size+1]? =some (.loop<|rc .ready none):=by
  rw [← ah]; have :=x6 (w.alloc<|.deferred<|some []) (.loop<|rc .ready none); rwa [Js] at this
 have az:G.heap[w.heap.size]? =some (.deferred<|some []):=by
  rw [← ah]; exact (Below.heap_alloc _ _ _<|by simp).trans<|x6 w _
 have hn:∀ (W:World) (o:Obj),Wk W (W.alloc o):=fun W o=>(AW W o).md
 have ay:E [] G:=by rw [← ah]; exact ag _ _ _ _ (ag _ _ _ _ ax (hn _ _) fun _ h=>h.elim) (hn _ _) fun _ h=>h.elim
 have aF:(act ⟨n,[],Fx,none⟩ σ).eval g= .func (.func ac) #[] ad:=by rw [gh]; exact aG
 refine ⟨w.heap.size+1,[{target:= .collected w.heap.size,args:= #[]}],G,{target:= .fn (.func ac) ad,args:= #[.func (.yield<|w.heap.size+1) #[] #[]]},G,ac,
  #[.func (.yield<|w.heap.size+1) #[] #[]]++ad,G,?_,?_,fun _ _=>trivial,?_,fun aw=>(by cases aw),?_⟩
 · rw [← ah,Z]; exact run_enterLoop_outer _ _ _ _ _
 · simp only [resolve,aF]
   simp [go_sem]
 · have :=aD (#[.func (.yield<|w.heap.size+1) #[] #[]]++ad) G
   simp [invoke,go_sem,this]
 · have aj:∀ (pre:List α) (W:World) (o ak:Obj),E pre W→W.heap[w.heap.size+1]? =some o→(∀ cur e z,o≠.cells cur e z)→E pre (W.putObj (w.heap.size+1) ak):=fun pre W o ak h1 h2 h3=>
    ag _ _ _ _ h1 (l1 W _ ak) fun k hk=>⟨ab,fun cur e z h4=>by subst hk; rw [h2] at h4; exact h3 _ _ _<|rl h4⟩
   refine callsIn_wide.2 (j7 (aI (w.heap.size+1)
    (fun pre W=>E pre W∧W.heap[w.heap.size+1]? =some (.loop<|rc .ready none)∧W.heap[w.heap.size]? =some (.deferred<|some []))
    G ⟨ay,aA,az⟩ (fun pre W h=>aE pre W h.1)
    (fun pre A C h hm=>⟨ag _ _ _ _ h.1 hm (fun _ h=>h.elim),(hm.dv _ (bT.1 h.2.1).1 fun h=>h).trans h.2.1,(hm.dv _ (bT.1 h.2.2).1 fun h=>h).trans h.2.2⟩) ?_) ?_)
   · rintro pre x rest W aP ⟨hi,Y,hk⟩
     have aM:w.heap.size+1 < W.heap.size:=(bT.1 Y).1
     have ap:=run_yield (P:=P) (args:=V x) Y<|by rw [Z]; exact aN x
     rw [Z] at ap
     refine ⟨fn,_,ae,body,ap,roundIn_of_wpIn (F:=ij) trivial ?_⟩
     have aO:((ps.zip<|V x).foldl (fun tmps (p:Tmp×Value)=>tmps.setIfInBounds p.1 p.2) (act ⟨n,[],Fx,none⟩ σ).tmps)=(act ⟨n,[],[],some<|w.heap.size+1⟩<|(ps.toList.zip (V x).toList).foldl (fun s p=>c6 s p.1 p.2) σ).tmps:=by
      rw [← BZ,IQ]
      exact CO ⟨n,[],[],some<|w.heap.size+1⟩ _ σ
     have h1:=aB (w.heap.size+1) x W (fun O W'=> ∃ aq,(I8<|w.heap.size+1).run P W'= .ok () aq∧
      body.wpIn (ij.inRound<|w.heap.size+1) 0 P (roundPost P (w.heap.size+1) fun e W'=>e= .returned (.bool true)∧E (pre++ [x]) W'∧W'.heap[w.heap.size+1]? =some (.loop<|rc .ready none)∧W'.heap[w.heap.size]? =some (.deferred<|some [])) (act ⟨n,[],[],some<|w.heap.size+1⟩ O) aq) ?_
     · unfold di at h1
       have av:({tmps:=(ps.zip<|V x).foldl (fun tmps (p:Tmp×Value)=>tmps.setIfInBounds p.1 p.2) (act ⟨n,[],Fx,none⟩ σ).tmps,defers:= []} :Act)=act ⟨n,[],[],some<|w.heap.size+1⟩ ((ps.toList.zip (V x).toList).foldl (fun s p=>c6 s p.1 p.2) σ):=by rw [aO]; rfl
       rw [av]
       refine wpIn_mono h1 ?_
       intro e a w' I
       cases e with
       | normal=>obtain ⟨O,rfl,J⟩:=I; exact J
       | panic c=>obtain ⟨O,rfl,J⟩:=I; exact J O fun _ _=>rfl
       | outgrown=>exact I.elim
       | _=>obtain ⟨O,rfl,J⟩:=I; exact J
     refine ⟨_,run_beginRound Y (by rw [Z]),?_⟩
     have aL:(W.putObj (w.heap.size+1)<|.loop {rc .ready none with state:= .busy}).heap[w.heap.size+1]? =some (.loop {rc .ready none with state:= .busy}):=x7 aM
     have aJ:(W.putObj (w.heap.size+1)<|.loop {rc .ready none with state:= .busy}).heap[w.heap.size]? =some (.deferred<|some []):=(nJ ab).trans hk
     have h2:=aC (w.heap.size+1) pre x rest _ aP<|aj _ _ _ (.loop {rc .ready none with state:= .busy}) hi Y fun _ _ _ h=>by cases h
     unfold di at h2
     refine wpIn_mono h2 ?_
     intro e a aS I
     cases e with
     | normal=>
       obtain ⟨O,rfl,am,aH⟩:=I
       have ai:=am _ _ aL fun _ _ _ h=>by cases h
       have aK:=am _ _ aJ fun _ _ _ h=>by cases h
       have an:=run_endRound (P:=P) none ai
       rw [Z] at an ai ⊢
       exact ⟨_,_,an,aa,aj _ _ _ _ aH ai (fun _ _ _ h=>by cases h),x7 (bT.1 ai).1,(nJ ab).trans aK⟩
     | panic c=>obtain ⟨O,rfl,J⟩:=I; exact (J O fun _ _=>rfl).elim
     | outgrown=>exact I.elim
     | _=>obtain ⟨O,rfl,J⟩:=I; exact J.elim
   · rintro e aR ⟨⟨v,rfl⟩,hi,Y,hk⟩
     have ao:=run_endLoop (P:=P) Y<|by rw [Z]; simp
     rw [Z] at ao
     refine ⟨none,_,ao,?_⟩
     rw [Z] at Y
     exact hd w.heap.size _ (cj _) (aj _ _ _ _ hi Y fun _ _ _ h=>by cases h)<|(nJ ab).trans hk
section
variable {P:Program} {N:Fm} {ops:Array Oper} {Q:Exit→(Nat→Value)→World→Prop} {rest:List Oper} {σ:Nat→Value} {w:World} {d':Option Nat} {d:Nat} {op:Op} {ty:TypeId} {pos :String} {af:Array Edge} {v:Value}
def ou (P:Program) (N:Fm) (ops:Array Oper) (Q:Exit→(Nat→Value)→World→Prop) (l:List Oper) (σ:Nat→Value) (w:World):Prop :=wpListIn (fe N.r) 0 P ops (lift N Q) l (act N σ) w
theorem UU {id:Nat} {l:List Oper} (h:ou P N l.toArray Q l σ w):di P N (.region id l.toArray false) Q σ w:=by
 unfold di; exact wpIn_region_lit h
theorem Tz (h:Q .normal σ w):ou P N ops Q [] σ w:=⟨σ,rfl,h⟩
def AS (o:Op):Bool:=match o with | .defer _=>false | _=>true
theorem TB {o:Op} (h:AS o=true):∀ c,o≠.defer c:=fun c e=>by subst e; cases h
theorem ey (hn:AS op=true) (h:cH P N ⟨d',op,ty,pos,af,none⟩ σ w (fun σ w=>ou P N ops Q rest σ w)):ou P N ops Q (⟨d',op,ty,pos,af,none⟩::rest) σ w:=by
 unfold ou wpListIn
 rw [if_pos (jg _ rfl _)]
 refine ⟨fun f _=>vY _ f,?_⟩
 rw [zM,Jh _ _ _ (TB hn)]
 unfold cH ji at h
 generalize (execOp (act N σ).eval ⟨d',op,ty,pos,af,none⟩).run P w=x at h ⊢
 cases x with
 | ok n w'=>
   cases n <;> simp only [kr,qa] at h ⊢ <;>
    first
     | (obtain ⟨E,C,hk⟩:=h; rw [C]; exact hk)
     | (refine ⟨fun A=>(by rw [tM] at A; cases A),B8 (ET h) fun e w'' he=> ?_⟩
        cases e with
        | returned v=>obtain ⟨E,C,hk⟩:=he; simp only; rw [C]; exact hk
        | panicked c=>exact he.elim
        | outgrown=>obtain ⟨_,_,G⟩:=he; exact G.elim)
     | (refine ⟨fun A=>(by rw [tM] at A; cases A),Cp (zN h) fun v w'' he=> ?_⟩
        obtain ⟨E,C,hk⟩:=he; rw [C]; exact hk)
 | halt x w'=>cases x <;> simp only [kr] at h
theorem py (hn:AS op=true) (h:(execOp (ev N σ) ⟨some d,op,ty,pos,af,none⟩).run P w= .ok (.value v) w) (k:ou P N ops Q rest (c6 σ d v) w):ou P N ops Q (⟨some d,op,ty,pos,af,none⟩::rest) σ w:=
 ey hn (lH h k)
theorem Xk {l:Nat} {fo:Operand} {args:Array Operand} {A:Array TypeId} {L:List Value} {R:World→Prop} (J:ev N σ fo= .func (.yield l) #[] #[]) (G:args.toList.map (ev N σ)=L)
 (V:YieldAt ij 0 P l L.toArray w fun e W'=>e= .returned (.bool true)∧R W') (k:∀ W',R W'→ou P N ops Q rest (c6 σ d<|.bool true) W'):
 ou P N ops Q (⟨some d,.call ⟨.value fo,args,A⟩,ty,pos,af,none⟩::rest) σ w:=by
 obtain ⟨fn,tmps,a,b,I,E⟩:=V
 unfold ou wpListIn
 rw [if_pos (jg _ rfl _)]
 refine ⟨fun f _=>vY _ f,?_⟩
 rw [zM,Jh _ _ _ (fun c e=>by cases e),gh]
 have hm:args.map (ev N σ)=L.toArray:=by rw [← G,← lJ]
 have O:(execOp (ev N σ) ⟨some d,.call ⟨.value fo,args,A⟩,ty,pos,af,none⟩).run P w= .ok (.round l fn tmps a b) w:=by
  simp [execOp,resolve,J,pn,invoke,hm,I]
 rw [O]
 simp only [qa]
 refine ⟨fun C=>(by rw [tM] at C; cases C),?_⟩
 have h1:RoundIn (fe N.r) (0 - 1) P l fn tmps a b w fun e W'=>e= .returned (.bool true)∧R W':=by
  cases hr:N.r with
  | none=>exact E
  | some k=>exact E
 refine Cn h1 ?_
 rintro e W' ⟨rfl,hw⟩
 simp only
 rw [jl]
 exact k W' hw
end
end Go.Hb
end
section
namespace Go.Hb
def eK (P:Program) (f:FuncId) (args:Array Value) (w:World) (R:Value→World→Prop) (Pn:List PanicEntry→World→Prop):Prop :=
 Calls P f args w fun e w'=>(∃ v,e= .returned v∧R v w')∨∃ c,e= .panicked c∧Pn c w'
def EY (P:Program) (fn:Func) (N:Fm) (R:Value→World→Prop) (Pn:List PanicEntry→World→Prop):Exit→(Nat→Value)→World→Prop
 | .normal,σ,w=> ∃ v,(results fn (act N σ).tmps).run P w= .ok v w∧R v w
 | .ret,σ,w=> ∃ v,(results fn (act N σ).tmps).run P w= .ok v w∧R v w
 | .panic c,_,w=>Pn c w
 | _,_,_=>False
theorem ja {P:Program} {fn:Func} {N:Fm} {R:Value→World→Prop} {Pn:List PanicEntry→World→Prop} {e:Exit} {σ:Nat→Value} {w:World} (h:fin P fn N R e σ w):EY P fn N R Pn e σ w:=by
 cases e <;> first | exact h | exact h.elim
theorem jz {P:Program} {f:FuncId} {N:Nat} {fn:Func} {c:Code} {args:List Value} {w:World} {R:Value→World→Prop} {Pn:List PanicEntry→World→Prop} (O:P.funcs[f]? =some fn) (J:fn.body=some c)
 (I:fn.ntmps=N) (hn:mP args.length N=true) (h:di P ⟨N,[],[],none⟩ c (EY P fn ⟨N,[],[],none⟩ R Pn) (l7 args) w):eK P f args.toArray w R Pn:=by
 subst I
 refine calls_of_wp O J ?_
 rw [xn fn args [] hn]
 unfold di at h
 refine I0 ?_<|wpIn_wide.1 h
 intro e a w A
 cases e with
 | normal=>obtain ⟨σ,rfl,v,G,E⟩:=A; exact ⟨rfl,v,G,.inl ⟨v,rfl,E⟩⟩
 | ret=>obtain ⟨σ,rfl,v,G,E⟩:=A; exact ⟨rfl,v,G,.inl ⟨v,rfl,E⟩⟩
 | exit id=>obtain ⟨σ,rfl,C⟩:=A; exact C.elim
 | goto l=>obtain ⟨σ,rfl,C⟩:=A; exact C.elim
 | panic c=>obtain ⟨σ,rfl,C⟩:=A; exact ⟨rfl,.inr ⟨c,rfl,C σ fun _ _=>rfl⟩⟩
 | outgrown=>exact A.elim
section
variable {P:Program} {N:Fm} {Q:Exit→(Nat→Value)→World→Prop} {σ:Nat→Value} {w:World} {ops:Array Oper} {rest:List Oper} {dst:Option Nat} {ty:TypeId} {pos :String} {af:Array Edge} {g:Option (Nat×Bool)} {x:Operand}
def ov (P:Program) (N:Fm) (o:Oper) (σ:Nat→Value) (w:World) (K:(Nat→Value)→World→Prop) (Pn:List PanicEntry→World→Prop):Prop :=
 ji P o (act N σ) w (fun a w=> ∃ σ,a=act N σ∧K σ w) (fun e a w=>match e with | .panic c=>a=act N σ∧Pn c w | _=>False)
theorem xO {o:Oper} {K:(Nat→Value)→World→Prop} {Pn:List PanicEntry→World→Prop} {A:Act→World→Prop} (h:ov P N o σ w K Pn) (hk:∀ σ w,K σ w→A (act N σ) w) (hp:∀ c w',Pn c w'→∀ G,(∀ i∈N.F,G i=σ i)→Q (.panic c) G w'):o.wp P (act N σ) w A (lift N Q):=by
 unfold ov at h
 unfold ji at*
 generalize (execOp (act N σ).eval o).run P w=r at h ⊢
 have C:∀ a w,(∃ σ,a=act N σ∧K σ w)→A a w:=by rintro a w ⟨σ,rfl,h⟩; exact hk _ _ h
 have E:∀ c (a:Act) w',(a=act N σ∧Pn c w')→lift N Q (.panic c) a w':=by rintro c a w' ⟨rfl,h⟩; exact ⟨σ,rfl,hp c w' h⟩
 cases r with
 | ok n w'=>
   cases n <;> simp only [kr] at h ⊢ <;>
    first
     | exact C _ _ h
     | exact j7 h (fun e w'' he=>by
      cases e with
      | returned v=>exact C _ _ he
      | panicked c=>exact E _ _ _ ⟨rfl,he.2⟩
      | outgrown=>obtain ⟨_,_,I⟩:=he; exact I.elim)
     | exact Co h fun _ _ he=>C _ _ he
 | halt x w'=>cases x <;> simp only [kr] at h ⊢ <;> exact E _ _ _ ⟨rfl,h.2⟩
theorem dj {f:FuncId} {args:Array Operand} {A:Array TypeId} {L:List Value} {R:Value→World→Prop} {Pn:List PanicEntry→World→Prop} {K:(Nat→Value)→World→Prop} (I:bd P f) (J:eK P f L.toArray w R Pn) (C:args.toList.map (ev N σ)=L)
 (k:∀ v w',R v w'→K (fq σ dst v) w'):ov P N ⟨dst,.call ⟨.value (.func f),args,A⟩,ty,pos,af,g⟩ σ w K Pn:=by
 unfold ov ji
 have hm:args.map (ev N σ)=L.toArray:=by rw [← C,← lJ]
 have O:(execOp (ev N σ) ⟨dst,.call ⟨.value (.func f),args,A⟩,ty,pos,af,g⟩).run P w= .ok (.enter f L.toArray) w:=by
  have h2:=I L.toArray w
  simp [execOp,resolve,ev,pn,invoke,hm,h2]
 rw [gh,O]
 simp only [kr]
 refine j7 J ?_
 rintro e w' (⟨v,rfl,G⟩ | ⟨c,rfl,E⟩)
 · exact ⟨_,jl ..,k v w' G⟩
 · exact ⟨trivial,E⟩
theorem Ix {f:FuncId} {fo:Operand} {first cap:Array Value} {args:Array Operand} {A:Array TypeId} {L:List Value} {R:Value→World→Prop} {Pn:List PanicEntry→World→Prop} {K:(Nat→Value)→World→Prop} (I:bd P f) (O:ev N σ fo= .func (.func f) first cap) (J:eK P f L.toArray w R Pn) (C:first.toList++args.toList.map (ev N σ)++cap.toList=L)
 (k:∀ v w',R v w'→K (fq σ dst v) w'):ov P N ⟨dst,.call ⟨.value fo,args,A⟩,ty,pos,af,g⟩ σ w K Pn:=by
 unfold ov ji
 have hm:first++args.map (ev N σ)++cap=L.toArray:=by rw [← C]; simp
 have V:(execOp (ev N σ) ⟨dst,.call ⟨.value fo,args,A⟩,ty,pos,af,g⟩).run P w= .ok (.enter f L.toArray) w:=by
  have h2:=I L.toArray w
  simp only [execOp,resolve,O,pn,invoke]
  simp [hm,h2]
 rw [gh,V]
 simp only [kr]
 refine j7 J ?_
 rintro e w' (⟨v,rfl,G⟩ | ⟨c,rfl,E⟩)
 · exact ⟨_,jl ..,k v w' G⟩
 · exact ⟨trivial,E⟩
theorem eP {o:Oper} {Pn:List PanicEntry→World→Prop} (C:o.guard=none) (h:ov P N o σ w (fun σ w=>dX P N ops Q rest σ w) Pn) (hp:∀ c w',Pn c w'→∀ A,(∀ i∈N.F,A i=σ i)→Q (.panic c) A w'):dX P N ops Q (o::rest) σ w:=by
 unfold dX wpList
 rw [if_pos (jg o C _)]
 refine .inl<|xO h (fun σ w hk=> ?_) hp
 unfold dX at hk; exact hk
theorem Uo {t:TypeId} {v:Value} (C:ev N σ x= .iface t v) (hp:∀ c,(∀ i∈N.F,c i=σ i)→Q (.panic [{v:= .iface t v,recovered:=false}]) c w):dX P N ops Q (⟨dst,.panic x,ty,pos,af,none⟩::rest) σ w:=by
 unfold dX wpList
 rw [if_pos (jg _ rfl _)]
 refine .inl ?_
 unfold ji
 have A:(execOp (ev N σ) ⟨dst,.panic x,ty,pos,af,none⟩).run P w= .halt (.panic<|.iface t v) w:=by
  simp [execOp,C,Instr.panic]
 rw [gh,A]
 exact ⟨σ,aa,hp⟩
theorem Tk {t:TypeId} {d:TypeDesc} {v:Value} (hu:P.underlying t=some d) (hd:(match d with | .interface _=>false | _=>true)=true) (c:ev N σ x=v):(execOp (ev N σ) ⟨dst,.makeInterface t x,ty,pos,af,g⟩).run P w= .ok (.value<|.iface t v) w:=by
 cases d <;> first | (cases hd; done) | simp [execOp,Instr.makeInterface,c,db hu]
def qJ (P:Program) (t:TypeId):Bool:=match P.underlying t with | some (.interface _)=>false | some _=>true | none=>false
theorem Tl {t:TypeId} {v:Value} (h:qJ P t=true) (c:ev N σ x=v):(execOp (ev N σ) ⟨dst,.makeInterface t x,ty,pos,af,g⟩).run P w= .ok (.value<|.iface t v) w:=by
 unfold qJ at h
 cases hd:P.underlying t with
 | none=>rw [hd] at h; cases h
 | some d=>rw [hd] at h; exact Tk hd (by cases d <;> first | rfl | cases h) c
theorem V9 {xt a:TypeId} {zv:Value} (hu:qJ P a=true) (A:zeroV P a=some zv) (c:ev N σ x= .nilIface):(execOp (ev N σ) ⟨dst,.typeAssert x xt a true,ty,pos,af,g⟩).run P w= .ok (.value<|.tuple #[zv,.bool false]) w:=by
 unfold qJ at hu
 cases hd:P.underlying a with
 | none=>rw [hd] at hu; cases hu
 | some d=>rw [hd] at hu; cases d <;> first | (cases hu; done) | simp [execOp,Je,c,db hd,uJ A]
theorem V8 {xt a:TypeId} {v:Value} (hu:qJ P a=true) (c:ev N σ x= .iface a v):(execOp (ev N σ) ⟨dst,.typeAssert x xt a true,ty,pos,af,g⟩).run P w= .ok (.value<|.tuple #[v,.bool true]) w:=by
 unfold qJ at hu
 cases hd:P.underlying a with
 | none=>rw [hd] at hu; cases hu
 | some d=>rw [hd] at hu; cases d <;> first | (cases hu; done) | simp [execOp,Je,c,db hd]
variable {S:World→Prop} {fuel:Nat} {aW:Array Bool}
theorem r7 {o:Oper} {Pn:List PanicEntry→World→Prop} (i:Nat) (hi:ops[i]? =some o) (E:kM ops aW i=true) (C:o.guard=none)
 (h:ov P N o σ w (fun σ w=>S w∧fK P N ops Q S fuel (aW.setIfInBounds i true) σ w) Pn) (hp:∀ c w',Pn c w'→∀ A,(∀ i∈N.F,A i=σ i)→Q (.panic c) A w'):fK P N ops Q S (fuel+1) aW σ w:=by
 unfold fK at*
 refine wpAnyH_all (rs:= [i]) (by simpa [kM] using E) (by simp) ?_
 intro k hk
 obtain rfl :k=i:=by simpa using hk
 unfold wpOp
 simp only [hi]
 rw [if_pos (jg _ C _)]
 exact .inl<|xO h (fun σ w hk=>hk) hp
end
section
variable {P:Program} {N:Fm} {Q:Exit→(Nat→Value)→World→Prop} {σ:Nat→Value} {w:World} {ops:Array Oper} {S:World→Prop} {fuel:Nat} {aW:Array Bool}
theorem Rv {o A:Oper} {Pn:List PanicEntry→World→Prop} (i j:Nat) (hi:ops[i]? =some o) (I:ops[j]? =some A) (J:((iF .any ops aW)== [i,j])=true) (E:o.guard=none) (G:A.guard=none)
 (h:ov P N o σ w (fun σ w=>S w∧fK P N ops Q S fuel (aW.setIfInBounds i true) σ w) Pn) (hp:∀ c w',Pn c w'→∀ C,(∀ i∈N.F,C i=σ i)→Q (.panic c) C w')
 (h1:cH P N A σ w (fun σ w=>S w∧fK P N ops Q S fuel (aW.setIfInBounds j true) σ w)):fK P N ops Q S (fuel+1) aW σ w:=by
 unfold fK at*
 refine wpAnyH_all (rs:= [i,j]) (by simpa using J) (by simp) ?_
 intro k hk
 simp only [ew,ym,or_false] at hk
 rcases hk with rfl | rfl
 · unfold wpOp
   simp only [hi]
   rw [if_pos (jg _ E _)]
   exact .inl<|xO h (fun _ _ hk=>hk) hp
 · unfold wpOp
   simp only [I]
   rw [if_pos (jg _ G _)]
   exact .inl<|sE h1 fun _ _ hk=>hk
end
section
variable {P:Program} {N:Fm} {Q:Exit→(Nat→Value)→World→Prop} {σ:Nat→Value} {w:World} {ops:Array Oper} {S:World→Prop} {fuel r:Nat} {aW:Array Bool}
theorem Gh {o:Oper} {Pn:List PanicEntry→World→Prop} (i:Nat) (hi:ops[i]? =some o) (I:kM ops aW i=true) (G:o.guard=none)
 (h:ov P N o σ w (fun σ w=>S w∧gG P N ops Q S r fuel (aW.setIfInBounds i true) σ w) Pn) (hp:∀ c w',Pn c w'→∀ C,(∀ i∈N.F,C i=σ i)→Q (.panic c) C w'):gG P N ops Q S r (fuel+1) aW σ w:=by
 unfold gG at*
 have A:iF .any ops aW= [i]:=by simpa [kM] using I
 refine ⟨fun E=>absurd (A ▸ E) (by simp),fun k hk=> ?_⟩
 rw [A] at hk
 obtain rfl :k=i:=by simpa using hk
 unfold wpOp
 simp only [hi]
 rw [if_pos (jg _ G _)]
 exact .inl<|xO h (fun σ w hk=>⟨fun _=>hk.1,hk.2⟩) hp
end
abbrev pD (P:Program) (fn:Func) (R:Value→World→Prop):Exit→Act→World→Prop :=bodyPostD P fn (fun e w'=> ∃ v,e= .returned v∧R v w')
theorem PR {P:Program} {f:FuncId} {N:Nat} {fn:Func} {c:Code} {args:List Value} {w:World} {R:Value→World→Prop} (F:List Nat) (E:P.funcs[f]? =some fn) (C:fn.body=some c)
 (A:fn.ntmps=N) (hn:mP args.length N=true) (h:nA P ⟨N,[],F,none⟩ c (pD P fn R) (l7 args) w):bf P f args.toArray w R:=by
 subst A
 refine calls_of_wp_defers E C ?_
 rw [xn fn args F hn]
 exact wpIn_wide.1 h
section
variable {P:Program} {n:Nat} {D:List Deferred} {F:List Nat} {σ:Nat→Value} {w:World} {fn:Func} {R:Value→World→Prop} {B:Exit→Act→World→Prop}
theorem Qc {v:Value} (A:(results fn (act ⟨n,[],F,none⟩ σ).tmps).run P w= .ok v w) (c:R v w):qb ⟨n,[],F,none⟩ (pD P fn R) .ret σ w:=⟨v,A,v,rfl,c⟩
theorem SD:¬LetsOut (pD P fn R):=fun ⟨_,_,h⟩=>by obtain ⟨v,h,_⟩:=h; cases h
theorem Pg {id d:Nat} {f:FuncId} (O:¬LetsOut B) {cs:Array Operand} {I J:TypeId} {E G:String} {A C:Array Edge} {y:Code} (c:Array Value) (Y:cs.toList.map (ev ⟨n,[],F,none⟩ σ)=c.toList) (hd:d < n)
 (h:nA P ⟨n,[{target:= .fn (.func f) c,args:= #[]}],F,none⟩ y B (c6 σ d<|.func (.func f) #[] c) w):
 nA P ⟨n,[],F,none⟩ (.region id #[⟨some d,.makeFunc (.func f) #[] cs,I,E,A,none⟩,⟨none,.defer ⟨.value (.tmp d),#[],#[]⟩,J,G,C,none⟩] false) (Exit.then (y.wpIn (fe none) 0 P B) B) σ w:=by
 have Z:cs.map (ev ⟨n,[],F,none⟩ σ)=c:=xV.1<|by rw [lJ]; exact Y
 refine wpIn_region ?_
 have V:¬LetsOut (Exit.then (y.wpIn (fe none) 0 P B) B):=fun ⟨a,w,h⟩=>O ⟨a,w,h⟩
 refine Ao (r:=none) V aa _ _ _ ?_
 show wpOps P _ _ [0,1] _ _
 simp only [wpOps,JE,yh,List.getElem?_cons_succ]
 rw [if_pos (jg _ rfl _)]
 refine .inl ?_
 unfold ji
 have h1:(execOp (act ⟨n,[],F,none⟩ σ).eval ⟨some d,.makeFunc (.func f) #[] cs,I,E,A,none⟩).run P w= .ok (.value<|.func (.func f) #[] c) w:=by
  rw [gh,mf,Z]; simp
 rw [h1]
 simp only [kr]
 rw [if_pos (jg _ rfl _),jl]
 refine .inl ?_
 have h2:(execOp (act ⟨n,[],F,none⟩<|fq σ (some d)<|.func (.func f) #[] c).eval ⟨none,.defer ⟨.value (.tmp d),#[],#[]⟩,J,G,C,none⟩).run P w= .ok (.defer {target:= .fn (.func f) c,args:= #[]}) w:=by
  have ab:ev ⟨n,[],F,none⟩ (c6 σ d<|.func (.func f) #[] c) (.tmp d)= .func (.func f) #[] c:=by
   show cond (fV d n) (c6 σ d _ d) undef=_
   rw [show fV d n=true from by simpa using hd]
   show c6 σ d _ d=_
   unfold c6; simp
  rw [gh]
  show (execOp (ev ⟨n,[],F,none⟩<|c6 σ d<|.func (.func f) #[] c) _).run P w=_
  simp [execOp,resolve,ab,pn]
 rw [h2]
 exact h
end
theorem TR {P:Program} {ops:Array Oper} {Q:Exit→Act→List Frame→World→Prop} {cs:List Frame} (A:¬LetsOut fun e a w=>Q e a cs w):∀ (l:List Nat) (a:Act) (w:World),wpOps P ops (fun e a w=>Q e a cs w) l a w→wpOpsS P ops Q l a cs w:=by
 intro l
 induction l with
 | nil=>exact fun _ _ h=>h
 | cons i l c=>
   intro a w h
   simp only [wpOps] at h
   simp only [wpOpsS]
   cases ho:ops[i]? with
   | none=>simp only [ho] at h ⊢; exact c a w h
   | some o=>
     simp only [ho] at h ⊢
     by_cases hw:Region.wanted o (yielded ops a.tmps)=true
     · rw [if_pos hw] at h ⊢
       rcases h with h | h
       · unfold ji at h
         generalize (execOp a.eval o).run P w=x at h
         cases x with
         | ok n w'=>
           cases n <;> simp only [kr] at h ⊢ <;>
            first
             | exact c _ _ h
             | exact j7 h fun e w'' he=>by cases e <;> first | exact c _ _ he | exact he
             | exact Co h fun v w'' he=>c _ _ he
         | halt x w'=>cases x <;> simp only [kr] at h ⊢ <;> exact h
       · exact absurd h.2 A
     · rw [if_neg hw] at h ⊢
       exact c _ _ h
theorem SG {P:Program} {ops:Array Oper} {Q E:Exit→Act→World→Prop} (C:∀ e a w,Q e a w→E e a w) (G:¬LetsOut Q):∀ (l:List Oper) (a:Act) (w:World),wpList P ops Q l a w→wpList P ops E l a w:=by
 intro l
 induction l with
 | nil=>exact fun _ _ h=>C _ _ _ h
 | cons o l A=>
   intro a w h
   unfold wpList at h ⊢
   split at h
   · rename_i hw
     rw [if_pos hw]
     rcases h with h | h
     · left
       unfold ji at h ⊢
       generalize (execOp a.eval o).run P w=x at h
       cases x with
       | ok n w'=>
         cases n <;> simp only [kr] at h ⊢ <;>
          first
           | exact A _ _ h
           | exact j7 h (fun e w'' he=>by
            cases e with
            | returned v=>exact A _ _ he
            | panicked c=>exact C _ _ _ he
            | outgrown=>exact absurd he G)
           | exact Co h fun v w'' he=>A _ _ he
       | halt x w'=>cases x <;> simp only [kr] at h ⊢ <;> exact C _ _ _ h
     · exact absurd h.2 G
   · rename_i hw
     rw [if_neg hw]; exact A _ _ h
theorem D1 {P:Program} {f:FuncId} {fn:Func} {id N d:Nat} {ty:TypeId} {pos :String} {af:Array Edge} {rest:List Oper} {y:Code} {args:List Value} {w:World} {u G:FrameMode} {v:Value} {R:World→Prop}
 (ag:P.funcs[f]? =some fn) (ad:fn.body=some (.seq (.region id (⟨some d,.call ⟨.builtin .recover,#[],#[]⟩,ty,pos,af,none⟩::rest).toArray false) y)) (ac:fn.ntmps=N) (hn:mP args.length N=true)
 (ah:∀ (C:Frame) (cs:List Frame),C.mode=u→(recoverD (C::cs)=some (v,{C with mode:=G} ::cs))∨(recoverD (C::cs)=none∧v= .nilIface∧G=u))
 (h:dX P ⟨N,[],[],none⟩ (⟨some d,.call ⟨.builtin .recover,#[],#[]⟩,ty,pos,af,none⟩::rest).toArray (k9 (fun σ w=>di P ⟨N,[],[],none⟩ y (fin P fn ⟨N,[],[],none⟩ fun _ w=>R w) σ w)<|fin P fn ⟨N,[],[],none⟩ fun _ w=>R w) rest (c6 (l7 args) d v) w):
 CallsD P f args.toArray u w fun e I w'=> ∃ v,e= .returned v∧I=G∧R w':=by
 subst ac
 refine callsD_of_wpS ag ad ?_
 intro C cs hu
 rw [xn fn args [] hn]
 refine wpS_seq<|wpS_region ?_
 have ai:fM (⟨some d,.call ⟨.builtin .recover,#[],#[]⟩,ty,pos,af,none⟩::rest).toArray.size=0::(List.range' 1 rest.length):=by
  rw [nR,bS,List.range_eq_range',List.range'_succ]
 rw [ai]
 simp only [wpOpsS,JE,yh]
 rw [if_pos (jg _ rfl _)]
 have aj:(execOp (act ⟨fn.ntmps,[],[],none⟩<|l7 args).eval ⟨some d,.call ⟨.builtin .recover,#[],#[]⟩,ty,pos,af,none⟩).run P w= .ok .recover w:=by
  rw [gh]
  simp [execOp,resolve,invoke,builtin]
 rw [aj]
 simp only
 obtain ⟨J,O⟩:∃ J,J=({C with mode:=G} ::cs:List Frame):=⟨_,rfl⟩
 have ae:∀ X:Act→List Frame→Prop,X ((act ⟨fn.ntmps,[],[],none⟩<|l7 args).put (some d) v) J→
  (match recoverD (C::cs) with
   | some (v,V)=>X ((act ⟨fn.ntmps,[],[],none⟩<|l7 args).put (some d) v) V
   | none=>X ((act ⟨fn.ntmps,[],[],none⟩<|l7 args).put (some d) .nilIface) (C::cs)):=by
  intro X aa
  rcases ah C cs hu with h1 | ⟨h1,h2,h3⟩
  rw [h1]; subst O; exact aa
  rw [h1]; subst h2 h3
  have :({C with mode:=G} :Frame)=C:=by subst hu; rfl
  rw [this] at O; subst O; exact aa
 refine ae (fun a V=>wpOpsS P _ _ _ a V w) ?_
 rw [jl]
 refine TR ?_ _ _ _ ?_
 rintro ⟨a,w,h⟩
 simp only [Exit.thenS,bodyPostS] at h
 obtain ⟨_,_,h,_⟩:=h; cases h
 have h1:=wpOps_eq_wpList (P:=P) (ops:=(⟨some d,.call ⟨.builtin .recover,#[],#[]⟩,ty,pos,af,none⟩::rest).toArray) (Q:=fun e a w'=>Exit.thenS (Code.wpS P y (bodyPostS P fn C cs fun e I w'=> ∃ v,e= .returned v∧I=G∧R w')) (bodyPostS P fn C cs fun e I w'=> ∃ v,e= .returned v∧I=G∧R w') e a J w') rest 1 fun j=>by simp [Nat.add_comm]
 rw [h1]
 unfold dX at h
 refine SG ?_ AB _ _ _ h
 intro e a w' E
 have ab:∀ (e:Exit) (σ:Nat→Value) (w':World),fin P fn ⟨fn.ntmps,[],[],none⟩ (fun _ w=>R w) e σ w'→bodyPostS P fn C cs (fun e I w'=> ∃ v,e= .returned v∧I=G∧R w') e (act ⟨fn.ntmps,[],[],none⟩ σ) J w':=by
  intro e σ w' A
  cases e with
  | normal=>obtain ⟨v,Z,Y⟩:=A; exact ⟨rfl,G,O,v,Z,v,rfl,rfl,Y⟩
  | ret=>obtain ⟨v,Z,Y⟩:=A; exact ⟨rfl,G,O,v,Z,v,rfl,rfl,Y⟩
  | _=>exact A.elim
 cases e with
 | normal=>
   obtain ⟨σ,rfl,A⟩:=E
   refine wpS_of_wp ?_
   simp only [k9] at A
   unfold di at A
   refine I0 ?_<|wpIn_wide.1 A
   intro e a w' E
   cases e with
   | panic c=>obtain ⟨σ,rfl,A⟩:=E; exact (A σ fun _ _=>rfl).elim
   | outgrown=>exact E.elim
   | _=>obtain ⟨σ,rfl,A⟩:=E; exact ab _ σ w' A
 | panic c=>obtain ⟨σ,rfl,A⟩:=E; exact (A σ fun _ _=>rfl).elim
 | outgrown=>exact E.elim
 | ret=>obtain ⟨σ,rfl,A⟩:=E; exact ab .ret σ w' A
 | exit i=>obtain ⟨σ,rfl,A⟩:=E; exact A.elim
 | goto i=>obtain ⟨σ,rfl,A⟩:=E; exact A.elim
section
variable {P:Program} {n:Nat} {F:List Nat} {σ:Nat→Value} {w:World} {fn:Func} {R:Value→World→Prop}
theorem Qd {g:FuncId} {c:Array Value} {M:World→Prop} (hu:(invoke (.fn (.func g) c) #[]).run P w= .ok (.enter g c) w)
 (C:CallsD P g c .returning w fun e E w'=> ∃ v,e= .returned v∧E= .returning∧M w') (A:∀ w',M w'→∃ v,(results fn (act ⟨n,[{target:= .fn (.func g) c,args:= #[]}],F,none⟩ σ).tmps).run P w'= .ok v w'∧R v w'):
 qb ⟨n,[{target:= .fn (.func g) c,args:= #[]}],F,none⟩ (pD P fn R) .ret σ w:=by
 refine leaves_cons (by simp) hu ?_
 refine IZ C ?_
 rintro e G w' ⟨v,rfl,rfl,hm⟩
 obtain ⟨v2,h1,h2⟩:=A w' hm
 exact ⟨v2,h1,v2,aa,h2⟩
theorem Qe {g:FuncId} {c:Array Value} {M:World→Prop} {v:Value} (hu:(invoke (.fn (.func g) c) #[]).run P w= .ok (.enter g c) w)
 (C:CallsD P g c (.panicking [{v:=v,recovered:=false}]) w fun e E w'=> ∃ x,e= .returned x∧E= .panicking [{v:=v,recovered:=true}]∧M w') (A:∀ w',M w'→∃ v,(results fn (act ⟨n,[{target:= .fn (.func g) c,args:= #[]}],F,none⟩ σ).tmps).run P w'= .ok v w'∧R v w'):
 qb ⟨n,[{target:= .fn (.func g) c,args:= #[]}],F,none⟩ (pD P fn R) (.panic [{v:=v,recovered:=false}]) σ w:=by
 refine leaves_cons (by simp) hu ?_
 refine IZ C ?_
 rintro e G w' ⟨x,rfl,rfl,hm⟩
 obtain ⟨v2,h1,h2⟩:=A w' hm
 exact ⟨v2,h1,v2,aa,h2⟩
end
end Go.Hb
end
section
namespace Go.Hb
def lN (w:World) (B e n:Nat) (v:Value) (xs:List Value):Prop :=
 ∃ a cp,v= .slice a n cp∧n≤cp∧(xs= []∨∃ b o cur z,a=some ⟨b,o,none⟩∧B≤b∧w.heap[b]? =some (.cells cur e z)∧∀ (j:Nat) u,xs[j]? =some u→cur[o+j]? =some u)
theorem Tg.Wm {w:World} {B e n:Nat} {v:Value} {xs:List Value} (h:Tg w B e n v xs):lN w B e n v xs:=by
 obtain ⟨a,cp,rfl,E,c⟩:=h
 refine ⟨a,cp,aa,E,c.imp id ?_⟩
 rintro ⟨b,cur,z,A,C,G,c⟩
 exact ⟨b,0,cur,z,A,C,G,fun j u hu=>by rw [Nat.zero_add]; exact c j u hu⟩
theorem lN.cells {w:World} {B e n cp:Nat} {a:Option Addr} {xs:List Value} (h:lN w B e n (.slice a n cp) xs):n≤cp∧aG w.heap a xs:=by
 obtain ⟨G,I,E,A,c⟩:=h
 cases E
 rcases c with h | ⟨b,o,cur,z,rfl,_,C,c⟩
 · subst h; exact ⟨A,aG.nil _ _⟩
 · refine ⟨A,fun _=>rfl,fun j u hu=> ?_⟩
   show Hb.aJ w.heap b (o+j)=_
   rw [aV C]; exact c j u hu
theorem lN.slice {w:World} {B e n:Nat} {v:Value} {xs:List Value} (h:lN w B e n v xs):∃ a cp,v= .slice a n cp:=let ⟨a,cp,hv,_⟩:=h; ⟨a,cp,hv⟩
theorem lN.md {F:Nat→Prop} {w w':World} {B e n:Nat} {v:Value} {xs:List Value} (h:lN w B e n v xs) (hm:Md F w w') (C:∀ k,F k→∀ cur z,w.heap[k]?≠some (.cells cur e z)):lN w' B e n v xs:=by
 obtain ⟨a,cp,rfl,A,h | ⟨b,o,cur,z,rfl,E,c,G⟩⟩:=h
 · exact ⟨a,cp,aa,A,.inl h⟩
 · exact ⟨_,cp,aa,A,.inr ⟨b,o,cur,z,aa,E,by rw [hm.dv b (bT.1 c).1 (fun hk=>C b hk cur z c)]; exact c,G⟩⟩
theorem lN.rT {w:World} {B e n m cp:Nat} {a:Option Addr} {xs:List Value} (h:lN w B e (n+1) (.slice a (n+1) cp) xs) (G:xs.length=(n+1)*m):lN w B e n (.slice (fD a cp 1 m) n<|cp - 1) (xs.drop m):=by
 obtain ⟨J,O,E,V,C⟩:=h
 cases E
 refine ⟨_,_,aa,ab,?_⟩
 rcases C with rfl | ⟨b,o,cur,z,rfl,c,A,I⟩
 · exact .inl<|by simp
 · unfold fD
   by_cases h1:cp=1
   · refine .inl<|gq ?_
     obtain rfl :n=0:=ab
     rw [gI,G]; omega
   · rw [if_neg h1]
     refine .inr ⟨b,o+1 *m,cur,z,?_,c,A,fun j u hu=> ?_⟩
     · rw [ky,lO]
     · rw [List.getElem?_drop] at hu
       have :=I _ u hu
       rw [show o+1 *m+j=o+(m+j) from by omega]; exact this
def dH (w:World) (B e:Nat) (vs:List Value) (c:List (List Nat)):Prop :=vs.length=c.length∧∀ (i:Nat) v l,vs[i]? =some v→c[i]? =some l→Tg w B e l.length v (l.map aX)
theorem dH.nil (w:World) (B e:Nat):dH w B e [] []:=⟨rfl,fun i v l c=>by simp at c⟩
theorem dH.md {F:Nat→Prop} {w w':World} {B e:Nat} {vs:List Value} {c:List (List Nat)} (h:dH w B e vs c) (hm:Md F w w') (A:∀ k,F k→∀ cur z,w.heap[k]?≠some (.cells cur e z)):dH w' B e vs c:=⟨h.1,fun i v l h1 h2=>(h.2 i v l h1 h2).md hm A⟩
theorem dH.wk {w w':World} {B e:Nat} {vs:List Value} {c:List (List Nat)} (h:dH w B e vs c) (hm:Wk w w'):dH w' B e vs c:=h.md hm fun _ hk=>hk.elim
theorem dH.mono {w:World} {B B' e:Nat} {vs:List Value} {c:List (List Nat)} (h:dH w B e vs c) (A:B'≤B):dH w B' e vs c:=⟨h.1,fun i v l h1 h2=>(h.2 i v l h1 h2).mono A⟩
theorem dH.snoc {w:World} {B e:Nat} {vs:List Value} {A:List (List Nat)} {v:Value} {l:List Nat} (c:dH w B e vs A) (E:Tg w B e l.length v (l.map aX)):dH w B e (vs++ [v]) (A++ [l]):=by
 refine ⟨by rw [bJ,bJ,c.1]; rfl,fun i G I h1 h2=> ?_⟩
 have C:=c.1
 by_cases hi:i < vs.length
 · rw [mK hi] at h1
   rw [mK ab] at h2
   exact c.2 i G I h1 h2
 · rw [nK ab] at h1
   rw [nK ab,← C] at h2
   cases hj:i - vs.length with
   | zero=>rw [hj] at h1 h2; cases h1; cases h2; exact E
   | succ j=>rw [hj] at h1; simp at h1
def ir (t ln:Nat) (e:Int):List PanicEntry:= [{v:= .iface t (.agg [.int .i64 1,.int .i64 (ln:Nat),.int .i64 e].toArray),recovered:=false}]
theorem dN {h:World} {b:Nat} {isK:Value→Prop} {f:Value→Option Value} (hm:bQ h.heap b isK f):tag h b=1:=let ⟨_,h1,_⟩:=hm; xC h1
def Wr (L:List Nat) (ms mt mc B:Nat) (w:World) (k:Nat):Prop :=B≤k∧(k=ms∨k=mt∨k=mc∨L.contains (tag w k)=true)
abbrev Mw (L:List Nat) (ms mt mc B:Nat) (w w':World):Prop :=Md (Wr L ms mt mc B w) w w'
section
variable {L:List Nat} {ms mt mc B:Nat} {w w' w'':World}
theorem Mw.trans (h:Mw L ms mt mc B w w') (c:Mw L ms mt mc B w' w''):Mw L ms mt mc B w w'':=by
 refine Md.trans' h c fun k hk hw=> ?_
 refine Classical.byContradiction fun hn=> ?_
 have :=Md.tag h hk hn
 unfold Wr at hw
 rw [this] at hw
 exact hn hw
theorem Wk.mw (h:Wk w w'):Mw L ms mt mc B w w':=h.mono fun _ _ c=>c.elim
theorem Mw.of {F:Nat→Prop} (h:Md F w w') (C:TF w L F) (A:∀ k,F k→B≤k):Mw L ms mt mc B w w':=h.mono fun k _ c=>⟨A k c,.inr<|.inr<|.inr<|C k c⟩
theorem Mw.wk {w0:World} (c:Wk w0 w) (h:Mw L ms mt mc B w w') (A:w0.heap.size≤B):Wk w0 w':=Md.trans' c h fun k hk hw=>by have :=hw.1; omega
theorem Wr.ne (hs:tag w ms=1) (G:tag w mt=1) (E:tag w mc=1) {e:Nat} (C:L.contains (e+2)=false):∀ k,Wr L ms mt mc B w k→∀ cur z,w.heap[k]?≠some (.cells cur e z):=by
 rintro k ⟨_,rfl | rfl | rfl | h⟩ cur z A <;> have c:=dD A
 · omega
 · omega
 · omega
 · rw [c,C] at h; cases h
end
end Go.Hb
end
section
namespace Go.Hb
section
variable {P:Program} {N:Fm} {σ:Nat→Value} {w:World} {dst:Option Nat} {ty:TypeId} {pos :String} {af:Array Edge} {g:Option (Nat×Bool)} {x y:Operand}
theorem P3 (d:Nat) {t e:TypeId} {a:Option Addr} {n c:Nat} (hu:P.underlying t=some (.slice e)):(Op.equalIn (d+1) t (.slice a n c)<|.slice none 0 0).run P w= .ok a.isNone w:=by
 cases a <;> simp [Op.equalIn,db hu]
theorem P4 {t e:TypeId} {a:Option Addr} {n c:Nat} (hu:P.underlying t=some (.slice e)):(Op.equal t (.slice a n c)<|.slice none 0 0).run P w= .ok a.isNone w:=P3 9999 hu
theorem pN {t E e:TypeId} {a:Option Addr} {n c:Nat} (hu:P.underlying t=some (.slice e)) (A:ev N σ x= .slice a n c) (C:ev N σ y= .slice none 0 0):
 (execOp (ev N σ) ⟨dst,.binOp .eql t x y E,ty,pos,af,g⟩).run P w= .ok (.value<|.bool a.isNone) w:=by
 have h:(binOp .eql t (.slice a n c)<|.slice none 0 0).run P w= .ok (.bool a.isNone) w:=by
  simp only [binOp]; simp [P4 hu]
 simp [execOp,A,C,eqGuard,h]
end
def Rd (h:Array Obj) (v:Value) (n size:Nat) (xs:List Value):Prop := ∃ a c,v= .slice a n c∧aG h a xs∧xs.length=n*size∧(a=none→n=0)
theorem Rd.kL {w:World} {B e size n:Nat} {v:Value} {xs:List Value} (h:w.ownsRow B e size v n xs):Rd w.heap v n size xs:=by
 obtain ⟨a,c,rfl,h1,_,_,h3⟩:=si h
 refine ⟨a,c,aa,h1,h.1,fun A=> ?_⟩
 subst A
 rcases h.2 with ⟨h4,h5⟩ | ⟨g,cap,cur,h4,_⟩
 · exact h5
 · simp at h4
theorem G4 {w:World} {B e size n k cp:Nat} {a:Option Addr} {xs:List Value} (h:w.ownsRow B e size (.slice a n cp) n xs) (hk:k≤n) (E:a≠none):w.ownsRow B e size (.slice a k cp) k (xs.take<|k*size):=by
 obtain ⟨c,h⟩:=h
 refine ⟨by rw [eE,c]; exact oC (oD _ hk),?_⟩
 rcases h with ⟨h1,_⟩ | ⟨g,cap,cur,h1,h2,h3,h4,h5,A,C⟩
 · simp only [ma] at h1; exact absurd h1.1 E
 · simp only [ma,true_and] at h1
   obtain ⟨rfl,rfl⟩:=h1
   refine .inr ⟨g,_,cur,aa,h2,h3,ab,h5,A,?_⟩
   rw [← C,JS,oC (oD _ hk)]
section
variable {P:Program} {N:Fm} {σ:Nat→Value} {w:World} {dst:Option Nat} {ty:TypeId} {pos :String} {af:Array Edge} {g:Option (Nat×Bool)} {x y z u:Operand} {K:(Nat→Value)→World→Prop}
theorem Vs {t n len cap:Nat} {a:Option Addr} {k E G:IntKind} {i j m:Nat} (he:gN P t=some n) (c:ev N σ x= .slice a len cap) (A:ev N σ y= .int k (i:Nat)) (C:ev N σ z= .int E (j:Nat)) (hu:ev N σ u= .int G (m:Nat)) (h:i≤j∧j≤m∧m≤cap):
 (execOp (ev N σ) ⟨dst,.slice t x (some y) (some z) (some u),ty,pos,af,g⟩).run P w= .ok (.value<|.slice (fD a m i n) (j - i)<|m - i) w:=by
 have h1:(0:Int)≤(i:Int):=ab
 have h2:(0:Int)≤(j:Int):=ab
 have h3:(0:Int)≤(m:Int):=ab
 unfold gN at he
 cases hd:P.underlying t with
 | none=>rw [hd] at he; cases he
 | some d=>
   rw [hd] at he
   cases d <;> first | (cases he; done) | skip
   rename_i e
   cases hi':P.info? e with
   | none=>simp [hi'] at he
   | some q=>
     simp only [hi',ky,fO] at he
     subst he
     simp only [execOp,qY,Instr.slice,c,A,C,hu,ky,ox,Instr.sliceBound,asIntOf]
     simp [db hd,gS hi',sizeOf,h.1,h.2.1,h.2.2,fD]
theorem KU {t e size bytes B n m cp c A:Nat} {xs news:List Value} {a:Option Addr} (aa:gy P t e size bytes=true) (O:w.ownsRow B e size (.slice (some ⟨A,0,none⟩) n cp) n xs) (ab:ev N σ x= .slice (some ⟨A,0,none⟩) n cp)
 (ac:ev N σ y= .slice a m c) (G:aG w.heap a news) (I:a≠none) (J:news.length=m*size) (h1:news.all Value.oneCell'=true) (Z:n+m≤cp)
 (k:∀ w',Md (fun q=>q=A) w w'→w'.ownsRow B e size (.slice (some ⟨A,0,none⟩) (n+m) cp) (n+m) (xs++news)→K (fq σ dst<|.slice (some ⟨A,0,none⟩) (n+m) cp) w'):
 cH P N ⟨dst,.call ⟨.builtin .append,#[x,y],#[t,t]⟩,ty,pos,af,g⟩ σ w K:=by
 obtain ⟨hu,i,zv,hi,ah,hs,ae,ai,ag⟩:=pX aa
 obtain ⟨ad,rfl⟩:∃ ad,a=some ad:=by cases a with | none=>exact absurd rfl I | some ad=>exact ⟨ad,rfl⟩
 have hn:∀ j v,news[j]? =some v→w.cell? (ad.add j)=some v:=fun j v C=>by
  have E:news≠[]:=fun e=>by rw [e] at C; simp at C
  have h2:=G.ok E
  simp only [fO] at h2
  rw [h2,lO,mT]; exact G.aJ j v C
 obtain ⟨w',Y,h2,h3⟩:=Go.run_append_fits (P:=P) (w:=w) B t ty e i size hu hi hs A n cp xs O ad m c news J hn (tk h1) Z
 refine lH (w':=w') (v:= .slice (some ⟨A,0,none⟩) (n+m) cp) ?_<|k w' ⟨h3.os,h3.output,h3.size,fun q V E=>h3.block q V fun e=>E<|rl e⟩ h2
 simp [execOp,resolve,invoke,builtin,ab,ac,Y]
end
end Go.Hb
end
section
namespace Go.Hb
def qt (P:Program) (t:TypeId):Option (Nat×Nat):=
 match P.underlying t with
 | some (.array n e)=>(P.info? e).map fun i=>(n,i.size)
 | _=>none
section
variable {P:Program} {N:Fm} {σ:Nat→Value} {w:World} {dst:Option Nat} {ty:TypeId} {pos :String} {af:Array Edge} {g:Option (Nat×Bool)} {x y:Operand}
theorem lW {t n A b off :Nat} {k:IntKind} {i:Int} (he:qt P t=some (n,A)) (C:ev N σ x= .pointer (some ⟨b,off,none⟩)) (E:ev N σ y= .int k i) (c:0≤i∧i < n):
 (execOp (ev N σ) ⟨dst,.indexAddr t x y,ty,pos,af,g⟩).run P w= .ok (.value<|.pointer<|some ⟨b,off+i.toNat*A,none⟩) w:=by
 unfold qt at he
 cases hd:P.underlying t with
 | none=>rw [hd] at he; cases he
 | some d=>
   rw [hd] at he
   cases d <;> first | (cases he; done) | skip
   rename_i m e
   cases hi:P.info? e with
   | none=>simp [hi] at he
   | some j=>
     simp only [hi,ky,fO,vl] at he
     obtain ⟨rfl,rfl⟩:=he
     simp [execOp,Instr.indexAt,p9,C,E,asIntOf,db hd,c.1,c.2,sizeOf,gS hi,lO]
end
theorem S6 {h:Array Obj} {b:Nat} {a:List UInt8} (A:bE h b (marksOf a)) (c:UInt8):Hb.aJ h b (0 +((c.toNat:Nat):Int).toNat*1)=some (.bool<|decide (c∈a)):=by
 rw [A.aJ,show 0 +((c.toNat:Nat):Int).toNat*1=c.toNat from by omega]; exact S3 a c
theorem S7 {h:Array Obj} {b:Nat} {a:List UInt8} {c:UInt8} (A:bE h b ((marksOf a).set (0 +((c.toNat:Nat):Int).toNat*1)<|.bool true)):bE h b (marksOf<|a++ [c]):=by
 rw [show 0 +((c.toNat:Nat):Int).toNat*1=c.toNat from by omega,S5] at A; exact A
end Go.Hb
end
section
namespace Go.Hb
theorem R8 (c:UInt8):∀ l:List UInt8,Jf l c=eB c l:=by
 intro l
 induction l with
 | nil=>rfl
 | cons b l G=>
   unfold Jf
   rw [G]
   rw [show eB c (b::l)=if (b::l).idxOf c < (b::l).length then ((b::l).idxOf c:Int) else -1 from rfl,List.idxOf_cons]
   by_cases h:(b==c)=true
   · rw [if_pos h,h]; rfl
   · have C:(b==c)=false :=by simpa using h
     rw [if_neg h,C]
     simp only [cond_false,bS]
     by_cases h1:l.idxOf c < l.length
     · have A:eB c l=l.idxOf c:=if_pos h1
       rw [A,if_neg (fun E=>by have :=eq_of_beq E; omega),if_pos ab]; rfl
     · have A:eB c l= -1:=if_neg h1
       rw [A,if_pos aw,if_neg ab]
theorem U5 {P:Program} {f:FuncId} {fn:Func} (C:P.funcs[f]? =some fn) (E:(fn.name== "runtime.NumGoroutine")=false) (A:fn.body.isNone=true) (hn:I6 fn=none)
 (he:I5 fn=some XA) (l:List UInt8) (c:UInt8) (w:World):(callFunc f #[str l,.int .u8 c.toNat]).run P w= .ok (.value<|.int .i64<|eB c l) w:=by
 rw [run_callFunc_extern C E A hn he]
 unfold str
 rw [Lib.run_indexByteString]
 have h1:((c.toNat:Int)).toNat.toUInt8=c:=rp.1<|by simp
 rw [h1,R8]
 rfl
theorem U4 {P:Program} {f:FuncId} {fn:Func} (C:P.funcs[f]? =some fn) (E:(fn.name== "runtime.NumGoroutine")=false) (A:fn.body.isNone=true) (hn:I6 fn=none)
 (he:I5 fn=some Xz) (l:List UInt8) (c:UInt8) (w:World):(callFunc f #[str l,.int .u8 c.toNat]).run P w= .ok (.value<|.int .i64 (l.count c:Nat)) w:=by
 rw [run_callFunc_extern C E A hn he]
 unfold str
 rw [Lib.run_countString]
 have h1:((c.toNat:Int)).toNat.toUInt8=c:=rp.1<|by simp
 rw [h1]
 rfl
section
variable {P:Program} {N:Fm} {σ:Nat→Value} {w:World} {dst:Option Nat} {ty:TypeId} {pos :String} {af:Array Edge} {g:Option (Nat×Bool)}
theorem Ef {f:FuncId} {a b v:Value} {args:Array Operand} {c:Array TypeId} (h:(callFunc f #[a,b]).run P w= .ok (.value v) w) (A:args.toList.map (ev N σ)= [a,b]):
 (execOp (ev N σ) ⟨dst,.call ⟨.value (.func f),args,c⟩,ty,pos,af,g⟩).run P w= .ok (.value v) w:=by
 have :args.map (ev N σ)= #[a,b]:=by rw [← xV,lJ,A]
 simp [execOp,resolve,ev,pn,invoke,this,h]
end
end Go.Hb
end
section
namespace Go.Hb
theorem Vh {L:List Value} {o:Nat} {v:Value} (h:o < L.length):(L.set o v).take (o+1)=L.take o++ [v]:=by
 rw [List.set_eq_take_append_cons_drop,if_pos h,vf,eE,oC ab,Nat.add_sub_cancel_left,fu (by rw [eE]; omega)]
 rfl
theorem Vg {L:List Value} {o m:Nat} {v:Value} (h:o < m):(L.set o v).drop m=L.drop m:=by
 rw [List.drop_set,if_pos h]
theorem HE (b e:Nat):∀ (vs:List Value) (o:Nat) (L:List Value) (w:World),w.heap[b]? =some (.cells L.toArray e (0,0))→o+vs.length≤L.length→
 (w.setCells b o vs).heap[b]? =some (.cells (L.take o++vs++L.drop (o+vs.length)).toArray e (0,0))∧Md (fun k=>k=b) w (w.setCells b o vs):=by
 intro vs
 induction vs with
 | nil=>intro o L w c _; exact ⟨by simpa [World.setCells] using c,Md.refl _ _⟩
 | cons v r I=>
   intro o L w c C
   simp only [bS] at C
   have h1:(w.setCell ⟨b,o,none⟩ v).heap[b]? =some (.cells (L.set o v).toArray e (0,0)):=by
    have E:=(bT.1 c).1
    have G:w.heap[b]= .cells L.toArray e (0,0):=(bT.1 c).2
    simp only [x8]
    rw [Array.getElem?_eq_getElem (by simpa using E),Array.getElem_modify]
    simp [G,List.setIfInBounds_toArray]
   have A:Md (fun k=>k=b) w (w.setCell ⟨b,o,none⟩ v):=⟨rfl,rfl,by simp [x8],fun k _ hk=>Below.heap_setCell w _ v k hk⟩
   obtain ⟨h2,h3⟩:=I (o+1) (L.set o v) _ h1<|by rw [List.length_set]; omega
   refine ⟨?_,Md.trans A h3⟩
   show ((w.setCell ⟨b,o,none⟩ v).setCells b (o+1) r).heap[b]? =_
   rw [h2,Vh ab,Vg ab,bS,show o+1 +r.length=o+(r.length+1) from by omega]
   simp
section
variable {P:Program} {N:Fm} {σ:Nat→Value} {w:World} {ty:TypeId} {pos :String} {af:Array Edge} {g:Option (Nat×Bool)} {x:Operand} {K:(Nat→Value)→World→Prop}
theorem NR {t e B n k cp E m:Nat} {a:Option Addr} {xs:List Value} {z:Value} (ai:P.underlying t=some (.slice e)) (ak:zeroV P e=some z) (h1:z.oneCell'=true) (ac:w.ownsRow B e 1 (.slice a n cp) n xs)
 (G:ev N σ x= .slice (fD a cp k 1) m E) (hm:m=n - k) (hk:k < n) (al:∀ w',Md (fun q=>(bC a n cp).ownBlock=some q) w w'→w'.ownsRow B e 1 (.slice a n cp) n (xs.take k++jM (n - k) z)→K σ w'):
 cH P N ⟨none,.call ⟨.builtin .clear,#[x],#[t]⟩,ty,pos,af,g⟩ σ w K:=by
 obtain ⟨J,h⟩:=ac
 subst hm
 rcases h with ⟨h,rfl⟩ | ⟨c,am,cur,h,O,Y,hle,V,ah,aj⟩
 · omega
 · simp only [ma,true_and] at h
   obtain ⟨rfl,rfl⟩:=h
   have ag:fD (some ⟨c,0,none⟩) cp k 1=some ⟨c,k,none⟩:=by
    unfold fD; rw [if_neg ab]; simp [lO]
   rw [ag] at G
   have C:w.heap[c]? =some (.cells cur.toList.toArray e (0,0)):=by simpa using Y
   have A:cur.toList.length=cp*1:=by rw [uM]; exact ah
   have ae:=Jg (P:=P) w t e ty z ai (fun w=>uJ ak w) (by cases z <;> first | rfl | (cases h1; done)) h1 c k (n - k) E ab
    (fun j Z=>by rw [mT,aV C]; simp; omega) (fun j Z=>by simp only [Jq,show w.heap[c]? =_ from C]; simp)
   obtain ⟨h2,h3⟩:=HE c e (jM (n - k) z) k cur.toList w C<|by rw [nL,A]; omega
   refine lH (w':=w.setCells c k<|jM (n - k) z) (v:= .tuple #[]) ?_ (al _ (h3.mono fun q _ ad=>by subst ad; rfl) ⟨?_,.inr ⟨c,cp,_,aa,O,h2,hle,V,?_,?_⟩⟩)
   · simp [execOp,resolve,invoke,builtin,G,ae]
   · rw [bJ,eE,nL,J]; omega
   · simp only [nR,bJ,eE,gI,nL,A]; omega
   · rw [nL,s8]
     have I:(cur.toList.take k++jM (n - k) z++cur.toList.drop (k+(n - k))).toArray.toList=(cur.toList.take k++jM (n - k) z)++cur.toList.drop (k+(n - k)):=rfl
     rw [I,vf,bJ,eE,nL,A,oC ab,show n - (k+(n - k))=0 by omega,pB,eu,fu (by rw [bJ,eE,nL,A]; omega)]
     rw [← aj,JS,s8,oC ab]
theorem NS {t e B n cp E m:Nat} {a:Option Addr} {xs:List Value} {z:Value} (aj:P.underlying t=some (.slice e)) (al:zeroV P e=some z) (h1:z.oneCell'=true) (ad:w.ownsRow B e 1 (.slice a n cp) n xs) (V:a≠none)
 (G:ev N σ x= .slice (fD a cp n 1) m E) (hm:0 < m∧n+m≤cp) (am:∀ w',Md (fun q=>(bC a n cp).ownBlock=some q) w w'→w'.ownsRow B e 1 (.slice a n cp) n xs→K σ w'):
 cH P N ⟨none,.call ⟨.builtin .clear,#[x],#[t]⟩,ty,pos,af,g⟩ σ w K:=by
 obtain ⟨J,h⟩:=ad
 rcases h with ⟨h,rfl⟩ | ⟨c,an,cur,h,O,Z,hle,Y,ai,ak⟩
 · simp only [ma] at h; exact absurd h.1 V
 · simp only [ma,true_and] at h
   obtain ⟨rfl,rfl⟩:=h
   have ah:fD (some ⟨c,0,none⟩) cp n 1=some ⟨c,n,none⟩:=by
    unfold fD; rw [if_neg ab]; simp [lO]
   rw [ah] at G
   have C:w.heap[c]? =some (.cells cur.toList.toArray e (0,0)):=by simpa using Z
   have A:cur.toList.length=cp*1:=by rw [uM]; exact ai
   have ag:=Jg (P:=P) w t e ty z aj (fun w=>uJ al w) (by cases z <;> first | rfl | (cases h1; done)) h1 c n m E hm.1
    (fun j ac=>by rw [mT,aV C]; simp; omega) (fun j ac=>by simp only [Jq,show w.heap[c]? =_ from C]; simp)
   obtain ⟨h2,h3⟩:=HE c e (jM m z) n cur.toList w C<|by rw [nL,A]; omega
   refine lH (w':=w.setCells c n<|jM m z) (v:= .tuple #[]) ?_ (am _ (h3.mono fun q _ ae=>by subst ae; rfl) ⟨J,.inr ⟨c,cp,_,aa,O,h2,hle,Y,?_,?_⟩⟩)
   · simp [execOp,resolve,invoke,builtin,G,ag]
   · simp only [nR,bJ,eE,gI,nL,A]; omega
   · rw [nL,s8]
     have I:(cur.toList.take n++jM m z++cur.toList.drop (n+m)).toArray.toList=cur.toList.take n++(jM m z++cur.toList.drop (n+m)):=List.append_assoc _ _ _
     rw [I,vf,eE,A,oC ab,Nat.sub_self,pB,eu,fu (by rw [eE]; omega),← ak,s8]
end
end Go.Hb
end
section
namespace Go.Hb
def yI (P:Program) (t:TypeId):Option (List Value):=
 match P.info? t,P.underlying t with
 | some it,some (.array _ e)=>
   match it.zero,P.info? e with
   | some z,some ie=>if ie.size=1 then some z.cells.toList else none
   | _,_=>none
 | _,_=>none
def uq:List Value→List (Nat×Value)→Option (List Value)
 | c,[]=>some c
 | c,(i,v)::r=>if (v.oneCell' && fV i c.length)=true then uq (c.set i v) r else none
theorem Uv {c L:List Value} {ps:List (Nat×Value)} (h:uq c ps=some L):l9 (fun i=>some (i*1,1)) c.toArray ps=some L.toArray:=by
 induction ps generalizing c with
 | nil=>simp only [uq,fO] at h; subst h; rfl
 | cons q r E=>
   obtain ⟨i,v⟩:=q
   rw [uq] at h
   split at h
   · rename_i A
     simp only [gp] at A
     have C:=pT A.1
     have G:i < c.length:=qi A.2
     simp only [l9,C,s8]
     rw [if_neg (by simp; omega)]
     have :=E h
     simp only [s8] at this
     rw [← this]
     simp
   · cases h
section
variable {P:Program} {N:Fm} {σ:Nat→Value} {w:World} {dst:Option Nat} {ty:TypeId} {pos :String} {af:Array Edge} {g:Option (Nat×Bool)}
theorem Da {t:TypeId} {parts:Array (Nat×Operand)} {c L:List Value} {ps:List (Nat×Value)} (h:yI P t=some c) (hp:parts.toList.map (fun q=>(q.1,ev N σ q.2))=ps) (A:uq c ps=some L):
 (execOp (ev N σ) ⟨dst,.build t parts,ty,pos,af,g⟩).run P w= .ok (.value<|.agg L.toArray) w:=by
 unfold yI at h
 split at h
 · rename_i it n e hi hu
   split at h
   · rename_i z G E he
     split at h
     · rename_i hs
       simp only [fO] at h
       subst h
       have C:P.built t (parts.map fun q=>(q.1,ev N σ q.2)).toList=some L.toArray:=by
        have :=Uv A
        simp only [xT] at this
        simp only [Program.built,hi,hu,E,he,hs,lJ,hp]; exact this
       simp [execOp,run_build w t _ _ C]
     · cases h
   · cases h
 · cases h
end
end Go.Hb
end
section
namespace Go.Hb
abbrev bg:Type :=Tx×List Nat
noncomputable def fQ (F:aC) (row:List Tx):Except Nat bg:=
 if row.length≠1 then .error 111
 else if (bD<|row.getD 0 []).2.2.2≠0 then .error (bD<|row.getD 0 []).2.2.2
 else if hU (bD<|row.getD 0 []).1=false∨(bD<|row.getD 0 []).1= [] then .error 21
 else if 64 < (bD<|row.getD 0 []).1.length then .error 22
 else if (bD<|row.getD 0 []).2.2.1=false then .ok ((bD<|row.getD 0 []).1,[])
 else match gj F.kind F.aliases (bD<|row.getD 0 []).2.1 with
  | .error e=> .error e
  | .ok set =>if set.all (eA F)=true then .ok ((bD<|row.getD 0 []).1,set) else .error 120
section
variable {F:aC} {row:List Tx}
theorem PH (h:row.length≠1):fQ F row= .error 111:=if_pos h
theorem zA (h:row.length=1) (h1:(bD<|row.getD 0 []).2.2.2≠0):fQ F row= .error (bD<|row.getD 0 []).2.2.2:=by
 unfold fQ; rw [if_neg (fun h2=>h2 h),if_pos h1]
variable (h:row.length=1) (h1:(bD (row.getD 0 [])).2.2.2=0)
include h h1
theorem EH (h2:hU (bD<|row.getD 0 []).1=false∨(bD<|row.getD 0 []).1= []):fQ F row= .error 21:=by
 unfold fQ; rw [if_neg (fun h2=>h2 h),if_neg (fun h2=>h2 h1),if_pos h2]
variable (h2:hU (bD (row.getD 0 [])).1=true) (h3:(bD (row.getD 0 [])).1≠[])
include h2 h3
omit h h1 in
theorem tF:¬(hU (bD<|row.getD 0 []).1=false∨(bD<|row.getD 0 []).1= []):=fun h=>h.elim (fun h=>by rw [h2] at h; cases h) h3
theorem PI (h4:64 < (bD<|row.getD 0 []).1.length):fQ F row= .error 22:=by
 unfold fQ; rw [if_neg (fun h2=>h2 h),if_neg (fun h2=>h2 h1),if_neg (tF h2 h3),if_pos h4]
variable (h4:¬64 < (bD (row.getD 0 [])).1.length)
include h4
theorem PJ (h5:(bD<|row.getD 0 []).2.2.1=false):fQ F row= .ok ((bD<|row.getD 0 []).1,[]):=by
 unfold fQ; rw [if_neg (fun h2=>h2 h),if_neg (fun h2=>h2 h1),if_neg (tF h2 h3),if_neg h4,if_pos h5]
variable (h5:(bD (row.getD 0 [])).2.2.1=true)
include h5
theorem PK {e:Nat} (c:gj F.kind F.aliases (bD<|row.getD 0 []).2.1= .error e):fQ F row= .error e:=by
 unfold fQ; rw [if_neg (fun h2=>h2 h),if_neg (fun h2=>h2 h1),if_neg (tF h2 h3),if_neg h4,if_neg (by rw [h5]; exact c7),c]
theorem PM {set :List Nat} {i:Nat} (c:gj F.kind F.aliases (bD<|row.getD 0 []).2.1= .ok set) (hi:i < set.length) (A:eA F (set.getD i 0)=false):fQ F row= .error 120:=by
 unfold fQ; rw [if_neg (fun h2=>h2 h),if_neg (fun h2=>h2 h1),if_neg (tF h2 h3),if_neg h4,if_neg (by rw [h5]; exact c7),c]
 exact if_neg<|by rw [C1 0 hi A]; exact c7
theorem EI {set :List Nat} (c:gj F.kind F.aliases (bD<|row.getD 0 []).2.1= .ok set) (A:∀ i,i < set.length→eA F (set.getD i 0)=true):fQ F row= .ok ((bD<|row.getD 0 []).1,set):=by
 unfold fQ; rw [if_neg (fun h2=>h2 h),if_neg (fun h2=>h2 h1),if_neg (tF h2 h3),if_neg h4,if_neg (by rw [h5]; exact c7),c]
 exact if_pos<|C2 0 A
end
noncomputable def eM (F:aC) (eof:Nat):Nat→List Rw→Except (Nat×Nat) (List bg)
 | 0,[]=> .ok []
 | _+1,[]=> .error (eof,116)
 | 0,(ln,_)::_=> .error (ln,116)
 | n+1,(ln,row)::rows=>match fQ F row with
   | .error e=> .error (ln,e)
   | .ok x=>match eM F eof n rows with
     | .error e=> .error e
     | .ok r=> .ok (x::r)
noncomputable def fP (F:aC) (t:Tx):Except (Nat×Nat) (List bg):=
 if 65536 < t.length then .error (0,10)
 else match eW t with
  | []=> .error ((dx t).length+1,116)
  | (ln,row)::rows=>if row.length≠1 then .error (ln,111) else match eH (row.getD 0 []) 8192 with
    | .error e=> .error (ln,e)
    | .ok n=>eM F ((dx t).length+1) n rows
def iH (F:aC) (eof:Nat) (T:Except (Nat×Nat) (List bg)) (xs:List bg) (n:Nat) (rows:List Rw):Prop :=
 T=match eM F eof n rows with
  | .error e=> .error e
  | .ok r=> .ok<|xs++r
section
variable {F:aC} {eof n ln:Nat} {T:Except (Nat×Nat) (List bg)} {xs:List bg} {rows:List Rw} {row:List Tx}
theorem iH.start:iH F eof (eM F eof n rows) [] n rows:=by
 unfold iH; cases eM F eof n rows <;> rfl
theorem iH.done (h:iH F eof T xs 0 []):T= .ok xs:=by
 unfold iH at h; rw [eM] at h; simpa using h
theorem iH.ends (h:iH F eof T xs n []) (hn:0 < n):T= .error (eof,116):=by
 obtain ⟨m,rfl⟩:∃ m,n=m+1:=⟨n - 1,ab⟩
 unfold iH at h; rw [eM] at h; exact h
theorem iH.more (h:iH F eof T xs 0 ((ln,row)::rows)):T= .error (ln,116):=by
 unfold iH at h; rw [eM] at h; exact h
theorem iH.bad {e:Nat} (h:iH F eof T xs n ((ln,row)::rows)) (hn:0 < n) (he:fQ F row= .error e):T= .error (ln,e):=by
 obtain ⟨m,rfl⟩:∃ m,n=m+1:=⟨n - 1,ab⟩
 unfold iH at h; rw [eM,he] at h; exact h
theorem iH.step {x:bg} (h:iH F eof T xs n ((ln,row)::rows)) (hn:0 < n) (he:fQ F row= .ok x):iH F eof T (xs++ [x]) (n - 1) rows:=by
 obtain ⟨m,rfl⟩:∃ m,n=m+1:=⟨n - 1,ab⟩
 unfold iH at h ⊢; rw [eM,he] at h
 rw [h,Nat.add_sub_cancel]
 simp only
 cases eM F eof m rows <;> simp
end
section
variable {F:aC} {t:Tx}
theorem Po (h:65536 < t.length):fP F t= .error (0,10):=if_pos h
theorem Pp (h:¬65536 < t.length) (h1:eW t= []):fP F t= .error ((dx t).length+1,116):=by
 unfold fP; rw [if_neg h,h1]
variable {ln:Nat} {row:List Tx} {rows:List Rw} (h:¬65536 < t.length) (h1:eW t=(ln,row)::rows)
include h h1
theorem Pl (h2:row.length≠1):fP F t= .error (ln,111):=by
 unfold fP; rw [if_neg h,h1]; exact if_pos h2
theorem Pq (h2:row.length=1) {e:Nat} (h3:eH (row.getD 0 []) 8192= .error e):fP F t= .error (ln,e):=by
 unfold fP; rw [if_neg h,h1]; simp only; rw [if_neg (fun h=>h h2),h3]
theorem EA (h2:row.length=1) {n:Nat} (h3:eH (row.getD 0 []) 8192= .ok n):fP F t=eM F ((dx t).length+1) n rows:=by
 unfold fP; rw [if_neg h,h1]; simp only; rw [if_neg (fun h=>h h2),h3]
end
theorem Q6 {α:Type} {a b:List α} {i:Nat} {d:α} (h:i < a.length):(a++b).getD i d=a.getD i d:=by
 rw [cU,cU,mK h]
def idxs (s:Tx) (xs:List bg):List Nat:=(fM xs.length).filter fun i=>decide ((xs.getD i ([],[])).1=s)
theorem An (s:Tx) (xs:List bg) (x:bg):idxs s (xs++ [x])=idxs s xs++(if x.1=s then [xs.length] else []):=by
 unfold idxs
 rw [bJ,List.length_singleton,List.range_succ,List.filter_append]
 congr 1
 · refine List.filter_congr fun i hi=> ?_
   have hi:i < xs.length:=by simpa using hi
   rw [Q6 hi]
 · by_cases c:x.1=s <;> simp [List.filter,c]
theorem Am (s:Tx) (xs:List bg):(idxs s xs).length≤xs.length:=by
 unfold idxs; have :=mM (fun i=>decide ((xs.getD i ([],[])).1=s)) (fM xs.length); simpa using this
theorem PU {F:aC} {eof:Nat} :∀ {n:Nat} {rows:List Rw} {r:List bg},eM F eof n rows= .ok r→r.length=n∧rows.length=n:=by
 intro n
 induction n with
 | zero=>
   intro rows r h
   cases rows with
   | nil=>rw [eM] at h; cases h; exact ⟨rfl,rfl⟩
   | cons q rows=>rw [eM] at h; cases h
 | succ n c=>
   intro rows r h
   cases rows with
   | nil=>rw [eM] at h; cases h
   | cons q rows=>
     rw [eM] at h
     split at h
     · cases h
     · split at h
       · cases h
       · rename_i h2
         cases h
         have :=c h2
         simp only [bS]; omega
end Go.Hb
end
section
namespace Go.Hb
section
variable {P:Program} {N:Fm} {σ:Nat→Value} {w:World} {dst:Option Nat} {ty:TypeId} {pos :String} {af:Array Edge} {g:Option (Nat×Bool)} {x:Operand}
theorem Ld {t n A b:Nat} (he:qt P t=some (n,A)) (c:ev N σ x= .pointer (some ⟨b,0,none⟩)):
 (execOp (ev N σ) ⟨dst,.slice t x none none none,ty,pos,af,g⟩).run P w= .ok (.value<|.slice (some ⟨b,0,none⟩) n n) w:=by
 unfold qt at he
 cases hd:P.underlying t with
 | none=>rw [hd] at he; cases he
 | some d=>
   rw [hd] at he
   cases d <;> first | (cases he; done) | skip
   rename_i m e
   cases hi:P.info? e with
   | none=>simp [hi] at he
   | some j=>
     simp only [hi,ky,fO,vl] at he
     obtain ⟨rfl,rfl⟩:=he
     simp [execOp,qY,p9,ox,c,db hd,sizeOf,gS hi,lO]
def zP (P:Program) (t f:Nat):Option (Nat×Nat):=
 match P.underlying t with
 | some (.struct fs)=>(fs[f]?).map fun d=>(d.type,d.offset)
 | _=>none
theorem QH {t f A off n:Nat} {cs vs:List Value} (h:zP P t f=some (A,off)) (c:dt P A=some (some n)) (G:ev N σ x= .agg cs.toArray) (E:(cs.drop off).take n=vs):
 (execOp (ev N σ) ⟨dst,.field t x f,ty,pos,af,g⟩).run P w= .ok (.value<|.agg vs.toArray) w:=by
 subst E
 unfold zP at h
 cases hd:P.underlying t with
 | none=>rw [hd] at h; cases h
 | some d=>
   rw [hd] at h
   cases d <;> first | (cases h; done) | skip
   rename_i fs
   simp only [mg] at h
   obtain ⟨fd,C,he⟩:=h
   cases he
   unfold dt at c
   cases hd2:P.underlying fd.type with
   | none=>rw [hd2] at c; cases c
   | some d2=>
     rw [hd2] at c
     cases hi:P.info? fd.type with
     | none=>simp [Ji,hi] at hd2
     | some i=>
       rw [hi] at c
       have I:cs.toArray.extract fd.offset (fd.offset+n)=((cs.drop fd.offset).take n).toArray:=by simp
       cases d2 <;> first
        | (cases c; done)
        | (simp only [ky,fO] at c; subst c
           simp [execOp,Ja,db hd,C,G,asAgg,part,isAgg,db hd2,sizeOf,gS hi])
end
end Go.Hb
end
namespace Go.Hb
def oo (ps:List Tx) (w:Tx):Bool:=decide (ps.length≤w.length) && (fM ps.length).all fun i=>fy (ps.getD i [])<|w.getD i 0
def tE (ps:List Tx) (w:Tx):Bool:=decide (ps.length≤w.length) && oo ps (w.drop<|w.length - ps.length)
noncomputable def gB (r:cJ) (w:Tx):Bool:=
 decide ((eb r.cond).2=0∧r.strip.length < w.length) &&
  (if r.kind=2 then decide (w.drop (w.length - r.strip.length)=r.strip) && tE (eb r.cond).1 w
   else if r.kind=1 then decide (w.take r.strip.length=r.strip) && oo (eb r.cond).1 w else false)
noncomputable def dy (r:cJ) (w:Tx):Option Tx:=if gB r w=true then some (if r.kind=2 then w.take (w.length - r.strip.length)++r.add else r.add++w.drop r.strip.length) else none
def dq:cJ:=⟨0,0,false,[],[],[],[],0⟩
def aM (F:aC) (fs:List Nat) (kind:Nat):List Nat:=(fM F.rules.length).filter fun i=>decide ((F.rules.getD i dq).kind=kind∧(F.rules.getD i dq).flag∈fs)
def flagsOf (xs:List bg) (e:Int):List Nat:=if 0≤e∧e < xs.length then (xs.getD e.toNat ([],[])).2 else []
def bI (F:aC) (r:Int):List Nat:=if 0≤r∧r < F.rules.length then (F.rules.getD r.toNat dq).next else []
def r9 (F:aC) (xs:List bg) (e:Int) (k:Nat):Bool:=decide (F.sp.getD k 0≠0∧F.sp.getD k 0∈flagsOf xs e)
def qy (F:aC) (r:Int):Bool:=decide (0≤r∧r < F.rules.length) && !decide (F.sp.getD 0 0≠0∧F.sp.getD 0 0∈bI F r)
structure bo where
 cy:Tx
 dW:Nat
 fst:Int
 snd:Int
 pre:Int
def nZ (F:aC) (n:Int):Bool:=decide (n= -1) || (F.rules.getD n.toNat dq).gv
def eU (F:aC) (xs:List bg) (e:Nat) (f s p:Int):Bool:=
 if f= -1 then decide (p≠ -1) || !r9 F xs e 0
 else if qy F (if s= -1 then f else s)=false then false
 else decide (p= -1) || (nZ F f && nZ F s && nZ F p)
def kE (F:aC) (xs:List bg) (e:Nat) (word:Tx) (f s:Int):List bo:=if eU F xs e f s (-1)=true then [⟨word,e,f,s,-1⟩] else []
noncomputable def iO (F:aC) (xs:List bg) (e:Nat) (word:Tx) (f s:Int) (p:Nat):Option bo:=if eU F xs e f s p=true then (dy (F.rules.getD p dq) word).map (fun v=>(⟨v,e,f,s,(p:Int)⟩:bo)) else none
noncomputable def eT (F:aC) (xs:List bg) (e:Nat) (word:Tx) (f s:Int):List bo:=kE F xs e word f s++(aM F (flagsOf xs e) 1).filterMap (iO F xs e word f s)
noncomputable def jK (F:aC) (xs:List bg) (e:Nat) (w:Tx) (s:Int) (z:Nat):List bo:=match dy (F.rules.getD z dq) w with
 | none=> []
 | some v=>eT F xs e v s z
noncomputable def gC (F:aC) (xs:List bg) (e:Nat) (s:Nat):List bo:=match dy (F.rules.getD s dq) (xs.getD e ([],[])).1 with
 | none=> []
 | some w=>eT F xs e w s (-1)++(aM F (bI F s) 2).flatMap (jK F xs e w s)
noncomputable def gi (F:aC) (xs:List bg) (e:Nat):List bo:=
 eT F xs e (xs.getD e ([],[])).1 (-1) (-1)++(aM F (flagsOf xs e) 2).flatMap (gC F xs e)
def pG (q:cJ):Prop :=q.strip.length≤32∧q.add.length≤32∧q.cond.length≤4800
structure oH (F:aC):Prop where
 part:∀ (i:Nat) r,F.rules[i]? =some r→∃ c∈F.bB,c.first≤i∧i < c.first+c.count∧r.flag=c.flag∧r.kind=c.kind
 tz:∀ c∈F.bB,c.first+c.count≤F.rules.length∧∀ i,c.first≤i→i < c.first+c.count→∃ r,F.rules[i]? =some r∧r.flag=c.flag∧r.kind=c.kind
 uniq:(F.bB.map (·.flag)).Nodup
theorem FJ {α:Type} {hd:List Tx} {rd:Nat→List Tx→Except Nat α} {eof:Nat} :∀ (n:Nat) (rows:List Rw) (r:List α×List Rw),group hd rd eof n rows= .ok r→∀ x∈r.1,∃ ln row,rd ln row= .ok x:=by
 intro n
 induction n with
 | zero=>intro rows r h; simp only [group,qT] at h; subst h; intro x c; cases c
 | succ n A=>
   intro rows r h
   cases rows with
   | nil=>simp [group] at h
   | cons q rows=>
     obtain ⟨ln,row⟩:=q
     simp only [group] at h
     split at h
     · cases h
     · cases hr:rd ln row with
       | error e=>rw [hr] at h; cases h
       | ok y=>
         rw [hr] at h
         simp only at h
         cases hg:group hd rd eof n rows with
         | error e=>rw [hg] at h; cases h
         | ok C=>
           rw [hg] at h
           simp only [qT] at h
           subst h
           intro x c
           rcases ew.1 c with c | c
           · exact ⟨ln,row,by rw [c]; exact hr⟩
           · exact A rows C hg x c
theorem FR {eof ln:Nat} {F F':aC} {hs:List Tx} {rows rows':List Rw} {row:List Tx} (A:ca eof F hs rows ln row= .ok (F',rows')):
 (F'.aliases=F.aliases∧F'.bB=F.bB∧F'.rules=F.rules)∨
 (F'.bB=F.bB∧F'.rules=F.rules∧∃ l,F'.aliases=F.aliases++l∧∀ x∈l,∃ kd s,kW kd s= .ok x)∨
 (F'.aliases=F.aliases∧∃ c l,F'.bB=F.bB++ [c]∧F'.rules=F.rules++l∧c.first=F.rules.length∧c.count=l.length∧eA F c.flag=false∧∀ x∈l,∃ ln row,jr F.kind F.aliases c ln row= .ok x):=by
 unfold ca at A
 split at A
 · unfold j0 at A; split at A <;> cases A; exact .inl ⟨rfl,rfl,rfl⟩
 split at A
 · unfold kJ at A
   split at A
   · cases A
   · split at A <;> cases A; exact .inl ⟨rfl,rfl,rfl⟩
 split at A
 · unfold mD at A; split at A <;> cases A; exact .inl ⟨rfl,rfl,rfl⟩
 split at A
 · unfold mE at A; split at A <;> cases A; exact .inl ⟨rfl,rfl,rfl⟩
 split at A
 · unfold kK at A
   split at A
   · cases A
   · split at A <;> cases A; exact .inl ⟨rfl,rfl,rfl⟩
 split at A
 · unfold kN at A
   split at A
   · cases A
   · split at A <;> cases A; exact .inl ⟨rfl,rfl,rfl⟩
 split at A
 · unfold kh at A
   split at A
   · cases A
   · split at A
     · cases A
     · split at A
       · cases A
       · rename_i r E
         cases A
         refine .inr<|.inl ⟨aa,aa,r.1,aa,fun x A=> ?_⟩
         obtain ⟨ln,row,h⟩:=FJ _ _ _ E x A
         unfold ml at h
         split at h
         · cases h
         · exact ⟨_,_,h⟩
 · unfold hZ at A
   split at A
   · cases A
   · rename_i x C
     split at A
     · cases A
     · split at A
       · cases A
       · split at A
         · cases A
         · split at A
           · cases A
           · rename_i r E
             cases A
             refine .inr<|.inr ⟨aa,_,r.1,aa,aa,aa,(tZ _ _ _ E).2.1.symm,?_,fun x A=>FJ _ _ _ E x A⟩
             unfold iU at C
             split at C
             · cases C
             · split at C
               · cases C
               · rename_i h; cases C; simpa using h
theorem yz {Q:aC→Prop} (A:Q iN) (E:∀ (eof ln:Nat) (F F':aC) (hs:List Tx) (rows rows':List Rw) (row:List Tx),Q F→ca eof F hs rows ln row= .ok (F',rows')→Q F') {s:Tx} {F:aC} (h:fW s= .ok F):Q F:=by
 unfold fW at h
 split at h
 · cases h
 · split at h
   · cases h
   · rename_i f C
     split at h
     · cases h
     · cases h
       have key:∀ (k:Nat) (F F':aC) (hs:List Tx) (rows:List Rw) (eof:Nat),Q F→gQ eof k F hs rows= .ok F'→Q F':=by
        intro k
        induction k with
        | zero=>intro F F' hs rows eof h c; rw [gQ] at c; split at c <;> cases c; exact h
        | succ k I=>
          intro F F' hs rows eof h c
          cases rows with
          | nil=>simp only [gQ,qT] at c; exact c ▸ h
          | cons q rows=>
            rw [gQ] at c
            split at c
            · cases c
            · split at c
              · cases c
              · split at c
                · cases c
                · split at c
                  · cases c
                  · rename_i r G
                    exact I _ _ _ _ _ (E _ _ _ _ _ _ _ _ h G) c
       exact key _ _ _ _ _ _ A C
def kA (l:List Nat):Prop :=l.Pairwise (· < ·)∧0∉l
theorem QV {kind:Nat} {s:Tx} (c:(e5 kind s).2=0):kA (e5 kind s).1:=by
 unfold e5 at c ⊢
 by_cases h1:s= []
 · rw [if_pos h1] at c; cases c
 · rw [if_neg h1] at c ⊢
   by_cases h2:∃ x∈eD kind s,eN kind x=0
   · rw [if_pos h2] at c; cases c
   · rw [if_neg h2] at c ⊢
     by_cases h3:64 < (eD kind s).length
     · rw [if_pos h3] at c; cases c
     · rw [if_neg h3]
       refine ⟨AZ _,fun h4=> ?_⟩
       rw [AY,gW] at h4
       exact h2 h4
theorem Fy {kind:Nat} {s:Tx} {l:List Nat} (h:kW kind s= .ok l):kA l:=by
 unfold kW at h
 split at h
 · cases h
 · rename_i c
   cases h
   exact QV<|Classical.not_not.1 c
def rr (F:aC):Prop :=(∀ l∈F.aliases,kA l)∧∀ q∈F.rules,kA q.next∧pG q
theorem E2 {w:Tx} (h:¬ib w≠0):w.length≤32:=by
 unfold ib at h
 split at h
 · exact absurd aw h
 · split at h
   · exact absurd aw h
   · omega
theorem Ui {b:Bool} {fd p:Tx} (h:ga b fd= .ok p):p.length≤32:=by
 unfold ga at h
 split at h
 · cases h; exact ku _
 · split at h
   · cases h
   · split at h
     · cases h
     · split at h
       · cases h
       · rename_i c; cases h; exact E2 c
theorem Ks {r:lM} {p:Tx} (h:lh r= .ok p):p.length≤32:=by
 unfold lh at h
 split at h
 · cases h
 · split at h
   · cases h; exact ku _
   · split at h
     · cases h
     · rename_i c; cases h; exact E2 c
theorem Ei (s:Tx):(eb s).1.length≤16:=by
 unfold eb
 split
 · simp
 · split
   · simp
   · split
     · simp
     · split
       · simp
       · simp only; omega
theorem Vm:∀ {ps:List Tx},ps.length≤16→(pW ps).length≤4800:=by
 have key:∀ ps:List Tx,(ps.flatMap fun t=>lF<|fy t).length≤ps.length*300:=by
  intro ps
  induction ps with
  | nil=>exact ku _
  | cons t ps c=>
    have :=HG<|fy t
    rw [jt,bJ,bS]; omega
 intro ps h
 unfold pW
 split
 · simp
 · have :=key ps; omega
theorem Oi {row:List Tx} {c:Tx} (h:mq row= .ok c):c.length≤4800:=by
 unfold mq at h
 split at h
 · split at h
   · cases h
   · split at h
     · cases h
     · cases h; exact Vm<|Ei _
 · cases h; simp
theorem tY:kA []:=⟨.nil,ym⟩
theorem E9 {kind:Nat} {al:List (List Nat)} {s:Tx} {l:List Nat} (c:∀ l∈al,kA l) (h:gj kind al s= .ok l):kA l:=by
 unfold gj at h
 split at h
 · exact Fy h
 · split at h
   · cases h
   · split at h
     · cases h
     · cases h
       rename_i n _ _
       rw [cU]
       cases hg:al[n - 1]? with
       | none=>exact tY
       | some x=>exact c x<|fU hg
theorem Bn {kind ln:Nat} {al:List (List Nat)} {c:dT} {row:List Tx} {q:cJ} (E:∀ l∈al,kA l) (h:jr kind al c ln row= .ok q):(kA q.next∧pG q)∧q.flag=c.flag∧q.kind=c.kind∧q.gv=c.gv:=by
 unfold jr at h
 split at h
 · cases h
 · split at h
   · cases h
   · rename_i hp
     split at h
     · cases h
     · rename_i C
       split at h
       · cases h
       · rename_i nx A
         split at h
         · cases h
         · rename_i G
           cases h
           refine ⟨⟨?_,Ui hp,Ks C,Oi G⟩,aa,aa,aa⟩
           unfold nn at A
           split at A
           · split at A
             · cases A
             · exact E9 E A
           · cases A; exact tY
theorem zQ {cs:List dT} {x:Nat} (h:(dO cs x).isSome=false):∀ c∈cs,c.flag≠x:=fun c A C=>by
 unfold dO at h
 have h1:cs.find? (fun c=>decide (c.flag=x))=none:=by
  cases h2:cs.find? (fun c=>decide (c.flag=x)) with
  | none=>rfl
  | some y=>rw [h2] at h; cases h
 have :=List.find?_eq_none.1 h1 c A
 simp [C] at this
theorem yy {s:Tx} {F:aC} (h:fW s= .ok F):rr F∧oH F:=by
 refine yz (Q:=fun F=>rr F∧oH F) ⟨⟨fun l Z=>(by cases Z),fun l Z=>by cases Z⟩,⟨fun i r h=>(by cases h),fun c h=>(by cases h),.nil⟩⟩ ?_ h
 rintro eof ln F F' hs rows rows' row ⟨E,G⟩ A
 refine ⟨?_,?_⟩
 · rcases FR A with ⟨h1,_,h3⟩ | ⟨_,h2,l,h3,h4⟩ | ⟨h1,c,l,_,h3,_,_,_,h4⟩
   · exact ⟨h1 ▸ E.1,h3 ▸ E.2⟩
   · refine ⟨fun x A=> ?_,h2 ▸ E.2⟩
     rw [h3] at A
     rcases iW.1 A with A | A
     · exact E.1 x A
     · obtain ⟨_,_,h⟩:=h4 x A; exact Fy h
   · refine ⟨h1 ▸ E.1,fun x A=> ?_⟩
     rw [h3] at A
     rcases iW.1 A with A | A
     · exact E.2 x A
     · obtain ⟨_,_,h⟩:=h4 x A; exact (Bn E.1 h).1
 · rcases FR A with ⟨_,h2,h3⟩ | ⟨h2,h3,_⟩ | ⟨_,c,l,h2,h3,h4,h5,Y,ae⟩
   · exact ⟨by rw [h2,h3]; exact G.part,by rw [h2,h3]; exact G.tz,by rw [h2]; exact G.uniq⟩
   · exact ⟨by rw [h2,h3]; exact G.part,by rw [h2,h3]; exact G.tz,by rw [h2]; exact G.uniq⟩
   · have ac:∀ i,F.rules.length≤i→i < F.rules.length+l.length→∃ r,F'.rules[i]? =some r∧r.flag=c.flag∧r.kind=c.kind:=fun i I O=>by
      have C:i - F.rules.length < l.length:=ab
      refine ⟨l[i - F.rules.length],?_,?_⟩
      · rw [h3,nK I,bX C]
      · obtain ⟨_,_,h⟩:=ae _ (List.getElem_mem C); exact ⟨(Bn E.1 h).2.1,(Bn E.1 h).2.2.1⟩
     refine ⟨fun i r I=> ?_,fun d hd=> ?_,?_⟩
     · by_cases O:i < F.rules.length
       · rw [h3,mK O] at I
         obtain ⟨d,hd,C⟩:=G.part i r I
         exact ⟨d,by rw [h2]; exact sW _ hd,C⟩
       · have C:i < F.rules.length+l.length:=by
          have :=(eR.1 I).1; rw [h3,bJ] at this; exact this
         obtain ⟨ai,J,V⟩:=ac i ab C
         rw [I] at J; cases J
         exact ⟨c,by rw [h2]; exact qh _ (gK.2 aa),ab,ab,V⟩
     · rw [h2] at hd
       rcases iW.1 hd with hd | hd
       · obtain ⟨I,O⟩:=G.tz d hd
         refine ⟨by rw [h3,bJ]; omega,fun i C J=> ?_⟩
         obtain ⟨r,V,ad⟩:=O i C J
         exact ⟨r,by rw [h3,mK ab]; exact V,ad⟩
       · obtain rfl :=gK.1 hd
         refine ⟨by rw [h3,bJ]; omega,fun i C J=>ac i ab ab⟩
     · rw [h2,gV,rh]
       refine ⟨G.uniq,by simp,fun a ag b ah=> ?_⟩
       obtain ⟨d,hd,rfl⟩:=gW.1 ag
       obtain rfl :b=c.flag:=by simpa using ah
       unfold eA at Y
       rw [pk] at Y
       exact zQ Y.2 d hd
theorem PL {F:aC} {row:List Tx} {x:bg} (c:rr F) (h:fQ F row= .ok x):kA x.2:=by
 unfold fQ at h
 split at h
 · cases h
 · split at h
   · cases h
   · split at h
     · cases h
     · split at h
       · cases h
       · split at h
         · cases h; exact tY
         · split at h
           · cases h
           · rename_i set hs
             split at h
             · cases h; exact E9 c.1 hs
             · cases h
theorem PT {F:aC} (C:rr F) {eof:Nat} :∀ {n:Nat} {rows:List Rw} {r:List bg},eM F eof n rows= .ok r→∀ x∈r,kA x.2:=by
 intro n
 induction n with
 | zero=>
   intro rows r h
   cases rows with
   | nil=>rw [eM] at h; cases h; intro x c; cases c
   | cons q rows=>rw [eM] at h; cases h
 | succ n E=>
   intro rows r h
   cases rows with
   | nil=>rw [eM] at h; cases h
   | cons q rows=>
     rw [eM] at h
     split at h
     · cases h
     · rename_i x c
       split at h
       · cases h
       · rename_i h2
         cases h
         intro y A
         rcases ew.1 A with rfl | A
         · exact PL C c
         · exact E h2 y A
theorem Pm {F:aC} (c:rr F) {t:Tx} {xs:List bg} (h:fP F t= .ok xs):∀ x∈xs,kA x.2:=by
 unfold fP at h
 split at h
 · cases h
 · split at h
   · cases h
   · split at h
     · cases h
     · split at h
       · cases h
       · exact PT c h
theorem PN {F:aC} {row:List Tx} {x:bg} (h:fQ F row= .ok x):1≤x.1.length:=by
 unfold fQ at h
 split at h
 · cases h
 · split at h
   · cases h
   · split at h
     · cases h
     · rename_i A
       have h1:1≤(bD<|row.getD 0 []).1.length:=by
        rcases Nat.eq_zero_or_pos (bD<|row.getD 0 []).1.length with c | c
        · exact absurd (Or.inr<|gq c) A
        · exact c
       split at h
       · cases h
       · split at h
         · cases h; exact h1
         · split at h
           · cases h
           · split at h
             · cases h; exact h1
             · cases h
theorem PV {F:aC} {eof:Nat} :∀ {n:Nat} {rows:List Rw} {r:List bg},eM F eof n rows= .ok r→∀ x∈r,1≤x.1.length:=by
 intro n
 induction n with
 | zero=>
   intro rows r h
   cases rows with
   | nil=>rw [eM] at h; cases h; intro x c; cases c
   | cons q rows=>rw [eM] at h; cases h
 | succ n C=>
   intro rows r h
   cases rows with
   | nil=>rw [eM] at h; cases h
   | cons q rows=>
     rw [eM] at h
     split at h
     · cases h
     · rename_i x c
       split at h
       · cases h
       · rename_i h2
         cases h
         intro y A
         rcases ew.1 A with rfl | A
         · exact PN c
         · exact C h2 y A
theorem Pr {F:aC} {t:Tx} {xs:List bg} (h:fP F t= .ok xs):∀ x∈xs,1≤x.1.length:=by
 unfold fP at h
 split at h
 · cases h
 · split at h
   · cases h
   · split at h
     · cases h
     · split at h
       · cases h
       · exact PV h
theorem mz {F:aC} {fs:List Nat} {k i:Nat} :i∈aM F fs k↔i < F.rules.length∧(F.rules.getD i dq).kind=k∧(F.rules.getD i dq).flag∈fs:=by
 unfold aM; simp
theorem AQ (F:aC) (fs:List Nat) (k:Nat):(aM F fs k).Pairwise (· < ·):=XC _ yo
theorem se (F:aC) (fs:List Nat) (k:Nat):(aM F fs k).length≤F.rules.length:=by
 unfold aM; have :=mM (fun i=>decide ((F.rules.getD i dq).kind=k∧(F.rules.getD i dq).flag∈fs)) (fM F.rules.length); simpa using this
def fX (F:aC) (k f:Nat):List Nat:=match dO F.bB f with
 | some c=>if c.kind=k then (fM c.count).map (c.first+ ·) else []
 | none=> []
theorem EZ {cs:List dT} {x:Nat} {c:dT} (h:dO cs x=some c):c∈cs∧c.flag=x:=⟨List.mem_of_find?_eq_some h,by simpa using List.find?_some h⟩
theorem Ql:∀ {cs:List dT},(cs.map (·.flag)).Nodup→∀ c∈cs,dO cs c.flag=some c:=by
 intro cs
 induction cs with
 | nil=>intro _ c h; cases h
 | cons d cs E=>
   intro h c A
   rw [mO,ri] at h
   unfold dO
   rw [List.find?_cons]
   rcases ew.1 A with rfl | A
   · simp
   · have C:¬d.flag=c.flag:=fun h2=>h.1<|gW.2 ⟨c,A,h2.symm⟩
     rw [decide_eq_false C]
     exact E h.2 c A
theorem wO {F:aC} (A:oH F) {k f i:Nat} :i∈fX F k f↔i < F.rules.length∧(F.rules.getD i dq).kind=k∧(F.rules.getD i dq).flag=f:=by
 unfold fX
 constructor
 · intro h
   split at h
   · rename_i c C
     split at h
     · rename_i hk
       obtain ⟨j,O,rfl⟩:=gW.1 h
       rw [nP] at O
       have h1:=EZ C
       obtain ⟨h2,h3⟩:=A.tz c h1.1
       obtain ⟨r,h4,h5,E⟩:=h3 (c.first+j) ab ab
       refine ⟨ab,?_⟩
       rw [cU,h4]
       exact ⟨E.trans hk,h5.trans h1.2⟩
     · cases h
   · cases h
 · rintro ⟨h1,h2,h3⟩
   have h4:F.rules[i]? =some (F.rules.getD i dq):=by rw [cU,bX h1]; rfl
   obtain ⟨c,C,h5,E,I,J⟩:=A.part i _ h4
   have G:=Ql A.uniq c C
   rw [← I,h3] at G
   rw [G]
   simp only
   rw [if_pos (J.symm.trans h2)]
   exact gW.2 ⟨i - c.first,nP.2 ab,ab⟩
theorem NT (F:aC) (k f:Nat):(fX F k f).Nodup:=by
 unfold fX
 split
 · split
   · rw [List.Nodup,yq]
     exact XD (fun h=>by omega) yo
   · exact .nil
 · exact .nil
theorem GK {F:aC} (c:oH F) {k:Nat} :∀ {fs:List Nat},fs.Pairwise (· < ·)→(fs.flatMap<|fX F k).Nodup∧∀ i,i∈fs.flatMap (fX F k)↔i∈aM F fs k:=by
 intro fs h
 refine ⟨?_,fun i=> ?_⟩
 · induction fs with
   | nil=>exact .nil
   | cons f fs J=>
     rw [List.pairwise_cons] at h
     rw [jt,rh]
     refine ⟨NT F k f,J h.2,fun a C b A E=> ?_⟩
     subst E
     obtain ⟨g,I,A⟩:=nO.1 A
     have h1:=(wO c).1 C
     have h2:=(wO c).1 A
     have :=h.1 g I
     omega
 · rw [nO,mz]
   constructor
   · rintro ⟨f,G,hi⟩
     have h1:=(wO c).1 hi
     exact ⟨h1.1,h1.2.1,h1.2.2 ▸ G⟩
   · rintro ⟨h1,h2,h3⟩
     exact ⟨_,h3,(wO c).2 ⟨h1,h2,aa⟩⟩
theorem Vy {F:aC} (C:oH F) {fs:List Nat} (h:fs.Pairwise (· < ·)) (k:Nat):((fs.flatMap<|fX F k).map fun i:Nat=>(i:Int)).mergeSort (fun x y=>decide (x≤y))=(aM F fs k).map fun i:Nat=>(i:Int):=by
 obtain ⟨h1,h2⟩:=GK C (k:=k) h
 have hn:=AQ F fs k
 have hp:=(List.mergeSort_perm ((fs.flatMap<|fX F k).map fun i:Nat=>(i:Int)) fun x y=>decide (x≤y)).trans<|((List.perm_ext_iff_of_nodup h1<|hn.imp fun h=>by omega).2 h2).map _
 refine List.Perm.eq_of_pairwise (le:=fun x y:Int=>decide (x≤y)=true) ?_ (List.pairwise_mergeSort ?_ ?_ _) ?_ hp
 · intro a b _ _ h A; have :=of_decide_eq_true h; have :=of_decide_eq_true A; omega
 · intro a b c h A; have :=of_decide_eq_true h; have :=of_decide_eq_true A; exact decide_eq_true ab
 · intro a b; simp only [Bool.or_eq_true,decide_eq_true_eq]; omega
 · rw [yq]; exact hn.imp fun h=>decide_eq_true ab
def eo (l:List bo):Nat:=(l.map fun d=>d.cy.length).sum
theorem De (a b:List bo):eo (a++b)=eo a+eo b:=by unfold eo; rw [gV,List.sum_append]
theorem Lx (d:bo):eo [d]=d.cy.length:=by simp [eo]
theorem KZ {r:cJ} {w v:Tx} (h:dy r w=some v):r.strip.length < w.length∧v=(if r.kind=2 then w.take (w.length - r.strip.length)++r.add else r.add++w.drop r.strip.length):=by
 unfold dy at h
 split at h
 · rename_i c
   unfold gB at c
   rw [gp,decide_eq_true_eq] at c
   cases h
   exact ⟨c.1.2,aa⟩
 · cases h
theorem rF {r:cJ} {w v:Tx} (c:r.add.length≤32) (h:dy r w=some v):1≤v.length∧v.length≤w.length+32:=by
 obtain ⟨h1,rfl⟩:=KZ h
 split
 · rw [bJ,eE]; omega
 · rw [bJ,gI]; omega
theorem Bl {F:aC} (c:∀ q∈F.rules,pG q) (i:Nat):pG (F.rules.getD i dq):=by
 rw [cU]
 cases h:F.rules[i]? with
 | none=>exact ⟨ku _,ku _,ku _⟩
 | some q=>exact c q<|fU h
theorem ze {F:aC} (c:∀ q∈F.rules,pG q) {xs:List bg} {e:Nat} {word:Tx} {f s:Int} (h1:1≤word.length):∀ d∈eT F xs e word f s,1≤d.cy.length∧d.cy.length≤word.length+32∧d.dW=e∧d.fst=f∧d.snd=s:=by
 intro d hd
 unfold eT at hd
 rcases iW.1 hd with hd | hd
 · unfold kE at hd
   split at hd
   · obtain rfl :=gK.1 hd
     exact ⟨h1,Nat.le_add_right _ _,aa,aa,aa⟩
   · cases hd
 · obtain ⟨p,_,hp⟩:=List.mem_filterMap.1 hd
   unfold iO at hp
   split at hp
   · obtain ⟨v,A,rfl⟩:=mg.1 hp
     have :=rF (Bl c p).2.1 A
     exact ⟨this.1,this.2,aa,aa,aa⟩
   · cases hp
theorem Pc {F:aC} (c:∀ q∈F.rules,pG q) {xs:List bg} {e:Nat} (h1:1≤(xs.getD e ([],[])).1.length):∀ d∈gi F xs e,1≤d.cy.length∧d.cy.length≤(xs.getD e ([],[])).1.length +96∧d.dW=e:=by
 intro d hd
 unfold gi at hd
 rcases iW.1 hd with hd | hd
 · have :=ze c h1 d hd; exact ⟨this.1,ab,this.2.2.1⟩
 · obtain ⟨s,_,hd⟩:=nO.1 hd
   unfold gC at hd
   split at hd
   · cases hd
   · rename_i w hw
     have A:=rF (Bl c s).2.1 hw
     rcases iW.1 hd with hd | hd
     · have :=ze c A.1 d hd; exact ⟨this.1,ab,this.2.2.1⟩
     · obtain ⟨z,_,hd⟩:=nO.1 hd
       unfold jK at hd
       split at hd
       · cases hd
       · rename_i v E
         have C:=rF (Bl c z).2.1 E
         have :=ze c C.1 d hd; exact ⟨this.1,ab,this.2.2.1⟩
def l5 (n:Nat):List Int:=(-1)::(fM n).map fun i:Nat=>(i:Int)
noncomputable def fJ (F:aC) (L:List Nat) (n:Int) (w:Tx):Option Tx:=if n= -1 then some w else if n.toNat∈L then dy (F.rules.getD n.toNat dq) w else none
noncomputable def fR (F:aC) (xs:List bg) (e:Nat) (f s p:Int):Option Tx:=
 if f= -1∧s≠ -1 then none
 else (fJ F (aM F (flagsOf xs e) 2) f (xs.getD e ([],[])).1).bind fun w=>(fJ F (aM F (bI F f) 2) s w).bind fun v=>(fJ F (aM F (flagsOf xs e) 1) p v).bind fun u=>
  if eU F xs e f s p=true then some u else none
noncomputable def qB (F:aC) (xs:List bg) (e:Nat) (f s:Int):List bo:=(l5 F.rules.length).filterMap fun p=>(fR F xs e f s p).map fun u=>(⟨u,e,f,s,p⟩:bo)
noncomputable def tJ (F:aC) (xs:List bg) (e:Nat) (f:Int):List bo:=(l5 F.rules.length).flatMap<|qB F xs e f
theorem Qi {α β:Type} {l:List α} {f:α→Option β} (h:∀ x∈l,f x=none):l.filterMap f= []:=by
 induction l with
 | nil=>rfl
 | cons x l A=>rw [yf,h x (nN ..)]; exact A fun y c=>h y<|nM _ c
theorem zS {α β:Type} {l:List α} {f:α→List β} (h:∀ x∈l,f x= []):l.flatMap f= []:=by
 induction l with
 | nil=>rfl
 | cons x l A=>rw [jt,h x (nN ..),oB]; exact A fun y c=>h y<|nM _ c
theorem EX {α β:Type} (q:α→Bool) (f:α→List β):∀ l:List α,(l.filter q).flatMap f=l.flatMap fun x=>if q x=true then f x else []:=by
 intro l
 induction l with
 | nil=>rfl
 | cons x l c=>
   by_cases h:q x=true
   · rw [List.filter_cons_of_pos h,jt,jt,if_pos h,c]
   · rw [List.filter_cons_of_neg h,jt,if_neg h,c]; rfl
theorem Fc {α β:Type} {f g:α→List β} :∀ {l:List α},(∀ x∈l,f x=g x)→l.flatMap f=l.flatMap g:=by
 intro l h
 induction l with
 | nil=>rfl
 | cons x l A=>rw [jt,jt,h x (nN ..),A fun y c=>h y (nM _ c)]
theorem Qh {α β:Type} {f g:α→Option β} :∀ {l:List α},(∀ x∈l,f x=g x)→l.filterMap f=l.filterMap g:=by
 intro l h
 induction l with
 | nil=>rfl
 | cons x l A=>rw [yf,yf,h x (nN ..),A fun y c=>h y (nM _ c)]
theorem AP {F:aC} {fs:List Nat} {k i:Nat} (h:i < F.rules.length):decide ((F.rules.getD i dq).kind=k∧(F.rules.getD i dq).flag∈fs)=decide (i∈aM F fs k):=by
 rw [decide_eq_decide,mz]; exact ⟨fun h2=>⟨h,h2⟩,fun h2=>h2.2⟩
theorem qP {F:aC} {L:List Nat} (i:Nat) (w:Tx):fJ F L (i:Int) w=if i∈L then dy (F.rules.getD i dq) w else none:=by
 unfold fJ; rw [if_neg ab,Int.toNat_natCast]
theorem uC {F:aC} {L:List Nat} (w:Tx):fJ F L (-1) w=some w:=by unfold fJ; rw [if_pos rfl]
theorem zC {F:aC} {xs:List bg} {e:Nat} {f s:Int} {v:Tx} (h:∀ p,fR F xs e f s p=(fJ F (aM F (flagsOf xs e) 1) p v).bind fun u=>if eU F xs e f s p=true then some u else none):qB F xs e f s=eT F xs e v f s:=by
 unfold qB l5 eT
 rw [yf,List.filterMap_map]
 have h1:(fR F xs e f s<|-1).map (fun u=>(⟨u,e,f,s,-1⟩:bo))=if eU F xs e f s (-1)=true then some ⟨v,e,f,s,-1⟩ else none:=by
  rw [h,uC,pC]; split <;> rfl
 have h2:(fM F.rules.length).filterMap ((fun p=>(fR F xs e f s p).map fun u=>(⟨u,e,f,s,p⟩:bo))∘fun i:Nat=>(i:Int))=(aM F (flagsOf xs e) 1).filterMap (iO F xs e v f s):=by
  have h3:aM F (flagsOf xs e) 1=(fM F.rules.length).filter fun i=>decide ((F.rules.getD i dq).kind=1∧(F.rules.getD i dq).flag∈flagsOf xs e):=rfl
  rw [h3,List.filterMap_filter]
  refine Qh fun i hi=> ?_
  have hi:i < F.rules.length:=by simpa using hi
  rw [AP hi]
  show (fR F xs e f s (i:Int)).map _=_
  rw [h,qP]
  unfold iO
  by_cases h4:i∈aM F (flagsOf xs e) 1
  · rw [if_pos h4,if_pos (decide_eq_true h4)]
    cases dy (F.rules.getD i dq) v with
    | none=>simp
    | some u=>simp only [pC]; split <;> rfl
  · rw [if_neg h4,if_neg (by rw [decide_eq_false h4]; exact c7)]; rfl
 rw [h1,h2]
 unfold kE
 split
 · rename_i h3; split at h3
   · cases h3
   · rename_i h4; rw [if_neg h4]; rfl
 · rename_i x h3; split at h3
   · rename_i h4; cases h3; rw [if_pos h4]; rfl
   · cases h3
theorem tI {F:aC} {xs:List bg} {e:Nat} {f s:Int} (h:∀ p,fR F xs e f s p=none):qB F xs e f s= []:=Qi fun p _=>by rw [h p]; rfl
theorem zt (F:aC) (xs:List bg) (e:Nat):gi F xs e=(l5 F.rules.length).flatMap (tJ F xs e):=by
 unfold l5
 rw [jt,Jz]
 unfold gi
 congr 1
 · unfold tJ l5
   rw [jt,zS,eu,zC (v:=(xs.getD e ([],[])).1)]
   · intro p; unfold fR; rw [if_neg (fun h=>h.2 rfl),uC,pC,uC,pC]
   · intro s hs
     obtain ⟨j,_,rfl⟩:=gW.1 hs
     exact tI fun p=>by unfold fR; rw [if_pos ⟨aa,ab⟩]
 · have h3:aM F (flagsOf xs e) 2=(fM F.rules.length).filter fun i=>decide ((F.rules.getD i dq).kind=2∧(F.rules.getD i dq).flag∈flagsOf xs e):=rfl
   conv =>lhs; rw [h3]
   rw [EX]
   refine Fc fun i hi=> ?_
   have hi:i < F.rules.length:=by simpa using hi
   rw [AP hi]
   have hm:∀ s p,fR F xs e (i:Int) s p=(fJ F (aM F (flagsOf xs e) 2) (i:Int) (xs.getD e ([],[])).1).bind fun w=>(fJ F (aM F (bI F (i:Int)) 2) s w).bind fun v=>(fJ F (aM F (flagsOf xs e) 1) p v).bind fun u=>
    if eU F xs e (i:Int) s p=true then some u else none:=fun s p=>by unfold fR; rw [if_neg (fun h=>by have :=h.1; omega)]
   by_cases h4:i∈aM F (flagsOf xs e) 2
   · rw [if_pos (decide_eq_true h4)]
     unfold gC
     cases h5:dy (F.rules.getD i dq) (xs.getD e ([],[])).1 with
     | none=>
       have :∀ s p,fR F xs e (i:Int) s p=none:=fun s p=>by rw [hm,qP,if_pos h4,h5]; rfl
       exact (zS fun s _=>tI fun p=>this s p).symm
     | some w=>
       have A:∀ s p,fR F xs e (i:Int) s p=(fJ F (aM F (bI F (i:Int)) 2) s w).bind fun v=>(fJ F (aM F (flagsOf xs e) 1) p v).bind fun u=>if eU F xs e (i:Int) s p=true then some u else none:=fun s p=>by rw [hm,qP,if_pos h4,h5]; rfl
       simp only
       unfold tJ l5
       rw [jt,Jz,zC (v:=w) fun p=>by rw [A,uC]; rfl]
       congr 1
       have E:aM F (bI F (i:Int)) 2=(fM F.rules.length).filter fun z=>decide ((F.rules.getD z dq).kind=2∧(F.rules.getD z dq).flag∈bI F (i:Int)):=rfl
       conv =>lhs; rw [E]
       rw [EX]
       refine Fc fun z C=> ?_
       have C:z < F.rules.length:=by simpa using C
       rw [AP C]
       by_cases c:z∈aM F (bI F (i:Int)) 2
       · rw [if_pos (decide_eq_true c)]
         unfold jK
         cases h8:dy (F.rules.getD z dq) w with
         | none=>exact (tI fun p=>by rw [A,qP,if_pos c,h8]; rfl).symm
         | some v=>exact (zC (v:=v) fun p=>by rw [A,qP,if_pos c,h8]; rfl).symm
       · rw [if_neg (by rw [decide_eq_false c]; exact c7)]
         exact (tI fun p=>by rw [A,qP,if_neg c]; rfl).symm
   · rw [if_neg (by rw [decide_eq_false h4]; exact c7)]
     exact (zS fun s _=>tI fun p=>by rw [hm,qP,if_neg h4]; rfl).symm
end Go.Hb
section
namespace Go.Hb
structure Gw (B:Nat) (fp:Nat→Prop) (w:World) (fp':Nat→Prop) (w':World):Prop where
 sub:∀ k,fp' k→fp k∨w.heap.size≤k
 dv:∀ (k:Nat) (cs:Array Value) (e:Nat) (z:Nat×Nat),B≤k→¬fp k→w.heap[k]? =some (.cells cs e z)→w'.heap[k]? =some (.cells cs e z)
 size:w.heap.size≤w'.heap.size
section
variable {B B':Nat} {fp fp' fp'':Nat→Prop} {w w' w'':World}
theorem Gw.trans (h:Gw B fp w fp' w') (c:Gw B fp' w' fp'' w''):Gw B fp w fp'' w'':=
 ⟨fun k hk=>(c.sub k hk).elim (h.sub k) (fun h2=> .inr<|dS h.size h2),
  fun k cs e z A hn hk=>c.dv k cs e z A (fun h2=>(h.sub k h2).elim hn fun h3=>by have :=(bT.1 hk).1; omega) (h.dv k cs e z A hn hk),dS h.size c.size⟩
theorem Gw.mono (h:Gw B fp w fp' w') (c:B≤B'):Gw B' fp w fp' w':=⟨h.sub,fun k cs e z hk=>h.dv k cs e z (dS c hk),h.size⟩
theorem Gw.md {G:Nat→Prop} (hm:Md G w w') (c:∀ k,G k→fp k∨k < B) (hs:∀ k,fp' k→fp k∨w.heap.size≤k):Gw B fp w fp' w':=
 ⟨hs,fun k cs e z A hn hk=>by rw [hm.dv k (bT.1 hk).1 (fun h=>(c k h).elim hn fun h2=>by omega)]; exact hk,hm.size⟩
theorem Gw.wk (hm:Wk w w'):Gw B fp w fp w':=Gw.md hm (fun _ h=>h.elim) fun _ h=> .inl h
theorem Gw.own {e size n:Nat} {v:Value} {xs:List Value} (h:Gw B fp w fp' w') (c:w.ownsRow B e size v n xs) (C:∀ k,v.ownBlock=some k→¬fp k):w'.ownsRow B e size v n xs∧∀ k,v.ownBlock=some k→¬fp' k:=by
 refine ⟨⟨c.1,?_⟩,fun k hk h2=>(h.sub k h2).elim (C k hk) fun h3=>by have :=(da c hk).2; omega⟩
 rcases c.2 with h1 | ⟨g,cap,cur,E,A,G,h1⟩
 · exact .inl h1
 · exact .inr ⟨g,cap,cur,E,A,h.dv g cur e (0,0) A (C g<|by rw [E]; rfl) G,h1⟩
theorem Gw.az {k e:Nat} {cs:Array Value} {z:Nat×Nat} (h:Gw B fp w fp' w') (hk:w.heap[k]? =some (.cells cs e z)) (A:B≤k) (c:¬fp k):w'.heap[k]? =some (.cells cs e z)∧¬fp' k:=
 ⟨h.dv k cs e z A c hk,fun h2=>(h.sub k h2).elim c fun h3=>by have :=(bT.1 hk).1; omega⟩
end
def yx {α:Type} (B:Nat) (c:List α→(Nat→Prop)→World→Prop):Prop := ∀ pre fp W W' (F:Nat→Prop),c pre fp W→Md F W W'→(∀ k,F k→B≤k∧∀ cur e z,W.heap[k]? =some (.cells cur e z)→¬fp k)→c pre fp W'
section
variable {F fp:Nat→Prop} {W W':World} {B:Nat}
theorem iD {b e:Nat} {cs:Array Value} {z:Nat×Nat} (h:W.heap[b]? =some (.cells cs e z)) (hm:Md F W W') (A:b < B) (c:∀ k,F k→B≤k∧∀ cur e z,W.heap[k]? =some (.cells cur e z)→¬fp k):W'.heap[b]? =some (.cells cs e z):=by
 rw [hm.dv b (bT.1 h).1 (fun hk=>by have :=(c b hk).1; omega)]; exact h
theorem V6 {B' e size n:Nat} {v:Value} {xs:List Value} (h:W.ownsRow B' e size v n xs) (hm:Md F W W') (E:∀ k,v.ownBlock=some k→fp k) (c:∀ k,F k→B≤k∧∀ cur e z,W.heap[k]? =some (.cells cur e z)→¬fp k):W'.ownsRow B' e size v n xs:=
 cD h hm fun k hk A=>by
  rcases h.2 with ⟨rfl,_⟩ | ⟨g,cap,G,rfl,_,C,_⟩
  · simp [gH] at hk
  · simp only [gH,fO] at hk; subst hk; exact (c _ A).2 _ _ _ C<|E _ rfl
theorem V7 {w:World} (h:Wk w W) (hm:Md F W W') (C:w.heap.size≤B) (c:∀ k,F k→B≤k∧∀ cur e z,W.heap[k]? =some (.cells cur e z)→¬fp k):Wk w W':=Md.trans' h hm fun k hk A=>by have :=(c k A).1; omega
end
def Km {α:Type} (B:Nat) (c:Bool→List α→(Nat→Prop)→World→Prop):Prop := ∀ b pre fp W W' (F:Nat→Prop),c b pre fp W→Md F W W'→(∀ k,F k→B≤k∧¬fp k∧∃ cs e z,W.heap[k]? =some (.cells cs e z))→c b pre fp W'
structure Yc {α:Type} (P:Program) (l B:Nat) (encs:α→Array Value) (xs:List α) (Cap:World→Prop) (J:Bool→List α→(Nat→Prop)→World→Prop):Prop where
 cap:∀ b pre fp W,J b pre fp W→Cap W
 lt:∀ b pre fp W,J b pre fp W→∀ k,fp k→k < W.heap.size
 st:Km B J
 yl:∀ pre x rest fp W1,xs=pre++x::rest→J true pre fp W1→YieldAt ij 0 P l (encs x) W1 fun e W'=> ∃ b,e= .returned (.bool b)∧∃ fp',J b (pre++ [x]) fp' W'∧Gw B fp W1 fp' W'
theorem Yc.wk {α:Type} {P:Program} {l B:Nat} {C:α→Array Value} {xs:List α} {A:World→Prop} {c:Bool→List α→(Nat→Prop)→World→Prop} (h:Yc P l B C xs A c) {b:Bool} {pre:List α} {fp:Nat→Prop} {W W':World} (E:c b pre fp W) (hm:Wk W W'):c b pre fp W':=
 h.st _ _ _ _ _ _ E hm fun _ hk=>hk.elim
theorem Gw.Gy {B:Nat} {fp fp':Nat→Prop} {w c w':World} (h:Gw B fp w fp' c) {G:Nat→Prop} (hm:Md G c w') (C:∀ k,G k→w.heap.size≤k):Gw B fp w fp' w':=
 ⟨h.sub,fun k cs e z A hn hk=>by
  have h1:=(bT.1 hk).1
  rw [hm.dv k (Nat.lt_of_lt_of_le h1 h.size) (fun h2=>by have :=C k h2; omega)]; exact h.dv k cs e z A hn hk,dS h.size hm.size⟩
theorem Yc.ur {α:Type} {P:Program} {l B:Nat} {E:α→Array Value} {C:List α} {A:World→Prop} {c:Bool→List α→(Nat→Prop)→World→Prop} (h:Yc P l B E C A c) {b:Bool} {pre:List α} {fp:Nat→Prop} {W W':World} (I:c b pre fp W) {k e:Nat} {cs:Array Value} {z:Nat×Nat} (hk:W.heap[k]? =some (.cells cs e z)) (G:B≤k) (J:¬fp k) (hm:Md (fun q=>q=k) W W'):c b pre fp W':=
 h.st _ _ _ _ _ _ I hm fun q O=>by subst O; exact ⟨G,J,_,_,_,hk⟩
theorem Yc.W8 {α:Type} {P:Program} {l B:Nat} {E:α→Array Value} {xs:List α} {c A:World→Prop} {C:Bool→List α→(Nat→Prop)→World→Prop} (h:Yc P l B E xs c C) (I:∀ W,c W→A W):Yc P l B E xs A C:=
 ⟨fun b pre fp W G=>I W (h.cap b pre fp W G),h.lt,h.st,h.yl⟩
def yw {α:Type} (P:Program) (E:Nat) (G:Array Value) (C:α→Array Value) (xs:List α) (A:World→Prop):Prop :=
 ∀ (l:Nat) (c:Bool→List α→(Nat→Prop)→World→Prop) (W:World),c true [] (fun _=>False) W→Yc P l W.heap.size C xs A c→
   Calls P E (#[.func (.yield l) #[] #[]]++G) W fun e W'=>(∃ v,e= .returned v)∧∃ b pre fp,c b pre fp W'∧pre <+:xs∧(b=true→pre=xs)
def UY (id B:Nat) (fp:Nat→Prop) (W:World) (R:(Nat→Prop)→World→Prop) (X:Bool→(Nat→Prop)→World→Prop):Exit→(Nat→Value)→World→Prop
 | .normal,_,w=>eS W w∧∃ fp',Gw B fp W fp' w∧R fp' w
 | .exit i,_,w=>i=id∧eS W w∧∃ fp',Gw B fp W fp' w∧X false fp' w
 | .ret,_,w=>eS W w∧∃ fp',Gw B fp W fp' w∧X true fp' w
 | _,_,_=>False
def Aq (id:Nat):Bool→Code
 | true => .ret
 | false => .exit id
theorem yJ {α:Type} {f:α→List Value} {e:Nat} (x:α) (b:Nat) (W W':World) (F:Nat→Prop) (h:W.heap[b]? =some (.cells (f x).toArray e (0,0))) (hm:Md F W W') (c:∀ k,F k→∀ cur e z,W.heap[k]?≠some (.cells cur e z)):W'.heap[b]? =some (.cells (f x).toArray e (0,0)):=by
 rw [hm.dv b (bT.1 h).1 (fun hk=>c b hk _ _ _ h)]; exact h
def JX {α:Type} (c:List α→(Nat→Prop)→World→Prop) (X:Bool→List α→(Nat→Prop)→World→Prop) (S:World→Prop) (T:Bool→World→Prop):Bool→List α→(Nat→Prop)→World→Prop
 | true,pre,fp,W=>c pre fp W∧S W
 | false,pre,fp,W=> ∃ r,X r pre fp W∧T r W
theorem Bg {α:Type} {P:Program} {id n:Nat} {ad:List Deferred} {g:Operand} {ps:Array Tmp} {av body:Code} {Fx:List Nat} {σ:Nat→Value} {w:World} {B:Exit→Act→World→Prop} {ak:Nat} {al:Array Value}
 (ah:α→Array Value) (xs:List α) (ay:World→Prop) (E:List α→(Nat→Prop)→World→Prop) (X:Bool→List α→(Nat→Prop)→World→Prop) (aW:ev ⟨n,ad,Fx,none⟩ σ g= .func (.func ak) #[] al) (aT:bd P ak) (a4:∀ x,(ah x).size=ps.size)
 (aX:yw P ak al ah xs ay) (aN:E [] (fun _=>False) w) (aC:∀ pre fp W,E pre fp W→ay W∧∀ k,fp k→k < W.heap.size) (aD:∀ r pre fp W,X r pre fp W→ay W∧∀ k,fp k→k < W.heap.size) (ae:yx w.heap.size E) (ao:∀ r,yx w.heap.size (X r)) (A:α→Nat→World→Prop) (aL:∀ x b W W' (F:Nat→Prop),A x b W→Md F W W'→(∀ k,F k→∀ cur e z,W.heap[k]?≠some (.cells cur e z))→A x b W') (aI:α→Nat→Nat→Value)
 (aR:∀ (l:Nat) (x:α) (W:World) (K:(Nat→Value)→World→Prop),(∀ b W',Wk W W'→A x b W'→K (aI x b) W')→di P ⟨n,[],[],some l⟩ av (k9 K fun _ _ _=>False) ((ps.toList.zip (ah x).toList).foldl (fun s p=>c6 s p.1 p.2) σ) W)
 (aS:∀ (l:Nat) (pre:List α) (x:α) (rest:List α) (fp:Nat→Prop) (b:Nat) (W:World),xs=pre++x::rest→E pre fp W→A x b W→di P ⟨n,[],[],some l⟩ body (UY id w.heap.size fp W (E<|pre++ [x]) fun r=>X r<|pre++ [x]) (aI x b) W)
 (hd:∀ (D:Nat) (W:World),w.heap.size≤D→(∃ fp,E xs fp W)→W.heap[D]? =some (.deferred<|some [])→qb ⟨n,{target:= .collected D,args:= #[]} ::ad,Fx,none⟩ B .normal σ W)
 (a7:∀ (D:Nat) (W:World) (pre:List α),w.heap.size≤D→pre <+:xs→(∃ fp,X false pre fp W)→W.heap[D]? =some (.deferred<|some [])→qb ⟨n,{target:= .collected D,args:= #[]} ::ad,Fx,none⟩ B .normal σ W)
 (a8:∀ (D:Nat) (W:World) (pre:List α),w.heap.size≤D→pre <+:xs→(∃ fp,X true pre fp W)→W.heap[D]? =some (.deferred<|some [])→qb ⟨n,{target:= .collected D,args:= #[]} ::ad,Fx,none⟩ B .ret σ W):
 nA P ⟨n,ad,Fx,none⟩ (.block id<|.rangeFunc g ps av body) B σ w:=by
 refine wpIn_block<|wpIn_rangeFunc ?_
 intro fn _
 obtain ⟨rc,Z⟩:∃ rc:LoopState→Option Code→Loop,rc=fun st a9=> {state:=st,pending:=a9,fn,tmps:=(act ⟨n,ad,Fx,none⟩ σ).tmps,params:=ps,assign:=av,body,defers:=w.heap.size} :=⟨_,rfl⟩
 obtain ⟨I,an⟩:∃ I,(w.alloc<|.deferred<|some []).alloc (.loop<|rc .ready none)=I:=⟨_,rfl⟩
 have aQ:I.heap[w.heap.size+1]? =some (.loop<|rc .ready none):=by
  rw [← an]; have :=x6 (w.alloc<|.deferred<|some []) (.loop<|rc .ready none); rwa [Js] at this
 have aP:I.heap[w.heap.size]? =some (.deferred<|some []):=by
  rw [← an]; exact (Below.heap_alloc _ _ _<|by simp).trans<|x6 w _
 have bb:I.heap.size=w.heap.size+2:=by rw [← an]; simp
 have hn:∀ (W:World) (o:Obj),Wk W (W.alloc o):=fun W o=>(AW W o).md
 have aO:E [] (fun _=>False) I:=by rw [← an]; exact ae _ _ _ _ _ (ae _ _ _ _ _ aN (hn _ _) fun _ h=>h.elim) (hn _ _) fun _ h=>h.elim
 have aU:(act ⟨n,ad,Fx,none⟩ σ).eval g= .func (.func ak) #[] al:=by rw [gh]; exact aW
 refine ⟨w.heap.size+1,[{target:= .collected w.heap.size,args:= #[]}],I,{target:= .fn (.func ak) al,args:= #[.func (.yield<|w.heap.size+1) #[] #[]]},I,ak,
  #[.func (.yield<|w.heap.size+1) #[] #[]]++al,I,?_,?_,fun _ _=>trivial,?_,fun aK=>(by cases aK),?_⟩
 · rw [← an,Z]; exact run_enterLoop_outer _ _ _ _ _
 · simp only [resolve,aU]
   simp [go_sem]
 · have :=aT (#[.func (.yield<|w.heap.size+1) #[] #[]]++al) I
   simp [invoke,go_sem,this]
 ·
  have aj:∀ (E:List α→(Nat→Prop)→World→Prop),yx w.heap.size E→∀ (pre:List α) (fp:Nat→Prop) (W:World) (o am:Obj),E pre fp W→W.heap[w.heap.size+1]? =some o→(∀ cur e z,o≠.cells cur e z)→E pre fp (W.putObj (w.heap.size+1) am):=fun E ae pre fp W o am h1 h2 h3=>
   ae _ _ _ _ _ h1 (l1 W _ am) fun k hk=>⟨ab,fun cur e z h4=>by subst hk; rw [h2] at h4; exact absurd (rl h4)<|h3 _ _ _⟩
  have aE:∀ (fp:Nat→Prop) (W:World) (o am:Obj),W.heap[w.heap.size+1]? =some o→(∀ cur e z,o≠.cells cur e z)→Gw w.heap.size fp W fp (W.putObj (w.heap.size+1) am):=fun fp W o am h2 h3=>
   ⟨fun _ h=> .inl h,fun k cs e z _ _ hk=>by
    rw [nJ (fun h=>by subst h; rw [h2] at hk; exact h3 _ _ _<|rl hk)]; exact hk,by simp [Jr]⟩
  have aA:∀ {F:Nat→Prop} {A C:World},Md F A C→∀ (k:Nat) (o:Obj),A.heap[k]? =some o→¬F k→C.heap[k]? =some o:=fun hm k o aq aV=>by
   rw [hm.dv k (bT.1 aq).1 aV]; exact aq
  refine callsIn_wide.2 (j7 (aX (w.heap.size+1)
   (JX E X (fun W=>W.heap[w.heap.size+1]? =some (.loop<|rc .ready none)∧W.heap[w.heap.size]? =some (.deferred<|some [])) fun r W=>W.heap[w.heap.size+1]? =some (.loop<|rc .done<|some<|Aq id r)∧W.heap[w.heap.size]? =some (.deferred<|some []))
   I ⟨aO,aQ,aP⟩ ⟨fun b pre fp W h=>match b,h with
    | true,h=>(aC pre fp W h.1).1
    | false,⟨r,h,_⟩=>(aD r pre fp W h).1,fun b pre fp W h=>match b,h with
    | true,h=>(aC pre fp W h.1).2
    | false,⟨r,h,_⟩=>(aD r pre fp W h).2,?_,?_⟩) ?_)
  · intro b pre fp A C F h hm az
    have aB:∀ k,F k→w.heap.size≤k∧∀ cur e z,A.heap[k]? =some (.cells cur e z)→¬fp k:=fun k hk=>⟨by have :=(az k hk).1; omega,fun _ _ _ _=>(az k hk).2.1⟩
    have O:∀ (k:Nat) (o:Obj),A.heap[k]? =some o→(∀ cur e z,o≠.cells cur e z)→C.heap[k]? =some o:=fun k o aq a2=>aA hm k o aq fun hk=>by
     obtain ⟨cs,e,z,h5⟩:=(az k hk).2.2; rw [aq] at h5; exact a2 _ _ _<|rl h5
    cases b with
    | true =>exact ⟨ae _ _ _ _ _ h.1 hm aB,O _ _ h.2.1 (fun _ _ _ h=>by cases h),O _ _ h.2.2 fun _ _ _ h=>by cases h⟩
    | false =>
      obtain ⟨r,h1,h2,h3⟩:=h
      exact ⟨r,ao r _ _ _ _ _ h1 hm aB,O _ _ h2 (fun _ _ _ h=>by cases h),O _ _ h3 fun _ _ _ h=>by cases h⟩
  · rintro pre x rest fp W a6 ⟨hi,G,hk⟩
    have aG:=run_yield (P:=P) (args:=ah x) G<|by rw [Z]; exact a4 x
    rw [Z] at aG
    refine ⟨fn,_,av,body,aG,roundIn_of_wpIn (F:=ij) trivial ?_⟩
    have a5:((ps.zip<|ah x).foldl (fun tmps (p:Tmp×Value)=>tmps.setIfInBounds p.1 p.2) (act ⟨n,ad,Fx,none⟩ σ).tmps)=(act ⟨n,[],[],some<|w.heap.size+1⟩<|(ps.toList.zip (ah x).toList).foldl (fun s p=>c6 s p.1 p.2) σ).tmps:=by
     rw [← BZ,IQ]
     exact CO ⟨n,[],[],some<|w.heap.size+1⟩ _ σ
    have h1:=aR (w.heap.size+1) x W (fun ac W'=> ∃ aH,(I8<|w.heap.size+1).run P W'= .ok () aH∧
     body.wpIn (ij.inRound<|w.heap.size+1) 0 P (roundPost P (w.heap.size+1) fun e W'=> ∃ b,e= .returned (.bool b)∧∃ fp',JX E X (fun W=>W.heap[w.heap.size+1]? =some (.loop<|rc .ready none)∧W.heap[w.heap.size]? =some (.deferred<|some [])) (fun r W=>W.heap[w.heap.size+1]? =some (.loop<|rc .done<|some<|Aq id r)∧W.heap[w.heap.size]? =some (.deferred<|some [])) b (pre++ [x]) fp' W'∧Gw I.heap.size fp W fp' W') (act ⟨n,[],[],some<|w.heap.size+1⟩ ac) aH) ?_
    · unfold di at h1
      have aJ:({tmps:=(ps.zip<|ah x).foldl (fun tmps (p:Tmp×Value)=>tmps.setIfInBounds p.1 p.2) (act ⟨n,ad,Fx,none⟩ σ).tmps,defers:= []} :Act)=act ⟨n,[],[],some<|w.heap.size+1⟩ ((ps.toList.zip (ah x).toList).foldl (fun s p=>c6 s p.1 p.2) σ):=by rw [a5]; rfl
      rw [aJ]
      refine wpIn_mono h1 ?_
      intro e a w' Y
      cases e with
      | normal=>obtain ⟨ac,rfl,ag⟩:=Y; exact ag
      | panic c=>obtain ⟨ac,rfl,ag⟩:=Y; exact ag ac fun _ _=>rfl
      | outgrown=>exact Y.elim
      | _=>obtain ⟨ac,rfl,ag⟩:=Y; exact ag
    intro b V aw aM
    have hi:=ae _ _ _ _ _ hi aw fun _ h=>h.elim
    have G:=aA aw _ _ G fun h=>h
    have hk:=aA aw _ _ hk fun h=>h
    have a1:w.heap.size+1 < V.heap.size:=(bT.1 G).1
    refine ⟨_,run_beginRound G (by rw [Z]),?_⟩
    have a0:(V.putObj (w.heap.size+1)<|.loop {rc .ready none with state:= .busy}).heap[w.heap.size+1]? =some (.loop {rc .ready none with state:= .busy}):=x7 a1
    have aY:(V.putObj (w.heap.size+1)<|.loop {rc .ready none with state:= .busy}).heap[w.heap.size]? =some (.deferred<|some []):=(nJ ab).trans hk
    have a3:=aE fp V _ (.loop {rc .ready none with state:= .busy}) G fun _ _ _ h=>by cases h
    have h2:=aS (w.heap.size+1) pre x rest fp b _ a6 (aj E ae _ _ _ _ (.loop {rc .ready none with state:= .busy}) hi G fun _ _ _ h=>by cases h)<|aL _ _ _ _ _ aM (l1 V (w.heap.size+1) _) fun k hk cur e z h4=>by subst hk; rw [G] at h4; cases h4
    unfold di at h2
    refine wpIn_mono h2 ?_
    have fin:∀ (j:Option Code) (fp':Nat→Prop) (J:World),eS (V.putObj (w.heap.size+1)<|.loop {rc .ready none with state:= .busy}) J→Gw w.heap.size fp (V.putObj (w.heap.size+1)<|.loop {rc .ready none with state:= .busy}) fp' J→
     (Instr.endRound (w.heap.size+1) j).run P J= .ok (.bool j.isNone) (J.putObj (w.heap.size+1)<|.loop<|rc (if j.isNone then .ready else .done) j)∧
     J.heap[w.heap.size+1]? =some (.loop {rc .ready none with state:= .busy})∧
     (J.putObj (w.heap.size+1)<|.loop<|rc (if j.isNone then .ready else .done) j).heap[w.heap.size+1]? =some (.loop<|rc (if j.isNone then .ready else .done) j)∧
     (J.putObj (w.heap.size+1)<|.loop<|rc (if j.isNone then .ready else .done) j).heap[w.heap.size]? =some (.deferred<|some [])∧
     Gw I.heap.size fp W fp' (J.putObj (w.heap.size+1)<|.loop<|rc (if j.isNone then .ready else .done) j):=fun j fp' J O ai=>by
     have ax:=O _ _ a0 fun _ _ _ h=>by cases h
     have aZ:=O _ _ aY fun _ _ _ h=>by cases h
     have aF:=run_endRound (P:=P) j ax
     refine ⟨?_,ax,x7 (bT.1 ax).1,(nJ ab).trans aZ,((((Gw.wk aw).trans a3).trans ai).trans<|aE fp' _ _ _ ax fun _ _ _ h=>by cases h).mono ab⟩
     rw [Z] at aF ⊢
     exact aF
    intro e a J Y
    cases e with
    | normal=>
      obtain ⟨ac,rfl,O,fp',ai,ap⟩:=Y
      obtain ⟨f1,f2,f3,f4,f5⟩:=fin none fp' J O ai
      exact ⟨_,_,f1,true,aa,fp',⟨aj E ae _ _ _ _ _ ap f2 (fun _ _ _ h=>by cases h),f3,f4⟩,f5⟩
    | ret=>
      obtain ⟨ac,rfl,O,fp',ai,ap⟩:=Y
      obtain ⟨f1,f2,f3,f4,f5⟩:=fin (some .ret) fp' J O ai
      exact ⟨_,_,f1,false,aa,fp',⟨true,aj (X true) (ao true) _ _ _ _ _ ap f2 (fun _ _ _ h=>by cases h),f3,f4⟩,f5⟩
    | exit i=>
      obtain ⟨ac,rfl,rfl,O,fp',ai,ap⟩:=Y
      obtain ⟨f1,f2,f3,f4,f5⟩:=fin (some<|.exit i) fp' J O ai
      exact ⟨_,_,f1,false,aa,fp',⟨false,aj (X false) (ao false) _ _ _ _ _ ap f2 (fun _ _ _ h=>by cases h),f3,f4⟩,f5⟩
    | panic c=>obtain ⟨ac,rfl,ag⟩:=Y; exact (ag ac fun _ _=>rfl).elim
    | outgrown=>exact Y.elim
    | goto t=>obtain ⟨ac,rfl,ag⟩:=Y; exact ag.elim
  · rintro e ba ⟨⟨v,rfl⟩,b,pre,fp,hj,hpre,hb1⟩
    cases b with
    | true =>
      obtain ⟨hi,G,hk⟩:=hj
      obtain rfl :=hb1 rfl
      have au:=run_endLoop (P:=P) G<|by rw [Z]; simp
      rw [Z] at au
      refine ⟨none,_,au,?_⟩
      rw [Z] at G
      exact hd w.heap.size _ (cj _) ⟨fp,aj E ae _ _ _ _ _ hi G fun _ _ _ h=>by cases h⟩<|(nJ ab).trans hk
    | false =>
      obtain ⟨r,hi,G,hk⟩:=hj
      have au:=run_endLoop (P:=P) G<|by rw [Z]; simp
      rw [Z] at au
      refine ⟨some (Aq id r),_,au,?_⟩
      rw [Z] at G
      cases r with
      | true =>
        refine wpIn_ret ?_
        exact a8 w.heap.size _ pre (cj _) hpre ⟨fp,aj (X true) (ao true) _ _ _ _ _ hi G fun _ _ _ h=>by cases h⟩<|(nJ ab).trans hk
      | false =>
        refine wpIn_exit ?_
        unfold Exit.inBlock
        simp only [if_true]
        exact a7 w.heap.size _ pre (cj _) hpre ⟨fp,aj (X false) (ao false) _ _ _ _ _ hi G fun _ _ _ h=>by cases h⟩<|(nJ ab).trans hk
section
variable {P:Program} {N:Fm} {ops:Array Oper} {Q:Exit→(Nat→Value)→World→Prop} {rest:List Oper} {σ:Nat→Value} {w:World} {d':Option Nat} {d:Nat} {op:Op} {ty:TypeId} {pos :String} {af:Array Edge} {v:Value}
end
section
variable {P:Program} {n:Nat} {F:List Nat} {σ:Nat→Value} {w:World} {fn:Func} {R:Value→World→Prop}
theorem zI {r:ResultVar} {v:Value} (h:fn.results= #[r]) (h1:jw P ⟨n,[],F,none⟩ σ w r v) (c:R v w):qb ⟨n,[],F,none⟩ (Bm P fn R) .ret σ w:=AA (.inl rfl) (Bi h<|jq h1) c
theorem Qb {D:Nat} {r:ResultVar} {v:Value} (h:fn.results= #[r]) (c:w.heap[D]? =some (.deferred<|some [])) (h1:jw P ⟨n,[{target:= .collected D,args:= #[]}],F,none⟩ σ (w.putObj D<|.deferred none) r v) (A:R v (w.putObj D<|.deferred none)):
 qb ⟨n,[{target:= .collected D,args:= #[]}],F,none⟩ (Bm P fn R) .ret σ w:=
 ⟨B9,.inl ⟨_,_,rfl,run_takeDeferred c,⟨v,Bi h (jq h1),v,rfl,A⟩⟩⟩
theorem EP {r s q:ResultVar} {v u z:Value} (h:fn.results= #[r,s,q]) (h1:jw P ⟨n,[],F,none⟩ σ w r v) (h2:jw P ⟨n,[],F,none⟩ σ w s u) (h3:jw P ⟨n,[],F,none⟩ σ w q z) (c:R (.tuple #[v,u,z]) w):qb ⟨n,[],F,none⟩ (Bm P fn R) .ret σ w:=AA (.inl rfl) (Bj h (jq h1) (jq h2)<|jq h3) c
theorem vX {D:Nat} {r s q:ResultVar} {v u z:Value} (h:fn.results= #[r,s,q]) (c:w.heap[D]? =some (.deferred<|some [])) (h1:jw P ⟨n,[{target:= .collected D,args:= #[]}],F,none⟩ σ (w.putObj D<|.deferred none) r v) (h2:jw P ⟨n,[{target:= .collected D,args:= #[]}],F,none⟩ σ (w.putObj D<|.deferred none) s u) (h3:jw P ⟨n,[{target:= .collected D,args:= #[]}],F,none⟩ σ (w.putObj D<|.deferred none) q z) (A:R (.tuple #[v,u,z]) (w.putObj D<|.deferred none)):
 qb ⟨n,[{target:= .collected D,args:= #[]}],F,none⟩ (Bm P fn R) .ret σ w:=
 ⟨B9,.inl ⟨_,_,rfl,run_takeDeferred c,⟨.tuple #[v,u,z],Bj h (jq h1) (jq h2) (jq h3),_,rfl,A⟩⟩⟩
theorem lP {b off D:Nat} {o G:Obj} {v:Value} (A:Hb.aJ w.heap b off =some v) (C:w.heap[D]? =some o) (hn:∀ cur e z,o≠.cells cur e z):Hb.aJ (w.putObj D G).heap b off =some v:=by
 have E:b≠D:=fun h=>by
  subst h
  unfold Hb.aJ at A
  rw [C] at A
  cases o with
  | cells c e z=>exact hn _ _ _ rfl
  | _=>cases A
 unfold Hb.aJ at A ⊢
 rw [nJ E]; exact A
end
def zO (P:Program) (s f:Nat):Option Nat:=
 match P.underlying s with
 | some (.struct fs)=>match fs[f]? with
   | some fd=>if dt P fd.type=some none then some fd.offset else none
   | none=>none
 | _=>none
theorem U6 {P:Program} {t:Nat} (hu:dt P t=some none) (w:World):(isAgg t).run P w= .ok false w:=by
 unfold dt at hu
 cases hd:P.underlying t with
 | none=>rw [hd] at hu; cases hu
 | some d=>
   rw [hd] at hu
   cases d <;> first
    | (simp only [mg] at hu; obtain ⟨_,_,h⟩:=hu; cases h; done)
    | simp [isAgg,db hd]
theorem zK {P:Program} {N:Fm} {σ:Nat→Value} {w:World} {dst:Option Nat} {ty:TypeId} {pos :String} {af:Array Edge} {g:Option (Nat×Bool)} {x:Operand} {s f n:Nat} {cs:Array Value} {v:Value} (c:zO P s f=some n) (G:ev N σ x= .agg cs) (E:cs[n]? =some v):
 (execOp (ev N σ) ⟨dst,.field s x f,ty,pos,af,g⟩).run P w= .ok (.value v) w:=by
 unfold zO at c
 split at c
 · rename_i fs hu
   split at c
   · rename_i fd C
     split at c
     · rename_i A
       cases c
       simp [execOp,Ja,db hu,C,G,asAgg,part,U6 A,E]
     · cases c
   · cases c
 · cases c
section
variable {P:Program} {ops:Array Oper} {Q:Exit→Act→World→Prop} {S:World→Prop} {md:q4}
theorem IF {i:Nat} {o:Oper} {v:Value} {a:Act} (hi:ops[i]? =some o) (C:YieldsIf P ops S o v a) {K:Act→World→Prop} {w:World} (c:S w) (h:K (a.put o.dst v) w):wpOpIn ij 0 P ops Q i K a w:=by
 unfold wpOpIn
 simp only [hi]
 rcases C with ⟨hw,A⟩ | ⟨hw,rfl⟩
 · rw [if_pos hw]
   refine ⟨fun _ _=>trivial,?_⟩
   rw [show ij.round=none from rfl,uU,A w c]
   exact h
 · rw [if_neg (by rw [hw]; exact c7)]; exact ⟨fun _ _=>trivial,h⟩
theorem Xl {j:Nat} {A E:Oper} {v:Value} (O:ops[j]? =some E) (J:A.apart ops E=true)
 (V:∀ cs b,A.op≠.select cs b) (Y:∀ cs b,E.op≠.select cs b)
 (G:∀ c a w,Q (.panic c) (a.put A.dst v) w→Q (.panic c) a w) {K:Act→World→Prop} {a:Act} {w:World}
 (C:YieldsIf P ops S A v a) (h:wpOpIn ij 0 P ops Q j K (a.put A.dst v) w):
 wpOpIn ij 0 P ops Q j (fun I w'=>YieldsIf P ops S A v I∧K (I.put A.dst v) w') a w:=by
 obtain ⟨h1,h2,h3⟩:=Oper.apart_spec J
 have dv:∀ (a:Act),YieldsIf P ops S A v a→∀ u,YieldsIf P ops S A v (a.put E.dst u):=fun a C u=>
  C.of_same (execOp_put A V a E.dst u h3) (wanted_put A a E.dst u h3)
 have Z:∀ d,YieldsIf P ops S A v {a with defers:=d::a.defers} :=fun d=>C.of_same rfl rfl
 unfold wpOpIn at*
 simp only [O] at*
 rw [wanted_put E a A.dst v h1] at h
 split
 · rename_i hw
   simp only [hw,if_true] at h
   unfold Oper.wpIn at*
   refine ⟨fun _ _=>trivial,?_⟩
   have h:=h.2
   rw [show ij.round=none from rfl,uU,execOp_put E Y a A.dst v h1] at h
   rw [show ij.round=none from rfl,uU]
   generalize (execOp a.eval E).run P w=r at*
   cases r with
   | ok x w'=>
     cases x <;> simp only [qa] at h ⊢
     case value u=>exact ⟨dv a C u,by rw [← qU a v u h2]; exact h⟩
     case skip =>exact ⟨dv a C _,by rw [← qU a v undef h2]; exact h⟩
     case defer d=>
      refine ⟨dv _ (Z d) _,?_⟩
      rw [← qU _ v undef h2,← Act.put_defers]
      exact h
     case enter f args=>
      refine ⟨h.1,B8 h.2 fun e w'' he=> ?_⟩
      cases e with
      | returned u=>exact ⟨dv a C u,by rw [← qU a v u h2]; exact he⟩
      | panicked c=>exact G _ _ _ he
      | outgrown=>exact he
     case row row args=>exact ⟨h.1,Cp h.2 fun u w'' he=>⟨dv a C u,by rw [← qU a v u h2]; exact he⟩⟩
     case round l f tmps assign body=>
      refine ⟨h.1,Cn h.2 fun e w'' he=> ?_⟩
      cases e with
      | returned u=>exact ⟨dv a C u,by rw [← qU a v u h2]; exact he⟩
      | panicked c=>exact G _ _ _ he
      | outgrown=>exact he
   | halt x w'=>
     cases x <;> simp only [qa] at h ⊢
     case panic u=>exact G _ _ _ h
 · rename_i hw
   simp only [hw] at h
   exact ⟨fun _ _=>trivial,dv a C _,by rw [← qU a v undef h2]; exact h.2⟩
def o8 (P:Program) (md:q4) (ops:Array Oper) (Q:Exit→Act→World→Prop) (S:World→Prop):Nat→Array Bool→Act→World→Prop
 | 0,aW,a,w=>iF md ops aW= []∧Q .normal a w
 | fuel+1,aW,a,w=>
   (iF md ops aW= []→Q .normal a w)∧
   ∀ i∈iF md ops aW,wpOpIn ij 0 P ops Q i (fun c w'=>S w'∧o8 P md ops Q S fuel (aW.setIfInBounds i true) c w') a w
theorem It:∀ (fuel:Nat) (aW:Array Bool) (a:Act) (w:World),o8 P md ops Q S fuel aW a w→wpAnyIn ij 0 P md ops Q fuel aW a w
 | 0,_,_,_,h=>h
 | fuel+1,_,_,_,h=>⟨h.1,fun i hi=>wpOpIn_mono (fun c w' A=>It fuel _ c w' A.2)<|h.2 i hi⟩
theorem Xg {i:Nat} {E:Oper} {v:Value} (hi:ops[i]? =some E) (ad:∀ (j:Nat) (o:Oper) cs b,ops[j]? =some o→o.op≠.select cs b)
 (ah:∀ c a w,Q (.panic c) (a.put E.dst v) w→Q (.panic c) a w):
 ∀ (fuel:Nat) (aW:Array Bool) (a:Act) (w:World),
   (∀ j G,ops[j]? =some G→j≠i→aW.getD j true =false→(∀ e∈G.after,js md e=true→e.on≠i)→E.apart ops G=true)→
   i∈iF md ops aW→YieldsIf P ops S E v a→S w→
   o8 P md ops Q S fuel (aW.setIfInBounds i true) (a.put E.dst v) w→o8 P md ops Q S (fuel+1) aW a w:=by
 intro fuel
 induction fuel with
 | zero=>
   intro aW a w _ C O I H
   refine ⟨fun h=>(by rw [h] at C; cases C),fun j J=> ?_⟩
   by_cases A:j=i
   · subst A; exact IF hi O I ⟨I,H⟩
   · have :=ready_mono J A
     rw [H.1] at this
     cases this
 | succ fuel ao=>
   intro aW a w aa C O I H
   refine ⟨fun h=>(by rw [h] at C; cases C),fun j J=> ?_⟩
   by_cases A:j=i
   · subst A; exact IF hi O I ⟨I,H⟩
   · have h1:=H.2 j<|ready_mono J A
     obtain ⟨ac,G,Y,ai⟩:=mem_ready.1 J
     have an:∀ e∈G.after,js md e=true→e.on≠i:=fun e he aj heq=>by
      have h1:=ai e he aj
      have Z:=(mem_ready.1 C).1
      rw [heq] at h1
      rcases Nat.lt_or_ge i aW.size with V | V
      · simp [V] at Z h1; rw [Z] at h1; cases h1
      · simp [Array.getElem?_eq_none V] at h1
     have h2:=Xl Y (aa j G Y A ac an) (fun cs b=>ad i E cs b hi) (fun cs b=>ad j G cs b Y) ah O h1
     have ak:∀ k ok,ops[k]? =some ok→k≠i→(aW.setIfInBounds j true).getD k true =false→
      (∀ e∈ok.after,js md e=true→e.on≠i)→E.apart ops ok=true :=fun k ok hk al ae am=>by
      refine aa k ok hk al ?_ am
      by_cases ab:j=k
      · subst ab; exact ac
      · rw [getD_set_ne true ab] at ae; exact ae
     refine wpOpIn_mono (fun ag w' h3=>⟨h3.2.1,ao (aW.setIfInBounds j true) ag w' ak (ready_mono C<|Ne.symm A) h3.1 h3.2.1 ?_⟩) h2
     rw [Array.setIfInBounds_comm _ _ A]
     exact h3.2.2
theorem BU {i:Nat} {A:Oper} {v:Value} {fuel:Nat} {aW:Array Bool} {a:Act} {w:World} (hi:ops[i]? =some A)
 (hs:Region.noSelect ops=true) (G:Region.free md ops aW i=true) (I:(iF md ops aW).contains i=true)
 (C:∀ c a w,Q (.panic c) (a.put A.dst v) w→Q (.panic c) a w) (J:YieldsIf P ops S A v a) (E:S w)
 (h:o8 P md ops Q S fuel (aW.setIfInBounds i true) (a.put A.dst v) w):o8 P md ops Q S (fuel+1) aW a w:=
 Xg hi (Region.noSelect_spec hs) C fuel aW a w (Region.free_spec hi G) (by simpa using I) J E h
theorem Iu {i:Nat} {fuel:Nat} {aW:Array Bool} {a:Act} {w:World} (G:kM ops aW i=true)
 (h:wpOpIn ij 0 P ops Q i (fun E w'=>S w'∧o8 P .any ops Q S fuel (aW.setIfInBounds i true) E w') a w):o8 P .any ops Q S (fuel+1) aW a w:=by
 have C:iF .any ops aW= [i]:=by simpa [kM] using G
 exact ⟨fun c=>(by rw [C] at c; cases c),fun j A=>by rw [C] at A; obtain rfl :=gK.1 A; exact h⟩
end
def kO (P:Program) (N:Fm) (ops:Array Oper) (Q:Exit→(Nat→Value)→World→Prop) (S:World→Prop) (fuel:Nat) (aW:Array Bool) (σ:Nat→Value) (w:World):Prop :=
 o8 P .any ops (lift N Q) S fuel aW (act N σ) w
section
variable {P:Program} {N:Fm} {ops:Array Oper} {Q:Exit→(Nat→Value)→World→Prop} {σ:Nat→Value} {w:World} {d':Option Nat} {d:Nat} {op:Op} {ty:TypeId} {pos :String} {af:Array Edge} {v:Value}
variable {S:World→Prop} {fuel:Nat} {aW:Array Bool}
theorem IG {id:Nat} {l:List Oper} (S:World→Prop) (c:N.r=none) (hm:P.follows .mixedOrders=true) (A:S w.drew) (h:kO P N l.toArray Q S l.length (sL l.length false) σ w.drew):di P N (.region id l.toArray true) Q σ w:=by
 unfold di
 rw [c]
 exact wpIn_region_any hm<|It _ _ _ _<|by rw [nR]; exact h
theorem yp (i:Nat) (hi:ops[i]? =some ⟨some d,op,ty,pos,af,none⟩) (A:iT N.F ops aW i=true)
 (E:∀ w,S w→(execOp (ev N σ) ⟨some d,op,ty,pos,af,none⟩).run P w= .ok (.value v) w) (C:S w)
 (k:kO P N ops Q S fuel (aW.setIfInBounds i true) (c6 σ d v) w):kO P N ops Q S (fuel+1) aW σ w:=by
 simp only [iT,gp] at A
 refine BU hi A.1.1.1 A.1.1.2 A.1.2 (fun c a w=>oX (by have :=A.2; rwa [hi] at this) c a w) (.inl ⟨jg _ rfl _,fun w C=> ?_⟩) C ?_ (v:=v)
 · rw [gh]; exact E w C
 · rw [jl]; exact k
theorem mG (i:Nat) {j t:Nat} {want:Bool} (hi:ops[i]? =some ⟨some d,op,ty,pos,af,some (j,want)⟩) (A:iT N.F ops aW i=true)
 (E:jF ops j=some t) (G:fV t N.n=true) (I:σ t= .bool want)
 (J:∀ w,S w→(execOp (ev N σ) ⟨some d,op,ty,pos,af,some (j,want)⟩).run P w= .ok (.value v) w) (C:S w)
 (k:kO P N ops Q S fuel (aW.setIfInBounds i true) (c6 σ d v) w):kO P N ops Q S (fuel+1) aW σ w:=by
 simp only [iT,gp] at A
 refine BU hi A.1.1.1 A.1.1.2 A.1.2 (fun c a w=>oX (by have :=A.2; rwa [hi] at this) c a w) (.inl ⟨by rw [o6 aa E G I]; cases want <;> rfl,fun w C=> ?_⟩) C ?_ (v:=v)
 · rw [gh]; exact J w C
 · rw [jl]; exact k
theorem lI (i:Nat) {j t:Nat} {want b:Bool} (hi:ops[i]? =some ⟨some d,op,ty,pos,af,some (j,want)⟩) (A:iT N.F ops aW i=true)
 (G:jF ops j=some t) (I:fV t N.n=true) (J:σ t= .bool b) (E:(b==want)=false) (C:S w)
 (k:kO P N ops Q S fuel (aW.setIfInBounds i true) (c6 σ d undef) w):kO P N ops Q S (fuel+1) aW σ w:=by
 simp only [iT,gp] at A
 refine BU hi A.1.1.1 A.1.1.2 A.1.2 (fun c a w=>oX (by have :=A.2; rwa [hi] at this) c a w) (.inr ⟨by rw [o6 aa G I J,E],aa⟩) C ?_ (v:=undef)
 rw [jl]; exact k
theorem Xi {Q:Exit→Act→World→Prop} {o:Oper} {K:(Nat→Value)→World→Prop} {G:Act→World→Prop} (h:cH P N o σ w K) (hk:∀ σ w,K σ w→G (act N σ) w):o.wpIn ij 0 P (act N σ) w G Q:=by
 refine ⟨fun _ _=>trivial,?_⟩
 rw [show ij.round=none from rfl,uU]
 unfold cH ji at h
 generalize (execOp (act N σ).eval o).run P w=x at h ⊢
 cases x with
 | ok n w'=>
   cases n <;> simp only [kr,qa] at h ⊢ <;>
    first
     | (obtain ⟨I,C,A⟩:=h; rw [C]; exact hk _ _ A)
     | (refine ⟨fun E=>(by cases E),B8 (callsIn_wide.2 h) fun e w'' he=> ?_⟩
        cases e with
        | returned v=>obtain ⟨I,C,A⟩:=he; simp only; rw [C]; exact hk _ _ A
        | panicked c=>exact he.elim
        | outgrown=>obtain ⟨_,_,J⟩:=he; exact J.elim)
     | (refine ⟨fun E=>(by cases E),Cp (zN (r:=none) h) fun v w'' he=> ?_⟩
        obtain ⟨I,C,A⟩:=he; rw [C]; exact hk _ _ A)
 | halt x w'=>cases x <;> simp only [kr] at h
theorem ye (i:Nat) (hi:ops[i]? =some ⟨d',op,ty,pos,af,none⟩) (c:kM ops aW i=true)
 (h:cH P N ⟨d',op,ty,pos,af,none⟩ σ w (fun σ w=>S w∧kO P N ops Q S fuel (aW.setIfInBounds i true) σ w)):kO P N ops Q S (fuel+1) aW σ w:=by
 refine Iu c ?_
 unfold wpOpIn
 simp only [hi]
 rw [if_pos (jg _ rfl _)]
 exact Xi h fun _ _ hk=>hk
theorem IH {l:Nat} {fo:Operand} {args:Array Operand} {A:Array TypeId} {R:Bool→World→Prop} (i:Nat) {j t:Nat} {want:Bool} {L:List Value} (hi:ops[i]? =some ⟨some d,.call ⟨.value fo,args,A⟩,ty,pos,af,some (j,want)⟩) (O:kM ops aW i=true)
 (J:jF ops j=some t) (Y:fV t N.n=true) (Z:σ t= .bool want) (I:ev N σ fo= .func (.yield l) #[] #[]) (E:args.toList.map (ev N σ)=L)
 (ab:YieldAt ij 0 P l L.toArray w fun e W'=> ∃ b,e= .returned (.bool b)∧R b W') (k:∀ b W',R b W'→S W'∧kO P N ops Q S fuel (aW.setIfInBounds i true) (c6 σ d<|.bool b) W'):
 kO P N ops Q S (fuel+1) aW σ w:=by
 refine Iu O ?_
 unfold wpOpIn
 simp only [hi]
 rw [if_pos (by rw [o6 rfl J Y Z]; cases want <;> rfl)]
 obtain ⟨fn,tmps,a,b,V,G⟩:=ab
 refine ⟨fun _ _=>trivial,?_⟩
 rw [show ij.round=none from rfl,uU,gh]
 have hm:args.map (ev N σ)=L.toArray:=by rw [← E,← lJ]
 have aa:(execOp (ev N σ) ⟨some d,.call ⟨.value fo,args,A⟩,ty,pos,af,some (j,want)⟩).run P w= .ok (.round l fn tmps a b) w:=by
  simp [execOp,resolve,I,pn,invoke,hm,V]
 rw [aa]
 simp only [qa]
 refine ⟨fun C=>(by cases C),Cn G ?_⟩
 rintro e W' ⟨c,rfl,hw⟩
 simp only
 rw [jl]
 exact k c W' hw
theorem yn (A:(iF .any ops aW).isEmpty=true) (h:Q .normal σ w):kO P N ops Q S fuel aW σ w:=by
 have c:iF .any ops aW= []:=by simpa using A
 cases fuel with
 | zero=>exact ⟨c,σ,rfl,h⟩
 | succ n=>exact ⟨fun _=>⟨σ,rfl,h⟩,fun i hi=>by rw [c] at hi; cases hi⟩
theorem IE {t:Nat} {b:Bool} (h:σ t= .bool b) (A:b=true→kO P N ops Q S fuel aW (c6 σ t<|.bool true) w) (c:b=false→kO P N ops Q S fuel aW (c6 σ t<|.bool false) w):kO P N ops Q S fuel aW σ w:=by
 cases b
 · have :=c rfl; rwa [o4 h] at this
 · have :=A rfl; rwa [o4 h] at this
end
attribute [irreducible] kO
end Go.Hb
end
namespace Go.Hb
theorem GW {b:UInt8} {m:Int} (h:48≤b.toNat∧b.toNat≤57) (hm:((b.toNat - 48:Nat):Int)≤m):eH [b] m= .ok (b.toNat - 48):=by
 have c:fY [b]=b.toNat - 48:=by simp [fY]
 have A:¬qG [b]:=by rintro (h | ⟨h,_⟩) <;> simp at h
 have hd:zu [b]:=fun i hi=>by
  have hi:i=0:=by simpa using hi
  subst hi
  exact decide_eq_true h
 unfold eH
 rw [GU A hd (by rw [c]; omega),c]
 rfl
theorem BT:eN 1 [65]=65:=by unfold eN; decide+kernel
theorem W9:iU iN [65]= .ok 65:=by
 unfold iU iS iN
 simp only
 rw [BT]
 simp [eA,dO]
theorem Xa:kW 1 [65]= .ok [65]:=by
 have h1:eD 1 [65]= [[65]]:=by decide+kernel
 have h:e5 1 [65]=([65],0):=by
  unfold e5
  rw [h1,if_neg (by simp),if_neg (by simp [BT]),if_neg (by simp),mO,List.map_nil,BT]
  decide+kernel
 unfold kW
 rw [h]; rfl
end Go.Hb
section
namespace Go.Hb
section
variable {P:Program} {n:Nat} {Fx:List Nat} {σ:Nat→Value} {w:World} {fn:Func} {R:Value→World→Prop} {B:Exit→Act→World→Prop} {N:Fm}
variable {S:List Nat→(Nat→Value)→World→Prop}
end
theorem GG (o:Nat):∀ (r:List Value) (m:Nat) (pre A:List Value),pre.length=o+m→r.length≤A.length→
 (r.zipIdx m).foldl (fun (cs:Array Value) (c,j)=>cs.setIfInBounds (o+j) c) (pre++A).toArray=(pre++r++A.drop r.length).toArray
 | [],m,pre,A,_,_=>by simp
 | c::r,m,pre,A,hp,hl=>by
   cases A with
   | nil=>simp at hl
   | cons z A=>
     rw [yt,sT]
     have h1:(pre++z::A).toArray.setIfInBounds (o+m) c=((pre++ [c])++A).toArray:=by rw [← hp]; simp
     show List.foldl _ ((pre++z::A).toArray.setIfInBounds (o+m) c) _=_
     rw [h1,GG o r (m+1) (pre++ [c]) A (by simp; omega) (by simpa using hl)]
     simp
theorem EW {size:Nat} :∀ (rest:List (List Value)) (m:Nat) (pre A:List Value),pre.length=m*size→A.length=rest.length*size→(∀ r∈rest,r.length=size)→
 l9 (fun i=>some (i*size,size)) (pre++A).toArray ((rest.zipIdx m).map fun q=>(q.2,bA q.1.toArray))=some (pre++rest.flatten).toArray
 | [],m,pre,A,_,hz,_=>by
   obtain rfl :A= []:=gq<|by simpa using hz
   rfl
 | r::rest,m,pre,A,hp,hz,hr=>by
   have C:=hr r<|nN ..
   have I:A.length=rest.length*size+size:=by rw [hz,bS,nT]
   rw [yt,mO]
   have E:(bA r.toArray).cells=r.toArray:=by simp [Value.cells]
   simp only [l9,E]
   rw [if_neg (by simp; omega)]
   have h1:=GG (m*size) r 0 pre A ab ab
   have h2:(r.toArray.zipIdx.foldl (fun (cs:Array Value) (c,j)=>cs.setIfInBounds (m*size+j) c) (pre++A).toArray)=(pre++r++A.drop r.length).toArray:=by
    rw [← h1,← BZ]; simp
   rw [h2,EW rest (m+1) (pre++r) (A.drop r.length) (by rw [bJ,hp,C,nT]) (by rw [gI]; omega) (fun x G=>hr x<|nM _ G)]
   simp
section
variable {P:Program} {N:Fm} {σ:Nat→Value} {w:World} {dst:Option Nat} {ty:TypeId} {pos :String} {af:Array Edge} {g:Option (Nat×Bool)} {K:(Nat→Value)→World→Prop}
theorem Lu {t e size bytes n:Nat} {ps:Array (Nat×Operand)} (rows:List (List Value)) (J:gy P t e size bytes=true) (hp:ps.toList.map (fun p=>(p.1,ev N σ p.2))=(rows.zipIdx 0).map fun q=>(q.2,bA q.1.toArray))
 (C:rows.all (fun r=>r.length==size)=true) (hn:rows.length=n) (hs:(mP (n*size) 1000 && fV 0 n && mP n 1000)=true)
 (k:∀ b w',b=w.heap.size→Nw w w'→w'.heap[b]? =some (.cells rows.flatten.toArray e (0,0))→K (fq σ dst<|.slice (some ⟨b,0,none⟩) n n) w'):cH P N ⟨dst,.buildSlice t n ps,ty,pos,af,g⟩ σ w K:=by
 subst hn
 refine mF (v:=fun b=> .slice (some ⟨b,0,none⟩) rows.length rows.length) (ob:= .cells rows.flatten.toArray e (0,0)) ?_ k
 obtain ⟨hu,i,zv,hi,O,c,h2,h3,h4⟩:=pX J
 simp only [gp] at hs
 have G:rows.length*size≤1000:=by simpa using hs.1.1
 have Y:rows.length≤1000:=by simpa using hs.2
 have I:0 < rows.length:=by have :=qi hs.1.2; omega
 have A:l9 (fun i=>some (i*size,size)) ((ph<|rows.length*size).map (zv.cells[· % zv.cells.size]!)) (ps.toList.map fun p=>(p.1,ev N σ p.2))=some rows.flatten.toArray:=by
  rw [hp]
  have V:((ph<|rows.length*size).map (zv.cells[· % zv.cells.size]!)).toList.length=rows.length*size:=by simp
  have :=EW (size:=size) rows 0 [] ((ph<|rows.length*size).map (zv.cells[· % zv.cells.size]!)).toList (by simp) V fun r E=>by have :=List.all_eq_true.1 C r E; simpa using this
  rw [oB,oB,xT] at this
  exact this
 simp only [execOp,Instr.buildSlice,nE,db hu,nD,sizeOf,gS hi,q6,c,Sem.run_ite,zeroValue,O,lJ,A]
 rw [if_neg (Nat.not_lt.2<|dS G aw),if_neg (Nat.pos_iff_ne_zero.1<|Nat.mul_pos I h4)]
 simp [newRow]
end
section
variable {P:Program} {N:Fm} {σ:Nat→Value} {w:World} {dst:Option Nat} {ty:TypeId} {pos :String} {af:Array Edge} {g:Option (Nat×Bool)} {x y:Operand}
end
end Go.Hb
end
section
namespace Go.Hb
open Go.ChangeMaps
open Classical
structure ql (es:List MapEntry) (c:Nat):Prop where
 lt:∀ e∈es,e.born < c
 nd:(es.map (·.born)).Nodup
structure oI (es:List MapEntry) (isK:Value→Prop) (f:Value→Option Value):Prop where
 ks:∀ e∈es,isK e.key
 nd:(es.map (·.key)).Nodup
 iff :∀ k v,f k=some v↔∃ e∈es,e.key=k∧e.val=v
def kB (h:Array Obj) (b:Nat) (isK:Value→Prop) (f:Value→Option Value):Prop := ∃ es c,h[b]? =some (.map es c)∧ql es.toList c∧oI es.toList isK f
theorem kB.wT {h:Array Obj} {b:Nat} {isK:Value→Prop} {f:Value→Option Value} (hm:kB h b isK f):bQ h b isK f:=by
 obtain ⟨es,c,h1,_,h3⟩:=hm
 refine ⟨_,⟨es,c,h1,aa⟩,fun p hp=> ?_,?_,fun k v=> ?_⟩
 · obtain ⟨e,he,rfl⟩:=gW.1 hp; exact h3.ks e he
 · rw [JG]; exact h3.nd
 · rw [h3.iff,gW]
   exact ⟨fun ⟨e,he,h1,h2⟩=>⟨e,he,by rw [h1,h2]⟩,fun ⟨e,he,h1⟩=>⟨e,he,congrArg gr h1,congrArg Prod.snd h1⟩⟩
theorem kB.md {F:Nat→Prop} {w w':World} {b:Nat} {isK:Value→Prop} {f:Value→Option Value} (h:kB w.heap b isK f) (hm:Md F w w') (A:¬F b):kB w'.heap b isK f:=by
 obtain ⟨es,c,h1,h2⟩:=h
 exact ⟨es,c,by rw [hm.dv b (bT.1 h1).1 A]; exact h1,h2⟩
theorem kB.nil {h:Array Obj} {b:Nat} {isK:Value→Prop} {c:Nat} (hm:h[b]? =some (.map #[] c)):kB h b isK fun _=>none:=
 ⟨#[],c,hm,⟨fun _ h=>by simp at h,by simp⟩,fun _ h=>by simp at h,by simp,fun k v=>by simp⟩
def rv (h:Array Obj) (b:Nat) (isK:Value→Prop) (f:Value→Option Value) (kx:Value) (st:Nat):Prop := ∃ es c,h[b]? =some (.map es c)∧ql es.toList c∧oI es.toList isK f∧∃ e∈es.toList,e.key=kx∧e.born=st
theorem rv.To {h:Array Obj} {b:Nat} {isK:Value→Prop} {f:Value→Option Value} {kx:Value} {st:Nat} (hm:rv h b isK f kx st):kB h b isK f:=let ⟨es,c,h1,h2,h3,_⟩:=hm; ⟨es,c,h1,h2,h3⟩
theorem oI.push {es:List MapEntry} {isK:Value→Prop} {f:Value→Option Value} {kx v:Value} {c:Nat} (h:oI es isK f) (hi:isK kx) (C:∀ e∈es,e.key≠kx):oI (es++ [{key:=kx,val:=v,born:=c}]) isK (bz f kx v) where
 ks e he:=by
  rcases iW.1 he with he | he
  · exact h.ks e he
  · rw [gK.1 he]; exact hi
 nd:=by
  rw [gV,rh]
  refine ⟨h.nd,by simp,fun a E b A G=> ?_⟩
  obtain ⟨e,he,rfl⟩:=gW.1 E
  simp at A
  exact C e he<|by rw [G,A]
 iff k u:=by
  unfold bz
  by_cases hk:k=kx
  · subst hk
    rw [if_pos rfl]
    constructor
    · intro h1; cases h1; exact ⟨_,qh _ (gK.2 rfl),rfl,rfl⟩
    · rintro ⟨e,he,h1,h2⟩
      rcases iW.1 he with he | he
      · exact absurd h1<|C e he
      · rw [gK.1 he] at h2; rw [← h2]
  · rw [if_neg hk,h.iff]
    constructor
    · rintro ⟨e,he,h1⟩; exact ⟨e,sW _ he,h1⟩
    · rintro ⟨e,he,h1,h2⟩
      rcases iW.1 he with he | he
      · exact ⟨e,he,h1,h2⟩
      · rw [gK.1 he] at h1; exact absurd h1.symm hk
theorem ql.push {es:List MapEntry} {kx v:Value} {c:Nat} (h:ql es c):ql (es++ [{key:=kx,val:=v,born:=c}]) (c+1) where
 lt e he:=by
  rcases iW.1 he with he | he
  · have :=h.lt e he; omega
  · rw [gK.1 he]; exact Nat.lt_succ_self _
 nd:=by
  rw [gV,rh]
  refine ⟨h.nd,by simp,fun a A b C E=> ?_⟩
  obtain ⟨e,he,rfl⟩:=gW.1 A
  simp at C
  have :=h.lt e he; omega
theorem wS {α:Type} (l:List α) (g:α→α) (i j:Nat):(l.modify i g)[j]? =if i=j then (l[j]?).map g else l[j]? :=by
 rw [JC]
 by_cases h:i=j
 · simp [h]
 · simp [h]
theorem sd {α:Type} {l:List α} {g:α→α} {i:Nat} {e:α} (hi:l[i]? =some e) (x:α):x∈l.modify i g↔x=g e∨∃ j,j≠i∧l[j]? =some x:=by
 rw [List.mem_iff_getElem?]
 constructor
 · rintro ⟨j,c⟩
   rw [wS] at c
   by_cases h:i=j
   · subst h; rw [if_pos rfl,hi] at c; exact .inl (rl c).symm
   · rw [if_neg h] at c
     exact .inr ⟨j,fun e=>h e.symm,c⟩
 · rintro (rfl | ⟨j,c,h⟩)
   · exact ⟨i,by rw [wS,if_pos aa,hi]; rfl⟩
   · exact ⟨j,by rw [wS,if_neg (fun e=>c e.symm),h]⟩
theorem GJ {α β:Type} {l:List α} (g:α→α) (p:α→β) (hp:∀ x,p (g x)=p x) (i:Nat):(l.modify i g).map p=l.map p:=by
 apply oz
 intro j
 rw [fF,fF,wS]
 cases l[j]? with
 | none=>by_cases h:i=j <;> simp [h]
 | some x=>by_cases h:i=j <;> simp [h,hp]
theorem oI.Vi {es:List MapEntry} {isK:Value→Prop} {f:Value→Option Value} {v:Value} {i:Nat} {e:MapEntry} (h:oI es isK f) (hi:es[i]? =some e):oI (es.modify i fun e=> {e with val:=v}) isK (bz f e.key v) where
 ks x A:=by
  rcases (sd hi x).1 A with rfl | ⟨j,_,c⟩
  · exact h.ks e<|fU hi
  · exact h.ks x<|fU c
 nd:=by rw [GJ (fun e:MapEntry=> {e with val:=v}) (·.key) (fun _=>rfl)]; exact h.nd
 iff k u:=by
  have I:∀ {j:Nat} {x:MapEntry},es[j]? =some x→x.key=e.key→j=i:=fun {j x} c hk=>by
   have G:=(eR.1 c).1
   exact (CD (by simpa using G) h.nd).1<|by rw [fF,fF,c,hi,ky,ky,hk]
  unfold bz
  by_cases hk:k=e.key
  · subst hk
    rw [if_pos rfl]
    constructor
    · intro h1; cases h1; exact ⟨_,(sd hi _).2 (.inl rfl),rfl,rfl⟩
    · rintro ⟨x,A,h1,h2⟩
      rcases (sd hi x).1 A with rfl | ⟨j,c,E⟩
      · rw [← h2]
      · exact absurd (I E h1) c
  · rw [if_neg hk,h.iff]
    constructor
    · rintro ⟨x,A,h1,h2⟩
      obtain ⟨j,c⟩:=q9 A
      have C:j≠i:=fun C=>by subst C; rw [hi] at c; cases c; exact hk h1.symm
      exact ⟨x,(sd hi x).2 (.inr ⟨j,C,c⟩),h1,h2⟩
    · rintro ⟨x,A,h1,h2⟩
      rcases (sd hi x).1 A with rfl | ⟨j,_,E⟩
      · exact absurd h1.symm hk
      · exact ⟨x,fU E,h1,h2⟩
theorem Uu {f:Value→Option Value} {k v:Value} (h:f k=some v):bz f k v=f:=by
 funext q; unfold bz
 by_cases c:q=k
 · subst c; rw [if_pos rfl,h]
 · rw [if_neg c]
section
variable {P:Program} {N:Fm} {σ:Nat→Value} {w:World} {dst:Option Nat} {ty:TypeId} {pos :String} {af:Array Edge} {g:Option (Nat×Bool)} {x y z:Operand} {K:(Nat→Value)→World→Prop}
variable {t k e:TypeId} {isK:Value→Prop} {b:Nat} {f:Value→Option Value} {kx v zv:Value}
theorem Ta (ae:P.underlying t=some (.map k e)) (aj:zeroV P e=some zv) (I:lg P k isK) (hm:kB w.heap b isK f) (hi:isK kx):
 ∃ st w',(Cc t (.map<|some b) kx).run P w= .ok (.tuple #[(f kx).getD zv,.int .i64 ((st:Nat):Int)]) w'∧Md (fun j=>j=b) w w'∧rv w'.heap b isK (bz f kx<|(f kx).getD zv) kx st:=by
 obtain ⟨es,c,G,O,E⟩:=hm
 have V:=(bT.1 G).1
 rcases I.key.find w kx es.toList hi E.ks with ⟨h1,ad⟩ | ⟨j,C,h1,Z,h5⟩
 · have A:f kx=none:=by
    cases A:f kx with
    | none=>rfl
    | some u=>obtain ⟨ag,ah,h2,_⟩:=(E.iff kx u).1 A; exact absurd h2<|ad ag ah
   refine ⟨c,{w with heap:=w.heap.setIfInBounds b<|.map (es.push {key:=kx,val:=zv,born:=c})<|c+1},?_,⟨aa,aa,by simp,fun i _ J=>by simp only; rw [sJ (fun e=>J e.symm)]⟩,es.push {key:=kx,val:=zv,born:=c},c+1,by simp only; rw [sK V],?_,?_,?_⟩
   · rw [A]
     simp [Cc,db ae,run_getObj_map G,I.key.check _ w kx hi,h1,setObj,q5,G,uJ aj,goInt]
   · rw [B5]; exact O.push
   · rw [B5,A]; exact E.push hi ad
   · exact ⟨_,by rw [B5]; exact qh _ (gK.2 aa),aa,aa⟩
 · have ab:es[j]? =some C:=by simpa using Z
   have ac:=fU Z
   have A:f kx=some C.val:=(E.iff kx _).2 ⟨C,ac,h5,rfl⟩
   have ai:(es.modify j fun e=> {e with key:=kx})=es:=by
    apply Array.ext_getElem?
    intro i
    rw [Array.getElem?_modify]
    by_cases Y:j=i
    · subst Y; rw [if_pos rfl,ab,← h5]; rfl
    · rw [if_neg Y]
   refine ⟨C.born,{w with heap:=w.heap.setIfInBounds b<|.map (es.modify j fun e=> {e with key:=kx}) c},?_,⟨aa,aa,by simp,fun i _ J=>by simp only; rw [sJ (fun e=>J e.symm)]⟩,es,c,by simp only; rw [sK V,ai],O,?_,C,ac,h5,aa⟩
   · have hs:=I.stays w kx hi
     rw [A]
     simp [Cc,db ae,run_getObj_map G,I.key.check _ w kx hi,h1,ab,h5,hs,setObj,q5,G,goInt]
   · rw [A]; show oI _ _ (bz f kx C.val); rw [Uu A]; exact E
theorem S9 (A:P.underlying t=some (.map k e)) (G:zeroV P e=some zv) (c:lg P k isK) (hm:kB w.heap b isK f) (C:ev N σ x= .map (some b)) (E:ev N σ y=kx) (hi:isK kx)
 (I:∀ (st:Nat) w',Md (fun j=>j=b) w w'→rv w'.heap b isK (bz f kx<|(f kx).getD zv) kx st→K (fq σ dst<|.tuple #[(f kx).getD zv,.int .i64 (st:Nat)]) w'):cH P N ⟨dst,.mapEntry t x y,ty,pos,af,g⟩ σ w K:=by
 obtain ⟨st,w',h1,h2,h3⟩:=Ta A G c hm hi
 refine lH (v:= .tuple #[(f kx).getD zv,.int .i64 (st:Nat)]) ?_<|I st w' h2 h3
 simp [execOp,C,E,h1]
theorem Tc {st:Nat} (hm:rv w.heap b isK f kx st):∃ w',(I9 t (.map<|some b) (.int .i64 (st:Nat)) v).run P w= .ok () w'∧Md (fun j=>j=b) w w'∧kB w'.heap b isK (bz f kx v):=by
 obtain ⟨es,c,E,C,Z,G,I,ae,V⟩:=hm
 have ab:=(bT.1 E).1
 obtain ⟨i,hi⟩:=q9 I
 have J:es[i]? =some G:=by simpa using hi
 have ad:=(bT.1 J).1
 have ac:es.findIdx? (fun e=>(e.born:Int)==(st:Int))=some i:=by
  rw [Array.findIdx?_eq_some_iff_getElem]
  refine ⟨ad,?_,fun j O=> ?_⟩
  · rw [(bT.1 J).2,V]; simp
  · have A:(es.toList.map (·.born))[j]?≠(es.toList.map (·.born))[i]? :=fun h=>by
     have :=(CD (by simp; omega) C.nd).1 h; omega
    rw [fF,fF,hi,bX (by simp; omega)] at A
    simp only [ky,Array.getElem_toList] at A
    simp only [beq_iff_eq]
    intro h
    exact A<|congrArg some<|by rw [V]; omega
 refine ⟨{w with heap:=w.heap.setIfInBounds b<|.map (es.modify i fun e=> {e with val:=v}) c},?_,⟨aa,aa,by simp,fun j _ A=>by simp only; rw [sJ (fun e=>A e.symm)]⟩,es.modify i fun e=> {e with val:=v},c,by simp only; rw [sK ab],⟨fun x Y=> ?_,?_⟩,?_⟩
 · simp [I9,run_getObj_map E,asInt,asIntOf,ac,setObj,q5,E]
 · rw [xW] at Y
   rcases (sd hi x).1 Y with rfl | ⟨j,_,O⟩
   · exact C.lt G I
   · exact C.lt x<|fU O
 · rw [xW,GJ (fun e:MapEntry=> {e with val:=v}) (·.born) (fun _=>rfl)]; exact C.nd
 · rw [xW,← ae]; exact Z.Vi hi
theorem Tb {st:Nat} (hm:rv w.heap b isK f kx st) (A:ev N σ x= .map (some b)) (C:ev N σ y= .int .i64 (st:Nat)) (E:ev N σ z=v)
 (G:∀ w',Md (fun j=>j=b) w w'→kB w'.heap b isK (bz f kx v)→K σ w'):cH P N ⟨none,.entryStore t x y z,ty,pos,af,g⟩ σ w K:=by
 obtain ⟨w',h1,h2,h3⟩:=Tc (P:=P) (t:=t) (v:=v) hm
 have c:(execOp (ev N σ) ⟨none,.entryStore t x y z,ty,pos,af,g⟩).run P w= .ok .skip w':=by
  simp [execOp,A,C,E,h1]
 unfold cH ji
 rw [gh,c]
 exact ⟨σ,aa,G w' h2 h3⟩
end
def oJ (h:Array Obj) (r b:Nat) (left :List (Value×Value)):Prop :=
 ∃ (es:Array MapEntry) (c:Nat) (seen:Array Nat) (A:Nat),h[r]? =some (.mapIter (some b) c seen A)∧c≤A∧h[b]? =some (.map es c)∧ql es.toList c∧(leftOf es seen).toList.map (fun e=>(e.key,e.val))=left
def tc (h:Array Obj) (r b:Nat) (left :List (Value×Value)) (A:Value×Value):Prop :=
 ∃ (es:Array MapEntry) (c:Nat) (seen:Array Nat) (e:MapEntry),h[r]? =some (.mapIter (some b) c (seen.push e.born) c)∧h[b]? =some (.map es c)∧ql es.toList c∧(leftOf es<|seen.push e.born).toList.map (fun e=>(e.key,e.val))=left∧e∈es.toList∧(e.key,e.val)=A
theorem tc.Tp {h:Array Obj} {r b:Nat} {left :List (Value×Value)} {A:Value×Value} (hm:tc h r b left A):oJ h r b left :=let ⟨es,c,seen,e,h1,h2,h3,h4,_⟩:=hm; ⟨es,c,_,c,h1,cj _,h2,h3,h4⟩
theorem oJ.md {F:Nat→Prop} {w w':World} {r b:Nat} {left :List (Value×Value)} (h:oJ w.heap r b left) (hm:Md F w w') (E:¬F r) (C:¬F b):oJ w'.heap r b left :=by
 obtain ⟨es,c,seen,A,h1,h2,h3,h4⟩:=h
 exact ⟨es,c,seen,A,by rw [hm.dv r (bT.1 h1).1 E]; exact h1,h2,by rw [hm.dv b (bT.1 h3).1 C]; exact h3,h4⟩
section
variable {P:Program} {N:Fm} {σ:Nat→Value} {w:World} {dst:Option Nat} {ty:TypeId} {pos :String} {af:Array Edge} {g:Option (Nat×Bool)} {x y z:Operand} {K:(Nat→Value)→World→Prop}
variable {t k e:TypeId} {isK:Value→Prop} {b:Nat} {f:Value→Option Value} {kx v zv:Value}
theorem UT (I:P.underlying t=some (.map k e)) (hm:kB w.heap b isK f) (J:ev N σ x= .map (some b))
 (O:∀ r w' left,r=w.heap.size→Nw w w'→oJ w'.heap r b left→(∀ p∈left,isK p.1)→(left.map gr).Nodup→(∀ k v,f k=some v↔(k,v)∈left)→K (fq σ dst<|.pointer<|some ⟨r,0,none⟩) w'):
 cH P N ⟨dst,.range t x,ty,pos,af,g⟩ σ w K:=by
 obtain ⟨es,c,C,E,A⟩:=hm
 have G:=(bT.1 C).1
 refine mF (v:=fun r=> .pointer<|some ⟨r,0,none⟩) (ob:= .mapIter (some b) c #[] c) ?_ (fun r w' h1 h2 h3=>O r w' (es.toList.map fun e=>(e.key,e.val)) h1 h2 ⟨es,c,#[],c,h3,cj _,by rw [h2.md.dv b G id]; exact C,E,by unfold leftOf; simp only [xU]; rw [yg.2 (fun x _=>by simp)]⟩ ?_ ?_ ?_)
 · simp [execOp,J,Instr.range,db I,run_getObj_map C]
 · intro p hp; obtain ⟨e,he,rfl⟩:=gW.1 hp; exact A.ks e he
 · rw [JG]; exact A.nd
 · intro k v
   rw [A.iff,gW]
   exact ⟨fun ⟨e,he,h1,h2⟩=>⟨e,he,by rw [h1,h2]⟩,fun ⟨e,he,h1⟩=>⟨e,he,congrArg gr h1,congrArg Prod.snd h1⟩⟩
theorem SA {es:Array MapEntry} {seen:Array Nat} {e:MapEntry} (hn:(es.toList.map (·.born)).Nodup) (he:e∈(leftOf es seen).toList):(leftOf es seen).toList.Perm (e::(leftOf es<|seen.push e.born).toList):=by
 have h1:(leftOf es<|seen.push e.born).toList=(leftOf es seen).toList.filter fun x=>x.born !=e.born:=by
  unfold leftOf
  simp only [xU,List.filter_filter]
  congr 1
  funext x
  have C:(seen.push e.born).contains x.born=(seen.contains x.born || x.born==e.born):=by
   rw [p8]; simp [Array.mem_push]
  rw [C,Bool.not_or,Bool.and_comm]; rfl
 have c:((leftOf es seen).toList.map (·.born)).Nodup:=by
  unfold leftOf
  rw [xU]
  exact (List.filter_sublist.map _).nodup hn
 rw [h1]
 generalize (leftOf es seen).toList=l at he c
 clear h1
 induction l with
 | nil=>cases he
 | cons a l I=>
   rw [mO,ri] at c
   by_cases A:a=e
   · subst A
     have h2:(a::l).filter (fun x=>x.born !=a.born)=l:=by
      rw [pA,if_neg (by simp)]
      exact yg.2 fun x G=>by
       have :x.born≠a.born:=fun h=>c.1<|h ▸ ra G
       simpa using this
     rw [h2]
   · have FO:e∈l:=by
      rcases ew.1 he with h | h
      · exact absurd h.symm A
      · exact h
     have E:a.born≠e.born:=fun h=>c.1<|h ▸ ra FO
     rw [pA,if_pos (by simpa using E)]
     exact ((I FO c.2).cons a).trans<|List.Perm.swap e a _
theorem TK {r:Nat} {left :List (Value×Value)} (hm:oJ w.heap r b left) (Y:ev N σ x= .pointer (some ⟨r,0,none⟩))
 (ad:left = []→K (fq σ dst<|.tuple #[.bool false]) w)
 (h1:∀ C Z w',left.Perm (C::Z)→Md (fun j=>j=r) w w'→tc w'.heap r b Z C→K (fq σ dst<|.tuple #[.bool true,C.1,C.2]) w'):
 cH P N ⟨dst,.next x false,ty,pos,af,g⟩ σ w K:=by
 obtain ⟨es,c,seen,ac,G,ae,A,E,rfl⟩:=hm
 rcases run_next_at (P:=P) w ty r b c ac seen es c G A E.lt ae with ⟨h2,J⟩ | ⟨e,he,ab,O,J⟩
 · refine lH (v:= .tuple #[.bool false]) ?_<|ad<|by rw [Array.eq_empty_of_size_eq_zero h2]; rfl
   simp [execOp,Y,J]
 · have I:ab.heap=w.heap:=by rcases O with rfl | rfl <;> rfl
   have V:Md (fun j=>j=r) w (setBlock ab r<|.mapIter (some b) c (seen.push e.born) c):=by
    refine ⟨?_,?_,?_,fun j _ ag=> ?_⟩
    · rcases O with rfl | rfl <;> rfl
    · rcases O with rfl | rfl <;> rfl
    · simp [setBlock,I]
    · simp only [setBlock,I]; rw [sJ (fun e=>ag e.symm)]
   have ah:r≠b:=fun h=>by subst h; rw [G] at A; cases A
   refine lH (v:= .tuple #[.bool true,e.key,e.val]) ?_ (h1 (e.key,e.val) _ _ (by have :=(SA E.nd he).map (fun e=>(e.key,e.val)); exact this) V ⟨es,c,seen,e,?_,?_,E,aa,?_,aa⟩)
   · simp [execOp,Y,J]
   · simp only [setBlock,I]; rw [sK (bT.1 G).1]
   · rw [V.dv b (bT.1 A).1 (fun h=>ah h.symm)]; exact A
   · unfold leftOf at he
     rw [xU] at he
     exact (List.mem_filter.1 he).1
def GX (b:Bool) (c:Value×Value):Value:=match b with | true => .tuple #[.bool true,c.1,c.2] | false => .tuple #[.bool false]
theorem TJ {c:Bool} {C:Value×Value} (A:ev N σ x=GX c C):(execOp (ev N σ) ⟨dst,.extract x 0,ty,pos,af,g⟩).run P w= .ok (.value<|.bool c) w:=by
 cases c
 · exact xt A aa
 · exact xt A aa
theorem TI {r:Nat} {left :List (Value×Value)} (hm:oJ w.heap r b left) (G:ev N σ x= .pointer (some ⟨r,0,none⟩))
 (h:∀ C c A w',(C=false→left = []∧w'=w)→(C=true→left.Perm (c::A)∧Md (fun j=>j=r) w w'∧tc w'.heap r b A c)→K (fq σ dst<|GX C c) w'):
 cH P N ⟨dst,.next x false,ty,pos,af,g⟩ σ w K:=
 TK hm G (fun E=>h false (.nilFunc,.nilFunc) [] w (fun _=>⟨E,rfl⟩) fun h=>by cases h) (fun c A w' h1 h2 h3=>h true c A w' (fun h=>by cases h) fun _=>⟨h1,h2,h3⟩)
theorem dW {r:Nat} {left :List (Value×Value)} {A:Value×Value} (hm:tc w.heap r b left A) (C:ev N σ x= .pointer (some ⟨r,0,none⟩)):
 (execOp (ev N σ) ⟨dst,.entry x,ty,pos,af,g⟩).run P w= .ok (.value<|.tuple #[A.1,A.2]) w:=by
 obtain ⟨es,c,seen,e,h1,h2,h3,_,h5,rfl⟩:=hm
 have :=run_entry_at (P:=P) w r b c seen es c e h1 h2 h5 h3.nd
 simp [execOp,C,this]
end
end Go.Hb
end
namespace Go.Hb
def sB:Tx:= [83,70,88,32,65,32,89,32,49,10,83,70,88,32,65,32,48,32,115,10]
def xL:Tx:= [50,10,103,97,115,10,103,97,47,65,10]
def fT:aC:=⟨1,[],[],[0,0,0,0,0],3,[],[],[⟨65,2,true,0,1⟩],[⟨2,65,true,[],[115],[46],[],2⟩]⟩
def ig:List bg:= [([103,97,115],[]),([103,97],[65])]
theorem WW:eW sB= [(1,[[83,70,88],[65],[89],[49]]),(2,[[83,70,88],[65],[48],[115]])]:=by decide+kernel
theorem WX:eW xL= [(1,[[50]]),(2,[[103,97,115]]),(3,[[103,97,47,65]])]:=by decide+kernel
theorem WY {s:Tx} {ln:Nat} (hw:bD s=(s,[],false,0)) (c:s≠[48]) (A:ib s=0):jr 1 [] ⟨65,2,true,0,1⟩ ln [[83,70,88],[65],[48],s]= .ok ⟨2,65,true,[],s,[46],[],ln⟩:=by
 unfold jr
 rw [if_neg (by simp)]
 simp only [mJ,JA]
 rw [show ga true [48]= .ok [] from if_pos ⟨rfl,rfl⟩,hw]
 simp only
 rw [show lh (s,[],false,0)= .ok s from by unfold lh; rw [if_neg (by simp),if_neg c,if_neg (by simp [A])]]
 rfl
theorem WO:fW sB= .ok fT:=by
 unfold fW
 rw [if_neg aw,WW]
 simp only [bS,gJ]
 have C:ca ((dx sB).length+1) iN [] [(2,[[83,70,88],[65],[48],[115]])] 1 [[83,70,88],[65],[89],[49]]= .ok (fT,[]):=by
  unfold ca
  simp only [mJ]
  rw [if_neg aw,if_neg aw,if_neg aw,if_neg aw,if_neg aw,if_neg aw,if_neg aw]
  unfold hZ
  simp only [mJ,JA]
  rw [W9]
  simp only
  rw [if_neg (by simp),GW (b:=49) aw aw]
  simp only
  rw [if_neg aw]
  have A:∀ b,b=true→group [[83,70,88],[65]] (jr iN.kind iN.aliases ⟨65,if ([83,70,88]:Tx)=dF then 2 else 1,b,iN.rules.length,Kd 49 - 48⟩) ((dx sB).length+1) (Kd 49 - 48) [(2,[[83,70,88],[65],[48],[115]])]= .ok (fT.rules,[]):=by
   intro b c
   subst c
   show group [[83,70,88],[65]] (jr 1 [] ⟨65,2,true,0,1⟩) _ 1 _=_
   rw [group,if_neg aw,WY (by decide+kernel) aw aw]
   rfl
  rw [A _ (by simp)]
  simp only [decide_true]
  rfl
 rw [gQ]
 simp only [mJ]
 rw [if_neg aw,if_neg aw,if_neg aw,C]
 simp only
 rw [gQ]
 rfl
theorem WT:fP fT xL= .ok ig:=by
 have A:fQ fT [[103,97,47,65]]= .ok ([103,97],[65]):=by
  have hw:bD [103,97,47,65]=([103,97],[65],true,0):=by decide+kernel
  refine (EI (row:= [[103,97,47,65]]) (set := [65]) aa ?_ ?_ ?_ ?_ ?_ ?_ ?_).trans ?_
  all_goals try simp only [mJ,hw]
  · decide
  · decide
  · simp
  · show gj 1 [] [65]=_
    unfold gj; rw [if_pos rfl]; exact Xa
  · intro i hi
    have :i=0:=by simpa using hi
    subst this; decide
 have c:fQ fT [[103,97,115]]= .ok ([103,97,115],[]):=by
  have hw:bD [103,97,115]=([103,97,115],[],false,0):=by decide+kernel
  unfold fQ
  simp only [mJ,hw]
  rw [if_neg (by simp),if_neg (by simp),if_neg aw,if_neg aw,if_pos trivial]
 have hn:eH [50] 8192= .ok 2:=GW aw aw
 rw [EA aw WX rfl (show eH ([[50]].getD 0 []) 8192= .ok 2 from hn),eM,c]
 simp only
 rw [eM,A]
 simp only
 rw [eM]
 rfl
theorem WQ:dy ⟨2,65,true,[],[115],[46],[],2⟩ [103,97]=some [103,97,115]:=by
 have c:eb [46]=([],0):=by unfold eb; rw [if_neg (by simp),if_pos rfl]
 unfold dy gB
 simp only [c]
 rw [if_pos (by simp only [if_true,gJ]; rfl)]
 rfl
def xM:List bo:= [⟨[103,97,115],0,-1,-1,-1⟩,⟨[103,97,115],1,0,-1,-1⟩]
theorem WR:gi fT ig 0= [⟨[103,97,115],0,-1,-1,-1⟩]:=by
 have h1:aM fT (flagsOf ig (0:Nat)) 1= []:=aw
 have h2:aM fT (flagsOf ig (0:Nat)) 2= []:=aw
 unfold gi eT
 rw [h1,h2]
 simp only [CA,eu,List.filterMap_nil]
 unfold kE
 rw [if_pos aw]
 rfl
theorem WS:gi fT ig 1= [⟨[103,97],1,-1,-1,-1⟩,⟨[103,97,115],1,0,-1,-1⟩]:=by
 have h1:aM fT (flagsOf ig (1:Nat)) 1= []:=aw
 have h2:aM fT (flagsOf ig (1:Nat)) 2= [0]:=aw
 have h3:aM fT (bI fT (0:Nat)) 2= []:=aw
 have c:∀ w f s,eT fT ig 1 w f s=kE fT ig 1 w f s:=fun w f s=>by unfold eT; rw [h1]; simp
 unfold gi
 rw [h2,c]
 simp only [jt,CA,eu]
 unfold gC
 rw [show dy (fT.rules.getD 0 dq) (ig.getD 1 ([],[])).1=some [103,97,115] from WQ]
 simp only [h3,CA,eu,c]
 unfold kE
 rw [if_pos aw,if_pos aw]
 rfl
end Go.Hb
section
namespace Go.Hb.ez
open Go.Proofs
def nq (l:List (Tx×Tx)):List Value:=l.flatMap fun p=> [str p.1,str p.2]
def mX (c:dT):List Value:= [aX c.flag,.int .i64 (c.kind:Nat),.bool c.gv,.int .i64 (c.first:Nat),.int .i64 (c.count:Nat)]
def mo (l:List dT):List Value:=l.flatMap mX
def dG (q:cJ×Value):List Value:= [.int .i64 (q.1.kind:Nat),aX q.1.flag,.bool q.1.gv,str q.1.strip,str q.1.add,str q.1.cond,q.2]
def gd (l:List (cJ×Value)):List Value:=l.flatMap dG
structure cw where
 rb:Nat
 fb:Nat
 ms:Nat
 mt:Nat
 mc:Nat
 eof:Nat
structure ei where
 v9:Value
 v10:Value
 v11:Value
 v12:Value
 sa:List Value
 rn:List Value
structure gu where
 vr:Value
 vs:List (Nat×Value)
 vn:Value
def n3 (F:aC) (V:ei) (mc:Nat):List Value:= [.int .i64 (F.kind:Nat),str F.tx,str F.tr,aX (F.sp.getD 0 0),aX (F.sp.getD 1 0),aX (F.sp.getD 2 0),aX (F.sp.getD 3 0),aX (F.sp.getD 4 0),.int .i64 (F.least:Nat),V.v9,V.v10,V.v11,V.v12,.map (some mc)]
def uu (H:cw) (R:gu) (ln:Nat):List Value:= [.pointer (some ⟨H.fb,0,none⟩),R.vr,.int .i64 (ln:Nat),.int .i64 (H.eof:Nat),.map (some H.ms),.map (some H.mt),R.vn]
structure dp (w:World) (B fb mc:Nat) (F:aC) (V:ei):Prop where
 cells:w.heap[fb]? =some (.cells (n3 F V mc).toArray 164 (0,0))
 o9:bq w B 189 2 V.v9 F.dB.length (nq F.dB)
 gP:bq w B 51 1 V.v10 F.aliases.length V.sa
 al:dH w B 95 V.sa F.aliases
 gk:bq w B 192 5 V.v11 F.bB.length (mo F.bB)
 et:bq w B 134 7 V.v12 F.rules.length (gd<|F.rules.zip V.rn)
 nx:dH w B 95 V.rn (F.rules.map (·.next))
 cm:∃ f,bQ w.heap mc (jU .u16) f∧∀ x:Nat,f (aX x)=(F.bB.findIdx? fun c=>decide (c.flag=x)).map fun i:Nat=>Value.int .i64 i
 lo:B≤fb∧B≤mc
 jZ:F.sp.length=5
theorem dp.md {G:Nat→Prop} {w w':World} {B fb mc:Nat} {F:aC} {V:ei} (h:dp w B fb mc F V) (hm:Md G w w') {L:List Nat} (c:TF w L G) (A:(L.contains 166 || L.contains 191 || L.contains 53 || L.contains 97 || L.contains 194 || L.contains 136)=false) (O:¬G mc):dp w' B fb mc F V:=by
 simp only [pk] at A
 obtain ⟨⟨⟨⟨⟨h1,h2⟩,h3⟩,h4⟩,h5⟩,h6⟩:=A
 have C:∀ k,G k→∀ cur z,w.heap[k]?≠some (.cells cur 95 z):=fun k hk cur z J=>c.no (dD J) h4 hk
 obtain ⟨f,E,I⟩:=h.cm
 exact ⟨hm.gZ c h.cells h1,cX h.o9 hm c h2,cX h.gP hm c h3,h.al.md hm C,cX h.gk hm c h5,cX h.et hm c h6,h.nx.md hm C,⟨f,E.md hm O,I⟩,h.lo,h.jZ⟩
theorem dp.wk {w w':World} {B fb mc:Nat} {F:aC} {V:ei} (h:dp w B fb mc F V) (hm:Wk w w'):dp w' B fb mc F V:=h.md (L:= []) hm (fun _ hk=>hk.elim) rfl id
structure cB (w:World) (B:Nat) (H:cw) (F:aC) (R:gu) (rows:List Rw) (ln:Nat) (seen:List Tx):Prop where
 cells:w.heap[H.rb]? =some (.cells (uu H R ln).toArray 167 (0,0))
 rws:lN w B 181 rows.length R.vr (l6 R.vs)
 rt:ik w B 9 R.vs rows
 sm:∃ f,bQ w.heap H.ms iu f∧∀ s:Tx,(f<|str s).getD (.int .i64 0)= .int .i64 (seen.count s:Nat)
 tm:∃ f,bQ w.heap H.mt (jU .u16) f∧∀ x:Nat,x≠0→(f<|aX x).getD (.int .i64 0)= .int .i64 ((if eA F x=true then 1 else 0:Nat):Nat)
 on :bq w B 3 1 R.vn F.rules.length (F.rules.map fun r=>Value.int .i64 (r.line:Nat))
 lo:B≤H.rb∧B≤H.ms∧B≤H.mt
 ne:H.ms≠H.mt∧H.ms≠H.mc∧H.mt≠H.mc
theorem cB.md {G:Nat→Prop} {w w':World} {B:Nat} {H:cw} {F:aC} {R:gu} {rows:List Rw} {ln:Nat} {seen:List Tx} (h:cB w B H F R rows ln seen) (hm:Md G w w') {L:List Nat} (c:TF w L G) (C:(L.contains 169 || L.contains 183 || L.contains 11 || L.contains 5)=false) (V:¬G H.ms) (Y:¬G H.mt):cB w' B H F R rows ln seen:=by
 simp only [pk] at C
 obtain ⟨⟨⟨h1,h2⟩,h3⟩,h4⟩:=C
 obtain ⟨f,E,I⟩:=h.sm
 obtain ⟨g,J,O⟩:=h.tm
 exact ⟨hm.gZ c h.cells h1,h.rws.md hm (fun k hk cur z A=>c.no (dD A) h2 hk),h.rt.md hm (fun k hk cur z A=>c.no (dD A) h3 hk),⟨f,E.md hm V,I⟩,⟨g,J.md hm Y,O⟩,cX h.on hm c h4,h.lo,h.ne⟩
theorem cB.wk {w w':World} {B:Nat} {H:cw} {F:aC} {R:gu} {rows:List Rw} {ln:Nat} {seen:List Tx} (h:cB w B H F R rows ln seen) (hm:Wk w w'):cB w' B H F R rows ln seen:=h.md (L:= []) hm (fun _ hk=>hk.elim) rfl id id
theorem cB.ej {w:World} {B:Nat} {H:cw} {F:aC} {R:gu} {rows:List Rw} {ln:Nat} {seen:List Tx} (h:cB w B H F R rows ln seen):Hb.aJ w.heap H.rb 2=some (.int .i64 (ln:Nat)):=(aV h.cells).trans rfl
structure ka (F:aC) (rows:List Rw) (seen:List Tx):Prop where
 len:F.dB.length+F.aliases.length+F.bB.length+F.rules.length+rows.length≤70000
 sl:seen.length+rows.length≤70000
 row:∀ q∈rows,q.2≠[]∧q.2.length≤70000∧∀ x∈q.2,x.length≤70000
 kd:F.kind=1∨F.kind=2∨F.kind=3
 al:∀ l∈F.aliases,l.length≤64∧l.Pairwise (· < ·)
def St (w:World) (B:Nat) (H:cw) (F:aC) (rows:List Rw) (ln:Nat) (seen:List Tx):Prop := ∃ V R,dp w B H.fb H.mc F V∧cB w B H F R rows ln seen∧ka F rows seen
abbrev eJ (B:Nat) (H:cw) (w w':World):Prop :=Mw [169,166,191,53,194,136,5] H.ms H.mt H.mc B w w'
theorem cB.c6 {w w':World} {B:Nat} {H:cw} {F:aC} {R R':gu} {rows rows':List Rw} {ln ln':Nat} {seen:List Tx} (h:cB w B H F R rows ln seen) (hm:Md (fun k=>k=H.rb) w w') (G:w'.heap[H.rb]? =some (.cells (uu H R' ln').toArray 167 (0,0))) (Y:R'.vn=R.vn) (O:lN w B 181 rows'.length R'.vr (l6 R'.vs)) (V:ik w B 9 R'.vs rows'):cB w' B H F R' rows' ln' seen:=by
 obtain ⟨f,C,I⟩:=h.sm
 obtain ⟨g,E,J⟩:=h.tm
 have c:TF w [169] (fun k=>k=H.rb):=TF.eq (dD h.cells) aw
 exact ⟨G,O.md hm (fun k hk cur z A=>c.no (dD A) aw hk),V.md hm (fun k hk cur z A=>c.no (dD A) aw hk),⟨f,C.md hm (c.no (dN C) aw),I⟩,⟨g,E.md hm (c.no (dN E) aw),J⟩,Y ▸ cX h.on hm c aw,h.lo,h.ne⟩
theorem ik.tl {w:World} {B e:Nat} {q:Nat×Value} {r:Rw} {vs:List (Nat×Value)} {rs:List Rw} (h:ik w B e (q::vs) (r::rs)):ik w B e vs rs:=⟨by have :=h.1; simpa using this,fun i c A h1 h2=>h.2 (i+1) c A h1 h2⟩
theorem dp.put {w w':World} {B fb mc:Nat} {F F':aC} {V:ei} (h:dp w B fb mc F V) (hm:Md (fun k=>k=fb) w w') (E:w'.heap[fb]? =some (.cells (n3 F' V mc).toArray 164 (0,0))) (h1:F'.dB=F.dB) (h2:F'.aliases=F.aliases) (h3:F'.bB=F.bB) (h4:F'.rules=F.rules) (h5:F'.sp.length=5):dp w' B fb mc F' V:=by
 have c:TF w [166] (fun k=>k=fb):=TF.eq (dD h.cells) aw
 have C:∀ k,k=fb→∀ cur z,w.heap[k]?≠some (.cells cur 95 z):=im h.cells aw
 obtain ⟨f,A,G⟩:=h.cm
 exact ⟨E,h1 ▸ cX h.o9 hm c aw,h2 ▸ cX h.gP hm c aw,h2 ▸ h.al.md hm C,h3 ▸ cX h.gk hm c aw,h4 ▸ cX h.et hm c aw,h4 ▸ h.nx.md hm C,⟨f,A.md hm (c.no (dN A) aw),h3 ▸ G⟩,h.lo,h5⟩
theorem cB.fb {w w':World} {B:Nat} {H:cw} {F A:aC} {V:ei} {R:gu} {rows:List Rw} {ln:Nat} {seen:List Tx} (h:cB w B H F R rows ln seen) (C:dp w B H.fb H.mc A V) (hm:Md (fun k=>k=H.fb) w w'):cB w' B H F R rows ln seen:=by
 have c:TF w [166] (fun k=>k=H.fb):=TF.eq (dD C.cells) aw
 obtain ⟨f,E,I⟩:=h.sm
 obtain ⟨g,G,J⟩:=h.tm
 exact h.md hm c aw (c.no (dN E) aw)<|c.no (dN G) aw
theorem dp.rb {w w':World} {B:Nat} {H:cw} {F c:aC} {V:ei} {R:gu} {rows:List Rw} {ln:Nat} {seen:List Tx} (h:dp w B H.fb H.mc c V) (C:cB w B H F R rows ln seen) (hm:Md (fun k=>k=H.rb) w w'):dp w' B H.fb H.mc c V:=by
 have A:TF w [169] (fun k=>k=H.rb):=TF.eq (dD C.cells) aw
 obtain ⟨f,E,G⟩:=h.cm
 exact h.md hm A aw<|A.no (dN E) aw
theorem cB.congr {w:World} {B:Nat} {H:cw} {F F':aC} {R:gu} {rows:List Rw} {ln:Nat} {seen:List Tx} (h:cB w B H F R rows ln seen) (C:F'.rules=F.rules) (hd:∀ x,eA F' x=eA F x):cB w B H F' R rows ln seen:=by
 obtain ⟨g,c,A⟩:=h.tm
 exact ⟨h.cells,h.rws,h.rt,h.sm,⟨g,c,fun x E=>by rw [hd]; exact A x E⟩,C ▸ h.on,h.lo,h.ne⟩
theorem cB.uj {w w':World} {B:Nat} {H:cw} {F F':aC} {R:gu} {rows:List Rw} {ln:Nat} {seen:List Tx} {f:Value→Option Value} (h:cB w B H F R rows ln seen) (hm:Md (fun k=>k=H.mt) w w') (C:bQ w'.heap H.mt (jU .u16) f) (J:F'.rules=F.rules) (hd:∀ x:Nat,x≠0→(f<|aX x).getD (.int .i64 0)= .int .i64 ((if eA F' x=true then 1 else 0:Nat):Nat)):cB w' B H F' R rows ln seen:=by
 obtain ⟨g,I,_⟩:=h.tm
 obtain ⟨f0,E,G⟩:=h.sm
 have c:TF w [1] (fun k=>k=H.mt):=TF.eq (dN I) aw
 exact ⟨hm.gZ c h.cells aw,h.rws.md hm (fun k hk cur z A=>c.no (dD A) aw hk),h.rt.md hm (fun k hk cur z A=>c.no (dD A) aw hk),⟨f0,E.md hm h.ne.1,G⟩,⟨f,C,hd⟩,J ▸ cX h.on hm c aw,h.lo,h.ne⟩
theorem dp.uj {w w':World} {B:Nat} {H:cw} {F c:aC} {V:ei} {R:gu} {rows:List Rw} {ln:Nat} {seen:List Tx} (h:dp w B H.fb H.mc c V) (A:cB w B H F R rows ln seen) (hm:Md (fun k=>k=H.mt) w w'):dp w' B H.fb H.mc c V:=by
 obtain ⟨g,C,_⟩:=A.tm
 exact h.md (L:= [1]) hm (TF.eq (dN C) aw) aw fun h=>A.ne.2.2 h.symm
theorem eJ.fb {w w':World} {B:Nat} {H:cw} {A:aC} {V:ei} (c:dp w B H.fb H.mc A V) (hm:Md (fun k=>k=H.fb) w w'):eJ B H w w':=Mw.of hm (TF.eq (dD c.cells) aw) fun k hk=>hk ▸ c.lo.1
theorem eJ.rb {w w':World} {B:Nat} {H:cw} {F:aC} {R:gu} {rows:List Rw} {ln:Nat} {seen:List Tx} (c:cB w B H F R rows ln seen) (hm:Md (fun k=>k=H.rb) w w'):eJ B H w w':=Mw.of hm (TF.eq (dD c.cells) aw) fun k hk=>hk ▸ c.lo.1
theorem eJ.mt {w w':World} {B:Nat} {H:cw} {F:aC} {R:gu} {rows:List Rw} {ln:Nat} {seen:List Tx} (c:cB w B H F R rows ln seen) (hm:Md (fun k=>k=H.mt) w w'):eJ B H w w':=hm.mono fun k _ hk=>⟨hk ▸ c.lo.2.2,.inr<|.inl hk⟩
def iL (B:Nat) (H:cw) (seen:List Tx) (X:Except (Nat×Nat) (aC×List Rw)) (w:World) (v:Value) (w':World):Prop :=v= .tuple #[]∧∃ F' rows' ln',X= .ok (F',rows')∧St w' B H F' rows' ln' seen∧eJ B H w w'
def iK (B:Nat) (H:cw) (X:Except (Nat×Nat) (aC×List Rw)) (w:World) (c:List PanicEntry) (w':World):Prop := ∃ l e,X= .error (l,e)∧c=ir 45 l (e:Nat)∧eJ B H w w'
def jP (F:aC) (seen:List Tx):Prop := ∀ k∈gn,k∉seen→F.sp.getD (gn.idxOf k) 0=0
theorem O3 {F:aC} {i x:Nat} (hi:i < F.sp.length) (c:F.sp.getD i 0=0) (y:Nat) (E:y≠0):eA {F with sp:=F.sp.set i x} y=(decide (y=x) || eA F y):=by
 unfold eA
 show (decide (y∈F.sp.set i x) || _)=_
 rw [← Bool.or_assoc]
 congr 1
 rw [← Bool.decide_or,decide_eq_decide]
 constructor
 · intro h
   rcases CF h with h | h
   · exact .inr h
   · exact .inl h
 · rintro (h | h)
   · subst h; exact List.mem_set hi _
   · obtain ⟨j,C⟩:=q9 h
     by_cases A:i=j
     · subst A
       rw [cU,C] at c
       exact absurd c E
     · exact fU (i:=j)<|by rw [kt,if_neg A]; exact C
theorem Tg.uk {w:World} {B e C n cp b:Nat} {a:Option Addr} {xs:List Value} {cs:Array Value} {z:Nat×Nat} (h:Tg w B e n (.slice a n cp) xs) (O:xs≠[]) (c:w.heap[b]? =some (.cells cs C z)) (I:e≠C):¬(bk a=b):=by
 obtain ⟨V,Y,J,_,G⟩:=h
 cases J
 rcases G with rfl | ⟨A,cur,z2,rfl,_,E,_⟩
 · exact absurd aa O
 · rintro rfl
   rw [show (bk<|some ⟨A,0,none⟩)=A from rfl] at c
   rw [E] at c
   simp only [fO,uR] at c
   exact I c.2.1
theorem Qv {F:aC} {V:ei} {mc i o x:Nat} (h5:F.sp.length=5) (hi:i < 5) (A:o=3 +i):(n3 F V mc).set o (aX x)=n3 {F with sp:=F.sp.set i x} V mc:=by
 subst A
 obtain ⟨k,cs,tr,sp,le,C,al,cl,ru⟩:=F
 match sp,h5 with
 | [a,b,c,d,e],_=>
   match i,hi with
   | 0,_=>rfl
   | 1,_=>rfl
   | 2,_=>rfl
   | 3,_=>rfl
   | 4,_=>rfl
theorem Ex (b:Bool):decide (((if b=true then 1 else 0:Nat):Int)=0)= !b:=by cases b <;> rfl
theorem Ia {x y:Nat} (h:aX x=aX y):x=y:=by unfold aX at h; injection h with _ h; omega
theorem H0 {F F':aC} {f:Value→Option Value} {x:Nat} (hd:eA F x=false) (C:∀ y:Nat,y≠0→(f<|aX y).getD (.int .i64 0)= .int .i64 ((if eA F y=true then 1 else 0:Nat):Nat)) (A:∀ y,y≠0→eA F' y=(decide (y=x) || eA F y)) (y:Nat) (c:y≠0):(bz f (aX x) (.int .i64 (1:Nat))<|aX y).getD (.int .i64 0)= .int .i64 ((if eA F' y=true then 1 else 0:Nat):Nat):=by
 rw [A y c]
 by_cases h:y=x
 · subst h; rw [mB]; simp
 · rw [k0 (fun h2=>h<|Ia h2),C y c]; simp [h]
theorem je {G:Nat→Prop} {w w':World} (h:Md G w.drew w'):Md G w w':=⟨h.os,h.output,h.size,h.dv⟩
theorem dH.get {w:World} {B e i:Nat} {vs:List Value} {c:List (List Nat)} (h:dH w B e vs c) (hi:i < c.length):∃ v,vs[i]? =some v∧Tg w B e (c.getD i []).length v ((c.getD i []).map aX):=by
 have h1:i < vs.length:=by rw [h.1]; exact hi
 refine ⟨vs[i],bX h1,h.2 i _ _ (bX h1) ?_⟩
 rw [cU,bX hi]; rfl
theorem Tg.sg {w:World} {B e n cp:Nat} {a:Option Addr} {xs:List Value} (h:Tg w B e n (.slice a n cp) xs) (C:xs.length=n) (c:a=none):n=0:=by
 obtain ⟨G,J,E,_,A⟩:=h
 cases E
 rcases A with rfl | ⟨I,cur,z2,h2,_⟩
 · exact C.symm
 · rw [c] at h2; cases h2
theorem Tg.Gz {G:Nat→Prop} {w w':World} {B e n:Nat} {v:Value} {xs:List Value} (h:Tg w B e n v xs) (hm:Md G w w') (C:∀ k,G k→k < B):Tg w' B e n v xs:=by
 obtain ⟨a,cp,rfl,c,h | ⟨b,cur,z,rfl,E,A,I⟩⟩:=h
 · exact ⟨a,cp,aa,c,.inl h⟩
 · exact ⟨_,cp,aa,c,.inr ⟨b,cur,z,aa,E,by rw [hm.dv b (bT.1 A).1 (fun hk=>by have :=C b hk; omega)]; exact A,I⟩⟩
end Go.Hb.ez
end
