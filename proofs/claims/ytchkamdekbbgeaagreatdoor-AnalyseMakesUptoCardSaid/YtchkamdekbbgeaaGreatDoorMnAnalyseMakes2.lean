/-
  Walks and plain laws that the law rests on, laid together. No conditions but those that each theorem names.
-/
import Derived.Test.YtchkamdekbbgeaaGreatDoorMnAnalyseMakes1
set_option linter.unusedVariables false
set_option maxRecDepth 20000
set_option maxHeartbeats 1000000
open Array renaming foldl_toList→BS,getElem?_eq_some_iff→bY,getElem?_setIfInBounds_ne→sK,getElem?_setIfInBounds_self_of_lt→sL,length_toList→uF,range→oY,replicate→sM,toArray_toList→xU,toList_filter→xV,toList_inj→xW,toList_map→lB,toList_modify→xX,toList_push→BW,toList_zip→IV
open Bool renaming and_eq_true→gj,eq_iff_iff→p8,noConfusion→dv,or_eq_false_iff→o4
open Except.ok renaming injEq→qX
open Go.Act renaming put_comm→qY
open Go.Calls renaming mono→jX
open Go.CallsD renaming mono→I3
open Go.CallsIn renaming mono→BY
open Go.Code renaming wp_mono→I4
open Go.Deferred renaming ofValue→o5
open Go.Extern.BytealgCount renaming count→Xu
open Go.Extern.BytealgIndexByte renaming indexByte→Xv
open Go.Extern renaming find→I9,findNext→Ja
open Go.Fence renaming wide→gZ
open Go.Instr renaming beginRound→Jc,checkKey→nv,entryStore→Jd,field→Je,fill→l7,findKey→q4,findNow→q5,keyThatStays→B4,mapEntry→B5,mapUpdate→B6,sameBits→Jh,sameNow→B7,sliceAt→q6,sliceBounds→od,sureAddr→p9,typeAssert→Ji
open Go.Lib renaming indexByte→Jj,run_clear_slice→Jk
open Go.Obj.cells renaming injEq→uK
open Go.Oper renaming semAt_eq→Jl,semAt_none→uN,upon→kg,uponIn→qa,wp→je
open Go.Program renaming underlying→Jm
open Go.Region renaming Mode→q8,binds→jo,ready→iu
open Go.Result renaming andThen_ok→ny
open Go.RoundIn renaming mono→Cg
open Go.Rows renaming mono→Ch
open Go.RowsIn renaming mono→Ci
open Go.Sem renaming run→q9,run_bind→nz,run_pure→ra
open Go.Value renaming agg→bB,ownBlock→gG,slice→bE
open Go.Value.slice renaming injEq→l8
open Go.World renaming alloc_heap_new→x9,frozen?→Ju,ownsRow→bq,putObj→Jv,putObj_heap_other→oh,putObj_heap_same→ya,setCell→yb,size_alloc→Jw
open List.Pairwise renaming filter→Xx,imp→Xy
open List renaming append_nil→ep,eq_nil_of_length_eq_zero→gx,ext_getElem?→om,filterMap_cons→yi,filter_cons→qh,filter_eq_self→yj,flatMap_cons→jr,flatMap_map→JD,flatMap_nil→Ct,foldl_cons→sV,getD_cons_succ→JE,getD_cons_zero→mJ,getD_eq_getElem?_getD→cR,getElem?_append_left→mK,getElem?_append_right→nD,getElem?_cons_zero→ym,getElem?_eq_getElem→bW,getElem?_eq_some_iff→eQ,getElem?_inj→Cw,getElem?_map→fH,getElem?_modify→JG,getElem?_of_mem→rj,getElem?_set→kh,getElem?_toArray→JI,length_append→bK,length_cons→bX,length_drop→gH,length_filter_le→o8,length_map→e8,length_nil→fZ,length_replicate→nE,length_take→ee,mapM_toArray→uX,map_append→iw,map_cons→qj,map_map→JJ,mem_append→js,mem_append_left→yr,mem_append_right→uY,mem_cons→eB,mem_cons_of_mem→oq,mem_cons_self→pc,mem_flatMap→pd,mem_map→gQ,mem_map_of_mem→rk,mem_of_getElem?→fz,mem_or_eq_of_mem_set→Cy,mem_range→nG,mem_singleton→iS,nil_append→mN,nodup_append→uZ,nodup_cons→ys,not_mem_nil→yt,pairwise_lt_range→yu,pairwise_map→yv,range→fI,replicate→jG,size_toArray→nI,take_append→u7,take_of_length_le→e9,take_take→JU,take_zero→ph,zipIdx_cons→yw
open Nat renaming ble→mO,blt→fP,le_of_ble_eq_true→qk,le_refl→cz,le_trans→ea,min_eq_left→ot,mul_le_mul_right→ou,mul_one→s8,succ_mul→pk,zero_le→ki
open Option renaming bind_some→pn,map_eq_some_iff→ma,map_some→kj
open Option.some renaming inj→rq,injEq→fJ
open Prod renaming fst→gk
open Prod.mk renaming injEq→vf
open UInt8 renaming toNat→Kf,toNat_inj→rr
open Go.Proofs.Tryz
open Go.RowKit
section
set_option linter.unusedSimpArgs false
namespace Go.Hb
open Classical
structure k5 (P:Program) (k:TypeId) (isK:Value→Prop):Prop where
 key:s9 P k isK
 stays:∀ w v,isK v→(B4 v v).run P w= .ok v w
def ik (v:Value):Prop := ∃ s:List UInt8,v=str s
def jQ (q:IntKind) (v:Value):Prop := ∃ a:Int,v= .int q a
theorem EY {d:TypeDesc} {isK:Value→Prop} (hs:∀ x y,isK x→isK y→∃ a,B7 d x y=some a∧(a=true↔x=y)) {x:Value} (A:isK x):∀ (es:List MapEntry) (i:Nat),(∀ e∈es,isK e.key)→
 (q5 d x es i=some none∧∀ e∈es,e.key≠x)∨∃ j e,q5 d x es i=some (some (i+j,e.val))∧es[j]? =some e∧e.key=x
 | [],i,_=> .inl ⟨rfl,fun _ h=>by simp at h⟩
 | e::es,i,h=>by
   obtain ⟨a,h1,h2⟩:=hs x e.key A<|h e<|by simp
   cases a with
   | true =>exact .inr ⟨0,e,by simp [q5,h1],rfl,(h2.1 rfl).symm⟩
   | false =>
     have E:e.key≠x:=fun C=>by cases h2.2 C.symm
     rcases EY hs A es (i+1) (fun e he=>h e<|by simp [he]) with ⟨h3,h4⟩ | ⟨j,c,h3,h4,h5⟩
     · refine .inl ⟨by simp [q5,h1,h3],fun c q=> ?_⟩
       rcases eB.1 q with rfl | q
       · exact E
       · exact h4 c q
     · refine .inr ⟨j+1,c,?_,h4,h5⟩
       simp only [q5,h1,h3]; rw [show i+1 +j=i+(j+1) from by omega]
theorem Gd {P:Program} {k:TypeId} {d:TypeDesc} {isK:Value→Prop} (hk:P.underlying k=some d) (hs:∀ x y,isK x→isK y→∃ a,B7 d x y=some a∧(a=true↔x=y)) (c:∀ em w v,isK v→(nv em 10000 k v).run P w= .ok () w):s9 P k isK where
 check:=c
 find w x es hx hes:=by
  rcases EY hs hx es 0 hes with ⟨h1,h2⟩ | ⟨j,e,h1,h2,h3⟩
  · exact .inl ⟨by simp [q4,c4 hk,h1],h2⟩
  · exact .inr ⟨j,e,by simp [q4,c4 hk,h1],h2,h3⟩
theorem yM (a b:ByteArray):(a==b)=decide (a=b):=by
 rw [p8,decide_eq_true_iff]
 show ((a.data==b.data)=true)↔_
 rw [beq_iff_eq]
 exact ⟨fun h=>by cases a; cases b; cases h; rfl,fun h=>by rw [h]⟩
theorem R6 {P:Program} {k:TypeId} (hk:P.underlying k=some .string):k5 P k ik where
 key:=Gd hk (by
  rintro _ _ ⟨a,rfl⟩ ⟨b,rfl⟩
  refine ⟨_,aa,?_⟩
  rw [yM,decide_eq_true_iff]
  constructor
  · intro h; unfold str; rw [h]
  · intro h; unfold str at h; cases h; rfl) (by rintro em w _ ⟨a,rfl⟩; exact D1 (n:=9999) hk w)
 stays w v hv:=by obtain ⟨a,rfl⟩:=hv; simp [B4,Jh,str,yM]
theorem Na {P:Program} {k:TypeId} {q r:IntKind} {em:Bool} {n:Nat} {a:Int} (hk:P.underlying k=some (.int q)) (w:World):(nv em (n+1) k<|.int r a).run P w= .ok () w:=by
 simp only [nv,nz,c4 hk,ny,ra]
theorem Gc {P:Program} {k:TypeId} {q r:IntKind} (hk:P.underlying k=some (.int q)):k5 P k (jQ r) where
 key:=Gd hk (by
  rintro _ _ ⟨a,rfl⟩ ⟨b,rfl⟩
  refine ⟨decide (a=b),by simp [B7]; rfl,?_⟩
  rw [decide_eq_true_iff]
  exact ⟨fun h=>by rw [h],fun h=>by cases h; rfl⟩) (by rintro em w _ ⟨a,rfl⟩; exact Na (n:=9999) hk w)
 stays w v hv:=by obtain ⟨a,rfl⟩:=hv; simp [B4,Jh]
def bS (h:Array Obj) (b:Nat) (isK:Value→Prop) (f:Value→Option Value):Prop :=
 ∃ kvs,qp h b kvs∧(∀ p∈kvs,isK p.1)∧(kvs.map gk).Nodup∧∀ k v,f k=some v↔(k,v)∈kvs
theorem bS.md {F:Nat→Prop} {w w':World} {b:Nat} {isK:Value→Prop} {f:Value→Option Value} (h:bS w.heap b isK f) (hm:Md F w w') (a:¬F b):bS w'.heap b isK f:=
 let ⟨kvs,h1,h2⟩:=h; ⟨kvs,h1.md hm a,h2⟩
theorem bS.wk {w w':World} {b:Nat} {isK:Value→Prop} {f:Value→Option Value} (h:bS w.heap b isK f) (hm:Wk w w'):bS w'.heap b isK f:=h.md hm id
theorem bS.nil {h:Array Obj} {b:Nat} {isK:Value→Prop} {c:Nat} (hm:h[b]? =some (.map #[] c)):bS h b isK fun _=>none:=
 ⟨[],⟨_,_,hm,rfl⟩,fun p hp=>(by simp at hp),(by simp),fun k v=>by simp⟩
theorem bS.isMap {h:Array Obj} {b:Nat} {isK:Value→Prop} {f:Value→Option Value} (hm:bS h b isK f):∃ es c,h[b]? =some (.map es c):=let ⟨_,⟨es,c,h1,_⟩,_⟩:=hm; ⟨es,c,h1⟩
theorem bS.nj {h:Array Obj} {b:Nat} {isK:Value→Prop} {f:Value→Option Value} (hm:bS h b isK f) {cur:Array Value} {e:TypeId} {z:Nat×Nat} :h[b]?≠some (.cells cur e z):=by
 obtain ⟨es,c,h1⟩:=hm.isMap; rw [h1]; intro h; cases h
noncomputable def bA (f:Value→Option Value) (k v:Value):Value→Option Value:=fun q=>if q=k then some v else f q
theorem mA (f:Value→Option Value) (k v:Value):bA f k v k=some v:=if_pos rfl
theorem kU {f:Value→Option Value} {k v q:Value} (h:q≠k):bA f k v q=f q:=if_neg h
section
variable {P:Program} {N:Fm} {σ:Nat→Value} {w:World} {dst:Option Nat} {ty:TypeId} {pos :String} {af:Array Edge} {g:Option (Nat×Bool)} {x y z:Operand} {K:(Nat→Value)→World→Prop}
variable {t k e:TypeId} {isK:Value→Prop} {b:Nat} {f:Value→Option Value} {kx v zv:Value}
theorem Gt {ok:Bool} (q:P.underlying t=some (.map k e)) (E:zeroV P e=some zv) (c:k5 P k isK) (hm:bS w.heap b isK f) (A:ev N σ x= .map (some b)) (C:ev N σ y=kx) (hi:isK kx):
 (execOp (ev N σ) ⟨dst,.lookup t x y ok,ty,pos,af,g⟩).run P w= .ok (.value (if ok then .tuple #[(f kx).getD zv,.bool (f kx).isSome] else (f kx).getD zv)) w:=by
 obtain ⟨kvs,h1,h2,h3,h4⟩:=hm
 cases hf:f kx with
 | none=>exact Sw q E c.key h1 h2 A C hi fun v a=>by rw [← h4] at a; rw [hf] at a; cases a
 | some v=>exact Sv q c.key h1 h2 A C hi h3<|(h4 kx v).1 hf
theorem lh (c:P.underlying t=some (.map k e)) (E:zeroV P e=some zv) (a:k5 P k isK) (hm:bS w.heap b isK f) (A:ev N σ x= .map (some b)) (C:ev N σ y=kx) (hi:isK kx) (q:(f kx).getD zv=v):
 (execOp (ev N σ) ⟨dst,.lookup t x y false,ty,pos,af,g⟩).run P w= .ok (.value v) w:=by
 rw [Gt c E a hm A C hi,q]; rfl
theorem Gu {ob:Bool} (q:P.underlying t=some (.map k e)) (G:zeroV P e=some zv) (a:k5 P k isK) (hm:bS w.heap b isK f) (C:ev N σ x= .map (some b)) (E:ev N σ y=kx) (hi:isK kx) (A:(f kx).getD zv=v) (c:(f kx).isSome=ob):
 (execOp (ev N σ) ⟨dst,.lookup t x y true,ty,pos,af,g⟩).run P w= .ok (.value<|.tuple #[v,.bool ob]) w:=by
 rw [Gt q G a hm C E hi,A,c]; rfl
theorem Io (ae:P.underlying t=some (.map k e)) (M:k5 P k isK) (hm:bS w.heap b isK f) (hi:isK kx):
 ∃ w',(B6 t (.map<|some b) kx v).run P w= .ok () w'∧Md (fun j=>j=b) w w'∧bS w'.heap b isK (bA f kx v):=by
 obtain ⟨kvs,⟨es,c,J,he⟩,h2,h3,h4⟩:=hm
 have Y:=(bY.1 J).1
 rcases M.key.find w kx es.toList hi (zE he h2) with ⟨h1,an⟩ | ⟨j,V,h1,E,h5⟩
 · have ad:∀ u,(kx,u)∉kvs:=fun u hu=>by
    rw [← he] at hu
    obtain ⟨ag,ak,ah⟩:=gQ.1 hu
    cases ah
    exact an ag ak aa
   refine ⟨{w with heap:=w.heap.setIfInBounds b<|.map (es.push {key:=kx,val:=v,born:=c})<|c+1},by simp [B6,c4 ae,run_getObj_map J,M.key.check _ w kx hi,h1,setObj,q9,J],⟨aa,aa,by simp,fun i _ G=>by simp only; rw [sK (fun e=>G e.symm)]⟩,kvs++ [(kx,v)],⟨_,_,by simp only; rw [sL Y],by simp [he]⟩,?_,?_,?_⟩
   · intro p hp
     rcases js.1 hp with hp | hp
     · exact h2 p hp
     · rw [iS.1 hp]; exact hi
   · rw [iw,uZ]
     refine ⟨h3,by simp,?_⟩
     intro a ai ap Z aj
     simp at Z
     subst aj Z
     obtain ⟨p,hp,ao⟩:=gQ.1 ai
     exact ad p.2<|by rw [← ao]; exact hp
   · intro q u
     unfold bA
     rw [js,iS]
     by_cases C:q=kx
     · subst C
       rw [if_pos rfl]
       constructor
       · intro h; cases h; exact .inr rfl
       · rintro (h | h)
         · exact absurd h<|ad u
         · cases h; rfl
     · rw [if_neg C,h4]
       constructor
       · exact .inl
       · rintro (h | h)
         · exact h
         · cases h; exact absurd rfl C
 · have aq:j < es.size:=by have :=(eQ.1 E).1; simpa using this
   have ab:es[j]? =some V:=by simpa using E
   refine ⟨{w with heap:=w.heap.setIfInBounds b<|.map (es.modify j fun e=> {e with key:=kx,val:=v}) c},?_,⟨aa,aa,by simp,fun i _ G=>by simp only; rw [sK (fun e=>G e.symm)]⟩,kvs.set j (kx,v),⟨_,_,by simp only; rw [sL Y],?_⟩,?_,?_,?_⟩
   · have hs:=M.stays w kx hi
     simp [B6,c4 ae,run_getObj_map J,M.key.check _ w kx hi,h1,ab,h5,hs,setObj,q9,J]
   · rw [← he]
     apply om
     intro i
     simp only [xX,fH,JG,kh,e8]
     by_cases I:j=i
     · subst I; rw [E]; simp; have :=(eQ.1 E).1; simpa using this
     · simp [I]
   · intro p hp
     rcases Cy hp with hp | hp
     · exact h2 p hp
     · rw [hp]; exact hi
   · have :(kvs.set j (kx,v)).map gk=kvs.map gk:=by
      apply om
      intro i
      simp only [fH,kh]
      by_cases I:j=i
      · subst I
        rw [← he]; simp only [fH,E,e8]
        have :=(eQ.1 E).1
        simp [this,h5]
        simpa using this
      · simp [I]
     rw [this]; exact h3
   · intro q u
     have O:kvs[j]? =some (kx,V.val):=by rw [← he]; simp [E,h5,ab]
     have ac:=(eQ.1 O).1
     have am:(kx,v)∈kvs.set j (kx,v):=fz (i:=j)<|by rw [kh,if_pos rfl,if_pos ac]
     unfold bA
     by_cases C:q=kx
     · subst C
       rw [if_pos rfl]
       constructor
       · intro h; cases h; exact am
       · intro h
         obtain ⟨i,A⟩:=rj h
         rw [kh] at A
         split at A
         · rename_i al
           subst al
           cases A; rfl
         · rename_i G
           exfalso
           exact G<|(Cw (i:=j) (j:=i) (by simpa using ac) h3).1<|by simp [O,A]
     · rw [if_neg C,h4]
       constructor
       · intro h
         obtain ⟨i,A⟩:=rj h
         have G:j≠i:=by rintro rfl; rw [O] at A; cases A; exact C rfl
         exact fz (i:=i)<|by rw [kh,if_neg G]; exact A
       · intro h
         rcases Cy h with h | h
         · exact h
         · cases h; exact absurd rfl C
theorem qV (q:P.underlying t=some (.map k e)) (a:k5 P k isK) (hm:bS w.heap b isK f) (A:ev N σ x= .map (some b)) (C:ev N σ y=kx) (E:ev N σ z=v) (hi:isK kx)
 (G:∀ w',Md (fun j=>j=b) w w'→bS w'.heap b isK (bA f kx v)→K σ w'):cJ P N ⟨none,.mapUpdate t x y z,ty,pos,af,g⟩ σ w K:=by
 obtain ⟨w',h1,h2,h3⟩:=Io (v:=v) q a hm hi
 have c:(execOp (ev N σ) ⟨none,.mapUpdate t x y z,ty,pos,af,g⟩).run P w= .ok .skip w':=by
  simp [execOp,A,C,E,h1]
 unfold cJ je
 rw [ga,c]
 exact ⟨σ,aa,G w' h2 h3⟩
theorem lU (q:P.underlying t=some (.map k e)) (a:k5 P k isK) (hm:bS w.heap b isK f) (A:ev N σ x= .map (some b)) (C:ev N σ y=kx) (E:ev N σ z=v) (hi:isK kx)
 (G:∀ w',Md (fun j=>j=b) w w'→bS w'.heap b isK (bA f kx v)→K σ w'):cJ P N ⟨none,.insert t x y z,ty,pos,af,g⟩ σ w K:=by
 obtain ⟨w',h1,h2,h3⟩:=Io (v:=v) q a hm hi
 have c:(execOp (ev N σ) ⟨none,.insert t x y z,ty,pos,af,g⟩).run P w= .ok .skip w':=by
  simp [execOp,A,C,E,h1]
 unfold cJ je
 rw [ga,c]
 exact ⟨σ,aa,G w' h2 h3⟩
end
end Go.Hb
end
section
namespace Go.Hb
section
variable {P:Program} {N:Fm} {σ:Nat→Value} {w:World} {fn:Func} {R:Value→World→Prop}
theorem SF {t b off :Nat} {v:Value} (hu:da P t=some none) (a:Hb.aM w.heap b off =some v):(loadVar t ⟨b,off,none⟩).run P w= .ok v w:=by
 have c:w.cell? ⟨b,off,none⟩=some v:=by rw [mS]; exact a
 unfold da at hu
 cases hd:P.underlying t with
 | none=>rw [hd] at hu; cases hu
 | some d=>
   rw [hd] at hu
   cases d <;> first
    | (simp only [ma] at hu; obtain ⟨_,_,h⟩:=hu; cases h; done)
    | simp [loadVar,isAgg,c4 hd,run_load,c]
theorem SG {t n b off :Nat} {cs:List Value} (hu:da P t=some (some n)) (A:cs.length=n) (c:∀ j,j < n→Hb.aM w.heap b (off+j)=cs[j]?):(loadVar t ⟨b,off,none⟩).run P w= .ok (.agg cs.toArray) w:=by
 have q:(loadCells ⟨b,off,none⟩ n).run P w= .ok cs.toArray w:=by
  subst A
  refine run_loadCells_list (P:=P) w ⟨b,off,none⟩ cs fun j v a=> ?_
  rw [lG,mS]
  exact (c j (eQ.1 a).1).trans a
 unfold da at hu
 cases hd:P.underlying t with
 | none=>rw [hd] at hu; cases hu
 | some d=>
   rw [hd] at hu
   cases hi:P.info? t with
   | none=>simp [Jm,hi] at hd
   | some i=>
     rw [hi] at hu
     cases d <;> first
      | (cases hu; done)
      | (simp only [kj,fJ] at hu; subst hu
         simp [loadVar,isAgg,c4 hd,sizeOf,gO hi,q])
def mQ (P:Program) (N:Fm) (σ:Nat→Value) (w:World):ResultVar→Value→Prop
 | .tmp t,v=>ev N σ (.tmp t)=v
 | .cell a t,v=> ∃ ad,ev N σ (.tmp a)= .pointer (some ad)∧(loadVar t ad).run P w= .ok v w
theorem eE {t:Tmp} :mQ P N σ w (.tmp t) (ev N σ<|.tmp t):=rfl
theorem Ba {a t b off :Nat} {v:Value} (q:ev N σ (.tmp a)= .pointer (some ⟨b,off,none⟩)) (hu:da P t=some none) (c:Hb.aM w.heap b off =some v):mQ P N σ w (.cell a t) v:=⟨_,q,SF hu c⟩
theorem dV {a t n b off :Nat} {cs:List Value} (A:ev N σ (.tmp a)= .pointer (some ⟨b,off,none⟩)) (hu:da P t=some (some n)) (q:cs.length=n) (c:∀ j,j < n→Hb.aM w.heap b (off+j)=cs[j]?):mQ P N σ w (.cell a t) (.agg cs.toArray):=⟨_,A,SG hu q c⟩
def n2 (tmps:Array Value):ResultVar→Sem Value
 | .tmp t=>pure<|tmps.getD t undef
 | .cell a t=>do loadVar t (← asAddr (tmps.getD a undef))
theorem mC {r:ResultVar} {v:Value} (h:mQ P N σ w r v):(n2 (act N σ).tmps r).run P w= .ok v w:=by
 cases r with
 | tmp t=>
   show q9 P (pure<|(act N σ).tmps.getD t undef) w=_
   rw [l5]; simp only [mQ] at h; rw [h]; rfl
 | cell a t=>
   obtain ⟨ad,h1,h2⟩:=h
   show q9 P (do loadVar t (← asAddr ((act N σ).tmps.getD a undef))) w=_
   rw [l5,h1]
   simp [asAddr,h2]
theorem UP {tmps:Array Value} {r:ResultVar} {v:Value} (h:fn.results= #[r]) (h1:(n2 tmps r).run P w= .ok v w):(results fn tmps).run P w= .ok v w:=by
 have a:(results fn tmps)=(do let vs ← #[r].mapM (n2 tmps); pure (if h:vs.size=1 then vs[0] else .tuple vs)):=by
  unfold results; rw [h]; rfl
 rw [a]; simp [uX,h1]
theorem xi {tmps:Array Value} {r s:ResultVar} {v u:Value} (h:fn.results= #[r,s]) (h1:(n2 tmps r).run P w= .ok v w) (h2:(n2 tmps s).run P w= .ok u w):(results fn tmps).run P w= .ok (.tuple #[v,u]) w:=by
 have a:(results fn tmps)=(do let vs ← #[r,s].mapM (n2 tmps); pure (if h:vs.size=1 then vs[0] else .tuple vs)):=by
  unfold results; rw [h]; rfl
 rw [a]; simp [uX,h1,h2]
theorem UQ {tmps:Array Value} {r s q:ResultVar} {v u z:Value} (h:fn.results= #[r,s,q]) (h1:(n2 tmps r).run P w= .ok v w) (h2:(n2 tmps s).run P w= .ok u w) (h3:(n2 tmps q).run P w= .ok z w):(results fn tmps).run P w= .ok (.tuple #[v,u,z]) w:=by
 have a:(results fn tmps)=(do let vs ← #[r,s,q].mapM (n2 tmps); pure (if h:vs.size=1 then vs[0] else .tuple vs)):=by
  unfold results; rw [h]; rfl
 rw [a]; simp [uX,h1,h2,h3]
theorem tK {r:ResultVar} {v:Value} (h:fn.results= #[r]) (h1:mQ P N σ w r v) (a:R v w):fin P fn N R .ret σ w:=⟨v,UP h (mC h1),a⟩
theorem fg {r s:ResultVar} {v u:Value} (h:fn.results= #[r,s]) (h1:mQ P N σ w r v) (h2:mQ P N σ w s u) (a:R (.tuple #[v,u]) w):fin P fn N R .ret σ w:=⟨_,xi h (mC h1) (mC h2),a⟩
theorem EN {r s q:ResultVar} {v u z:Value} (h:fn.results= #[r,s,q]) (h1:mQ P N σ w r v) (h2:mQ P N σ w s u) (h3:mQ P N σ w q z) (a:R (.tuple #[v,u,z]) w):fin P fn N R .ret σ w:=⟨_,UQ h (mC h1) (mC h2) (mC h3),a⟩
end
end Go.Hb
end
section
namespace Go.Hb
def nu (P:Program) (N:Fm) (c:Code) (B:Exit→Act→World→Prop) (σ:Nat→Value) (w:World):Prop :=c.wpIn (fe N.r) 0 P B (act N σ) w
def qb (N:Fm) (B:Exit→Act→World→Prop):Exit→(Nat→Value)→World→Prop :=fun e σ w=>B e (act N σ) w
section
variable {P:Program} {N:Fm} {B:Exit→Act→World→Prop} {σ:Nat→Value} {w:World}
theorem dY {x y:Code} (h:nu P N x (Exit.then (y.wpIn (fe N.r) 0 P B) B) σ w):nu P N (.seq x y) B σ w:=wpIn_seq h
theorem dU {y:Code} (h:nu P N y B σ w):qb N (Exit.then (y.wpIn (fe N.r) 0 P B) B) .normal σ w:=h
theorem prt {y:Act→World→Prop} (h:qb N B .ret σ w):qb N (Exit.then y B) .ret σ w:=h
theorem qQ (h:qb N B .ret σ w):nu P N .ret B σ w:=wpIn_ret h
theorem eC {c:Code} (h:c6 P N c (qb N B) σ w):nu P N c B σ w:=by
 unfold c6 at h
 refine wpIn_mono h ?_
 intro e a w q
 cases e with
 | panic c=>obtain ⟨σ,rfl,A⟩:=q; exact A σ fun _ _=>rfl
 | outgrown=>exact q.elim
 | _=>obtain ⟨σ,rfl,A⟩:=q; exact A
end
theorem xo (fn:Func) (args:List Value) (F:List Nat) (hn:mO args.length fn.ntmps=true):({tmps:=args.toArray++sM (fn.ntmps - args.toArray.size) undef,defers:= []} :Act)=act ⟨fn.ntmps,[],F,none⟩ (l2 args):=by
 have a:args.length≤fn.ntmps:=by simpa using hn
 refine vp aa fun i=> ?_
 rw [oC]
 simp only [l2,cR,nI]
 by_cases h1:i < args.length
 · rw [Array.getElem?_append_left (by simpa using h1),if_pos ab]
   simp [h1]
 · rw [Array.getElem?_append_right (by simpa using h1)]
   simp only [nI,Array.getElem?_replicate]
   by_cases h2:i < fn.ntmps
   · rw [if_pos ab,if_pos h2,List.getElem?_eq_none ab]; rfl
   · rw [if_neg ab,if_neg h2]
abbrev Bm (P:Program) (fn:Func) (R:Value→World→Prop):Exit→Act→World→Prop :=bodyPostM gZ 0 P fn (fun e w'=> ∃ v,e= .returned v∧R v w')
theorem vU {P:Program} {f:FuncId} {N:Nat} {fn:Func} {c:Code} {args:List Value} {w:World} {R:Value→World→Prop} (F:List Nat) (A:P.funcs[f]? =some fn) (q:fn.body=some c)
 (a:fn.ntmps=N) (hn:mO args.length N=true) (h:nu P ⟨N,[],F,none⟩ c (Bm P fn R) (l2 args) w):bf P f args.toArray w R:=by
 subst a
 refine callsIn_wide.1<|callsIn_of_wp_marks (F:=gZ) (n:=0) A q trivial ?_
 rw [xo fn args F hn]
 exact h
section
variable {P:Program} {n:Nat} {F:List Nat} {σ:Nat→Value} {w:World} {fn:Func} {R:Value→World→Prop}
theorem Gk {e:Exit} (he:e= .ret∨e= .normal) {v:Value} (c:(results fn (act ⟨n,[],F,none⟩ σ).tmps).run P w= .ok v w) (a:R v w):qb ⟨n,[],F,none⟩ (Bm P fn R) e σ w:=by
 rcases he with rfl | rfl <;> exact ⟨v,c,v,rfl,a⟩
theorem EK {t:Nat} {v:Value} (h:fn.results= #[.tmp t]) (c:ev ⟨n,[],F,none⟩ σ (.tmp t)=v) (a:R v w):qb ⟨n,[],F,none⟩ (Bm P fn R) .ret σ w:=
 Gk (.inl rfl) (by rw [results_tmp h,l5,c]) a
theorem EL {t u:Nat} {v a:Value} (h:fn.results= #[.tmp t,.tmp u]) (q:ev ⟨n,[],F,none⟩ σ (.tmp t)=v) (hu:ev ⟨n,[],F,none⟩ σ (.tmp u)=a) (c:R (.tuple #[v,a]) w):qb ⟨n,[],F,none⟩ (Bm P fn R) .ret σ w:=
 Gk (.inl rfl) (by rw [results_tmp2 h,l5,l5,q,hu]) c
theorem Gl {D:Nat} {v:Value} (a:w.heap[D]? =some (.deferred<|some [])) (q:∀ w',(results fn (act ⟨n,[{target:= .collected D,args:= #[]}],F,none⟩ σ).tmps).run P w'= .ok v w') (c:R v (w.putObj D<|.deferred none)):
 qb ⟨n,[{target:= .collected D,args:= #[]}],F,none⟩ (Bm P fn R) .ret σ w:=
 ⟨FrameMode.noConfusion,.inl ⟨_,_,rfl,run_takeDeferred a,⟨v,q _,v,rfl,c⟩⟩⟩
theorem vX {D t:Nat} {v:Value} (h:fn.results= #[.tmp t]) (q:ev ⟨n,[{target:= .collected D,args:= #[]}],F,none⟩ σ (.tmp t)=v) (a:w.heap[D]? =some (.deferred<|some [])) (c:R v (w.putObj D<|.deferred none)):
 qb ⟨n,[{target:= .collected D,args:= #[]}],F,none⟩ (Bm P fn R) .ret σ w:=
 Gl a (fun w'=>by rw [results_tmp h,l5,q]) c
theorem EM {D t u:Nat} {v a:Value} (h:fn.results= #[.tmp t,.tmp u]) (A:ev ⟨n,[{target:= .collected D,args:= #[]}],F,none⟩ σ (.tmp t)=v) (hu:ev ⟨n,[{target:= .collected D,args:= #[]}],F,none⟩ σ (.tmp u)=a)
 (c:w.heap[D]? =some (.deferred<|some [])) (q:R (.tuple #[v,a]) (w.putObj D<|.deferred none)):qb ⟨n,[{target:= .collected D,args:= #[]}],F,none⟩ (Bm P fn R) .ret σ w:=
 Gl c (fun w'=>by rw [results_tmp2 h,l5,l5,A,hu]) q
end
theorem dx {w:World} {B t size n pp a:Nat} {v:Value} {xs:List Value} {cs:Array Value} {z:Nat×Nat} (h:w.ownsRow B t size v n xs) (hp:w.heap[pp]? =some (.cells cs a z)) (q:t≠a):v.ownBlock≠some pp:=by
 intro hk
 rcases h.2 with ⟨h1,_⟩ | ⟨g,cap,cur,h1,_,c,_⟩
 · rw [h1] at hk; simp [gG] at hk
 · rw [h1] at hk
   simp only [gG,fJ] at hk
   subst hk
   rw [c] at hp
   simp only [fJ,uK] at hp
   exact q hp.2.1
section
variable {P:Program} {N:Fm} {σ:Nat→Value} {w:World} {dst:Option Nat} {ty:TypeId} {pos :String} {af:Array Edge} {g:Option (Nat×Bool)} {x:Operand} {K:(Nat→Value)→World→Prop}
theorem qz {e:TypeId} {v:Value} (a:ev N σ x=v) (h1:v.oneCell'=true) (k:∀ b w',b=w.heap.size→Nw w w'→w'.heap[b]? =some (.cells [v].toArray e (0,0))→K (fi σ dst<|.pointer<|some ⟨b,0,none⟩) w'):
 cJ P N ⟨dst,.box e x,ty,pos,af,g⟩ σ w K:=by
 refine mF (v:=fun b=> .pointer<|some ⟨b,0,none⟩) (ob:= .cells [v].toArray e (0,0)) ?_ k
 have :=pR h1
 simp [execOp,Instr.box,a,this,newVar,newRow]
end
theorem kD (w:World) (k:Nat) (o:Obj):Md (fun j=>j=k) w (w.putObj k o):=
 ⟨rfl,rfl,by simp [Jv],fun j _ a=>oh a⟩
def eW (w w':World):Prop := ∀ (k:Nat) (o:Obj),w.heap[k]? =some o→(∀ cur e z,o≠.cells cur e z)→w'.heap[k]? =some o
theorem eW.trans {a b c:World} (h:eW a b) (q:eW b c):eW a c:=fun k o A hn=>q k o (h k o A hn) hn
theorem eW.md {F:Nat→Prop} {w w':World} (hm:Md F w w') (q:∀ k,F k→∃ cur e z,w.heap[k]? =some (.cells cur e z)):eW w w':=fun k o a hn=>by
 rw [hm.dH k (bY.1 a).1 (fun hk=>by obtain ⟨c,e,z,h⟩:=q k hk; rw [a] at h; exact hn _ _ _<|rq h)]; exact a
theorem eW.wk {w w':World} (hm:Wk w w'):eW w w':=eW.md hm fun _ h=>h.elim
theorem lY {w:World} {B e size n:Nat} {v:Value} {xs:List Value} (h:w.ownsRow B e size v n xs):∀ k,v.ownBlock=some k→∃ cur e z,w.heap[k]? =some (.cells cur e z):=by
 intro k hk
 rcases h.2 with ⟨rfl,_⟩ | ⟨g,cap,c,rfl,_,a,_⟩
 · simp [gG] at hk
 · simp only [gG,fJ] at hk; subst hk; exact ⟨_,_,_,a⟩
def Ko {α:Type} (B:Nat) (a:List α→World→Prop):Prop := ∀ pre W W' (F:Nat→Prop),a pre W→Md F W W'→(∀ k,F k→B≤k∧∀ cur e z,W.heap[k]?≠some (.cells cur e z))→a pre W'
section
variable {F:Nat→Prop} {W W':World} {B:Nat}
theorem xA {b e:Nat} {cs:Array Value} {z:Nat×Nat} (h:W.heap[b]? =some (.cells cs e z)) (hm:Md F W W') (a:∀ k,F k→B≤k∧∀ cur e z,W.heap[k]?≠some (.cells cur e z)):W'.heap[b]? =some (.cells cs e z):=by
 rw [hm.dH b (bY.1 h).1 (fun hk=>(a b hk).2 _ _ _ h)]; exact h
theorem HR {B' e size n:Nat} {v:Value} {xs:List Value} (h:W.ownsRow B' e size v n xs) (hm:Md F W W') (a:∀ k,F k→B≤k∧∀ cur e z,W.heap[k]?≠some (.cells cur e z)):W'.ownsRow B' e size v n xs:=
 cx h hm fun k hk q=>by obtain ⟨c,e,z,h1⟩:=lY h k hk; exact (a k q).2 _ _ _ h1
theorem HS {w:World} (h:Wk w W) (hm:Md F W W') (q:w.heap.size≤B) (a:∀ k,F k→B≤k∧∀ cur e z,W.heap[k]?≠some (.cells cur e z)):Wk w W':=Md.trans' h hm fun k hk c=>by have :=(a k c).1; omega
end
def CG {α:Type} (P:Program) (E:Nat) (G:Array Value) (C:α→Array Value) (xs:List α) (A:World→Prop):Prop :=
 ∀ (l:Nat) (a:List α→World→Prop) (W:World),a [] W→(∀ pre W,a pre W→A W)→(∀ pre c q,a pre c→Wk c q→a pre q)→
   (∀ pre x rest c,xs=pre++x::rest→a pre c→YieldAt gZ 0 P l (C x) c fun e W'=>e= .returned (.bool true)∧a (pre++ [x]) W')→
   Calls P E (#[.func (.yield l) #[] #[]]++G) W fun e W'=>(∃ v,e= .returned v)∧a xs W'
def UL (R:World→Prop):Exit→(Nat→Value)→World→Prop
 | .normal,_,w=>R w
 | _,_,_=>False
theorem CI (N:Fm):∀ (l:List (Tmp×Value)) (σ:Nat→Value),l.foldl (fun t p=>t.setIfInBounds p.1 p.2) (act N σ).tmps=(act N<|l.foldl (fun s p=>cY s p.1 p.2) σ).tmps:=by
 intro l
 induction l with
 | nil=>intro σ; rfl
 | cons p l a=>
   intro σ
   rw [sV,sV,← a]
   congr 1
   have :=congrArg Act.tmps<|jj N σ (some p.1) p.2
   exact this
theorem Hp {α:Type} {P:Program} {id n:Nat} {g:Operand} {ps:Array Tmp} {ac body:Code} {Fx:List Nat} {σ:Nat→Value} {w:World} {B:Exit→Act→World→Prop} {Y:Nat} {Z:Array Value}
 (M:α→Array Value) (xs:List α) (aj:World→Prop) (q:List α→World→Prop) (aE:ev ⟨n,[],Fx,none⟩ σ g= .func (.func Y) #[] Z) (aB:bg P Y) (aL:∀ x,(M x).size=ps.size)
 (aG:CG P Y Z M xs aj) (av:q [] w) (aC:∀ pre W,q pre W→aj W) (ad:Ko w.heap.size q) (ap:α→Nat→Value)
 (az:∀ (l:Nat) (x:α) (W:World) (K:(Nat→Value)→World→Prop),K (ap x) W→c6 P ⟨n,[],[],some l⟩ ac (kY K fun _ _ _=>False) ((ps.toList.zip (M x).toList).foldl (fun s p=>cY s p.1 p.2) σ) W)
 (aA:∀ (l:Nat) (pre:List α) (x:α) (rest:List α) (W:World),xs=pre++x::rest→q pre W→c6 P ⟨n,[],[],some l⟩ body (UL fun W'=>eW W W'∧q (pre++ [x]) W') (ap x) W)
 (hd:∀ (D:Nat) (W:World),w.heap.size≤D→q xs W→W.heap[D]? =some (.deferred<|some [])→qb ⟨n,[{target:= .collected D,args:= #[]}],Fx,none⟩ B .normal σ W):
 nu P ⟨n,[],Fx,none⟩ (.block id<|.rangeFunc g ps ac body) B σ w:=by
 refine wpIn_block<|wpIn_rangeFunc ?_
 intro fn _
 obtain ⟨rc,V⟩:∃ rc:LoopState→Option Code→Loop,rc=fun st aO=> {state:=st,pending:=aO,fn,tmps:=(act ⟨n,[],Fx,none⟩ σ).tmps,params:=ps,assign:=ac,body,defers:=w.heap.size} :=⟨_,rfl⟩
 obtain ⟨E,ae⟩:∃ E,(w.alloc<|.deferred<|some []).alloc (.loop<|rc .ready none)=E:=⟨_,rfl⟩
 have ay:E.heap[w.heap.size+1]? =some (.loop<|rc .ready none):=by
  rw [← ae]; have :=x9 (w.alloc<|.deferred<|some []) (.loop<|rc .ready none); rwa [Jw] at this
 have ax:E.heap[w.heap.size]? =some (.deferred<|some []):=by
  rw [← ae]; exact (Below.heap_alloc _ _ _<|by simp).trans<|x9 w _
 have hn:∀ (W:World) (o:Obj),Wk W (W.alloc o):=fun W o=>(AR W o).md
 have aw:q [] E:=by rw [← ae]; exact ad _ _ _ _ (ad _ _ _ _ av (hn _ _) fun _ h=>h.elim) (hn _ _) fun _ h=>h.elim
 have aD:(act ⟨n,[],Fx,none⟩ σ).eval g= .func (.func Y) #[] Z:=by rw [ga]; exact aE
 refine ⟨w.heap.size+1,[{target:= .collected w.heap.size,args:= #[]}],E,{target:= .fn (.func Y) Z,args:= #[.func (.yield<|w.heap.size+1) #[] #[]]},E,Y,
  #[.func (.yield<|w.heap.size+1) #[] #[]]++Z,E,?_,?_,fun _ _=>trivial,?_,fun au=>(by cases au),?_⟩
 · rw [← ae,V]; exact run_enterLoop_outer _ _ _ _ _
 · simp only [resolve,aD]
   simp [go_sem]
 · have :=aB (#[.func (.yield<|w.heap.size+1) #[] #[]]++Z) E
   simp [invoke,go_sem,this]
 · have ah:∀ (pre:List α) (W:World) (o ai:Obj),q pre W→W.heap[w.heap.size+1]? =some o→(∀ cur e z,o≠.cells cur e z)→q pre (W.putObj (w.heap.size+1) ai):=fun pre W o ai h1 h2 h3=>
    ad _ _ _ _ h1 (kD W _ ai) fun k hk=>⟨ab,fun cur e z h4=>by subst hk; rw [h2] at h4; exact h3 _ _ _<|rq h4⟩
   refine callsIn_wide.2 (jX (aG (w.heap.size+1)
    (fun pre W=>q pre W∧W.heap[w.heap.size+1]? =some (.loop<|rc .ready none)∧W.heap[w.heap.size]? =some (.deferred<|some []))
    E ⟨aw,ay,ax⟩ (fun pre W h=>aC pre W h.1)
    (fun pre A C h hm=>⟨ad _ _ _ _ h.1 hm (fun _ h=>h.elim),(hm.dH _ (bY.1 h.2.1).1 fun h=>h).trans h.2.1,(hm.dH _ (bY.1 h.2.2).1 fun h=>h).trans h.2.2⟩) ?_) ?_)
   · rintro pre x rest W aN ⟨hi,O,hk⟩
     have aK:w.heap.size+1 < W.heap.size:=(bY.1 O).1
     have an:=run_yield (P:=P) (args:=M x) O<|by rw [V]; exact aL x
     rw [V] at an
     refine ⟨fn,_,ac,body,an,roundIn_of_wpIn (F:=gZ) trivial ?_⟩
     have aM:((ps.zip<|M x).foldl (fun tmps (p:Tmp×Value)=>tmps.setIfInBounds p.1 p.2) (act ⟨n,[],Fx,none⟩ σ).tmps)=(act ⟨n,[],[],some<|w.heap.size+1⟩<|(ps.toList.zip (M x).toList).foldl (fun s p=>cY s p.1 p.2) σ).tmps:=by
      rw [← BS,IV]
      exact CI ⟨n,[],[],some<|w.heap.size+1⟩ _ σ
     have h1:=az (w.heap.size+1) x W (fun J W'=> ∃ ao,(Jc<|w.heap.size+1).run P W'= .ok () ao∧
      body.wpIn (gZ.inRound<|w.heap.size+1) 0 P (roundPost P (w.heap.size+1) fun e W'=>e= .returned (.bool true)∧q (pre++ [x]) W'∧W'.heap[w.heap.size+1]? =some (.loop<|rc .ready none)∧W'.heap[w.heap.size]? =some (.deferred<|some [])) (act ⟨n,[],[],some<|w.heap.size+1⟩ J) ao) ?_
     · unfold c6 at h1
       have aq:({tmps:=(ps.zip<|M x).foldl (fun tmps (p:Tmp×Value)=>tmps.setIfInBounds p.1 p.2) (act ⟨n,[],Fx,none⟩ σ).tmps,defers:= []} :Act)=act ⟨n,[],[],some<|w.heap.size+1⟩ ((ps.toList.zip (M x).toList).foldl (fun s p=>cY s p.1 p.2) σ):=by rw [aM]; rfl
       rw [aq]
       refine wpIn_mono h1 ?_
       intro e a w' G
       cases e with
       | normal=>obtain ⟨J,rfl,I⟩:=G; exact I
       | panic c=>obtain ⟨J,rfl,I⟩:=G; exact I J fun _ _=>rfl
       | outgrown=>exact G.elim
       | _=>obtain ⟨J,rfl,I⟩:=G; exact I
     refine ⟨_,run_beginRound O (by rw [V]),?_⟩
     have aJ:(W.putObj (w.heap.size+1)<|.loop {rc .ready none with state:= .busy}).heap[w.heap.size+1]? =some (.loop {rc .ready none with state:= .busy}):=ya aK
     have aH:(W.putObj (w.heap.size+1)<|.loop {rc .ready none with state:= .busy}).heap[w.heap.size]? =some (.deferred<|some []):=(oh ab).trans hk
     have h2:=aA (w.heap.size+1) pre x rest _ aN<|ah _ _ _ (.loop {rc .ready none with state:= .busy}) hi O fun _ _ _ h=>by cases h
     unfold c6 at h2
     refine wpIn_mono h2 ?_
     intro e a aQ G
     cases e with
     | normal=>
       obtain ⟨J,rfl,ak,aF⟩:=G
       have ag:=ak _ _ aJ fun _ _ _ h=>by cases h
       have aI:=ak _ _ aH fun _ _ _ h=>by cases h
       have al:=run_endRound (P:=P) none ag
       rw [V] at al ag ⊢
       exact ⟨_,_,al,aa,ah _ _ _ _ aF ag (fun _ _ _ h=>by cases h),ya (bY.1 ag).1,(oh ab).trans aI⟩
     | panic c=>obtain ⟨J,rfl,I⟩:=G; exact (I J fun _ _=>rfl).elim
     | outgrown=>exact G.elim
     | _=>obtain ⟨J,rfl,I⟩:=G; exact I.elim
   · rintro e aP ⟨⟨v,rfl⟩,hi,O,hk⟩
     have am:=run_endLoop (P:=P) O<|by rw [V]; simp
     rw [V] at am
     refine ⟨none,_,am,?_⟩
     rw [V] at O
     exact hd w.heap.size _ (cz _) (ah _ _ _ _ hi O fun _ _ _ h=>by cases h)<|(oh ab).trans hk
section
variable {P:Program} {N:Fm} {ops:Array Oper} {Q:Exit→(Nat→Value)→World→Prop} {rest:List Oper} {σ:Nat→Value} {w:World} {d':Option Nat} {d:Nat} {op:Op} {ty:TypeId} {pos :String} {af:Array Edge} {v:Value}
def n5 (P:Program) (N:Fm) (ops:Array Oper) (Q:Exit→(Nat→Value)→World→Prop) (l:List Oper) (σ:Nat→Value) (w:World):Prop :=wpListIn (fe N.r) 0 P ops (lift N Q) l (act N σ) w
theorem UJ {id:Nat} {l:List Oper} (h:n5 P N l.toArray Q l σ w):c6 P N (.region id l.toArray false) Q σ w:=by
 unfold c6; exact wpIn_region_lit h
theorem Tl (h:Q .normal σ w):n5 P N ops Q [] σ w:=⟨σ,rfl,h⟩
def AN (o:Op):Bool:=match o with | .defer _=>false | _=>true
theorem Tn {o:Op} (h:AN o=true):∀ c,o≠.defer c:=fun c e=>by subst e; cases h
theorem ey (hn:AN op=true) (h:cJ P N ⟨d',op,ty,pos,af,none⟩ σ w (fun σ w=>n5 P N ops Q rest σ w)):n5 P N ops Q (⟨d',op,ty,pos,af,none⟩::rest) σ w:=by
 unfold n5 wpListIn
 rw [if_pos (jc _ rfl _)]
 refine ⟨fun f _=>vZ _ f,?_⟩
 rw [zK,Jl _ _ _ (Tn hn)]
 unfold cJ je at h
 generalize (execOp (act N σ).eval ⟨d',op,ty,pos,af,none⟩).run P w=x at h ⊢
 cases x with
 | ok n w'=>
   cases n <;> simp only [kg,qa] at h ⊢ <;>
    first
     | (obtain ⟨A,q,hk⟩:=h; rw [q]; exact hk)
     | (refine ⟨fun a=>(by rw [tL] at a; cases a),BY (ER h) fun e w'' he=> ?_⟩
        cases e with
        | returned v=>obtain ⟨A,q,hk⟩:=he; simp only; rw [q]; exact hk
        | panicked c=>exact he.elim
        | outgrown=>obtain ⟨_,_,C⟩:=he; exact C.elim)
     | (refine ⟨fun a=>(by rw [tL] at a; cases a),Ci (zL h) fun v w'' he=> ?_⟩
        obtain ⟨A,q,hk⟩:=he; rw [q]; exact hk)
 | halt x w'=>cases x <;> simp only [kg] at h
theorem py (hn:AN op=true) (h:(execOp (ev N σ) ⟨some d,op,ty,pos,af,none⟩).run P w= .ok (.value v) w) (k:n5 P N ops Q rest (cY σ d v) w):n5 P N ops Q (⟨some d,op,ty,pos,af,none⟩::rest) σ w:=
 ey hn (lz h k)
theorem Xd {l:Nat} {fo:Operand} {args:Array Operand} {q:Array TypeId} {L:List Value} {R:World→Prop} (I:ev N σ fo= .func (.yield l) #[] #[]) (E:args.toList.map (ev N σ)=L)
 (M:YieldAt gZ 0 P l L.toArray w fun e W'=>e= .returned (.bool true)∧R W') (k:∀ W',R W'→n5 P N ops Q rest (cY σ d<|.bool true) W'):
 n5 P N ops Q (⟨some d,.call ⟨.value fo,args,q⟩,ty,pos,af,none⟩::rest) σ w:=by
 obtain ⟨fn,tmps,a,b,G,C⟩:=M
 unfold n5 wpListIn
 rw [if_pos (jc _ rfl _)]
 refine ⟨fun f _=>vZ _ f,?_⟩
 rw [zK,Jl _ _ _ (fun c e=>by cases e),ga]
 have hm:args.map (ev N σ)=L.toArray:=by rw [← E,← lB]
 have J:(execOp (ev N σ) ⟨some d,.call ⟨.value fo,args,q⟩,ty,pos,af,none⟩).run P w= .ok (.round l fn tmps a b) w:=by
  simp [execOp,resolve,I,o5,invoke,hm,G]
 rw [J]
 simp only [qa]
 refine ⟨fun A=>(by rw [tL] at A; cases A),?_⟩
 have h1:RoundIn (fe N.r) (0 - 1) P l fn tmps a b w fun e W'=>e= .returned (.bool true)∧R W':=by
  cases hr:N.r with
  | none=>exact C
  | some k=>exact C
 refine Cg h1 ?_
 rintro e W' ⟨rfl,hw⟩
 simp only
 rw [jj]
 exact k W' hw
end
end Go.Hb
end
section
namespace Go.Hb
def eG (P:Program) (f:FuncId) (args:Array Value) (w:World) (R:Value→World→Prop) (Pn:List PanicEntry→World→Prop):Prop :=
 Calls P f args w fun e w'=>(∃ v,e= .returned v∧R v w')∨∃ c,e= .panicked c∧Pn c w'
def EW (P:Program) (fn:Func) (N:Fm) (R:Value→World→Prop) (Pn:List PanicEntry→World→Prop):Exit→(Nat→Value)→World→Prop
 | .normal,σ,w=> ∃ v,(results fn (act N σ).tmps).run P w= .ok v w∧R v w
 | .ret,σ,w=> ∃ v,(results fn (act N σ).tmps).run P w= .ok v w∧R v w
 | .panic c,_,w=>Pn c w
 | _,_,_=>False
theorem iW {P:Program} {fn:Func} {N:Fm} {R:Value→World→Prop} {Pn:List PanicEntry→World→Prop} {e:Exit} {σ:Nat→Value} {w:World} (h:fin P fn N R e σ w):EW P fn N R Pn e σ w:=by
 cases e <;> first | exact h | exact h.elim
theorem jw {P:Program} {f:FuncId} {N:Nat} {fn:Func} {c:Code} {args:List Value} {w:World} {R:Value→World→Prop} {Pn:List PanicEntry→World→Prop} (J:P.funcs[f]? =some fn) (I:fn.body=some c)
 (G:fn.ntmps=N) (hn:mO args.length N=true) (h:c6 P ⟨N,[],[],none⟩ c (EW P fn ⟨N,[],[],none⟩ R Pn) (l2 args) w):eG P f args.toArray w R Pn:=by
 subst G
 refine calls_of_wp J I ?_
 rw [xo fn args [] hn]
 unfold c6 at h
 refine I4 ?_<|wpIn_wide.1 h
 intro e a w q
 cases e with
 | normal=>obtain ⟨σ,rfl,v,E,C⟩:=q; exact ⟨rfl,v,E,.inl ⟨v,rfl,C⟩⟩
 | ret=>obtain ⟨σ,rfl,v,E,C⟩:=q; exact ⟨rfl,v,E,.inl ⟨v,rfl,C⟩⟩
 | exit id=>obtain ⟨σ,rfl,A⟩:=q; exact A.elim
 | goto l=>obtain ⟨σ,rfl,A⟩:=q; exact A.elim
 | panic c=>obtain ⟨σ,rfl,A⟩:=q; exact ⟨rfl,.inr ⟨c,rfl,A σ fun _ _=>rfl⟩⟩
 | outgrown=>exact q.elim
section
variable {P:Program} {N:Fm} {Q:Exit→(Nat→Value)→World→Prop} {σ:Nat→Value} {w:World} {ops:Array Oper} {rest:List Oper} {dst:Option Nat} {ty:TypeId} {pos :String} {af:Array Edge} {g:Option (Nat×Bool)} {x:Operand}
def n9 (P:Program) (N:Fm) (o:Oper) (σ:Nat→Value) (w:World) (K:(Nat→Value)→World→Prop) (Pn:List PanicEntry→World→Prop):Prop :=
 je P o (act N σ) w (fun a w=> ∃ σ,a=act N σ∧K σ w) (fun e a w=>match e with | .panic c=>a=act N σ∧Pn c w | _=>False)
theorem xP {o:Oper} {K:(Nat→Value)→World→Prop} {Pn:List PanicEntry→World→Prop} {q:Act→World→Prop} (h:n9 P N o σ w K Pn) (hk:∀ σ w,K σ w→q (act N σ) w) (hp:∀ c w',Pn c w'→∀ E,(∀ i∈N.F,E i=σ i)→Q (.panic c) E w'):o.wp P (act N σ) w q (lift N Q):=by
 unfold n9 at h
 unfold je at*
 generalize (execOp (act N σ).eval o).run P w=r at h ⊢
 have A:∀ a w,(∃ σ,a=act N σ∧K σ w)→q a w:=by rintro a w ⟨σ,rfl,h⟩; exact hk _ _ h
 have C:∀ c (a:Act) w',(a=act N σ∧Pn c w')→lift N Q (.panic c) a w':=by rintro c a w' ⟨rfl,h⟩; exact ⟨σ,rfl,hp c w' h⟩
 cases r with
 | ok n w'=>
   cases n <;> simp only [kg] at h ⊢ <;>
    first
     | exact A _ _ h
     | exact jX h (fun e w'' he=>by
      cases e with
      | returned v=>exact A _ _ he
      | panicked c=>exact C _ _ _ ⟨rfl,he.2⟩
      | outgrown=>obtain ⟨_,_,G⟩:=he; exact G.elim)
     | exact Ch h fun _ _ he=>A _ _ he
 | halt x w'=>cases x <;> simp only [kg] at h ⊢ <;> exact C _ _ _ ⟨rfl,h.2⟩
theorem c7 {f:FuncId} {args:Array Operand} {a:Array TypeId} {L:List Value} {R:Value→World→Prop} {Pn:List PanicEntry→World→Prop} {K:(Nat→Value)→World→Prop} (E:bg P f) (G:eG P f L.toArray w R Pn) (q:args.toList.map (ev N σ)=L)
 (k:∀ v w',R v w'→K (fi σ dst v) w'):n9 P N ⟨dst,.call ⟨.value (.func f),args,a⟩,ty,pos,af,g⟩ σ w K Pn:=by
 unfold n9 je
 have hm:args.map (ev N σ)=L.toArray:=by rw [← q,← lB]
 have I:(execOp (ev N σ) ⟨dst,.call ⟨.value (.func f),args,a⟩,ty,pos,af,g⟩).run P w= .ok (.enter f L.toArray) w:=by
  have h2:=E L.toArray w
  simp [execOp,resolve,ev,o5,invoke,hm,h2]
 rw [ga,I]
 simp only [kg]
 refine jX G ?_
 rintro e w' (⟨v,rfl,C⟩ | ⟨c,rfl,A⟩)
 · exact ⟨_,jj ..,k v w' C⟩
 · exact ⟨trivial,A⟩
theorem IB {f:FuncId} {fo:Operand} {first cap:Array Value} {args:Array Operand} {a:Array TypeId} {L:List Value} {R:Value→World→Prop} {Pn:List PanicEntry→World→Prop} {K:(Nat→Value)→World→Prop} (E:bg P f) (I:ev N σ fo= .func (.func f) first cap) (G:eG P f L.toArray w R Pn) (q:first.toList++args.toList.map (ev N σ)++cap.toList=L)
 (k:∀ v w',R v w'→K (fi σ dst v) w'):n9 P N ⟨dst,.call ⟨.value fo,args,a⟩,ty,pos,af,g⟩ σ w K Pn:=by
 unfold n9 je
 have hm:first++args.map (ev N σ)++cap=L.toArray:=by rw [← q]; simp
 have J:(execOp (ev N σ) ⟨dst,.call ⟨.value fo,args,a⟩,ty,pos,af,g⟩).run P w= .ok (.enter f L.toArray) w:=by
  have h2:=E L.toArray w
  simp only [execOp,resolve,I,o5,invoke]
  simp [hm,h2]
 rw [ga,J]
 simp only [kg]
 refine jX G ?_
 rintro e w' (⟨v,rfl,C⟩ | ⟨c,rfl,A⟩)
 · exact ⟨_,jj ..,k v w' C⟩
 · exact ⟨trivial,A⟩
theorem eP {o:Oper} {Pn:List PanicEntry→World→Prop} (q:o.guard=none) (h:n9 P N o σ w (fun σ w=>dR P N ops Q rest σ w) Pn) (hp:∀ c w',Pn c w'→∀ a,(∀ i∈N.F,a i=σ i)→Q (.panic c) a w'):dR P N ops Q (o::rest) σ w:=by
 unfold dR wpList
 rw [if_pos (jc o q _)]
 refine .inl<|xP h (fun σ w hk=> ?_) hp
 unfold dR at hk; exact hk
theorem Ud {t:TypeId} {v:Value} (q:ev N σ x= .iface t v) (hp:∀ a,(∀ i∈N.F,a i=σ i)→Q (.panic [{v:= .iface t v,recovered:=false}]) a w):dR P N ops Q (⟨dst,.panic x,ty,pos,af,none⟩::rest) σ w:=by
 unfold dR wpList
 rw [if_pos (jc _ rfl _)]
 refine .inl ?_
 unfold je
 have c:(execOp (ev N σ) ⟨dst,.panic x,ty,pos,af,none⟩).run P w= .halt (.panic<|.iface t v) w:=by
  simp [execOp,q,Instr.panic]
 rw [ga,c]
 exact ⟨σ,aa,hp⟩
theorem S7 {t:TypeId} {d:TypeDesc} {v:Value} (hu:P.underlying t=some d) (hd:(match d with | .interface _=>false | _=>true)=true) (a:ev N σ x=v):(execOp (ev N σ) ⟨dst,.makeInterface t x,ty,pos,af,g⟩).run P w= .ok (.value<|.iface t v) w:=by
 cases d <;> first | (cases hd; done) | simp [execOp,Instr.makeInterface,a,c4 hu]
def qL (P:Program) (t:TypeId):Bool:=match P.underlying t with | some (.interface _)=>false | some _=>true | none=>false
theorem S8 {t:TypeId} {v:Value} (h:qL P t=true) (a:ev N σ x=v):(execOp (ev N σ) ⟨dst,.makeInterface t x,ty,pos,af,g⟩).run P w= .ok (.value<|.iface t v) w:=by
 unfold qL at h
 cases hd:P.underlying t with
 | none=>rw [hd] at h; cases h
 | some d=>rw [hd] at h; exact S7 hd (by cases d <;> first | rfl | cases h) a
theorem VV {xt a:TypeId} {zv:Value} (hu:qL P a=true) (q:zeroV P a=some zv) (c:ev N σ x= .nilIface):(execOp (ev N σ) ⟨dst,.typeAssert x xt a true,ty,pos,af,g⟩).run P w= .ok (.value<|.tuple #[zv,.bool false]) w:=by
 unfold qL at hu
 cases hd:P.underlying a with
 | none=>rw [hd] at hu; cases hu
 | some d=>rw [hd] at hu; cases d <;> first | (cases hu; done) | simp [execOp,Ji,c,c4 hd,uD q]
theorem VU {xt a:TypeId} {v:Value} (hu:qL P a=true) (c:ev N σ x= .iface a v):(execOp (ev N σ) ⟨dst,.typeAssert x xt a true,ty,pos,af,g⟩).run P w= .ok (.value<|.tuple #[v,.bool true]) w:=by
 unfold qL at hu
 cases hd:P.underlying a with
 | none=>rw [hd] at hu; cases hu
 | some d=>rw [hd] at hu; cases d <;> first | (cases hu; done) | simp [execOp,Ji,c,c4 hd]
variable {S:World→Prop} {fuel:Nat} {aV:Array Bool}
theorem r8 {o:Oper} {Pn:List PanicEntry→World→Prop} (i:Nat) (hi:ops[i]? =some o) (A:kG ops aV i=true) (q:o.guard=none)
 (h:n9 P N o σ w (fun σ w=>S w∧fF P N ops Q S fuel (aV.setIfInBounds i true) σ w) Pn) (hp:∀ c w',Pn c w'→∀ a,(∀ i∈N.F,a i=σ i)→Q (.panic c) a w'):fF P N ops Q S (fuel+1) aV σ w:=by
 unfold fF at*
 refine wpAnyH_all (rs:= [i]) (by simpa [kG] using A) (by simp) ?_
 intro k hk
 obtain rfl :k=i:=by simpa using hk
 unfold wpOp
 simp only [hi]
 rw [if_pos (jc _ q _)]
 exact .inl<|xP h (fun σ w hk=>hk) hp
end
section
variable {P:Program} {N:Fm} {Q:Exit→(Nat→Value)→World→Prop} {σ:Nat→Value} {w:World} {ops:Array Oper} {S:World→Prop} {fuel:Nat} {aV:Array Bool}
theorem Rh {o a:Oper} {Pn:List PanicEntry→World→Prop} (i j:Nat) (hi:ops[i]? =some o) (E:ops[j]? =some a) (G:((iu .any ops aV)== [i,j])=true) (A:o.guard=none) (C:a.guard=none)
 (h:n9 P N o σ w (fun σ w=>S w∧fF P N ops Q S fuel (aV.setIfInBounds i true) σ w) Pn) (hp:∀ c w',Pn c w'→∀ q,(∀ i∈N.F,q i=σ i)→Q (.panic c) q w')
 (h1:cJ P N a σ w (fun σ w=>S w∧fF P N ops Q S fuel (aV.setIfInBounds j true) σ w)):fF P N ops Q S (fuel+1) aV σ w:=by
 unfold fF at*
 refine wpAnyH_all (rs:= [i,j]) (by simpa using G) (by simp) ?_
 intro k hk
 simp only [eB,yt,or_false] at hk
 rcases hk with rfl | rfl
 · unfold wpOp
   simp only [hi]
   rw [if_pos (jc _ A _)]
   exact .inl<|xP h (fun _ _ hk=>hk) hp
 · unfold wpOp
   simp only [E]
   rw [if_pos (jc _ C _)]
   exact .inl<|sH h1 fun _ _ hk=>hk
end
section
variable {P:Program} {N:Fm} {Q:Exit→(Nat→Value)→World→Prop} {σ:Nat→Value} {w:World} {ops:Array Oper} {S:World→Prop} {fuel r:Nat} {aV:Array Bool}
theorem Gm {o:Oper} {Pn:List PanicEntry→World→Prop} (i:Nat) (hi:ops[i]? =some o) (E:kG ops aV i=true) (C:o.guard=none)
 (h:n9 P N o σ w (fun σ w=>S w∧gF P N ops Q S r fuel (aV.setIfInBounds i true) σ w) Pn) (hp:∀ c w',Pn c w'→∀ q,(∀ i∈N.F,q i=σ i)→Q (.panic c) q w'):gF P N ops Q S r (fuel+1) aV σ w:=by
 unfold gF at*
 have a:iu .any ops aV= [i]:=by simpa [kG] using E
 refine ⟨fun A=>absurd (a ▸ A) (by simp),fun k hk=> ?_⟩
 rw [a] at hk
 obtain rfl :k=i:=by simpa using hk
 unfold wpOp
 simp only [hi]
 rw [if_pos (jc _ C _)]
 exact .inl<|xP h (fun σ w hk=>⟨fun _=>hk.1,hk.2⟩) hp
end
abbrev po (P:Program) (fn:Func) (R:Value→World→Prop):Exit→Act→World→Prop :=bodyPostD P fn (fun e w'=> ∃ v,e= .returned v∧R v w')
theorem PC {P:Program} {f:FuncId} {N:Nat} {fn:Func} {c:Code} {args:List Value} {w:World} {R:Value→World→Prop} (F:List Nat) (A:P.funcs[f]? =some fn) (q:fn.body=some c)
 (a:fn.ntmps=N) (hn:mO args.length N=true) (h:nu P ⟨N,[],F,none⟩ c (po P fn R) (l2 args) w):bf P f args.toArray w R:=by
 subst a
 refine calls_of_wp_defers A q ?_
 rw [xo fn args F hn]
 exact wpIn_wide.1 h
section
variable {P:Program} {n:Nat} {D:List Deferred} {F:List Nat} {σ:Nat→Value} {w:World} {fn:Func} {R:Value→World→Prop} {B:Exit→Act→World→Prop}
theorem PV {v:Value} (c:(results fn (act ⟨n,[],F,none⟩ σ).tmps).run P w= .ok v w) (a:R v w):qb ⟨n,[],F,none⟩ (po P fn R) .ret σ w:=⟨v,c,v,rfl,a⟩
theorem Sl:¬LetsOut (po P fn R):=fun ⟨_,_,h⟩=>by obtain ⟨v,h,_⟩:=h; cases h
theorem O2 {id d:Nat} {f:FuncId} (J:¬LetsOut B) {cs:Array Operand} {G I:TypeId} {C E:String} {q A:Array Edge} {y:Code} (c:Array Value) (O:cs.toList.map (ev ⟨n,[],F,none⟩ σ)=c.toList) (hd:d < n)
 (h:nu P ⟨n,[{target:= .fn (.func f) c,args:= #[]}],F,none⟩ y B (cY σ d<|.func (.func f) #[] c) w):
 nu P ⟨n,[],F,none⟩ (.region id #[⟨some d,.makeFunc (.func f) #[] cs,G,C,q,none⟩,⟨none,.defer ⟨.value (.tmp d),#[],#[]⟩,I,E,A,none⟩] false) (Exit.then (y.wpIn (fe none) 0 P B) B) σ w:=by
 have V:cs.map (ev ⟨n,[],F,none⟩ σ)=c:=xW.1<|by rw [lB]; exact O
 refine wpIn_region ?_
 have M:¬LetsOut (Exit.then (y.wpIn (fe none) 0 P B) B):=fun ⟨a,w,h⟩=>J ⟨a,w,h⟩
 refine Al (r:=none) M aa _ _ _ ?_
 show wpOps P _ _ [0,1] _ _
 simp only [wpOps,JI,ym,List.getElem?_cons_succ]
 rw [if_pos (jc _ rfl _)]
 refine .inl ?_
 unfold je
 have h1:(execOp (act ⟨n,[],F,none⟩ σ).eval ⟨some d,.makeFunc (.func f) #[] cs,G,C,q,none⟩).run P w= .ok (.value<|.func (.func f) #[] c) w:=by
  rw [ga,mf,V]; simp
 rw [h1]
 simp only [kg]
 rw [if_pos (jc _ rfl _),jj]
 refine .inl ?_
 have h2:(execOp (act ⟨n,[],F,none⟩<|fi σ (some d)<|.func (.func f) #[] c).eval ⟨none,.defer ⟨.value (.tmp d),#[],#[]⟩,I,E,A,none⟩).run P w= .ok (.defer {target:= .fn (.func f) c,args:= #[]}) w:=by
  have Y:ev ⟨n,[],F,none⟩ (cY σ d<|.func (.func f) #[] c) (.tmp d)= .func (.func f) #[] c:=by
   show cond (fP d n) (cY σ d _ d) undef=_
   rw [show fP d n=true from by simpa using hd]
   show cY σ d _ d=_
   unfold cY; simp
  rw [ga]
  show (execOp (ev ⟨n,[],F,none⟩<|cY σ d<|.func (.func f) #[] c) _).run P w=_
  simp [execOp,resolve,Y,o5]
 rw [h2]
 exact h
end
theorem TG {P:Program} {ops:Array Oper} {Q:Exit→Act→List Frame→World→Prop} {cs:List Frame} (q:¬LetsOut fun e a w=>Q e a cs w):∀ (l:List Nat) (a:Act) (w:World),wpOps P ops (fun e a w=>Q e a cs w) l a w→wpOpsS P ops Q l a cs w:=by
 intro l
 induction l with
 | nil=>exact fun _ _ h=>h
 | cons i l c=>
   intro a w h
   simp only [wpOps] at h
   simp only [wpOpsS]
   cases ho:ops[i]? with
   | none=>simp only [ho] at h ⊢; exact c a w h
   | some o=>
     simp only [ho] at h ⊢
     by_cases hw:Region.wanted o (yielded ops a.tmps)=true
     · rw [if_pos hw] at h ⊢
       rcases h with h | h
       · unfold je at h
         generalize (execOp a.eval o).run P w=x at h
         cases x with
         | ok n w'=>
           cases n <;> simp only [kg] at h ⊢ <;>
            first
             | exact c _ _ h
             | exact jX h fun e w'' he=>by cases e <;> first | exact c _ _ he | exact he
             | exact Ch h fun v w'' he=>c _ _ he
         | halt x w'=>cases x <;> simp only [kg] at h ⊢ <;> exact h
       · exact absurd h.2 q
     · rw [if_neg hw] at h ⊢
       exact c _ _ h
theorem Sq {P:Program} {ops:Array Oper} {Q C:Exit→Act→World→Prop} (A:∀ e a w,Q e a w→C e a w) (E:¬LetsOut Q):∀ (l:List Oper) (a:Act) (w:World),wpList P ops Q l a w→wpList P ops C l a w:=by
 intro l
 induction l with
 | nil=>exact fun _ _ h=>A _ _ _ h
 | cons o l q=>
   intro a w h
   unfold wpList at h ⊢
   split at h
   · rename_i hw
     rw [if_pos hw]
     rcases h with h | h
     · left
       unfold je at h ⊢
       generalize (execOp a.eval o).run P w=x at h
       cases x with
       | ok n w'=>
         cases n <;> simp only [kg] at h ⊢ <;>
          first
           | exact q _ _ h
           | exact jX h (fun e w'' he=>by
            cases e with
            | returned v=>exact q _ _ he
            | panicked c=>exact A _ _ _ he
            | outgrown=>exact absurd he E)
           | exact Ch h fun v w'' he=>q _ _ he
       | halt x w'=>cases x <;> simp only [kg] at h ⊢ <;> exact A _ _ _ h
     · exact absurd h.2 E
   · rename_i hw
     rw [if_neg hw]; exact q _ _ h
theorem DW {P:Program} {f:FuncId} {fn:Func} {id N d:Nat} {ty:TypeId} {pos :String} {af:Array Edge} {rest:List Oper} {y:Code} {args:List Value} {w:World} {u E:FrameMode} {v:Value} {R:World→Prop}
 (ad:P.funcs[f]? =some fn) (ab:fn.body=some (.seq (.region id (⟨some d,.call ⟨.builtin .recover,#[],#[]⟩,ty,pos,af,none⟩::rest).toArray false) y)) (aa:fn.ntmps=N) (hn:mO args.length N=true)
 (ae:∀ (A:Frame) (cs:List Frame),A.mode=u→(recoverD (A::cs)=some (v,{A with mode:=E} ::cs))∨(recoverD (A::cs)=none∧v= .nilIface∧E=u))
 (h:dR P ⟨N,[],[],none⟩ (⟨some d,.call ⟨.builtin .recover,#[],#[]⟩,ty,pos,af,none⟩::rest).toArray (kY (fun σ w=>c6 P ⟨N,[],[],none⟩ y (fin P fn ⟨N,[],[],none⟩ fun _ w=>R w) σ w)<|fin P fn ⟨N,[],[],none⟩ fun _ w=>R w) rest (cY (l2 args) d v) w):
 CallsD P f args.toArray u w fun e G w'=> ∃ v,e= .returned v∧G=E∧R w':=by
 subst aa
 refine callsD_of_wpS ad ab ?_
 intro A cs hu
 rw [xo fn args [] hn]
 refine wpS_seq<|wpS_region ?_
 have ag:fI (⟨some d,.call ⟨.builtin .recover,#[],#[]⟩,ty,pos,af,none⟩::rest).toArray.size=0::(List.range' 1 rest.length):=by
  rw [nI,bX,List.range_eq_range',List.range'_succ]
 rw [ag]
 simp only [wpOpsS,JI,ym]
 rw [if_pos (jc _ rfl _)]
 have ah:(execOp (act ⟨fn.ntmps,[],[],none⟩<|l2 args).eval ⟨some d,.call ⟨.builtin .recover,#[],#[]⟩,ty,pos,af,none⟩).run P w= .ok .recover w:=by
  rw [ga]
  simp [execOp,resolve,invoke,builtin]
 rw [ah]
 simp only
 obtain ⟨I,J⟩:∃ I,I=({A with mode:=E} ::cs:List Frame):=⟨_,rfl⟩
 have ac:∀ X:Act→List Frame→Prop,X ((act ⟨fn.ntmps,[],[],none⟩<|l2 args).put (some d) v) I→
  (match recoverD (A::cs) with
   | some (v,M)=>X ((act ⟨fn.ntmps,[],[],none⟩<|l2 args).put (some d) v) M
   | none=>X ((act ⟨fn.ntmps,[],[],none⟩<|l2 args).put (some d) .nilIface) (A::cs)):=by
  intro X Y
  rcases ae A cs hu with h1 | ⟨h1,h2,h3⟩
  rw [h1]; subst J; exact Y
  rw [h1]; subst h2 h3
  have :({A with mode:=E} :Frame)=A:=by subst hu; rfl
  rw [this] at J; subst J; exact Y
 refine ac (fun a M=>wpOpsS P _ _ _ a M w) ?_
 rw [jj]
 refine TG ?_ _ _ _ ?_
 rintro ⟨a,w,h⟩
 simp only [Exit.thenS,bodyPostS] at h
 obtain ⟨_,_,h,_⟩:=h; cases h
 have h1:=wpOps_eq_wpList (P:=P) (ops:=(⟨some d,.call ⟨.builtin .recover,#[],#[]⟩,ty,pos,af,none⟩::rest).toArray) (Q:=fun e a w'=>Exit.thenS (Code.wpS P y (bodyPostS P fn A cs fun e G w'=> ∃ v,e= .returned v∧G=E∧R w')) (bodyPostS P fn A cs fun e G w'=> ∃ v,e= .returned v∧G=E∧R w') e a I w') rest 1 fun j=>by simp [Nat.add_comm]
 rw [h1]
 unfold dR at h
 refine Sq ?_ Ax _ _ _ h
 intro e a w' C
 have Z:∀ (e:Exit) (σ:Nat→Value) (w':World),fin P fn ⟨fn.ntmps,[],[],none⟩ (fun _ w=>R w) e σ w'→bodyPostS P fn A cs (fun e G w'=> ∃ v,e= .returned v∧G=E∧R w') e (act ⟨fn.ntmps,[],[],none⟩ σ) I w':=by
  intro e σ w' q
  cases e with
  | normal=>obtain ⟨v,V,O⟩:=q; exact ⟨rfl,E,J,v,V,v,rfl,rfl,O⟩
  | ret=>obtain ⟨v,V,O⟩:=q; exact ⟨rfl,E,J,v,V,v,rfl,rfl,O⟩
  | _=>exact q.elim
 cases e with
 | normal=>
   obtain ⟨σ,rfl,q⟩:=C
   refine wpS_of_wp ?_
   simp only [kY] at q
   unfold c6 at q
   refine I4 ?_<|wpIn_wide.1 q
   intro e a w' C
   cases e with
   | panic c=>obtain ⟨σ,rfl,q⟩:=C; exact (q σ fun _ _=>rfl).elim
   | outgrown=>exact C.elim
   | _=>obtain ⟨σ,rfl,q⟩:=C; exact Z _ σ w' q
 | panic c=>obtain ⟨σ,rfl,q⟩:=C; exact (q σ fun _ _=>rfl).elim
 | outgrown=>exact C.elim
 | ret=>obtain ⟨σ,rfl,q⟩:=C; exact Z .ret σ w' q
 | exit i=>obtain ⟨σ,rfl,q⟩:=C; exact q.elim
 | goto i=>obtain ⟨σ,rfl,q⟩:=C; exact q.elim
section
variable {P:Program} {n:Nat} {F:List Nat} {σ:Nat→Value} {w:World} {fn:Func} {R:Value→World→Prop}
theorem PW {g:FuncId} {a:Array Value} {M:World→Prop} (hu:(invoke (.fn (.func g) a) #[]).run P w= .ok (.enter g a) w)
 (q:CallsD P g a .returning w fun e A w'=> ∃ v,e= .returned v∧A= .returning∧M w') (c:∀ w',M w'→∃ v,(results fn (act ⟨n,[{target:= .fn (.func g) a,args:= #[]}],F,none⟩ σ).tmps).run P w'= .ok v w'∧R v w'):
 qb ⟨n,[{target:= .fn (.func g) a,args:= #[]}],F,none⟩ (po P fn R) .ret σ w:=by
 refine leaves_cons (by simp) hu ?_
 refine I3 q ?_
 rintro e C w' ⟨v,rfl,rfl,hm⟩
 obtain ⟨v2,h1,h2⟩:=c w' hm
 exact ⟨v2,h1,v2,aa,h2⟩
theorem PX {g:FuncId} {a:Array Value} {M:World→Prop} {v:Value} (hu:(invoke (.fn (.func g) a) #[]).run P w= .ok (.enter g a) w)
 (q:CallsD P g a (.panicking [{v:=v,recovered:=false}]) w fun e A w'=> ∃ x,e= .returned x∧A= .panicking [{v:=v,recovered:=true}]∧M w') (c:∀ w',M w'→∃ v,(results fn (act ⟨n,[{target:= .fn (.func g) a,args:= #[]}],F,none⟩ σ).tmps).run P w'= .ok v w'∧R v w'):
 qb ⟨n,[{target:= .fn (.func g) a,args:= #[]}],F,none⟩ (po P fn R) (.panic [{v:=v,recovered:=false}]) σ w:=by
 refine leaves_cons (by simp) hu ?_
 refine I3 q ?_
 rintro e C w' ⟨x,rfl,rfl,hm⟩
 obtain ⟨v2,h1,h2⟩:=c w' hm
 exact ⟨v2,h1,v2,aa,h2⟩
end
end Go.Hb
end
section
namespace Go.Hb
def lF (w:World) (B e n:Nat) (v:Value) (xs:List Value):Prop :=
 ∃ a cp,v= .slice a n cp∧n≤cp∧(xs= []∨∃ b o cur z,a=some ⟨b,o,none⟩∧B≤b∧w.heap[b]? =some (.cells cur e z)∧∀ (j:Nat) u,xs[j]? =some u→cur[o+j]? =some u)
theorem Tg.Wc {w:World} {B e n:Nat} {v:Value} {xs:List Value} (h:Tg w B e n v xs):lF w B e n v xs:=by
 obtain ⟨a,cp,rfl,C,c⟩:=h
 refine ⟨a,cp,aa,C,c.imp id ?_⟩
 rintro ⟨b,cur,z,q,A,E,c⟩
 exact ⟨b,0,cur,z,q,A,E,fun j u hu=>by rw [Nat.zero_add]; exact c j u hu⟩
theorem lF.cells {w:World} {B e n cp:Nat} {a:Option Addr} {xs:List Value} (h:lF w B e n (.slice a n cp) xs):n≤cp∧aG w.heap a xs:=by
 obtain ⟨E,G,C,q,c⟩:=h
 cases C
 rcases c with h | ⟨b,o,cur,z,rfl,_,A,c⟩
 · subst h; exact ⟨q,aG.nil _ _⟩
 · refine ⟨q,fun _=>rfl,fun j u hu=> ?_⟩
   show Hb.aM w.heap b (o+j)=_
   rw [a7 A]; exact c j u hu
theorem lF.slice {w:World} {B e n:Nat} {v:Value} {xs:List Value} (h:lF w B e n v xs):∃ a cp,v= .slice a n cp:=let ⟨a,cp,hv,_⟩:=h; ⟨a,cp,hv⟩
theorem lF.md {F:Nat→Prop} {w w':World} {B e n:Nat} {v:Value} {xs:List Value} (h:lF w B e n v xs) (hm:Md F w w') (A:∀ k,F k→∀ cur z,w.heap[k]?≠some (.cells cur e z)):lF w' B e n v xs:=by
 obtain ⟨a,cp,rfl,q,h | ⟨b,o,cur,z,rfl,C,c,E⟩⟩:=h
 · exact ⟨a,cp,aa,q,.inl h⟩
 · exact ⟨_,cp,aa,q,.inr ⟨b,o,cur,z,aa,C,by rw [hm.dH b (bY.1 c).1 (fun hk=>A b hk cur z c)]; exact c,E⟩⟩
theorem lF.rU {w:World} {B e n m cp:Nat} {a:Option Addr} {xs:List Value} (h:lF w B e (n+1) (.slice a (n+1) cp) xs) (E:xs.length=(n+1)*m):lF w B e n (.slice (fw a cp 1 m) n<|cp - 1) (xs.drop m):=by
 obtain ⟨I,J,C,M,A⟩:=h
 cases C
 refine ⟨_,_,aa,ab,?_⟩
 rcases A with rfl | ⟨b,o,cur,z,rfl,c,q,G⟩
 · exact .inl<|by simp
 · unfold fw
   by_cases h1:cp=1
   · refine .inl<|gx ?_
     obtain rfl :n=0:=ab
     rw [gH,E]; omega
   · rw [if_neg h1]
     refine .inr ⟨b,o+1 *m,cur,z,?_,c,q,fun j u hu=> ?_⟩
     · rw [kj,lG]
     · rw [List.getElem?_drop] at hu
       have :=G _ u hu
       rw [show o+1 *m+j=o+(m+j) from by omega]; exact this
def dE (w:World) (B e:Nat) (vs:List Value) (a:List (List Nat)):Prop :=vs.length=a.length∧∀ (i:Nat) v l,vs[i]? =some v→a[i]? =some l→Tg w B e l.length v (l.map aX)
theorem dE.nil (w:World) (B e:Nat):dE w B e [] []:=⟨rfl,fun i v l a=>by simp at a⟩
theorem dE.md {F:Nat→Prop} {w w':World} {B e:Nat} {vs:List Value} {a:List (List Nat)} (h:dE w B e vs a) (hm:Md F w w') (c:∀ k,F k→∀ cur z,w.heap[k]?≠some (.cells cur e z)):dE w' B e vs a:=⟨h.1,fun i v l h1 h2=>(h.2 i v l h1 h2).md hm c⟩
theorem dE.wk {w w':World} {B e:Nat} {vs:List Value} {a:List (List Nat)} (h:dE w B e vs a) (hm:Wk w w'):dE w' B e vs a:=h.md hm fun _ hk=>hk.elim
theorem dE.mono {w:World} {B B' e:Nat} {vs:List Value} {a:List (List Nat)} (h:dE w B e vs a) (c:B'≤B):dE w B' e vs a:=⟨h.1,fun i v l h1 h2=>(h.2 i v l h1 h2).mono c⟩
theorem dE.snoc {w:World} {B e:Nat} {vs:List Value} {c:List (List Nat)} {v:Value} {l:List Nat} (a:dE w B e vs c) (A:Tg w B e l.length v (l.map aX)):dE w B e (vs++ [v]) (c++ [l]):=by
 refine ⟨by rw [bK,bK,a.1]; rfl,fun i C E h1 h2=> ?_⟩
 have q:=a.1
 by_cases hi:i < vs.length
 · rw [mK hi] at h1
   rw [mK ab] at h2
   exact a.2 i C E h1 h2
 · rw [nD ab] at h1
   rw [nD ab,← q] at h2
   cases hj:i - vs.length with
   | zero=>rw [hj] at h1 h2; cases h1; cases h2; exact A
   | succ j=>rw [hj] at h1; simp at h1
def ij (t ln:Nat) (e:Int):List PanicEntry:= [{v:= .iface t (.agg [.int .i64 1,.int .i64 (ln:Nat),.int .i64 e].toArray),recovered:=false}]
theorem dK {h:World} {b:Nat} {isK:Value→Prop} {f:Value→Option Value} (hm:bS h.heap b isK f):tag h b=1:=let ⟨_,h1,_⟩:=hm; xE h1
def Wr (L:List Nat) (ms mt mc B:Nat) (w:World) (k:Nat):Prop :=B≤k∧(k=ms∨k=mt∨k=mc∨L.contains (tag w k)=true)
abbrev Mw (L:List Nat) (ms mt mc B:Nat) (w w':World):Prop :=Md (Wr L ms mt mc B w) w w'
section
variable {L:List Nat} {ms mt mc B:Nat} {w w' w'':World}
theorem Mw.trans (h:Mw L ms mt mc B w w') (a:Mw L ms mt mc B w' w''):Mw L ms mt mc B w w'':=by
 refine Md.trans' h a fun k hk hw=> ?_
 refine Classical.byContradiction fun hn=> ?_
 have :=Md.tag h hk hn
 unfold Wr at hw
 rw [this] at hw
 exact hn hw
theorem Wk.mw (h:Wk w w'):Mw L ms mt mc B w w':=h.mono fun _ _ a=>a.elim
theorem Mw.of {F:Nat→Prop} (h:Md F w w') (q:TF w L F) (c:∀ k,F k→B≤k):Mw L ms mt mc B w w':=h.mono fun k _ a=>⟨c k a,.inr<|.inr<|.inr<|q k a⟩
theorem Mw.wk {w0:World} (a:Wk w0 w) (h:Mw L ms mt mc B w w') (c:w0.heap.size≤B):Wk w0 w':=Md.trans' a h fun k hk hw=>by have :=hw.1; omega
theorem Wr.ne (hs:tag w ms=1) (C:tag w mt=1) (A:tag w mc=1) {e:Nat} (q:L.contains (e+2)=false):∀ k,Wr L ms mt mc B w k→∀ cur z,w.heap[k]?≠some (.cells cur e z):=by
 rintro k ⟨_,rfl | rfl | rfl | h⟩ cur z c <;> have a:=dD c
 · omega
 · omega
 · omega
 · rw [a,q] at h; cases h
end
end Go.Hb
end
section
namespace Go.Hb
section
variable {P:Program} {N:Fm} {σ:Nat→Value} {w:World} {dst:Option Nat} {ty:TypeId} {pos :String} {af:Array Edge} {g:Option (Nat×Bool)} {x y:Operand}
theorem PM (d:Nat) {t e:TypeId} {a:Option Addr} {n c:Nat} (hu:P.underlying t=some (.slice e)):(Op.equalIn (d+1) t (.slice a n c)<|.slice none 0 0).run P w= .ok a.isNone w:=by
 cases a <;> simp [Op.equalIn,c4 hu]
theorem PN {t e:TypeId} {a:Option Addr} {n c:Nat} (hu:P.underlying t=some (.slice e)):(Op.equal t (.slice a n c)<|.slice none 0 0).run P w= .ok a.isNone w:=PM 9999 hu
theorem pK {t C e:TypeId} {a:Option Addr} {n c:Nat} (hu:P.underlying t=some (.slice e)) (q:ev N σ x= .slice a n c) (A:ev N σ y= .slice none 0 0):
 (execOp (ev N σ) ⟨dst,.binOp .eql t x y C,ty,pos,af,g⟩).run P w= .ok (.value<|.bool a.isNone) w:=by
 have h:(binOp .eql t (.slice a n c)<|.slice none 0 0).run P w= .ok (.bool a.isNone) w:=by
  simp only [binOp]; simp [PN hu]
 simp [execOp,q,A,eqGuard,h]
end
def Rd (h:Array Obj) (v:Value) (n size:Nat) (xs:List Value):Prop := ∃ a c,v= .slice a n c∧aG h a xs∧xs.length=n*size∧(a=none→n=0)
theorem Rd.kF {w:World} {B e size n:Nat} {v:Value} {xs:List Value} (h:w.ownsRow B e size v n xs):Rd w.heap v n size xs:=by
 obtain ⟨a,c,rfl,h1,_,_,h3⟩:=sr h
 refine ⟨a,c,aa,h1,h.1,fun q=> ?_⟩
 subst q
 rcases h.2 with ⟨h4,h5⟩ | ⟨g,cap,cur,h4,_⟩
 · exact h5
 · simp at h4
theorem G7 {w:World} {B e size n k cp:Nat} {a:Option Addr} {xs:List Value} (h:w.ownsRow B e size (.slice a n cp) n xs) (hk:k≤n) (C:a≠none):w.ownsRow B e size (.slice a k cp) k (xs.take<|k*size):=by
 obtain ⟨c,h⟩:=h
 refine ⟨by rw [ee,c]; exact ot (ou _ hk),?_⟩
 rcases h with ⟨h1,_⟩ | ⟨g,cap,cur,h1,h2,h3,h4,h5,q,A⟩
 · simp only [l8] at h1; exact absurd h1.1 C
 · simp only [l8,true_and] at h1
   obtain ⟨rfl,rfl⟩:=h1
   refine .inr ⟨g,_,cur,aa,h2,h3,ab,h5,q,?_⟩
   rw [← A,JU,ot (ou _ hk)]
section
variable {P:Program} {N:Fm} {σ:Nat→Value} {w:World} {dst:Option Nat} {ty:TypeId} {pos :String} {af:Array Edge} {g:Option (Nat×Bool)} {x y z u:Operand} {K:(Nat→Value)→World→Prop}
theorem Vk {t n len cap:Nat} {a:Option Addr} {k E G:IntKind} {i j m:Nat} (he:gK P t=some n) (c:ev N σ x= .slice a len cap) (A:ev N σ y= .int k (i:Nat)) (C:ev N σ z= .int E (j:Nat)) (hu:ev N σ u= .int G (m:Nat)) (h:i≤j∧j≤m∧m≤cap):
 (execOp (ev N σ) ⟨dst,.slice t x (some y) (some z) (some u),ty,pos,af,g⟩).run P w= .ok (.value<|.slice (fw a m i n) (j - i)<|m - i) w:=by
 have h1:(0:Int)≤(i:Int):=ab
 have h2:(0:Int)≤(j:Int):=ab
 have h3:(0:Int)≤(m:Int):=ab
 unfold gK at he
 cases hd:P.underlying t with
 | none=>rw [hd] at he; cases he
 | some d=>
   rw [hd] at he
   cases d <;> first | (cases he; done) | skip
   rename_i e
   cases hi':P.info? e with
   | none=>simp [hi'] at he
   | some q=>
     simp only [hi',kj,fJ] at he
     subst he
     simp only [execOp,q6,Instr.slice,c,A,C,hu,kj,od,Instr.sliceBound,asIntOf]
     simp [c4 hd,gO hi',sizeOf,h.1,h.2.1,h.2.2,fw]
theorem KQ {t e size bytes B n m cp c A:Nat} {xs news:List Value} {a:Option Addr} (Z:gv P t e size bytes=true) (M:w.ownsRow B e size (.slice (some ⟨A,0,none⟩) n cp) n xs) (aa:ev N σ x= .slice (some ⟨A,0,none⟩) n cp)
 (ab:ev N σ y= .slice a m c) (G:aG w.heap a news) (I:a≠none) (J:news.length=m*size) (h1:news.all Value.oneCell'=true) (Y:n+m≤cp)
 (k:∀ w',Md (fun q=>q=A) w w'→w'.ownsRow B e size (.slice (some ⟨A,0,none⟩) (n+m) cp) (n+m) (xs++news)→K (fi σ dst<|.slice (some ⟨A,0,none⟩) (n+m) cp) w'):
 cJ P N ⟨dst,.call ⟨.builtin .append,#[x,y],#[t,t]⟩,ty,pos,af,g⟩ σ w K:=by
 obtain ⟨hu,i,zv,hi,ag,hs,ac,ah,ae⟩:=pV Z
 obtain ⟨ad,rfl⟩:∃ ad,a=some ad:=by cases a with | none=>exact absurd rfl I | some ad=>exact ⟨ad,rfl⟩
 have hn:∀ j v,news[j]? =some v→w.cell? (ad.add j)=some v:=fun j v C=>by
  have E:news≠[]:=fun e=>by rw [e] at C; simp at C
  have h2:=G.ok E
  simp only [fJ] at h2
  rw [h2,lG,mS]; exact G.aM j v C
 obtain ⟨w',V,h2,h3⟩:=Go.run_append_fits (P:=P) (w:=w) B t ty e i size hu hi hs A n cp xs M ad m c news J hn (tk h1) Y
 refine lz (w':=w') (v:= .slice (some ⟨A,0,none⟩) (n+m) cp) ?_<|k w' ⟨h3.os,h3.output,h3.size,fun q O E=>h3.block q O fun e=>E<|rq e⟩ h2
 simp [execOp,resolve,invoke,builtin,aa,ab,V]
end
end Go.Hb
end
section
namespace Go.Hb
def qw (P:Program) (t:TypeId):Option (Nat×Nat):=
 match P.underlying t with
 | some (.array n e)=>(P.info? e).map fun i=>(n,i.size)
 | _=>none
section
variable {P:Program} {N:Fm} {σ:Nat→Value} {w:World} {dst:Option Nat} {ty:TypeId} {pos :String} {af:Array Edge} {g:Option (Nat×Bool)} {x y:Operand}
theorem lS {t n c b off :Nat} {k:IntKind} {i:Int} (he:qw P t=some (n,c)) (q:ev N σ x= .pointer (some ⟨b,off,none⟩)) (A:ev N σ y= .int k i) (a:0≤i∧i < n):
 (execOp (ev N σ) ⟨dst,.indexAddr t x y,ty,pos,af,g⟩).run P w= .ok (.value<|.pointer<|some ⟨b,off+i.toNat*c,none⟩) w:=by
 unfold qw at he
 cases hd:P.underlying t with
 | none=>rw [hd] at he; cases he
 | some d=>
   rw [hd] at he
   cases d <;> first | (cases he; done) | skip
   rename_i m e
   cases hi:P.info? e with
   | none=>simp [hi] at he
   | some j=>
     simp only [hi,kj,fJ,vf] at he
     obtain ⟨rfl,rfl⟩:=he
     simp [execOp,Instr.indexAt,p9,q,A,asIntOf,c4 hd,a.1,a.2,sizeOf,gO hi,lG]
end
theorem SR {h:Array Obj} {b:Nat} {a:List UInt8} (q:bD h b (marksOf a)) (c:UInt8):Hb.aM h b (0 +((c.toNat:Nat):Int).toNat*1)=some (.bool<|decide (c∈a)):=by
 rw [q.aM,show 0 +((c.toNat:Nat):Int).toNat*1=c.toNat from by omega]; exact SO a c
theorem SS {h:Array Obj} {b:Nat} {a:List UInt8} {c:UInt8} (q:bD h b ((marksOf a).set (0 +((c.toNat:Nat):Int).toNat*1)<|.bool true)):bD h b (marksOf<|a++ [c]):=by
 rw [show 0 +((c.toNat:Nat):Int).toNat*1=c.toNat from by omega,SQ] at q; exact q
end Go.Hb
end
section
namespace Go.Hb
theorem RO (c:UInt8):∀ l:List UInt8,Jj l c=ew c l:=by
 intro l
 induction l with
 | nil=>rfl
 | cons b l C=>
   unfold Jj
   rw [C]
   rw [show ew c (b::l)=if (b::l).idxOf c < (b::l).length then ((b::l).idxOf c:Int) else -1 from rfl,List.idxOf_cons]
   by_cases h:(b==c)=true
   · rw [if_pos h,h]; rfl
   · have q:(b==c)=false :=by simpa using h
     rw [if_neg h,q]
     simp only [cond_false,bX]
     by_cases h1:l.idxOf c < l.length
     · have a:ew c l=l.idxOf c:=if_pos h1
       rw [a,if_neg (fun A=>by have :=eq_of_beq A; omega),if_pos ab]; rfl
     · have a:ew c l= -1:=if_neg h1
       rw [a,if_pos aw,if_neg ab]
theorem UW {P:Program} {f:FuncId} {fn:Func} (q:P.funcs[f]? =some fn) (A:(fn.name== "runtime.NumGoroutine")=false) (a:fn.body.isNone=true) (hn:Ja fn=none)
 (he:I9 fn=some Xv) (l:List UInt8) (c:UInt8) (w:World):(callFunc f #[str l,.int .u8 c.toNat]).run P w= .ok (.value<|.int .i64<|ew c l) w:=by
 rw [run_callFunc_extern q A a hn he]
 unfold str
 rw [Lib.run_indexByteString]
 have h1:((c.toNat:Int)).toNat.toUInt8=c:=rr.1<|by simp
 rw [h1,RO]
 rfl
theorem UU {P:Program} {f:FuncId} {fn:Func} (q:P.funcs[f]? =some fn) (A:(fn.name== "runtime.NumGoroutine")=false) (a:fn.body.isNone=true) (hn:Ja fn=none)
 (he:I9 fn=some Xu) (l:List UInt8) (c:UInt8) (w:World):(callFunc f #[str l,.int .u8 c.toNat]).run P w= .ok (.value<|.int .i64 (l.count c:Nat)) w:=by
 rw [run_callFunc_extern q A a hn he]
 unfold str
 rw [Lib.run_countString]
 have h1:((c.toNat:Int)).toNat.toUInt8=c:=rr.1<|by simp
 rw [h1]
 rfl
section
variable {P:Program} {N:Fm} {σ:Nat→Value} {w:World} {dst:Option Nat} {ty:TypeId} {pos :String} {af:Array Edge} {g:Option (Nat×Bool)}
theorem Ec {f:FuncId} {a b v:Value} {args:Array Operand} {c:Array TypeId} (h:(callFunc f #[a,b]).run P w= .ok (.value v) w) (q:args.toList.map (ev N σ)= [a,b]):
 (execOp (ev N σ) ⟨dst,.call ⟨.value (.func f),args,c⟩,ty,pos,af,g⟩).run P w= .ok (.value v) w:=by
 have :args.map (ev N σ)= #[a,b]:=by rw [← xW,lB,q]
 simp [execOp,resolve,ev,o5,invoke,this,h]
end
end Go.Hb
end
section
namespace Go.Hb
theorem U9 {L:List Value} {o:Nat} {v:Value} (h:o < L.length):(L.set o v).take (o+1)=L.take o++ [v]:=by
 rw [List.set_eq_take_append_cons_drop,if_pos h,u7,ee,ot ab,Nat.add_sub_cancel_left,e9 (by rw [ee]; omega)]
 rfl
theorem U7 {L:List Value} {o m:Nat} {v:Value} (h:o < m):(L.set o v).drop m=L.drop m:=by
 rw [List.drop_set,if_pos h]
theorem HF (b e:Nat):∀ (vs:List Value) (o:Nat) (L:List Value) (w:World),w.heap[b]? =some (.cells L.toArray e (0,0))→o+vs.length≤L.length→
 (w.setCells b o vs).heap[b]? =some (.cells (L.take o++vs++L.drop (o+vs.length)).toArray e (0,0))∧Md (fun k=>k=b) w (w.setCells b o vs):=by
 intro vs
 induction vs with
 | nil=>intro o L w a _; exact ⟨by simpa [World.setCells] using a,Md.refl _ _⟩
 | cons v r E=>
   intro o L w a q
   simp only [bX] at q
   have h1:(w.setCell ⟨b,o,none⟩ v).heap[b]? =some (.cells (L.set o v).toArray e (0,0)):=by
    have A:=(bY.1 a).1
    have C:w.heap[b]= .cells L.toArray e (0,0):=(bY.1 a).2
    simp only [yb]
    rw [Array.getElem?_eq_getElem (by simpa using A),Array.getElem_modify]
    simp [C,List.setIfInBounds_toArray]
   have c:Md (fun k=>k=b) w (w.setCell ⟨b,o,none⟩ v):=⟨rfl,rfl,by simp [yb],fun k _ hk=>Below.heap_setCell w _ v k hk⟩
   obtain ⟨h2,h3⟩:=E (o+1) (L.set o v) _ h1<|by rw [List.length_set]; omega
   refine ⟨?_,Md.trans c h3⟩
   show ((w.setCell ⟨b,o,none⟩ v).setCells b (o+1) r).heap[b]? =_
   rw [h2,U9 ab,U7 ab,bX,show o+1 +r.length=o+(r.length+1) from by omega]
   simp
section
variable {P:Program} {N:Fm} {σ:Nat→Value} {w:World} {ty:TypeId} {pos :String} {af:Array Edge} {g:Option (Nat×Bool)} {x:Operand} {K:(Nat→Value)→World→Prop}
theorem NI {t e B n k cp E m:Nat} {a:Option Addr} {xs:List Value} {z:Value} (ah:P.underlying t=some (.slice e)) (aj:zeroV P e=some z) (h1:z.oneCell'=true) (Z:w.ownsRow B e 1 (.slice a n cp) n xs)
 (G:ev N σ x= .slice (fw a cp k 1) m E) (hm:m=n - k) (hk:k < n) (ak:∀ w',Md (fun q=>(bE a n cp).ownBlock=some q) w w'→w'.ownsRow B e 1 (.slice a n cp) n (xs.take k++jG (n - k) z)→K σ w'):
 cJ P N ⟨none,.call ⟨.builtin .clear,#[x],#[t]⟩,ty,pos,af,g⟩ σ w K:=by
 obtain ⟨J,h⟩:=Z
 subst hm
 rcases h with ⟨h,rfl⟩ | ⟨c,al,cur,h,M,V,hle,O,ag,ai⟩
 · omega
 · simp only [l8,true_and] at h
   obtain ⟨rfl,rfl⟩:=h
   have ae:fw (some ⟨c,0,none⟩) cp k 1=some ⟨c,k,none⟩:=by
    unfold fw; rw [if_neg ab]; simp [lG]
   rw [ae] at G
   have C:w.heap[c]? =some (.cells cur.toList.toArray e (0,0)):=by simpa using V
   have A:cur.toList.length=cp*1:=by rw [uF]; exact ag
   have ad:=Jk (P:=P) w t e ty z ah (fun w=>uD aj w) (by cases z <;> first | rfl | (cases h1; done)) h1 c k (n - k) E ab
    (fun j Y=>by rw [mS,a7 C]; simp; omega) (fun j Y=>by simp only [Ju,show w.heap[c]? =_ from C]; simp)
   obtain ⟨h2,h3⟩:=HF c e (jG (n - k) z) k cur.toList w C<|by rw [nE,A]; omega
   refine lz (w':=w.setCells c k<|jG (n - k) z) (v:= .tuple #[]) ?_ (ak _ (h3.mono fun q _ ac=>by subst ac; rfl) ⟨?_,.inr ⟨c,cp,_,aa,M,h2,hle,O,?_,?_⟩⟩)
   · simp [execOp,resolve,invoke,builtin,G,ad]
   · rw [bK,ee,nE,J]; omega
   · simp only [nI,bK,ee,gH,nE,A]; omega
   · rw [nE,s8]
     have I:(cur.toList.take k++jG (n - k) z++cur.toList.drop (k+(n - k))).toArray.toList=(cur.toList.take k++jG (n - k) z)++cur.toList.drop (k+(n - k)):=rfl
     rw [I,u7,bK,ee,nE,A,ot ab,show n - (k+(n - k))=0 by omega,ph,ep,e9 (by rw [bK,ee,nE,A]; omega)]
     rw [← ai,JU,s8,ot ab]
theorem NJ {t e B n cp E m:Nat} {a:Option Addr} {xs:List Value} {z:Value} (ai:P.underlying t=some (.slice e)) (ak:zeroV P e=some z) (h1:z.oneCell'=true) (ac:w.ownsRow B e 1 (.slice a n cp) n xs) (O:a≠none)
 (G:ev N σ x= .slice (fw a cp n 1) m E) (hm:0 < m∧n+m≤cp) (al:∀ w',Md (fun q=>(bE a n cp).ownBlock=some q) w w'→w'.ownsRow B e 1 (.slice a n cp) n xs→K σ w'):
 cJ P N ⟨none,.call ⟨.builtin .clear,#[x],#[t]⟩,ty,pos,af,g⟩ σ w K:=by
 obtain ⟨J,h⟩:=ac
 rcases h with ⟨h,rfl⟩ | ⟨c,am,cur,h,M,Y,hle,V,ah,aj⟩
 · simp only [l8] at h; exact absurd h.1 O
 · simp only [l8,true_and] at h
   obtain ⟨rfl,rfl⟩:=h
   have ag:fw (some ⟨c,0,none⟩) cp n 1=some ⟨c,n,none⟩:=by
    unfold fw; rw [if_neg ab]; simp [lG]
   rw [ag] at G
   have C:w.heap[c]? =some (.cells cur.toList.toArray e (0,0)):=by simpa using Y
   have A:cur.toList.length=cp*1:=by rw [uF]; exact ah
   have ae:=Jk (P:=P) w t e ty z ai (fun w=>uD ak w) (by cases z <;> first | rfl | (cases h1; done)) h1 c n m E hm.1
    (fun j Z=>by rw [mS,a7 C]; simp; omega) (fun j Z=>by simp only [Ju,show w.heap[c]? =_ from C]; simp)
   obtain ⟨h2,h3⟩:=HF c e (jG m z) n cur.toList w C<|by rw [nE,A]; omega
   refine lz (w':=w.setCells c n<|jG m z) (v:= .tuple #[]) ?_ (al _ (h3.mono fun q _ ad=>by subst ad; rfl) ⟨J,.inr ⟨c,cp,_,aa,M,h2,hle,V,?_,?_⟩⟩)
   · simp [execOp,resolve,invoke,builtin,G,ae]
   · simp only [nI,bK,ee,gH,nE,A]; omega
   · rw [nE,s8]
     have I:(cur.toList.take n++jG m z++cur.toList.drop (n+m)).toArray.toList=cur.toList.take n++(jG m z++cur.toList.drop (n+m)):=List.append_assoc _ _ _
     rw [I,u7,ee,A,ot ab,Nat.sub_self,ph,ep,e9 (by rw [ee]; omega),← aj,s8]
end
end Go.Hb
end
section
namespace Go.Hb
def yJ (P:Program) (t:TypeId):Option (List Value):=
 match P.info? t,P.underlying t with
 | some it,some (.array _ e)=>
   match it.zero,P.info? e with
   | some z,some ie=>if ie.size=1 then some z.cells.toList else none
   | _,_=>none
 | _,_=>none
def uk:List Value→List (Nat×Value)→Option (List Value)
 | a,[]=>some a
 | a,(i,v)::r=>if (v.oneCell' && fP i a.length)=true then uk (a.set i v) r else none
theorem Uk {a L:List Value} {ps:List (Nat×Value)} (h:uk a ps=some L):l7 (fun i=>some (i*1,1)) a.toArray ps=some L.toArray:=by
 induction ps generalizing a with
 | nil=>simp only [uk,fJ] at h; subst h; rfl
 | cons q r C=>
   obtain ⟨i,v⟩:=q
   rw [uk] at h
   split at h
   · rename_i c
     simp only [gj] at c
     have A:=pR c.1
     have E:i < a.length:=qk c.2
     simp only [l7,A,s8]
     rw [if_neg (by simp; omega)]
     have :=C h
     simp only [s8] at this
     rw [← this]
     simp
   · cases h
section
variable {P:Program} {N:Fm} {σ:Nat→Value} {w:World} {dst:Option Nat} {ty:TypeId} {pos :String} {af:Array Edge} {g:Option (Nat×Bool)}
theorem C3 {t:TypeId} {parts:Array (Nat×Operand)} {a L:List Value} {ps:List (Nat×Value)} (h:yJ P t=some a) (hp:parts.toList.map (fun q=>(q.1,ev N σ q.2))=ps) (c:uk a ps=some L):
 (execOp (ev N σ) ⟨dst,.build t parts,ty,pos,af,g⟩).run P w= .ok (.value<|.agg L.toArray) w:=by
 unfold yJ at h
 split at h
 · rename_i it n e hi hu
   split at h
   · rename_i z E C he
     split at h
     · rename_i hs
       simp only [fJ] at h
       subst h
       have A:P.built t (parts.map fun q=>(q.1,ev N σ q.2)).toList=some L.toArray:=by
        have :=Uk c
        simp only [xU] at this
        simp only [Program.built,hi,hu,C,he,hs,lB,hp]; exact this
       simp [execOp,run_build w t _ _ A]
     · cases h
   · cases h
 · cases h
end
end Go.Hb
end
section
namespace Go.Hb
abbrev bj:Type :=Tx×List Nat
noncomputable def fL (F:aC) (row:List Tx):Except Nat bj:=
 if row.length≠1 then .error 111
 else if (bF<|row.getD 0 []).2.2.2≠0 then .error (bF<|row.getD 0 []).2.2.2
 else if gU (bF<|row.getD 0 []).1=false∨(bF<|row.getD 0 []).1= [] then .error 21
 else if 64 < (bF<|row.getD 0 []).1.length then .error 22
 else if (bF<|row.getD 0 []).2.2.1=false then .ok ((bF<|row.getD 0 []).1,[])
 else match gd F.kind F.aliases (bF<|row.getD 0 []).2.1 with
  | .error e=> .error e
  | .ok set =>if set.all (eu F)=true then .ok ((bF<|row.getD 0 []).1,set) else .error 120
section
variable {F:aC} {row:List Tx}
theorem Ps (h:row.length≠1):fL F row= .error 111:=if_pos h
theorem zz (h:row.length=1) (h1:(bF<|row.getD 0 []).2.2.2≠0):fL F row= .error (bF<|row.getD 0 []).2.2.2:=by
 unfold fL; rw [if_neg (fun h2=>h2 h),if_pos h1]
variable (h:row.length=1) (h1:(bF (row.getD 0 [])).2.2.2=0)
include h h1
theorem ED (h2:gU (bF<|row.getD 0 []).1=false∨(bF<|row.getD 0 []).1= []):fL F row= .error 21:=by
 unfold fL; rw [if_neg (fun h2=>h2 h),if_neg (fun h2=>h2 h1),if_pos h2]
variable (h2:gU (bF (row.getD 0 [])).1=true) (h3:(bF (row.getD 0 [])).1≠[])
include h2 h3
omit h h1 in
theorem tF:¬(gU (bF<|row.getD 0 []).1=false∨(bF<|row.getD 0 []).1= []):=fun h=>h.elim (fun h=>by rw [h2] at h; cases h) h3
theorem Pt (h4:64 < (bF<|row.getD 0 []).1.length):fL F row= .error 22:=by
 unfold fL; rw [if_neg (fun h2=>h2 h),if_neg (fun h2=>h2 h1),if_neg (tF h2 h3),if_pos h4]
variable (h4:¬64 < (bF (row.getD 0 [])).1.length)
include h4
theorem Pu (h5:(bF<|row.getD 0 []).2.2.1=false):fL F row= .ok ((bF<|row.getD 0 []).1,[]):=by
 unfold fL; rw [if_neg (fun h2=>h2 h),if_neg (fun h2=>h2 h1),if_neg (tF h2 h3),if_neg h4,if_pos h5]
variable (h5:(bF (row.getD 0 [])).2.2.1=true)
include h5
theorem Pv {e:Nat} (a:gd F.kind F.aliases (bF<|row.getD 0 []).2.1= .error e):fL F row= .error e:=by
 unfold fL; rw [if_neg (fun h2=>h2 h),if_neg (fun h2=>h2 h1),if_neg (tF h2 h3),if_neg h4,if_neg (by rw [h5]; exact dv),a]
theorem Px {set :List Nat} {i:Nat} (a:gd F.kind F.aliases (bF<|row.getD 0 []).2.1= .ok set) (hi:i < set.length) (c:eu F (set.getD i 0)=false):fL F row= .error 120:=by
 unfold fL; rw [if_neg (fun h2=>h2 h),if_neg (fun h2=>h2 h1),if_neg (tF h2 h3),if_neg h4,if_neg (by rw [h5]; exact dv),a]
 exact if_neg<|by rw [CT 0 hi c]; exact dv
theorem EE {set :List Nat} (a:gd F.kind F.aliases (bF<|row.getD 0 []).2.1= .ok set) (c:∀ i,i < set.length→eu F (set.getD i 0)=true):fL F row= .ok ((bF<|row.getD 0 []).1,set):=by
 unfold fL; rw [if_neg (fun h2=>h2 h),if_neg (fun h2=>h2 h1),if_neg (tF h2 h3),if_neg h4,if_neg (by rw [h5]; exact dv),a]
 exact if_pos<|CU 0 c
end
noncomputable def eI (F:aC) (eof:Nat):Nat→List Rw→Except (Nat×Nat) (List bj)
 | 0,[]=> .ok []
 | _+1,[]=> .error (eof,116)
 | 0,(ln,_)::_=> .error (ln,116)
 | n+1,(ln,row)::rows=>match fL F row with
   | .error e=> .error (ln,e)
   | .ok x=>match eI F eof n rows with
     | .error e=> .error e
     | .ok r=> .ok (x::r)
noncomputable def fK (F:aC) (t:Tx):Except (Nat×Nat) (List bj):=
 if 65536 < t.length then .error (0,10)
 else match eU t with
  | []=> .error ((dj t).length+1,116)
  | (ln,row)::rows=>if row.length≠1 then .error (ln,111) else match eD (row.getD 0 []) 8192 with
    | .error e=> .error (ln,e)
    | .ok n=>eI F ((dj t).length+1) n rows
def iz (F:aC) (eof:Nat) (T:Except (Nat×Nat) (List bj)) (xs:List bj) (n:Nat) (rows:List Rw):Prop :=
 T=match eI F eof n rows with
  | .error e=> .error e
  | .ok r=> .ok<|xs++r
section
variable {F:aC} {eof n ln:Nat} {T:Except (Nat×Nat) (List bj)} {xs:List bj} {rows:List Rw} {row:List Tx}
theorem iz.start:iz F eof (eI F eof n rows) [] n rows:=by
 unfold iz; cases eI F eof n rows <;> rfl
theorem iz.done (h:iz F eof T xs 0 []):T= .ok xs:=by
 unfold iz at h; rw [eI] at h; simpa using h
theorem iz.ends (h:iz F eof T xs n []) (hn:0 < n):T= .error (eof,116):=by
 obtain ⟨m,rfl⟩:∃ m,n=m+1:=⟨n - 1,ab⟩
 unfold iz at h; rw [eI] at h; exact h
theorem iz.more (h:iz F eof T xs 0 ((ln,row)::rows)):T= .error (ln,116):=by
 unfold iz at h; rw [eI] at h; exact h
theorem iz.bad {e:Nat} (h:iz F eof T xs n ((ln,row)::rows)) (hn:0 < n) (he:fL F row= .error e):T= .error (ln,e):=by
 obtain ⟨m,rfl⟩:∃ m,n=m+1:=⟨n - 1,ab⟩
 unfold iz at h; rw [eI,he] at h; exact h
theorem iz.step {x:bj} (h:iz F eof T xs n ((ln,row)::rows)) (hn:0 < n) (he:fL F row= .ok x):iz F eof T (xs++ [x]) (n - 1) rows:=by
 obtain ⟨m,rfl⟩:∃ m,n=m+1:=⟨n - 1,ab⟩
 unfold iz at h ⊢; rw [eI,he] at h
 rw [h,Nat.add_sub_cancel]
 simp only
 cases eI F eof m rows <;> simp
end
section
variable {F:aC} {t:Tx}
theorem O8 (h:65536 < t.length):fK F t= .error (0,10):=if_pos h
theorem O9 (h:¬65536 < t.length) (h1:eU t= []):fK F t= .error ((dj t).length+1,116):=by
 unfold fK; rw [if_neg h,h1]
variable {ln:Nat} {row:List Tx} {rows:List Rw} (h:¬65536 < t.length) (h1:eU t=(ln,row)::rows)
include h h1
theorem O6 (h2:row.length≠1):fK F t= .error (ln,111):=by
 unfold fK; rw [if_neg h,h1]; exact if_pos h2
theorem Pa (h2:row.length=1) {e:Nat} (h3:eD (row.getD 0 []) 8192= .error e):fK F t= .error (ln,e):=by
 unfold fK; rw [if_neg h,h1]; simp only; rw [if_neg (fun h=>h h2),h3]
theorem Ey (h2:row.length=1) {n:Nat} (h3:eD (row.getD 0 []) 8192= .ok n):fK F t=eI F ((dj t).length+1) n rows:=by
 unfold fK; rw [if_neg h,h1]; simp only; rw [if_neg (fun h=>h h2),h3]
end
theorem QT {α:Type} {a b:List α} {i:Nat} {d:α} (h:i < a.length):(a++b).getD i d=a.getD i d:=by
 rw [cR,cR,mK h]
def idxs (s:Tx) (xs:List bj):List Nat:=(fI xs.length).filter fun i=>decide ((xs.getD i ([],[])).1=s)
theorem Ak (s:Tx) (xs:List bj) (x:bj):idxs s (xs++ [x])=idxs s xs++(if x.1=s then [xs.length] else []):=by
 unfold idxs
 rw [bK,List.length_singleton,List.range_succ,List.filter_append]
 congr 1
 · refine List.filter_congr fun i hi=> ?_
   have hi:i < xs.length:=by simpa using hi
   rw [QT hi]
 · by_cases a:x.1=s <;> simp [List.filter,a]
theorem Aj (s:Tx) (xs:List bj):(idxs s xs).length≤xs.length:=by
 unfold idxs; have :=o8 (fun i=>decide ((xs.getD i ([],[])).1=s)) (fI xs.length); simpa using this
theorem PF {F:aC} {eof:Nat} :∀ {n:Nat} {rows:List Rw} {r:List bj},eI F eof n rows= .ok r→r.length=n∧rows.length=n:=by
 intro n
 induction n with
 | zero=>
   intro rows r h
   cases rows with
   | nil=>rw [eI] at h; cases h; exact ⟨rfl,rfl⟩
   | cons q rows=>rw [eI] at h; cases h
 | succ n a=>
   intro rows r h
   cases rows with
   | nil=>rw [eI] at h; cases h
   | cons q rows=>
     rw [eI] at h
     split at h
     · cases h
     · split at h
       · cases h
       · rename_i h2
         cases h
         have :=a h2
         simp only [bX]; omega
end Go.Hb
end
section
namespace Go.Hb
section
variable {P:Program} {N:Fm} {σ:Nat→Value} {w:World} {dst:Option Nat} {ty:TypeId} {pos :String} {af:Array Edge} {g:Option (Nat×Bool)} {x:Operand}
theorem La {t n c b:Nat} (he:qw P t=some (n,c)) (a:ev N σ x= .pointer (some ⟨b,0,none⟩)):
 (execOp (ev N σ) ⟨dst,.slice t x none none none,ty,pos,af,g⟩).run P w= .ok (.value<|.slice (some ⟨b,0,none⟩) n n) w:=by
 unfold qw at he
 cases hd:P.underlying t with
 | none=>rw [hd] at he; cases he
 | some d=>
   rw [hd] at he
   cases d <;> first | (cases he; done) | skip
   rename_i m e
   cases hi:P.info? e with
   | none=>simp [hi] at he
   | some j=>
     simp only [hi,kj,fJ,vf] at he
     obtain ⟨rfl,rfl⟩:=he
     simp [execOp,q6,p9,od,a,c4 hd,sizeOf,gO hi,lG]
def zN (P:Program) (t f:Nat):Option (Nat×Nat):=
 match P.underlying t with
 | some (.struct fs)=>(fs[f]?).map fun d=>(d.type,d.offset)
 | _=>none
theorem Qp {t f c off n:Nat} {cs vs:List Value} (h:zN P t f=some (c,off)) (a:da P c=some (some n)) (C:ev N σ x= .agg cs.toArray) (A:(cs.drop off).take n=vs):
 (execOp (ev N σ) ⟨dst,.field t x f,ty,pos,af,g⟩).run P w= .ok (.value<|.agg vs.toArray) w:=by
 subst A
 unfold zN at h
 cases hd:P.underlying t with
 | none=>rw [hd] at h; cases h
 | some d=>
   rw [hd] at h
   cases d <;> first | (cases h; done) | skip
   rename_i fs
   simp only [ma] at h
   obtain ⟨fd,q,he⟩:=h
   cases he
   unfold da at a
   cases hd2:P.underlying fd.type with
   | none=>rw [hd2] at a; cases a
   | some d2=>
     rw [hd2] at a
     cases hi:P.info? fd.type with
     | none=>simp [Jm,hi] at hd2
     | some i=>
       rw [hi] at a
       have E:cs.toArray.extract fd.offset (fd.offset+n)=((cs.drop fd.offset).take n).toArray:=by simp
       cases d2 <;> first
        | (cases a; done)
        | (simp only [kj,fJ] at a; subst a
           simp [execOp,Je,c4 hd,q,C,asAgg,part,isAgg,c4 hd2,sizeOf,gO hi])
end
end Go.Hb
end
namespace Go.Hb
def n3 (ps:List Tx) (w:Tx):Bool:=decide (ps.length≤w.length) && (fI ps.length).all fun i=>fk (ps.getD i [])<|w.getD i 0
def tE (ps:List Tx) (w:Tx):Bool:=decide (ps.length≤w.length) && n3 ps (w.drop<|w.length - ps.length)
noncomputable def gA (r:cK) (w:Tx):Bool:=
 decide ((dX r.cond).2=0∧r.strip.length < w.length) &&
  (if r.kind=2 then decide (w.drop (w.length - r.strip.length)=r.strip) && tE (dX r.cond).1 w
   else if r.kind=1 then decide (w.take r.strip.length=r.strip) && n3 (dX r.cond).1 w else false)
noncomputable def dp (r:cK) (w:Tx):Option Tx:=if gA r w=true then some (if r.kind=2 then w.take (w.length - r.strip.length)++r.add else r.add++w.drop r.strip.length) else none
def dd:cK:=⟨0,0,false,[],[],[],[],0⟩
def aK (F:aC) (fs:List Nat) (kind:Nat):List Nat:=(fI F.rules.length).filter fun i=>decide ((F.rules.getD i dd).kind=kind∧(F.rules.getD i dd).flag∈fs)
def flagsOf (xs:List bj) (e:Int):List Nat:=if 0≤e∧e < xs.length then (xs.getD e.toNat ([],[])).2 else []
def bH (F:aC) (r:Int):List Nat:=if 0≤r∧r < F.rules.length then (F.rules.getD r.toNat dd).next else []
def sc (F:aC) (xs:List bj) (e:Int) (k:Nat):Bool:=decide (F.sp.getD k 0≠0∧F.sp.getD k 0∈flagsOf xs e)
def qB (F:aC) (r:Int):Bool:=decide (0≤r∧r < F.rules.length) && !decide (F.sp.getD 0 0≠0∧F.sp.getD 0 0∈bH F r)
structure bu where
 c5:Tx
 dw:Nat
 fst:Int
 snd:Int
 pre:Int
def nO (F:aC) (n:Int):Bool:=decide (n= -1) || (F.rules.getD n.toNat dd).gp
def eS (F:aC) (xs:List bj) (e:Nat) (f s p:Int):Bool:=
 if f= -1 then decide (p≠ -1) || !sc F xs e 0
 else if qB F (if s= -1 then f else s)=false then false
 else decide (p= -1) || (nO F f && nO F s && nO F p)
def kt (F:aC) (xs:List bj) (e:Nat) (word:Tx) (f s:Int):List bu:=if eS F xs e f s (-1)=true then [⟨word,e,f,s,-1⟩] else []
noncomputable def iK (F:aC) (xs:List bj) (e:Nat) (word:Tx) (f s:Int) (p:Nat):Option bu:=if eS F xs e f s p=true then (dp (F.rules.getD p dd) word).map (fun v=>(⟨v,e,f,s,(p:Int)⟩:bu)) else none
noncomputable def eR (F:aC) (xs:List bj) (e:Nat) (word:Tx) (f s:Int):List bu:=kt F xs e word f s++(aK F (flagsOf xs e) 1).filterMap (iK F xs e word f s)
noncomputable def jF (F:aC) (xs:List bj) (e:Nat) (w:Tx) (s:Int) (z:Nat):List bu:=match dp (F.rules.getD z dd) w with
 | none=> []
 | some v=>eR F xs e v s z
noncomputable def gB (F:aC) (xs:List bj) (e:Nat) (s:Nat):List bu:=match dp (F.rules.getD s dd) (xs.getD e ([],[])).1 with
 | none=> []
 | some w=>eR F xs e w s (-1)++(aK F (bH F s) 2).flatMap (jF F xs e w s)
noncomputable def gW (F:aC) (xs:List bj) (e:Nat):List bu:=
 eR F xs e (xs.getD e ([],[])).1 (-1) (-1)++(aK F (flagsOf xs e) 2).flatMap (gB F xs e)
def pA (q:cK):Prop :=q.strip.length≤32∧q.add.length≤32∧q.cond.length≤4800
structure oy (F:aC):Prop where
 part:∀ (i:Nat) r,F.rules[i]? =some r→∃ c∈F.bC,c.first≤i∧i < c.first+c.count∧r.flag=c.flag∧r.kind=c.kind
 tz:∀ c∈F.bC,c.first+c.count≤F.rules.length∧∀ i,c.first≤i→i < c.first+c.count→∃ r,F.rules[i]? =some r∧r.flag=c.flag∧r.kind=c.kind
 uniq:(F.bC.map (·.flag)).Nodup
theorem FM {α:Type} {hd:List Tx} {rd:Nat→List Tx→Except Nat α} {eof:Nat} :∀ (n:Nat) (rows:List Rw) (r:List α×List Rw),group hd rd eof n rows= .ok r→∀ x∈r.1,∃ ln row,rd ln row= .ok x:=by
 intro n
 induction n with
 | zero=>intro rows r h; simp only [group,qX] at h; subst h; intro x a; cases a
 | succ n c=>
   intro rows r h
   cases rows with
   | nil=>simp [group] at h
   | cons q rows=>
     obtain ⟨ln,row⟩:=q
     simp only [group] at h
     split at h
     · cases h
     · cases hr:rd ln row with
       | error e=>rw [hr] at h; cases h
       | ok y=>
         rw [hr] at h
         simp only at h
         cases hg:group hd rd eof n rows with
         | error e=>rw [hg] at h; cases h
         | ok A=>
           rw [hg] at h
           simp only [qX] at h
           subst h
           intro x a
           rcases eB.1 a with a | a
           · exact ⟨ln,row,by rw [a]; exact hr⟩
           · exact c rows A hg x a
theorem FV {eof ln:Nat} {F F':aC} {hs:List Tx} {rows rows':List Rw} {row:List Tx} (a:ca eof F hs rows ln row= .ok (F',rows')):
 (F'.aliases=F.aliases∧F'.bC=F.bC∧F'.rules=F.rules)∨
 (F'.bC=F.bC∧F'.rules=F.rules∧∃ l,F'.aliases=F.aliases++l∧∀ x∈l,∃ kd s,kQ kd s= .ok x)∨
 (F'.aliases=F.aliases∧∃ c l,F'.bC=F.bC++ [c]∧F'.rules=F.rules++l∧c.first=F.rules.length∧c.count=l.length∧eu F c.flag=false∧∀ x∈l,∃ ln row,jn F.kind F.aliases c ln row= .ok x):=by
 unfold ca at a
 split at a
 · unfold jV at a; split at a <;> cases a; exact .inl ⟨rfl,rfl,rfl⟩
 split at a
 · unfold kB at a
   split at a
   · cases a
   · split at a <;> cases a; exact .inl ⟨rfl,rfl,rfl⟩
 split at a
 · unfold mD at a; split at a <;> cases a; exact .inl ⟨rfl,rfl,rfl⟩
 split at a
 · unfold mE at a; split at a <;> cases a; exact .inl ⟨rfl,rfl,rfl⟩
 split at a
 · unfold kE at a
   split at a
   · cases a
   · split at a <;> cases a; exact .inl ⟨rfl,rfl,rfl⟩
 split at a
 · unfold kH at a
   split at a
   · cases a
   · split at a <;> cases a; exact .inl ⟨rfl,rfl,rfl⟩
 split at a
 · unfold j6 at a
   split at a
   · cases a
   · split at a
     · cases a
     · split at a
       · cases a
       · rename_i r A
         cases a
         refine .inr<|.inl ⟨aa,aa,r.1,aa,fun x a=> ?_⟩
         obtain ⟨ln,row,h⟩:=FM _ _ _ A x a
         unfold mi at h
         split at h
         · cases h
         · exact ⟨_,_,h⟩
 · unfold gV at a
   split at a
   · cases a
   · rename_i x q
     split at a
     · cases a
     · split at a
       · cases a
       · split at a
         · cases a
         · split at a
           · cases a
           · rename_i r A
             cases a
             refine .inr<|.inr ⟨aa,_,r.1,aa,aa,aa,(tX _ _ _ A).2.1.symm,?_,fun x a=>FM _ _ _ A x a⟩
             unfold iP at q
             split at q
             · cases q
             · split at q
               · cases q
               · rename_i h; cases q; simpa using h
theorem yC {Q:aC→Prop} (c:Q iH) (C:∀ (eof ln:Nat) (F F':aC) (hs:List Tx) (rows rows':List Rw) (row:List Tx),Q F→ca eof F hs rows ln row= .ok (F',rows')→Q F') {s:Tx} {F:aC} (h:fR s= .ok F):Q F:=by
 unfold fR at h
 split at h
 · cases h
 · split at h
   · cases h
   · rename_i f A
     split at h
     · cases h
     · cases h
       have key:∀ (k:Nat) (F F':aC) (hs:List Tx) (rows:List Rw) (eof:Nat),Q F→gN eof k F hs rows= .ok F'→Q F':=by
        intro k
        induction k with
        | zero=>intro F F' hs rows eof h a; rw [gN] at a; split at a <;> cases a; exact h
        | succ k G=>
          intro F F' hs rows eof h a
          cases rows with
          | nil=>simp only [gN,qX] at a; exact a ▸ h
          | cons q rows=>
            rw [gN] at a
            split at a
            · cases a
            · split at a
              · cases a
              · split at a
                · cases a
                · split at a
                  · cases a
                  · rename_i r E
                    exact G _ _ _ _ _ (C _ _ _ _ _ _ _ _ h E) a
       exact key _ _ _ _ _ _ c A
def ko (l:List Nat):Prop :=l.Pairwise (· < ·)∧0∉l
theorem QI {kind:Nat} {s:Tx} (a:(eY kind s).2=0):ko (eY kind s).1:=by
 unfold eY at a ⊢
 by_cases h1:s= []
 · rw [if_pos h1] at a; cases a
 · rw [if_neg h1] at a ⊢
   by_cases h2:∃ x∈eA kind s,eJ kind x=0
   · rw [if_pos h2] at a; cases a
   · rw [if_neg h2] at a ⊢
     by_cases h3:64 < (eA kind s).length
     · rw [if_pos h3] at a; cases a
     · rw [if_neg h3]
       refine ⟨AU _,fun h4=> ?_⟩
       rw [AT,gQ] at h4
       exact h2 h4
theorem FB {kind:Nat} {s:Tx} {l:List Nat} (h:kQ kind s= .ok l):ko l:=by
 unfold kQ at h
 split at h
 · cases h
 · rename_i a
   cases h
   exact QI<|Classical.not_not.1 a
def ry (F:aC):Prop :=(∀ l∈F.aliases,ko l)∧∀ q∈F.rules,ko q.next∧pA q
theorem E0 {w:Tx} (h:¬gX w≠0):w.length≤32:=by
 unfold gX at h
 split at h
 · exact absurd aw h
 · split at h
   · exact absurd aw h
   · omega
theorem T7 {b:Bool} {fd p:Tx} (h:fW b fd= .ok p):p.length≤32:=by
 unfold fW at h
 split at h
 · cases h; exact ki _
 · split at h
   · cases h
   · split at h
     · cases h
     · split at h
       · cases h
       · rename_i a; cases h; exact E0 a
theorem Kt {r:lE} {p:Tx} (h:k6 r= .ok p):p.length≤32:=by
 unfold k6 at h
 split at h
 · cases h
 · split at h
   · cases h; exact ki _
   · split at h
     · cases h
     · rename_i a; cases h; exact E0 a
theorem Ee (s:Tx):(dX s).1.length≤16:=by
 unfold dX
 split
 · simp
 · split
   · simp
   · split
     · simp
     · split
       · simp
       · simp only; omega
theorem Ve:∀ {ps:List Tx},ps.length≤16→(pU ps).length≤4800:=by
 have key:∀ ps:List Tx,(ps.flatMap fun t=>lr<|fk t).length≤ps.length*300:=by
  intro ps
  induction ps with
  | nil=>exact ki _
  | cons t ps a=>
    have :=HH<|fk t
    rw [jr,bK,bX]; omega
 intro ps h
 unfold pU
 split
 · simp
 · have :=key ps; omega
theorem N7 {row:List Tx} {c:Tx} (h:mo row= .ok c):c.length≤4800:=by
 unfold mo at h
 split at h
 · split at h
   · cases h
   · split at h
     · cases h
     · cases h; exact Ve<|Ee _
 · cases h; simp
theorem tW:ko []:=⟨.nil,yt⟩
theorem E7 {kind:Nat} {al:List (List Nat)} {s:Tx} {l:List Nat} (a:∀ l∈al,ko l) (h:gd kind al s= .ok l):ko l:=by
 unfold gd at h
 split at h
 · exact FB h
 · split at h
   · cases h
   · split at h
     · cases h
     · cases h
       rename_i n _ _
       rw [cR]
       cases hg:al[n - 1]? with
       | none=>exact tW
       | some x=>exact a x<|fz hg
theorem Be {kind ln:Nat} {al:List (List Nat)} {c:dP} {row:List Tx} {q:cK} (C:∀ l∈al,ko l) (h:jn kind al c ln row= .ok q):(ko q.next∧pA q)∧q.flag=c.flag∧q.kind=c.kind∧q.gp=c.gp:=by
 unfold jn at h
 split at h
 · cases h
 · split at h
   · cases h
   · rename_i hp
     split at h
     · cases h
     · rename_i A
       split at h
       · cases h
       · rename_i nx a
         split at h
         · cases h
         · rename_i E
           cases h
           refine ⟨⟨?_,T7 hp,Kt A,N7 E⟩,aa,aa,aa⟩
           unfold nk at a
           split at a
           · split at a
             · cases a
             · exact E7 C a
           · cases a; exact tW
theorem zO {cs:List dP} {x:Nat} (h:(dM cs x).isSome=false):∀ c∈cs,c.flag≠x:=fun c a q=>by
 unfold dM at h
 have h1:cs.find? (fun c=>decide (c.flag=x))=none:=by
  cases h2:cs.find? (fun c=>decide (c.flag=x)) with
  | none=>rfl
  | some y=>rw [h2] at h; cases h
 have :=List.find?_eq_none.1 h1 c a
 simp [q] at this
theorem yB {s:Tx} {F:aC} (h:fR s= .ok F):ry F∧oy F:=by
 refine yC (Q:=fun F=>ry F∧oy F) ⟨⟨fun l V=>(by cases V),fun l V=>by cases V⟩,⟨fun i r h=>(by cases h),fun c h=>(by cases h),.nil⟩⟩ ?_ h
 rintro eof ln F F' hs rows rows' row ⟨C,E⟩ q
 refine ⟨?_,?_⟩
 · rcases FV q with ⟨h1,_,h3⟩ | ⟨_,h2,l,h3,h4⟩ | ⟨h1,c,l,_,h3,_,_,_,h4⟩
   · exact ⟨h1 ▸ C.1,h3 ▸ C.2⟩
   · refine ⟨fun x q=> ?_,h2 ▸ C.2⟩
     rw [h3] at q
     rcases js.1 q with q | q
     · exact C.1 x q
     · obtain ⟨_,_,h⟩:=h4 x q; exact FB h
   · refine ⟨h1 ▸ C.1,fun x q=> ?_⟩
     rw [h3] at q
     rcases js.1 q with q | q
     · exact C.2 x q
     · obtain ⟨_,_,h⟩:=h4 x q; exact (Be C.1 h).1
 · rcases FV q with ⟨_,h2,h3⟩ | ⟨h2,h3,_⟩ | ⟨_,c,l,h2,h3,h4,h5,O,ac⟩
   · exact ⟨by rw [h2,h3]; exact E.part,by rw [h2,h3]; exact E.tz,by rw [h2]; exact E.uniq⟩
   · exact ⟨by rw [h2,h3]; exact E.part,by rw [h2,h3]; exact E.tz,by rw [h2]; exact E.uniq⟩
   · have Y:∀ i,F.rules.length≤i→i < F.rules.length+l.length→∃ r,F'.rules[i]? =some r∧r.flag=c.flag∧r.kind=c.kind:=fun i G J=>by
      have A:i - F.rules.length < l.length:=ab
      refine ⟨l[i - F.rules.length],?_,?_⟩
      · rw [h3,nD G,bW A]
      · obtain ⟨_,_,h⟩:=ac _ (List.getElem_mem A); exact ⟨(Be C.1 h).2.1,(Be C.1 h).2.2.1⟩
     refine ⟨fun i r G=> ?_,fun d hd=> ?_,?_⟩
     · by_cases J:i < F.rules.length
       · rw [h3,mK J] at G
         obtain ⟨d,hd,A⟩:=E.part i r G
         exact ⟨d,by rw [h2]; exact yr _ hd,A⟩
       · have A:i < F.rules.length+l.length:=by
          have :=(eQ.1 G).1; rw [h3,bK] at this; exact this
         obtain ⟨ag,I,M⟩:=Y i ab A
         rw [G] at I; cases I
         exact ⟨c,by rw [h2]; exact uY _ (iS.2 aa),ab,ab,M⟩
     · rw [h2] at hd
       rcases js.1 hd with hd | hd
       · obtain ⟨G,J⟩:=E.tz d hd
         refine ⟨by rw [h3,bK]; omega,fun i A I=> ?_⟩
         obtain ⟨r,M,Z⟩:=J i A I
         exact ⟨r,by rw [h3,mK ab]; exact M,Z⟩
       · obtain rfl :=iS.1 hd
         refine ⟨by rw [h3,bK]; omega,fun i A I=>Y i ab ab⟩
     · rw [h2,iw,uZ]
       refine ⟨E.uniq,by simp,fun a ad b ae=> ?_⟩
       obtain ⟨d,hd,rfl⟩:=gQ.1 ad
       obtain rfl :b=c.flag:=by simpa using ae
       unfold eu at O
       rw [o4] at O
       exact zO O.2 d hd
theorem Pw {F:aC} {row:List Tx} {x:bj} (a:ry F) (h:fL F row= .ok x):ko x.2:=by
 unfold fL at h
 split at h
 · cases h
 · split at h
   · cases h
   · split at h
     · cases h
     · split at h
       · cases h
       · split at h
         · cases h; exact tW
         · split at h
           · cases h
           · rename_i set hs
             split at h
             · cases h; exact E7 a.1 hs
             · cases h
theorem PE {F:aC} (A:ry F) {eof:Nat} :∀ {n:Nat} {rows:List Rw} {r:List bj},eI F eof n rows= .ok r→∀ x∈r,ko x.2:=by
 intro n
 induction n with
 | zero=>
   intro rows r h
   cases rows with
   | nil=>rw [eI] at h; cases h; intro x a; cases a
   | cons q rows=>rw [eI] at h; cases h
 | succ n C=>
   intro rows r h
   cases rows with
   | nil=>rw [eI] at h; cases h
   | cons q rows=>
     rw [eI] at h
     split at h
     · cases h
     · rename_i x a
       split at h
       · cases h
       · rename_i h2
         cases h
         intro y c
         rcases eB.1 c with rfl | c
         · exact Pw A a
         · exact C h2 y c
theorem O7 {F:aC} (a:ry F) {t:Tx} {xs:List bj} (h:fK F t= .ok xs):∀ x∈xs,ko x.2:=by
 unfold fK at h
 split at h
 · cases h
 · split at h
   · cases h
   · split at h
     · cases h
     · split at h
       · cases h
       · exact PE a h
theorem Py {F:aC} {row:List Tx} {x:bj} (h:fL F row= .ok x):1≤x.1.length:=by
 unfold fL at h
 split at h
 · cases h
 · split at h
   · cases h
   · split at h
     · cases h
     · rename_i c
       have h1:1≤(bF<|row.getD 0 []).1.length:=by
        rcases Nat.eq_zero_or_pos (bF<|row.getD 0 []).1.length with a | a
        · exact absurd (Or.inr<|gx a) c
        · exact a
       split at h
       · cases h
       · split at h
         · cases h; exact h1
         · split at h
           · cases h
           · split at h
             · cases h; exact h1
             · cases h
theorem PG {F:aC} {eof:Nat} :∀ {n:Nat} {rows:List Rw} {r:List bj},eI F eof n rows= .ok r→∀ x∈r,1≤x.1.length:=by
 intro n
 induction n with
 | zero=>
   intro rows r h
   cases rows with
   | nil=>rw [eI] at h; cases h; intro x a; cases a
   | cons q rows=>rw [eI] at h; cases h
 | succ n A=>
   intro rows r h
   cases rows with
   | nil=>rw [eI] at h; cases h
   | cons q rows=>
     rw [eI] at h
     split at h
     · cases h
     · rename_i x a
       split at h
       · cases h
       · rename_i h2
         cases h
         intro y c
         rcases eB.1 c with rfl | c
         · exact Py a
         · exact A h2 y c
theorem Pb {F:aC} {t:Tx} {xs:List bj} (h:fK F t= .ok xs):∀ x∈xs,1≤x.1.length:=by
 unfold fK at h
 split at h
 · cases h
 · split at h
   · cases h
   · split at h
     · cases h
     · split at h
       · cases h
       · exact PG h
theorem my {F:aC} {fs:List Nat} {k i:Nat} :i∈aK F fs k↔i < F.rules.length∧(F.rules.getD i dd).kind=k∧(F.rules.getD i dd).flag∈fs:=by
 unfold aK; simp
theorem AL (F:aC) (fs:List Nat) (k:Nat):(aK F fs k).Pairwise (· < ·):=Xx _ yu
theorem si (F:aC) (fs:List Nat) (k:Nat):(aK F fs k).length≤F.rules.length:=by
 unfold aK; have :=o8 (fun i=>decide ((F.rules.getD i dd).kind=k∧(F.rules.getD i dd).flag∈fs)) (fI F.rules.length); simpa using this
def fS (F:aC) (k f:Nat):List Nat:=match dM F.bC f with
 | some c=>if c.kind=k then (fI c.count).map (c.first+ ·) else []
 | none=> []
theorem EX {cs:List dP} {x:Nat} {c:dP} (h:dM cs x=some c):c∈cs∧c.flag=x:=⟨List.mem_of_find?_eq_some h,by simpa using List.find?_some h⟩
theorem P4:∀ {cs:List dP},(cs.map (·.flag)).Nodup→∀ c∈cs,dM cs c.flag=some c:=by
 intro cs
 induction cs with
 | nil=>intro _ c h; cases h
 | cons d cs A=>
   intro h c a
   rw [qj,ys] at h
   unfold dM
   rw [List.find?_cons]
   rcases eB.1 a with rfl | a
   · simp
   · have q:¬d.flag=c.flag:=fun h2=>h.1<|gQ.2 ⟨c,a,h2.symm⟩
     rw [decide_eq_false q]
     exact A h.2 c a
theorem wT {F:aC} (a:oy F) {k f i:Nat} :i∈fS F k f↔i < F.rules.length∧(F.rules.getD i dd).kind=k∧(F.rules.getD i dd).flag=f:=by
 unfold fS
 constructor
 · intro h
   split at h
   · rename_i c q
     split at h
     · rename_i hk
       obtain ⟨j,I,rfl⟩:=gQ.1 h
       rw [nG] at I
       have h1:=EX q
       obtain ⟨h2,h3⟩:=a.tz c h1.1
       obtain ⟨r,h4,h5,A⟩:=h3 (c.first+j) ab ab
       refine ⟨ab,?_⟩
       rw [cR,h4]
       exact ⟨A.trans hk,h5.trans h1.2⟩
     · cases h
   · cases h
 · rintro ⟨h1,h2,h3⟩
   have h4:F.rules[i]? =some (F.rules.getD i dd):=by rw [cR,bW h1]; rfl
   obtain ⟨c,q,h5,A,E,G⟩:=a.part i _ h4
   have C:=P4 a.uniq c q
   rw [← E,h3] at C
   rw [C]
   simp only
   rw [if_pos (G.symm.trans h2)]
   exact gQ.2 ⟨i - c.first,nG.2 ab,ab⟩
theorem NK (F:aC) (k f:Nat):(fS F k f).Nodup:=by
 unfold fS
 split
 · split
   · rw [List.Nodup,yv]
     exact Xy (fun h=>by omega) yu
   · exact .nil
 · exact .nil
theorem GN {F:aC} (c:oy F) {k:Nat} :∀ {fs:List Nat},fs.Pairwise (· < ·)→(fs.flatMap<|fS F k).Nodup∧∀ i,i∈fs.flatMap (fS F k)↔i∈aK F fs k:=by
 intro fs h
 refine ⟨?_,fun i=> ?_⟩
 · induction fs with
   | nil=>exact .nil
   | cons f fs I=>
     rw [List.pairwise_cons] at h
     rw [jr,uZ]
     refine ⟨NK F k f,I h.2,fun a A b q C=> ?_⟩
     subst C
     obtain ⟨g,G,q⟩:=pd.1 q
     have h1:=(wT c).1 A
     have h2:=(wT c).1 q
     have :=h.1 g G
     omega
 · rw [pd,my]
   constructor
   · rintro ⟨f,E,hi⟩
     have h1:=(wT c).1 hi
     exact ⟨h1.1,h1.2.1,h1.2.2 ▸ E⟩
   · rintro ⟨h1,h2,h3⟩
     exact ⟨_,h3,(wT c).2 ⟨h1,h2,aa⟩⟩
theorem Vp {F:aC} (A:oy F) {fs:List Nat} (h:fs.Pairwise (· < ·)) (k:Nat):((fs.flatMap<|fS F k).map fun i:Nat=>(i:Int)).mergeSort (fun x y=>decide (x≤y))=(aK F fs k).map fun i:Nat=>(i:Int):=by
 obtain ⟨h1,h2⟩:=GN A (k:=k) h
 have hn:=AL F fs k
 have hp:=(List.mergeSort_perm ((fs.flatMap<|fS F k).map fun i:Nat=>(i:Int)) fun x y=>decide (x≤y)).trans<|((List.perm_ext_iff_of_nodup h1<|hn.imp fun h=>by omega).2 h2).map _
 refine List.Perm.eq_of_pairwise (le:=fun x y:Int=>decide (x≤y)=true) ?_ (List.pairwise_mergeSort ?_ ?_ _) ?_ hp
 · intro a b _ _ h q; have :=of_decide_eq_true h; have :=of_decide_eq_true q; omega
 · intro a b c h q; have :=of_decide_eq_true h; have :=of_decide_eq_true q; exact decide_eq_true ab
 · intro a b; simp only [Bool.or_eq_true,decide_eq_true_eq]; omega
 · rw [yv]; exact hn.imp fun h=>decide_eq_true ab
def C7 (l:List bu):Nat:=(l.map fun d=>d.c5.length).sum
theorem KW {r:cK} {w v:Tx} (h:dp r w=some v):r.strip.length < w.length∧v=(if r.kind=2 then w.take (w.length - r.strip.length)++r.add else r.add++w.drop r.strip.length):=by
 unfold dp at h
 split at h
 · rename_i a
   unfold gA at a
   rw [gj,decide_eq_true_eq] at a
   cases h
   exact ⟨a.1.2,aa⟩
 · cases h
theorem rH {r:cK} {w v:Tx} (a:r.add.length≤32) (h:dp r w=some v):1≤v.length∧v.length≤w.length+32:=by
 obtain ⟨h1,rfl⟩:=KW h
 split
 · rw [bK,ee]; omega
 · rw [bK,gH]; omega
theorem Bc {F:aC} (a:∀ q∈F.rules,pA q) (i:Nat):pA (F.rules.getD i dd):=by
 rw [cR]
 cases h:F.rules[i]? with
 | none=>exact ⟨ki _,ki _,ki _⟩
 | some q=>exact a q<|fz h
theorem zf {F:aC} (a:∀ q∈F.rules,pA q) {xs:List bj} {e:Nat} {word:Tx} {f s:Int} (h1:1≤word.length):∀ d∈eR F xs e word f s,1≤d.c5.length∧d.c5.length≤word.length+32∧d.dw=e∧d.fst=f∧d.snd=s:=by
 intro d hd
 unfold eR at hd
 rcases js.1 hd with hd | hd
 · unfold kt at hd
   split at hd
   · obtain rfl :=iS.1 hd
     exact ⟨h1,Nat.le_add_right _ _,aa,aa,aa⟩
   · cases hd
 · obtain ⟨p,_,hp⟩:=List.mem_filterMap.1 hd
   unfold iK at hp
   split at hp
   · obtain ⟨v,c,rfl⟩:=ma.1 hp
     have :=rH (Bc a p).2.1 c
     exact ⟨this.1,this.2,aa,aa,aa⟩
   · cases hp
theorem OY {F:aC} (a:∀ q∈F.rules,pA q) {xs:List bj} {e:Nat} (h1:1≤(xs.getD e ([],[])).1.length):∀ d∈gW F xs e,1≤d.c5.length∧d.c5.length≤(xs.getD e ([],[])).1.length +96∧d.dw=e:=by
 intro d hd
 unfold gW at hd
 rcases js.1 hd with hd | hd
 · have :=zf a h1 d hd; exact ⟨this.1,ab,this.2.2.1⟩
 · obtain ⟨s,_,hd⟩:=pd.1 hd
   unfold gB at hd
   split at hd
   · cases hd
   · rename_i w hw
     have c:=rH (Bc a s).2.1 hw
     rcases js.1 hd with hd | hd
     · have :=zf a c.1 d hd; exact ⟨this.1,ab,this.2.2.1⟩
     · obtain ⟨z,_,hd⟩:=pd.1 hd
       unfold jF at hd
       split at hd
       · cases hd
       · rename_i v C
         have A:=rH (Bc a z).2.1 C
         have :=zf a A.1 d hd; exact ⟨this.1,ab,this.2.2.1⟩
def l0 (n:Nat):List Int:=(-1)::(fI n).map fun i:Nat=>(i:Int)
noncomputable def fE (F:aC) (L:List Nat) (n:Int) (w:Tx):Option Tx:=if n= -1 then some w else if n.toNat∈L then dp (F.rules.getD n.toNat dd) w else none
noncomputable def fM (F:aC) (xs:List bj) (e:Nat) (f s p:Int):Option Tx:=
 if f= -1∧s≠ -1 then none
 else (fE F (aK F (flagsOf xs e) 2) f (xs.getD e ([],[])).1).bind fun w=>(fE F (aK F (bH F f) 2) s w).bind fun v=>(fE F (aK F (flagsOf xs e) 1) p v).bind fun u=>
  if eS F xs e f s p=true then some u else none
noncomputable def qD (F:aC) (xs:List bj) (e:Nat) (f s:Int):List bu:=(l0 F.rules.length).filterMap fun p=>(fM F xs e f s p).map fun u=>(⟨u,e,f,s,p⟩:bu)
noncomputable def tJ (F:aC) (xs:List bj) (e:Nat) (f:Int):List bu:=(l0 F.rules.length).flatMap<|qD F xs e f
theorem P1 {α β:Type} {l:List α} {f:α→Option β} (h:∀ x∈l,f x=none):l.filterMap f= []:=by
 induction l with
 | nil=>rfl
 | cons x l c=>rw [yi,h x (pc ..)]; exact c fun y a=>h y<|oq _ a
theorem zQ {α β:Type} {l:List α} {f:α→List β} (h:∀ x∈l,f x= []):l.flatMap f= []:=by
 induction l with
 | nil=>rfl
 | cons x l c=>rw [jr,h x (pc ..),mN]; exact c fun y a=>h y<|oq _ a
theorem EV {α β:Type} (q:α→Bool) (f:α→List β):∀ l:List α,(l.filter q).flatMap f=l.flatMap fun x=>if q x=true then f x else []:=by
 intro l
 induction l with
 | nil=>rfl
 | cons x l a=>
   by_cases h:q x=true
   · rw [List.filter_cons_of_pos h,jr,jr,if_pos h,a]
   · rw [List.filter_cons_of_neg h,jr,if_neg h,a]; rfl
theorem Fa {α β:Type} {f g:α→List β} :∀ {l:List α},(∀ x∈l,f x=g x)→l.flatMap f=l.flatMap g:=by
 intro l h
 induction l with
 | nil=>rfl
 | cons x l c=>rw [jr,jr,h x (pc ..),c fun y a=>h y (oq _ a)]
theorem P0 {α β:Type} {f g:α→Option β} :∀ {l:List α},(∀ x∈l,f x=g x)→l.filterMap f=l.filterMap g:=by
 intro l h
 induction l with
 | nil=>rfl
 | cons x l c=>rw [yi,yi,h x (pc ..),c fun y a=>h y (oq _ a)]
theorem AK {F:aC} {fs:List Nat} {k i:Nat} (h:i < F.rules.length):decide ((F.rules.getD i dd).kind=k∧(F.rules.getD i dd).flag∈fs)=decide (i∈aK F fs k):=by
 rw [decide_eq_decide,my]; exact ⟨fun h2=>⟨h,h2⟩,fun h2=>h2.2⟩
theorem qT {F:aC} {L:List Nat} (i:Nat) (w:Tx):fE F L (i:Int) w=if i∈L then dp (F.rules.getD i dd) w else none:=by
 unfold fE; rw [if_neg ab,Int.toNat_natCast]
theorem uy {F:aC} {L:List Nat} (w:Tx):fE F L (-1) w=some w:=by unfold fE; rw [if_pos rfl]
theorem zB {F:aC} {xs:List bj} {e:Nat} {f s:Int} {v:Tx} (h:∀ p,fM F xs e f s p=(fE F (aK F (flagsOf xs e) 1) p v).bind fun u=>if eS F xs e f s p=true then some u else none):qD F xs e f s=eR F xs e v f s:=by
 unfold qD l0 eR
 rw [yi,List.filterMap_map]
 have h1:(fM F xs e f s<|-1).map (fun u=>(⟨u,e,f,s,-1⟩:bu))=if eS F xs e f s (-1)=true then some ⟨v,e,f,s,-1⟩ else none:=by
  rw [h,uy,pn]; split <;> rfl
 have h2:(fI F.rules.length).filterMap ((fun p=>(fM F xs e f s p).map fun u=>(⟨u,e,f,s,p⟩:bu))∘fun i:Nat=>(i:Int))=(aK F (flagsOf xs e) 1).filterMap (iK F xs e v f s):=by
  have h3:aK F (flagsOf xs e) 1=(fI F.rules.length).filter fun i=>decide ((F.rules.getD i dd).kind=1∧(F.rules.getD i dd).flag∈flagsOf xs e):=rfl
  rw [h3,List.filterMap_filter]
  refine P0 fun i hi=> ?_
  have hi:i < F.rules.length:=by simpa using hi
  rw [AK hi]
  show (fM F xs e f s (i:Int)).map _=_
  rw [h,qT]
  unfold iK
  by_cases h4:i∈aK F (flagsOf xs e) 1
  · rw [if_pos h4,if_pos (decide_eq_true h4)]
    cases dp (F.rules.getD i dd) v with
    | none=>simp
    | some u=>simp only [pn]; split <;> rfl
  · rw [if_neg h4,if_neg (by rw [decide_eq_false h4]; exact dv)]; rfl
 rw [h1,h2]
 unfold kt
 split
 · rename_i h3; split at h3
   · cases h3
   · rename_i h4; rw [if_neg h4]; rfl
 · rename_i x h3; split at h3
   · rename_i h4; cases h3; rw [if_pos h4]; rfl
   · cases h3
theorem tI {F:aC} {xs:List bj} {e:Nat} {f s:Int} (h:∀ p,fM F xs e f s p=none):qD F xs e f s= []:=P1 fun p _=>by rw [h p]; rfl
theorem zt (F:aC) (xs:List bj) (e:Nat):gW F xs e=(l0 F.rules.length).flatMap (tJ F xs e):=by
 unfold l0
 rw [jr,JD]
 unfold gW
 congr 1
 · unfold tJ l0
   rw [jr,zQ,ep,zB (v:=(xs.getD e ([],[])).1)]
   · intro p; unfold fM; rw [if_neg (fun h=>h.2 rfl),uy,pn,uy,pn]
   · intro s hs
     obtain ⟨j,_,rfl⟩:=gQ.1 hs
     exact tI fun p=>by unfold fM; rw [if_pos ⟨aa,ab⟩]
 · have h3:aK F (flagsOf xs e) 2=(fI F.rules.length).filter fun i=>decide ((F.rules.getD i dd).kind=2∧(F.rules.getD i dd).flag∈flagsOf xs e):=rfl
   conv =>lhs; rw [h3]
   rw [EV]
   refine Fa fun i hi=> ?_
   have hi:i < F.rules.length:=by simpa using hi
   rw [AK hi]
   have hm:∀ s p,fM F xs e (i:Int) s p=(fE F (aK F (flagsOf xs e) 2) (i:Int) (xs.getD e ([],[])).1).bind fun w=>(fE F (aK F (bH F (i:Int)) 2) s w).bind fun v=>(fE F (aK F (flagsOf xs e) 1) p v).bind fun u=>
    if eS F xs e (i:Int) s p=true then some u else none:=fun s p=>by unfold fM; rw [if_neg (fun h=>by have :=h.1; omega)]
   by_cases h4:i∈aK F (flagsOf xs e) 2
   · rw [if_pos (decide_eq_true h4)]
     unfold gB
     cases h5:dp (F.rules.getD i dd) (xs.getD e ([],[])).1 with
     | none=>
       have :∀ s p,fM F xs e (i:Int) s p=none:=fun s p=>by rw [hm,qT,if_pos h4,h5]; rfl
       exact (zQ fun s _=>tI fun p=>this s p).symm
     | some w=>
       have c:∀ s p,fM F xs e (i:Int) s p=(fE F (aK F (bH F (i:Int)) 2) s w).bind fun v=>(fE F (aK F (flagsOf xs e) 1) p v).bind fun u=>if eS F xs e (i:Int) s p=true then some u else none:=fun s p=>by rw [hm,qT,if_pos h4,h5]; rfl
       simp only
       unfold tJ l0
       rw [jr,JD,zB (v:=w) fun p=>by rw [c,uy]; rfl]
       congr 1
       have A:aK F (bH F (i:Int)) 2=(fI F.rules.length).filter fun z=>decide ((F.rules.getD z dd).kind=2∧(F.rules.getD z dd).flag∈bH F (i:Int)):=rfl
       conv =>lhs; rw [A]
       rw [EV]
       refine Fa fun z q=> ?_
       have q:z < F.rules.length:=by simpa using q
       rw [AK q]
       by_cases a:z∈aK F (bH F (i:Int)) 2
       · rw [if_pos (decide_eq_true a)]
         unfold jF
         cases h8:dp (F.rules.getD z dd) w with
         | none=>exact (tI fun p=>by rw [c,qT,if_pos a,h8]; rfl).symm
         | some v=>exact (zB (v:=v) fun p=>by rw [c,qT,if_pos a,h8]; rfl).symm
       · rw [if_neg (by rw [decide_eq_false a]; exact dv)]
         exact (tI fun p=>by rw [c,qT,if_neg a]; rfl).symm
   · rw [if_neg (by rw [decide_eq_false h4]; exact dv)]
     exact (zQ fun s _=>tI fun p=>by rw [hm,qT,if_neg h4]; rfl).symm
end Go.Hb
section
namespace Go.Hb
structure Gw (B:Nat) (fp:Nat→Prop) (w:World) (fp':Nat→Prop) (w':World):Prop where
 sub:∀ k,fp' k→fp k∨w.heap.size≤k
 dH:∀ (k:Nat) (cs:Array Value) (e:Nat) (z:Nat×Nat),B≤k→¬fp k→w.heap[k]? =some (.cells cs e z)→w'.heap[k]? =some (.cells cs e z)
 size:w.heap.size≤w'.heap.size
section
variable {B B':Nat} {fp fp' fp'':Nat→Prop} {w w' w'':World}
theorem Gw.trans (h:Gw B fp w fp' w') (a:Gw B fp' w' fp'' w''):Gw B fp w fp'' w'':=
 ⟨fun k hk=>(a.sub k hk).elim (h.sub k) (fun h2=> .inr<|ea h.size h2),
  fun k cs e z c hn hk=>a.dH k cs e z c (fun h2=>(h.sub k h2).elim hn fun h3=>by have :=(bY.1 hk).1; omega) (h.dH k cs e z c hn hk),ea h.size a.size⟩
theorem Gw.mono (h:Gw B fp w fp' w') (a:B≤B'):Gw B' fp w fp' w':=⟨h.sub,fun k cs e z hk=>h.dH k cs e z (ea a hk),h.size⟩
theorem Gw.md {G:Nat→Prop} (hm:Md G w w') (a:∀ k,G k→fp k∨k < B) (hs:∀ k,fp' k→fp k∨w.heap.size≤k):Gw B fp w fp' w':=
 ⟨hs,fun k cs e z c hn hk=>by rw [hm.dH k (bY.1 hk).1 (fun h=>(a k h).elim hn fun h2=>by omega)]; exact hk,hm.size⟩
theorem Gw.wk (hm:Wk w w'):Gw B fp w fp w':=Gw.md hm (fun _ h=>h.elim) fun _ h=> .inl h
theorem Gw.own {e size n:Nat} {v:Value} {xs:List Value} (h:Gw B fp w fp' w') (a:w.ownsRow B e size v n xs) (q:∀ k,v.ownBlock=some k→¬fp k):w'.ownsRow B e size v n xs∧∀ k,v.ownBlock=some k→¬fp' k:=by
 refine ⟨⟨a.1,?_⟩,fun k hk h2=>(h.sub k h2).elim (q k hk) fun h3=>by have :=(cV a hk).2; omega⟩
 rcases a.2 with h1 | ⟨g,cap,cur,A,c,C,h1⟩
 · exact .inl h1
 · exact .inr ⟨g,cap,cur,A,c,h.dH g cur e (0,0) c (q g<|by rw [A]; rfl) C,h1⟩
theorem Gw.aB {k e:Nat} {cs:Array Value} {z:Nat×Nat} (h:Gw B fp w fp' w') (hk:w.heap[k]? =some (.cells cs e z)) (c:B≤k) (a:¬fp k):w'.heap[k]? =some (.cells cs e z)∧¬fp' k:=
 ⟨h.dH k cs e z c a hk,fun h2=>(h.sub k h2).elim a fun h3=>by have :=(bY.1 hk).1; omega⟩
end
def yA {α:Type} (B:Nat) (a:List α→(Nat→Prop)→World→Prop):Prop := ∀ pre fp W W' (F:Nat→Prop),a pre fp W→Md F W W'→(∀ k,F k→B≤k∧∀ cur e z,W.heap[k]? =some (.cells cur e z)→¬fp k)→a pre fp W'
section
variable {F fp:Nat→Prop} {W W':World} {B:Nat}
theorem kI {b e:Nat} {cs:Array Value} {z:Nat×Nat} (h:W.heap[b]? =some (.cells cs e z)) (hm:Md F W W') (c:b < B) (a:∀ k,F k→B≤k∧∀ cur e z,W.heap[k]? =some (.cells cur e z)→¬fp k):W'.heap[b]? =some (.cells cs e z):=by
 rw [hm.dH b (bY.1 h).1 (fun hk=>by have :=(a b hk).1; omega)]; exact h
theorem xC {B' e size n:Nat} {v:Value} {xs:List Value} (h:W.ownsRow B' e size v n xs) (hm:Md F W W') (A:∀ k,v.ownBlock=some k→fp k) (a:∀ k,F k→B≤k∧∀ cur e z,W.heap[k]? =some (.cells cur e z)→¬fp k):W'.ownsRow B' e size v n xs:=
 cx h hm fun k hk c=>by
  rcases h.2 with ⟨rfl,_⟩ | ⟨g,cap,C,rfl,_,q,_⟩
  · simp [gG] at hk
  · simp only [gG,fJ] at hk; subst hk; exact (a _ c).2 _ _ _ q<|A _ rfl
theorem xD {w:World} (h:Wk w W) (hm:Md F W W') (q:w.heap.size≤B) (a:∀ k,F k→B≤k∧∀ cur e z,W.heap[k]? =some (.cells cur e z)→¬fp k):Wk w W':=Md.trans' h hm fun k hk c=>by have :=(a k c).1; omega
end
def Kn {α:Type} (B:Nat) (a:Bool→List α→(Nat→Prop)→World→Prop):Prop := ∀ b pre fp W W' (F:Nat→Prop),a b pre fp W→Md F W W'→(∀ k,F k→B≤k∧¬fp k∧∃ cs e z,W.heap[k]? =some (.cells cs e z))→a b pre fp W'
structure Yc {α:Type} (P:Program) (l B:Nat) (encs:α→Array Value) (xs:List α) (Cap:World→Prop) (J:Bool→List α→(Nat→Prop)→World→Prop):Prop where
 cap:∀ b pre fp W,J b pre fp W→Cap W
 lt:∀ b pre fp W,J b pre fp W→∀ k,fp k→k < W.heap.size
 st:Kn B J
 yl:∀ pre x rest fp W1,xs=pre++x::rest→J true pre fp W1→YieldAt gZ 0 P l (encs x) W1 fun e W'=> ∃ b,e= .returned (.bool b)∧∃ fp',J b (pre++ [x]) fp' W'∧Gw B fp W1 fp' W'
theorem Yc.wk {α:Type} {P:Program} {l B:Nat} {q:α→Array Value} {xs:List α} {c:World→Prop} {a:Bool→List α→(Nat→Prop)→World→Prop} (h:Yc P l B q xs c a) {b:Bool} {pre:List α} {fp:Nat→Prop} {W W':World} (A:a b pre fp W) (hm:Wk W W'):a b pre fp W':=
 h.st _ _ _ _ _ _ A hm fun _ hk=>hk.elim
theorem Gw.GF {B:Nat} {fp fp':Nat→Prop} {w a w':World} (h:Gw B fp w fp' a) {G:Nat→Prop} (hm:Md G a w') (q:∀ k,G k→w.heap.size≤k):Gw B fp w fp' w':=
 ⟨h.sub,fun k cs e z c hn hk=>by
  have h1:=(bY.1 hk).1
  rw [hm.dH k (Nat.lt_of_lt_of_le h1 h.size) (fun h2=>by have :=q k h2; omega)]; exact h.dH k cs e z c hn hk,ea h.size hm.size⟩
theorem Yc.um {α:Type} {P:Program} {l B:Nat} {C:α→Array Value} {A:List α} {c:World→Prop} {a:Bool→List α→(Nat→Prop)→World→Prop} (h:Yc P l B C A c a) {b:Bool} {pre:List α} {fp:Nat→Prop} {W W':World} (G:a b pre fp W) {k e:Nat} {cs:Array Value} {z:Nat×Nat} (hk:W.heap[k]? =some (.cells cs e z)) (E:B≤k) (I:¬fp k) (hm:Md (fun q=>q=k) W W'):a b pre fp W':=
 h.st _ _ _ _ _ _ G hm fun q J=>by subst J; exact ⟨E,I,_,_,_,hk⟩
theorem Yc.WX {α:Type} {P:Program} {l B:Nat} {A:α→Array Value} {xs:List α} {a c:World→Prop} {q:Bool→List α→(Nat→Prop)→World→Prop} (h:Yc P l B A xs a q) (E:∀ W,a W→c W):Yc P l B A xs c q:=
 ⟨fun b pre fp W C=>E W (h.cap b pre fp W C),h.lt,h.st,h.yl⟩
def yz {α:Type} (P:Program) (A:Nat) (C:Array Value) (q:α→Array Value) (xs:List α) (c:World→Prop):Prop :=
 ∀ (l:Nat) (a:Bool→List α→(Nat→Prop)→World→Prop) (W:World),a true [] (fun _=>False) W→Yc P l W.heap.size q xs c a→
   Calls P A (#[.func (.yield l) #[] #[]]++C) W fun e W'=>(∃ v,e= .returned v)∧∃ b pre fp,a b pre fp W'∧pre <+:xs∧(b=true→pre=xs)
def UM (id B:Nat) (fp:Nat→Prop) (W:World) (R:(Nat→Prop)→World→Prop) (X:Bool→(Nat→Prop)→World→Prop):Exit→(Nat→Value)→World→Prop
 | .normal,_,w=>eW W w∧∃ fp',Gw B fp W fp' w∧R fp' w
 | .exit i,_,w=>i=id∧eW W w∧∃ fp',Gw B fp W fp' w∧X false fp' w
 | .ret,_,w=>eW W w∧∃ fp',Gw B fp W fp' w∧X true fp' w
 | _,_,_=>False
def An (id:Nat):Bool→Code
 | true => .ret
 | false => .exit id
theorem C2 {α:Type} {f:α→List Value} {e:Nat} (x:α) (b:Nat) (W W':World) (F:Nat→Prop) (h:W.heap[b]? =some (.cells (f x).toArray e (0,0))) (hm:Md F W W') (a:∀ k,F k→∀ cur e z,W.heap[k]?≠some (.cells cur e z)):W'.heap[b]? =some (.cells (f x).toArray e (0,0)):=by
 rw [hm.dH b (bY.1 h).1 (fun hk=>a b hk _ _ _ h)]; exact h
def JX {α:Type} (a:List α→(Nat→Prop)→World→Prop) (X:Bool→List α→(Nat→Prop)→World→Prop) (S:World→Prop) (T:Bool→World→Prop):Bool→List α→(Nat→Prop)→World→Prop
 | true,pre,fp,W=>a pre fp W∧S W
 | false,pre,fp,W=> ∃ r,X r pre fp W∧T r W
theorem Hq {α:Type} {P:Program} {id n:Nat} {Z:List Deferred} {g:Operand} {ps:Array Tmp} {aq body:Code} {Fx:List Nat} {σ:Nat→Value} {w:World} {B:Exit→Act→World→Prop} {ai:Nat} {aj:Array Value}
 (ae:α→Array Value) (xs:List α) (aw:World→Prop) (q:List α→(Nat→Prop)→World→Prop) (X:Bool→List α→(Nat→Prop)→World→Prop) (aU:ev ⟨n,Z,Fx,none⟩ σ g= .func (.func ai) #[] aj) (aR:bg P ai) (a2:∀ x,(ae x).size=ps.size)
 (aV:yz P ai aj ae xs aw) (aL:q [] (fun _=>False) w) (aA:∀ pre fp W,q pre fp W→aw W∧∀ k,fp k→k < W.heap.size) (aB:∀ r pre fp W,X r pre fp W→aw W∧∀ k,fp k→k < W.heap.size) (ac:yA w.heap.size q) (am:∀ r,yA w.heap.size (X r)) (A:α→Nat→World→Prop) (aJ:∀ x b W W' (F:Nat→Prop),A x b W→Md F W W'→(∀ k,F k→∀ cur e z,W.heap[k]?≠some (.cells cur e z))→A x b W') (aG:α→Nat→Nat→Value)
 (aP:∀ (l:Nat) (x:α) (W:World) (K:(Nat→Value)→World→Prop),(∀ b W',Wk W W'→A x b W'→K (aG x b) W')→c6 P ⟨n,[],[],some l⟩ aq (kY K fun _ _ _=>False) ((ps.toList.zip (ae x).toList).foldl (fun s p=>cY s p.1 p.2) σ) W)
 (aQ:∀ (l:Nat) (pre:List α) (x:α) (rest:List α) (fp:Nat→Prop) (b:Nat) (W:World),xs=pre++x::rest→q pre fp W→A x b W→c6 P ⟨n,[],[],some l⟩ body (UM id w.heap.size fp W (q<|pre++ [x]) fun r=>X r<|pre++ [x]) (aG x b) W)
 (hd:∀ (D:Nat) (W:World),w.heap.size≤D→(∃ fp,q xs fp W)→W.heap[D]? =some (.deferred<|some [])→qb ⟨n,{target:= .collected D,args:= #[]} ::Z,Fx,none⟩ B .normal σ W)
 (a5:∀ (D:Nat) (W:World) (pre:List α),w.heap.size≤D→pre <+:xs→(∃ fp,X false pre fp W)→W.heap[D]? =some (.deferred<|some [])→qb ⟨n,{target:= .collected D,args:= #[]} ::Z,Fx,none⟩ B .normal σ W)
 (a6:∀ (D:Nat) (W:World) (pre:List α),w.heap.size≤D→pre <+:xs→(∃ fp,X true pre fp W)→W.heap[D]? =some (.deferred<|some [])→qb ⟨n,{target:= .collected D,args:= #[]} ::Z,Fx,none⟩ B .ret σ W):
 nu P ⟨n,Z,Fx,none⟩ (.block id<|.rangeFunc g ps aq body) B σ w:=by
 refine wpIn_block<|wpIn_rangeFunc ?_
 intro fn _
 obtain ⟨rc,O⟩:∃ rc:LoopState→Option Code→Loop,rc=fun st a7=> {state:=st,pending:=a7,fn,tmps:=(act ⟨n,Z,Fx,none⟩ σ).tmps,params:=ps,assign:=aq,body,defers:=w.heap.size} :=⟨_,rfl⟩
 obtain ⟨G,al⟩:∃ G,(w.alloc<|.deferred<|some []).alloc (.loop<|rc .ready none)=G:=⟨_,rfl⟩
 have aO:G.heap[w.heap.size+1]? =some (.loop<|rc .ready none):=by
  rw [← al]; have :=x9 (w.alloc<|.deferred<|some []) (.loop<|rc .ready none); rwa [Jw] at this
 have aN:G.heap[w.heap.size]? =some (.deferred<|some []):=by
  rw [← al]; exact (Below.heap_alloc _ _ _<|by simp).trans<|x9 w _
 have a9:G.heap.size=w.heap.size+2:=by rw [← al]; simp
 have hn:∀ (W:World) (o:Obj),Wk W (W.alloc o):=fun W o=>(AR W o).md
 have aM:q [] (fun _=>False) G:=by rw [← al]; exact ac _ _ _ _ _ (ac _ _ _ _ _ aL (hn _ _) fun _ h=>h.elim) (hn _ _) fun _ h=>h.elim
 have aS:(act ⟨n,Z,Fx,none⟩ σ).eval g= .func (.func ai) #[] aj:=by rw [ga]; exact aU
 refine ⟨w.heap.size+1,[{target:= .collected w.heap.size,args:= #[]}],G,{target:= .fn (.func ai) aj,args:= #[.func (.yield<|w.heap.size+1) #[] #[]]},G,ai,
  #[.func (.yield<|w.heap.size+1) #[] #[]]++aj,G,?_,?_,fun _ _=>trivial,?_,fun aI=>(by cases aI),?_⟩
 · rw [← al,O]; exact run_enterLoop_outer _ _ _ _ _
 · simp only [resolve,aS]
   simp [go_sem]
 · have :=aR (#[.func (.yield<|w.heap.size+1) #[] #[]]++aj) G
   simp [invoke,go_sem,this]
 ·
  have ah:∀ (q:List α→(Nat→Prop)→World→Prop),yA w.heap.size q→∀ (pre:List α) (fp:Nat→Prop) (W:World) (o ak:Obj),q pre fp W→W.heap[w.heap.size+1]? =some o→(∀ cur e z,o≠.cells cur e z)→q pre fp (W.putObj (w.heap.size+1) ak):=fun q ac pre fp W o ak h1 h2 h3=>
   ac _ _ _ _ _ h1 (kD W _ ak) fun k hk=>⟨ab,fun cur e z h4=>by subst hk; rw [h2] at h4; exact absurd (rq h4)<|h3 _ _ _⟩
  have aC:∀ (fp:Nat→Prop) (W:World) (o ak:Obj),W.heap[w.heap.size+1]? =some o→(∀ cur e z,o≠.cells cur e z)→Gw w.heap.size fp W fp (W.putObj (w.heap.size+1) ak):=fun fp W o ak h2 h3=>
   ⟨fun _ h=> .inl h,fun k cs e z _ _ hk=>by
    rw [oh (fun h=>by subst h; rw [h2] at hk; exact h3 _ _ _<|rq hk)]; exact hk,by simp [Jv]⟩
  have ay:∀ {F:Nat→Prop} {A C:World},Md F A C→∀ (k:Nat) (o:Obj),A.heap[k]? =some o→¬F k→C.heap[k]? =some o:=fun hm k o ao aT=>by
   rw [hm.dH k (bY.1 ao).1 aT]; exact ao
  refine callsIn_wide.2 (jX (aV (w.heap.size+1)
   (JX q X (fun W=>W.heap[w.heap.size+1]? =some (.loop<|rc .ready none)∧W.heap[w.heap.size]? =some (.deferred<|some [])) fun r W=>W.heap[w.heap.size+1]? =some (.loop<|rc .done<|some<|An id r)∧W.heap[w.heap.size]? =some (.deferred<|some []))
   G ⟨aM,aO,aN⟩ ⟨fun b pre fp W h=>match b,h with
    | true,h=>(aA pre fp W h.1).1
    | false,⟨r,h,_⟩=>(aB r pre fp W h).1,fun b pre fp W h=>match b,h with
    | true,h=>(aA pre fp W h.1).2
    | false,⟨r,h,_⟩=>(aB r pre fp W h).2,?_,?_⟩) ?_)
  · intro b pre fp A C F h hm ax
    have az:∀ k,F k→w.heap.size≤k∧∀ cur e z,A.heap[k]? =some (.cells cur e z)→¬fp k:=fun k hk=>⟨by have :=(ax k hk).1; omega,fun _ _ _ _=>(ax k hk).2.1⟩
    have J:∀ (k:Nat) (o:Obj),A.heap[k]? =some o→(∀ cur e z,o≠.cells cur e z)→C.heap[k]? =some o:=fun k o ao a0=>ay hm k o ao fun hk=>by
     obtain ⟨cs,e,z,h5⟩:=(ax k hk).2.2; rw [ao] at h5; exact a0 _ _ _<|rq h5
    cases b with
    | true =>exact ⟨ac _ _ _ _ _ h.1 hm az,J _ _ h.2.1 (fun _ _ _ h=>by cases h),J _ _ h.2.2 fun _ _ _ h=>by cases h⟩
    | false =>
      obtain ⟨r,h1,h2,h3⟩:=h
      exact ⟨r,am r _ _ _ _ _ h1 hm az,J _ _ h2 (fun _ _ _ h=>by cases h),J _ _ h3 fun _ _ _ h=>by cases h⟩
  · rintro pre x rest fp W a4 ⟨hi,E,hk⟩
    have aE:=run_yield (P:=P) (args:=ae x) E<|by rw [O]; exact a2 x
    rw [O] at aE
    refine ⟨fn,_,aq,body,aE,roundIn_of_wpIn (F:=gZ) trivial ?_⟩
    have a3:((ps.zip<|ae x).foldl (fun tmps (p:Tmp×Value)=>tmps.setIfInBounds p.1 p.2) (act ⟨n,Z,Fx,none⟩ σ).tmps)=(act ⟨n,[],[],some<|w.heap.size+1⟩<|(ps.toList.zip (ae x).toList).foldl (fun s p=>cY s p.1 p.2) σ).tmps:=by
     rw [← BS,IV]
     exact CI ⟨n,[],[],some<|w.heap.size+1⟩ _ σ
    have h1:=aP (w.heap.size+1) x W (fun Y W'=> ∃ aF,(Jc<|w.heap.size+1).run P W'= .ok () aF∧
     body.wpIn (gZ.inRound<|w.heap.size+1) 0 P (roundPost P (w.heap.size+1) fun e W'=> ∃ b,e= .returned (.bool b)∧∃ fp',JX q X (fun W=>W.heap[w.heap.size+1]? =some (.loop<|rc .ready none)∧W.heap[w.heap.size]? =some (.deferred<|some [])) (fun r W=>W.heap[w.heap.size+1]? =some (.loop<|rc .done<|some<|An id r)∧W.heap[w.heap.size]? =some (.deferred<|some [])) b (pre++ [x]) fp' W'∧Gw G.heap.size fp W fp' W') (act ⟨n,[],[],some<|w.heap.size+1⟩ Y) aF) ?_
    · unfold c6 at h1
      have aH:({tmps:=(ps.zip<|ae x).foldl (fun tmps (p:Tmp×Value)=>tmps.setIfInBounds p.1 p.2) (act ⟨n,Z,Fx,none⟩ σ).tmps,defers:= []} :Act)=act ⟨n,[],[],some<|w.heap.size+1⟩ ((ps.toList.zip (ae x).toList).foldl (fun s p=>cY s p.1 p.2) σ):=by rw [a3]; rfl
      rw [aH]
      refine wpIn_mono h1 ?_
      intro e a w' M
      cases e with
      | normal=>obtain ⟨Y,rfl,ad⟩:=M; exact ad
      | panic c=>obtain ⟨Y,rfl,ad⟩:=M; exact ad Y fun _ _=>rfl
      | outgrown=>exact M.elim
      | _=>obtain ⟨Y,rfl,ad⟩:=M; exact ad
    intro b V au aK
    have hi:=ac _ _ _ _ _ hi au fun _ h=>h.elim
    have E:=ay au _ _ E fun h=>h
    have hk:=ay au _ _ hk fun h=>h
    have aZ:w.heap.size+1 < V.heap.size:=(bY.1 E).1
    refine ⟨_,run_beginRound E (by rw [O]),?_⟩
    have aY:(V.putObj (w.heap.size+1)<|.loop {rc .ready none with state:= .busy}).heap[w.heap.size+1]? =some (.loop {rc .ready none with state:= .busy}):=ya aZ
    have aW:(V.putObj (w.heap.size+1)<|.loop {rc .ready none with state:= .busy}).heap[w.heap.size]? =some (.deferred<|some []):=(oh ab).trans hk
    have a1:=aC fp V _ (.loop {rc .ready none with state:= .busy}) E fun _ _ _ h=>by cases h
    have h2:=aQ (w.heap.size+1) pre x rest fp b _ a4 (ah q ac _ _ _ _ (.loop {rc .ready none with state:= .busy}) hi E fun _ _ _ h=>by cases h)<|aJ _ _ _ _ _ aK (kD V (w.heap.size+1) _) fun k hk cur e z h4=>by subst hk; rw [E] at h4; cases h4
    unfold c6 at h2
    refine wpIn_mono h2 ?_
    have fin:∀ (j:Option Code) (fp':Nat→Prop) (I:World),eW (V.putObj (w.heap.size+1)<|.loop {rc .ready none with state:= .busy}) I→Gw w.heap.size fp (V.putObj (w.heap.size+1)<|.loop {rc .ready none with state:= .busy}) fp' I→
     (Instr.endRound (w.heap.size+1) j).run P I= .ok (.bool j.isNone) (I.putObj (w.heap.size+1)<|.loop<|rc (if j.isNone then .ready else .done) j)∧
     I.heap[w.heap.size+1]? =some (.loop {rc .ready none with state:= .busy})∧
     (I.putObj (w.heap.size+1)<|.loop<|rc (if j.isNone then .ready else .done) j).heap[w.heap.size+1]? =some (.loop<|rc (if j.isNone then .ready else .done) j)∧
     (I.putObj (w.heap.size+1)<|.loop<|rc (if j.isNone then .ready else .done) j).heap[w.heap.size]? =some (.deferred<|some [])∧
     Gw G.heap.size fp W fp' (I.putObj (w.heap.size+1)<|.loop<|rc (if j.isNone then .ready else .done) j):=fun j fp' I J ag=>by
     have av:=J _ _ aY fun _ _ _ h=>by cases h
     have aX:=J _ _ aW fun _ _ _ h=>by cases h
     have aD:=run_endRound (P:=P) j av
     refine ⟨?_,av,ya (bY.1 av).1,(oh ab).trans aX,((((Gw.wk au).trans a1).trans ag).trans<|aC fp' _ _ _ av fun _ _ _ h=>by cases h).mono ab⟩
     rw [O] at aD ⊢
     exact aD
    intro e a I M
    cases e with
    | normal=>
      obtain ⟨Y,rfl,J,fp',ag,an⟩:=M
      obtain ⟨f1,f2,f3,f4,f5⟩:=fin none fp' I J ag
      exact ⟨_,_,f1,true,aa,fp',⟨ah q ac _ _ _ _ _ an f2 (fun _ _ _ h=>by cases h),f3,f4⟩,f5⟩
    | ret=>
      obtain ⟨Y,rfl,J,fp',ag,an⟩:=M
      obtain ⟨f1,f2,f3,f4,f5⟩:=fin (some .ret) fp' I J ag
      exact ⟨_,_,f1,false,aa,fp',⟨true,ah (X true) (am true) _ _ _ _ _ an f2 (fun _ _ _ h=>by cases h),f3,f4⟩,f5⟩
    | exit i=>
      obtain ⟨Y,rfl,rfl,J,fp',ag,an⟩:=M
      obtain ⟨f1,f2,f3,f4,f5⟩:=fin (some<|.exit i) fp' I J ag
      exact ⟨_,_,f1,false,aa,fp',⟨false,ah (X false) (am false) _ _ _ _ _ an f2 (fun _ _ _ h=>by cases h),f3,f4⟩,f5⟩
    | panic c=>obtain ⟨Y,rfl,ad⟩:=M; exact (ad Y fun _ _=>rfl).elim
    | outgrown=>exact M.elim
    | goto t=>obtain ⟨Y,rfl,ad⟩:=M; exact ad.elim
  · rintro e a8 ⟨⟨v,rfl⟩,b,pre,fp,hj,hpre,hb1⟩
    cases b with
    | true =>
      obtain ⟨hi,E,hk⟩:=hj
      obtain rfl :=hb1 rfl
      have ap:=run_endLoop (P:=P) E<|by rw [O]; simp
      rw [O] at ap
      refine ⟨none,_,ap,?_⟩
      rw [O] at E
      exact hd w.heap.size _ (cz _) ⟨fp,ah q ac _ _ _ _ _ hi E fun _ _ _ h=>by cases h⟩<|(oh ab).trans hk
    | false =>
      obtain ⟨r,hi,E,hk⟩:=hj
      have ap:=run_endLoop (P:=P) E<|by rw [O]; simp
      rw [O] at ap
      refine ⟨some (An id r),_,ap,?_⟩
      rw [O] at E
      cases r with
      | true =>
        refine wpIn_ret ?_
        exact a6 w.heap.size _ pre (cz _) hpre ⟨fp,ah (X true) (am true) _ _ _ _ _ hi E fun _ _ _ h=>by cases h⟩<|(oh ab).trans hk
      | false =>
        refine wpIn_exit ?_
        unfold Exit.inBlock
        simp only [if_true]
        exact a5 w.heap.size _ pre (cz _) hpre ⟨fp,ah (X false) (am false) _ _ _ _ _ hi E fun _ _ _ h=>by cases h⟩<|(oh ab).trans hk
section
variable {P:Program} {N:Fm} {ops:Array Oper} {Q:Exit→(Nat→Value)→World→Prop} {rest:List Oper} {σ:Nat→Value} {w:World} {d':Option Nat} {d:Nat} {op:Op} {ty:TypeId} {pos :String} {af:Array Edge} {v:Value}
end
section
variable {P:Program} {n:Nat} {F:List Nat} {σ:Nat→Value} {w:World} {fn:Func} {R:Value→World→Prop}
end
def zM (P:Program) (s f:Nat):Option Nat:=
 match P.underlying s with
 | some (.struct fs)=>match fs[f]? with
   | some fd=>if da P fd.type=some none then some fd.offset else none
   | none=>none
 | _=>none
theorem UX {P:Program} {t:Nat} (hu:da P t=some none) (w:World):(isAgg t).run P w= .ok false w:=by
 unfold da at hu
 cases hd:P.underlying t with
 | none=>rw [hd] at hu; cases hu
 | some d=>
   rw [hd] at hu
   cases d <;> first
    | (simp only [ma] at hu; obtain ⟨_,_,h⟩:=hu; cases h; done)
    | simp [isAgg,c4 hd]
theorem zI {P:Program} {N:Fm} {σ:Nat→Value} {w:World} {dst:Option Nat} {ty:TypeId} {pos :String} {af:Array Edge} {g:Option (Nat×Bool)} {x:Operand} {s f n:Nat} {cs:Array Value} {v:Value} (a:zM P s f=some n) (C:ev N σ x= .agg cs) (A:cs[n]? =some v):
 (execOp (ev N σ) ⟨dst,.field s x f,ty,pos,af,g⟩).run P w= .ok (.value v) w:=by
 unfold zM at a
 split at a
 · rename_i fs hu
   split at a
   · rename_i fd q
     split at a
     · rename_i c
       cases a
       simp [execOp,Je,c4 hu,q,C,asAgg,part,UX c,A]
     · cases a
   · cases a
 · cases a
section
variable {P:Program} {ops:Array Oper} {Q:Exit→Act→World→Prop} {S:World→Prop} {md:q8}
theorem IJ {i:Nat} {o:Oper} {v:Value} {a:Act} (hi:ops[i]? =some o) (A:YieldsIf P ops S o v a) {K:Act→World→Prop} {w:World} (c:S w) (h:K (a.put o.dst v) w):wpOpIn gZ 0 P ops Q i K a w:=by
 unfold wpOpIn
 simp only [hi]
 rcases A with ⟨hw,q⟩ | ⟨hw,rfl⟩
 · rw [if_pos hw]
   refine ⟨fun _ _=>trivial,?_⟩
   rw [show gZ.round=none from rfl,uN,q w c]
   exact h
 · rw [if_neg (by rw [hw]; exact dv)]; exact ⟨fun _ _=>trivial,h⟩
theorem Xe {j:Nat} {q C:Oper} {v:Value} (J:ops[j]? =some C) (I:q.apart ops C=true)
 (M:∀ cs b,q.op≠.select cs b) (O:∀ cs b,C.op≠.select cs b)
 (E:∀ c a w,Q (.panic c) (a.put q.dst v) w→Q (.panic c) a w) {K:Act→World→Prop} {a:Act} {w:World}
 (A:YieldsIf P ops S q v a) (h:wpOpIn gZ 0 P ops Q j K (a.put q.dst v) w):
 wpOpIn gZ 0 P ops Q j (fun G w'=>YieldsIf P ops S q v G∧K (G.put q.dst v) w') a w:=by
 obtain ⟨h1,h2,h3⟩:=Oper.apart_spec I
 have dH:∀ (a:Act),YieldsIf P ops S q v a→∀ u,YieldsIf P ops S q v (a.put C.dst u):=fun a A u=>
  A.of_same (execOp_put q M a C.dst u h3) (wanted_put q a C.dst u h3)
 have V:∀ d,YieldsIf P ops S q v {a with defers:=d::a.defers} :=fun d=>A.of_same rfl rfl
 unfold wpOpIn at*
 simp only [J] at*
 rw [wanted_put C a q.dst v h1] at h
 split
 · rename_i hw
   simp only [hw,if_true] at h
   unfold Oper.wpIn at*
   refine ⟨fun _ _=>trivial,?_⟩
   have h:=h.2
   rw [show gZ.round=none from rfl,uN,execOp_put C O a q.dst v h1] at h
   rw [show gZ.round=none from rfl,uN]
   generalize (execOp a.eval C).run P w=r at*
   cases r with
   | ok x w'=>
     cases x <;> simp only [qa] at h ⊢
     case value u=>exact ⟨dH a A u,by rw [← qY a v u h2]; exact h⟩
     case skip =>exact ⟨dH a A _,by rw [← qY a v undef h2]; exact h⟩
     case defer d=>
      refine ⟨dH _ (V d) _,?_⟩
      rw [← qY _ v undef h2,← Act.put_defers]
      exact h
     case enter f args=>
      refine ⟨h.1,BY h.2 fun e w'' he=> ?_⟩
      cases e with
      | returned u=>exact ⟨dH a A u,by rw [← qY a v u h2]; exact he⟩
      | panicked c=>exact E _ _ _ he
      | outgrown=>exact he
     case row row args=>exact ⟨h.1,Ci h.2 fun u w'' he=>⟨dH a A u,by rw [← qY a v u h2]; exact he⟩⟩
     case round l f tmps assign body=>
      refine ⟨h.1,Cg h.2 fun e w'' he=> ?_⟩
      cases e with
      | returned u=>exact ⟨dH a A u,by rw [← qY a v u h2]; exact he⟩
      | panicked c=>exact E _ _ _ he
      | outgrown=>exact he
   | halt x w'=>
     cases x <;> simp only [qa] at h ⊢
     case panic u=>exact E _ _ _ h
 · rename_i hw
   simp only [hw] at h
   exact ⟨fun _ _=>trivial,dH a A _,by rw [← qY a v undef h2]; exact h.2⟩
def oV (P:Program) (md:q8) (ops:Array Oper) (Q:Exit→Act→World→Prop) (S:World→Prop):Nat→Array Bool→Act→World→Prop
 | 0,aV,a,w=>iu md ops aV= []∧Q .normal a w
 | fuel+1,aV,a,w=>
   (iu md ops aV= []→Q .normal a w)∧
   ∀ i∈iu md ops aV,wpOpIn gZ 0 P ops Q i (fun c w'=>S w'∧oV P md ops Q S fuel (aV.setIfInBounds i true) c w') a w
theorem Ix:∀ (fuel:Nat) (aV:Array Bool) (a:Act) (w:World),oV P md ops Q S fuel aV a w→wpAnyIn gZ 0 P md ops Q fuel aV a w
 | 0,_,_,_,h=>h
 | fuel+1,_,_,_,h=>⟨h.1,fun i hi=>wpOpIn_mono (fun c w' q=>Ix fuel _ c w' q.2)<|h.2 i hi⟩
theorem W9 {i:Nat} {C:Oper} {v:Value} (hi:ops[i]? =some C) (ab:∀ (j:Nat) (o:Oper) cs b,ops[j]? =some o→o.op≠.select cs b)
 (ae:∀ c a w,Q (.panic c) (a.put C.dst v) w→Q (.panic c) a w):
 ∀ (fuel:Nat) (aV:Array Bool) (a:Act) (w:World),
   (∀ j E,ops[j]? =some E→j≠i→aV.getD j true =false→(∀ e∈E.after,jo md e=true→e.on≠i)→C.apart ops E=true)→
   i∈iu md ops aV→YieldsIf P ops S C v a→S w→
   oV P md ops Q S fuel (aV.setIfInBounds i true) (a.put C.dst v) w→oV P md ops Q S (fuel+1) aV a w:=by
 intro fuel
 induction fuel with
 | zero=>
   intro aV a w _ A J G H
   refine ⟨fun h=>(by rw [h] at A; cases A),fun j I=> ?_⟩
   by_cases q:j=i
   · subst q; exact IJ hi J G ⟨G,H⟩
   · have :=ready_mono I q
     rw [H.1] at this
     cases this
 | succ fuel am=>
   intro aV a w Y A J G H
   refine ⟨fun h=>(by rw [h] at A; cases A),fun j I=> ?_⟩
   by_cases q:j=i
   · subst q; exact IJ hi J G ⟨G,H⟩
   · have h1:=H.2 j<|ready_mono I q
     obtain ⟨aa,E,O,ag⟩:=mem_ready.1 I
     have al:∀ e∈E.after,jo md e=true→e.on≠i:=fun e he ah heq=>by
      have h1:=ag e he ah
      have V:=(mem_ready.1 A).1
      rw [heq] at h1
      rcases Nat.lt_or_ge i aV.size with M | M
      · simp [M] at V h1; rw [V] at h1; cases h1
      · simp [Array.getElem?_eq_none M] at h1
     have h2:=Xe O (Y j E O q aa al) (fun cs b=>ab i C cs b hi) (fun cs b=>ab j E cs b O) ae J h1
     have ai:∀ k ok,ops[k]? =some ok→k≠i→(aV.setIfInBounds j true).getD k true =false→
      (∀ e∈ok.after,jo md e=true→e.on≠i)→C.apart ops ok=true :=fun k ok hk aj ac ak=>by
      refine Y k ok hk aj ?_ ak
      by_cases Z:j=k
      · subst Z; exact aa
      · rw [getD_set_ne true Z] at ac; exact ac
     refine wpOpIn_mono (fun ad w' h3=>⟨h3.2.1,am (aV.setIfInBounds j true) ad w' ai (ready_mono A<|Ne.symm q) h3.1 h3.2.1 ?_⟩) h2
     rw [Array.setIfInBounds_comm _ _ q]
     exact h3.2.2
theorem BN {i:Nat} {q:Oper} {v:Value} {fuel:Nat} {aV:Array Bool} {a:Act} {w:World} (hi:ops[i]? =some q)
 (hs:Region.noSelect ops=true) (E:Region.free md ops aV i=true) (G:(iu md ops aV).contains i=true)
 (A:∀ c a w,Q (.panic c) (a.put q.dst v) w→Q (.panic c) a w) (I:YieldsIf P ops S q v a) (C:S w)
 (h:oV P md ops Q S fuel (aV.setIfInBounds i true) (a.put q.dst v) w):oV P md ops Q S (fuel+1) aV a w:=
 W9 hi (Region.noSelect_spec hs) A fuel aV a w (Region.free_spec hi E) (by simpa using G) I C h
theorem Iy {i:Nat} {fuel:Nat} {aV:Array Bool} {a:Act} {w:World} (E:kG ops aV i=true)
 (h:wpOpIn gZ 0 P ops Q i (fun C w'=>S w'∧oV P .any ops Q S fuel (aV.setIfInBounds i true) C w') a w):oV P .any ops Q S (fuel+1) aV a w:=by
 have A:iu .any ops aV= [i]:=by simpa [kG] using E
 exact ⟨fun c=>(by rw [A] at c; cases c),fun j q=>by rw [A] at q; obtain rfl :=iS.1 q; exact h⟩
end
def kJ (P:Program) (N:Fm) (ops:Array Oper) (Q:Exit→(Nat→Value)→World→Prop) (S:World→Prop) (fuel:Nat) (aV:Array Bool) (σ:Nat→Value) (w:World):Prop :=
 oV P .any ops (lift N Q) S fuel aV (act N σ) w
section
variable {P:Program} {N:Fm} {ops:Array Oper} {Q:Exit→(Nat→Value)→World→Prop} {σ:Nat→Value} {w:World} {d':Option Nat} {d:Nat} {op:Op} {ty:TypeId} {pos :String} {af:Array Edge} {v:Value}
variable {S:World→Prop} {fuel:Nat} {aV:Array Bool}
theorem IK {id:Nat} {l:List Oper} (S:World→Prop) (a:N.r=none) (hm:P.follows .mixedOrders=true) (c:S w.drew) (h:kJ P N l.toArray Q S l.length (sM l.length false) σ w.drew):c6 P N (.region id l.toArray true) Q σ w:=by
 unfold c6
 rw [a]
 exact wpIn_region_any hm<|Ix _ _ _ _<|by rw [nI]; exact h
theorem yp (i:Nat) (hi:ops[i]? =some ⟨some d,op,ty,pos,af,none⟩) (q:iO N.F ops aV i=true)
 (C:∀ w,S w→(execOp (ev N σ) ⟨some d,op,ty,pos,af,none⟩).run P w= .ok (.value v) w) (A:S w)
 (k:kJ P N ops Q S fuel (aV.setIfInBounds i true) (cY σ d v) w):kJ P N ops Q S (fuel+1) aV σ w:=by
 simp only [iO,gj] at q
 refine BN hi q.1.1.1 q.1.1.2 q.1.2 (fun c a w=>oM (by have :=q.2; rwa [hi] at this) c a w) (.inl ⟨jc _ rfl _,fun w A=> ?_⟩) A ?_ (v:=v)
 · rw [ga]; exact C w A
 · rw [jj]; exact k
theorem mG (i:Nat) {j t:Nat} {want:Bool} (hi:ops[i]? =some ⟨some d,op,ty,pos,af,some (j,want)⟩) (q:iO N.F ops aV i=true)
 (C:jx ops j=some t) (E:fP t N.n=true) (G:σ t= .bool want)
 (I:∀ w,S w→(execOp (ev N σ) ⟨some d,op,ty,pos,af,some (j,want)⟩).run P w= .ok (.value v) w) (A:S w)
 (k:kJ P N ops Q S fuel (aV.setIfInBounds i true) (cY σ d v) w):kJ P N ops Q S (fuel+1) aV σ w:=by
 simp only [iO,gj] at q
 refine BN hi q.1.1.1 q.1.1.2 q.1.2 (fun c a w=>oM (by have :=q.2; rwa [hi] at this) c a w) (.inl ⟨by rw [oT aa C E G]; cases want <;> rfl,fun w A=> ?_⟩) A ?_ (v:=v)
 · rw [ga]; exact I w A
 · rw [jj]; exact k
theorem lA (i:Nat) {j t:Nat} {want b:Bool} (hi:ops[i]? =some ⟨some d,op,ty,pos,af,some (j,want)⟩) (q:iO N.F ops aV i=true)
 (E:jx ops j=some t) (G:fP t N.n=true) (I:σ t= .bool b) (C:(b==want)=false) (A:S w)
 (k:kJ P N ops Q S fuel (aV.setIfInBounds i true) (cY σ d undef) w):kJ P N ops Q S (fuel+1) aV σ w:=by
 simp only [iO,gj] at q
 refine BN hi q.1.1.1 q.1.1.2 q.1.2 (fun c a w=>oM (by have :=q.2; rwa [hi] at this) c a w) (.inr ⟨by rw [oT aa E G I,C],aa⟩) A ?_ (v:=undef)
 rw [jj]; exact k
theorem Xb {Q:Exit→Act→World→Prop} {o:Oper} {K:(Nat→Value)→World→Prop} {C:Act→World→Prop} (h:cJ P N o σ w K) (hk:∀ σ w,K σ w→C (act N σ) w):o.wpIn gZ 0 P (act N σ) w C Q:=by
 refine ⟨fun _ _=>trivial,?_⟩
 rw [show gZ.round=none from rfl,uN]
 unfold cJ je at h
 generalize (execOp (act N σ).eval o).run P w=x at h ⊢
 cases x with
 | ok n w'=>
   cases n <;> simp only [kg,qa] at h ⊢ <;>
    first
     | (obtain ⟨E,q,a⟩:=h; rw [q]; exact hk _ _ a)
     | (refine ⟨fun A=>(by cases A),BY (callsIn_wide.2 h) fun e w'' he=> ?_⟩
        cases e with
        | returned v=>obtain ⟨E,q,a⟩:=he; simp only; rw [q]; exact hk _ _ a
        | panicked c=>exact he.elim
        | outgrown=>obtain ⟨_,_,G⟩:=he; exact G.elim)
     | (refine ⟨fun A=>(by cases A),Ci (zL (r:=none) h) fun v w'' he=> ?_⟩
        obtain ⟨E,q,a⟩:=he; rw [q]; exact hk _ _ a)
 | halt x w'=>cases x <;> simp only [kg] at h
theorem ye (i:Nat) (hi:ops[i]? =some ⟨d',op,ty,pos,af,none⟩) (a:kG ops aV i=true)
 (h:cJ P N ⟨d',op,ty,pos,af,none⟩ σ w (fun σ w=>S w∧kJ P N ops Q S fuel (aV.setIfInBounds i true) σ w)):kJ P N ops Q S (fuel+1) aV σ w:=by
 refine Iy a ?_
 unfold wpOpIn
 simp only [hi]
 rw [if_pos (jc _ rfl _)]
 exact Xb h fun _ _ hk=>hk
theorem IL {l:Nat} {fo:Operand} {args:Array Operand} {q:Array TypeId} {R:Bool→World→Prop} (i:Nat) {j t:Nat} {want:Bool} {L:List Value} (hi:ops[i]? =some ⟨some d,.call ⟨.value fo,args,q⟩,ty,pos,af,some (j,want)⟩) (J:kG ops aV i=true)
 (I:jx ops j=some t) (O:fP t N.n=true) (V:σ t= .bool want) (G:ev N σ fo= .func (.yield l) #[] #[]) (C:args.toList.map (ev N σ)=L)
 (Z:YieldAt gZ 0 P l L.toArray w fun e W'=> ∃ b,e= .returned (.bool b)∧R b W') (k:∀ b W',R b W'→S W'∧kJ P N ops Q S fuel (aV.setIfInBounds i true) (cY σ d<|.bool b) W'):
 kJ P N ops Q S (fuel+1) aV σ w:=by
 refine Iy J ?_
 unfold wpOpIn
 simp only [hi]
 rw [if_pos (by rw [oT rfl I O V]; cases want <;> rfl)]
 obtain ⟨fn,tmps,a,b,M,E⟩:=Z
 refine ⟨fun _ _=>trivial,?_⟩
 rw [show gZ.round=none from rfl,uN,ga]
 have hm:args.map (ev N σ)=L.toArray:=by rw [← C,← lB]
 have Y:(execOp (ev N σ) ⟨some d,.call ⟨.value fo,args,q⟩,ty,pos,af,some (j,want)⟩).run P w= .ok (.round l fn tmps a b) w:=by
  simp [execOp,resolve,G,o5,invoke,hm,M]
 rw [Y]
 simp only [qa]
 refine ⟨fun A=>(by cases A),Cg E ?_⟩
 rintro e W' ⟨c,rfl,hw⟩
 simp only
 rw [jj]
 exact k c W' hw
theorem yn (c:(iu .any ops aV).isEmpty=true) (h:Q .normal σ w):kJ P N ops Q S fuel aV σ w:=by
 have a:iu .any ops aV= []:=by simpa using c
 cases fuel with
 | zero=>exact ⟨a,σ,rfl,h⟩
 | succ n=>exact ⟨fun _=>⟨σ,rfl,h⟩,fun i hi=>by rw [a] at hi; cases hi⟩
theorem II {t:Nat} {b:Bool} (h:σ t= .bool b) (c:b=true→kJ P N ops Q S fuel aV (cY σ t<|.bool true) w) (a:b=false→kJ P N ops Q S fuel aV (cY σ t<|.bool false) w):kJ P N ops Q S fuel aV σ w:=by
 cases b
 · have :=a rfl; rwa [oR h] at this
 · have :=c rfl; rwa [oR h] at this
end
attribute [irreducible] kJ
end Go.Hb
end
namespace Go.Hb
theorem G0 {b:UInt8} {m:Int} (h:48≤b.toNat∧b.toNat≤57) (hm:((b.toNat - 48:Nat):Int)≤m):eD [b] m= .ok (b.toNat - 48):=by
 have a:fT [b]=b.toNat - 48:=by simp [fT]
 have c:¬qI [b]:=by rintro (h | ⟨h,_⟩) <;> simp at h
 have hd:zu [b]:=fun i hi=>by
  have hi:i=0:=by simpa using hi
  subst hi
  exact decide_eq_true h
 unfold eD
 rw [GY c hd (by rw [a]; omega),a]
 rfl
theorem BL:eJ 1 [65]=65:=by unfold eJ; decide+kernel
theorem WY:iP iH [65]= .ok 65:=by
 unfold iP iN iH
 simp only
 rw [BL]
 simp [eu,dM]
theorem WZ:kQ 1 [65]= .ok [65]:=by
 have h1:eA 1 [65]= [[65]]:=by decide+kernel
 have h:eY 1 [65]=([65],0):=by
  unfold eY
  rw [h1,if_neg (by simp),if_neg (by simp [BL]),if_neg (by simp),qj,List.map_nil,BL]
  decide+kernel
 unfold kQ
 rw [h]; rfl
end Go.Hb
section
namespace Go.Hb
section
variable {P:Program} {n:Nat} {Fx:List Nat} {σ:Nat→Value} {w:World} {fn:Func} {R:Value→World→Prop} {B:Exit→Act→World→Prop} {N:Fm}
variable {S:List Nat→(Nat→Value)→World→Prop}
end
theorem GI (o:Nat):∀ (r:List Value) (m:Nat) (pre a:List Value),pre.length=o+m→r.length≤a.length→
 (r.zipIdx m).foldl (fun (cs:Array Value) (c,j)=>cs.setIfInBounds (o+j) c) (pre++a).toArray=(pre++r++a.drop r.length).toArray
 | [],m,pre,a,_,_=>by simp
 | c::r,m,pre,a,hp,hl=>by
   cases a with
   | nil=>simp at hl
   | cons z a=>
     rw [yw,sV]
     have h1:(pre++z::a).toArray.setIfInBounds (o+m) c=((pre++ [c])++a).toArray:=by rw [← hp]; simp
     show List.foldl _ ((pre++z::a).toArray.setIfInBounds (o+m) c) _=_
     rw [h1,GI o r (m+1) (pre++ [c]) a (by simp; omega) (by simpa using hl)]
     simp
theorem EU {size:Nat} :∀ (rest:List (List Value)) (m:Nat) (pre a:List Value),pre.length=m*size→a.length=rest.length*size→(∀ r∈rest,r.length=size)→
 l7 (fun i=>some (i*size,size)) (pre++a).toArray ((rest.zipIdx m).map fun q=>(q.2,bB q.1.toArray))=some (pre++rest.flatten).toArray
 | [],m,pre,a,_,hz,_=>by
   obtain rfl :a= []:=gx<|by simpa using hz
   rfl
 | r::rest,m,pre,a,hp,hz,hr=>by
   have A:=hr r<|pc ..
   have G:a.length=rest.length*size+size:=by rw [hz,bX,pk]
   rw [yw,qj]
   have C:(bB r.toArray).cells=r.toArray:=by simp [Value.cells]
   simp only [l7,C]
   rw [if_neg (by simp; omega)]
   have h1:=GI (m*size) r 0 pre a ab ab
   have h2:(r.toArray.zipIdx.foldl (fun (cs:Array Value) (c,j)=>cs.setIfInBounds (m*size+j) c) (pre++a).toArray)=(pre++r++a.drop r.length).toArray:=by
    rw [← h1,← BS]; simp
   rw [h2,EU rest (m+1) (pre++r) (a.drop r.length) (by rw [bK,hp,A,pk]) (by rw [gH]; omega) (fun x E=>hr x<|oq _ E)]
   simp
section
variable {P:Program} {N:Fm} {σ:Nat→Value} {w:World} {dst:Option Nat} {ty:TypeId} {pos :String} {af:Array Edge} {g:Option (Nat×Bool)} {K:(Nat→Value)→World→Prop}
theorem Lr {t e size bytes n:Nat} {ps:Array (Nat×Operand)} (rows:List (List Value)) (I:gv P t e size bytes=true) (hp:ps.toList.map (fun p=>(p.1,ev N σ p.2))=(rows.zipIdx 0).map fun q=>(q.2,bB q.1.toArray))
 (A:rows.all (fun r=>r.length==size)=true) (hn:rows.length=n) (hs:(mO (n*size) 1000 && fP 0 n && mO n 1000)=true)
 (k:∀ b w',b=w.heap.size→Nw w w'→w'.heap[b]? =some (.cells rows.flatten.toArray e (0,0))→K (fi σ dst<|.slice (some ⟨b,0,none⟩) n n) w'):cJ P N ⟨dst,.buildSlice t n ps,ty,pos,af,g⟩ σ w K:=by
 subst hn
 refine mF (v:=fun b=> .slice (some ⟨b,0,none⟩) rows.length rows.length) (ob:= .cells rows.flatten.toArray e (0,0)) ?_ k
 obtain ⟨hu,i,zv,hi,J,a,h2,h3,h4⟩:=pV I
 simp only [gj] at hs
 have E:rows.length*size≤1000:=by simpa using hs.1.1
 have O:rows.length≤1000:=by simpa using hs.2
 have G:0 < rows.length:=by have :=qk hs.1.2; omega
 have c:l7 (fun i=>some (i*size,size)) ((oY<|rows.length*size).map (zv.cells[· % zv.cells.size]!)) (ps.toList.map fun p=>(p.1,ev N σ p.2))=some rows.flatten.toArray:=by
  rw [hp]
  have M:((oY<|rows.length*size).map (zv.cells[· % zv.cells.size]!)).toList.length=rows.length*size:=by simp
  have :=EU (size:=size) rows 0 [] ((oY<|rows.length*size).map (zv.cells[· % zv.cells.size]!)).toList (by simp) M fun r C=>by have :=List.all_eq_true.1 A r C; simpa using this
  rw [mN,mN,xU] at this
  exact this
 simp only [execOp,Instr.buildSlice,nz,c4 hu,ny,sizeOf,gO hi,ra,a,Sem.run_ite,zeroValue,J,lB,c]
 rw [if_neg (Nat.not_lt.2<|ea E aw),if_neg (Nat.pos_iff_ne_zero.1<|Nat.mul_pos G h4)]
 simp [newRow]
end
section
variable {P:Program} {N:Fm} {σ:Nat→Value} {w:World} {dst:Option Nat} {ty:TypeId} {pos :String} {af:Array Edge} {g:Option (Nat×Bool)} {x y:Operand}
end
end Go.Hb
end
section
namespace Go.Hb
open Go.ChangeMaps
open Classical
structure qn (es:List MapEntry) (c:Nat):Prop where
 lt:∀ e∈es,e.born < c
 nd:(es.map (·.born)).Nodup
structure oz (es:List MapEntry) (isK:Value→Prop) (f:Value→Option Value):Prop where
 ks:∀ e∈es,isK e.key
 nd:(es.map (·.key)).Nodup
 iff :∀ k v,f k=some v↔∃ e∈es,e.key=k∧e.val=v
def kp (h:Array Obj) (b:Nat) (isK:Value→Prop) (f:Value→Option Value):Prop := ∃ es c,h[b]? =some (.map es c)∧qn es.toList c∧oz es.toList isK f
theorem kp.wV {h:Array Obj} {b:Nat} {isK:Value→Prop} {f:Value→Option Value} (hm:kp h b isK f):bS h b isK f:=by
 obtain ⟨es,c,h1,_,h3⟩:=hm
 refine ⟨_,⟨es,c,h1,aa⟩,fun p hp=> ?_,?_,fun k v=> ?_⟩
 · obtain ⟨e,he,rfl⟩:=gQ.1 hp; exact h3.ks e he
 · rw [JJ]; exact h3.nd
 · rw [h3.iff,gQ]
   exact ⟨fun ⟨e,he,h1,h2⟩=>⟨e,he,by rw [h1,h2]⟩,fun ⟨e,he,h1⟩=>⟨e,he,congrArg gk h1,congrArg Prod.snd h1⟩⟩
theorem kp.md {F:Nat→Prop} {w w':World} {b:Nat} {isK:Value→Prop} {f:Value→Option Value} (h:kp w.heap b isK f) (hm:Md F w w') (a:¬F b):kp w'.heap b isK f:=by
 obtain ⟨es,c,h1,h2⟩:=h
 exact ⟨es,c,by rw [hm.dH b (bY.1 h1).1 a]; exact h1,h2⟩
theorem kp.nil {h:Array Obj} {b:Nat} {isK:Value→Prop} {c:Nat} (hm:h[b]? =some (.map #[] c)):kp h b isK fun _=>none:=
 ⟨#[],c,hm,⟨fun _ h=>by simp at h,by simp⟩,fun _ h=>by simp at h,by simp,fun k v=>by simp⟩
def rB (h:Array Obj) (b:Nat) (isK:Value→Prop) (f:Value→Option Value) (kx:Value) (st:Nat):Prop := ∃ es c,h[b]? =some (.map es c)∧qn es.toList c∧oz es.toList isK f∧∃ e∈es.toList,e.key=kx∧e.born=st
theorem rB.Ta {h:Array Obj} {b:Nat} {isK:Value→Prop} {f:Value→Option Value} {kx:Value} {st:Nat} (hm:rB h b isK f kx st):kp h b isK f:=let ⟨es,c,h1,h2,h3,_⟩:=hm; ⟨es,c,h1,h2,h3⟩
theorem oz.push {es:List MapEntry} {isK:Value→Prop} {f:Value→Option Value} {kx v:Value} {c:Nat} (h:oz es isK f) (hi:isK kx) (A:∀ e∈es,e.key≠kx):oz (es++ [{key:=kx,val:=v,born:=c}]) isK (bA f kx v) where
 ks e he:=by
  rcases js.1 he with he | he
  · exact h.ks e he
  · rw [iS.1 he]; exact hi
 nd:=by
  rw [iw,uZ]
  refine ⟨h.nd,by simp,fun a C b q E=> ?_⟩
  obtain ⟨e,he,rfl⟩:=gQ.1 C
  simp at q
  exact A e he<|by rw [E,q]
 iff k u:=by
  unfold bA
  by_cases hk:k=kx
  · subst hk
    rw [if_pos rfl]
    constructor
    · intro h1; cases h1; exact ⟨_,uY _ (iS.2 rfl),rfl,rfl⟩
    · rintro ⟨e,he,h1,h2⟩
      rcases js.1 he with he | he
      · exact absurd h1<|A e he
      · rw [iS.1 he] at h2; rw [← h2]
  · rw [if_neg hk,h.iff]
    constructor
    · rintro ⟨e,he,h1⟩; exact ⟨e,yr _ he,h1⟩
    · rintro ⟨e,he,h1,h2⟩
      rcases js.1 he with he | he
      · exact ⟨e,he,h1,h2⟩
      · rw [iS.1 he] at h1; exact absurd h1.symm hk
theorem qn.push {es:List MapEntry} {kx v:Value} {c:Nat} (h:qn es c):qn (es++ [{key:=kx,val:=v,born:=c}]) (c+1) where
 lt e he:=by
  rcases js.1 he with he | he
  · have :=h.lt e he; omega
  · rw [iS.1 he]; exact Nat.lt_succ_self _
 nd:=by
  rw [iw,uZ]
  refine ⟨h.nd,by simp,fun a q b A C=> ?_⟩
  obtain ⟨e,he,rfl⟩:=gQ.1 q
  simp at A
  have :=h.lt e he; omega
theorem wU {α:Type} (l:List α) (g:α→α) (i j:Nat):(l.modify i g)[j]? =if i=j then (l[j]?).map g else l[j]? :=by
 rw [JG]
 by_cases h:i=j
 · simp [h]
 · simp [h]
theorem sh {α:Type} {l:List α} {g:α→α} {i:Nat} {e:α} (hi:l[i]? =some e) (x:α):x∈l.modify i g↔x=g e∨∃ j,j≠i∧l[j]? =some x:=by
 rw [List.mem_iff_getElem?]
 constructor
 · rintro ⟨j,a⟩
   rw [wU] at a
   by_cases h:i=j
   · subst h; rw [if_pos rfl,hi] at a; exact .inl (rq a).symm
   · rw [if_neg h] at a
     exact .inr ⟨j,fun e=>h e.symm,a⟩
 · rintro (rfl | ⟨j,a,h⟩)
   · exact ⟨i,by rw [wU,if_pos aa,hi]; rfl⟩
   · exact ⟨j,by rw [wU,if_neg (fun e=>a e.symm),h]⟩
theorem GM {α β:Type} {l:List α} (g:α→α) (p:α→β) (hp:∀ x,p (g x)=p x) (i:Nat):(l.modify i g).map p=l.map p:=by
 apply om
 intro j
 rw [fH,fH,wU]
 cases l[j]? with
 | none=>by_cases h:i=j <;> simp [h]
 | some x=>by_cases h:i=j <;> simp [h,hp]
theorem oz.Va {es:List MapEntry} {isK:Value→Prop} {f:Value→Option Value} {v:Value} {i:Nat} {e:MapEntry} (h:oz es isK f) (hi:es[i]? =some e):oz (es.modify i fun e=> {e with val:=v}) isK (bA f e.key v) where
 ks x c:=by
  rcases (sh hi x).1 c with rfl | ⟨j,_,a⟩
  · exact h.ks e<|fz hi
  · exact h.ks x<|fz a
 nd:=by rw [GM (fun e:MapEntry=> {e with val:=v}) (·.key) (fun _=>rfl)]; exact h.nd
 iff k u:=by
  have E:∀ {j:Nat} {x:MapEntry},es[j]? =some x→x.key=e.key→j=i:=fun {j x} a hk=>by
   have C:=(eQ.1 a).1
   exact (Cw (by simpa using C) h.nd).1<|by rw [fH,fH,a,hi,kj,kj,hk]
  unfold bA
  by_cases hk:k=e.key
  · subst hk
    rw [if_pos rfl]
    constructor
    · intro h1; cases h1; exact ⟨_,(sh hi _).2 (.inl rfl),rfl,rfl⟩
    · rintro ⟨x,c,h1,h2⟩
      rcases (sh hi x).1 c with rfl | ⟨j,a,A⟩
      · rw [← h2]
      · exact absurd (E A h1) a
  · rw [if_neg hk,h.iff]
    constructor
    · rintro ⟨x,c,h1,h2⟩
      obtain ⟨j,a⟩:=rj c
      have q:j≠i:=fun q=>by subst q; rw [hi] at a; cases a; exact hk h1.symm
      exact ⟨x,(sh hi x).2 (.inr ⟨j,q,a⟩),h1,h2⟩
    · rintro ⟨x,c,h1,h2⟩
      rcases (sh hi x).1 c with rfl | ⟨j,_,A⟩
      · exact absurd h1.symm hk
      · exact ⟨x,fz A,h1,h2⟩
theorem Uj {f:Value→Option Value} {k v:Value} (h:f k=some v):bA f k v=f:=by
 funext q; unfold bA
 by_cases a:q=k
 · subst a; rw [if_pos rfl,h]
 · rw [if_neg a]
section
variable {P:Program} {N:Fm} {σ:Nat→Value} {w:World} {dst:Option Nat} {ty:TypeId} {pos :String} {af:Array Edge} {g:Option (Nat×Bool)} {x y z:Operand} {K:(Nat→Value)→World→Prop}
variable {t k e:TypeId} {isK:Value→Prop} {b:Nat} {f:Value→Option Value} {kx v zv:Value}
theorem SX (ab:P.underlying t=some (.map k e)) (ag:zeroV P e=some zv) (E:k5 P k isK) (hm:kp w.heap b isK f) (hi:isK kx):
 ∃ st w',(B5 t (.map<|some b) kx).run P w= .ok (.tuple #[(f kx).getD zv,.int .i64 ((st:Nat):Int)]) w'∧Md (fun j=>j=b) w w'∧rB w'.heap b isK (bA f kx<|(f kx).getD zv) kx st:=by
 obtain ⟨es,c,C,I,A⟩:=hm
 have J:=(bY.1 C).1
 rcases E.key.find w kx es.toList hi A.ks with ⟨h1,Z⟩ | ⟨j,q,h1,O,h5⟩
 · have a:f kx=none:=by
    cases a:f kx with
    | none=>rfl
    | some u=>obtain ⟨ac,ad,h2,_⟩:=(A.iff kx u).1 a; exact absurd h2<|Z ac ad
   refine ⟨c,{w with heap:=w.heap.setIfInBounds b<|.map (es.push {key:=kx,val:=zv,born:=c})<|c+1},?_,⟨aa,aa,by simp,fun i _ G=>by simp only; rw [sK (fun e=>G e.symm)]⟩,es.push {key:=kx,val:=zv,born:=c},c+1,by simp only; rw [sL J],?_,?_,?_⟩
   · rw [a]
     simp [B5,c4 ab,run_getObj_map C,E.key.check _ w kx hi,h1,setObj,q9,C,uD ag,goInt]
   · rw [BW]; exact I.push
   · rw [BW,a]; exact A.push hi Z
   · exact ⟨_,by rw [BW]; exact uY _ (iS.2 aa),aa,aa⟩
 · have V:es[j]? =some q:=by simpa using O
   have Y:=fz O
   have a:f kx=some q.val:=(A.iff kx _).2 ⟨q,Y,h5,rfl⟩
   have ae:(es.modify j fun e=> {e with key:=kx})=es:=by
    apply Array.ext_getElem?
    intro i
    rw [Array.getElem?_modify]
    by_cases M:j=i
    · subst M; rw [if_pos rfl,V,← h5]; rfl
    · rw [if_neg M]
   refine ⟨q.born,{w with heap:=w.heap.setIfInBounds b<|.map (es.modify j fun e=> {e with key:=kx}) c},?_,⟨aa,aa,by simp,fun i _ G=>by simp only; rw [sK (fun e=>G e.symm)]⟩,es,c,by simp only; rw [sL J,ae],I,?_,q,Y,h5,aa⟩
   · have hs:=E.stays w kx hi
     rw [a]
     simp [B5,c4 ab,run_getObj_map C,E.key.check _ w kx hi,h1,V,h5,hs,setObj,q9,C,goInt]
   · rw [a]; show oz _ _ (bA f kx q.val); rw [Uj a]; exact A
theorem SV (c:P.underlying t=some (.map k e)) (C:zeroV P e=some zv) (a:k5 P k isK) (hm:kp w.heap b isK f) (q:ev N σ x= .map (some b)) (A:ev N σ y=kx) (hi:isK kx)
 (E:∀ (st:Nat) w',Md (fun j=>j=b) w w'→rB w'.heap b isK (bA f kx<|(f kx).getD zv) kx st→K (fi σ dst<|.tuple #[(f kx).getD zv,.int .i64 (st:Nat)]) w'):cJ P N ⟨dst,.mapEntry t x y,ty,pos,af,g⟩ σ w K:=by
 obtain ⟨st,w',h1,h2,h3⟩:=SX c C a hm hi
 refine lz (v:= .tuple #[(f kx).getD zv,.int .i64 (st:Nat)]) ?_<|E st w' h2 h3
 simp [execOp,q,A,h1]
theorem SZ {st:Nat} (hm:rB w.heap b isK f kx st):∃ w',(Jd t (.map<|some b) (.int .i64 (st:Nat)) v).run P w= .ok () w'∧Md (fun j=>j=b) w w'∧kp w'.heap b isK (bA f kx v):=by
 obtain ⟨es,c,A,q,O,C,E,ab,J⟩:=hm
 have V:=(bY.1 A).1
 obtain ⟨i,hi⟩:=rj E
 have G:es[i]? =some C:=by simpa using hi
 have Z:=(bY.1 G).1
 have Y:es.findIdx? (fun e=>(e.born:Int)==(st:Int))=some i:=by
  rw [Array.findIdx?_eq_some_iff_getElem]
  refine ⟨Z,?_,fun j I=> ?_⟩
  · rw [(bY.1 G).2,J]; simp
  · have a:(es.toList.map (·.born))[j]?≠(es.toList.map (·.born))[i]? :=fun h=>by
     have :=(Cw (by simp; omega) q.nd).1 h; omega
    rw [fH,fH,hi,bW (by simp; omega)] at a
    simp only [kj,Array.getElem_toList] at a
    simp only [beq_iff_eq]
    intro h
    exact a<|congrArg some<|by rw [J]; omega
 refine ⟨{w with heap:=w.heap.setIfInBounds b<|.map (es.modify i fun e=> {e with val:=v}) c},?_,⟨aa,aa,by simp,fun j _ a=>by simp only; rw [sK (fun e=>a e.symm)]⟩,es.modify i fun e=> {e with val:=v},c,by simp only; rw [sL V],⟨fun x M=> ?_,?_⟩,?_⟩
 · simp [Jd,run_getObj_map A,asInt,asIntOf,Y,setObj,q9,A]
 · rw [xX] at M
   rcases (sh hi x).1 M with rfl | ⟨j,_,I⟩
   · exact q.lt C E
   · exact q.lt x<|fz I
 · rw [xX,GM (fun e:MapEntry=> {e with val:=v}) (·.born) (fun _=>rfl)]; exact q.nd
 · rw [xX,← ab]; exact O.Va hi
theorem SY {st:Nat} (hm:rB w.heap b isK f kx st) (c:ev N σ x= .map (some b)) (q:ev N σ y= .int .i64 (st:Nat)) (A:ev N σ z=v)
 (C:∀ w',Md (fun j=>j=b) w w'→kp w'.heap b isK (bA f kx v)→K σ w'):cJ P N ⟨none,.entryStore t x y z,ty,pos,af,g⟩ σ w K:=by
 obtain ⟨w',h1,h2,h3⟩:=SZ (P:=P) (t:=t) (v:=v) hm
 have a:(execOp (ev N σ) ⟨none,.entryStore t x y z,ty,pos,af,g⟩).run P w= .ok .skip w':=by
  simp [execOp,c,q,A,h1]
 unfold cJ je
 rw [ga,a]
 exact ⟨σ,aa,C w' h2 h3⟩
end
def oA (h:Array Obj) (r b:Nat) (left :List (Value×Value)):Prop :=
 ∃ (es:Array MapEntry) (c:Nat) (seen:Array Nat) (a:Nat),h[r]? =some (.mapIter (some b) c seen a)∧c≤a∧h[b]? =some (.map es c)∧qn es.toList c∧(leftOf es seen).toList.map (fun e=>(e.key,e.val))=left
def ta (h:Array Obj) (r b:Nat) (left :List (Value×Value)) (a:Value×Value):Prop :=
 ∃ (es:Array MapEntry) (c:Nat) (seen:Array Nat) (e:MapEntry),h[r]? =some (.mapIter (some b) c (seen.push e.born) c)∧h[b]? =some (.map es c)∧qn es.toList c∧(leftOf es<|seen.push e.born).toList.map (fun e=>(e.key,e.val))=left∧e∈es.toList∧(e.key,e.val)=a
theorem ta.Tb {h:Array Obj} {r b:Nat} {left :List (Value×Value)} {a:Value×Value} (hm:ta h r b left a):oA h r b left :=let ⟨es,c,seen,e,h1,h2,h3,h4,_⟩:=hm; ⟨es,c,_,c,h1,cz _,h2,h3,h4⟩
theorem oA.md {F:Nat→Prop} {w w':World} {r b:Nat} {left :List (Value×Value)} (h:oA w.heap r b left) (hm:Md F w w') (A:¬F r) (q:¬F b):oA w'.heap r b left :=by
 obtain ⟨es,c,seen,a,h1,h2,h3,h4⟩:=h
 exact ⟨es,c,seen,a,by rw [hm.dH r (bY.1 h1).1 A]; exact h1,h2,by rw [hm.dH b (bY.1 h3).1 q]; exact h3,h4⟩
section
variable {P:Program} {N:Fm} {σ:Nat→Value} {w:World} {dst:Option Nat} {ty:TypeId} {pos :String} {af:Array Edge} {g:Option (Nat×Bool)} {x y z:Operand} {K:(Nat→Value)→World→Prop}
variable {t k e:TypeId} {isK:Value→Prop} {b:Nat} {f:Value→Option Value} {kx v zv:Value}
theorem UI (E:P.underlying t=some (.map k e)) (hm:kp w.heap b isK f) (G:ev N σ x= .map (some b))
 (I:∀ r w' left,r=w.heap.size→Nw w w'→oA w'.heap r b left→(∀ p∈left,isK p.1)→(left.map gk).Nodup→(∀ k v,f k=some v↔(k,v)∈left)→K (fi σ dst<|.pointer<|some ⟨r,0,none⟩) w'):
 cJ P N ⟨dst,.range t x,ty,pos,af,g⟩ σ w K:=by
 obtain ⟨es,c,q,A,a⟩:=hm
 have C:=(bY.1 q).1
 refine mF (v:=fun r=> .pointer<|some ⟨r,0,none⟩) (ob:= .mapIter (some b) c #[] c) ?_ (fun r w' h1 h2 h3=>I r w' (es.toList.map fun e=>(e.key,e.val)) h1 h2 ⟨es,c,#[],c,h3,cz _,by rw [h2.md.dH b C id]; exact q,A,by unfold leftOf; simp only [xV]; rw [yj.2 (fun x _=>by simp)]⟩ ?_ ?_ ?_)
 · simp [execOp,G,Instr.range,c4 E,run_getObj_map q]
 · intro p hp; obtain ⟨e,he,rfl⟩:=gQ.1 hp; exact a.ks e he
 · rw [JJ]; exact a.nd
 · intro k v
   rw [a.iff,gQ]
   exact ⟨fun ⟨e,he,h1,h2⟩=>⟨e,he,by rw [h1,h2]⟩,fun ⟨e,he,h1⟩=>⟨e,he,congrArg gk h1,congrArg Prod.snd h1⟩⟩
theorem Si {es:Array MapEntry} {seen:Array Nat} {e:MapEntry} (hn:(es.toList.map (·.born)).Nodup) (he:e∈(leftOf es seen).toList):(leftOf es seen).toList.Perm (e::(leftOf es<|seen.push e.born).toList):=by
 have h1:(leftOf es<|seen.push e.born).toList=(leftOf es seen).toList.filter fun x=>x.born !=e.born:=by
  unfold leftOf
  simp only [xV,List.filter_filter]
  congr 1
  funext x
  have A:(seen.push e.born).contains x.born=(seen.contains x.born || x.born==e.born):=by
   rw [p8]; simp [Array.mem_push]
  rw [A,Bool.not_or,Bool.and_comm]; rfl
 have c:((leftOf es seen).toList.map (·.born)).Nodup:=by
  unfold leftOf
  rw [xV]
  exact (List.filter_sublist.map _).nodup hn
 rw [h1]
 generalize (leftOf es seen).toList=l at he c
 clear h1
 induction l with
 | nil=>cases he
 | cons a l G=>
   rw [qj,ys] at c
   by_cases q:a=e
   · subst q
     have h2:(a::l).filter (fun x=>x.born !=a.born)=l:=by
      rw [qh,if_neg (by simp)]
      exact yj.2 fun x E=>by
       have :x.born≠a.born:=fun h=>c.1<|h ▸ rk E
       simpa using this
     rw [h2]
   · have FR:e∈l:=by
      rcases eB.1 he with h | h
      · exact absurd h.symm q
      · exact h
     have C:a.born≠e.born:=fun h=>c.1<|h ▸ rk FR
     rw [qh,if_pos (by simpa using C)]
     exact ((G FR c.2).cons a).trans<|List.Perm.swap e a _
theorem Tv {r:Nat} {left :List (Value×Value)} (hm:oA w.heap r b left) (M:ev N σ x= .pointer (some ⟨r,0,none⟩))
 (Z:left = []→K (fi σ dst<|.tuple #[.bool false]) w)
 (h1:∀ q O w',left.Perm (q::O)→Md (fun j=>j=r) w w'→ta w'.heap r b O q→K (fi σ dst<|.tuple #[.bool true,q.1,q.2]) w'):
 cJ P N ⟨dst,.next x false,ty,pos,af,g⟩ σ w K:=by
 obtain ⟨es,c,seen,Y,C,ab,a,A,rfl⟩:=hm
 rcases run_next_at (P:=P) w ty r b c Y seen es c C a A.lt ab with ⟨h2,G⟩ | ⟨e,he,V,I,G⟩
 · refine lz (v:= .tuple #[.bool false]) ?_<|Z<|by rw [Array.eq_empty_of_size_eq_zero h2]; rfl
   simp [execOp,M,G]
 · have E:V.heap=w.heap:=by rcases I with rfl | rfl <;> rfl
   have J:Md (fun j=>j=r) w (setBlock V r<|.mapIter (some b) c (seen.push e.born) c):=by
    refine ⟨?_,?_,?_,fun j _ ac=> ?_⟩
    · rcases I with rfl | rfl <;> rfl
    · rcases I with rfl | rfl <;> rfl
    · simp [setBlock,E]
    · simp only [setBlock,E]; rw [sK (fun e=>ac e.symm)]
   have ad:r≠b:=fun h=>by subst h; rw [C] at a; cases a
   refine lz (v:= .tuple #[.bool true,e.key,e.val]) ?_ (h1 (e.key,e.val) _ _ (by have :=(Si A.nd he).map (fun e=>(e.key,e.val)); exact this) J ⟨es,c,seen,e,?_,?_,A,aa,?_,aa⟩)
   · simp [execOp,M,G]
   · simp only [setBlock,E]; rw [sL (bY.1 C).1]
   · rw [J.dH b (bY.1 a).1 (fun h=>ad h.symm)]; exact a
   · unfold leftOf at he
     rw [xV] at he
     exact (List.mem_filter.1 he).1
def G1 (b:Bool) (a:Value×Value):Value:=match b with | true => .tuple #[.bool true,a.1,a.2] | false => .tuple #[.bool false]
theorem Tu {a:Bool} {q:Value×Value} (c:ev N σ x=G1 a q):(execOp (ev N σ) ⟨dst,.extract x 0,ty,pos,af,g⟩).run P w= .ok (.value<|.bool a) w:=by
 cases a
 · exact xt c aa
 · exact xt c aa
theorem Tt {r:Nat} {left :List (Value×Value)} (hm:oA w.heap r b left) (C:ev N σ x= .pointer (some ⟨r,0,none⟩))
 (h:∀ q a c w',(q=false→left = []∧w'=w)→(q=true→left.Perm (a::c)∧Md (fun j=>j=r) w w'∧ta w'.heap r b c a)→K (fi σ dst<|G1 q a) w'):
 cJ P N ⟨dst,.next x false,ty,pos,af,g⟩ σ w K:=
 Tv hm C (fun A=>h false (.nilFunc,.nilFunc) [] w (fun _=>⟨A,rfl⟩) fun h=>by cases h) (fun a c w' h1 h2 h3=>h true a c w' (fun h=>by cases h) fun _=>⟨h1,h2,h3⟩)
theorem dw {r:Nat} {left :List (Value×Value)} {a:Value×Value} (hm:ta w.heap r b left a) (q:ev N σ x= .pointer (some ⟨r,0,none⟩)):
 (execOp (ev N σ) ⟨dst,.entry x,ty,pos,af,g⟩).run P w= .ok (.value<|.tuple #[a.1,a.2]) w:=by
 obtain ⟨es,c,seen,e,h1,h2,h3,_,h5,rfl⟩:=hm
 have :=run_entry_at (P:=P) w r b c seen es c e h1 h2 h5 h3.nd
 simp [execOp,q,this]
end
end Go.Hb
end
namespace Go.Hb
def sF:Tx:= [83,70,88,32,65,32,89,32,49,10,83,70,88,32,65,32,48,32,115,10]
def xM:Tx:= [50,10,103,97,115,10,103,97,47,65,10]
def fO:aC:=⟨1,[],[],[0,0,0,0,0],3,[],[],[⟨65,2,true,0,1⟩],[⟨2,65,true,[],[115],[46],[],2⟩]⟩
def gY:List bj:= [([103,97,115],[]),([103,97],[65])]
theorem WN:eU sF= [(1,[[83,70,88],[65],[89],[49]]),(2,[[83,70,88],[65],[48],[115]])]:=by decide+kernel
theorem WO:eU xM= [(1,[[50]]),(2,[[103,97,115]]),(3,[[103,97,47,65]])]:=by decide+kernel
theorem WQ {s:Tx} {ln:Nat} (hw:bF s=(s,[],false,0)) (a:s≠[48]) (c:gX s=0):jn 1 [] ⟨65,2,true,0,1⟩ ln [[83,70,88],[65],[48],s]= .ok ⟨2,65,true,[],s,[46],[],ln⟩:=by
 unfold jn
 rw [if_neg (by simp)]
 simp only [mJ,JE]
 rw [show fW true [48]= .ok [] from if_pos ⟨rfl,rfl⟩,hw]
 simp only
 rw [show k6 (s,[],false,0)= .ok s from by unfold k6; rw [if_neg (by simp),if_neg a,if_neg (by simp [c])]]
 rfl
theorem WG:fR sF= .ok fO:=by
 unfold fR
 rw [if_neg aw,WN]
 simp only [bX,fZ]
 have q:ca ((dj sF).length+1) iH [] [(2,[[83,70,88],[65],[48],[115]])] 1 [[83,70,88],[65],[89],[49]]= .ok (fO,[]):=by
  unfold ca
  simp only [mJ]
  rw [if_neg aw,if_neg aw,if_neg aw,if_neg aw,if_neg aw,if_neg aw,if_neg aw]
  unfold gV
  simp only [mJ,JE]
  rw [WY]
  simp only
  rw [if_neg (by simp),G0 (b:=49) aw aw]
  simp only
  rw [if_neg aw]
  have c:∀ b,b=true→group [[83,70,88],[65]] (jn iH.kind iH.aliases ⟨65,if ([83,70,88]:Tx)=dA then 2 else 1,b,iH.rules.length,Kf 49 - 48⟩) ((dj sF).length+1) (Kf 49 - 48) [(2,[[83,70,88],[65],[48],[115]])]= .ok (fO.rules,[]):=by
   intro b a
   subst a
   show group [[83,70,88],[65]] (jn 1 [] ⟨65,2,true,0,1⟩) _ 1 _=_
   rw [group,if_neg aw,WQ (by decide+kernel) aw aw]
   rfl
  rw [c _ (by simp)]
  simp only [decide_true]
  rfl
 rw [gN]
 simp only [mJ]
 rw [if_neg aw,if_neg aw,if_neg aw,q]
 simp only
 rw [gN]
 rfl
theorem WK:fK fO xM= .ok gY:=by
 have c:fL fO [[103,97,47,65]]= .ok ([103,97],[65]):=by
  have hw:bF [103,97,47,65]=([103,97],[65],true,0):=by decide+kernel
  refine (EE (row:= [[103,97,47,65]]) (set := [65]) aa ?_ ?_ ?_ ?_ ?_ ?_ ?_).trans ?_
  all_goals try simp only [mJ,hw]
  · decide
  · decide
  · simp
  · show gd 1 [] [65]=_
    unfold gd; rw [if_pos rfl]; exact WZ
  · intro i hi
    have :i=0:=by simpa using hi
    subst this; decide
 have a:fL fO [[103,97,115]]= .ok ([103,97,115],[]):=by
  have hw:bF [103,97,115]=([103,97,115],[],false,0):=by decide+kernel
  unfold fL
  simp only [mJ,hw]
  rw [if_neg (by simp),if_neg (by simp),if_neg aw,if_neg aw,if_pos trivial]
 have hn:eD [50] 8192= .ok 2:=G0 aw aw
 rw [Ey aw WO rfl (show eD ([[50]].getD 0 []) 8192= .ok 2 from hn),eI,a]
 simp only
 rw [eI,c]
 simp only
 rw [eI]
 rfl
theorem WH:dp ⟨2,65,true,[],[115],[46],[],2⟩ [103,97]=some [103,97,115]:=by
 have a:dX [46]=([],0):=by unfold dX; rw [if_neg (by simp),if_pos rfl]
 unfold dp gA
 simp only [a]
 rw [if_pos (by simp only [if_true,fZ]; rfl)]
 rfl
def xN:List bu:= [⟨[103,97,115],0,-1,-1,-1⟩,⟨[103,97,115],1,0,-1,-1⟩]
theorem WI:gW fO gY 0= [⟨[103,97,115],0,-1,-1,-1⟩]:=by
 have h1:aK fO (flagsOf gY (0:Nat)) 1= []:=aw
 have h2:aK fO (flagsOf gY (0:Nat)) 2= []:=aw
 unfold gW eR
 rw [h1,h2]
 simp only [Ct,ep,List.filterMap_nil]
 unfold kt
 rw [if_pos aw]
 rfl
theorem WJ:gW fO gY 1= [⟨[103,97],1,-1,-1,-1⟩,⟨[103,97,115],1,0,-1,-1⟩]:=by
 have h1:aK fO (flagsOf gY (1:Nat)) 1= []:=aw
 have h2:aK fO (flagsOf gY (1:Nat)) 2= [0]:=aw
 have h3:aK fO (bH fO (0:Nat)) 2= []:=aw
 have a:∀ w f s,eR fO gY 1 w f s=kt fO gY 1 w f s:=fun w f s=>by unfold eR; rw [h1]; simp
 unfold gW
 rw [h2,a]
 simp only [jr,Ct,ep]
 unfold gB
 rw [show dp (fO.rules.getD 0 dd) (gY.getD 1 ([],[])).1=some [103,97,115] from WH]
 simp only [h3,Ct,ep,a]
 unfold kt
 rw [if_pos aw,if_pos aw]
 rfl
end Go.Hb
section
namespace Go.Hb.et
open Go.Proofs
def nn (l:List (Tx×Tx)):List Value:=l.flatMap fun p=> [str p.1,str p.2]
def mW (c:dP):List Value:= [aX c.flag,.int .i64 (c.kind:Nat),.bool c.gp,.int .i64 (c.first:Nat),.int .i64 (c.count:Nat)]
def mm (l:List dP):List Value:=l.flatMap mW
def dC (q:cK×Value):List Value:= [.int .i64 (q.1.kind:Nat),aX q.1.flag,.bool q.1.gp,str q.1.strip,str q.1.add,str q.1.cond,q.2]
def fX (l:List (cK×Value)):List Value:=l.flatMap dC
structure cy where
 rb:Nat
 fb:Nat
 ms:Nat
 mt:Nat
 mc:Nat
 eof:Nat
structure eh where
 v9:Value
 v10:Value
 v11:Value
 v12:Value
 sa:List Value
 rn:List Value
structure gl where
 vr:Value
 vs:List (Nat×Value)
 vn:Value
def nR (F:aC) (V:eh) (mc:Nat):List Value:= [.int .i64 (F.kind:Nat),str F.tx,str F.tr,aX (F.sp.getD 0 0),aX (F.sp.getD 1 0),aX (F.sp.getD 2 0),aX (F.sp.getD 3 0),aX (F.sp.getD 4 0),.int .i64 (F.least:Nat),V.v9,V.v10,V.v11,V.v12,.map (some mc)]
def uo (H:cy) (R:gl) (ln:Nat):List Value:= [.pointer (some ⟨H.fb,0,none⟩),R.vr,.int .i64 (ln:Nat),.int .i64 (H.eof:Nat),.map (some H.ms),.map (some H.mt),R.vn]
structure c8 (w:World) (B fb mc:Nat) (F:aC) (V:eh):Prop where
 cells:w.heap[fb]? =some (.cells (nR F V mc).toArray 164 (0,0))
 o9:bq w B 189 2 V.v9 F.du.length (nn F.du)
 gM:bq w B 51 1 V.v10 F.aliases.length V.sa
 al:dE w B 95 V.sa F.aliases
 gh:bq w B 192 5 V.v11 F.bC.length (mm F.bC)
 eo:bq w B 134 7 V.v12 F.rules.length (fX<|F.rules.zip V.rn)
 nx:dE w B 95 V.rn (F.rules.map (·.next))
 cm:∃ f,bS w.heap mc (jQ .u16) f∧∀ x:Nat,f (aX x)=(F.bC.findIdx? fun c=>decide (c.flag=x)).map fun i:Nat=>Value.int .i64 i
 lo:B≤fb∧B≤mc
 jU:F.sp.length=5
theorem c8.md {G:Nat→Prop} {w w':World} {B fb mc:Nat} {F:aC} {V:eh} (h:c8 w B fb mc F V) (hm:Md G w w') {L:List Nat} (a:TF w L G) (c:(L.contains 166 || L.contains 191 || L.contains 53 || L.contains 97 || L.contains 194 || L.contains 136)=false) (I:¬G mc):c8 w' B fb mc F V:=by
 simp only [o4] at c
 obtain ⟨⟨⟨⟨⟨h1,h2⟩,h3⟩,h4⟩,h5⟩,h6⟩:=c
 have q:∀ k,G k→∀ cur z,w.heap[k]?≠some (.cells cur 95 z):=fun k hk cur z E=>a.no (dD E) h4 hk
 obtain ⟨f,A,C⟩:=h.cm
 exact ⟨hm.gT a h.cells h1,cX h.o9 hm a h2,cX h.gM hm a h3,h.al.md hm q,cX h.gh hm a h5,cX h.eo hm a h6,h.nx.md hm q,⟨f,A.md hm I,C⟩,h.lo,h.jU⟩
theorem c8.wk {w w':World} {B fb mc:Nat} {F:aC} {V:eh} (h:c8 w B fb mc F V) (hm:Wk w w'):c8 w' B fb mc F V:=h.md (L:= []) hm (fun _ hk=>hk.elim) rfl id
structure cD (w:World) (B:Nat) (H:cy) (F:aC) (R:gl) (rows:List Rw) (ln:Nat) (seen:List Tx):Prop where
 cells:w.heap[H.rb]? =some (.cells (uo H R ln).toArray 167 (0,0))
 rws:lF w B 181 rows.length R.vr (l1 R.vs)
 rt:hU w B 9 R.vs rows
 sm:∃ f,bS w.heap H.ms ik f∧∀ s:Tx,(f<|str s).getD (.int .i64 0)= .int .i64 (seen.count s:Nat)
 tm:∃ f,bS w.heap H.mt (jQ .u16) f∧∀ x:Nat,x≠0→(f<|aX x).getD (.int .i64 0)= .int .i64 ((if eu F x=true then 1 else 0:Nat):Nat)
 on :bq w B 3 1 R.vn F.rules.length (F.rules.map fun r=>Value.int .i64 (r.line:Nat))
 lo:B≤H.rb∧B≤H.ms∧B≤H.mt
 ne:H.ms≠H.mt∧H.ms≠H.mc∧H.mt≠H.mc
theorem cD.md {G:Nat→Prop} {w w':World} {B:Nat} {H:cy} {F:aC} {R:gl} {rows:List Rw} {ln:Nat} {seen:List Tx} (h:cD w B H F R rows ln seen) (hm:Md G w w') {L:List Nat} (a:TF w L G) (q:(L.contains 169 || L.contains 183 || L.contains 11 || L.contains 5)=false) (J:¬G H.ms) (M:¬G H.mt):cD w' B H F R rows ln seen:=by
 simp only [o4] at q
 obtain ⟨⟨⟨h1,h2⟩,h3⟩,h4⟩:=q
 obtain ⟨f,A,C⟩:=h.sm
 obtain ⟨g,E,I⟩:=h.tm
 exact ⟨hm.gT a h.cells h1,h.rws.md hm (fun k hk cur z c=>a.no (dD c) h2 hk),h.rt.md hm (fun k hk cur z c=>a.no (dD c) h3 hk),⟨f,A.md hm J,C⟩,⟨g,E.md hm M,I⟩,cX h.on hm a h4,h.lo,h.ne⟩
theorem cD.wk {w w':World} {B:Nat} {H:cy} {F:aC} {R:gl} {rows:List Rw} {ln:Nat} {seen:List Tx} (h:cD w B H F R rows ln seen) (hm:Wk w w'):cD w' B H F R rows ln seen:=h.md (L:= []) hm (fun _ hk=>hk.elim) rfl id id
theorem cD.ei {w:World} {B:Nat} {H:cy} {F:aC} {R:gl} {rows:List Rw} {ln:Nat} {seen:List Tx} (h:cD w B H F R rows ln seen):Hb.aM w.heap H.rb 2=some (.int .i64 (ln:Nat)):=(a7 h.cells).trans rfl
structure j0 (F:aC) (rows:List Rw) (seen:List Tx):Prop where
 len:F.du.length+F.aliases.length+F.bC.length+F.rules.length+rows.length≤70000
 sl:seen.length+rows.length≤70000
 row:∀ q∈rows,q.2≠[]∧q.2.length≤70000∧∀ x∈q.2,x.length≤70000
 kd:F.kind=1∨F.kind=2∨F.kind=3
 al:∀ l∈F.aliases,l.length≤64∧l.Pairwise (· < ·)
def St (w:World) (B:Nat) (H:cy) (F:aC) (rows:List Rw) (ln:Nat) (seen:List Tx):Prop := ∃ V R,c8 w B H.fb H.mc F V∧cD w B H F R rows ln seen∧j0 F rows seen
abbrev eF (B:Nat) (H:cy) (w w':World):Prop :=Mw [169,166,191,53,194,136,5] H.ms H.mt H.mc B w w'
theorem cD.cY {w w':World} {B:Nat} {H:cy} {F:aC} {R R':gl} {rows rows':List Rw} {ln ln':Nat} {seen:List Tx} (h:cD w B H F R rows ln seen) (hm:Md (fun k=>k=H.rb) w w') (C:w'.heap[H.rb]? =some (.cells (uo H R' ln').toArray 167 (0,0))) (M:R'.vn=R.vn) (I:lF w B 181 rows'.length R'.vr (l1 R'.vs)) (J:hU w B 9 R'.vs rows'):cD w' B H F R' rows' ln' seen:=by
 obtain ⟨f,q,E⟩:=h.sm
 obtain ⟨g,A,G⟩:=h.tm
 have a:TF w [169] (fun k=>k=H.rb):=TF.eq (dD h.cells) aw
 exact ⟨C,I.md hm (fun k hk cur z c=>a.no (dD c) aw hk),J.md hm (fun k hk cur z c=>a.no (dD c) aw hk),⟨f,q.md hm (a.no (dK q) aw),E⟩,⟨g,A.md hm (a.no (dK A) aw),G⟩,M ▸ cX h.on hm a aw,h.lo,h.ne⟩
theorem hU.tl {w:World} {B e:Nat} {q:Nat×Value} {r:Rw} {vs:List (Nat×Value)} {rs:List Rw} (h:hU w B e (q::vs) (r::rs)):hU w B e vs rs:=⟨by have :=h.1; simpa using this,fun i a c h1 h2=>h.2 (i+1) a c h1 h2⟩
theorem c8.put {w w':World} {B fb mc:Nat} {F F':aC} {V:eh} (h:c8 w B fb mc F V) (hm:Md (fun k=>k=fb) w w') (A:w'.heap[fb]? =some (.cells (nR F' V mc).toArray 164 (0,0))) (h1:F'.du=F.du) (h2:F'.aliases=F.aliases) (h3:F'.bC=F.bC) (h4:F'.rules=F.rules) (h5:F'.sp.length=5):c8 w' B fb mc F' V:=by
 have a:TF w [166] (fun k=>k=fb):=TF.eq (dD h.cells) aw
 have q:∀ k,k=fb→∀ cur z,w.heap[k]?≠some (.cells cur 95 z):=ic h.cells aw
 obtain ⟨f,c,C⟩:=h.cm
 exact ⟨A,h1 ▸ cX h.o9 hm a aw,h2 ▸ cX h.gM hm a aw,h2 ▸ h.al.md hm q,h3 ▸ cX h.gh hm a aw,h4 ▸ cX h.eo hm a aw,h4 ▸ h.nx.md hm q,⟨f,c.md hm (a.no (dK c) aw),h3 ▸ C⟩,h.lo,h5⟩
theorem cD.fb {w w':World} {B:Nat} {H:cy} {F c:aC} {V:eh} {R:gl} {rows:List Rw} {ln:Nat} {seen:List Tx} (h:cD w B H F R rows ln seen) (q:c8 w B H.fb H.mc c V) (hm:Md (fun k=>k=H.fb) w w'):cD w' B H F R rows ln seen:=by
 have a:TF w [166] (fun k=>k=H.fb):=TF.eq (dD q.cells) aw
 obtain ⟨f,A,E⟩:=h.sm
 obtain ⟨g,C,G⟩:=h.tm
 exact h.md hm a aw (a.no (dK A) aw)<|a.no (dK C) aw
theorem c8.rb {w w':World} {B:Nat} {H:cy} {F a:aC} {V:eh} {R:gl} {rows:List Rw} {ln:Nat} {seen:List Tx} (h:c8 w B H.fb H.mc a V) (q:cD w B H F R rows ln seen) (hm:Md (fun k=>k=H.rb) w w'):c8 w' B H.fb H.mc a V:=by
 have c:TF w [169] (fun k=>k=H.rb):=TF.eq (dD q.cells) aw
 obtain ⟨f,A,C⟩:=h.cm
 exact h.md hm c aw<|c.no (dK A) aw
theorem cD.congr {w:World} {B:Nat} {H:cy} {F F':aC} {R:gl} {rows:List Rw} {ln:Nat} {seen:List Tx} (h:cD w B H F R rows ln seen) (q:F'.rules=F.rules) (hd:∀ x,eu F' x=eu F x):cD w B H F' R rows ln seen:=by
 obtain ⟨g,a,c⟩:=h.tm
 exact ⟨h.cells,h.rws,h.rt,h.sm,⟨g,a,fun x A=>by rw [hd]; exact c x A⟩,q ▸ h.on,h.lo,h.ne⟩
theorem cD.uh {w w':World} {B:Nat} {H:cy} {F F':aC} {R:gl} {rows:List Rw} {ln:Nat} {seen:List Tx} {f:Value→Option Value} (h:cD w B H F R rows ln seen) (hm:Md (fun k=>k=H.mt) w w') (q:bS w'.heap H.mt (jQ .u16) f) (G:F'.rules=F.rules) (hd:∀ x:Nat,x≠0→(f<|aX x).getD (.int .i64 0)= .int .i64 ((if eu F' x=true then 1 else 0:Nat):Nat)):cD w' B H F' R rows ln seen:=by
 obtain ⟨g,E,_⟩:=h.tm
 obtain ⟨f0,A,C⟩:=h.sm
 have a:TF w [1] (fun k=>k=H.mt):=TF.eq (dK E) aw
 exact ⟨hm.gT a h.cells aw,h.rws.md hm (fun k hk cur z c=>a.no (dD c) aw hk),h.rt.md hm (fun k hk cur z c=>a.no (dD c) aw hk),⟨f0,A.md hm h.ne.1,C⟩,⟨f,q,hd⟩,G ▸ cX h.on hm a aw,h.lo,h.ne⟩
theorem c8.uh {w w':World} {B:Nat} {H:cy} {F a:aC} {V:eh} {R:gl} {rows:List Rw} {ln:Nat} {seen:List Tx} (h:c8 w B H.fb H.mc a V) (c:cD w B H F R rows ln seen) (hm:Md (fun k=>k=H.mt) w w'):c8 w' B H.fb H.mc a V:=by
 obtain ⟨g,q,_⟩:=c.tm
 exact h.md (L:= [1]) hm (TF.eq (dK q) aw) aw fun h=>c.ne.2.2 h.symm
theorem eF.fb {w w':World} {B:Nat} {H:cy} {c:aC} {V:eh} (a:c8 w B H.fb H.mc c V) (hm:Md (fun k=>k=H.fb) w w'):eF B H w w':=Mw.of hm (TF.eq (dD a.cells) aw) fun k hk=>hk ▸ a.lo.1
theorem eF.rb {w w':World} {B:Nat} {H:cy} {F:aC} {R:gl} {rows:List Rw} {ln:Nat} {seen:List Tx} (a:cD w B H F R rows ln seen) (hm:Md (fun k=>k=H.rb) w w'):eF B H w w':=Mw.of hm (TF.eq (dD a.cells) aw) fun k hk=>hk ▸ a.lo.1
theorem eF.mt {w w':World} {B:Nat} {H:cy} {F:aC} {R:gl} {rows:List Rw} {ln:Nat} {seen:List Tx} (a:cD w B H F R rows ln seen) (hm:Md (fun k=>k=H.mt) w w'):eF B H w w':=hm.mono fun k _ hk=>⟨hk ▸ a.lo.2.2,.inr<|.inl hk⟩
def iG (B:Nat) (H:cy) (seen:List Tx) (X:Except (Nat×Nat) (aC×List Rw)) (w:World) (v:Value) (w':World):Prop :=v= .tuple #[]∧∃ F' rows' ln',X= .ok (F',rows')∧St w' B H F' rows' ln' seen∧eF B H w w'
def iF (B:Nat) (H:cy) (X:Except (Nat×Nat) (aC×List Rw)) (w:World) (c:List PanicEntry) (w':World):Prop := ∃ l e,X= .error (l,e)∧c=ij 45 l (e:Nat)∧eF B H w w'
def jK (F:aC) (seen:List Tx):Prop := ∀ k∈gi,k∉seen→F.sp.getD (gi.idxOf k) 0=0
theorem OP {F:aC} {i x:Nat} (hi:i < F.sp.length) (a:F.sp.getD i 0=0) (y:Nat) (A:y≠0):eu {F with sp:=F.sp.set i x} y=(decide (y=x) || eu F y):=by
 unfold eu
 show (decide (y∈F.sp.set i x) || _)=_
 rw [← Bool.or_assoc]
 congr 1
 rw [← Bool.decide_or,decide_eq_decide]
 constructor
 · intro h
   rcases Cy h with h | h
   · exact .inr h
   · exact .inl h
 · rintro (h | h)
   · subst h; exact List.mem_set hi _
   · obtain ⟨j,q⟩:=rj h
     by_cases c:i=j
     · subst c
       rw [cR,q] at a
       exact absurd a A
     · exact fz (i:=j)<|by rw [kh,if_neg c]; exact q
theorem Tg.ui {w:World} {B e A n cp b:Nat} {a:Option Addr} {xs:List Value} {cs:Array Value} {z:Nat×Nat} (h:Tg w B e n (.slice a n cp) xs) (J:xs≠[]) (c:w.heap[b]? =some (.cells cs A z)) (G:e≠A):¬(bk a=b):=by
 obtain ⟨M,O,I,_,E⟩:=h
 cases I
 rcases E with rfl | ⟨q,cur,z2,rfl,_,C,_⟩
 · exact absurd aa J
 · rintro rfl
   rw [show (bk<|some ⟨q,0,none⟩)=q from rfl] at c
   rw [C] at c
   simp only [fJ,uK] at c
   exact G c.2.1
theorem Qe {F:aC} {V:eh} {mc i o x:Nat} (h5:F.sp.length=5) (hi:i < 5) (q:o=3 +i):(nR F V mc).set o (aX x)=nR {F with sp:=F.sp.set i x} V mc:=by
 subst q
 obtain ⟨k,cs,tr,sp,le,A,al,cl,ru⟩:=F
 match sp,h5 with
 | [a,b,c,d,e],_=>
   match i,hi with
   | 0,_=>rfl
   | 1,_=>rfl
   | 2,_=>rfl
   | 3,_=>rfl
   | 4,_=>rfl
theorem Eu (b:Bool):decide (((if b=true then 1 else 0:Nat):Int)=0)= !b:=by cases b <;> rfl
theorem Ie {x y:Nat} (h:aX x=aX y):x=y:=by unfold aX at h; injection h with _ h; omega
theorem H4 {F F':aC} {f:Value→Option Value} {x:Nat} (hd:eu F x=false) (q:∀ y:Nat,y≠0→(f<|aX y).getD (.int .i64 0)= .int .i64 ((if eu F y=true then 1 else 0:Nat):Nat)) (c:∀ y,y≠0→eu F' y=(decide (y=x) || eu F y)) (y:Nat) (a:y≠0):(bA f (aX x) (.int .i64 (1:Nat))<|aX y).getD (.int .i64 0)= .int .i64 ((if eu F' y=true then 1 else 0:Nat):Nat):=by
 rw [c y a]
 by_cases h:y=x
 · subst h; rw [mA]; simp
 · rw [kU (fun h2=>h<|Ie h2),q y a]; simp [h]
theorem jb {G:Nat→Prop} {w w':World} (h:Md G w.drew w'):Md G w w':=⟨h.os,h.output,h.size,h.dH⟩
theorem dE.get {w:World} {B e i:Nat} {vs:List Value} {a:List (List Nat)} (h:dE w B e vs a) (hi:i < a.length):∃ v,vs[i]? =some v∧Tg w B e (a.getD i []).length v ((a.getD i []).map aX):=by
 have h1:i < vs.length:=by rw [h.1]; exact hi
 refine ⟨vs[i],bW h1,h.2 i _ _ (bW h1) ?_⟩
 rw [cR,bW hi]; rfl
theorem Tg.sj {w:World} {B e n cp:Nat} {a:Option Addr} {xs:List Value} (h:Tg w B e n (.slice a n cp) xs) (A:xs.length=n) (c:a=none):n=0:=by
 obtain ⟨E,I,C,_,q⟩:=h
 cases C
 rcases q with rfl | ⟨G,cur,z2,h2,_⟩
 · exact A.symm
 · rw [c] at h2; cases h2
theorem Tg.GG {G:Nat→Prop} {w w':World} {B e n:Nat} {v:Value} {xs:List Value} (h:Tg w B e n v xs) (hm:Md G w w') (A:∀ k,G k→k < B):Tg w' B e n v xs:=by
 obtain ⟨a,cp,rfl,c,h | ⟨b,cur,z,rfl,C,q,E⟩⟩:=h
 · exact ⟨a,cp,aa,c,.inl h⟩
 · exact ⟨_,cp,aa,c,.inr ⟨b,cur,z,aa,C,by rw [hm.dH b (bY.1 q).1 (fun hk=>by have :=A b hk; omega)]; exact q,E⟩⟩
end Go.Hb.et
end
