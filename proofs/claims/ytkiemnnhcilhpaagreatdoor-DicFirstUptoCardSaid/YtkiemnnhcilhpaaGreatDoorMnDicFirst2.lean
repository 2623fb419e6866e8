/-
  Walks and plain laws that the law rests on, laid together. No conditions but those that each theorem names.
-/
import Derived.Test.YtkiemnnhcilhpaaGreatDoorMnDicFirst1
set_option linter.unusedVariables false
section
set_option linter.unusedSimpArgs false
namespace Go.Hb
open Go.RowKit
open Classical
structure ir (P:Program) (k:TypeId) (isK:Value→Prop):Prop where
 key:mS P k isK
 stays:∀ w v,isK v→(Instr.keyThatStays v v).run P w= .ok v w
def ew (v:Value):Prop := ∃ s:List UInt8,v=str s
def jv (q:IntKind) (v:Value):Prop := ∃ a:Int,v= .int q a
theorem s5 {d:TypeDesc} {isK:Value→Prop} (hs:∀ x y,isK x→isK y→∃ a,Instr.sameNow d x y=some a∧(a=true↔x=y)) {x:Value} (p:isK x):∀ (es:List MapEntry) (i:Nat),(∀ e∈es,isK e.key)→
 (Instr.findNow d x es i=some none∧∀ e∈es,e.key≠x)∨∃ j e,Instr.findNow d x es i=some (some (i+j,e.val))∧es[j]? =some e∧e.key=x
 | [],i,_=> .inl ⟨rfl,fun _ h=>by simp at h⟩
 | e::es,i,h=>by
   obtain ⟨a,h1,h2⟩:=hs x e.key p (h e (by simp))
   cases a with
   | true =>exact .inr ⟨0,e,by simp [Instr.findNow,h1],rfl,(h2.1 rfl).symm⟩
   | false =>
     have hne:e.key≠x:=fun hh=>by cases h2.2 hh.symm
     rcases s5 hs p es (i+1) (fun e he=>h e (by simp [he])) with ⟨h3,h4⟩ | ⟨j,e',h3,h4,h5⟩
     · refine .inl ⟨by simp [Instr.findNow,h1,h3],fun e' c=> ?_⟩
       rcases List.mem_cons.1 c with rfl | c
       · exact hne
       · exact h4 e' c
     · refine .inr ⟨j+1,e',?_,h4,h5⟩
       simp only [Instr.findNow,h1,h3]; rw [show i+1 +j=i+(j+1) from by omega]
theorem ub {P:Program} {k:TypeId} {d:TypeDesc} {isK:Value→Prop} (hk:P.underlying k=some d) (hs:∀ x y,isK x→isK y→∃ a,Instr.sameNow d x y=some a∧(a=true↔x=y)) (hc:∀ em w v,isK v→(Instr.checkKey em 10000 k v).run P w= .ok () w):mS P k isK where
 check:=hc
 find w x es hx hes:=by
  rcases s5 hs hx es 0 hes with ⟨h1,h2⟩ | ⟨j,e,h1,h2,h3⟩
  · exact .inl ⟨by simp [Instr.findKey,bV hk,h1],h2⟩
  · exact .inr ⟨j,e,by simp [Instr.findKey,bV hk,h1],h2,h3⟩
theorem rq (a b:ByteArray):(a==b)=decide (a=b):=by
 rw [Bool.eq_iff_iff,decide_eq_true_iff]
 show ((a.data==b.data)=true)↔_
 rw [beq_iff_eq]
 exact ⟨fun h=>by cases a; cases b; cases h; rfl,fun h=>by rw [h]⟩
theorem C0 {P:Program} {k:TypeId} (hk:P.underlying k=some .string):ir P k ew where
 key:=ub hk (by
  rintro _ _ ⟨a,rfl⟩ ⟨b,rfl⟩
  refine ⟨_,rfl,?_⟩
  rw [rq,decide_eq_true_iff]
  constructor
  · intro h; unfold str; rw [h]
  · intro h; unfold str at h; cases h; rfl) (by rintro em w _ ⟨a,rfl⟩; exact y6 (n:=9999) hk w)
 stays w v hv:=by obtain ⟨a,rfl⟩:=hv; simp [Instr.keyThatStays,Instr.sameBits,str,rq]
theorem y5 {P:Program} {k:TypeId} {q r:IntKind} {em:Bool} {n:Nat} {a:Int} (hk:P.underlying k=some (.int q)) (w:World):(Instr.checkKey em (n+1) k (.int r a)).run P w= .ok () w:=by
 simp only [Instr.checkKey,Sem.run_bind,bV hk,Result.andThen_ok,Sem.run_pure]
theorem CZ {P:Program} {k:TypeId} {q r:IntKind} (hk:P.underlying k=some (.int q)):ir P k (jv r) where
 key:=ub hk (by
  rintro _ _ ⟨a,rfl⟩ ⟨b,rfl⟩
  refine ⟨decide (a=b),by simp [Instr.sameNow]; rfl,?_⟩
  rw [decide_eq_true_iff]
  exact ⟨fun h=>by rw [h],fun h=>by cases h; rfl⟩) (by rintro em w _ ⟨a,rfl⟩; exact y5 (n:=9999) hk w)
 stays w v hv:=by obtain ⟨a,rfl⟩:=hv; simp [Instr.keyThatStays,Instr.sameBits]
def bf (h:Array Obj) (b:Nat) (isK:Value→Prop) (f:Value→Option Value):Prop :=
 ∃ kvs,kf h b kvs∧(∀ p∈kvs,isK p.1)∧(kvs.map Prod.fst).Nodup∧∀ k v,f k=some v↔(k,v)∈kvs
theorem bf.md {F:Nat→Prop} {w w':World} {b:Nat} {isK:Value→Prop} {f:Value→Option Value} (h:bf w.heap b isK f) (hm:Md F w w') (hf:¬F b):bf w'.heap b isK f:=
 let ⟨kvs,h1,h2⟩:=h; ⟨kvs,h1.md hm hf,h2⟩
theorem bf.wk {w w':World} {b:Nat} {isK:Value→Prop} {f:Value→Option Value} (h:bf w.heap b isK f) (hm:Wk w w'):bf w'.heap b isK f:=h.md hm id
theorem bf.nil {h:Array Obj} {b:Nat} {isK:Value→Prop} {c:Nat} (hm:h[b]? =some (.map #[] c)):bf h b isK fun _=>none:=
 ⟨[],⟨_,_,hm,rfl⟩,fun p hp=>(by simp at hp),(by simp),fun k v=>(by simp)⟩
theorem bf.isMap {h:Array Obj} {b:Nat} {isK:Value→Prop} {f:Value→Option Value} (hm:bf h b isK f):∃ es c,h[b]? =some (.map es c):=let ⟨_,⟨es,c,h1,_⟩,_⟩:=hm; ⟨es,c,h1⟩
theorem bf.jy {h:Array Obj} {b:Nat} {isK:Value→Prop} {f:Value→Option Value} (hm:bf h b isK f) {cur:Array Value} {e:TypeId} {z:Nat×Nat} :h[b]?≠some (.cells cur e z):=by
 obtain ⟨es,c,h1⟩:=hm.isMap; rw [h1]; intro h; cases h
noncomputable def aW (f:Value→Option Value) (k v:Value):Value→Option Value:=fun q=>if q=k then some v else f q
theorem mx (f:Value→Option Value) (k v:Value):aW f k v k=some v:=if_pos rfl
theorem lB {f:Value→Option Value} {k v q:Value} (h:q≠k):aW f k v q=f q:=if_neg h
section
variable {P:Program} {N:Fm} {σ:Nat→Value} {w:World} {dst:Option Nat} {ty:TypeId} {pos :String} {af:Array Edge} {g:Option (Nat×Bool)} {x y z:Operand} {K:(Nat→Value)→World→Prop}
variable {t k e:TypeId} {isK:Value→Prop} {b:Nat} {f:Value→Option Value} {kx v zv:Value}
theorem uq {ok:Bool} (c:P.underlying t=some (.map k e)) (hz:zeroV P e=some zv) (a:ir P k isK) (hm:bf w.heap b isK f) (i:ev N σ x= .map (some b)) (hy:ev N σ y=kx) (hi:isK kx):
 (execOp (ev N σ) ⟨dst,.lookup t x y ok,ty,pos,af,g⟩).run P w= .ok (.value (if ok then .tuple #[(f kx).getD zv,.bool (f kx).isSome] else (f kx).getD zv)) w:=by
 obtain ⟨kvs,h1,h2,h3,h4⟩:=hm
 cases hf:f kx with
 | none=>exact Dk c hz a.key h1 h2 i hy hi (fun v hv=>by rw [← h4] at hv; rw [hf] at hv; cases hv)
 | some v=>exact Dj c a.key h1 h2 i hy hi h3 ((h4 kx v).1 hf)
theorem iT (c:P.underlying t=some (.map k e)) (hz:zeroV P e=some zv) (a:ir P k isK) (hm:bf w.heap b isK f) (i:ev N σ x= .map (some b)) (hy:ev N σ y=kx) (hi:isK kx) (hv:(f kx).getD zv=v):
 (execOp (ev N σ) ⟨dst,.lookup t x y false,ty,pos,af,g⟩).run P w= .ok (.value v) w:=by
 rw [uq c hz a hm i hy hi,hv]; rfl
theorem ur {ob:Bool} (i:P.underlying t=some (.map k e)) (hz:zeroV P e=some zv) (a:ir P k isK) (hm:bf w.heap b isK f) (j:ev N σ x= .map (some b)) (hy:ev N σ y=kx) (hi:isK kx) (hv:(f kx).getD zv=v) (c:(f kx).isSome=ob):
 (execOp (ev N σ) ⟨dst,.lookup t x y true,ty,pos,af,g⟩).run P w= .ok (.value (.tuple #[v,.bool ob])) w:=by
 rw [uq i hz a hm j hy hi,hv,c]; rfl
theorem vY (U:P.underlying t=some (.map k e)) (G:ir P k isK) (hm:bf w.heap b isK f) (hi:isK kx):
 ∃ w',(Instr.mapUpdate t (.map (some b)) kx v).run P w= .ok () w'∧Md (fun j=>j=b) w w'∧bf w'.heap b isK (aW f kx v):=by
 obtain ⟨kvs,⟨es,c,hr,he⟩,h2,h3,h4⟩:=hm
 have hb:=(Array.getElem?_eq_some_iff.1 hr).1
 rcases G.key.find w kx es.toList hi (pw he h2) with ⟨h1,ad⟩ | ⟨j,e',h1,C,h5⟩
 · have O:∀ u,(kx,u)∉kvs:=fun u hu=>by
    rw [← he] at hu
    obtain ⟨V,aa,Y⟩:=List.mem_map.1 hu
    cases Y
    exact ad V aa rfl
   refine ⟨{w with heap:=w.heap.setIfInBounds b (.map (es.push {key:=kx,val:=v,born:=c}) (c+1))},by simp [Instr.mapUpdate,bV U,run_getObj_map hr,G.key.check _ w kx hi,h1,setObj,Sem.run,hr],⟨rfl,rfl,by simp,fun i _ hne=>by simp only; rw [Array.getElem?_setIfInBounds_ne (fun e=>hne e.symm)]⟩,kvs++ [(kx,v)],⟨_,_,by simp only; rw [Array.getElem?_setIfInBounds_self_of_lt hb],by simp [he]⟩,?_,?_,?_⟩
   · intro p hp
     rcases List.mem_append.1 hp with hp | hp
     · exact h2 p hp
     · rw [List.mem_singleton.1 hp]; exact hi
   · rw [List.map_append,List.nodup_append]
     refine ⟨h3,by simp,?_⟩
     intro a ha ag J Z
     simp at J
     subst Z J
     obtain ⟨p,hp,ae⟩:=List.mem_map.1 ha
     exact O p.2 (by rw [← ae]; exact hp)
   · intro q u
     unfold aW
     rw [List.mem_append,List.mem_singleton]
     by_cases A:q=kx
     · subst A
       rw [if_pos rfl]
       constructor
       · intro h; cases h; exact .inr rfl
       · rintro (h | h)
         · exact absurd h (O u)
         · cases h; rfl
     · rw [if_neg A,h4]
       constructor
       · exact .inl
       · rintro (h | h)
         · exact h
         · cases h; exact absurd rfl A
 · have hjl:j < es.size:=by have :=(List.getElem?_eq_some_iff.1 C).1; simpa using this
   have M:es[j]? =some e':=by simpa using C
   refine ⟨{w with heap:=w.heap.setIfInBounds b (.map (es.modify j fun e=> {e with key:=kx,val:=v}) c)},?_,⟨rfl,rfl,by simp,fun i _ hne=>by simp only; rw [Array.getElem?_setIfInBounds_ne (fun e=>hne e.symm)]⟩,kvs.set j (kx,v),⟨_,_,by simp only; rw [Array.getElem?_setIfInBounds_self_of_lt hb],?_⟩,?_,?_,?_⟩
   · have hs:=G.stays w kx hi
     simp [Instr.mapUpdate,bV U,run_getObj_map hr,G.key.check _ w kx hi,h1,M,h5,hs,setObj,Sem.run,hr]
   · rw [← he]
     apply List.ext_getElem?
     intro i
     simp only [Array.toList_modify,List.getElem?_map,List.getElem?_modify,List.getElem?_set,List.length_map]
     by_cases E:j=i
     · subst E; rw [C]; simp; have :=(List.getElem?_eq_some_iff.1 C).1; simpa using this
     · simp [E]
   · intro p hp
     rcases List.mem_or_eq_of_mem_set hp with hp | hp
     · exact h2 p hp
     · rw [hp]; exact hi
   · have :(kvs.set j (kx,v)).map Prod.fst=kvs.map Prod.fst:=by
      apply List.ext_getElem?
      intro i
      simp only [List.getElem?_map,List.getElem?_set]
      by_cases E:j=i
      · subst E
        rw [← he]; simp only [List.getElem?_map,C,List.length_map]
        have :=(List.getElem?_eq_some_iff.1 C).1
        simp [this,h5]
        simpa using this
      · simp [E]
     rw [this]; exact h3
   · intro q u
     have I:kvs[j]? =some (kx,e'.val):=by rw [← he]; simp [C,h5,M]
     have hlj:=(List.getElem?_eq_some_iff.1 I).1
     have ac:(kx,v)∈kvs.set j (kx,v):=List.mem_of_getElem? (i:=j) (by rw [List.getElem?_set,if_pos rfl,if_pos hlj])
     unfold aW
     by_cases A:q=kx
     · subst A
       rw [if_pos rfl]
       constructor
       · intro h; cases h; exact ac
       · intro h
         obtain ⟨i,s⟩:=List.getElem?_of_mem h
         rw [List.getElem?_set] at s
         split at s
         · rename_i ab
           subst ab
           cases s; rfl
         · rename_i hne
           exfalso
           exact hne ((List.getElem?_inj (i:=j) (j:=i) (by simpa using hlj) h3).1 (by simp [I,s]))
     · rw [if_neg A,h4]
       constructor
       · intro h
         obtain ⟨i,s⟩:=List.getElem?_of_mem h
         have hne:j≠i:=by rintro rfl; rw [I] at s; cases s; exact A rfl
         exact List.mem_of_getElem? (i:=i) (by rw [List.getElem?_set,if_neg hne]; exact s)
       · intro h
         rcases List.mem_or_eq_of_mem_set h with h | h
         · exact h
         · cases h; exact absurd rfl A
theorem lI (c:P.underlying t=some (.map k e)) (a:ir P k isK) (hm:bf w.heap b isK f) (i:ev N σ x= .map (some b)) (hy:ev N σ y=kx) (hz:ev N σ z=v) (hi:isK kx)
 (p:∀ w',Md (fun j=>j=b) w w'→bf w'.heap b isK (aW f kx v)→K σ w'):bD P N ⟨none,.mapUpdate t x y z,ty,pos,af,g⟩ σ w K:=by
 obtain ⟨w',h1,h2,h3⟩:=vY (v:=v) c a hm hi
 have hrun:(execOp (ev N σ) ⟨none,.mapUpdate t x y z,ty,pos,af,g⟩).run P w= .ok .skip w':=by
  simp [execOp,i,hy,hz,h1]
 unfold bD Oper.wp
 rw [ek,hrun]
 exact ⟨σ,rfl,p w' h2 h3⟩
theorem gC (c:P.underlying t=some (.map k e)) (a:ir P k isK) (hm:bf w.heap b isK f) (i:ev N σ x= .map (some b)) (hy:ev N σ y=kx) (hz:ev N σ z=v) (hi:isK kx)
 (p:∀ w',Md (fun j=>j=b) w w'→bf w'.heap b isK (aW f kx v)→K σ w'):bD P N ⟨none,.insert t x y z,ty,pos,af,g⟩ σ w K:=by
 obtain ⟨w',h1,h2,h3⟩:=vY (v:=v) c a hm hi
 have hrun:(execOp (ev N σ) ⟨none,.insert t x y z,ty,pos,af,g⟩).run P w= .ok .skip w':=by
  simp [execOp,i,hy,hz,h1]
 unfold bD Oper.wp
 rw [ek,hrun]
 exact ⟨σ,rfl,p w' h2 h3⟩
end
end Go.Hb
end
section
namespace Go.Hb
section
variable {P:Program} {N:Fm} {σ:Nat→Value} {w:World} {fn:Func} {R:Value→World→Prop}
theorem Du {t b off :Nat} {v:Value} (hu:bP P t=some none) (hc:Hb.aw w.heap b off =some v):(loadVar t ⟨b,off,none⟩).run P w= .ok v w:=by
 have a:w.cell? ⟨b,off,none⟩=some v:=by rw [g8]; exact hc
 unfold bP at hu
 cases hd:P.underlying t with
 | none=>rw [hd] at hu; cases hu
 | some d=>
   rw [hd] at hu
   cases d <;> first
    | (simp only [Option.map_eq_some_iff] at hu; obtain ⟨_,_,h⟩:=hu; cases h; done)
    | simp [loadVar,isAgg,bV hd,run_load,a]
theorem Dv {t n b off :Nat} {cs:List Value} (hu:bP P t=some (some n)) (hl:cs.length=n) (hc:∀ j,j < n→Hb.aw w.heap b (off+j)=cs[j]?):(loadVar t ⟨b,off,none⟩).run P w= .ok (.agg cs.toArray) w:=by
 have c:(loadCells ⟨b,off,none⟩ n).run P w= .ok cs.toArray w:=by
  subst hl
  refine run_loadCells_list (P:=P) w ⟨b,off,none⟩ cs fun j v a=> ?_
  rw [gv,g8]
  exact (hc j (List.getElem?_eq_some_iff.1 a).1).trans a
 unfold bP at hu
 cases hd:P.underlying t with
 | none=>rw [hd] at hu; cases hu
 | some d=>
   rw [hd] at hu
   cases hi:P.info? t with
   | none=>simp [Program.underlying,hi] at hd
   | some i=>
     rw [hi] at hu
     cases d <;> first
      | (cases hu; done)
      | (simp only [Option.map_some,Option.some.injEq] at hu; subst hu
         simp [loadVar,isAgg,bV hd,sizeOf,eh hi,c])
def g6 (P:Program) (N:Fm) (σ:Nat→Value) (w:World):ResultVar→Value→Prop
 | .tmp t,v=>ev N σ (.tmp t)=v
 | .cell a t,v=> ∃ ad,ev N σ (.tmp a)= .pointer (some ad)∧(loadVar t ad).run P w= .ok v w
theorem dB {t:Tmp} :g6 P N σ w (.tmp t) (ev N σ (.tmp t)):=rfl
theorem qt {a t b off :Nat} {v:Value} (c:ev N σ (.tmp a)= .pointer (some ⟨b,off,none⟩)) (hu:bP P t=some none) (hc:Hb.aw w.heap b off =some v):g6 P N σ w (.cell a t) v:=⟨_,c,Du hu hc⟩
theorem cW {a t n b off :Nat} {cs:List Value} (c:ev N σ (.tmp a)= .pointer (some ⟨b,off,none⟩)) (hu:bP P t=some (some n)) (hl:cs.length=n) (hc:∀ j,j < n→Hb.aw w.heap b (off+j)=cs[j]?):g6 P N σ w (.cell a t) (.agg cs.toArray):=⟨_,c,Dv hu hl hc⟩
def iX (tmps:Array Value):ResultVar→Sem Value
 | .tmp t=>pure (tmps.getD t undef)
 | .cell a t=>do loadVar t (← asAddr (tmps.getD a undef))
theorem gZ {r:ResultVar} {v:Value} (h:g6 P N σ w r v):(iX (act N σ).tmps r).run P w= .ok v w:=by
 cases r with
 | tmp t=>
   show Sem.run P (pure ((act N σ).tmps.getD t undef)) w=_
   rw [ik]; simp only [g6] at h; rw [h]; rfl
 | cell a t=>
   obtain ⟨ad,h1,h2⟩:=h
   show Sem.run P (do loadVar t (← asAddr ((act N σ).tmps.getD a undef))) w=_
   rw [ik,h1]
   simp [asAddr,h2]
theorem E7 {tmps:Array Value} {r:ResultVar} {v:Value} (h:fn.results= #[r]) (h1:(iX tmps r).run P w= .ok v w):(results fn tmps).run P w= .ok v w:=by
 have a:(results fn tmps)=(do let vs ← #[r].mapM (iX tmps); pure (if h:vs.size=1 then vs[0] else .tuple vs)):=by
  unfold results; rw [h]; rfl
 rw [a]; simp [List.mapM_toArray,h1]
theorem n0 {tmps:Array Value} {r s:ResultVar} {v u:Value} (h:fn.results= #[r,s]) (h1:(iX tmps r).run P w= .ok v w) (h2:(iX tmps s).run P w= .ok u w):(results fn tmps).run P w= .ok (.tuple #[v,u]) w:=by
 have a:(results fn tmps)=(do let vs ← #[r,s].mapM (iX tmps); pure (if h:vs.size=1 then vs[0] else .tuple vs)):=by
  unfold results; rw [h]; rfl
 rw [a]; simp [List.mapM_toArray,h1,h2]
theorem E8 {tmps:Array Value} {r s q:ResultVar} {v u z:Value} (h:fn.results= #[r,s,q]) (h1:(iX tmps r).run P w= .ok v w) (h2:(iX tmps s).run P w= .ok u w) (h3:(iX tmps q).run P w= .ok z w):(results fn tmps).run P w= .ok (.tuple #[v,u,z]) w:=by
 have a:(results fn tmps)=(do let vs ← #[r,s,q].mapM (iX tmps); pure (if h:vs.size=1 then vs[0] else .tuple vs)):=by
  unfold results; rw [h]; rfl
 rw [a]; simp [List.mapM_toArray,h1,h2,h3]
theorem l3 {r:ResultVar} {v:Value} (h:fn.results= #[r]) (h1:g6 P N σ w r v) (a:R v w):fin P fn N R .ret σ w:=⟨v,E7 h (gZ h1),a⟩
theorem ee {r s:ResultVar} {v u:Value} (h:fn.results= #[r,s]) (h1:g6 P N σ w r v) (h2:g6 P N σ w s u) (a:R (.tuple #[v,u]) w):fin P fn N R .ret σ w:=⟨_,n0 h (gZ h1) (gZ h2),a⟩
theorem sU {r s q:ResultVar} {v u z:Value} (h:fn.results= #[r,s,q]) (h1:g6 P N σ w r v) (h2:g6 P N σ w s u) (h3:g6 P N σ w q z) (a:R (.tuple #[v,u,z]) w):fin P fn N R .ret σ w:=⟨_,E8 h (gZ h1) (gZ h2) (gZ h3),a⟩
end
end Go.Hb
end
section
namespace Go.Hb
open Go.RowKit
def ja (P:Program) (N:Fm) (c:Code) (B:Exit→Act→World→Prop) (σ:Nat→Value) (w:World):Prop :=c.wpIn (fe N.r) 0 P B (act N σ) w
def qb (N:Fm) (B:Exit→Act→World→Prop):Exit→(Nat→Value)→World→Prop :=fun e σ w=>B e (act N σ) w
section
variable {P:Program} {N:Fm} {B:Exit→Act→World→Prop} {σ:Nat→Value} {w:World}
theorem dR {x y:Code} (h:ja P N x (Exit.then (y.wpIn (fe N.r) 0 P B) B) σ w):ja P N (.seq x y) B σ w:=wpIn_seq h
theorem dX {y:Code} (h:ja P N y B σ w):qb N (Exit.then (y.wpIn (fe N.r) 0 P B) B) .normal σ w:=h
theorem qq {y:Act→World→Prop} (h:qb N B .ret σ w):qb N (Exit.then y B) .ret σ w:=h
theorem qu (h:qb N B .ret σ w):ja P N .ret B σ w:=wpIn_ret h
theorem ez {c:Code} (h:bK P N c (qb N B) σ w):ja P N c B σ w:=by
 unfold bK at h
 refine wpIn_mono h ?_
 intro e a w hl
 cases e with
 | panic c=>obtain ⟨σ,rfl,i⟩:=hl; exact i σ fun _ _=>rfl
 | outgrown=>exact hl.elim
 | _=>obtain ⟨σ,rfl,i⟩:=hl; exact i
end
theorem n5 (fn:Func) (args:List Value) (F:List Nat) (hn:Nat.ble args.length fn.ntmps=true):({tmps:=args.toArray++Array.replicate (fn.ntmps - args.toArray.size) undef,defers:= []} :Act)=act ⟨fn.ntmps,[],F,none⟩ (gL args):=by
 have a:args.length≤fn.ntmps:=by simpa using hn
 refine mX rfl fun i=> ?_
 rw [jk]
 simp only [gL,List.getD_eq_getElem?_getD,List.size_toArray]
 by_cases h1:i < args.length
 · rw [Array.getElem?_append_left (by simpa using h1),if_pos (by omega)]
   simp [h1]
 · rw [Array.getElem?_append_right (by simpa using h1)]
   simp only [List.size_toArray,Array.getElem?_replicate]
   by_cases h2:i < fn.ntmps
   · rw [if_pos (by omega),if_pos h2,List.getElem?_eq_none (by omega)]; rfl
   · rw [if_neg (by omega),if_neg h2]
abbrev Bm (P:Program) (fn:Func) (R:Value→World→Prop):Exit→Act→World→Prop :=bodyPostM Fence.wide 0 P fn (fun e w'=> ∃ v,e= .returned v∧R v w')
theorem sP {P:Program} {f:FuncId} {N:Nat} {fn:Func} {c:Code} {args:List Value} {w:World} {R:Value→World→Prop} (F:List Nat) (hf:P.funcs[f]? =some fn) (hb:fn.body=some c)
 (a:fn.ntmps=N) (hn:Nat.ble args.length N=true) (h:ja P ⟨N,[],F,none⟩ c (Bm P fn R) (gL args) w):aK P f args.toArray w R:=by
 subst a
 refine callsIn_wide.1 (callsIn_of_wp_marks (F:=Fence.wide) (n:=0) hf hb trivial ?_)
 rw [n5 fn args F hn]
 exact h
section
variable {P:Program} {n:Nat} {F:List Nat} {σ:Nat→Value} {w:World} {fn:Func} {R:Value→World→Prop}
theorem Da {e:Exit} (he:e= .ret∨e= .normal) {v:Value} (hr:(results fn (act ⟨n,[],F,none⟩ σ).tmps).run P w= .ok v w) (a:R v w):qb ⟨n,[],F,none⟩ (Bm P fn R) e σ w:=by
 rcases he with rfl | rfl <;> exact ⟨v,hr,v,rfl,a⟩
theorem sS {t u:Nat} {v v':Value} (h:fn.results= #[.tmp t,.tmp u]) (hv:ev ⟨n,[],F,none⟩ σ (.tmp t)=v) (hu:ev ⟨n,[],F,none⟩ σ (.tmp u)=v') (a:R (.tuple #[v,v']) w):qb ⟨n,[],F,none⟩ (Bm P fn R) .ret σ w:=
 Da (.inl rfl) (by rw [results_tmp2 h,ik,ik,hv,hu]) a
theorem Db {D:Nat} {v:Value} (a:w.heap[D]? =some (.deferred (some []))) (hr:∀ w',(results fn (act ⟨n,[{target:= .collected D,args:= #[]}],F,none⟩ σ).tmps).run P w'= .ok v w') (c:R v (w.putObj D (.deferred none))):
 qb ⟨n,[{target:= .collected D,args:= #[]}],F,none⟩ (Bm P fn R) .ret σ w:=
 ⟨FrameMode.noConfusion,.inl ⟨_,_,rfl,run_takeDeferred a,⟨v,hr _,v,rfl,c⟩⟩⟩
theorem sT {D t u:Nat} {v v':Value} (h:fn.results= #[.tmp t,.tmp u]) (hv:ev ⟨n,[{target:= .collected D,args:= #[]}],F,none⟩ σ (.tmp t)=v) (hu:ev ⟨n,[{target:= .collected D,args:= #[]}],F,none⟩ σ (.tmp u)=v')
 (a:w.heap[D]? =some (.deferred (some []))) (c:R (.tuple #[v,v']) (w.putObj D (.deferred none))):qb ⟨n,[{target:= .collected D,args:= #[]}],F,none⟩ (Bm P fn R) .ret σ w:=
 Db a (fun w'=>by rw [results_tmp2 h,ik,ik,hv,hu]) c
end
theorem cy {w:World} {B t size n pp a:Nat} {v:Value} {xs:List Value} {cs:Array Value} {z:Nat×Nat} (h:w.ownsRow B t size v n xs) (hp:w.heap[pp]? =some (.cells cs a z)) (hne:t≠a):v.ownBlock≠some pp:=by
 intro hk
 rcases h.2 with ⟨h1,_⟩ | ⟨g,cap,cur,h1,_,hg,_⟩
 · rw [h1] at hk; simp [Value.ownBlock] at hk
 · rw [h1] at hk
   simp only [Value.ownBlock,Option.some.injEq] at hk
   subst hk
   rw [hg] at hp
   simp only [Option.some.injEq,Obj.cells.injEq] at hp
   exact hne hp.2.1
section
variable {P:Program} {N:Fm} {σ:Nat→Value} {w:World} {dst:Option Nat} {ty:TypeId} {pos :String} {af:Array Edge} {g:Option (Nat×Bool)} {x:Operand} {K:(Nat→Value)→World→Prop}
theorem xQ {e:TypeId} {v:Value} (a:ev N σ x=v) (h1:v.oneCell'=true) (k:∀ b w',b=w.heap.size→Nw w w'→w'.heap[b]? =some (.cells [v].toArray e (0,0))→K (dS σ dst (.pointer (some ⟨b,0,none⟩))) w'):
 bD P N ⟨dst,.box e x,ty,pos,af,g⟩ σ w K:=by
 refine jc (v:=fun b=> .pointer (some ⟨b,0,none⟩)) (ob:= .cells [v].toArray e (0,0)) ?_ k
 have :=j4 h1
 simp [execOp,Instr.box,a,this,newVar,newRow]
end
theorem ly (w:World) (k:Nat) (o:Obj):Md (fun j=>j=k) w (w.putObj k o):=
 ⟨rfl,rfl,by simp [World.putObj],fun j _ hne=>World.putObj_heap_other hne⟩
def fi (w w':World):Prop := ∀ (k:Nat) (o:Obj),w.heap[k]? =some o→(∀ cur e z,o≠.cells cur e z)→w'.heap[k]? =some o
theorem fi.trans {a b c:World} (h:fi a b) (i:fi b c):fi a c:=fun k o j hn=>i k o (h k o j hn) hn
theorem fi.md {F:Nat→Prop} {w w':World} (hm:Md F w w') (i:∀ k,F k→∃ cur e z,w.heap[k]? =some (.cells cur e z)):fi w w':=fun k o a hn=>by
 rw [hm.eX k (Array.getElem?_eq_some_iff.1 a).1 (fun hk=>by obtain ⟨c,e,z,h⟩:=i k hk; rw [a] at h; exact hn _ _ _ (Option.some.inj h))]; exact a
theorem fi.wk {w w':World} (hm:Wk w w'):fi w w':=fi.md hm fun _ h=>h.elim
theorem mq {w:World} {B e size n:Nat} {v:Value} {xs:List Value} (h:w.ownsRow B e size v n xs):∀ k,v.ownBlock=some k→∃ cur e z,w.heap[k]? =some (.cells cur e z):=by
 intro k hk
 rcases h.2 with ⟨rfl,_⟩ | ⟨g,cap,a,rfl,_,hg,_⟩
 · simp [Value.ownBlock] at hk
 · simp only [Value.ownBlock,Option.some.injEq] at hk; subst hk; exact ⟨_,_,_,hg⟩
def xa {α:Type} (B:Nat) (a:List α→World→Prop):Prop := ∀ pre W W' (F:Nat→Prop),a pre W→Md F W W'→(∀ k,F k→B≤k∧∀ cur e z,W.heap[k]?≠some (.cells cur e z))→a pre W'
section
variable {F:Nat→Prop} {W W':World} {B:Nat}
theorem oh {b e:Nat} {cs:Array Value} {z:Nat×Nat} (h:W.heap[b]? =some (.cells cs e z)) (hm:Md F W W') (a:∀ k,F k→B≤k∧∀ cur e z,W.heap[k]?≠some (.cells cur e z)):W'.heap[b]? =some (.cells cs e z):=by
 rw [hm.eX b (Array.getElem?_eq_some_iff.1 h).1 (fun hk=>(a b hk).2 _ _ _ h)]; exact h
theorem vE {a e size n:Nat} {v:Value} {xs:List Value} (h:W.ownsRow a e size v n xs) (hm:Md F W W') (i:∀ k,F k→B≤k∧∀ cur e z,W.heap[k]?≠some (.cells cur e z)):W'.ownsRow a e size v n xs:=
 bu h hm fun k hk hf=>by obtain ⟨c,e,z,h1⟩:=mq h k hk; exact (i k hf).2 _ _ _ h1
theorem vF {w:World} (h:Wk w W) (hm:Md F W W') (c:w.heap.size≤B) (a:∀ k,F k→B≤k∧∀ cur e z,W.heap[k]?≠some (.cells cur e z)):Wk w W':=Md.trans' h hm fun k hk hf=>by have :=(a k hf).1; omega
end
def qS {α:Type} (P:Program) (p:Nat) (lb:Array Value) (j:α→Array Value) (xs:List α) (i:World→Prop):Prop :=
 ∀ (l:Nat) (a:List α→World→Prop) (W:World),a [] W→(∀ pre W,a pre W→i W)→(∀ pre W1 c,a pre W1→Wk W1 c→a pre c)→
   (∀ pre x rest W1,xs=pre++x::rest→a pre W1→YieldAt Fence.wide 0 P l (j x) W1 fun e W'=>e= .returned (.bool true)∧a (pre++ [x]) W')→
   Calls P p (#[.func (.yield l) #[] #[]]++lb) W fun e W'=>(∃ v,e= .returned v)∧a xs W'
def E6 (R:World→Prop):Exit→(Nat→Value)→World→Prop
 | .normal,_,w=>R w
 | _,_,_=>False
theorem xc (N:Fm):∀ (l:List (Tmp×Value)) (σ:Nat→Value),l.foldl (fun t p=>t.setIfInBounds p.1 p.2) (act N σ).tmps=(act N (l.foldl (fun s p=>bX s p.1 p.2) σ)).tmps:=by
 intro l
 induction l with
 | nil=>intro σ; rfl
 | cons p l ih=>
   intro σ
   rw [List.foldl_cons,List.foldl_cons,← ih]
   congr 1
   have :=congrArg Act.tmps (fH N σ (some p.1) p.2)
   exact this
theorem vd {α:Type} {P:Program} {id n:Nat} {g:Operand} {ps:Array Tmp} {O body:Code} {J:List Nat} {σ:Nat→Value} {w:World} {B:Exit→Act→World→Prop} {M:Nat} {lb:Array Value}
 (G:α→Array Value) (xs:List α) (Z:World→Prop) (i:List α→World→Prop) (hg:ev ⟨n,[],J,none⟩ σ g= .func (.func M) #[] lb) (hc:aJ P M) (ao:∀ x,(G x).size=ps.size)
 (am:qS P M lb G xs Z) (ae:i [] w) (aj:∀ pre W,i pre W→Z W) (U:xa w.heap.size i) (ac:α→Nat→Value)
 (ha:∀ (l:Nat) (x:α) (W:World) (K:(Nat→Value)→World→Prop),K (ac x) W→bK P ⟨n,[],[],some l⟩ O (g4 K fun _ _ _=>False) ((ps.toList.zip (G x).toList).foldl (fun s p=>bX s p.1 p.2) σ) W)
 (hb:∀ (l:Nat) (pre:List α) (x:α) (rest:List α) (W:World),xs=pre++x::rest→i pre W→bK P ⟨n,[],[],some l⟩ body (E6 fun W'=>fi W W'∧i (pre++ [x]) W') (ac x) W)
 (hd:∀ (D:Nat) (W:World),w.heap.size≤D→i xs W→W.heap[D]? =some (.deferred (some []))→qb ⟨n,[{target:= .collected D,args:= #[]}],J,none⟩ B .normal σ W):
 ja P ⟨n,[],J,none⟩ (.block id (.rangeFunc g ps O body)) B σ w:=by
 refine wpIn_block (wpIn_rangeFunc ?_)
 intro fn _
 obtain ⟨rc,I⟩:∃ rc:LoopState→Option Code→Loop,rc=fun st ar=> {state:=st,pending:=ar,fn,tmps:=(act ⟨n,[],J,none⟩ σ).tmps,params:=ps,assign:=O,body,defers:=w.heap.size} :=⟨_,rfl⟩
 obtain ⟨W1,V⟩:∃ W1,(w.alloc (.deferred (some []))).alloc (.loop (rc .ready none))=W1:=⟨_,rfl⟩
 have ai:W1.heap[w.heap.size+1]? =some (.loop (rc .ready none)):=by
  rw [← V]; have :=World.alloc_heap_new (w.alloc (.deferred (some []))) (.loop (rc .ready none)); rwa [World.size_alloc] at this
 have ah:W1.heap[w.heap.size]? =some (.deferred (some [])):=by
  rw [← V]; exact (Below.heap_alloc _ _ _ (by simp)).trans (World.alloc_heap_new w _)
 have hn:∀ (W:World) (o:Obj),Wk W (W.alloc o):=fun W o=>(uK W o).md
 have ag:i [] W1:=by rw [← V]; exact U _ _ _ _ (U _ _ _ _ ae (hn _ _) (fun _ h=>h.elim)) (hn _ _) (fun _ h=>h.elim)
 have ak:(act ⟨n,[],J,none⟩ σ).eval g= .func (.func M) #[] lb:=by rw [ek]; exact hg
 refine ⟨w.heap.size+1,[{target:= .collected w.heap.size,args:= #[]}],W1,{target:= .fn (.func M) lb,args:= #[.func (.yield (w.heap.size+1)) #[] #[]]},W1,M,
  #[.func (.yield (w.heap.size+1)) #[] #[]]++lb,W1,?_,?_,fun _ _=>trivial,?_,fun h0=>(by cases h0),?_⟩
 · rw [← V,I]; exact run_enterLoop_outer _ _ _ _ _
 · simp only [resolve,ak]
   simp [go_sem]
 · have :=hc (#[.func (.yield (w.heap.size+1)) #[] #[]]++lb) W1
   simp [invoke,go_sem,this]
 · have hput:∀ (pre:List α) (W:World) (o Y:Obj),i pre W→W.heap[w.heap.size+1]? =some o→(∀ cur e z,o≠.cells cur e z)→i pre (W.putObj (w.heap.size+1) Y):=fun pre W o Y h1 h2 h3=>
    U _ _ _ _ h1 (ly W _ Y) fun k hk=>⟨by omega,fun cur e z h4=>by subst hk; rw [h2] at h4; exact h3 _ _ _ (Option.some.inj h4)⟩
   refine callsIn_wide.2 (Calls.mono (am (w.heap.size+1)
    (fun pre W=>i pre W∧W.heap[w.heap.size+1]? =some (.loop (rc .ready none))∧W.heap[w.heap.size]? =some (.deferred (some [])))
    W1 ⟨ag,ai,ah⟩ (fun pre W h=>aj pre W h.1)
    (fun pre A C h hm=>⟨U _ _ _ _ h.1 hm (fun _ h=>h.elim),(hm.eX _ (Array.getElem?_eq_some_iff.1 h.2.1).1 (fun h=>h)).trans h.2.1,(hm.eX _ (Array.getElem?_eq_some_iff.1 h.2.2).1 (fun h=>h)).trans h.2.2⟩) ?_) ?_)
   · rintro pre x rest W aq ⟨hi,hl,hk⟩
     have hlt:w.heap.size+1 < W.heap.size:=(Array.getElem?_eq_some_iff.1 hl).1
     have hy:=run_yield (P:=P) (args:=G x) hl (by rw [I]; exact ao x)
     rw [I] at hy
     refine ⟨fn,_,O,body,hy,roundIn_of_wpIn (F:=Fence.wide) trivial ?_⟩
     have ap:((ps.zip (G x)).foldl (fun tmps (p:Tmp×Value)=>tmps.setIfInBounds p.1 p.2) (act ⟨n,[],J,none⟩ σ).tmps)=(act ⟨n,[],[],some (w.heap.size+1)⟩ ((ps.toList.zip (G x).toList).foldl (fun s p=>bX s p.1 p.2) σ)).tmps:=by
      rw [← Array.foldl_toList,Array.toList_zip]
      exact xc ⟨n,[],[],some (w.heap.size+1)⟩ _ σ
     have h1:=ha (w.heap.size+1) x W (fun E W'=> ∃ ab,(Instr.beginRound (w.heap.size+1)).run P W'= .ok () ab∧
      body.wpIn (Fence.wide.inRound (w.heap.size+1)) 0 P (roundPost P (w.heap.size+1) fun e W'=>e= .returned (.bool true)∧i (pre++ [x]) W'∧W'.heap[w.heap.size+1]? =some (.loop (rc .ready none))∧W'.heap[w.heap.size]? =some (.deferred (some []))) (act ⟨n,[],[],some (w.heap.size+1)⟩ E) ab) ?_
     · unfold bK at h1
       have ad:({tmps:=(ps.zip (G x)).foldl (fun tmps (p:Tmp×Value)=>tmps.setIfInBounds p.1 p.2) (act ⟨n,[],J,none⟩ σ).tmps,defers:= []} :Act)=act ⟨n,[],[],some (w.heap.size+1)⟩ ((ps.toList.zip (G x).toList).foldl (fun s p=>bX s p.1 p.2) σ):=by rw [ap]; rfl
       rw [ad]
       refine wpIn_mono h1 ?_
       intro e a w' j
       cases e with
       | normal=>obtain ⟨E,rfl,q⟩:=j; exact q
       | panic c=>obtain ⟨E,rfl,q⟩:=j; exact q E fun _ _=>rfl
       | outgrown=>exact j.elim
       | _=>obtain ⟨E,rfl,q⟩:=j; exact q
     refine ⟨_,run_beginRound hl (by rw [I]),?_⟩
     have hl2:(W.putObj (w.heap.size+1) (.loop {rc .ready none with state:= .busy})).heap[w.heap.size+1]? =some (.loop {rc .ready none with state:= .busy}):=World.putObj_heap_same hlt
     have an:(W.putObj (w.heap.size+1) (.loop {rc .ready none with state:= .busy})).heap[w.heap.size]? =some (.deferred (some [])):=(World.putObj_heap_other (by omega)).trans hk
     have h2:=hb (w.heap.size+1) pre x rest _ aq (hput _ _ _ (.loop {rc .ready none with state:= .busy}) hi hl (fun _ _ _ h=>by cases h))
     unfold bK at h2
     refine wpIn_mono h2 ?_
     intro e a av j
     cases e with
     | normal=>
       obtain ⟨E,rfl,aa,al⟩:=j
       have hl3:=aa _ _ hl2 (fun _ _ _ h=>by cases h)
       have hk3:=aa _ _ an (fun _ _ _ h=>by cases h)
       have hr:=run_endRound (P:=P) none hl3
       rw [I] at hr hl3 ⊢
       exact ⟨_,_,hr,rfl,hput _ _ _ _ al hl3 (fun _ _ _ h=>by cases h),World.putObj_heap_same (Array.getElem?_eq_some_iff.1 hl3).1,(World.putObj_heap_other (by omega)).trans hk3⟩
     | panic c=>obtain ⟨E,rfl,q⟩:=j; exact (q E fun _ _=>rfl).elim
     | outgrown=>exact j.elim
     | _=>obtain ⟨E,rfl,q⟩:=j; exact q.elim
   · rintro e au ⟨⟨v,rfl⟩,hi,hl,hk⟩
     have hrun:=run_endLoop (P:=P) hl (by rw [I]; simp)
     rw [I] at hrun
     refine ⟨none,_,hrun,?_⟩
     rw [I] at hl
     exact hd w.heap.size _ (Nat.le_refl _) (hput _ _ _ _ hi hl (fun _ _ _ h=>by cases h)) ((World.putObj_heap_other (by omega)).trans hk)
section
variable {P:Program} {N:Fm} {ops:Array Oper} {Q:Exit→(Nat→Value)→World→Prop} {rest:List Oper} {σ:Nat→Value} {w:World} {d':Option Nat} {d:Nat} {op:Op} {ty:TypeId} {pos :String} {af:Array Edge} {v:Value}
def jb (P:Program) (N:Fm) (ops:Array Oper) (Q:Exit→(Nat→Value)→World→Prop) (l:List Oper) (σ:Nat→Value) (w:World):Prop :=wpListIn (fe N.r) 0 P ops (lift N Q) l (act N σ) w
theorem E3 {id:Nat} {l:List Oper} (h:jb P N l.toArray Q l σ w):bK P N (.region id l.toArray false) Q σ w:=by
 unfold bK; exact wpIn_region_lit h
theorem DU (h:Q .normal σ w):jb P N ops Q [] σ w:=⟨σ,rfl,h⟩
def p8 (o:Op):Bool:=match o with | .defer _=>false | _=>true
theorem DW {o:Op} (h:p8 o=true):∀ c,o≠.defer c:=fun c e=>by subst e; cases h
theorem ey (hn:p8 op=true) (h:bD P N ⟨d',op,ty,pos,af,none⟩ σ w (fun σ w=>jb P N ops Q rest σ w)):jb P N ops Q (⟨d',op,ty,pos,af,none⟩::rest) σ w:=by
 unfold jb wpListIn
 rw [if_pos (ff _ rfl _)]
 refine ⟨fun f _=>nC _ f,?_⟩
 rw [pz,Oper.semAt_eq _ _ _ (DW hn)]
 unfold bD Oper.wp at h
 generalize (execOp (act N σ).eval ⟨d',op,ty,pos,af,none⟩).run P w=x at h ⊢
 cases x with
 | ok n w'=>
   cases n <;> simp only [Oper.upon,Oper.uponIn] at h ⊢ <;>
    first
     | (obtain ⟨a,ha,hk⟩:=h; rw [ha]; exact hk)
     | (refine ⟨fun h0=>(by rw [l5] at h0; cases h0),CallsIn.mono (sW h) fun e w'' he=> ?_⟩
        cases e with
        | returned v=>obtain ⟨a,ha,hk⟩:=he; simp only; rw [ha]; exact hk
        | panicked c=>exact he.elim
        | outgrown=>obtain ⟨_,_,hf⟩:=he; exact hf.elim)
     | (refine ⟨fun h0=>(by rw [l5] at h0; cases h0),RowsIn.mono (sX h) fun v w'' he=> ?_⟩
        obtain ⟨a,ha,hk⟩:=he; rw [ha]; exact hk)
 | halt x w'=>cases x <;> simp only [Oper.upon] at h
theorem py (hn:p8 op=true) (h:(execOp (ev N σ) ⟨some d,op,ty,pos,af,none⟩).run P w= .ok (.value v) w) (k:jb P N ops Q rest (bX σ d v) w):jb P N ops Q (⟨some d,op,ty,pos,af,none⟩::rest) σ w:=
 ey hn (il h k)
theorem GG {l:Nat} {fo:Operand} {args:Array Operand} {i:Array TypeId} {L:List Value} {R:World→Prop} (hv:ev N σ fo= .func (.yield l) #[] #[]) (p:args.toList.map (ev N σ)=L)
 (hy:YieldAt Fence.wide 0 P l L.toArray w fun e W'=>e= .returned (.bool true)∧R W') (k:∀ W',R W'→jb P N ops Q rest (bX σ d (.bool true)) W'):
 jb P N ops Q (⟨some d,.call ⟨.value fo,args,i⟩,ty,pos,af,none⟩::rest) σ w:=by
 obtain ⟨fn,tmps,a,b,hrun,j⟩:=hy
 unfold jb wpListIn
 rw [if_pos (ff _ rfl _)]
 refine ⟨fun f _=>nC _ f,?_⟩
 rw [pz,Oper.semAt_eq _ _ _ (fun c e=>by cases e),ek]
 have hm:args.map (ev N σ)=L.toArray:=by rw [← p,← Array.toList_map]
 have q:(execOp (ev N σ) ⟨some d,.call ⟨.value fo,args,i⟩,ty,pos,af,none⟩).run P w= .ok (.round l fn tmps a b) w:=by
  simp [execOp,resolve,hv,Deferred.ofValue,invoke,hm,hrun]
 rw [q]
 simp only [Oper.uponIn]
 refine ⟨fun h0=>(by rw [l5] at h0; cases h0),?_⟩
 have h1:RoundIn (fe N.r) (0 - 1) P l fn tmps a b w fun e W'=>e= .returned (.bool true)∧R W':=by
  cases hr:N.r with
  | none=>exact j
  | some k=>exact j
 refine RoundIn.mono h1 ?_
 rintro e W' ⟨rfl,hw⟩
 simp only
 rw [fH]
 exact k W' hw
end
end Go.Hb
end
section
namespace Go.Hb
open Go.RowKit
def cI (P:Program) (f:FuncId) (args:Array Value) (w:World) (R:Value→World→Prop) (Pn:List PanicEntry→World→Prop):Prop :=
 Calls P f args w fun e w'=>(∃ v,e= .returned v∧R v w')∨∃ c,e= .panicked c∧Pn c w'
def s0 (P:Program) (fn:Func) (N:Fm) (R:Value→World→Prop) (Pn:List PanicEntry→World→Prop):Exit→(Nat→Value)→World→Prop
 | .normal,σ,w=> ∃ v,(results fn (act N σ).tmps).run P w= .ok v w∧R v w
 | .ret,σ,w=> ∃ v,(results fn (act N σ).tmps).run P w= .ok v w∧R v w
 | .panic c,_,w=>Pn c w
 | _,_,_=>False
theorem eM {P:Program} {fn:Func} {N:Fm} {R:Value→World→Prop} {Pn:List PanicEntry→World→Prop} {e:Exit} {σ:Nat→Value} {w:World} (h:fin P fn N R e σ w):s0 P fn N R Pn e σ w:=by
 cases e <;> first | exact h | exact h.elim
theorem e4 {P:Program} {f:FuncId} {N:Nat} {fn:Func} {c:Code} {args:List Value} {w:World} {R:Value→World→Prop} {Pn:List PanicEntry→World→Prop} (hf:P.funcs[f]? =some fn) (hb:fn.body=some c)
 (p:fn.ntmps=N) (hn:Nat.ble args.length N=true) (h:bK P ⟨N,[],[],none⟩ c (s0 P fn ⟨N,[],[],none⟩ R Pn) (gL args) w):cI P f args.toArray w R Pn:=by
 subst p
 refine calls_of_wp hf hb ?_
 rw [n5 fn args [] hn]
 unfold bK at h
 refine Code.wp_mono ?_ (wpIn_wide.1 h)
 intro e a w hl
 cases e with
 | normal=>obtain ⟨σ,rfl,v,hr,j⟩:=hl; exact ⟨rfl,v,hr,.inl ⟨v,rfl,j⟩⟩
 | ret=>obtain ⟨σ,rfl,v,hr,j⟩:=hl; exact ⟨rfl,v,hr,.inl ⟨v,rfl,j⟩⟩
 | exit id=>obtain ⟨σ,rfl,i⟩:=hl; exact i.elim
 | goto l=>obtain ⟨σ,rfl,i⟩:=hl; exact i.elim
 | panic c=>obtain ⟨σ,rfl,i⟩:=hl; exact ⟨rfl,.inr ⟨c,rfl,i σ fun _ _=>rfl⟩⟩
 | outgrown=>exact hl.elim
section
variable {P:Program} {N:Fm} {Q:Exit→(Nat→Value)→World→Prop} {σ:Nat→Value} {w:World} {ops:Array Oper} {rest:List Oper} {dst:Option Nat} {ty:TypeId} {pos :String} {af:Array Edge} {g:Option (Nat×Bool)} {x:Operand}
def jd (P:Program) (N:Fm) (o:Oper) (σ:Nat→Value) (w:World) (K:(Nat→Value)→World→Prop) (Pn:List PanicEntry→World→Prop):Prop :=
 Oper.wp P o (act N σ) w (fun a w=> ∃ σ,a=act N σ∧K σ w) (fun e a w=>match e with | .panic c=>a=act N σ∧Pn c w | _=>False)
theorem oz {o:Oper} {K:(Nat→Value)→World→Prop} {Pn:List PanicEntry→World→Prop} {j:Act→World→Prop} (h:jd P N o σ w K Pn) (hk:∀ σ w,K σ w→j (act N σ) w) (hp:∀ c w',Pn c w'→∀ s,(∀ i∈N.F,s i=σ i)→Q (.panic c) s w'):o.wp P (act N σ) w j (lift N Q):=by
 unfold jd at h
 unfold Oper.wp at*
 generalize (execOp (act N σ).eval o).run P w=r at h ⊢
 have p:∀ a w,(∃ σ,a=act N σ∧K σ w)→j a w:=by rintro a w ⟨σ,rfl,h⟩; exact hk _ _ h
 have q:∀ c (a:Act) w',(a=act N σ∧Pn c w')→lift N Q (.panic c) a w':=by rintro c a w' ⟨rfl,h⟩; exact ⟨σ,rfl,hp c w' h⟩
 cases r with
 | ok n w'=>
   cases n <;> simp only [Oper.upon] at h ⊢ <;>
    first
     | exact p _ _ h
     | exact Calls.mono h (fun e w'' he=>by
      cases e with
      | returned v=>exact p _ _ he
      | panicked c=>exact q _ _ _ ⟨rfl,he.2⟩
      | outgrown=>obtain ⟨_,_,hf⟩:=he; exact hf.elim)
     | exact Rows.mono h (fun _ _ he=>p _ _ he)
 | halt x w'=>cases x <;> simp only [Oper.upon] at h ⊢ <;> exact q _ _ _ ⟨rfl,h.2⟩
theorem bq {f:FuncId} {args:Array Operand} {a:Array TypeId} {L:List Value} {R:Value→World→Prop} {Pn:List PanicEntry→World→Prop} {K:(Nat→Value)→World→Prop} (hc:aJ P f) (hr:cI P f L.toArray w R Pn) (i:args.toList.map (ev N σ)=L)
 (k:∀ v w',R v w'→K (dS σ dst v) w'):jd P N ⟨dst,.call ⟨.value (.func f),args,a⟩,ty,pos,af,g⟩ σ w K Pn:=by
 unfold jd Oper.wp
 have hm:args.map (ev N σ)=L.toArray:=by rw [← i,← Array.toList_map]
 have q:(execOp (ev N σ) ⟨dst,.call ⟨.value (.func f),args,a⟩,ty,pos,af,g⟩).run P w= .ok (.enter f L.toArray) w:=by
  have h2:=hc L.toArray w
  simp [execOp,resolve,ev,Deferred.ofValue,invoke,hm,h2]
 rw [ek,q]
 simp only [Oper.upon]
 refine Calls.mono hr ?_
 rintro e w' (⟨v,rfl,p⟩ | ⟨c,rfl,j⟩)
 · exact ⟨_,fH ..,k v w' p⟩
 · exact ⟨trivial,j⟩
theorem wi {f:FuncId} {fo:Operand} {first cap:Array Value} {args:Array Operand} {a:Array TypeId} {L:List Value} {R:Value→World→Prop} {Pn:List PanicEntry→World→Prop} {K:(Nat→Value)→World→Prop} (hc:aJ P f) (hv:ev N σ fo= .func (.func f) first cap) (hr:cI P f L.toArray w R Pn) (i:first.toList++args.toList.map (ev N σ)++cap.toList=L)
 (k:∀ v w',R v w'→K (dS σ dst v) w'):jd P N ⟨dst,.call ⟨.value fo,args,a⟩,ty,pos,af,g⟩ σ w K Pn:=by
 unfold jd Oper.wp
 have hm:first++args.map (ev N σ)++cap=L.toArray:=by rw [← i]; simp
 have q:(execOp (ev N σ) ⟨dst,.call ⟨.value fo,args,a⟩,ty,pos,af,g⟩).run P w= .ok (.enter f L.toArray) w:=by
  have h2:=hc L.toArray w
  simp only [execOp,resolve,hv,Deferred.ofValue,invoke]
  simp [hm,h2]
 rw [ek,q]
 simp only [Oper.upon]
 refine Calls.mono hr ?_
 rintro e w' (⟨v,rfl,p⟩ | ⟨c,rfl,j⟩)
 · exact ⟨_,fH ..,k v w' p⟩
 · exact ⟨trivial,j⟩
theorem eP {o:Oper} {Pn:List PanicEntry→World→Prop} (hg:o.guard=none) (h:jd P N o σ w (fun σ w=>cB P N ops Q rest σ w) Pn) (hp:∀ c w',Pn c w'→∀ a,(∀ i∈N.F,a i=σ i)→Q (.panic c) a w'):cB P N ops Q (o::rest) σ w:=by
 unfold cB wpList
 rw [if_pos (ff o hg _)]
 refine .inl (oz h (fun σ w hk=> ?_) hp)
 unfold cB at hk; exact hk
theorem EC {t:TypeId} {v:Value} (c:ev N σ x= .iface t v) (hp:∀ a,(∀ i∈N.F,a i=σ i)→Q (.panic [{v:= .iface t v,recovered:=false}]) a w):cB P N ops Q (⟨dst,.panic x,ty,pos,af,none⟩::rest) σ w:=by
 unfold cB wpList
 rw [if_pos (ff _ rfl _)]
 refine .inl ?_
 unfold Oper.wp
 have hr:(execOp (ev N σ) ⟨dst,.panic x,ty,pos,af,none⟩).run P w= .halt (.panic (.iface t v)) w:=by
  simp [execOp,c,Instr.panic]
 rw [ek,hr]
 exact ⟨σ,rfl,hp⟩
theorem DL {t:TypeId} {d:TypeDesc} {v:Value} (hu:P.underlying t=some d) (hd:(match d with | .interface _=>false | _=>true)=true) (a:ev N σ x=v):(execOp (ev N σ) ⟨dst,.makeInterface t x,ty,pos,af,g⟩).run P w= .ok (.value (.iface t v)) w:=by
 cases d <;> first | (cases hd; done) | simp [execOp,Instr.makeInterface,a,bV hu]
def kD (P:Program) (t:TypeId):Bool:=match P.underlying t with | some (.interface _)=>false | some _=>true | none=>false
theorem DM {t:TypeId} {v:Value} (h:kD P t=true) (a:ev N σ x=v):(execOp (ev N σ) ⟨dst,.makeInterface t x,ty,pos,af,g⟩).run P w= .ok (.value (.iface t v)) w:=by
 unfold kD at h
 cases hd:P.underlying t with
 | none=>rw [hd] at h; cases h
 | some d=>rw [hd] at h; exact DL hd (by cases d <;> first | rfl | cases h) a
theorem FX {xt a:TypeId} {zv:Value} (hu:kD P a=true) (hz:zeroV P a=some zv) (c:ev N σ x= .nilIface):(execOp (ev N σ) ⟨dst,.typeAssert x xt a true,ty,pos,af,g⟩).run P w= .ok (.value (.tuple #[zv,.bool false])) w:=by
 unfold kD at hu
 cases hd:P.underlying a with
 | none=>rw [hd] at hu; cases hu
 | some d=>rw [hd] at hu; cases d <;> first | (cases hu; done) | simp [execOp,Instr.typeAssert,c,bV hd,oB hz]
theorem FW {xt a:TypeId} {v:Value} (hu:kD P a=true) (c:ev N σ x= .iface a v):(execOp (ev N σ) ⟨dst,.typeAssert x xt a true,ty,pos,af,g⟩).run P w= .ok (.value (.tuple #[v,.bool true])) w:=by
 unfold kD at hu
 cases hd:P.underlying a with
 | none=>rw [hd] at hu; cases hu
 | some d=>rw [hd] at hu; cases d <;> first | (cases hu; done) | simp [execOp,Instr.typeAssert,c,bV hd]
variable {S:World→Prop} {fuel:Nat} {aC:Array Bool}
theorem ll {o:Oper} {Pn:List PanicEntry→World→Prop} (i:Nat) (hi:ops[i]? =some o) (hr:gX ops aC i=true) (hg:o.guard=none)
 (h:jd P N o σ w (fun σ w=>S w∧dJ P N ops Q S fuel (aC.setIfInBounds i true) σ w) Pn) (hp:∀ c w',Pn c w'→∀ a,(∀ i∈N.F,a i=σ i)→Q (.panic c) a w'):dJ P N ops Q S (fuel+1) aC σ w:=by
 unfold dJ at*
 refine wpAnyH_all (rs:= [i]) (by simpa [gX] using hr) (by simp) ?_
 intro k hk
 obtain rfl :k=i:=by simpa using hk
 unfold wpOp
 simp only [hi]
 rw [if_pos (ff _ hg _)]
 exact .inl (oz h (fun σ w hk=>hk) hp)
end
section
variable {P:Program} {N:Fm} {Q:Exit→(Nat→Value)→World→Prop} {σ:Nat→Value} {w:World} {ops:Array Oper} {S:World→Prop} {fuel:Nat} {aC:Array Bool}
theorem Co {o a:Oper} {Pn:List PanicEntry→World→Prop} (i j:Nat) (hi:ops[i]? =some o) (q:ops[j]? =some a) (hr:((Region.ready .any ops aC)== [i,j])=true) (hg:o.guard=none) (hg1:a.guard=none)
 (h:jd P N o σ w (fun σ w=>S w∧dJ P N ops Q S fuel (aC.setIfInBounds i true) σ w) Pn) (hp:∀ c w',Pn c w'→∀ p,(∀ i∈N.F,p i=σ i)→Q (.panic c) p w')
 (h1:bD P N a σ w (fun σ w=>S w∧dJ P N ops Q S fuel (aC.setIfInBounds j true) σ w)):dJ P N ops Q S (fuel+1) aC σ w:=by
 unfold dJ at*
 refine wpAnyH_all (rs:= [i,j]) (by simpa using hr) (by simp) ?_
 intro k hk
 simp only [List.mem_cons,List.not_mem_nil,or_false] at hk
 rcases hk with rfl | rfl
 · unfold wpOp
   simp only [hi]
   rw [if_pos (ff _ hg _)]
   exact .inl (oz h (fun _ _ hk=>hk) hp)
 · unfold wpOp
   simp only [q]
   rw [if_pos (ff _ hg1 _)]
   exact .inl (lN h1 (fun _ _ hk=>hk))
end
section
variable {P:Program} {N:Fm} {Q:Exit→(Nat→Value)→World→Prop} {σ:Nat→Value} {w:World} {ops:Array Oper} {S:World→Prop} {fuel r:Nat} {aC:Array Bool}
theorem ug {o:Oper} {Pn:List PanicEntry→World→Prop} (i:Nat) (hi:ops[i]? =some o) (hr:gX ops aC i=true) (hg:o.guard=none)
 (h:jd P N o σ w (fun σ w=>S w∧dT P N ops Q S r fuel (aC.setIfInBounds i true) σ w) Pn) (hp:∀ c w',Pn c w'→∀ j,(∀ i∈N.F,j i=σ i)→Q (.panic c) j w'):dT P N ops Q S r (fuel+1) aC σ w:=by
 unfold dT at*
 have a:Region.ready .any ops aC= [i]:=by simpa [gX] using hr
 refine ⟨fun h0=>absurd (a ▸ h0) (by simp),fun k hk=> ?_⟩
 rw [a] at hk
 obtain rfl :k=i:=by simpa using hk
 unfold wpOp
 simp only [hi]
 rw [if_pos (ff _ hg _)]
 exact .inl (oz h (fun σ w hk=>⟨fun _=>hk.1,hk.2⟩) hp)
end
abbrev jM (P:Program) (fn:Func) (R:Value→World→Prop):Exit→Act→World→Prop :=bodyPostD P fn (fun e w'=> ∃ v,e= .returned v∧R v w')
theorem AT {P:Program} {f:FuncId} {N:Nat} {fn:Func} {c:Code} {args:List Value} {w:World} {R:Value→World→Prop} (F:List Nat) (hf:P.funcs[f]? =some fn) (hb:fn.body=some c)
 (a:fn.ntmps=N) (hn:Nat.ble args.length N=true) (h:ja P ⟨N,[],F,none⟩ c (jM P fn R) (gL args) w):aK P f args.toArray w R:=by
 subst a
 refine calls_of_wp_defers hf hb ?_
 rw [n5 fn args F hn]
 exact wpIn_wide.1 h
section
variable {P:Program} {n:Nat} {D:List Deferred} {F:List Nat} {σ:Nat→Value} {w:World} {fn:Func} {R:Value→World→Prop} {B:Exit→Act→World→Prop}
theorem A9 {v:Value} (hr:(results fn (act ⟨n,[],F,none⟩ σ).tmps).run P w= .ok v w) (a:R v w):qb ⟨n,[],F,none⟩ (jM P fn R) .ret σ w:=⟨v,hr,v,rfl,a⟩
theorem De:¬LetsOut (jM P fn R):=fun ⟨_,_,h⟩=>by obtain ⟨v,h,_⟩:=h; cases h
theorem At {id d:Nat} {f:FuncId} (A:¬LetsOut B) {cs:Array Operand} {q s:TypeId} {j p:String} {c i:Array Edge} {y:Code} (caps:Array Value) (E:cs.toList.map (ev ⟨n,[],F,none⟩ σ)=caps.toList) (hd:d < n)
 (h:ja P ⟨n,[{target:= .fn (.func f) caps,args:= #[]}],F,none⟩ y B (bX σ d (.func (.func f) #[] caps)) w):
 ja P ⟨n,[],F,none⟩ (.region id #[⟨some d,.makeFunc (.func f) #[] cs,q,j,c,none⟩,⟨none,.defer ⟨.value (.tmp d),#[],#[]⟩,s,p,i,none⟩] false) (Exit.then (y.wpIn (fe none) 0 P B) B) σ w:=by
 have G:cs.map (ev ⟨n,[],F,none⟩ σ)=caps:=Array.toList_inj.1 (by rw [Array.toList_map]; exact E)
 refine wpIn_region ?_
 have C:¬LetsOut (Exit.then (y.wpIn (fe none) 0 P B) B):=fun ⟨a,w,h⟩=>A ⟨a,w,h⟩
 refine pQ (r:=none) C rfl _ _ _ ?_
 show wpOps P _ _ [0,1] _ _
 simp only [wpOps,List.getElem?_toArray,List.getElem?_cons_zero,List.getElem?_cons_succ]
 rw [if_pos (ff _ rfl _)]
 refine .inl ?_
 unfold Oper.wp
 have h1:(execOp (act ⟨n,[],F,none⟩ σ).eval ⟨some d,.makeFunc (.func f) #[] cs,q,j,c,none⟩).run P w= .ok (.value (.func (.func f) #[] caps)) w:=by
  rw [ek,mf,G]; simp
 rw [h1]
 simp only [Oper.upon]
 rw [if_pos (ff _ rfl _),fH]
 refine .inl ?_
 have h2:(execOp (act ⟨n,[],F,none⟩ (dS σ (some d) (.func (.func f) #[] caps))).eval ⟨none,.defer ⟨.value (.tmp d),#[],#[]⟩,s,p,i,none⟩).run P w= .ok (.defer {target:= .fn (.func f) caps,args:= #[]}) w:=by
  have I:ev ⟨n,[],F,none⟩ (bX σ d (.func (.func f) #[] caps)) (.tmp d)= .func (.func f) #[] caps:=by
   show cond (Nat.blt d n) (bX σ d _ d) undef=_
   rw [show Nat.blt d n=true from by simpa using hd]
   show bX σ d _ d=_
   unfold bX; simp
  rw [ek]
  show (execOp (ev ⟨n,[],F,none⟩ (bX σ d (.func (.func f) #[] caps))) _).run P w=_
  simp [execOp,resolve,I,Deferred.ofValue]
 rw [h2]
 exact h
end
theorem Ec {P:Program} {ops:Array Oper} {Q:Exit→Act→List Frame→World→Prop} {cs:List Frame} (c:¬LetsOut fun e a w=>Q e a cs w):∀ (l:List Nat) (a:Act) (w:World),wpOps P ops (fun e a w=>Q e a cs w) l a w→wpOpsS P ops Q l a cs w:=by
 intro l
 induction l with
 | nil=>exact fun _ _ h=>h
 | cons i l ih=>
   intro a w h
   simp only [wpOps] at h
   simp only [wpOpsS]
   cases ho:ops[i]? with
   | none=>simp only [ho] at h ⊢; exact ih a w h
   | some o=>
     simp only [ho] at h ⊢
     by_cases hw:Region.wanted o (yielded ops a.tmps)=true
     · rw [if_pos hw] at h ⊢
       rcases h with h | h
       · unfold Oper.wp at h
         generalize (execOp a.eval o).run P w=x at h
         cases x with
         | ok n w'=>
           cases n <;> simp only [Oper.upon] at h ⊢ <;>
            first
             | exact ih _ _ h
             | exact Calls.mono h (fun e w'' he=>by cases e <;> first | exact ih _ _ he | exact he)
             | exact Rows.mono h (fun v w'' he=>ih _ _ he)
         | halt x w'=>cases x <;> simp only [Oper.upon] at h ⊢ <;> exact h
       · exact absurd h.2 c
     · rw [if_neg hw] at h ⊢
       exact ih _ _ h
theorem Di {P:Program} {ops:Array Oper} {Q j:Exit→Act→World→Prop} (i:∀ e a w,Q e a w→j e a w) (p:¬LetsOut Q):∀ (l:List Oper) (a:Act) (w:World),wpList P ops Q l a w→wpList P ops j l a w:=by
 intro l
 induction l with
 | nil=>exact fun _ _ h=>i _ _ _ h
 | cons o l ih=>
   intro a w h
   unfold wpList at h ⊢
   split at h
   · rename_i hw
     rw [if_pos hw]
     rcases h with h | h
     · left
       unfold Oper.wp at h ⊢
       generalize (execOp a.eval o).run P w=x at h
       cases x with
       | ok n w'=>
         cases n <;> simp only [Oper.upon] at h ⊢ <;>
          first
           | exact ih _ _ h
           | exact Calls.mono h (fun e w'' he=>by
            cases e with
            | returned v=>exact ih _ _ he
            | panicked c=>exact i _ _ _ he
            | outgrown=>exact absurd he p)
           | exact Rows.mono h (fun v w'' he=>ih _ _ he)
       | halt x w'=>cases x <;> simp only [Oper.upon] at h ⊢ <;> exact i _ _ _ h
     · exact absurd h.2 p
   · rename_i hw
     rw [if_neg hw]; exact ih _ _ h
theorem r8 {P:Program} {f:FuncId} {fn:Func} {id N d:Nat} {ty:TypeId} {pos :String} {af:Array Edge} {rest:List Oper} {y:Code} {args:List Value} {w:World} {u q:FrameMode} {v:Value} {R:World→Prop}
 (hf:P.funcs[f]? =some fn) (hb:fn.body=some (.seq (.region id (⟨some d,.call ⟨.builtin .recover,#[],#[]⟩,ty,pos,af,none⟩::rest).toArray false) y)) (I:fn.ntmps=N) (hn:Nat.ble args.length N=true)
 (M:∀ (c₀:Frame) (cs:List Frame),c₀.mode=u→(recoverD (c₀::cs)=some (v,{c₀ with mode:=q} ::cs))∨(recoverD (c₀::cs)=none∧v= .nilIface∧q=u))
 (h:cB P ⟨N,[],[],none⟩ (⟨some d,.call ⟨.builtin .recover,#[],#[]⟩,ty,pos,af,none⟩::rest).toArray (g4 (fun σ w=>bK P ⟨N,[],[],none⟩ y (fin P fn ⟨N,[],[],none⟩ fun _ w=>R w) σ w) (fin P fn ⟨N,[],[],none⟩ fun _ w=>R w)) rest (bX (gL args) d v) w):
 CallsD P f args.toArray u w fun e u1 w'=> ∃ v,e= .returned v∧u1=q∧R w':=by
 subst I
 refine callsD_of_wpS hf hb ?_
 intro c₀ cs hu
 rw [n5 fn args [] hn]
 refine wpS_seq (wpS_region ?_)
 have hsz:List.range (⟨some d,.call ⟨.builtin .recover,#[],#[]⟩,ty,pos,af,none⟩::rest).toArray.size=0::(List.range' 1 rest.length):=by
  rw [List.size_toArray,List.length_cons,List.range_eq_range',List.range'_succ]
 rw [hsz]
 simp only [wpOpsS,List.getElem?_toArray,List.getElem?_cons_zero]
 rw [if_pos (ff _ rfl _)]
 have O:(execOp (act ⟨fn.ntmps,[],[],none⟩ (gL args)).eval ⟨some d,.call ⟨.builtin .recover,#[],#[]⟩,ty,pos,af,none⟩).run P w= .ok .recover w:=by
  rw [ek]
  simp [execOp,resolve,invoke,builtin]
 rw [O]
 simp only
 obtain ⟨s,A⟩:∃ s,s=({c₀ with mode:=q} ::cs:List Frame):=⟨_,rfl⟩
 have J:∀ X:Act→List Frame→Prop,X ((act ⟨fn.ntmps,[],[],none⟩ (gL args)).put (some d) v) s→
  (match recoverD (c₀::cs) with
   | some (v,C)=>X ((act ⟨fn.ntmps,[],[],none⟩ (gL args)).put (some d) v) C
   | none=>X ((act ⟨fn.ntmps,[],[],none⟩ (gL args)).put (some d) .nilIface) (c₀::cs)):=by
  intro X hX
  rcases M c₀ cs hu with h1 | ⟨h1,h2,h3⟩
  rw [h1]; subst A; exact hX
  rw [h1]; subst h2 h3
  have :({c₀ with mode:=q} :Frame)=c₀:=by subst hu; rfl
  rw [this] at A; subst A; exact hX
 refine J (fun a C=>wpOpsS P _ _ _ a C w) ?_
 rw [fH]
 refine Ec ?_ _ _ _ ?_
 rintro ⟨a,w,h⟩
 simp only [Exit.thenS,bodyPostS] at h
 obtain ⟨_,_,h,_⟩:=h; cases h
 have h1:=wpOps_eq_wpList (P:=P) (ops:=(⟨some d,.call ⟨.builtin .recover,#[],#[]⟩,ty,pos,af,none⟩::rest).toArray) (Q:=fun e a w'=>Exit.thenS (Code.wpS P y (bodyPostS P fn c₀ cs fun e u1 w'=> ∃ v,e= .returned v∧u1=q∧R w')) (bodyPostS P fn c₀ cs fun e u1 w'=> ∃ v,e= .returned v∧u1=q∧R w') e a s w') rest 1 (fun j=>by simp [Nat.add_comm])
 rw [h1]
 unfold cB at h
 refine Di ?_ pZ _ _ _ h
 intro e a w' hl
 have G:∀ (e:Exit) (σ:Nat→Value) (w':World),fin P fn ⟨fn.ntmps,[],[],none⟩ (fun _ w=>R w) e σ w'→bodyPostS P fn c₀ cs (fun e u1 w'=> ∃ v,e= .returned v∧u1=q∧R w') e (act ⟨fn.ntmps,[],[],none⟩ σ) s w':=by
  intro e σ w' p
  cases e with
  | normal=>obtain ⟨v,hr,E⟩:=p; exact ⟨rfl,q,A,v,hr,v,rfl,rfl,E⟩
  | ret=>obtain ⟨v,hr,E⟩:=p; exact ⟨rfl,q,A,v,hr,v,rfl,rfl,E⟩
  | _=>exact p.elim
 cases e with
 | normal=>
   obtain ⟨σ,rfl,p⟩:=hl
   refine wpS_of_wp ?_
   simp only [g4] at p
   unfold bK at p
   refine Code.wp_mono ?_ (wpIn_wide.1 p)
   intro e a w' hl
   cases e with
   | panic c=>obtain ⟨σ,rfl,p⟩:=hl; exact (p σ fun _ _=>rfl).elim
   | outgrown=>exact hl.elim
   | _=>obtain ⟨σ,rfl,p⟩:=hl; exact G _ σ w' p
 | panic c=>obtain ⟨σ,rfl,p⟩:=hl; exact (p σ fun _ _=>rfl).elim
 | outgrown=>exact hl.elim
 | ret=>obtain ⟨σ,rfl,p⟩:=hl; exact G .ret σ w' p
 | exit i=>obtain ⟨σ,rfl,p⟩:=hl; exact p.elim
 | goto i=>obtain ⟨σ,rfl,p⟩:=hl; exact p.elim
section
variable {P:Program} {n:Nat} {F:List Nat} {σ:Nat→Value} {w:World} {fn:Func} {R:Value→World→Prop}
theorem Ba {g:FuncId} {caps:Array Value} {M:World→Prop} (hu:(invoke (.fn (.func g) caps) #[]).run P w= .ok (.enter g caps) w)
 (hc:CallsD P g caps .returning w fun e u1 w'=> ∃ v,e= .returned v∧u1= .returning∧M w') (a:∀ w',M w'→∃ v,(results fn (act ⟨n,[{target:= .fn (.func g) caps,args:= #[]}],F,none⟩ σ).tmps).run P w'= .ok v w'∧R v w'):
 qb ⟨n,[{target:= .fn (.func g) caps,args:= #[]}],F,none⟩ (jM P fn R) .ret σ w:=by
 refine leaves_cons (by simp) hu ?_
 refine CallsD.mono hc ?_
 rintro e c w' ⟨v,rfl,rfl,hm⟩
 obtain ⟨v2,h1,h2⟩:=a w' hm
 exact ⟨v2,h1,v2,rfl,h2⟩
theorem Bb {g:FuncId} {caps:Array Value} {M:World→Prop} {v:Value} (hu:(invoke (.fn (.func g) caps) #[]).run P w= .ok (.enter g caps) w)
 (hc:CallsD P g caps (.panicking [{v:=v,recovered:=false}]) w fun e u1 w'=> ∃ x,e= .returned x∧u1= .panicking [{v:=v,recovered:=true}]∧M w') (a:∀ w',M w'→∃ v,(results fn (act ⟨n,[{target:= .fn (.func g) caps,args:= #[]}],F,none⟩ σ).tmps).run P w'= .ok v w'∧R v w'):
 qb ⟨n,[{target:= .fn (.func g) caps,args:= #[]}],F,none⟩ (jM P fn R) (.panic [{v:=v,recovered:=false}]) σ w:=by
 refine leaves_cons (by simp) hu ?_
 refine CallsD.mono hc ?_
 rintro e c w' ⟨x,rfl,rfl,hm⟩
 obtain ⟨v2,h1,h2⟩:=a w' hm
 exact ⟨v2,h1,v2,rfl,h2⟩
end
end Go.Hb
end
section
namespace Go.Hb
open Go.RowKit
def gu (w:World) (B e n:Nat) (v:Value) (xs:List Value):Prop :=
 ∃ a cp,v= .slice a n cp∧n≤cp∧(xs= []∨∃ b o cur z,a=some ⟨b,o,none⟩∧B≤b∧w.heap[b]? =some (.cells cur e z)∧∀ (j:Nat) u,xs[j]? =some u→cur[o+j]? =some u)
theorem Tg.F2 {w:World} {B e n:Nat} {v:Value} {xs:List Value} (h:Tg w B e n v xs):gu w B e n v xs:=by
 obtain ⟨a,cp,rfl,hc,c⟩:=h
 refine ⟨a,cp,rfl,hc,c.imp id ?_⟩
 rintro ⟨b,cur,z,ha,hb,hg,c⟩
 exact ⟨b,0,cur,z,ha,hb,hg,fun j u hu=>by rw [Nat.zero_add]; exact c j u hu⟩
theorem gu.cells {w:World} {B e n cp:Nat} {a:Option Addr} {xs:List Value} (h:gu w B e n (.slice a n cp) xs):n≤cp∧aj w.heap a xs:=by
 obtain ⟨i,p,hv,hc,c⟩:=h
 cases hv
 rcases c with h | ⟨b,o,cur,z,rfl,_,hg,c⟩
 · subst h; exact ⟨hc,aj.nil _ _⟩
 · refine ⟨hc,fun _=>rfl,fun j u hu=> ?_⟩
   show Hb.aw w.heap b (o+j)=_
   rw [aM hg]; exact c j u hu
theorem gu.slice {w:World} {B e n:Nat} {v:Value} {xs:List Value} (h:gu w B e n v xs):∃ a cp,v= .slice a n cp:=let ⟨a,cp,hv,_⟩:=h; ⟨a,cp,hv⟩
theorem gu.md {F:Nat→Prop} {w w':World} {B e n:Nat} {v:Value} {xs:List Value} (h:gu w B e n v xs) (hm:Md F w w') (c:∀ k,F k→∀ cur z,w.heap[k]?≠some (.cells cur e z)):gu w' B e n v xs:=by
 obtain ⟨a,cp,rfl,hc,h | ⟨b,o,cur,z,rfl,hb,hg,i⟩⟩:=h
 · exact ⟨a,cp,rfl,hc,.inl h⟩
 · exact ⟨_,cp,rfl,hc,.inr ⟨b,o,cur,z,rfl,hb,by rw [hm.eX b (Array.getElem?_eq_some_iff.1 hg).1 (fun hk=>c b hk cur z hg)]; exact hg,i⟩⟩
theorem gu.k6 {w:World} {B e n m cp:Nat} {a:Option Addr} {xs:List Value} (h:gu w B e (n+1) (.slice a (n+1) cp) xs) (c:xs.length=(n+1)*m):gu w B e n (.slice (dd a cp 1 m) n (cp - 1)) (xs.drop m):=by
 obtain ⟨p,q,hv,hc,hh⟩:=h
 cases hv
 refine ⟨_,_,rfl,by omega,?_⟩
 rcases hh with rfl | ⟨b,o,cur,z,rfl,hb,hg,i⟩
 · exact .inl (by simp)
 · unfold dd
   by_cases h1:cp=1
   · refine .inl (List.eq_nil_of_length_eq_zero ?_)
     obtain rfl :n=0:=by omega
     rw [List.length_drop,c]; omega
   · rw [if_neg h1]
     refine .inr ⟨b,o+1 *m,cur,z,?_,hb,hg,fun j u hu=> ?_⟩
     · rw [Option.map_some,gv]
     · rw [List.getElem?_drop] at hu
       have :=i _ u hu
       rw [show o+1 *m+j=o+(m+j) from by omega]; exact this
def bO (w:World) (B e:Nat) (vs:List Value) (ls:List (List Nat)):Prop :=vs.length=ls.length∧∀ (i:Nat) v l,vs[i]? =some v→ls[i]? =some l→Tg w B e l.length v (l.map ay)
theorem bO.nil (w:World) (B e:Nat):bO w B e [] []:=⟨rfl,fun i v l hv=>by simp at hv⟩
theorem bO.md {F:Nat→Prop} {w w':World} {B e:Nat} {vs:List Value} {ls:List (List Nat)} (h:bO w B e vs ls) (hm:Md F w w') (a:∀ k,F k→∀ cur z,w.heap[k]?≠some (.cells cur e z)):bO w' B e vs ls:=⟨h.1,fun i v l h1 h2=>(h.2 i v l h1 h2).md hm a⟩
theorem bO.wk {w w':World} {B e:Nat} {vs:List Value} {ls:List (List Nat)} (h:bO w B e vs ls) (hm:Wk w w'):bO w' B e vs ls:=h.md hm fun _ hk=>hk.elim
theorem bO.mono {w:World} {B a e:Nat} {vs:List Value} {ls:List (List Nat)} (h:bO w B e vs ls) (c:a≤B):bO w a e vs ls:=⟨h.1,fun i v l h1 h2=>(h.2 i v l h1 h2).mono c⟩
theorem bO.snoc {w:World} {B e:Nat} {vs:List Value} {ls:List (List Nat)} {v:Value} {l:List Nat} (ha:bO w B e vs ls) (a:Tg w B e l.length v (l.map ay)):bO w B e (vs++ [v]) (ls++ [l]):=by
 refine ⟨by rw [List.length_append,List.length_append,ha.1]; rfl,fun i c p h1 h2=> ?_⟩
 have hl:=ha.1
 by_cases hi:i < vs.length
 · rw [List.getElem?_append_left hi] at h1
   rw [List.getElem?_append_left (by omega)] at h2
   exact ha.2 i c p h1 h2
 · rw [List.getElem?_append_right (by omega)] at h1
   rw [List.getElem?_append_right (by omega),← hl] at h2
   cases hj:i - vs.length with
   | zero=>rw [hj] at h1 h2; cases h1; cases h2; exact a
   | succ j=>rw [hj] at h1; simp at h1
def eu (t ln:Nat) (e:Int):List PanicEntry:= [{v:= .iface t (.agg [.int .i64 1,.int .i64 (ln:Nat),.int .i64 e].toArray),recovered:=false}]
theorem bW {h:World} {b:Nat} {isK:Value→Prop} {f:Value→Option Value} (hm:bf h.heap b isK f):tag h b=1:=let ⟨_,h1,_⟩:=hm; FY h1
def Wr (L:List Nat) (ms mt mc B:Nat) (w:World) (k:Nat):Prop :=B≤k∧(k=ms∨k=mt∨k=mc∨L.contains (tag w k)=true)
abbrev Mw (L:List Nat) (ms mt mc B:Nat) (w w':World):Prop :=Md (Wr L ms mt mc B w) w w'
section
variable {L:List Nat} {ms mt mc B:Nat} {w w' w'':World}
theorem Mw.trans (h:Mw L ms mt mc B w w') (a:Mw L ms mt mc B w' w''):Mw L ms mt mc B w w'':=by
 refine Md.trans' h a fun k hk hw=> ?_
 refine Classical.byContradiction fun hn=> ?_
 have :=Md.tag h hk hn
 unfold Wr at hw
 rw [this] at hw
 exact hn hw
theorem Wk.mw (h:Wk w w'):Mw L ms mt mc B w w':=h.mono fun _ _ hf=>hf.elim
theorem Mw.of {F:Nat→Prop} (h:Md F w w') (c:TF w L F) (a:∀ k,F k→B≤k):Mw L ms mt mc B w w':=h.mono fun k _ hf=>⟨a k hf,.inr (.inr (.inr (c k hf)))⟩
theorem Mw.wk {a:World} (h0:Wk a w) (h:Mw L ms mt mc B w w') (c:a.heap.size≤B):Wk a w':=Md.trans' h0 h fun k hk hw=>by have :=hw.1; omega
theorem Wr.ne (hs:tag w ms=1) (a:tag w mt=1) (hc:tag w mc=1) {e:Nat} (hl:L.contains (e+2)=false):∀ k,Wr L ms mt mc B w k→∀ cur z,w.heap[k]?≠some (.cells cur e z):=by
 rintro k ⟨_,rfl | rfl | rfl | h⟩ cur z hg <;> have h9:=cQ hg
 · omega
 · omega
 · omega
 · rw [h9,hl] at h; cases h
end
end Go.Hb
end
section
namespace Go.Hb
open Go.RowKit
section
variable {P:Program} {N:Fm} {σ:Nat→Value} {w:World} {dst:Option Nat} {ty:TypeId} {pos :String} {af:Array Edge} {g:Option (Nat×Bool)} {x y:Operand}
theorem AZ (d:Nat) {t e:TypeId} {a:Option Addr} {n c:Nat} (hu:P.underlying t=some (.slice e)):(Op.equalIn (d+1) t (.slice a n c) (.slice none 0 0)).run P w= .ok a.isNone w:=by
 cases a <;> simp [Op.equalIn,bV hu]
theorem A0 {t e:TypeId} {a:Option Addr} {n c:Nat} (hu:P.underlying t=some (.slice e)):(Op.equal t (.slice a n c) (.slice none 0 0)).run P w= .ok a.isNone w:=AZ 9999 hu
theorem k9 {t j e:TypeId} {a:Option Addr} {n c:Nat} (hu:P.underlying t=some (.slice e)) (i:ev N σ x= .slice a n c) (hy:ev N σ y= .slice none 0 0):
 (execOp (ev N σ) ⟨dst,.binOp .eql t x y j,ty,pos,af,g⟩).run P w= .ok (.value (.bool a.isNone)) w:=by
 have h:(binOp .eql t (.slice a n c) (.slice none 0 0)).run P w= .ok (.bool a.isNone) w:=by
  simp only [binOp]; simp [A0 hu]
 simp [execOp,i,hy,eqGuard,h]
end
def Rd (h:Array Obj) (v:Value) (n size:Nat) (xs:List Value):Prop := ∃ a c,v= .slice a n c∧aj h a xs∧xs.length=n*size∧(a=none→n=0)
theorem Rd.fU {w:World} {B e size n:Nat} {v:Value} {xs:List Value} (h:w.ownsRow B e size v n xs):Rd w.heap v n size xs:=by
 obtain ⟨a,c,rfl,h1,_,_,h3⟩:=lA h
 refine ⟨a,c,rfl,h1,h.1,fun ha=> ?_⟩
 subst ha
 rcases h.2 with ⟨h4,h5⟩ | ⟨g,cap,cur,h4,_⟩
 · exact h5
 · simp at h4
theorem uT {w:World} {B e size n k cp:Nat} {a:Option Addr} {xs:List Value} (h:w.ownsRow B e size (.slice a n cp) n xs) (hk:k≤n) (ha:a≠none):w.ownsRow B e size (.slice a k cp) k (xs.take (k*size)):=by
 obtain ⟨h0,h⟩:=h
 refine ⟨by rw [List.length_take,h0]; exact Nat.min_eq_left (Nat.mul_le_mul_right _ hk),?_⟩
 rcases h with ⟨h1,_⟩ | ⟨g,cap,cur,h1,h2,h3,h4,h5,c,i⟩
 · simp only [Value.slice.injEq] at h1; exact absurd h1.1 ha
 · simp only [Value.slice.injEq,true_and] at h1
   obtain ⟨rfl,rfl⟩:=h1
   refine .inr ⟨g,_,cur,rfl,h2,h3,by omega,h5,c,?_⟩
   rw [← i,List.take_take,Nat.min_eq_left (Nat.mul_le_mul_right _ hk)]
section
variable {P:Program} {N:Fm} {σ:Nat→Value} {w:World} {dst:Option Nat} {ty:TypeId} {pos :String} {af:Array Edge} {g:Option (Nat×Bool)} {x y z u:Operand} {K:(Nat→Value)→World→Prop}
theorem Fz {t n len cap:Nat} {a:Option Addr} {k p s:IntKind} {i j m:Nat} (he:et P t=some n) (c:ev N σ x= .slice a len cap) (hy:ev N σ y= .int k (i:Nat)) (hz:ev N σ z= .int p (j:Nat)) (hu:ev N σ u= .int s (m:Nat)) (h:i≤j∧j≤m∧m≤cap):
 (execOp (ev N σ) ⟨dst,.slice t x (some y) (some z) (some u),ty,pos,af,g⟩).run P w= .ok (.value (.slice (dd a m i n) (j - i) (m - i))) w:=by
 have h1:(0:Int)≤(i:Int):=by omega
 have h2:(0:Int)≤(j:Int):=by omega
 have h3:(0:Int)≤(m:Int):=by omega
 unfold et at he
 cases hd:P.underlying t with
 | none=>rw [hd] at he; cases he
 | some d=>
   rw [hd] at he
   cases d <;> first | (cases he; done) | skip
   rename_i e
   cases hi':P.info? e with
   | none=>simp [hi'] at he
   | some q=>
     simp only [hi',Option.map_some,Option.some.injEq] at he
     subst he
     simp only [execOp,Instr.sliceAt,Instr.slice,c,hy,hz,hu,Option.map_some,Instr.sliceBounds,Instr.sliceBound,asIntOf]
     simp [bV hd,eh hi',sizeOf,h.1,h.2.1,h.2.2,dd]
theorem xy {t e size bytes B n m cp c gg:Nat} {xs news:List Value} {a:Option Addr} (E:ei P t e size bytes=true) (s:w.ownsRow B e size (.slice (some ⟨gg,0,none⟩) n cp) n xs) (G:ev N σ x= .slice (some ⟨gg,0,none⟩) n cp)
 (hy:ev N σ y= .slice a m c) (hc:aj w.heap a news) (ha:a≠none) (hl:news.length=m*size) (h1:news.all Value.oneCell'=true) (C:n+m≤cp)
 (k:∀ w',Md (fun q=>q=gg) w w'→w'.ownsRow B e size (.slice (some ⟨gg,0,none⟩) (n+m) cp) (n+m) (xs++news)→K (dS σ dst (.slice (some ⟨gg,0,none⟩) (n+m) cp)) w'):
 bD P N ⟨dst,.call ⟨.builtin .append,#[x,y],#[t,t]⟩,ty,pos,af,g⟩ σ w K:=by
 obtain ⟨hu,i,zv,hi,hz,hs,hby,J,I⟩:=kH E
 obtain ⟨ad,rfl⟩:∃ ad,a=some ad:=by cases a with | none=>exact absurd rfl ha | some ad=>exact ⟨ad,rfl⟩
 have hn:∀ j v,news[j]? =some v→w.cell? (ad.add j)=some v:=fun j v p=>by
  have hne:news≠[]:=fun e=>by rw [e] at p; simp at p
  have h2:=hc.ok hne
  simp only [Option.some.injEq] at h2
  rw [h2,gv,g8]; exact hc.aw j v p
 obtain ⟨w',hr,h2,h3⟩:=Go.run_append_fits (P:=P) (w:=w) B t ty e i size hu hi hs gg n cp xs s ad m c news hl hn (lU h1) C
 refine il (w':=w') (v:= .slice (some ⟨gg,0,none⟩) (n+m) cp) ?_ (k w' ⟨h3.os,h3.output,h3.size,fun q A hne=>h3.block q A (fun e=>hne (Option.some.inj e))⟩ h2)
 simp [execOp,resolve,invoke,builtin,G,hy,hr]
end
end Go.Hb
end
section
namespace Go.Hb
def kq (P:Program) (t:TypeId):Option (Nat×Nat):=
 match P.underlying t with
 | some (.array n e)=>(P.info? e).map fun i=>(n,i.size)
 | _=>none
section
variable {P:Program} {N:Fm} {σ:Nat→Value} {w:World} {dst:Option Nat} {ty:TypeId} {pos :String} {af:Array Edge} {g:Option (Nat×Bool)} {x y:Operand}
theorem h8 {t n a b off :Nat} {k:IntKind} {i:Int} (he:kq P t=some (n,a)) (c:ev N σ x= .pointer (some ⟨b,off,none⟩)) (hy:ev N σ y= .int k i) (h0:0≤i∧i < n):
 (execOp (ev N σ) ⟨dst,.indexAddr t x y,ty,pos,af,g⟩).run P w= .ok (.value (.pointer (some ⟨b,off+i.toNat*a,none⟩))) w:=by
 unfold kq at he
 cases hd:P.underlying t with
 | none=>rw [hd] at he; cases he
 | some d=>
   rw [hd] at he
   cases d <;> first | (cases he; done) | skip
   rename_i m e
   cases hi:P.info? e with
   | none=>simp [hi] at he
   | some j=>
     simp only [hi,Option.map_some,Option.some.injEq,Prod.mk.injEq] at he
     obtain ⟨rfl,rfl⟩:=he
     simp [execOp,Instr.indexAt,Instr.sureAddr,c,hy,asIntOf,bV hd,h0.1,h0.2,sizeOf,eh hi,gv]
end
theorem DF {h:Array Obj} {b:Nat} {a:List UInt8} (i:a9 h b (marksOf a)) (c:UInt8):Hb.aw h b (0 +((c.toNat:Nat):Int).toNat*1)=some (.bool (decide (c∈a))):=by
 rw [i.aw,show 0 +((c.toNat:Nat):Int).toNat*1=c.toNat from by omega]; exact DC a c
theorem DG {h:Array Obj} {b:Nat} {a:List UInt8} {c:UInt8} (i:a9 h b ((marksOf a).set (0 +((c.toNat:Nat):Int).toNat*1) (.bool true))):a9 h b (marksOf (a++ [c])):=by
 rw [show 0 +((c.toNat:Nat):Int).toNat*1=c.toNat from by omega,DE] at i; exact i
end Go.Hb
end
section
namespace Go.Hb
theorem CO (c:UInt8):∀ l:List UInt8,Lib.indexByte l c=cD c l:=by
 intro l
 induction l with
 | nil=>rfl
 | cons b l ih=>
   unfold Lib.indexByte
   rw [ih]
   rw [show cD c (b::l)=if (b::l).idxOf c < (b::l).length then ((b::l).idxOf c:Int) else -1 from rfl,List.idxOf_cons]
   by_cases h:(b==c)=true
   · rw [if_pos h,h]; rfl
   · have i:(b==c)=false :=by simpa using h
     rw [if_neg h,i]
     simp only [cond_false,List.length_cons]
     by_cases h1:l.idxOf c < l.length
     · have a:cD c l=l.idxOf c:=if_pos h1
       rw [a,if_neg (fun hb=>by have :=eq_of_beq hb; omega),if_pos (by omega)]; rfl
     · have a:cD c l= -1:=if_neg h1
       rw [a,if_pos (by decide),if_neg (by omega)]
theorem Ff {P:Program} {f:FuncId} {fn:Func} (hf:P.funcs[f]? =some fn) (a:(fn.name== "runtime.NumGoroutine")=false) (hb:fn.body.isNone=true) (hn:Extern.findNext fn=none)
 (he:Extern.find fn=some Extern.BytealgIndexByte.indexByte) (l:List UInt8) (c:UInt8) (w:World):(callFunc f #[str l,.int .u8 c.toNat]).run P w= .ok (.value (.int .i64 (cD c l))) w:=by
 rw [run_callFunc_extern hf a hb hn he]
 unfold str
 rw [Lib.run_indexByteString]
 have h1:((c.toNat:Int)).toNat.toUInt8=c:=UInt8.toNat_inj.1 (by simp)
 rw [h1,CO]
 rfl
theorem Fe {P:Program} {f:FuncId} {fn:Func} (hf:P.funcs[f]? =some fn) (a:(fn.name== "runtime.NumGoroutine")=false) (hb:fn.body.isNone=true) (hn:Extern.findNext fn=none)
 (he:Extern.find fn=some Extern.BytealgCount.count) (l:List UInt8) (c:UInt8) (w:World):(callFunc f #[str l,.int .u8 c.toNat]).run P w= .ok (.value (.int .i64 (l.count c:Nat))) w:=by
 rw [run_callFunc_extern hf a hb hn he]
 unfold str
 rw [Lib.run_countString]
 have h1:((c.toNat:Int)).toNat.toUInt8=c:=UInt8.toNat_inj.1 (by simp)
 rw [h1]
 rfl
section
variable {P:Program} {N:Fm} {σ:Nat→Value} {w:World} {dst:Option Nat} {ty:TypeId} {pos :String} {af:Array Edge} {g:Option (Nat×Bool)}
theorem si {f:FuncId} {a b v:Value} {args:Array Operand} {c:Array TypeId} (h:(callFunc f #[a,b]).run P w= .ok (.value v) w) (i:args.toList.map (ev N σ)= [a,b]):
 (execOp (ev N σ) ⟨dst,.call ⟨.value (.func f),args,c⟩,ty,pos,af,g⟩).run P w= .ok (.value v) w:=by
 have :args.map (ev N σ)= #[a,b]:=by rw [← Array.toList_inj,Array.toList_map,i]
 simp [execOp,resolve,ev,Deferred.ofValue,invoke,this,h]
end
end Go.Hb
end
section
namespace Go.Hb
open Go.RowKit
theorem Fl {L:List Value} {o:Nat} {v:Value} (h:o < L.length):(L.set o v).take (o+1)=L.take o++ [v]:=by
 rw [List.set_eq_take_append_cons_drop,if_pos h,List.take_append,List.length_take,Nat.min_eq_left (by omega),Nat.add_sub_cancel_left,List.take_of_length_le (by rw [List.length_take]; omega)]
 rfl
theorem Fk {L:List Value} {o m:Nat} {v:Value} (h:o < m):(L.set o v).drop m=L.drop m:=by
 rw [List.drop_set,if_pos h]
theorem vt (b e:Nat):∀ (vs:List Value) (o:Nat) (L:List Value) (w:World),w.heap[b]? =some (.cells L.toArray e (0,0))→o+vs.length≤L.length→
 (w.setCells b o vs).heap[b]? =some (.cells (L.take o++vs++L.drop (o+vs.length)).toArray e (0,0))∧Md (fun k=>k=b) w (w.setCells b o vs):=by
 intro vs
 induction vs with
 | nil=>intro o L w hb _; exact ⟨by simpa [World.setCells] using hb,Md.refl _ _⟩
 | cons v r ih=>
   intro o L w hb hl
   simp only [List.length_cons] at hl
   have h1:(w.setCell ⟨b,o,none⟩ v).heap[b]? =some (.cells (L.set o v).toArray e (0,0)):=by
    have hlt:=(Array.getElem?_eq_some_iff.1 hb).1
    have hv:w.heap[b]= .cells L.toArray e (0,0):=(Array.getElem?_eq_some_iff.1 hb).2
    simp only [World.setCell]
    rw [Array.getElem?_eq_getElem (by simpa using hlt),Array.getElem_modify]
    simp [hv,List.setIfInBounds_toArray]
   have a:Md (fun k=>k=b) w (w.setCell ⟨b,o,none⟩ v):=⟨rfl,rfl,by simp [World.setCell],fun k _ hk=>Below.heap_setCell w _ v k hk⟩
   obtain ⟨h2,h3⟩:=ih (o+1) (L.set o v) _ h1 (by rw [List.length_set]; omega)
   refine ⟨?_,Md.trans a h3⟩
   show ((w.setCell ⟨b,o,none⟩ v).setCells b (o+1) r).heap[b]? =_
   rw [h2,Fl (by omega),Fk (by omega),List.length_cons,show o+1 +r.length=o+(r.length+1) from by omega]
   simp
section
variable {P:Program} {N:Fm} {σ:Nat→Value} {w:World} {ty:TypeId} {pos :String} {af:Array Edge} {g:Option (Nat×Bool)} {x:Operand} {K:(Nat→Value)→World→Prop}
theorem zx {t e B n k cp i m:Nat} {a:Option Addr} {xs:List Value} {z:Value} (M:P.underlying t=some (.slice e)) (hz:zeroV P e=some z) (h1:z.oneCell'=true) (G:w.ownsRow B e 1 (.slice a n cp) n xs)
 (p:ev N σ x= .slice (dd a cp k 1) m i) (hm:m=n - k) (hk:k < n) (U:∀ w',Md (fun q=>(Value.slice a n cp).ownBlock=some q) w w'→w'.ownsRow B e 1 (.slice a n cp) n (xs.take k++List.replicate (n - k) z)→K σ w'):
 bD P N ⟨none,.call ⟨.builtin .clear,#[x],#[t]⟩,ty,pos,af,g⟩ σ w K:=by
 obtain ⟨h0,h⟩:=G
 subst hm
 rcases h with ⟨h,rfl⟩ | ⟨gg,V,cur,h,A,hg,hle,C,hsz,O⟩
 · omega
 · simp only [Value.slice.injEq,true_and] at h
   obtain ⟨rfl,rfl⟩:=h
   have J:dd (some ⟨gg,0,none⟩) cp k 1=some ⟨gg,k,none⟩:=by
    unfold dd; rw [if_neg (by omega)]; simp [gv]
   rw [J] at p
   have c:w.heap[gg]? =some (.cells cur.toList.toArray e (0,0)):=by simpa using hg
   have hcl:cur.toList.length=cp*1:=by rw [Array.length_toList]; exact hsz
   have hrun:=Lib.run_clear_slice (P:=P) w t e ty z M (fun w=>oB hz w) (by cases z <;> first | rfl | (cases h1; done)) h1 gg k (n - k) i (by omega)
    (fun j E=>by rw [g8,aM c]; simp; omega) (fun j E=>by simp only [World.frozen?,show w.heap[gg]? =_ from c]; simp)
   obtain ⟨h2,h3⟩:=vt gg e (List.replicate (n - k) z) k cur.toList w c (by rw [List.length_replicate,hcl]; omega)
   refine il (w':=w.setCells gg k (List.replicate (n - k) z)) (v:= .tuple #[]) ?_ (U _ (h3.mono fun q _ I=>by subst I; rfl) ⟨?_,.inr ⟨gg,cp,_,rfl,A,h2,hle,C,?_,?_⟩⟩)
   · simp [execOp,resolve,invoke,builtin,p,hrun]
   · rw [List.length_append,List.length_take,List.length_replicate,h0]; omega
   · simp only [List.size_toArray,List.length_append,List.length_take,List.length_drop,List.length_replicate,hcl]; omega
   · rw [List.length_replicate,Nat.mul_one]
     have s:(cur.toList.take k++List.replicate (n - k) z++cur.toList.drop (k+(n - k))).toArray.toList=(cur.toList.take k++List.replicate (n - k) z)++cur.toList.drop (k+(n - k)):=rfl
     rw [s,List.take_append,List.length_append,List.length_take,List.length_replicate,hcl,Nat.min_eq_left (by omega),show n - (k+(n - k))=0 by omega,List.take_zero,List.append_nil,List.take_of_length_le (by rw [List.length_append,List.length_take,List.length_replicate,hcl]; omega)]
     rw [← O,List.take_take,Nat.mul_one,Nat.min_eq_left (by omega)]
theorem zy {t e B n cp i m:Nat} {a:Option Addr} {xs:List Value} {z:Value} (M:P.underlying t=some (.slice e)) (hz:zeroV P e=some z) (h1:z.oneCell'=true) (G:w.ownsRow B e 1 (.slice a n cp) n xs) (ha:a≠none)
 (p:ev N σ x= .slice (dd a cp n 1) m i) (hm:0 < m∧n+m≤cp) (U:∀ w',Md (fun q=>(Value.slice a n cp).ownBlock=some q) w w'→w'.ownsRow B e 1 (.slice a n cp) n xs→K σ w'):
 bD P N ⟨none,.call ⟨.builtin .clear,#[x],#[t]⟩,ty,pos,af,g⟩ σ w K:=by
 obtain ⟨h0,h⟩:=G
 rcases h with ⟨h,rfl⟩ | ⟨gg,V,cur,h,A,hg,hle,C,hsz,O⟩
 · simp only [Value.slice.injEq] at h; exact absurd h.1 ha
 · simp only [Value.slice.injEq,true_and] at h
   obtain ⟨rfl,rfl⟩:=h
   have J:dd (some ⟨gg,0,none⟩) cp n 1=some ⟨gg,n,none⟩:=by
    unfold dd; rw [if_neg (by omega)]; simp [gv]
   rw [J] at p
   have c:w.heap[gg]? =some (.cells cur.toList.toArray e (0,0)):=by simpa using hg
   have hcl:cur.toList.length=cp*1:=by rw [Array.length_toList]; exact hsz
   have hrun:=Lib.run_clear_slice (P:=P) w t e ty z M (fun w=>oB hz w) (by cases z <;> first | rfl | (cases h1; done)) h1 gg n m i hm.1
    (fun j E=>by rw [g8,aM c]; simp; omega) (fun j E=>by simp only [World.frozen?,show w.heap[gg]? =_ from c]; simp)
   obtain ⟨h2,h3⟩:=vt gg e (List.replicate m z) n cur.toList w c (by rw [List.length_replicate,hcl]; omega)
   refine il (w':=w.setCells gg n (List.replicate m z)) (v:= .tuple #[]) ?_ (U _ (h3.mono fun q _ I=>by subst I; rfl) ⟨h0,.inr ⟨gg,cp,_,rfl,A,h2,hle,C,?_,?_⟩⟩)
   · simp [execOp,resolve,invoke,builtin,p,hrun]
   · simp only [List.size_toArray,List.length_append,List.length_take,List.length_drop,List.length_replicate,hcl]; omega
   · rw [List.length_replicate,Nat.mul_one]
     have s:(cur.toList.take n++List.replicate m z++cur.toList.drop (n+m)).toArray.toList=cur.toList.take n++(List.replicate m z++cur.toList.drop (n+m)):=List.append_assoc _ _ _
     rw [s,List.take_append,List.length_take,hcl,Nat.min_eq_left (by omega),Nat.sub_self,List.take_zero,List.append_nil,List.take_of_length_le (by rw [List.length_take]; omega),← O,Nat.mul_one]
end
end Go.Hb
end
section
namespace Go.Hb
open Go.RowKit
def oJ (P:Program) (t:TypeId):Option (List Value):=
 match P.info? t,P.underlying t with
 | some it,some (.array _ e)=>
   match it.zero,P.info? e with
   | some z,some ie=>if ie.size=1 then some z.cells.toList else none
   | _,_=>none
 | _,_=>none
def my:List Value→List (Nat×Value)→Option (List Value)
 | a,[]=>some a
 | a,(i,v)::r=>if (v.oneCell' && Nat.blt i a.length)=true then my (a.set i v) r else none
theorem EH {a L:List Value} {ps:List (Nat×Value)} (h:my a ps=some L):Instr.fill (fun i=>some (i*1,1)) a.toArray ps=some L.toArray:=by
 induction ps generalizing a with
 | nil=>simp only [my,Option.some.injEq] at h; subst h; rfl
 | cons q r ih=>
   obtain ⟨i,v⟩:=q
   rw [my] at h
   split at h
   · rename_i hc
     simp only [Bool.and_eq_true] at hc
     have hv:=j4 hc.1
     have c:i < a.length:=Nat.le_of_ble_eq_true hc.2
     simp only [Instr.fill,hv,Nat.mul_one]
     rw [if_neg (by simp; omega)]
     have :=ih h
     simp only [Nat.mul_one] at this
     rw [← this]
     simp
   · cases h
section
variable {P:Program} {N:Fm} {σ:Nat→Value} {w:World} {dst:Option Nat} {ty:TypeId} {pos :String} {af:Array Edge} {g:Option (Nat×Bool)}
theorem rr {t:TypeId} {parts:Array (Nat×Operand)} {a L:List Value} {ps:List (Nat×Value)} (h:oJ P t=some a) (hp:parts.toList.map (fun q=>(q.1,ev N σ q.2))=ps) (c:my a ps=some L):
 (execOp (ev N σ) ⟨dst,.build t parts,ty,pos,af,g⟩).run P w= .ok (.value (.agg L.toArray)) w:=by
 unfold oJ at h
 split at h
 · rename_i it n e hi hu
   split at h
   · rename_i z i hz he
     split at h
     · rename_i hs
       simp only [Option.some.injEq] at h
       subst h
       have hb:P.built t (parts.map (fun q=>(q.1,ev N σ q.2))).toList=some L.toArray:=by
        have :=EH c
        simp only [Array.toArray_toList] at this
        simp only [Program.built,hi,hu,hz,he,hs,Array.toList_map,hp]; exact this
       simp [execOp,run_build w t _ _ hb]
     · cases h
   · cases h
 · cases h
end
end Go.Hb
end
section
namespace Go.Hb
abbrev cE:Type :=Tx×List Nat
noncomputable def dV (F:aB) (row:List Tx):Except Nat cE:=
 if row.length≠1 then .error 111
 else if (aV (row.getD 0 [])).2.2.2≠0 then .error (aV (row.getD 0 [])).2.2.2
 else if ed (aV (row.getD 0 [])).1=false∨(aV (row.getD 0 [])).1= [] then .error 21
 else if 64 < (aV (row.getD 0 [])).1.length then .error 22
 else if (aV (row.getD 0 [])).2.2.1=false then .ok ((aV (row.getD 0 [])).1,[])
 else match dN F.kind F.aliases (aV (row.getD 0 [])).2.1 with
  | .error e=> .error e
  | .ok set =>if set.all (cJ F)=true then .ok ((aV (row.getD 0 [])).1,set) else .error 120
section
variable {F:aB} {row:List Tx}
theorem AL (h:row.length≠1):dV F row= .error 111:=if_pos h
theorem AM (h:row.length=1) (h1:(aV (row.getD 0 [])).2.2.2≠0):dV F row= .error (aV (row.getD 0 [])).2.2.2:=by
 unfold dV; rw [if_neg (fun h2=>h2 h),if_pos h1]
variable (h:row.length=1) (h1:(aV (row.getD 0 [])).2.2.2=0)
include h h1
theorem sM (h2:ed (aV (row.getD 0 [])).1=false∨(aV (row.getD 0 [])).1= []):dV F row= .error 21:=by
 unfold dV; rw [if_neg (fun h2=>h2 h),if_neg (fun h2=>h2 h1),if_pos h2]
variable (h2:ed (aV (row.getD 0 [])).1=true) (h3:(aV (row.getD 0 [])).1≠[])
include h2 h3
omit h h1 in
theorem l2:¬(ed (aV (row.getD 0 [])).1=false∨(aV (row.getD 0 [])).1= []):=fun h=>h.elim (fun h=>by rw [h2] at h; cases h) h3
theorem AN (h4:64 < (aV (row.getD 0 [])).1.length):dV F row= .error 22:=by
 unfold dV; rw [if_neg (fun h2=>h2 h),if_neg (fun h2=>h2 h1),if_neg (l2 h2 h3),if_pos h4]
variable (h4:¬64 < (aV (row.getD 0 [])).1.length)
include h4
theorem sN (h5:(aV (row.getD 0 [])).2.2.1=false):dV F row= .ok ((aV (row.getD 0 [])).1,[]):=by
 unfold dV; rw [if_neg (fun h2=>h2 h),if_neg (fun h2=>h2 h1),if_neg (l2 h2 h3),if_neg h4,if_pos h5]
variable (h5:(aV (row.getD 0 [])).2.2.1=true)
include h5
theorem AO {e:Nat} (a:dN F.kind F.aliases (aV (row.getD 0 [])).2.1= .error e):dV F row= .error e:=by
 unfold dV; rw [if_neg (fun h2=>h2 h),if_neg (fun h2=>h2 h1),if_neg (l2 h2 h3),if_neg h4,if_neg (by rw [h5]; exact Bool.noConfusion),a]
theorem AP {set :List Nat} {i:Nat} (a:dN F.kind F.aliases (aV (row.getD 0 [])).2.1= .ok set) (hi:i < set.length) (c:cJ F (set.getD i 0)=false):dV F row= .error 120:=by
 unfold dV; rw [if_neg (fun h2=>h2 h),if_neg (fun h2=>h2 h1),if_neg (l2 h2 h3),if_neg h4,if_neg (by rw [h5]; exact Bool.noConfusion),a]
 exact if_neg (by rw [ra 0 hi c]; exact Bool.noConfusion)
theorem sO {set :List Nat} (a:dN F.kind F.aliases (aV (row.getD 0 [])).2.1= .ok set) (c:∀ i,i < set.length→cJ F (set.getD i 0)=true):dV F row= .ok ((aV (row.getD 0 [])).1,set):=by
 unfold dV; rw [if_neg (fun h2=>h2 h),if_neg (fun h2=>h2 h1),if_neg (l2 h2 h3),if_neg h4,if_neg (by rw [h5]; exact Bool.noConfusion),a]
 exact if_pos (rf 0 c)
end
noncomputable def cz (F:aB) (eof:Nat):Nat→List Rw→Except (Nat×Nat) (List cE)
 | 0,[]=> .ok []
 | _+1,[]=> .error (eof,116)
 | 0,(ln,_)::_=> .error (ln,116)
 | n+1,(ln,row)::rows=>match dV F row with
   | .error e=> .error (ln,e)
   | .ok x=>match cz F eof n rows with
     | .error e=> .error e
     | .ok r=> .ok (x::r)
noncomputable def c9 (F:aB) (t:Tx):Except (Nat×Nat) (List cE):=
 if 65536 < t.length then .error (0,10)
 else match cg t with
  | []=> .error ((aR t).length+1,116)
  | (ln,row)::rows=>if row.length≠1 then .error (ln,111) else match cA (row.getD 0 []) 8192 with
    | .error e=> .error (ln,e)
    | .ok n=>cz F ((aR t).length+1) n rows
def eB (F:aB) (eof:Nat) (T:Except (Nat×Nat) (List cE)) (xs:List cE) (n:Nat) (rows:List Rw):Prop :=
 T=match cz F eof n rows with
  | .error e=> .error e
  | .ok r=> .ok (xs++r)
section
variable {F:aB} {eof n ln:Nat} {T:Except (Nat×Nat) (List cE)} {xs:List cE} {rows:List Rw} {row:List Tx}
theorem eB.start:eB F eof (cz F eof n rows) [] n rows:=by
 unfold eB; cases cz F eof n rows <;> rfl
theorem eB.done (h:eB F eof T xs 0 []):T= .ok xs:=by
 unfold eB at h; rw [cz] at h; simpa using h
theorem eB.ends (h:eB F eof T xs n []) (hn:0 < n):T= .error (eof,116):=by
 obtain ⟨m,rfl⟩:∃ m,n=m+1:=⟨n - 1,by omega⟩
 unfold eB at h; rw [cz] at h; exact h
theorem eB.more (h:eB F eof T xs 0 ((ln,row)::rows)):T= .error (ln,116):=by
 unfold eB at h; rw [cz] at h; exact h
theorem eB.bad {e:Nat} (h:eB F eof T xs n ((ln,row)::rows)) (hn:0 < n) (he:dV F row= .error e):T= .error (ln,e):=by
 obtain ⟨m,rfl⟩:∃ m,n=m+1:=⟨n - 1,by omega⟩
 unfold eB at h; rw [cz,he] at h; exact h
theorem eB.step {x:cE} (h:eB F eof T xs n ((ln,row)::rows)) (hn:0 < n) (he:dV F row= .ok x):eB F eof T (xs++ [x]) (n - 1) rows:=by
 obtain ⟨m,rfl⟩:∃ m,n=m+1:=⟨n - 1,by omega⟩
 unfold eB at h ⊢; rw [cz,he] at h
 rw [h,Nat.add_sub_cancel]
 simp only
 cases cz F eof m rows <;> simp
end
section
variable {F:aB} {t:Tx}
theorem sF (h:65536 < t.length):c9 F t= .error (0,10):=if_pos h
theorem Az (h:¬65536 < t.length) (h1:cg t= []):c9 F t= .error ((aR t).length+1,116):=by
 unfold c9; rw [if_neg h,h1]
variable {ln:Nat} {row:List Tx} {rows:List Rw} (h:¬65536 < t.length) (h1:cg t=(ln,row)::rows)
include h h1
theorem Ay (h2:row.length≠1):c9 F t= .error (ln,111):=by
 unfold c9; rw [if_neg h,h1]; exact if_pos h2
theorem AA (h2:row.length=1) {e:Nat} (h3:cA (row.getD 0 []) 8192= .error e):c9 F t= .error (ln,e):=by
 unfold c9; rw [if_neg h,h1]; simp only; rw [if_neg (fun h=>h h2),h3]
theorem sE (h2:row.length=1) {n:Nat} (h3:cA (row.getD 0 []) 8192= .ok n):c9 F t=cz F ((aR t).length+1) n rows:=by
 unfold c9; rw [if_neg h,h1]; simp only; rw [if_neg (fun h=>h h2),h3]
end
theorem B4 {α:Type} {a b:List α} {i:Nat} {d:α} (h:i < a.length):(a++b).getD i d=a.getD i d:=by
 rw [List.getD_eq_getElem?_getD,List.getD_eq_getElem?_getD,List.getElem?_append_left h]
def idxs (s:Tx) (xs:List cE):List Nat:=(List.range xs.length).filter fun i=>decide ((xs.getD i ([],[])).1=s)
theorem pP (s:Tx) (xs:List cE) (x:cE):idxs s (xs++ [x])=idxs s xs++(if x.1=s then [xs.length] else []):=by
 unfold idxs
 rw [List.length_append,List.length_singleton,List.range_succ,List.filter_append]
 congr 1
 · refine List.filter_congr fun i hi=> ?_
   have hi:i < xs.length:=by simpa using hi
   rw [B4 hi]
 · by_cases a:x.1=s <;> simp [List.filter,a]
theorem tP (s:Tx) (xs:List cE):(idxs s xs).length≤xs.length:=by
 unfold idxs; have :=List.length_filter_le (fun i=>decide ((xs.getD i ([],[])).1=s)) (List.range xs.length); simpa using this
end Go.Hb
end
section
namespace Go.Hb
section
variable {P:Program} {N:Fm} {σ:Nat→Value} {w:World} {dst:Option Nat} {ty:TypeId} {pos :String} {af:Array Edge} {g:Option (Nat×Bool)} {x:Operand}
theorem xD {t n c b:Nat} (he:kq P t=some (n,c)) (a:ev N σ x= .pointer (some ⟨b,0,none⟩)):
 (execOp (ev N σ) ⟨dst,.slice t x none none none,ty,pos,af,g⟩).run P w= .ok (.value (.slice (some ⟨b,0,none⟩) n n)) w:=by
 unfold kq at he
 cases hd:P.underlying t with
 | none=>rw [hd] at he; cases he
 | some d=>
   rw [hd] at he
   cases d <;> first | (cases he; done) | skip
   rename_i m e
   cases hi:P.info? e with
   | none=>simp [hi] at he
   | some j=>
     simp only [hi,Option.map_some,Option.some.injEq,Prod.mk.injEq] at he
     obtain ⟨rfl,rfl⟩:=he
     simp [execOp,Instr.sliceAt,Instr.sureAddr,Instr.sliceBounds,a,bV hd,sizeOf,eh hi,gv]
def pA (P:Program) (t f:Nat):Option (Nat×Nat):=
 match P.underlying t with
 | some (.struct a)=>(a[f]?).map fun d=>(d.type,d.offset)
 | _=>none
theorem BG {t f a off n:Nat} {cs vs:List Value} (h:pA P t f=some (a,off)) (ha:bP P a=some (some n)) (c:ev N σ x= .agg cs.toArray) (hv:(cs.drop off).take n=vs):
 (execOp (ev N σ) ⟨dst,.field t x f,ty,pos,af,g⟩).run P w= .ok (.value (.agg vs.toArray)) w:=by
 subst hv
 unfold pA at h
 cases hd:P.underlying t with
 | none=>rw [hd] at h; cases h
 | some d=>
   rw [hd] at h
   cases d <;> first | (cases h; done) | skip
   rename_i j
   simp only [Option.map_eq_some_iff] at h
   obtain ⟨fd,hf,he⟩:=h
   cases he
   unfold bP at ha
   cases hd2:P.underlying fd.type with
   | none=>rw [hd2] at ha; cases ha
   | some d2=>
     rw [hd2] at ha
     cases hi:P.info? fd.type with
     | none=>simp [Program.underlying,hi] at hd2
     | some i=>
       rw [hi] at ha
       have p:cs.toArray.extract fd.offset (fd.offset+n)=((cs.drop fd.offset).take n).toArray:=by simp
       cases d2 <;> first
        | (cases ha; done)
        | (simp only [Option.map_some,Option.some.injEq] at ha; subst ha
           simp [execOp,Instr.field,bV hd,hf,c,asAgg,part,isAgg,bV hd2,sizeOf,eh hi])
end
end Go.Hb
end
section
namespace Go.Hb
def bG (ls:List Tx):Tx:=ls.flatMap fun l=>l++ [13,10]
theorem pS (l:Tx) (ls:List Tx):bG (l::ls)=l++13::10::bG ls:=by simp [bG]
theorem tY (a b:List Tx):bG (a++b)=bG a++bG b:=by simp [bG]
theorem Dp:∀ (l cur r:Tx),10∉l→bS cur (l++10::r)=dU (cur++l)::bS [] r:=by
 intro l
 induction l with
 | nil=>intro cur r _; rw [List.nil_append,p5,List.append_nil]
 | cons b l ih=>
   intro cur r h
   simp only [List.mem_cons,not_or] at h
   rw [List.cons_append,nP (fun e=>h.1 e.symm),ih _ _ h.2,List.append_assoc]; rfl
theorem AI (l:Tx):dU (l++ [13])=l:=by
 rw [pk (by simp) (by simp [List.getD_eq_getElem?_getD])]; simp
theorem Dm:∀ (ls:List Tx) (r:Tx),(∀ l∈ls,10∉l)→bS [] (bG ls++r)=ls++bS [] r:=by
 intro ls
 induction ls with
 | nil=>intro r _; rfl
 | cons l ls ih=>
   intro r h
   rw [pS,show (l++13::10::bG ls)++r=(l++ [13])++10::(bG ls++r) by simp,Dp _ _ _ (by simp only [List.mem_append,List.mem_singleton,not_or]; exact ⟨h l (by simp),by decide⟩),List.nil_append,AI,ih r (fun l hl=>h l (by simp [hl]))]; rfl
theorem sK (l:Tx):∀ x∈dU l,x∈l:=by
 intro x a; unfold dU at a; split at a
 · exact List.mem_of_mem_take a
 · exact a
theorem Dr:∀ (l cur x:Tx),10∉cur→x∈bS cur l→10∉x:=by
 intro l
 induction l with
 | nil=>
   intro cur x hc h
   unfold bS at h
   split at h
   · cases h
   · simp only [List.mem_singleton] at h; subst h; exact fun h=>hc (sK _ _ h)
 | cons b r ih=>
   intro cur x hc h
   unfold bS at h
   split at h
   · rcases List.mem_cons.1 h with rfl | h
     · exact fun h=>hc (sK _ _ h)
     · exact ih [] x (by simp) h
   · rename_i hb
     exact ih _ x (by simp only [List.mem_append,List.mem_singleton,not_or]; exact ⟨hc,fun e=>hb e.symm⟩) h
theorem uo {t x:Tx} (h:x∈aR t):10∉x:=Dr _ _ _ (by simp) h
theorem uk {ls:List Tx} {r:Tx} (h:∀ l∈ls,10∉l) (hm:e8 (bG ls++r)=false):aR (bG ls++r)=ls++bS [] r:=by
 unfold aR; rw [vW hm,Dm ls r h]
theorem Dh {ls:List Tx} (h:∀ l∈ls,10∉l) (hm:e8 (bG ls)=false):aR (bG ls)=ls:=by
 have :=uk (r:= []) h (by rw [List.append_nil]; exact hm)
 rwa [List.append_nil,nQ,List.append_nil] at this
theorem DA (l r i:Tx):e8 (l++13::10::r)=e8 (l++13::10::i):=by
 unfold e8 jx
 match l with
 | []=>simp
 | [a]=>simp
 | [a,b]=>simp
 | a::b::c::l=>simp
theorem Dy {ls:List Tx} (h:ls≠[]) (r:Tx):e8 (bG ls++r)=e8 (bG ls):=by
 cases ls with
 | nil=>exact absurd rfl h
 | cons l ls=>
   rw [pS,show (l++13::10::bG ls)++r=l++13::10::(bG ls++r) by simp]
   exact DA _ _ _
theorem qs:∀ (a b:List Tx) (n:Nat),dA n (a++b)=dA n a++dA (n+a.length) b:=by
 intro a
 induction a with
 | nil=>intro b n; simp [dA]
 | cons l a ih=>intro b n; rw [List.cons_append,dA,ih,dA,List.append_assoc,List.length_cons,show n+1 +a.length=n+(a.length+1) by omega]
noncomputable def hU (F:aB) (eof:Nat) (rows:List Rw):Except (Nat×Nat) (List cE):=
 match rows with
 | []=> .error (eof,116)
 | (ln,row)::rows=>if row.length≠1 then .error (ln,111) else match cA (row.getD 0 []) 8192 with
   | .error e=> .error (ln,e)
   | .ok n=>cz F eof n rows
theorem l0 (F:aB) (t:Tx):c9 F t=if 65536 < t.length then .error (0,10) else hU F ((aR t).length+1) (cg t):=by
 unfold c9 hU; rfl
theorem pn {F:aB} {eof L c:Nat} :∀ {n:Nat} {rows:List Rw},cz F eof n rows= .error (L,c)→(L=eof∧c=116)∨∃ q∈rows,q.1=L:=by
 intro n
 induction n with
 | zero=>
   intro rows h
   cases rows with
   | nil=>rw [cz] at h; cases h
   | cons q rows=>rw [cz] at h; cases h; exact .inr ⟨q,by simp,rfl⟩
 | succ n ih=>
   intro rows h
   cases rows with
   | nil=>rw [cz] at h; cases h; exact .inl ⟨rfl,rfl⟩
   | cons q rows=>
     rw [cz] at h
     split at h
     · cases h; exact .inr ⟨q,by simp,rfl⟩
     · split at h
       · rename_i h2
         cases h
         rcases ih h2 with h | ⟨q2,h2,h3⟩
         · exact .inl h
         · exact .inr ⟨q2,by simp [h2],h3⟩
       · cases h
theorem sG {F:aB} {eof L c:Nat} {rows:List Rw} (h:hU F eof rows= .error (L,c)):(L=eof∧c=116)∨∃ q∈rows,q.1=L:=by
 unfold hU at h
 split at h
 · cases h; exact .inl ⟨rfl,rfl⟩
 · split at h
   · cases h; exact .inr ⟨_,List.mem_cons_self ..,rfl⟩
   · split at h
     · cases h; exact .inr ⟨_,List.mem_cons_self ..,rfl⟩
     · rcases pn h with h | ⟨q,h1,h2⟩
       · exact .inl h
       · exact .inr ⟨q,List.mem_cons_of_mem _ h1,h2⟩
theorem AV {F:aB} {eof p L c:Nat} {B j:List Rw} (a:∀ q∈B,q.1≠L) (i:L≠eof):∀ {n:Nat} {A:List Rw},cz F eof n (A++B)= .error (L,c)→cz F p n (A++j)= .error (L,c):=by
 intro n
 induction n with
 | zero=>
   intro A h
   cases A with
   | nil=>
     rcases pn h with h | ⟨q,h1,h2⟩
     · exact absurd h.1 i
     · exact absurd h2 (a q h1)
   | cons q A=>rw [List.cons_append,cz] at h ⊢; exact h
 | succ n ih=>
   intro A h
   cases A with
   | nil=>
     rcases pn h with h | ⟨q,h1,h2⟩
     · exact absurd h.1 i
     · exact absurd h2 (a q h1)
   | cons q A=>
     rw [List.cons_append,cz] at h ⊢
     split at h
     · exact h
     · split at h
       · rename_i h2; rw [ih (h2.trans h)]
       · cases h
theorem AD {F:aB} {eof p L c:Nat} {A B j:List Rw} (a:∀ q∈B,q.1≠L) (i:L≠eof) (h:hU F eof (A++B)= .error (L,c)):hU F p (A++j)= .error (L,c):=by
 cases A with
 | nil=>
   rcases sG h with h | ⟨q,h1,h2⟩
   · exact absurd h.1 i
   · exact absurd h2 (a q h1)
 | cons q A=>
   rw [List.cons_append] at h ⊢
   unfold hU at h ⊢
   simp only at h ⊢
   split at h
   · rename_i he; rw [if_pos he]; exact h
   · rename_i he
     rw [if_neg he]
     split at h
     · exact h
     · exact AV a i h
theorem AU {F:aB} {eof i L c:Nat} {B:List Rw} :∀ {n:Nat} {A:List Rw},(∀ q∈A,q.1≠L)→cz F eof n (A++B)= .error (L,c)→(∃ r,cz F i n A= .ok r)∨cz F i n A= .error (i,116):=by
 intro n
 induction n with
 | zero=>
   intro A a h
   cases A with
   | nil=>exact .inl ⟨[],by rw [cz]⟩
   | cons q A=>rw [List.cons_append,cz] at h; cases h; exact absurd rfl (a q (by simp))
 | succ n ih=>
   intro A a h
   cases A with
   | nil=>exact .inr (by rw [cz])
   | cons q A=>
     rw [List.cons_append,cz] at h
     rw [cz]
     split at h
     · cases h; exact absurd rfl (a q (by simp))
     · split at h
       · rename_i h2
         rcases ih (fun q j=>a q (by simp [j])) (h2.trans h) with ⟨r,h3⟩ | h3
         · exact .inl ⟨_,by rw [h3]⟩
         · exact .inr (by rw [h3])
       · cases h
theorem AB {F:aB} {eof a L c:Nat} {A B:List Rw} (i:∀ q∈A,q.1≠L) (h:hU F eof (A++B)= .error (L,c)):(∃ r,hU F a A= .ok r)∨hU F a A= .error (a,116):=by
 cases A with
 | nil=>exact .inr rfl
 | cons q A=>
   rw [List.cons_append] at h
   unfold hU at h ⊢
   simp only at h ⊢
   split at h
   · cases h; exact absurd rfl (i q (by simp))
   · rename_i he
     rw [if_neg he]
     split at h
     · cases h; exact absurd rfl (i q (by simp))
     · exact AU (fun q j=>i q (by simp [j])) h
end Go.Hb
end
section
namespace Go.Hb
def ox:Tx:= [83,70,88,32,65,32,89,32,48,10]
def qI:Tx:= [50,10,102,108,121,47,65,10,105,110,92,47,111,117,116,10]
def lL:aB:=⟨1,[],[],[0,0,0,0,0],3,[],[],[⟨65,2,true,0,0⟩],[]⟩
def kM:List cE:= [([102,108,121],[65]),([105,110,47,111,117,116],[])]
theorem uJ {b:UInt8} {m:Int} (h:48≤b.toNat∧b.toNat≤57) (hm:((b.toNat - 48:Nat):Int)≤m):cA [b] m= .ok (b.toNat - 48):=by
 have hv:dt [b]=b.toNat - 48:=by simp [dt]
 have hz:¬kA [b]:=by rintro (h | ⟨h,_⟩) <;> simp at h
 have hd:pd [b]:=fun i hi=>by
  have hi:i=0:=by simpa using hi
  subst hi
  exact decide_eq_true h
 unfold cA
 rw [uH hz hd (by rw [hv]; omega),hv]
 rfl
theorem Gv:cg ox= [(1,[[83,70,88],[65],[89],[48]])]:=by decide+kernel
theorem Gw:cg qI= [(1,[[50]]),(2,[[102,108,121,47,65]]),(3,[[105,110,92,47,111,117,116]])]:=by decide+kernel
theorem qJ:cY 1 [65]=65:=by unfold cY; decide+kernel
theorem Gt:eN fk [65]= .ok 65:=by
 unfold eN eG fk
 simp only
 rw [qJ]
 simp [cJ,du]
theorem Gr:eU ox= .ok lL:=by
 unfold eU
 rw [if_neg (by decide),Gv]
 simp only [List.length_cons,List.length_nil]
 have hh:bh ((aR ox).length+1) fk [] [] 1 [[83,70,88],[65],[89],[48]]= .ok (lL,[]):=by
  unfold bh
  simp only [List.getD_cons_zero]
  rw [if_neg (by decide),if_neg (by decide),if_neg (by decide),if_neg (by decide),if_neg (by decide),if_neg (by decide),if_neg (by decide)]
  unfold eK
  simp only [List.getD_cons_zero,List.getD_cons_succ]
  rw [Gt]
  simp only
  rw [if_neg (by simp),uJ (by decide) (by decide)]
  rfl
 rw [fw]
 simp only [List.getD_cons_zero]
 rw [if_neg (by decide),if_neg (by decide),if_neg (by decide),hh]
 simp only
 rw [fw,if_pos rfl]
 rfl
theorem Gu:gV 1 [65]= .ok [65]:=by
 have h1:cO 1 [65]= [[65]]:=by decide+kernel
 have h:dm 1 [65]=([65],0):=by
  unfold dm
  rw [h1,if_neg (by simp),if_neg (by simp [qJ]),if_neg (by simp),List.map_cons,List.map_nil,qJ]
  decide+kernel
 unfold gV
 rw [h]; rfl
theorem Gs:c9 lL qI= .ok kM:=by
 have a:dV lL [[102,108,121,47,65]]= .ok ([102,108,121],[65]):=by
  have hw:aV [102,108,121,47,65]=([102,108,121],[65],true,0):=by decide+kernel
  refine (sO (row:= [[102,108,121,47,65]]) (set := [65]) rfl ?_ ?_ ?_ ?_ ?_ ?_ ?_).trans ?_
  all_goals try simp only [List.getD_cons_zero,hw]
  · decide
  · decide
  · simp
  · show dN 1 [] [65]=_
    unfold dN; rw [if_pos rfl]; exact Gu
  · intro i hi
    have :i=0:=by simpa using hi
    subst this; decide
 have c:dV lL [[105,110,92,47,111,117,116]]= .ok ([105,110,47,111,117,116],[]):=by
  have hw:aV [105,110,92,47,111,117,116]=([105,110,47,111,117,116],[],false,0):=by decide+kernel
  refine (sN (row:= [[105,110,92,47,111,117,116]]) rfl ?_ ?_ ?_ ?_ ?_).trans ?_
  all_goals try simp only [List.getD_cons_zero,hw]
  · decide
  · decide
  · simp
 have hn:cA [50] 8192= .ok 2:=uJ (by decide) (by decide)
 rw [sE (by decide) Gw rfl (show cA ([[50]].getD 0 []) 8192= .ok 2 from hn),cz,a]
 simp only
 rw [cz,c]
 simp only
 rw [cz]
 rfl
end Go.Hb
end
section
set_option maxRecDepth 20000
set_option maxHeartbeats 1000000
namespace Go.Hb.eJ
open Go.Proofs
def ic (l:List (Tx×Tx)):List Value:=l.flatMap fun p=> [str p.1,str p.2]
def jq (c:cT):List Value:= [ay c.flag,.int .i64 (c.kind:Nat),.bool c.gx,.int .i64 (c.first:Nat),.int .i64 (c.count:Nat)]
def gT (l:List cT):List Value:=l.flatMap jq
def fW (q:eE×Value):List Value:= [.int .i64 (q.1.kind:Nat),ay q.1.flag,.bool q.1.gx,str q.1.strip,str q.1.add,str q.1.cond,q.2]
def eI (l:List (eE×Value)):List Value:=l.flatMap fW
structure bd where
 rb:Nat
 fb:Nat
 ms:Nat
 mt:Nat
 mc:Nat
 eof:Nat
structure cR where
 v9:Value
 v10:Value
 v11:Value
 di:Value
 sa:List Value
 rn:List Value
structure dD where
 vr:Value
 vs:List (Nat×Value)
 vn:Value
def iO (F:aB) (V:cR) (mc:Nat):List Value:= [.int .i64 (F.kind:Nat),str F.lY,str F.tr,ay (F.sp.getD 0 0),ay (F.sp.getD 1 0),ay (F.sp.getD 2 0),ay (F.sp.getD 3 0),ay (F.sp.getD 4 0),.int .i64 (F.least:Nat),V.v9,V.v10,V.v11,V.di,.map (some mc)]
def mz (H:bd) (R:dD) (ln:Nat):List Value:= [.pointer (some ⟨H.fb,0,none⟩),R.vr,.int .i64 (ln:Nat),.int .i64 (H.eof:Nat),.map (some H.ms),.map (some H.mt),R.vn]
structure bz (w:World) (B fb mc:Nat) (F:aB) (V:cR):Prop where
 cells:w.heap[fb]? =some (.cells (iO F V mc).toArray 89 (0,0))
 o9:World.ownsRow w B 163 2 V.v9 F.bH.length (ic F.bH)
 eH:World.ownsRow w B 54 1 V.v10 F.aliases.length V.sa
 al:bO w B 71 V.sa F.aliases
 dY:World.ownsRow w B 157 5 V.v11 F.a5.length (gT F.a5)
 dG:World.ownsRow w B 155 7 V.di F.rules.length (eI (F.rules.zip V.rn))
 nx:bO w B 71 V.rn (F.rules.map (·.next))
 cm:∃ f,bf w.heap mc (jv .u16) f∧∀ x:Nat,f (ay x)=(F.a5.findIdx? fun c=>decide (c.flag=x)).map fun i:Nat=>Value.int .i64 i
 lo:B≤fb∧B≤mc
 fL:F.sp.length=5
theorem bz.md {G:Nat→Prop} {w w':World} {B fb mc:Nat} {F:aB} {V:cR} (h:bz w B fb mc F V) (hm:Md G w w') {L:List Nat} (hT:TF w L G) (a:(L.contains 91 || L.contains 165 || L.contains 56 || L.contains 73 || L.contains 159 || L.contains 157)=false) (i:¬G mc):bz w' B fb mc F V:=by
 simp only [Bool.or_eq_false_iff] at a
 obtain ⟨⟨⟨⟨⟨h1,h2⟩,h3⟩,h4⟩,h5⟩,h6⟩:=a
 have hfl:∀ k,G k→∀ cur z,w.heap[k]?≠some (.cells cur 71 z):=fun k hk cur z hg=>hT.no (cQ hg) h4 hk
 obtain ⟨f,hf,c⟩:=h.cm
 exact ⟨hm.gR hT h.cells h1,ca h.o9 hm hT h2,ca h.eH hm hT h3,h.al.md hm hfl,ca h.dY hm hT h5,ca h.dG hm hT h6,h.nx.md hm hfl,⟨f,hf.md hm i,c⟩,h.lo,h.fL⟩
theorem bz.wk {w w':World} {B fb mc:Nat} {F:aB} {V:cR} (h:bz w B fb mc F V) (hm:Wk w w'):bz w' B fb mc F V:=h.md (L:= []) hm (fun _ hk=>hk.elim) rfl id
structure bg (w:World) (B:Nat) (H:bd) (F:aB) (R:dD) (rows:List Rw) (ln:Nat) (seen:List Tx):Prop where
 cells:w.heap[H.rb]? =some (.cells (mz H R ln).toArray 92 (0,0))
 rws:gu w B 105 rows.length R.vr (gJ R.vs)
 rt:ej w B 9 R.vs rows
 sm:∃ f,bf w.heap H.ms ew f∧∀ s:Tx,(f (str s)).getD (.int .i64 0)= .int .i64 (seen.count s:Nat)
 tm:∃ f,bf w.heap H.mt (jv .u16) f∧∀ x:Nat,x≠0→(f (ay x)).getD (.int .i64 0)= .int .i64 ((if cJ F x=true then 1 else 0:Nat):Nat)
 on :World.ownsRow w B 3 1 R.vn F.rules.length (F.rules.map fun r=>Value.int .i64 (r.line:Nat))
 lo:B≤H.rb∧B≤H.ms∧B≤H.mt
 ne:H.ms≠H.mt∧H.ms≠H.mc∧H.mt≠H.mc
theorem bg.md {G:Nat→Prop} {w w':World} {B:Nat} {H:bd} {F:aB} {R:dD} {rows:List Rw} {ln:Nat} {seen:List Tx} (h:bg w B H F R rows ln seen) (hm:Md G w w') {L:List Nat} (hT:TF w L G) (c:(L.contains 94 || L.contains 107 || L.contains 11 || L.contains 5)=false) (j:¬G H.ms) (hmt:¬G H.mt):bg w' B H F R rows ln seen:=by
 simp only [Bool.or_eq_false_iff] at c
 obtain ⟨⟨⟨h1,h2⟩,h3⟩,h4⟩:=c
 obtain ⟨f,hf,i⟩:=h.sm
 obtain ⟨g,hg,hg2⟩:=h.tm
 exact ⟨hm.gR hT h.cells h1,h.rws.md hm (fun k hk cur z a=>hT.no (cQ a) h2 hk),h.rt.md hm (fun k hk cur z a=>hT.no (cQ a) h3 hk),⟨f,hf.md hm j,i⟩,⟨g,hg.md hm hmt,hg2⟩,ca h.on hm hT h4,h.lo,h.ne⟩
theorem bg.wk {w w':World} {B:Nat} {H:bd} {F:aB} {R:dD} {rows:List Rw} {ln:Nat} {seen:List Tx} (h:bg w B H F R rows ln seen) (hm:Wk w w'):bg w' B H F R rows ln seen:=h.md (L:= []) hm (fun _ hk=>hk.elim) rfl id id
theorem bg.cw {w:World} {B:Nat} {H:bd} {F:aB} {R:dD} {rows:List Rw} {ln:Nat} {seen:List Tx} (h:bg w B H F R rows ln seen):Hb.aw w.heap H.rb 2=some (.int .i64 (ln:Nat)):=(aM h.cells).trans rfl
structure fE (F:aB) (rows:List Rw) (seen:List Tx):Prop where
 len:F.bH.length+F.aliases.length+F.a5.length+F.rules.length+rows.length≤70000
 sl:seen.length+rows.length≤70000
 row:∀ q∈rows,q.2≠[]∧q.2.length≤70000∧∀ x∈q.2,x.length≤70000
 kd:F.kind=1∨F.kind=2∨F.kind=3
 al:∀ l∈F.aliases,l.length≤64∧l.Pairwise (· < ·)
def St (w:World) (B:Nat) (H:bd) (F:aB) (rows:List Rw) (ln:Nat) (seen:List Tx):Prop := ∃ V R,bz w B H.fb H.mc F V∧bg w B H F R rows ln seen∧fE F rows seen
abbrev cH (B:Nat) (H:bd) (w w':World):Prop :=Mw [94,91,165,56,159,157,5] H.ms H.mt H.mc B w w'
theorem bg.bX {w w':World} {B:Nat} {H:bd} {F:aB} {R R':dD} {rows c:List Rw} {ln ln':Nat} {seen:List Tx} (h:bg w B H F R rows ln seen) (hm:Md (fun k=>k=H.rb) w w') (hc:w'.heap[H.rb]? =some (.cells (mz H R' ln').toArray 92 (0,0))) (p:R'.vn=R.vn) (hr:gu w B 105 c.length R'.vr (gJ R'.vs)) (j:ej w B 9 R'.vs c):bg w' B H F R' c ln' seen:=by
 obtain ⟨f,hf,i⟩:=h.sm
 obtain ⟨g,hg,hg2⟩:=h.tm
 have hT:TF w [94] (fun k=>k=H.rb):=TF.eq (cQ h.cells) (by decide)
 exact ⟨hc,hr.md hm (fun k hk cur z a=>hT.no (cQ a) (by decide) hk),j.md hm (fun k hk cur z a=>hT.no (cQ a) (by decide) hk),⟨f,hf.md hm (hT.no (bW hf) (by decide)),i⟩,⟨g,hg.md hm (hT.no (bW hg) (by decide)),hg2⟩,p ▸ ca h.on hm hT (by decide),h.lo,h.ne⟩
theorem ej.tl {w:World} {B e:Nat} {q:Nat×Value} {r:Rw} {vs:List (Nat×Value)} {rs:List Rw} (h:ej w B e (q::vs) (r::rs)):ej w B e vs rs:=⟨by have :=h.1; simpa using this,fun i q2 a h1 h2=>h.2 (i+1) q2 a h1 h2⟩
theorem bz.put {w w':World} {B fb mc:Nat} {F F':aB} {V:cR} (h:bz w B fb mc F V) (hm:Md (fun k=>k=fb) w w') (hc:w'.heap[fb]? =some (.cells (iO F' V mc).toArray 89 (0,0))) (h1:F'.bH=F.bH) (h2:F'.aliases=F.aliases) (h3:F'.a5=F.a5) (h4:F'.rules=F.rules) (h5:F'.sp.length=5):bz w' B fb mc F' V:=by
 have hT:TF w [91] (fun k=>k=fb):=TF.eq (cQ h.cells) (by decide)
 have hfl:∀ k,k=fb→∀ cur z,w.heap[k]?≠some (.cells cur 71 z):=ep h.cells (by decide)
 obtain ⟨f,hf,a⟩:=h.cm
 exact ⟨hc,h1 ▸ ca h.o9 hm hT (by decide),h2 ▸ ca h.eH hm hT (by decide),h2 ▸ h.al.md hm hfl,h3 ▸ ca h.dY hm hT (by decide),h4 ▸ ca h.dG hm hT (by decide),h4 ▸ h.nx.md hm hfl,⟨f,hf.md hm (hT.no (bW hf) (by decide)),h3 ▸ a⟩,h.lo,h5⟩
theorem bg.fb {w w':World} {B:Nat} {H:bd} {F a:aB} {V:cR} {R:dD} {rows:List Rw} {ln:Nat} {seen:List Tx} (h:bg w B H F R rows ln seen) (c:bz w B H.fb H.mc a V) (hm:Md (fun k=>k=H.fb) w w'):bg w' B H F R rows ln seen:=by
 have hT:TF w [91] (fun k=>k=H.fb):=TF.eq (cQ c.cells) (by decide)
 obtain ⟨f,hf,i⟩:=h.sm
 obtain ⟨g,hg,hg2⟩:=h.tm
 exact h.md hm hT (by decide) (hT.no (bW hf) (by decide)) (hT.no (bW hg) (by decide))
theorem bz.rb {w w':World} {B:Nat} {H:bd} {F a:aB} {V:cR} {R:dD} {rows:List Rw} {ln:Nat} {seen:List Tx} (h:bz w B H.fb H.mc a V) (c:bg w B H F R rows ln seen) (hm:Md (fun k=>k=H.rb) w w'):bz w' B H.fb H.mc a V:=by
 have hT:TF w [94] (fun k=>k=H.rb):=TF.eq (cQ c.cells) (by decide)
 obtain ⟨f,hf,i⟩:=h.cm
 exact h.md hm hT (by decide) (hT.no (bW hf) (by decide))
theorem bg.congr {w:World} {B:Nat} {H:bd} {F F':aB} {R:dD} {rows:List Rw} {ln:Nat} {seen:List Tx} (h:bg w B H F R rows ln seen) (hr:F'.rules=F.rules) (hd:∀ x,cJ F' x=cJ F x):bg w B H F' R rows ln seen:=by
 obtain ⟨g,hg,hg2⟩:=h.tm
 exact ⟨h.cells,h.rws,h.rt,h.sm,⟨g,hg,fun x a=>by rw [hd]; exact hg2 x a⟩,hr ▸ h.on,h.lo,h.ne⟩
theorem bg.ml {w w':World} {B:Nat} {H:bd} {F F':aB} {R:dD} {rows:List Rw} {ln:Nat} {seen:List Tx} {f:Value→Option Value} (h:bg w B H F R rows ln seen) (hm:Md (fun k=>k=H.mt) w w') (hf:bf w'.heap H.mt (jv .u16) f) (hr:F'.rules=F.rules) (hd:∀ x:Nat,x≠0→(f (ay x)).getD (.int .i64 0)= .int .i64 ((if cJ F' x=true then 1 else 0:Nat):Nat)):bg w' B H F' R rows ln seen:=by
 obtain ⟨g,hg,_⟩:=h.tm
 obtain ⟨f0,c,i⟩:=h.sm
 have hT:TF w [1] (fun k=>k=H.mt):=TF.eq (bW hg) (by decide)
 exact ⟨hm.gR hT h.cells (by decide),h.rws.md hm (fun k hk cur z a=>hT.no (cQ a) (by decide) hk),h.rt.md hm (fun k hk cur z a=>hT.no (cQ a) (by decide) hk),⟨f0,c.md hm h.ne.1,i⟩,⟨f,hf,hd⟩,hr ▸ ca h.on hm hT (by decide),h.lo,h.ne⟩
theorem bz.ml {w w':World} {B:Nat} {H:bd} {F a:aB} {V:cR} {R:dD} {rows:List Rw} {ln:Nat} {seen:List Tx} (h:bz w B H.fb H.mc a V) (c:bg w B H F R rows ln seen) (hm:Md (fun k=>k=H.mt) w w'):bz w' B H.fb H.mc a V:=by
 obtain ⟨g,hg,_⟩:=c.tm
 exact h.md (L:= [1]) hm (TF.eq (bW hg) (by decide)) (by decide) (fun h=>c.ne.2.2 h.symm)
theorem cH.fb {w w':World} {B:Nat} {H:bd} {c:aB} {V:cR} (a:bz w B H.fb H.mc c V) (hm:Md (fun k=>k=H.fb) w w'):cH B H w w':=Mw.of hm (TF.eq (cQ a.cells) (by decide)) (fun k hk=>hk ▸ a.lo.1)
theorem cH.rb {w w':World} {B:Nat} {H:bd} {F:aB} {R:dD} {rows:List Rw} {ln:Nat} {seen:List Tx} (a:bg w B H F R rows ln seen) (hm:Md (fun k=>k=H.rb) w w'):cH B H w w':=Mw.of hm (TF.eq (cQ a.cells) (by decide)) (fun k hk=>hk ▸ a.lo.1)
theorem cH.mt {w w':World} {B:Nat} {H:bd} {F:aB} {R:dD} {rows:List Rw} {ln:Nat} {seen:List Tx} (a:bg w B H F R rows ln seen) (hm:Md (fun k=>k=H.mt) w w'):cH B H w w':=hm.mono fun k _ hk=>⟨hk ▸ a.lo.2.2,.inr (.inl hk)⟩
def eD (B:Nat) (H:bd) (seen:List Tx) (X:Except (Nat×Nat) (aB×List Rw)) (w:World) (v:Value) (w':World):Prop :=v= .tuple #[]∧∃ F' a ln',X= .ok (F',a)∧St w' B H F' a ln' seen∧cH B H w w'
def eC (B:Nat) (H:bd) (X:Except (Nat×Nat) (aB×List Rw)) (w:World) (c:List PanicEntry) (w':World):Prop := ∃ l e,X= .error (l,e)∧c=eu 25 l (e:Nat)∧cH B H w w'
def fj (F:aB) (seen:List Tx):Prop := ∀ k∈dC,k∉seen→F.sp.getD (dC.idxOf k) 0=0
theorem An {F:aB} {i x:Nat} (hi:i < F.sp.length) (h0:F.sp.getD i 0=0) (y:Nat) (hy:y≠0):cJ {F with sp:=F.sp.set i x} y=(decide (y=x) || cJ F y):=by
 unfold cJ
 show (decide (y∈F.sp.set i x) || _)=_
 rw [← Bool.or_assoc]
 congr 1
 rw [← Bool.decide_or,decide_eq_decide]
 constructor
 · intro h
   rcases List.mem_or_eq_of_mem_set h with h | h
   · exact .inr h
   · exact .inl h
 · rintro (h | h)
   · subst h; exact List.mem_set hi _
   · obtain ⟨j,c⟩:=List.getElem?_of_mem h
     by_cases a:i=j
     · subst a
       rw [List.getD_eq_getElem?_getD,c] at h0
       exact absurd h0 hy
     · exact List.mem_of_getElem? (i:=j) (by rw [List.getElem?_set,if_neg a]; exact c)
theorem Tg.mm {w:World} {B e e' n cp b:Nat} {a:Option Addr} {xs:List Value} {cs:Array Value} {z:Nat×Nat} (h:Tg w B e n (.slice a n cp) xs) (i:xs≠[]) (hb:w.heap[b]? =some (.cells cs e' z)) (hne:e≠e'):¬(bk a=b):=by
 obtain ⟨j,p,hv,_,hh⟩:=h
 cases hv
 rcases hh with rfl | ⟨c,cur,q,rfl,_,hg,_⟩
 · exact absurd rfl i
 · rintro rfl
   rw [show (bk (some ⟨c,0,none⟩))=c from rfl] at hb
   rw [hg] at hb
   simp only [Option.some.injEq,Obj.cells.injEq] at hb
   exact hne hb.2.1
theorem Bw {F:aB} {V:cR} {mc i o x:Nat} (h5:F.sp.length=5) (hi:i < 5) (j:o=3 +i):(iO F V mc).set o (ay x)=iO {F with sp:=F.sp.set i x} V mc:=by
 subst j
 obtain ⟨k,cs,tr,sp,le,p,al,cl,q⟩:=F
 match sp,h5 with
 | [a,b,c,d,e],_=>
   match i,hi with
   | 0,_=>rfl
   | 1,_=>rfl
   | 2,_=>rfl
   | 3,_=>rfl
   | 4,_=>rfl
theorem sB (b:Bool):decide (((if b=true then 1 else 0:Nat):Int)=0)= !b:=by cases b <;> rfl
theorem vP {x y:Nat} (h:ay x=ay y):x=y:=by unfold ay at h; injection h with _ h; omega
theorem vJ {F F':aB} {f:Value→Option Value} {x:Nat} (hd:cJ F x=false) (hf:∀ y:Nat,y≠0→(f (ay y)).getD (.int .i64 0)= .int .i64 ((if cJ F y=true then 1 else 0:Nat):Nat)) (a:∀ y,y≠0→cJ F' y=(decide (y=x) || cJ F y)) (y:Nat) (hy:y≠0):(aW f (ay x) (.int .i64 (1:Nat)) (ay y)).getD (.int .i64 0)= .int .i64 ((if cJ F' y=true then 1 else 0:Nat):Nat):=by
 rw [a y hy]
 by_cases h:y=x
 · subst h; rw [mx]; simp
 · rw [lB (fun h2=>h (vP h2)),hf y hy]; simp [h]
theorem eS {G:Nat→Prop} {w w':World} (h:Md G w.drew w'):Md G w w':=⟨h.os,h.output,h.size,h.eX⟩
theorem bO.get {w:World} {B e i:Nat} {vs:List Value} {ls:List (List Nat)} (h:bO w B e vs ls) (hi:i < ls.length):∃ v,vs[i]? =some v∧Tg w B e (ls.getD i []).length v ((ls.getD i []).map ay):=by
 have h1:i < vs.length:=by rw [h.1]; exact hi
 refine ⟨vs[i],List.getElem?_eq_getElem h1,h.2 i _ _ (List.getElem?_eq_getElem h1) ?_⟩
 rw [List.getD_eq_getElem?_getD,List.getElem?_eq_getElem hi]; rfl
theorem Tg.nS {w:World} {B e n cp:Nat} {a:Option Addr} {xs:List Value} (h:Tg w B e n (.slice a n cp) xs) (hl:xs.length=n) (ha:a=none):n=0:=by
 obtain ⟨c,j,hv,_,hh⟩:=h
 cases hv
 rcases hh with rfl | ⟨i,cur,p,h2,_⟩
 · exact hl.symm
 · rw [ha] at h2; cases h2
theorem Tg.uw {G:Nat→Prop} {w w':World} {B e n:Nat} {v:Value} {xs:List Value} (h:Tg w B e n v xs) (hm:Md G w w') (c:∀ k,G k→k < B):Tg w' B e n v xs:=by
 obtain ⟨a,cp,rfl,hc,h | ⟨b,cur,z,rfl,hb,hg,i⟩⟩:=h
 · exact ⟨a,cp,rfl,hc,.inl h⟩
 · exact ⟨_,cp,rfl,hc,.inr ⟨b,cur,z,rfl,hb,by rw [hm.eX b (Array.getElem?_eq_some_iff.1 hg).1 (fun hk=>by have :=c b hk; omega)]; exact hg,i⟩⟩
end Go.Hb.eJ
end
section
namespace Go.Hb
abbrev U (n:Nat):Value:= .int .i64 (n:Nat)
abbrev aU (b:Nat):Value:= .pointer (some ⟨b,0,none⟩)
variable {P:Program} {N:Fm} {ops:Array Oper} {Q:Exit→(Nat→Value)→World→Prop} {σ:Nat→Value} {w:World} {S:World→Prop} {r fuel:Nat} {aC:Array Bool} {d:Nat} {op:Op} {ty:TypeId} {pos :String} {af:Array Edge} {v:Value}
theorem aQ (i:Nat) (hi:ops[i]? =some ⟨some d,op,ty,pos,af,none⟩) (hy:∀ w,S w→(execOp (ev N σ) ⟨some d,op,ty,pos,af,none⟩).run P w= .ok (.value v) w) (a:S w) (k:dJ P N ops Q S fuel (aC.setIfInBounds i true) (bX σ d v) w) (hf:gj N.F ops aC i=true :=by kernel_rfl):dJ P N ops Q S (fuel+1) aC σ w:=hp i hi hf hy a k
theorem cK (i:Nat) (hi:ops[i]? =some ⟨some d,op,ty,pos,af,none⟩) (hy:∀ w,S w→(execOp (ev N σ) ⟨some d,op,ty,pos,af,none⟩).run P w= .ok (.value v) w) (a:S w) (k:dT P N ops Q S r fuel (aC.setIfInBounds i true) (bX σ d v) w) (hf:pK N.F ops aC r i=true :=by kernel_rfl):dT P N ops Q S r (fuel+1) aC σ w:=fu i hi hf hy a k
theorem a4 (i:Nat) (hi:ops[i]? =some ⟨some d,op,ty,pos,af,none⟩) (hy:∀ w,(execOp (ev N σ) ⟨some d,op,ty,pos,af,none⟩).run P w= .ok (.value v) w) (a:aC.getD r false =false→S w) (k:dT P N ops Q S r fuel (aC.setIfInBounds i true) (bX σ d v) w) (hf:nL N.F ops aC r i=true :=by kernel_rfl):dT P N ops Q S r (fuel+1) aC σ w:=bj i hi hf hy a k
theorem bp {x:Operand} (i:Nat) (hi:ops[i]? =some ⟨some d,.move x,ty,pos,af,none⟩) (v:Value) (a:S w) (k:dJ P N ops Q S fuel (aC.setIfInBounds i true) (bX σ d v) w) (c:ev N σ x=v:=by exact rfl) (hf:gj N.F ops aC i=true :=by kernel_rfl):dJ P N ops Q S (fuel+1) aC σ w:=hp i hi hf (fun _ _=>ao v c) a k
theorem aI {x:Operand} (i:Nat) (hi:ops[i]? =some ⟨some d,.move x,ty,pos,af,none⟩) (v:Value) (a:S w) (k:dT P N ops Q S r fuel (aC.setIfInBounds i true) (bX σ d v) w) (c:ev N σ x=v:=by exact rfl) (hf:nL N.F ops aC r i=true :=by kernel_rfl):dT P N ops Q S r (fuel+1) aC σ w:=bj i hi hf (fun _=>ao v c) (fun _=>a) k
theorem aO {P:Program} {f:FuncId} {fn:Func} (hf:P.funcs[f]? =some fn) (hn:(fn.name== "runtime.NumGoroutine")=false :=by kernel_rfl) (hb:fn.body.isNone=false :=by kernel_rfl):aJ P f:=y2 hf hn hb
section
variable {rest:List Oper} {x:Operand} {K:(Nat→Value)→World→Prop} {l:List Oper} {id:Nat} {y:Code}
theorem aa (h:∀ K:(Nat→Value)→World→Prop,(∀ σ w,bK P N y Q σ w→K σ w)→cB P N l.toArray (g4 K Q) l σ w) (hr:lz N.r l=true :=by exact rfl):bK P N (.seq (.region id l.toArray false) y) Q σ w:=sq fun K a=>rg hr (h K a)
theorem ag (h:K σ w):cB P N ops (g4 K Q) [] σ w:=nl (tn h)
theorem ae (h:K (bX σ d (ev N σ x)) w):cB P N ops (g4 K Q) [⟨some d,.assign x,ty,pos,af,none⟩] σ w:=p ak (nl (tn h))
theorem ab (v:Value) (h:cB P N ops Q rest (bX σ d v) w) (a:ev N σ x=v:=by exact rfl):cB P N ops Q (⟨some d,.move x,ty,pos,af,none⟩::rest) σ w:=p (ao v a) h
end
end Go.Hb
end
section
namespace Go.Hb.cG
open Go.Proofs
theorem mY:bP Tryz.prog 105=some (some 2):=by kernel_rfl
theorem qY:bP Tryz.prog 106=some none:=by kernel_rfl
theorem oE:bP Tryz.prog 139=some none:=by kernel_rfl
theorem qZ:bP Tryz.prog 141=some none:=by kernel_rfl
theorem oF:bP Tryz.prog 155=some (some 7):=by kernel_rfl
theorem lR:bP Tryz.prog 157=some (some 5):=by kernel_rfl
theorem lS:bP Tryz.prog 211=some none:=by kernel_rfl
theorem jP:bP Tryz.prog 213=some (some 1):=by kernel_rfl
theorem dq:bP Tryz.prog 22=some none:=by kernel_rfl
theorem kS:bP Tryz.prog 225=some none:=by kernel_rfl
theorem fI:bP Tryz.prog 227=some (some 4):=by kernel_rfl
theorem jQ:bP Tryz.prog 23=some none:=by kernel_rfl
theorem fO:bP Tryz.prog 25=some (some 3):=by kernel_rfl
theorem ki:bP Tryz.prog 266=some none:=by kernel_rfl
theorem cX:bP Tryz.prog 3=some none:=by kernel_rfl
theorem mZ:bP Tryz.prog 39=some none:=by kernel_rfl
theorem q4:bP Tryz.prog 4=some none:=by kernel_rfl
theorem kj:bP Tryz.prog 48=some none:=by kernel_rfl
theorem m3:bP Tryz.prog 5=some none:=by kernel_rfl
theorem km:bP Tryz.prog 54=some none:=by kernel_rfl
theorem iy:bP Tryz.prog 56=some (some 2):=by kernel_rfl
theorem q5:bP Tryz.prog 64=some none:=by kernel_rfl
theorem bc:bP Tryz.prog 71=some none:=by kernel_rfl
theorem kT:bP Tryz.prog 74=some none:=by kernel_rfl
theorem lT:bP Tryz.prog 80=some none:=by kernel_rfl
theorem q6:bP Tryz.prog 81=some (some 5):=by kernel_rfl
theorem q7:bP Tryz.prog 82=some none:=by kernel_rfl
theorem kn:bP Tryz.prog 83=some none:=by kernel_rfl
theorem m4:bP Tryz.prog 84=some none:=by kernel_rfl
theorem ko:bP Tryz.prog 85=some none:=by kernel_rfl
theorem oG:bP Tryz.prog 87=some (some 13):=by kernel_rfl
theorem bY:bP Tryz.prog 9=some none:=by kernel_rfl
theorem kU:bP Tryz.prog 90=some none:=by kernel_rfl
theorem q8:bP Tryz.prog 97=some none:=by kernel_rfl
theorem rl:kq Tryz.prog 204=some (256,1):=by kernel_rfl
theorem kp:kq Tryz.prog 227=some (4,1):=by kernel_rfl
theorem oI:kq Tryz.prog 81=some (5,1):=by kernel_rfl
theorem rm:oJ Tryz.prog 227=some ([.int .u64 0,.int .u64 0,.int .u64 0,.int .u64 0]):=by kernel_rfl
theorem kX:m9 Tryz.prog 139 5 9=true :=by kernel_rfl
theorem e0:aJ Tryz.prog 10:=aO Tryz.func10
theorem rC:aJ Tryz.prog 100:=aO Tryz.func100
theorem rD:aJ Tryz.prog 101:=aO Tryz.func101
theorem xU:aJ Tryz.prog 102:=aO Tryz.func102
theorem rE:aJ Tryz.prog 103:=aO Tryz.func103
theorem rF:aJ Tryz.prog 104:=aO Tryz.func104
theorem xV:aJ Tryz.prog 105:=aO Tryz.func105
theorem eV:aJ Tryz.prog 11:=aO Tryz.func11
theorem xW:aJ Tryz.prog 111:=aO Tryz.func111
theorem xX:aJ Tryz.prog 112:=aO Tryz.func112
theorem xY:aJ Tryz.prog 113:=aO Tryz.func113
theorem xZ:aJ Tryz.prog 114:=aO Tryz.func114
theorem x3:aJ Tryz.prog 115:=aO Tryz.func115
theorem rG:aJ Tryz.prog 116:=aO Tryz.func116
theorem rH:aJ Tryz.prog 117:=aO Tryz.func117
theorem x4:aJ Tryz.prog 118:=aO Tryz.func118
theorem rI:aJ Tryz.prog 119:=aO Tryz.func119
theorem gS:aJ Tryz.prog 12:=aO Tryz.func12
theorem x5:aJ Tryz.prog 120:=aO Tryz.func120
theorem x6:aJ Tryz.prog 121:=aO Tryz.func121
theorem x7:aJ Tryz.prog 122:=aO Tryz.func122
theorem x8:aJ Tryz.prog 123:=aO Tryz.func123
theorem rJ:aJ Tryz.prog 129:=aO Tryz.func129
theorem ks:aJ Tryz.prog 13:=aO Tryz.func13
theorem rK:aJ Tryz.prog 130:=aO Tryz.func130
theorem x9:aJ Tryz.prog 131:=aO Tryz.func131
theorem ya:aJ Tryz.prog 132:=aO Tryz.func132
theorem oN:aJ Tryz.prog 133:=aO Tryz.func133
theorem yb:aJ Tryz.prog 134:=aO Tryz.func134
theorem oO:aJ Tryz.prog 135:=aO Tryz.func135
theorem rL:aJ Tryz.prog 136:=aO Tryz.func136
theorem yc:aJ Tryz.prog 137:=aO Tryz.func137
theorem oP:aJ Tryz.prog 138:=aO Tryz.func138
theorem rM:aJ Tryz.prog 139:=aO Tryz.func139
theorem rN:aJ Tryz.prog 144:=aO Tryz.func144
theorem yd:aJ Tryz.prog 148:=aO Tryz.func148
theorem ye:aJ Tryz.prog 149:=aO Tryz.func149
theorem nd:aJ Tryz.prog 15:=aO Tryz.func15
theorem yf:aJ Tryz.prog 150:=aO Tryz.func150
theorem yg:aJ Tryz.prog 151:=aO Tryz.func151
theorem rO:aJ Tryz.prog 152:=aO Tryz.func152
theorem rP:aJ Tryz.prog 153:=aO Tryz.func153
theorem yh:aJ Tryz.prog 154:=aO Tryz.func154
theorem yi:aJ Tryz.prog 155:=aO Tryz.func155
theorem yj:aJ Tryz.prog 156:=aO Tryz.func156
theorem yl:aJ Tryz.prog 157:=aO Tryz.func157
theorem ym:aJ Tryz.prog 158:=aO Tryz.func158
theorem yn:aJ Tryz.prog 159:=aO Tryz.func159
theorem yo:aJ Tryz.prog 16:=aO Tryz.func16
theorem yp:aJ Tryz.prog 160:=aO Tryz.func160
theorem yq:aJ Tryz.prog 161:=aO Tryz.func161
theorem gi:aJ Tryz.prog 162:=aO Tryz.func162
theorem yr:aJ Tryz.prog 163:=aO Tryz.func163
theorem ys:aJ Tryz.prog 164:=aO Tryz.func164
theorem yt:aJ Tryz.prog 166:=aO Tryz.func166
theorem yu:aJ Tryz.prog 17:=aO Tryz.func17
theorem yv:aJ Tryz.prog 172:=aO Tryz.func172
theorem yw:aJ Tryz.prog 173:=aO Tryz.func173
theorem yx:aJ Tryz.prog 174:=aO Tryz.func174
theorem rQ:aJ Tryz.prog 175:=aO Tryz.func175
theorem yy:aJ Tryz.prog 176:=aO Tryz.func176
theorem yz:aJ Tryz.prog 177:=aO Tryz.func177
theorem oQ:aJ Tryz.prog 178:=aO Tryz.func178
theorem rR:aJ Tryz.prog 179:=aO Tryz.func179
theorem yA:aJ Tryz.prog 180:=aO Tryz.func180
theorem oR:aJ Tryz.prog 186:=aO Tryz.func186
theorem rS:aJ Tryz.prog 19:=aO Tryz.func19
theorem jU:aJ Tryz.prog 22:=aO Tryz.func22
theorem kY:aJ Tryz.prog 23:=aO Tryz.func23
theorem rT:aJ Tryz.prog 29:=aO Tryz.func29
theorem rU:aJ Tryz.prog 30:=aO Tryz.func30
theorem yB:aJ Tryz.prog 31:=aO Tryz.func31
theorem yC:aJ Tryz.prog 32:=aO Tryz.func32
theorem iF:aJ Tryz.prog 33:=aO Tryz.func33
theorem dK:aJ Tryz.prog 34:=aO Tryz.func34
theorem yD:aJ Tryz.prog 35:=aO Tryz.func35
theorem kZ:aJ Tryz.prog 36:=aO Tryz.func36
theorem yE:aJ Tryz.prog 37:=aO Tryz.func37
theorem yF:aJ Tryz.prog 38:=aO Tryz.func38
theorem yG:aJ Tryz.prog 39:=aO Tryz.func39
theorem yH:aJ Tryz.prog 40:=aO Tryz.func40
theorem yI:aJ Tryz.prog 48:=aO Tryz.func48
theorem nf:aJ Tryz.prog 49:=aO Tryz.func49
theorem yJ:aJ Tryz.prog 51:=aO Tryz.func51
theorem yK:aJ Tryz.prog 53:=aO Tryz.func53
theorem rV:aJ Tryz.prog 54:=aO Tryz.func54
theorem oS:aJ Tryz.prog 55:=aO Tryz.func55
theorem rW:aJ Tryz.prog 56:=aO Tryz.func56
theorem yL:aJ Tryz.prog 57:=aO Tryz.func57
theorem yM:aJ Tryz.prog 58:=aO Tryz.func58
theorem yN:aJ Tryz.prog 59:=aO Tryz.func59
theorem yO:aJ Tryz.prog 60:=aO Tryz.func60
theorem lX:aJ Tryz.prog 61:=aO Tryz.func61
theorem yP:aJ Tryz.prog 62:=aO Tryz.func62
theorem yQ:aJ Tryz.prog 63:=aO Tryz.func63
theorem yR:aJ Tryz.prog 64:=aO Tryz.func64
theorem rX:aJ Tryz.prog 65:=aO Tryz.func65
theorem iG:aJ Tryz.prog 66:=aO Tryz.func66
theorem rY:aJ Tryz.prog 67:=aO Tryz.func67
theorem ng:aJ Tryz.prog 68:=aO Tryz.func68
theorem yS:aJ Tryz.prog 69:=aO Tryz.func69
theorem yT:aJ Tryz.prog 70:=aO Tryz.func70
theorem yU:aJ Tryz.prog 71:=aO Tryz.func71
theorem yV:aJ Tryz.prog 72:=aO Tryz.func72
theorem oT:aJ Tryz.prog 73:=aO Tryz.func73
theorem rZ:aJ Tryz.prog 74:=aO Tryz.func74
theorem r3:aJ Tryz.prog 75:=aO Tryz.func75
theorem yW:aJ Tryz.prog 76:=aO Tryz.func76
theorem r4:aJ Tryz.prog 77:=aO Tryz.func77
theorem yX:aJ Tryz.prog 87:=aO Tryz.func87
theorem r5:aJ Tryz.prog 88:=aO Tryz.func88
theorem yY:aJ Tryz.prog 89:=aO Tryz.func89
theorem yZ:aJ Tryz.prog 90:=aO Tryz.func90
theorem y0:aJ Tryz.prog 91:=aO Tryz.func91
theorem oU:aJ Tryz.prog 92:=aO Tryz.func92
theorem r6:aJ Tryz.prog 93:=aO Tryz.func93
theorem oV:aJ Tryz.prog 94:=aO Tryz.func94
theorem y1:aJ Tryz.prog 95:=aO Tryz.func95
theorem oW:aJ Tryz.prog 96:=aO Tryz.func96
theorem ni:aJ Tryz.prog 97:=aO Tryz.func97
theorem oX:aJ Tryz.prog 98:=aO Tryz.func98
theorem r7:aJ Tryz.prog 99:=aO Tryz.func99
theorem zJ:∀ (l:List UInt8) (c:UInt8) (w:World),(callFunc 185 #[str l,.int .u8 c.toNat]).run Tryz.prog w= .ok (.value (.int .i64 (l.count c:Nat))) w:=Fe Tryz.func185 (by kernel_rfl) (by kernel_rfl) (by kernel_rfl) (by kernel_rfl)
theorem z8:∀ v w,(callFunc 110 #[v]).run Tryz.prog w= .ok (.value v) w:=fun v w=>by kernel_rfl
theorem sj:cC Tryz.prog 105=some 2:=by kernel_rfl
theorem z9:cC Tryz.prog 139=some 1:=by kernel_rfl
theorem Aa:cC Tryz.prog 141=some 1:=by kernel_rfl
theorem o7:cC Tryz.prog 155=some 7:=by kernel_rfl
theorem k3:cC Tryz.prog 157=some 5:=by kernel_rfl
theorem sn:cC Tryz.prog 211=some 1:=by kernel_rfl
theorem kt:cC Tryz.prog 213=some 1:=by kernel_rfl
theorem o8:cC Tryz.prog 22=some 1:=by kernel_rfl
theorem Ab:cC Tryz.prog 225=some 1:=by kernel_rfl
theorem jr:cC Tryz.prog 227=some 4:=by kernel_rfl
theorem dz:cC Tryz.prog 25=some 3:=by kernel_rfl
theorem np:cC Tryz.prog 266=some 1:=by kernel_rfl
theorem iL:cC Tryz.prog 3=some 1:=by kernel_rfl
theorem Ac:cC Tryz.prog 39=some 1:=by kernel_rfl
theorem sr:cC Tryz.prog 4=some 1:=by kernel_rfl
theorem Ad:cC Tryz.prog 48=some 1:=by kernel_rfl
theorem nq:cC Tryz.prog 54=some 1:=by kernel_rfl
theorem iM:cC Tryz.prog 56=some 2:=by kernel_rfl
theorem Ae:cC Tryz.prog 64=some 1:=by kernel_rfl
theorem c8:cC Tryz.prog 71=some 1:=by kernel_rfl
theorem ss:cC Tryz.prog 74=some 1:=by kernel_rfl
theorem Af:cC Tryz.prog 81=some 5:=by kernel_rfl
theorem su:cC Tryz.prog 82=some 1:=by kernel_rfl
theorem sv:cC Tryz.prog 83=some 1:=by kernel_rfl
theorem sw:cC Tryz.prog 84=some 1:=by kernel_rfl
theorem sx:cC Tryz.prog 85=some 1:=by kernel_rfl
theorem sy:cC Tryz.prog 87=some 13:=by kernel_rfl
theorem ku:cC Tryz.prog 9=some 1:=by kernel_rfl
theorem Ag:cC Tryz.prog 99=some 2:=by kernel_rfl
theorem js:et Tryz.prog 139=some 1:=by kernel_rfl
theorem A3:et Tryz.prog 169=some 1:=by kernel_rfl
theorem A4:et Tryz.prog 211=some 4:=by kernel_rfl
theorem la:et Tryz.prog 39=some 2:=by kernel_rfl
theorem bU:et Tryz.prog 48=some 1:=by kernel_rfl
theorem aY:et Tryz.prog 54=some 1:=by kernel_rfl
theorem A5:et Tryz.prog 64=some 1:=by kernel_rfl
theorem lf:et Tryz.prog 74=some 2:=by kernel_rfl
theorem po:et Tryz.prog 83=some 1:=by kernel_rfl
theorem A6:et Tryz.prog 84=some 5:=by kernel_rfl
theorem pq:et Tryz.prog 85=some 7:=by kernel_rfl
theorem nD:b0 Tryz.prog 105 0=some 0:=by kernel_rfl
theorem l6:b0 Tryz.prog 105 1=some 1:=by kernel_rfl
theorem l7:b0 Tryz.prog 108 0=some 0:=by kernel_rfl
theorem tk:b0 Tryz.prog 108 1=some 1:=by kernel_rfl
theorem pE:b0 Tryz.prog 143 0=some 0:=by kernel_rfl
theorem nE:b0 Tryz.prog 143 1=some 1:=by kernel_rfl
theorem BL:b0 Tryz.prog 155 3=some 3:=by kernel_rfl
theorem BM:b0 Tryz.prog 155 4=some 4:=by kernel_rfl
theorem BN:b0 Tryz.prog 155 5=some 5:=by kernel_rfl
theorem nG:b0 Tryz.prog 155 6=some 6:=by kernel_rfl
theorem pF:b0 Tryz.prog 157 0=some 0:=by kernel_rfl
theorem nH:b0 Tryz.prog 157 1=some 1:=by kernel_rfl
theorem tp:b0 Tryz.prog 157 2=some 2:=by kernel_rfl
theorem BO:b0 Tryz.prog 157 3=some 3:=by kernel_rfl
theorem pG:b0 Tryz.prog 157 4=some 4:=by kernel_rfl
theorem ky:b0 Tryz.prog 213 0=some 0:=by kernel_rfl
theorem iQ:b0 Tryz.prog 25 1=some 1:=by kernel_rfl
theorem jX:b0 Tryz.prog 25 2=some 2:=by kernel_rfl
theorem nI:b0 Tryz.prog 56 0=some 0:=by kernel_rfl
theorem nJ:b0 Tryz.prog 56 1=some 1:=by kernel_rfl
theorem lh:b0 Tryz.prog 87 0=some 0:=by kernel_rfl
theorem BP:b0 Tryz.prog 87 1=some 1:=by kernel_rfl
theorem BQ:b0 Tryz.prog 87 2=some 2:=by kernel_rfl
theorem tq:b0 Tryz.prog 87 3=some 3:=by kernel_rfl
theorem pH:b0 Tryz.prog 87 4=some 8:=by kernel_rfl
theorem nK:b0 Tryz.prog 87 5=some 9:=by kernel_rfl
theorem jt:b0 Tryz.prog 87 6=some 10:=by kernel_rfl
theorem lj:b0 Tryz.prog 87 7=some 11:=by kernel_rfl
theorem ju:b0 Tryz.prog 87 8=some 12:=by kernel_rfl
theorem dw:b0 Tryz.prog 89 0=some 0:=by kernel_rfl
theorem tt:b0 Tryz.prog 89 1=some 13:=by kernel_rfl
theorem dE:b0 Tryz.prog 92 0=some 0:=by kernel_rfl
theorem l8:b0 Tryz.prog 92 1=some 1:=by kernel_rfl
theorem l9:b0 Tryz.prog 92 2=some 2:=by kernel_rfl
theorem BR:b0 Tryz.prog 92 3=some 3:=by kernel_rfl
theorem lk:b0 Tryz.prog 92 4=some 4:=by kernel_rfl
theorem pI:b0 Tryz.prog 92 5=some 5:=by kernel_rfl
theorem pJ:b0 Tryz.prog 92 6=some 6:=by kernel_rfl
theorem tu:b0 Tryz.prog 99 0=some 0:=by kernel_rfl
theorem tv:b0 Tryz.prog 99 1=some 1:=by kernel_rfl
theorem CC:(Tryz.prog.info? 143).isSome=true :=by kernel_rfl
theorem CS:∀ (l:List UInt8) (c:UInt8) (w:World),(callFunc 169 #[str l,.int .u8 c.toNat]).run Tryz.prog w= .ok (.value (.int .i64 (cD c l))) w:=Ff Tryz.func169 (by kernel_rfl) (by kernel_rfl) (by kernel_rfl) (by kernel_rfl)
theorem kB:ir Tryz.prog 71 (jv .u16):=CZ (q:= .u16) (by kernel_rfl)
theorem ef:ir Tryz.prog 9 ew:=C0 (by kernel_rfl)
theorem p7:kD Tryz.prog 25=true :=by kernel_rfl
theorem EF:ptrTo Tryz.prog 183 5=true :=by kernel_rfl
theorem ij:ei Tryz.prog 139 5 1 1=true :=by kernel_rfl
theorem n7:ei Tryz.prog 211 227 4 32=true :=by kernel_rfl
theorem n8:ei Tryz.prog 39 56 2 40=true :=by kernel_rfl
theorem fc:ei Tryz.prog 48 9 1 16=true :=by kernel_rfl
theorem n9:ei Tryz.prog 54 71 1 2=true :=by kernel_rfl
theorem oa:ei Tryz.prog 64 3 1 8=true :=by kernel_rfl
theorem vA:ei Tryz.prog 74 105 2 32=true :=by kernel_rfl
theorem oc:ei Tryz.prog 82 163 2 32=true :=by kernel_rfl
theorem od:ei Tryz.prog 83 54 1 24=true :=by kernel_rfl
theorem oe:ei Tryz.prog 84 157 5 40=true :=by kernel_rfl
theorem og:ei Tryz.prog 85 155 7 88=true :=by kernel_rfl
theorem FL:gN Tryz.prog 105=some ([(0,1),(1,1)],[.int .i64 0,.slice none 0 0]):=by kernel_rfl
theorem FM:gN Tryz.prog 108=some ([(0,1),(1,1)],[.slice none 0 0,.map none]):=by kernel_rfl
theorem FN:gN Tryz.prog 155=some ([(0,1),(1,1),(2,1),(3,1),(4,1),(5,1),(6,1)],[.int .i64 0,.int .u16 0,.bool false,.string ⟨⟨[]⟩⟩,.string ⟨⟨[]⟩⟩,.string ⟨⟨[]⟩⟩,.slice none 0 0]):=by kernel_rfl
theorem qC:gN Tryz.prog 157=some ([(0,1),(1,1),(2,1),(3,1),(4,1)],[.int .u16 0,.int .i64 0,.bool false,.int .i64 0,.int .i64 0]):=by kernel_rfl
theorem FO:gN Tryz.prog 163=some ([(0,1),(1,1)],[.string ⟨⟨[]⟩⟩,.string ⟨⟨[]⟩⟩]):=by kernel_rfl
theorem mG:gN Tryz.prog 213=some ([(0,1)],[.slice none 0 0]):=by kernel_rfl
theorem kJ:gN Tryz.prog 25=some ([(0,1),(1,1),(2,1)],[.int .i64 0,.int .i64 0,.int .i64 0]):=by kernel_rfl
theorem jF:gN Tryz.prog 56=some ([(0,1),(1,1)],[.string ⟨⟨[]⟩⟩,.slice none 0 0]):=by kernel_rfl
theorem FP:gN Tryz.prog 89=some ([(0,13),(13,1)],[.int .i64 0,.string ⟨⟨[]⟩⟩,.string ⟨⟨[]⟩⟩,.int .u16 0,.int .u16 0,.int .u16 0,.int .u16 0,.int .u16 0,.int .i64 0,.slice none 0 0,.slice none 0 0,.slice none 0 0,.slice none 0 0,.map none]):=by kernel_rfl
theorem FQ:gN Tryz.prog 92=some ([(0,1),(1,1),(2,1),(3,1),(4,1),(5,1),(6,1)],[.pointer none,.slice none 0 0,.int .i64 0,.int .i64 0,.map none,.map none,.slice none 0 0]):=by kernel_rfl
theorem gM:gN Tryz.prog 99=some ([(0,1),(1,1)],[.int .i64 0,.nilFunc]):=by kernel_rfl
theorem vN:Tryz.prog.underlying 106=some (.map 9 64):=by kernel_rfl
theorem jH:Tryz.prog.underlying 139=some (.slice 5):=by kernel_rfl
theorem vO:Tryz.prog.underlying 141=some (.pointer 143):=by kernel_rfl
theorem Gc:Tryz.prog.underlying 169=some (.slice 71):=by kernel_rfl
theorem qF:Tryz.prog.underlying 211=some (.slice 227):=by kernel_rfl
theorem iY:Tryz.prog.underlying 22=some (.pointer 89):=by kernel_rfl
theorem vQ:Tryz.prog.underlying 224=some (.int .u64):=by kernel_rfl
theorem Gd:Tryz.prog.underlying 266=some (.int .u64):=by kernel_rfl
theorem lG:Tryz.prog.underlying 28=some (.pointer 108):=by kernel_rfl
theorem u3:Tryz.prog.underlying 3=some (.int .i64):=by kernel_rfl
theorem mI:Tryz.prog.underlying 39=some (.slice 56):=by kernel_rfl
theorem dI:Tryz.prog.underlying 48=some (.slice 9):=by kernel_rfl
theorem u5:Tryz.prog.underlying 5=some (.int .u8):=by kernel_rfl
theorem iZ:Tryz.prog.underlying 54=some (.slice 71):=by kernel_rfl
theorem u64:Tryz.prog.underlying 64=some (.slice 3):=by kernel_rfl
theorem oo:Tryz.prog.underlying 71=some (.int .u16):=by kernel_rfl
theorem oq:Tryz.prog.underlying 74=some (.slice 105):=by kernel_rfl
theorem c7:Tryz.prog.underlying 80=some (.map 71 3):=by kernel_rfl
theorem Ge:Tryz.prog.underlying 82=some (.slice 163):=by kernel_rfl
theorem ot:Tryz.prog.underlying 83=some (.slice 54):=by kernel_rfl
theorem vS:Tryz.prog.underlying 84=some (.slice 157):=by kernel_rfl
theorem ou:Tryz.prog.underlying 85=some (.slice 155):=by kernel_rfl
theorem u9:Tryz.prog.underlying 9=some (.string):=by kernel_rfl
theorem j7:Tryz.prog.underlying 90=some (.map 9 3):=by kernel_rfl
theorem gq:Tryz.prog.underlying 94=some (.map 9 99):=by kernel_rfl
theorem vV:mK Tryz.prog 141 202 143 2=true :=by kernel_rfl
theorem Gl:(Tryz.prog.underlying 224).isSome=true :=by kernel_rfl
theorem Gm:(Tryz.prog.underlying 225).isSome=true :=by kernel_rfl
theorem lJ:(Tryz.prog.underlying 3).isSome=true :=by kernel_rfl
theorem mL:(Tryz.prog.underlying 5).isSome=true :=by kernel_rfl
theorem wide:Tryz.prog.follows .mixedOrders=true :=by kernel_rfl
theorem wx:zeroOf Tryz.prog 105=some (some [.int .i64 0,.slice none 0 0]):=by kernel_rfl
theorem wy:zeroOf Tryz.prog 143=some (some [.pointer none,.slice none 0 0]):=by kernel_rfl
theorem qN:zeroOf Tryz.prog 155=some (some [.int .i64 0,.int .u16 0,.bool false,.string ⟨⟨[]⟩⟩,.string ⟨⟨[]⟩⟩,.string ⟨⟨[]⟩⟩,.slice none 0 0]):=by kernel_rfl
theorem mM:zeroOf Tryz.prog 157=some (some [.int .u16 0,.int .i64 0,.bool false,.int .i64 0,.int .i64 0]):=by kernel_rfl
theorem qO:zeroOf Tryz.prog 213=some (some [.slice none 0 0]):=by kernel_rfl
theorem GI:zeroOf Tryz.prog 22=some (some [.pointer none]):=by kernel_rfl
theorem kN:zeroOf Tryz.prog 227=some (some [.int .u64 0,.int .u64 0,.int .u64 0,.int .u64 0]):=by kernel_rfl
theorem eZ:zeroOf Tryz.prog 25=some (some [.int .i64 0,.int .i64 0,.int .i64 0]):=by kernel_rfl
theorem GJ:zeroOf Tryz.prog 266=some (some [.int .u64 0]):=by kernel_rfl
theorem GK:zeroOf Tryz.prog 3=some (some [.int .i64 0]):=by kernel_rfl
theorem GL:zeroOf Tryz.prog 48=some (some [.slice none 0 0]):=by kernel_rfl
theorem wz:zeroOf Tryz.prog 56=some (some [.string ⟨⟨[]⟩⟩,.slice none 0 0]):=by kernel_rfl
theorem GM:zeroOf Tryz.prog 74=some (some [.slice none 0 0]):=by kernel_rfl
theorem GN:zeroOf Tryz.prog 81=some (some [.int .u16 0,.int .u16 0,.int .u16 0,.int .u16 0,.int .u16 0]):=by kernel_rfl
theorem wH:zeroOf Tryz.prog 87=some (some [.int .i64 0,.string ⟨⟨[]⟩⟩,.string ⟨⟨[]⟩⟩,.int .u16 0,.int .u16 0,.int .u16 0,.int .u16 0,.int .u16 0,.int .i64 0,.slice none 0 0,.slice none 0 0,.slice none 0 0,.slice none 0 0]):=by kernel_rfl
theorem GO:zeroOf Tryz.prog 9=some (some [.string ⟨⟨[]⟩⟩]):=by kernel_rfl
theorem GP:zeroOf Tryz.prog 99=some (some [.int .i64 0,.nilFunc]):=by kernel_rfl
theorem GQ:zeroOf Tryz.prog 204=some (some (List.replicate 256 (.bool false))):=by kernel_rfl
theorem GR:zeroV Tryz.prog 25=some (.agg #[.int .i64 0,.int .i64 0,.int .i64 0]):=by kernel_rfl
theorem jf:zeroV Tryz.prog 3=some (.int .i64 0):=by kernel_rfl
theorem GS:zeroV Tryz.prog 5=some (.int .u8 0):=by kernel_rfl
theorem GU:zeroV Tryz.prog 64=some (.slice none 0 0):=by kernel_rfl
theorem GV:zeroV Tryz.prog 71=some (.int .u16 0):=by kernel_rfl
theorem GW:zeroV Tryz.prog 99=some (.agg #[.int .i64 0,.nilFunc]):=by kernel_rfl
end Go.Hb.cG
end
section
set_option maxRecDepth 20000
set_option maxHeartbeats 1000000
namespace Go.Hb.Builder
open Go.Hb.cG
open Go.Proofs
theorem zS (b:Nat) (a:Option Addr) (i:Value) (w:World) (hb:w.heap[b]? =some (.cells [Value.pointer a,i].toArray 143 (0,0))) (hp:a=none∨a=some ⟨b,0,none⟩):
 aK Tryz.prog 87 (List.toArray [aU b]) w (fun v w'=>v= .tuple #[]∧w'.heap[b]? =some (.cells [Value.pointer (some ⟨b,0,none⟩),i].toArray 143 (0,0))∧Md (fun k=>k=b) w w'):=by
 refine enter Tryz.func87 rfl Tryz.ntmps87 rfl ?_
 refine aa (fun _ j=>(ab (aU b) (p (nc rfl) (p (fa pE rfl) (p (ld qZ rfl ((aM hb).trans rfl)) (p (fQ vO rfl rfl) (nl ?_)))))))
 refine tn (j _ _ (cb rfl (fun c=> ?_) (fun c=> ?_)))
 obtain rfl :a=none:=by simpa using c
 refine rg rfl (ab (aU b) (ab (aU b) (p (F3 vV rfl hb rfl) (p (zH z8 rfl) (p (BY vV rfl hb rfl) (p (nc rfl) (p (fa pE rfl) ?_)))))))
 refine e (cV Aa rfl rfl rfl hb (by simp) fun w1 A s=>nl (f0 rfl ?_))
 exact ⟨rfl,s,A⟩
 obtain rfl :a=some ⟨b,0,none⟩:=hp.resolve_left (by rintro rfl; simp at c)
 refine aa (fun _ q=>(ab (aU b) (p (nc rfl) (p (fa pE rfl) (p (ld qZ rfl ((aM hb).trans rfl)) (ab (aU b) (p (DO vO CC rfl rfl) ?_)))))))
 refine ag ((q _ _ (cf rfl (az (f0 rfl ?_)))))
 exact ⟨rfl,hb,Md.refl _ _⟩
theorem wv (b:Nat) (i:Value) (l:List UInt8) (c:UInt8) (w:World) (hb:Bd 143 5 w b i l) (hl:l.length≤70368744177664):
 aK Tryz.prog 54 (List.toArray [aU b,.int .u8 c.toNat]) w (fun v w'=>v= .nilIface∧∃ A,Bd 143 5 w' b A (l++ [c])∧Md (BF b i) w w'∧∀ k,BF b A k→BF b i k∨w.heap.size≤k):=by
 obtain ⟨⟨ai,hbl,ah⟩,hown,hnil⟩:=hb
 have hlt:b < w.heap.size:=(Array.getElem?_eq_some_iff.1 hbl).1
 have I:∀ k,i.ownBlock=some k→k≠b∧k < w.heap.size:=fun k hk=>by have :=hown.lt k hk; exact ⟨by omega,this.2⟩
 refine enter Tryz.func54 rfl Tryz.ntmps54 rfl ?_
 refine aa (fun _ M=>(ae (((M _ _ (aa (fun _ O=>(ab (aU b) ?_))))))))
 refine e (cl yX (zS b ai i w hbl ah) rfl fun v6 w6 hR6=> ?_)
 obtain ⟨_,G,q⟩:=hR6
 have ho1:=bu hown q (fun k hk=>(I k hk).1)
 have hs1:=q.size
 refine ag ((O _ _ (aa (fun _ U=>(ab (aU b) (ab (aU b) (p (nc rfl) (p (fa nE rfl) ?_))))))))
 refine p (ld oE rfl ((aM G).trans rfl)) (ab (.int .u8 c.toNat) (e (gh ij rfl rfl fun al w13 am j Z=>e (ap ij (aE ho1 j.md) rfl (by have :=j.size; omega) rfl (aj.dZ Z) (rfl) (rfl) (by omega) (by omega) fun J w14 s C hz14 ad=> ?_))))
 have hb14:=C.au (Wk.au j.md G) (fun h=>(I b h).1 rfl)
 refine p (nc rfl) (p (fa nE rfl) (e (cV z9 rfl rfl (by obtain ⟨a,c,h,_⟩:=lA s; exact congrArg Value.oneCell' h) hb14 (by simp) fun w3 E ac=>ag ((U _ _ (aa (fun _ V=>(p ak ?_))))))))
 refine ag ((V _ _ (rt (f1 rfl rfl ?_))))
 have Y:∀ k,J.ownBlock=some k→k≠b:=fun k hk=>by have :=s.lt k hk; omega
 refine ⟨rfl,J,⟨⟨_,ac,.inr rfl⟩,?_,?_⟩,?_,?_⟩
 rw [List.length_append,mV]; exact bu s E (fun k hk=>Y k hk)
 rw [hz14]; simp
 refine Md.trans' (Md.trans' (Md.trans' (q.mono (fun k _ h=> .inl h)) j.md (fun _ _ h=>h.elim)) C (fun k _ h=> .inr h)) E (fun k _ h=> .inl h)
 rintro k (rfl | hk)
 exact .inl (.inl rfl)
 by_cases h:i.ownBlock=some k
 exact .inl (.inr h)
 have :=ad k hk; have h1:=q.size; have h2:=j.md.size; exact .inr (by rcases this with h3 | h3; exact absurd h3 h; omega)
theorem qE (b:Nat) (q:Value) (l:List UInt8) (w:World) (hb:Bd 143 5 w b q l) (hl:l.length≤70368744177664):
 aK Tryz.prog 55 (List.toArray [aU b]) w (fun v w'=>v=str l∧Md (fun k=>q.ownBlock=some k) w w'):=by
 obtain ⟨⟨J,hbl,G⟩,hown,hnil⟩:=hb
 obtain ⟨a,c,rfl,hcs,hle,hk,E⟩:=lA hown
 refine enter Tryz.func55 rfl Tryz.ntmps55 rfl ?_
 refine aa (fun _ s=>(ae (((s _ _ (sq (fun _ A=> ?_)))))))
 have i:(fun w'=>Md (fun k=>(Value.slice a l.length c).ownBlock=some k) w w') w.drew:=(Md.refl _ _).drew
 refine bF (fun w'=>Md (fun k=>(Value.slice a l.length c).ownBlock=some k) w w') rfl wide i (bp 0 rfl (aU b) i (aQ 1 rfl (fun _ _=>nc rfl) i (aQ 2 rfl (fun _ _=>fa nE rfl) i (aQ 3 rfl (fun w' j=>ld oE rfl (j.aw ((aM hbl).trans rfl) (fun h=>by have :=hown.lt _ h; omega))) i (bp 5 rfl (aU b) i (aQ 6 rfl (fun _ _=>nc rfl) i (aQ 7 rfl (fun _ _=>fa nE rfl) i ?_)))))))
 refine aQ 8 rfl (fun w' j=>ld oE rfl (j.aw ((aM hbl).trans rfl) (fun h=>by have :=hown.lt _ h; omega))) i (aQ 9 rfl (fun _ _=>bm jH rfl rfl) i ?_)
 refine aQ 4 rfl (fun _ _=>Gn (v:= .nilFunc) rfl (by
  by_cases h:l= []
  have :=hnil.2 h; simp only [Value.slice.injEq] at this; exact .inl this.1
  right; have :0 < l.length:=List.length_pos_iff.2 h; omega)) i ?_
 refine he 10 rfl (by kernel_rfl) (Gp EF rfl rfl hown rfl (by omega) fun w13 C I=> ?_)
 have p:(fun w'=>Md (fun k=>(Value.slice a l.length c).ownBlock=some k) w w') w13:=i.trans' C (fun _ _ h=>h)
 refine ⟨p,?_⟩
 exact aQ 11 rfl (fun _ _=>ak) p (hn (by kernel_rfl) (tn (A _ _ (rt (f1 rfl rfl (⟨rfl,p⟩))))))
end Go.Hb.Builder
end
section
set_option maxRecDepth 20000
set_option maxHeartbeats 1000000
namespace Go.Hb.jj
open Go.Hb.cG
open Go.Proofs
open Go.Hb.Builder
theorem gU (b:UInt8):kv b=decide ((b.toNat:Int)=92∨(b.toNat:Int)=47∨(b.toNat:Int)=35):=by
 unfold kv; exact decide_eq_decide.2 (by omega)
theorem s7 (b:UInt8):eF b=decide (32 < (b.toNat:Int)∧(b.toNat:Int)≠127):=by
 unfold eF; exact decide_eq_decide.2 (by omega)
theorem Bv {b:UInt8} (h:¬(32 < (b.toNat:Int)∧(b.toNat:Int)≠127)):eF b=false :=by rw [s7]; exact decide_eq_false h
theorem s8 (b:UInt8) (w:World):
 aK Tryz.prog 103 (List.toArray [.int .u8 b.toNat]) w (fun v w'=>v= .bool (eF b)∧Wk w w'):=by
 refine enter Tryz.func103 rfl Tryz.ntmps103 rfl ?_
 refine aa (fun _ c=>(ae (((c _ _ (aa (fun _ a=>(ab (.int .u8 b.toNat) ?_))))))))
 refine p (gt rfl rfl) (p mv (gs (t:=5) rfl (fun hg5=> ?_) (fun hg5=> ?_)))
 refine pg rfl rfl rfl (ao (.int .u8 b.toNat) rfl) (pg rfl rfl rfl (dF rfl rfl) (p (bl rfl) (ae (((a _ _ (rt (f1 rfl rfl ?_))))))))
 exact ⟨by show Value.bool (decide _)=_; rw [s7]; exact bv (by constructor <;> intro h <;> first | exact ⟨by omega,h⟩ | exact h.2),Md.refl _ _⟩
 refine sk rfl rfl rfl rfl (sk rfl rfl rfl rfl (p (a7 rfl) (ae (((a _ _ (rt (f1 rfl rfl ?_))))))))
 exact ⟨by show Value.bool false =_; rw [Bv (by omega)],Md.refl _ _⟩
theorem DB (b:UInt8) (w:World):
 aK Tryz.prog 53 (List.toArray [.int .u8 b.toNat]) w (fun v w'=>v= .bool (kv b)∧Wk w w'):=by
 refine enter Tryz.func53 rfl Tryz.ntmps53 rfl ?_
 refine aa (fun _ s=>(ae (((s _ _ (sq (fun _ j=>aa (fun _ A=> ?_))))))))
 refine ab (.int .u8 b.toNat) (ag ((A _ _ (au (sq (fun _ q=>aa (fun _ C=>(p (ba rfl rfl) ?_))))))))
 refine ae (((C _ _ (cd rfl (fun a=> ?_) (fun a=> ?_)))))
 refine az (tn (q _ _ (cd rfl (fun a=> ?_) (fun a=> ?_))))
 refine aa (fun _ i=>(ae (((i _ _ (rt (br (tr ?_))))))))
 refine f1 rfl rfl ?_
 first | exact ⟨by show Value.bool true =_; rw [gU,decide_eq_true (by omega)],Md.refl _ _⟩ | exact ⟨by show Value.bool false =_; rw [gU,decide_eq_false (by omega)],Md.refl _ _⟩
 refine az (bn (tn (j _ _ (aa (fun _ i=>(ae (((i _ _ ?_)))))))))
 refine rt (f1 rfl rfl ?_)
 first | exact ⟨by show Value.bool true =_; rw [gU,decide_eq_true (by omega)],Md.refl _ _⟩ | exact ⟨by show Value.bool false =_; rw [gU,decide_eq_false (by omega)],Md.refl _ _⟩
 refine aa (fun _ i=>(p (ba rfl rfl) (ae (((i _ _ (cd rfl (fun a=> ?_) (fun a=> ?_))))))))
 refine az (tn (q _ _ (cd rfl (fun a=> ?_) (fun a=> ?_))))
 refine aa (fun _ c=>(ae (((c _ _ (rt (br (tr ?_))))))))
 refine f1 rfl rfl ?_
 first | exact ⟨by show Value.bool true =_; rw [gU,decide_eq_true (by omega)],Md.refl _ _⟩ | exact ⟨by show Value.bool false =_; rw [gU,decide_eq_false (by omega)],Md.refl _ _⟩
 refine az (bn (tn (j _ _ (aa (fun _ c=>(ae (((c _ _ ?_)))))))))
 refine rt (f1 rfl rfl ?_)
 first | exact ⟨by show Value.bool true =_; rw [gU,decide_eq_true (by omega)],Md.refl _ _⟩ | exact ⟨by show Value.bool false =_; rw [gU,decide_eq_false (by omega)],Md.refl _ _⟩
 refine rg rfl (p (ba rfl rfl) (ae (((q _ _ (cd rfl (fun a=> ?_) (fun a=> ?_)))))))
 refine aa (fun _ c=>(ae (((c _ _ (rt (br (tr ?_))))))))
 refine f1 rfl rfl ?_
 first | exact ⟨by show Value.bool true =_; rw [gU,decide_eq_true (by omega)],Md.refl _ _⟩ | exact ⟨by show Value.bool false =_; rw [gU,decide_eq_false (by omega)],Md.refl _ _⟩
 refine az (bn (tn (j _ _ (aa (fun _ c=>(ae (((c _ _ ?_)))))))))
 refine rt (f1 rfl rfl ?_)
 first | exact ⟨by show Value.bool true =_; rw [gU,decide_eq_true (by omega)],Md.refl _ _⟩ | exact ⟨by show Value.bool false =_; rw [gU,decide_eq_false (by omega)],Md.refl _ _⟩
theorem wc (s:List UInt8) (w:World) (hs:s.length≤1048576):
 aK Tryz.prog 74 (List.toArray [str s]) w (fun v w'=>v= .bool (jJ s)∧Wk w w'):=by
 refine enter Tryz.func74 rfl Tryz.ntmps74 rfl ?_
 refine aa (fun _ O=>(ae (((O _ _ (sq (fun _ Y=>aa (fun _ G=> ?_))))))))
 refine ab (str s) (p (e5 rfl rfl) (p mv (gs (t:=6) rfl (fun hg6=> ?_) (fun hg6=> ?_))))
 refine sk rfl rfl rfl rfl (sk rfl rfl rfl rfl (sk rfl rfl rfl rfl (p (bl rfl) (ag ((G _ _ (ct rfl (sq (fun _ a=> ?_)))))))))
 exact rg rfl (ae (((a _ _ (rt (tr (f1 rfl rfl (⟨by show Value.bool false =_; unfold jJ; rw [decide_eq_false (by rw [hg6]; simp)],Md.refl _ _⟩))))))))
 refine pg rfl rfl rfl (ao (str s) rfl) (pg rfl rfl rfl (bR u9 rfl rfl) (pg rfl rfl rfl (gt rfl rfl) (p (a7 rfl) (ag ((G _ _ (cd rfl (fun hc10=> ?_) (fun hc10=> ?_))))))))
 refine aa (fun _ a=>(ae (((a _ _ (rt (tr (f1 rfl rfl ?_))))))))
 exact ⟨by show Value.bool false =_; unfold jJ; rw [decide_eq_false (by omega)],Md.refl _ _⟩
 refine az (tn (Y _ _ (sq (fun _ a=>aa (fun _ Z=>(ab (str s) (p (bR u9 rfl rfl) (p mv ?_))))))))
 refine ag ((Z _ _ (au (lp (fun I c wI=> ∃ (i:Nat),(i≤s.length∧1≤s.length∧s.length≤64)∧(∀ j,j < i→eF (s.getD j 0)=true)∧(Wk w wI)∧(c 0=str s)∧(c 12= .int .i64 s.length)∧(c 13= .int .i64 i)∧(s.length - i=I)) _ ⟨0,(⟨by omega,by rcases Nat.eq_zero_or_pos s.length with h | h <;> first | exact absurd (List.length_eq_zero_iff.1 h) hg6 | exact h,by omega⟩),((fun j M=>by omega)),(Md.refl _ _),rfl,rfl,rfl,rfl⟩ ?_))))
 rintro I c wI ⟨i,hi,hp,A,am,an,ap,rfl⟩
 refine fx 0 am (fx 12 an (fx 13 ap (aa (fun _ ac=>(p (lt rfl rfl) (ag ((ac _ _ (sq (fun _ ah=>cd rfl (fun al=> ?_) (fun al=> ?_)))))))))))
 refine az (tn (ah _ _ (sq (fun _ q=>au (aa (fun _ ai=>(ab (.int .i64 i) (p (bA (.int .i64 i) rfl) ?_))))))))
 refine ag ((ai _ _ (aa (fun _ U=>(ab (str s) (ab (.int .i64 i) (p (fp u9 rfl rfl (by omega)) (e (cl rE (s8 (s.getD i 0) _) rfl fun aq w19 aj=> ?_)))))))))
 obtain ⟨rfl,J⟩:=aj
 refine p (no rfl) (ag ((U _ _ (cb rfl (fun C=> ?_) (fun C=> ?_)))))
 have E:eF (s.getD i 0)=false :=by simpa using C
 refine aa (fun _ V=>(ae (((V _ _ (rt (br (tr ?_))))))))
 exact tr (br (tr (f1 rfl rfl (⟨by show Value.bool false =_; unfold jJ; rw [na (i:=i) (by omega) E,decide_eq_false (by simp)],Md.trans A J⟩))))
 have E:eF (s.getD i 0)=true :=by simpa using C
 refine az (bn (tn (q _ _ (rg rfl (p (ad rfl rfl (bw (by omega))) (p mv (nl (tn ?_))))))))
 exact ⟨_,by omega,i+1,(by omega),((fun j M=>by rcases Nat.lt_or_ge j i with h | h <;> first | exact hp j h | (rw [show j=i by omega]; exact E))),(Md.trans A J),rfl,rfl,rfl,rfl⟩
 refine ext (te _ (te _ (be (tn (a _ _ (aa (fun _ q=>(p ak ?_))))))))
 exact ag ((q _ _ (rt (f1 rfl rfl (⟨by show Value.bool true =_; unfold jJ; rw [nb (fun j M=>hp j (by omega)),decide_eq_true ⟨hi.2.1,hi.2.2,rfl⟩],A⟩)))))
theorem qL (s:List UInt8) (w:World) (hs:s.length≤1048576):
 aK Tryz.prog 73 (List.toArray [str s]) w (fun v w'=>v=EI (aV s)∧Wk w w'):=by
 refine enter Tryz.func73 rfl Tryz.ntmps73 rfl ?_
 refine aa (fun _ aj=>(p ak (p ak (p ak (ae (((aj _ _ ?_))))))))
 refine aa (fun _ aq=>(e (fP wy fun a w6 hb6 aG hB6=>ag ((aq _ _ (sq (fun _ ar=>aa (fun _ av=> ?_))))))))
 refine ae (((av _ _ (au (lp (fun ah E wI=> ∃ (i:Nat) (acc:List UInt8) (c:Value),(i≤s.length∧acc.length≤i)∧(Bd 143 5 wI a c acc)∧(Wk w wI)∧(eT acc (s.drop i)=aV s)∧(E 0=str s)∧(E 6=aU a)∧(E 7= .int .i64 i)∧(s.length - i=ah)) _ ⟨0,[],.slice none 0 0,(by simp),(Bd.new hB6),aG.md,rfl,rfl,rfl,rfl,rfl⟩ ?_)))))
 rintro ah E wI ⟨i,acc,c,hi,j,q,hd,aW,aX,aY,rfl⟩
 refine fx 0 aW (fx 6 aX (fx 7 aY (sq (fun _ aw=>aa (fun _ ax=>(ab (.int .i64 i) (ab (str s) (p (bR u9 rfl rfl) (p (lt rfl rfl) ?_)))))))))
 refine ag ((ax _ _ (cd rfl (fun aO=> ?_) (fun aO=> ?_))))
 refine az (tn (aw _ _ (sq (fun _ M=>au (aa (fun _ ay=>(ab (str s) (ab (.int .i64 i) ?_))))))))
 refine p (fp u9 rfl rfl (by omega)) (ag ((ay _ _ (au ?_))))
 refine c6 (fun G wC=> ∃ (k:Nat),(k < s.length∧i≤k∧k≤i+1)∧(Bd 143 5 wC a c acc)∧(Wk w wC)∧(eT (acc++ [s.getD k 0]) (s.drop (k+1))=aV s)∧(G 0=str s)∧(G 6=aU a)∧(G 7= .int .i64 k)) ?_ ?_
 refine au (sq (fun _ O=>au (sq (fun _ al=>au (sq (fun _ am=>sq (fun _ an=>sq (fun _ ap=> ?_))))))))
 refine rg rfl (p (ba rfl rfl) (ae (((ap _ _ (cd rfl (fun aP=> ?_) (fun aP=> ?_)))))))
 have aN:(s.getD i 0).toNat=47:=by omega
 refine ext (te _ (te _ (be (tn (al _ _ (sq (fun _ Z=>sq (fun _ I=> ?_))))))))
 have A:(fun w'=>True) wI.drew:=trivial
 refine bF (fun w'=>True) rfl wide A (bp 1 rfl (str s) A (bp 2 rfl (.int .i64 i) A (aQ 3 rfl (fun _ _=>a8 ((i+1:Nat):Int) rfl rfl (aH (by omega) (by omega))) A (aQ 4 rfl (fun _ _=>jD u9 rfl rfl (by omega)) A (he 0 rfl (by kernel_rfl) (cl oS (qE a c acc _ (j.md (Md.refl (fun _=>False) _).drew (fun _ _ h=>h)) (by omega)) rfl fun a3 w21 aI=> ?_))))))
 obtain ⟨rfl,aD⟩:=aI
 have C:(fun w'=>True) w21:=trivial
 refine ⟨C,?_⟩
 refine aQ 5 rfl (fun _ _=>ak) C (aQ 6 rfl (fun _ _=>ak) C (aQ 7 rfl (fun _ _=>ak) C (aQ 8 rfl (fun _ _=>ak) C (hn (by kernel_rfl) (tn (I _ _ (rt (tr ?_))))))))
 refine br (tr (br (tr (br (br (tr (tr ?_)))))))
 refine br (tr (f4 rfl rfl rfl rfl rfl ?_))
 skip
 exact ⟨by rw [← hd,drop_cons 0 (by omega :i < s.length),wu aN]; rfl,j.qD q (Md.trans (Md.refl _ _).drew aD) (by omega)⟩
 refine az (tn (an _ _ (aa (fun _ Z=>(p (ba rfl rfl) (ae (((Z _ _ ?_)))))))))
 refine cd rfl (fun aR=> ?_) (fun aR=> ?_)
 have V:(s.getD i 0).toNat=92:=by omega
 refine ext (te _ (iD (by decide) (te _ (be (tn (O _ _ (aa (fun _ I=> ?_))))))))
 refine ab (.int .i64 i) (p (a8 ((i+1:Nat):Int) rfl rfl (aH (by omega) (by omega))) (ae (((I _ _ (aa (fun _ ac=>(p mv ?_))))))))
 refine ab (str s) (p (bR u9 rfl rfl) (p (ba rfl rfl) (p mv (gs (t:=32) rfl (fun aT=> ?_) (fun aT=> ?_)))))
 refine sk rfl rfl rfl rfl (sk rfl rfl rfl rfl (sk rfl rfl rfl rfl (sk rfl rfl rfl rfl (sk rfl rfl rfl rfl (p (bl rfl) (ag ((ac _ _ ?_))))))))
 refine ct rfl (aa (fun _ J=>(p ak (p ak (p ak (p ak (nl ?_)))))))
 refine tn (J _ _ (rt (br (tr (br (br (tr (tr ?_))))))))
 refine br (tr (f4 rfl rfl rfl rfl rfl ?_))
 exact ⟨by rw [← hd,drop_cons 0 (by omega :i < s.length),List.drop_eq_nil_of_le (by omega),wm V]; rfl,q⟩
 refine pg rfl rfl rfl (ao (str s) rfl) (pg rfl rfl rfl mv (pg rfl rfl rfl (fp u9 rfl rfl (by omega)) (eg rfl rfl rfl (cl yK (DB (s.getD (i+1) 0) _) rfl fun a4 w36 aJ=> ?_))))
 obtain ⟨rfl,U⟩:=aJ
 refine pg rfl rfl rfl (no rfl) (p (a7 rfl) (ag ((ac _ _ (cb rfl (fun Y=> ?_) (fun Y=> ?_))))))
 refine aa (fun _ J=>(p ak (p ak (p ak (ae (((J _ _ ?_))))))))
 refine rt (br (tr (br (br (tr (tr (br ?_)))))))
 refine tr (f4 rfl rfl rfl rfl rfl ?_)
 exact ⟨by rw [← hd,drop_cons 0 (by omega :i < s.length),drop_cons 0 (by omega :i+1 < s.length),wo V (by simpa using Y)]; rfl,Md.trans q U⟩
 exact az (bn (tn (⟨i+1,(by omega),(j.md U (fun _ _ h=>h)),(Md.trans q U),((by rw [← hd,drop_cons 0 (by omega :i < s.length),drop_cons 0 (by omega :i+1 < s.length),wj V (by simpa using Y)])),rfl,rfl,rfl⟩)))
 refine az (tn (am _ _ (ext (iD (by decide) (te _ (iD (by decide) (te _ (be ?_))))))))
 exact tn (⟨i,(by omega),j,q,((by rw [← hd,drop_cons 0 (by omega :i < s.length),wq (by omega) (by omega)])),rfl,rfl,rfl⟩)
 rintro G wC ⟨k,hk,ai,aC,aS,aZ,a0,a1⟩
 refine fx 0 aZ (fx 6 a0 (fx 7 a1 (aa (fun _ O=>(ab (str s) (ab (.int .i64 k) (p (fp u9 rfl rfl (by omega)) (e (cl rV (wv a c (acc) (s.getD k 0) _ ai (by omega)) rfl fun a5 w42 aL=> ?_)))))))))
 obtain ⟨rfl,aA,aB,aE,a2⟩:=aL
 refine ag ((O _ _ (ext (be (bn (tn (M _ _ (rg rfl (ab (.int .i64 k) ?_)))))))))
 exact p (ad rfl rfl (bw (by omega))) (ae (((⟨_,by omega,k+1,acc++ [s.getD k 0],aA,(by rw [List.length_append,List.length_singleton]; omega),aB,(ai.step aC aE (by omega)),aS,rfl,rfl,rfl,rfl⟩))))
 refine ext (te _ (te _ (be (tn (ar _ _ (aa (fun _ M=>(e (cl oS (qE a c acc _ j (by omega)) rfl fun a6 w43 aM=> ?_)))))))))
 obtain ⟨rfl,aF⟩:=aM
 refine p ak (p ak (p ak (ae (((M _ _ (rt (f4 rfl rfl rfl rfl rfl ?_))))))))
 exact ⟨by rw [← hd,List.drop_eq_nil_of_le (by omega),qK]; rfl,j.qD q aF (by omega)⟩
theorem Df (s:List UInt8) (w:World) (hs:s.length≤1048576):
 aK Tryz.prog 95 (List.toArray [str s]) w (fun v w'=>v= .tuple #[str (letE s).1,.int .i64 (letE s).2]∧Wk w w'):=by
 refine enter Tryz.func95 rfl Tryz.ntmps95 rfl ?_
 refine aa (fun _ ao=>(p ak (ae (((ao _ _ (aa (fun _ aw=> ?_))))))))
 refine e (al GQ fun M w4 aV E ac=> ?_)
 have hB4x:a9 w4.heap M (marksOf []):=by rw [DD]; exact ac
 refine ag ((aw _ _ (sq (fun _ ax=>aa (fun _ ay=>(ab (str s) (p (e5 rfl rfl) (nl ?_))))))))
 refine tn (ay _ _ (cd rfl (fun hc8=> ?_) (fun hc8=> ?_)))
 refine aa (fun _ J=>(p ak (ae (((J _ _ (rt (tr ?_))))))))
 exact f2 rfl rfl rfl (⟨by show Value.tuple #[str [],.int .i64 21]=_; unfold letE; rw [if_pos (.inl hc8)]; rfl,E.md⟩)
 refine az (tn (ax _ _ (aa (fun _ J=>(e (fP wy fun C w5 hb5 an aG=>ag ((J _ _ (sq (fun _ aA=> ?_))))))))))
 refine aa (fun _ aB=>(ab (str s) (p (bR u9 rfl rfl) (p mv (ag ((aB _ _ (au ?_))))))))
 have hb4l:=ac.lt
 refine lp (fun Z a wI=> ∃ (i:Nat) (c:Value),(i≤s.length)∧(∀ j,j < i→eF (s.getD j 0)=true)∧(a9 wI.heap M (marksOf (lets (s.take i))))∧(Bd 143 5 wI C c (lets (s.take i)))∧(Wk w wI)∧(a 0=str s)∧(a 4=aU M)∧(a 5=aU C)∧(a 10= .int .i64 s.length)∧(a 11= .int .i64 i)∧(s.length - i=Z)) _ ⟨0,.slice none 0 0,(by omega),((fun j Y=>by omega)),(an.md.B hB4x),(Bd.new aG),(Md.trans E.md an.md),rfl,rfl,rfl,rfl,rfl,rfl⟩ ?_
 rintro Z a wI ⟨i,c,hi,hp,am,O,U,aP,aS,aT,aQ,aR,rfl⟩
 refine fx 0 aP (fx 4 aS (fx 5 aT (fx 10 aQ (fx 11 aR ?_))))
 have hll:=uj (s.take i)
 rw [List.length_take] at hll
 have hbl4:=am.lt
 refine aa (fun _ aC=>(p (lt rfl rfl) (ag ((aC _ _ (sq (fun _ aD=>cd rfl (fun aO=> ?_) (fun aO=> ?_))))))))
 refine az (tn (aD _ _ (sq (fun _ A=>au (aa (fun _ ap=>(ab (.int .i64 i) (p (bA (.int .i64 i) rfl) ?_))))))))
 refine ag ((ap _ _ (sq (fun _ aq=>aa (fun _ ar=>(ab (str s) (ab (.int .i64 i) (p (fp u9 rfl rfl (by omega)) ?_))))))))
 refine e (cl rE (s8 (s.getD i 0) _) rfl fun aX w17 aL=> ?_)
 obtain ⟨rfl,hE17⟩:=aL
 refine p (no rfl) (ag ((ar _ _ (cb rfl (fun hc18=> ?_) (fun hc18=> ?_)))))
 have G:eF (s.getD i 0)=false :=by simpa using hc18
 refine aa (fun _ I=>(p ak (ae (((I _ _ (rt (tr ?_))))))))
 exact br (tr (tr (br (tr (f2 rfl rfl rfl (⟨by show Value.tuple #[str [],.int .i64 21]=_; unfold letE; rw [if_pos (.inr (na (by omega) G))]; rfl,Md.trans U hE17⟩))))))
 have G:eF (s.getD i 0)=true :=by simpa using hc18
 have ah:Wk w w17:=Md.trans U hE17
 have hB17:=hE17.B am
 have hBd17:=O.md hE17 (fun _ _ h=>h)
 have hsz17:=hE17.size
 refine az (tn (aq _ _ (aa (fun _ I=>(ab (str s) (ab (.int .i64 i) (p (fp u9 rfl rfl (by omega)) (p (h8 rl rfl rfl (by have :=UInt8.toNat_lt (s.getD i 0); omega)) ?_))))))))
 refine p (ld q4 rfl (DF hB17 _)) (p (no rfl) (ag ((I _ _ (cb rfl (fun V=> ?_) (fun V=> ?_))))))
 have q:¬s.getD i 0∈lets (s.take i):=of_decide_eq_false (by simpa using V)
 refine aa (fun _ av=>(ab (str s) (ab (.int .i64 i) (p (fp u9 rfl rfl (by omega)) (p (h8 rl rfl rfl (by have :=UInt8.toNat_lt (s.getD i 0); omega)) (e (st sr rfl rfl (rfl) (hB17) (by rw [uv]; have :=UInt8.toNat_lt (s.getD i 0); omega) fun wt11_4 ai aF=> ?_)))))))
 have hMk11:=DG aF
 have aI:Wk w wt11_4:=Md.trans' ah ai (fun k hk h=>by omega)
 have hBd11:=hBd17.md ai (fun k hk h=>by have :=hBd17.eu hk; omega)
 refine ag ((av _ _ (rg rfl (ab (str s) (ab (.int .i64 i) (p (fp u9 rfl rfl (by omega)) (e (cl rV (wv C c (lets (s.take i)) (s.getD i 0) _ hBd11 (by omega)) rfl fun aY a0 aM=> ?_))))))))
 obtain ⟨rfl,aE,aH,aj,aW⟩:=aM
 refine nl (bn (tn (A _ _ (rg rfl (p (ad rfl rfl (bw (by omega))) (p mv (nl (tn ?_))))))))
 exact ⟨_,by omega,i+1,aE,(by omega),((fun j Y=>by rcases Nat.lt_or_ge j i with h | h <;> first | exact hp j h | (rw [show j=i by omega]; exact G))),((by rw [nO (by omega),if_neg q]; exact aj.B hMk11 (fun h=>by have :=hBd11.eu h; omega))),((by rw [nO (by omega),if_neg q]; exact aH)),(hBd11.step aI aj (by have :=E.md.size; omega)),rfl,rfl,rfl,rfl,rfl,rfl⟩
 have q:s.getD i 0∈lets (s.take i):=by simpa using V
 refine az (bn (tn (A _ _ (rg rfl (p (ad rfl rfl (bw (by omega))) (p mv (nl (tn ?_))))))))
 exact ⟨_,by omega,i+1,c,(by omega),((fun j Y=>by rcases Nat.lt_or_ge j i with h | h <;> first | exact hp j h | (rw [show j=i by omega]; exact G))),((by rw [nO (by omega),if_pos q]; exact hB17)),((by rw [nO (by omega),if_pos q]; exact hBd17)),ah,rfl,rfl,rfl,rfl,rfl,rfl⟩
 refine ext (te _ (te _ (be (tn (aA _ _ (aa (fun _ A=>(e (cl oS (qE C c (lets (s.take i)) _ O (by have :=uj (s.take i); rw [List.length_take] at this; omega)) rfl fun aZ a1 aN=> ?_)))))))))
 obtain ⟨rfl,aJ⟩:=aN
 exact p ak (ae (((A _ _ (rt (f2 rfl rfl rfl (⟨by show Value.tuple #[str (lets (s.take i)),.int .i64 0]=_; unfold letE; rw [if_neg (by rw [nb (fun j Y=>hp j (by omega))]; exact fun h=>h.elim hc8 Bool.noConfusion),show s.take i=s from List.take_of_length_le (by omega)]; rfl,O.qD U aJ (by have :=E.md.size; omega)⟩)))))))
end Go.Hb.jj
end
section
set_option maxRecDepth 20000
set_option maxHeartbeats 1000000
namespace Go.Hb.gP
open Go.Hb.cG
open Go.Proofs
theorem tN {s:List UInt8} (h:¬s= []) (h1:¬(1 < s.length∧(s.getD 0 0).toNat=48)):¬kA s:=fun hz=>hz.elim h h1
theorem ED {s:List UInt8} (h:¬kA s):0 < s.length:=List.length_pos_iff.2 (fun e=>h (.inl e))
theorem nV (s:List UInt8) (most:Int) (w:World) (hs:s.length≤1048576) (hm: -9223372036854775808≤most∧most≤9223372036854775807):
 aK Tryz.prog 68 (List.toArray [str s,.int .i64 most]) w (fun v w'=>v= .tuple #[.int .i64 (dp s most).1,.int .i64 (dp s most).2]∧Wk w w'):=by
 refine enter Tryz.func68 rfl Tryz.ntmps68 rfl ?_
 refine aa (fun _ V=>(p ak (ae (((V _ _ ?_))))))
 refine c6 (fun I G=>(¬kA s)∧(G=w)∧(I 0=str s)∧(I 1= .int .i64 most)) ?_ ?_
 refine aa (fun _ q=>(ab (str s) (p (e5 rfl rfl) (p mv (gs (t:=11) rfl (fun hg11=> ?_) (fun hg11=> ?_))))))
 refine sk rfl rfl rfl rfl (sk rfl rfl rfl rfl (sk rfl rfl rfl rfl (sk rfl rfl rfl rfl (ig rfl rfl rfl (ig rfl rfl rfl (ig rfl rfl rfl (sk rfl rfl rfl rfl ?_)))))))
 refine p (bl rfl) (ag ((q _ _ (ct rfl (aa (fun _ A=>(p ak (p ak ?_))))))))
 exact ag ((A _ _ (rt (tr (f2 rfl rfl rfl (⟨by show Value.tuple #[.int .i64 0,.int .i64 13]=_; rw [uG (.inl hg11)]; rfl,Md.refl _ _⟩))))))
 refine pg rfl rfl rfl (ao (str s) rfl) (pg rfl rfl rfl (bR u9 rfl rfl) (pg rfl rfl rfl (gt rfl rfl) (pg rfl rfl rfl mv (gs (t:=15) rfl (fun av=> ?_) (fun av=> ?_)))))
 refine pg rfl rfl rfl (ao (str s) rfl) (pg rfl rfl rfl (gl 0 u9 rfl rfl (by omega)) (pg rfl rfl rfl (ba rfl rfl) (pg rfl rfl rfl (bl rfl) (p (a7 rfl) (ag ((q _ _ (cd rfl (fun an=> ?_) (fun an=> ?_)))))))))
 refine aa (fun _ A=>(p ak (ae (((A _ _ (rt (tr ?_))))))))
 exact f2 rfl rfl rfl (⟨by show Value.tuple #[.int .i64 0,.int .i64 13]=_; rw [uG (.inr ⟨by omega,by omega⟩)]; rfl,Md.refl _ _⟩)
 have hh:=tN (s:=s) hg11 (by omega)
 exact az (tn (⟨hh,rfl,rfl,rfl⟩))
 refine sk rfl rfl rfl rfl (sk rfl rfl rfl rfl (sk rfl rfl rfl rfl (pg rfl rfl rfl (a7 rfl) (p (a7 rfl) (ag ((q _ _ (cf rfl ?_))))))))
 exact az (tn (⟨(tN (s:=s) hg11 (by omega)),rfl,rfl,rfl⟩))
 rintro I G ⟨hh,al,aA,aB⟩
 refine fx 0 aA (fx 1 aB ?_)
 subst al
 have hp:=ED hh
 refine aa (fun _ q=>(ae (((q _ _ (sq (fun _ A=>aa (fun _ Z=> ?_))))))))
 refine ab (str s) (p (bR u9 rfl rfl) (p mv (ag ((Z _ _ (au (lp (fun J c wI=> ∃ (i:Nat),(i≤s.length)∧(wI=G)∧((dt (s.take i):Int)≤max 0 most∧(0 < i→(dt (s.take i):Int)≤most))∧(∀ j,j < i→l1 (s.getD j 0)=true)∧(c 0=str s)∧(c 1= .int .i64 most)∧(c 6=U (dt (s.take i)))∧(c 22= .int .i64 s.length)∧(c 23= .int .i64 i)∧(s.length - i=J)) _ ⟨0,(by omega),rfl,((by rw [List.take_zero]; show (0:Int)≤_∧_; omega)),((fun j O=>by omega)),rfl,rfl,(iv (by first | rfl | (rw [lZ (by omega)]))),rfl,rfl,rfl⟩ ?_)))))))
 rintro J c wI ⟨i,hi,am,hn,M,aC,aD,aG,aE,aF,rfl⟩
 refine fx 0 aC (fx 1 aD (fx 6 aG (fx 22 aE (fx 23 aF ?_))))
 subst am
 have hb8:=UInt8.toNat_lt (s.getD i 0)
 refine aa (fun _ ac=>(p (lt rfl rfl) (ag ((ac _ _ (sq (fun _ ah=>cd rfl (fun ap=> ?_) (fun ap=> ?_))))))))
 refine az (tn (ah _ _ (sq (fun _ E=>au (aa (fun _ ai=>(ab (.int .i64 i) (p (bA (.int .i64 i) rfl) ?_))))))))
 refine ag ((ai _ _ (aa (fun _ aj=>(ab (str s) (ab (.int .i64 i) (p (fp u9 rfl rfl (by omega)) (p (o6 u3 mL rfl (bw (by omega))) ?_))))))))
 refine p (sb rfl rfl (bw (by omega))) (ae (((aj _ _ (sq (fun _ Y=>aa (fun _ C=>(p mv ?_))))))))
 refine p (lt rfl rfl) (p mv (gs (t:=33) rfl (fun aw=> ?_) (fun aw=> ?_)))
 refine sk rfl rfl rfl rfl (sk rfl rfl rfl rfl (p (bl rfl) (p mv (sk rfl rfl rfl rfl (sk rfl rfl rfl rfl (sk rfl rfl rfl rfl (p (bl rfl) ?_)))))))
 refine p mv (sk rfl rfl rfl rfl (sk rfl rfl rfl rfl (sk rfl rfl rfl rfl (sk rfl rfl rfl rfl (sk rfl rfl rfl rfl (sk rfl rfl rfl rfl (p (bl rfl) ?_)))))))
 refine ag ((C _ _ (ct rfl (aa (fun _ a=>(p ak (p ak (nl ?_))))))))
 refine tn (a _ _ (rt (tr (br (tr (tr (br (tr ?_))))))))
 exact f2 rfl rfl rfl (⟨by show Value.tuple #[.int .i64 0,.int .i64 13]=_; rw [uF (i:=i) (by omega) (sH (by omega))]; rfl,Md.refl _ _⟩)
 refine pg rfl rfl rfl mv (pg rfl rfl rfl (gt rfl rfl) (p (a7 rfl) (p mv (gs (t:=37) rfl (fun ax=> ?_) (fun ax=> ?_)))))
 refine sk rfl rfl rfl rfl (sk rfl rfl rfl rfl (sk rfl rfl rfl rfl (p (bl rfl) (p mv (sk rfl rfl rfl rfl (sk rfl rfl rfl rfl (sk rfl rfl rfl rfl ?_)))))))
 refine sk rfl rfl rfl rfl (sk rfl rfl rfl rfl (sk rfl rfl rfl rfl (p (bl rfl) (ag ((C _ _ (ct rfl (sq (fun _ a=> ?_)))))))))
 refine rg rfl (p ak (ae (((a _ _ (rt (tr (br ?_))))))))
 exact tr (tr (br (tr (f2 rfl rfl rfl (⟨by show Value.tuple #[.int .i64 0,.int .i64 13]=_; rw [uF (i:=i) (by omega) (sH (by omega))]; rfl,Md.refl _ _⟩)))))
 refine pg rfl rfl rfl (ao (.int .i64 most) rfl) (pg rfl rfl rfl mv (pg rfl rfl rfl (lt rfl rfl) (p (a7 rfl) (p mv (gs (t:=42) rfl (fun ay=> ?_) (fun ay=> ?_))))))
 refine sk rfl rfl rfl rfl (sk rfl rfl rfl rfl (sk rfl rfl rfl rfl (sk rfl rfl rfl rfl (sk rfl rfl rfl rfl (sk rfl rfl rfl rfl (p (bl rfl) (nl ?_)))))))
 refine tn (C _ _ (ct rfl (aa (fun _ a=>(p ak (ae (((a _ _ ?_)))))))))
 refine rt (tr (br (tr (tr (br (tr (f2 rfl rfl rfl ?_)))))))
 exact ⟨by show Value.tuple #[.int .i64 0,.int .i64 13]=_; rw [uD (i+1) (by rw [lZ (by omega)]; omega)]; rfl,Md.refl _ _⟩
 have hml:((s.getD i 0).toNat:Int) - 48≤most:=by omega
 refine pg rfl rfl rfl (ao (U (dt (s.take i))) rfl) (pg rfl rfl rfl (ao (.int .i64 most) rfl) (pg rfl rfl rfl mv (pg rfl rfl rfl (sb rfl rfl (bw (by omega))) (pg rfl rfl rfl (j5 (((most - (((s.getD i 0).toNat:Int) - 48)).toNat / 10:Nat):Int) rfl rfl (by omega) (aH (by omega) (by omega))) (pg rfl rfl rfl (gt rfl rfl) (p (a7 rfl) (nl ?_)))))))
 refine tn (C _ _ (cd rfl (fun aq=> ?_) (fun aq=> ?_)))
 refine aa (fun _ a=>(p ak (ae (((a _ _ (rt (tr ?_))))))))
 exact br (tr (tr (br (tr (f2 rfl rfl rfl (⟨by show Value.tuple #[.int .i64 0,.int .i64 13]=_; rw [uD (i+1) (by rw [lZ (by omega)]; omega)]; rfl,Md.refl _ _⟩))))))
 have ar:l1 (s.getD i 0)=true :=decide_eq_true (by omega)
 refine az (tn (Y _ _ (rg rfl (ab (U (dt (s.take i))) (p (kE ((dt (s.take i)*10:Nat):Int) rfl rfl (aH (by omega) (by omega))) (p mv (p (a8 ((dt (s.take i)*10 +((s.getD i 0).toNat - 48):Nat):Int) rfl rfl (aH (by omega) (by omega))) (p ak ?_))))))))
 refine nl (bn (tn (E _ _ (rg rfl (p (ad rfl rfl (bw (by omega))) (p mv (nl (tn ?_))))))))
 exact ⟨_,by omega,i+1,(by omega),rfl,((by rw [lZ (by omega)]; omega)),((fun j O=>by rcases Nat.lt_or_ge j i with h | h <;> first | exact M j h | (rw [show j=i by omega]; exact ar))),rfl,rfl,(iv (by first | rfl | (rw [lZ (by omega)]))),rfl,rfl,rfl⟩
 refine ext (te _ (te _ (be (tn (A _ _ (aa (fun _ E=>(ab (U (dt (s.take i))) ?_))))))))
 exact p (bA (U (dt (s.take i))) rfl) (ae (((E _ _ (rt (f2 rfl rfl rfl (⟨by show Value.tuple #[U (dt (s.take i)),.int .i64 0]=_; rw [show s.take i=s from List.take_of_length_le (by omega),uH hh (fun j O=>M j (by omega)) (by rw [show s.take i=s from List.take_of_length_le (by omega)] at hn; omega)],Md.refl _ _⟩)))))))
end Go.Hb.gP
end
section
set_option maxRecDepth 20000
set_option maxHeartbeats 1000000
namespace Go.Hb.fN
open Go.Hb.cG
open Go.Proofs
theorem qp {s pr:List UInt8} (h:s.take pr.length=pr):pr.length≤s.length:=by
 have :=congrArg List.length h
 rw [List.length_take] at this; omega
theorem FU {s:List UInt8} (h:decide (1≤s.length∧s.drop (s.length - 1)= [13])=true):dU s=s.take (s.length - 1):=by
 have h1:=of_decide_eq_true h
 rw [ue (by omega)] at h1
 exact pk (by omega) (by simpa using h1.2)
theorem FV {s:List UInt8} (h:decide (1≤s.length∧s.drop (s.length - 1)= [13])=false):dU s=s:=by
 have h1:=of_decide_eq_false h
 refine pj fun h2=>h1 ⟨by omega,?_⟩
 rw [ue (by omega),h2.2]
theorem CP (c:UInt8):cD c [c]=0:=by unfold cD; simp
theorem tH (s pr:List UInt8) (w:World) (hs:s.length≤1099511627776) (hp:pr.length≤1099511627776):
 aK Tryz.prog 129 (List.toArray [str s,str pr]) w (fun v w'=>v= .bool (decide (s.take pr.length=pr))∧Wk w w'):=by
 refine enter Tryz.func129 rfl Tryz.ntmps129 rfl ?_
 refine aa (fun _ c=>(ae (((c _ _ (aa (fun _ a=>(ab (str s) ?_))))))))
 refine p (bR u9 rfl rfl) (ab (str pr) (p (bR u9 rfl rfl) (p (ge rfl rfl) (p mv (gs (t:=10) rfl (fun hg10=> ?_) (fun hg10=> ?_))))))
 refine pg rfl rfl rfl (ao (str s) rfl) (pg rfl rfl rfl (ao (str pr) rfl) (pg rfl rfl rfl (bR u9 rfl rfl) (pg rfl rfl rfl (n6 u9 rfl rfl (by omega)) (pg rfl rfl rfl (ao (str pr) rfl) (pg rfl rfl rfl (e5 rfl rfl) (p (bl rfl) (p ak ?_)))))))
 exact ag ((a _ _ (rt (f1 rfl rfl (⟨rfl,Md.refl _ _⟩)))))
 refine sk rfl rfl rfl rfl (sk rfl rfl rfl rfl (sk rfl rfl rfl rfl (sk rfl rfl rfl rfl (sk rfl rfl rfl rfl (sk rfl rfl rfl rfl (p (a7 rfl) (p ak ?_)))))))
 exact ag ((a _ _ (rt (f1 rfl rfl (⟨by show Value.bool false =_; rw [decide_eq_false (fun h=>by have :=qp h; omega)],Md.refl _ _⟩)))))
theorem F5 (s pr:List UInt8) (w:World) (hs:s.length≤1099511627776) (hp:pr.length≤1099511627776):
 aK Tryz.prog 111 (List.toArray [str s,str pr]) w (fun v w'=>v=str (dH s pr)∧Wk w w'):=by
 refine enter Tryz.func111 rfl Tryz.ntmps111 rfl ?_
 refine aa (fun _ i=>(ae (((i _ _ (sq (fun _ j=>aa (fun _ q=> ?_))))))))
 refine ab (str s) (ab (str pr) (e (cl rJ (tH s pr _ hs hp) rfl fun A w7 hR7=> ?_)))
 obtain ⟨rfl,hE7⟩:=hR7
 refine ag ((q _ _ (cb rfl (fun c=> ?_) (fun c=> ?_))))
 have hpp:=of_decide_eq_true c
 have hpl:=qp hpp
 refine aa (fun _ a=>(ab (str s) (ab (str pr) (p (bR u9 rfl rfl) (p (jD u9 rfl rfl (by omega)) (p ak (nl ?_)))))))
 exact tn (a _ _ (rt (tr (f1 rfl rfl (⟨by show str (s.drop (pr.length:Int).toNat)=_; unfold dH; rw [if_pos hpp]; rfl,hE7⟩)))))
 have hpp:=of_decide_eq_false c
 refine az (tn (j _ _ (aa (fun _ a=>(ab (str s) (p (bA (str s) rfl) (ag ((a _ _ ?_)))))))))
 exact rt (f1 rfl rfl (⟨by show str s=_; unfold dH; rw [if_neg hpp],hE7⟩))
theorem F6 (s pr:List UInt8) (w:World) (hs:s.length≤1099511627776) (hp:pr.length≤1099511627776):
 aK Tryz.prog 89 (List.toArray [str s,str pr]) w (fun v w'=>v=str (dH s pr)∧Wk w w'):=by
 refine enter Tryz.func89 rfl Tryz.ntmps89 rfl ?_
 refine aa (fun _ a=>(ae (((a _ _ (aa (fun _ c=>(ab (str s) ?_))))))))
 refine ab (str pr) (e (cl xW (F5 s pr _ hs hp) rfl fun i w7 hR7=> ?_))
 obtain ⟨rfl,hE7⟩:=hR7
 exact ae (((c _ _ (rt (f1 rfl rfl (⟨rfl,hE7⟩))))))
theorem B7 (s pr:List UInt8) (w:World) (hs:s.length≤1099511627776) (hp:pr.length≤1099511627776):
 aK Tryz.prog 131 (List.toArray [str s,str pr]) w (fun v w'=>v= .bool (decide (pr.length≤s.length∧s.drop (s.length - pr.length)=pr))∧Wk w w'):=by
 refine enter Tryz.func131 rfl Tryz.ntmps131 rfl ?_
 refine aa (fun _ c=>(ae (((c _ _ (aa (fun _ a=>(ab (str s) ?_))))))))
 refine p (bR u9 rfl rfl) (ab (str pr) (p (bR u9 rfl rfl) (p (ge rfl rfl) (p mv (gs (t:=10) rfl (fun hg10=> ?_) (fun hg10=> ?_))))))
 refine pg rfl rfl rfl (ao (str s) rfl) (pg rfl rfl rfl (ao (str s) rfl) (pg rfl rfl rfl (bR u9 rfl rfl) (pg rfl rfl rfl (ao (str pr) rfl) (pg rfl rfl rfl (bR u9 rfl rfl) (pg rfl rfl rfl (sb rfl rfl (bw (by omega))) (pg rfl rfl rfl (jD u9 rfl rfl (by omega)) (pg rfl rfl rfl (ao (str pr) rfl) ?_)))))))
 exact pg rfl rfl rfl (e5 rfl rfl) (p (bl rfl) (ae (((a _ _ (rt (f1 rfl rfl (⟨by show Value.bool (decide (s.drop ((s.length:Int) - (pr.length:Int)).toNat=pr))=_; rw [show ((s.length:Int) - (pr.length:Int)).toNat=s.length - pr.length from by omega]; exact bv (by constructor <;> intro h <;> first | exact ⟨by omega,h⟩ | exact h.2),Md.refl _ _⟩))))))))
 refine sk rfl rfl rfl rfl (sk rfl rfl rfl rfl (sk rfl rfl rfl rfl (sk rfl rfl rfl rfl (sk rfl rfl rfl rfl (sk rfl rfl rfl rfl (sk rfl rfl rfl rfl (sk rfl rfl rfl rfl ?_)))))))
 exact sk rfl rfl rfl rfl (p (a7 rfl) (ae (((a _ _ (rt (f1 rfl rfl (⟨by show Value.bool false =_; rw [decide_eq_false (by omega)],Md.refl _ _⟩))))))))
theorem F7 (s:List UInt8) (w:World) (hs:s.length≤1099511627776):
 aK Tryz.prog 113 (List.toArray [str s,str [13]]) w (fun v w'=>v=str (dU s)∧Wk w w'):=by
 refine enter Tryz.func113 rfl Tryz.ntmps113 rfl ?_
 refine aa (fun _ i=>(ae (((i _ _ (sq (fun _ j=>aa (fun _ q=> ?_))))))))
 refine ab (str s) (ab (str [13]) (e (cl x9 (B7 s [13] _ hs (by decide)) rfl fun A w7 hR7=> ?_)))
 obtain ⟨rfl,hE7⟩:=hR7
 refine ag ((q _ _ (cb rfl (fun a=> ?_) (fun a=> ?_))))
 have hpl:=(of_decide_eq_true a).1
 have hl1:([13]:List UInt8).length=1:=rfl
 refine aa (fun _ c=>(ab (str s) (ab (str s) (p (bR u9 rfl rfl) (ab (str [13]) (p (bR u9 rfl rfl) (p (sb rfl rfl (bw (by omega))) ?_)))))))
 exact p (n6 u9 rfl rfl (by omega)) (ae (((c _ _ (rt (tr (f1 rfl rfl (⟨by show str (s.take ((s.length:Int) - (([13]:List UInt8).length:Int)).toNat)=_; rw [FU a,show ((s.length:Int) - (([13]:List UInt8).length:Int)).toNat=s.length - 1 from by simp only [List.length_singleton]; omega],hE7⟩))))))))
 refine az (tn (j _ _ (aa (fun _ c=>(ab (str s) (p (bA (str s) rfl) (ag ((c _ _ ?_)))))))))
 exact rt (f1 rfl rfl (⟨by show str s=_; rw [FV a],hE7⟩))
theorem F8 (s:List UInt8) (w:World) (hs:s.length≤1099511627776):
 aK Tryz.prog 91 (List.toArray [str s,str [13]]) w (fun v w'=>v=str (dU s)∧Wk w w'):=by
 refine enter Tryz.func91 rfl Tryz.ntmps91 rfl ?_
 refine aa (fun _ a=>(ae (((a _ _ (aa (fun _ c=>(ab (str s) ?_))))))))
 refine ab (str [13]) (e (cl xY (F7 s _ hs) rfl fun i w7 hR7=> ?_))
 obtain ⟨rfl,hE7⟩:=hR7
 exact ae (((c _ _ (rt (f1 rfl rfl (⟨rfl,hE7⟩))))))
theorem tR (s:List UInt8) (c:UInt8) (w:World):
 aK Tryz.prog 144 (List.toArray [str s,.int .u8 c.toNat]) w (fun v w'=>v= .int .i64 (cD c s)∧Wk w w'):=by
 refine enter Tryz.func144 rfl Tryz.ntmps144 rfl ?_
 refine aa (fun _ a=>(ae (((a _ _ (aa (fun _ i=>(ab (str s) ?_))))))))
 exact ab (.int .u8 c.toNat) (p (si (CS s c _) rfl) (ae (((i _ _ (rt (f1 rfl rfl (⟨rfl,Md.refl _ _⟩))))))))
theorem tQ (s:List UInt8) (c:UInt8) (w:World):
 aK Tryz.prog 130 (List.toArray [str s,str [c]]) w (fun v w'=>v= .int .i64 (cD c s)∧Wk w w'):=by
 refine enter Tryz.func130 rfl Tryz.ntmps130 rfl ?_
 refine aa (fun _ j=>(ae (((j _ _ (aa (fun _ q=>(ab (str [c]) ?_))))))))
 refine p (bR u9 rfl rfl) (ae (((q _ _ (sq (fun _ I=>au (aa (fun _ A=> ?_))))))))
 refine p mv (p (ba rfl rfl) (p mv (gs (t:=19) rfl (fun h=>absurd h (by simp)) (fun M=> ?_))))
 refine pg rfl rfl rfl (ao (str [c]) rfl) (pg rfl rfl rfl (ao (str s) rfl) (pg rfl rfl rfl (e5 rfl rfl) (p (a7 rfl) (ae (((A _ _ (cd rfl (fun i=> ?_) (fun i=> ?_)))))))))
 refine aa (fun _ a=>(ae (((a _ _ (rt (br (tr ?_))))))))
 exact f1 rfl rfl (⟨by show Value.int .i64 0=_; rw [← i,CP],Md.refl _ _⟩)
 refine aa (fun _ a=>(p mv (p (ba rfl rfl) (ae (((a _ _ (cd rfl (fun J=> ?_) (fun h=>absurd rfl h)))))))))
 refine aa (fun _ C=>(ab (str s) (ab (str [c]) (p (gl 0 u9 rfl rfl (by simp)) (e (cl rN (tR s c _) rfl fun v30 w30 G=> ?_))))))
 obtain ⟨rfl,E⟩:=G
 exact ae (((C _ _ (rt (br (tr (f1 rfl rfl (⟨rfl,E⟩))))))))
theorem CB (s:List UInt8) (c:UInt8) (w:World):
 aK Tryz.prog 173 (List.toArray [str s,str [c]]) w (fun v w'=>v= .int .i64 (cD c s)∧Wk w w'):=by
 refine enter Tryz.func173 rfl Tryz.ntmps173 rfl ?_
 refine aa (fun _ a=>(ae (((a _ _ (aa (fun _ i=>(ab (str s) ?_))))))))
 refine ab (str [c]) (e (cl rK (tQ s c _) rfl fun j w7 hR7=> ?_))
 obtain ⟨rfl,hE7⟩:=hR7
 exact ae (((i _ _ (rt (f1 rfl rfl (⟨rfl,hE7⟩))))))
theorem z1 (s:List UInt8) (c:UInt8) (w:World) (hs:s.length≤1099511627776):
 aK Tryz.prog 112 (List.toArray [str s,str [c]]) w (fun v w'=>v= .tuple #[str (gz c s),str (g9 c s),.bool (!decide (cD c s < 0))]∧Wk w w'):=by
 refine enter Tryz.func112 rfl Tryz.ntmps112 rfl ?_
 refine aa (fun _ q=>(p ak (p ak (ae (((q _ _ (sq (fun _ A=> ?_)))))))))
 refine aa (fun _ C=>(ab (str s) (ab (str [c]) (e (cl rK (tQ s c _) rfl fun v10 w10 hR10=> ?_)))))
 obtain ⟨rfl,j⟩:=hR10
 refine ae (((C _ _ (aa (fun _ E=>(p mv (p (ge rfl rfl) (nl ?_))))))))
 refine tn (E _ _ (cd rfl (fun G=> ?_) (fun G=> ?_)))
 have hix:=lr (c:=c) (l:=s) (by omega)
 have hl1:[c].length=1:=rfl
 refine sq (fun _ i=> ?_)
 have a:(fun w'=>Wk w10 w') w10.drew:=(Md.refl _ _).drew
 refine bF (fun w'=>Wk w10 w') rfl wide a (bp 0 rfl (str s) a (aQ 1 rfl (fun _ _=>mv) a (aQ 2 rfl (fun _ _=>n6 u9 rfl rfl (by omega)) a (bp 3 rfl (str s) a (aQ 4 rfl (fun _ _=>mv) a (bp 5 rfl (str [c]) a (aQ 6 rfl (fun _ _=>bR u9 rfl rfl) a ?_)))))))
 refine aQ 7 rfl (fun _ _=>a8 ((s.idxOf c+1:Nat):Int) rfl rfl (aH (by omega) (by omega))) a (aQ 8 rfl (fun _ _=>jD u9 rfl rfl (by omega)) a (aQ 9 rfl (fun _ _=>ak) a (aQ 10 rfl (fun _ _=>ak) a (aQ 11 rfl (fun _ _=>ak) a (hn (by kernel_rfl) (tn (i _ _ (rt ?_))))))))
 exact tr (f3 rfl rfl rfl rfl (⟨by show Value.tuple #[str (s.take (cD c s).toNat),str (s.drop (s.idxOf c+1)),.bool true]=_; unfold gz g9; rw [if_neg (by omega),if_neg (by omega),hix.1,decide_eq_false (by omega)]; rfl,Md.trans j (Md.refl _ _).drew⟩))
 refine az (tn (A _ _ (aa (fun _ i=>(ab (str s) (p (bA (str s) rfl) (p ak (p ak ?_))))))))
 exact ag ((i _ _ (rt (f3 rfl rfl rfl rfl (⟨by show Value.tuple #[str s,str [],.bool false]=_; unfold gz g9; rw [if_pos (by omega),if_pos (by omega),decide_eq_true (by omega)]; rfl,j⟩)))))
theorem z6 (s:List UInt8) (c:UInt8) (w:World) (hs:s.length≤1099511627776):
 aK Tryz.prog 90 (List.toArray [str s,str [c]]) w (fun v w'=>v= .tuple #[str (gz c s),str (g9 c s),.bool (!decide (cD c s < 0))]∧Wk w w'):=by
 refine enter Tryz.func90 rfl Tryz.ntmps90 rfl ?_
 refine aa (fun _ a=>(p ak (p ak (ae (((a _ _ (sq (fun _ i=> ?_)))))))))
 refine rg rfl (ab (str s) (ab (str [c]) (e (cl xX (z1 s c _ hs) rfl fun v9 w9 hR9=> ?_))))
 obtain ⟨rfl,j⟩:=hR9
 refine p (xt rfl rfl) (p (xt rfl rfl) (p (xt rfl rfl) (p ak (p ak (ae (((i _ _ ?_))))))))
 exact rt (f3 rfl rfl rfl rfl (⟨rfl,j⟩))
end Go.Hb.fN
end
section
set_option maxRecDepth 20000
set_option maxHeartbeats 1000000
namespace Go.Hb.kg
open Go.Hb.cG
open Go.Proofs
theorem CM (x:Nat) (w:World):
 aK Tryz.prog 180 (List.toArray [ay x]) w (fun v w'=>v= .bool false∧Wk w w'):=by
 refine enter Tryz.func180 rfl Tryz.ntmps180 rfl ?_
 refine aa (fun _ a=>(ae (((a _ _ (aa (fun _ c=>(ab (ay x) ?_))))))))
 exact ab (ay x) (p (dF rfl rfl) (ae (((c _ _ (rt (f1 rfl rfl (⟨congrArg Value.bool (decide_eq_false (fun h=>h rfl)),Md.refl _ _⟩))))))))
theorem gp (x y:Nat) (w:World):
 aK Tryz.prog 162 (List.toArray [ay x,ay y]) w (fun v w'=>v= .bool (a3 x y)∧Wk w w'):=by
 refine enter Tryz.func162 rfl Tryz.ntmps162 rfl ?_
 refine aa (fun _ a=>(ae (((a _ _ (aa (fun _ c=>(ab (ay x) ?_))))))))
 refine e (cl yA (CM x _) rfl fun v6 w6 hR6=> ?_)
 obtain ⟨rfl,i⟩:=hR6
 refine p mv (sk rfl rfl rfl rfl (sk rfl rfl rfl rfl (sk rfl rfl rfl rfl (p (a7 rfl) (p mv (pg rfl rfl rfl (ao (ay x) rfl) (pg rfl rfl rfl (ao (ay y) rfl) ?_)))))))
 exact pg rfl rfl rfl (lt rfl rfl) (p (a7 rfl) (ae (((c _ _ (rt (f1 rfl rfl (⟨by show Value.bool (decide ((x:Int) < (y:Int)))=_; unfold a3; exact congrArg Value.bool (decide_eq_decide.2 (by omega)),i⟩))))))))
theorem CJ (d:Array Nat) (a b:Nat) (B n cp:Nat) (s:Option Addr) (w:World) (an:w.ownsRow B 71 1 (.slice s n cp) n (LE ay d)) (a2:a≤b∧b≤n) (a9:n≤1099511627776):
 aK Tryz.prog 156 (List.toArray [.slice s n cp,U a,U b]) w (fun v w'=>v= .tuple #[]∧w'.ownsRow B 71 1 (.slice s n cp) n (LE ay (Go.Sort.insertionSort a3 d a b))∧Md (fun q=>(Value.slice s n cp).ownBlock=some q) w w'):=by
 have hdn:=cU an
 refine enter Tryz.func156 rfl Tryz.ntmps156 rfl ?_
 refine aa (fun _ aq=>(ab (U a) (p (a8 ((a+1:Nat):Int) rfl rfl (aH (by omega) (by omega))) (ae (((aq _ _ (au ?_))))))))
 refine lp (fun V Y ah=> ∃ (i:Nat) (O:Array Nat),(a+1≤i∧i≤n+1)∧(Go.Sort.insOuter a3 a b i O=Go.Sort.insertionSort a3 d a b)∧(ah.ownsRow B 71 1 (.slice s n cp) n (LE ay O))∧(Md (fun q=>(Value.slice s n cp).ownBlock=some q) w ah)∧(Y 0= .slice s n cp)∧(Y 1=U a)∧(Y 2=U b)∧(Y 6=U i)∧(b - i=V)) _ ⟨a+1,d,(by omega),rfl,an,(Md.refl _ _),rfl,rfl,rfl,rfl,rfl⟩ ?_
 rintro V Y ah ⟨i,O,hi,ad,ap,am,aP,aR,aS,aU,rfl⟩
 refine fx 0 aP (fx 1 aR (fx 2 aS (fx 6 aU (sq (fun _ ar=>aa (fun _ av=>(ab (U i) (ab (U b) (p (lt rfl rfl) (nl ?_))))))))))
 refine tn (av _ _ (cd rfl (fun aM=> ?_) (fun aM=> ?_)))
 refine az (tn (ar _ _ (sq (fun _ ai=>au (aa (fun _ aw=>(ab (U i) (p (bA (U i) rfl) ?_))))))))
 refine ag ((aw _ _ (au (lp (fun V M I=> ∃ (j:Nat) (C:Array Nat),(a≤j∧j≤i)∧(Go.Sort.insInner a3 a j C=Go.Sort.insInner a3 a i O)∧(I.ownsRow B 71 1 (.slice s n cp) n (LE ay C))∧(Md (fun q=>(Value.slice s n cp).ownBlock=some q) w I)∧(M 0= .slice s n cp)∧(M 1=U a)∧(M 2=U b)∧(M 6=U i)∧(M 7=U j)∧(j=V)) _ ⟨i,O,(by omega),rfl,ap,am,rfl,rfl,rfl,rfl,rfl,rfl⟩ ?_))))
 rintro V M I ⟨j,C,a5,hq2,G,Z,aV,aW,aZ,a0,a1,rfl⟩
 refine fx 0 aV (fx 1 aW (fx 2 aZ (fx 6 a0 (fx 7 a1 (sq (fun _ ax=>sq (fun _ al=> ?_)))))))
 have hden:=cU G
 have c:(fun w'=>Wk I w') I.drew:=(Md.refl _ _).drew
 refine bF (fun w'=>Wk I w') rfl wide c (bp 0 rfl (U j) c (bp 1 rfl (U a) c (aQ 2 rfl (fun _ _=>gt rfl rfl) c (aQ 3 rfl (fun _ _=>mv) c (hZ (t:=19) rfl (fun aL=> ?_) (fun aL=> ?_))))))
 refine aX 4 rfl (by kernel_rfl) rfl rfl rfl (fun _ _=>ao (.slice s n cp) rfl) c (aX 5 rfl (by kernel_rfl) rfl rfl rfl (fun _ _=>ao (U j) rfl) c (aX 6 rfl (by kernel_rfl) rfl rfl rfl (fun _ _=>aG aY rfl rfl (by omega) (aj.ok ((aA G).2) (a6 (by omega)))) c (aX 7 rfl (by kernel_rfl) rfl rfl rfl (fun w' E=>ld bc rfl (bo (i:=j) ((aA G).2.wk E) (by omega))) c (aX 8 rfl (by kernel_rfl) rfl rfl rfl (fun _ _=>ao (.slice s n cp) rfl) c (aX 9 rfl (by kernel_rfl) rfl rfl rfl (fun _ _=>ao (U j) rfl) c (aX 10 rfl (by kernel_rfl) rfl rfl rfl (fun _ _=>bI ((j - 1:Nat):Int) rfl rfl (aH (by omega) (by omega))) c (aX 11 rfl (by kernel_rfl) rfl rfl rfl (fun _ _=>aG aY rfl rfl (by omega) (aj.ok ((aA G).2) (a6 (by omega)))) c ?_)))))))
 refine aX 12 rfl (by kernel_rfl) rfl rfl rfl (fun w' E=>ld bc rfl (bo (i:=j - 1) ((aA G).2.wk E) (by omega))) c (iR 13 rfl (by kernel_rfl) rfl rfl rfl (cl gi (gp C[j]! C[j - 1]! _) rfl fun ba w29 aJ=> ?_))
 obtain ⟨rfl,hE29⟩:=aJ
 have J:(fun w'=>Wk I w') w29:=Md.trans c hE29
 refine ⟨J,?_⟩
 refine aQ 14 rfl (fun _ _=>bl rfl) J (hn (by kernel_rfl) (tn (al _ _ (cb rfl (fun ac=> ?_) (fun ac=> ?_)))))
 refine az (tn (ax _ _ (sq (fun _ aB=>au ?_))))
 have hO6:=aE G J
 have A:(fun w'=>Wk w29 w') w29.drew:=(Md.refl _ _).drew
 refine c5 (fun w'=>Wk w29 w') 15 rfl wide A (aI 0 rfl (.slice s n cp) A (aI 1 rfl (U j) A (aI 2 rfl (.slice s n cp) A (aI 3 rfl (U j) A (a4 4 rfl (fun _=>bI ((j - 1:Nat):Int) rfl rfl (aH (by omega) (by omega))) (fun _=>A) (aI 5 rfl (.slice s n cp) A (aI 6 rfl (U j) A ?_)))))))
 refine a4 7 rfl (fun _=>bI ((j - 1:Nat):Int) rfl rfl (aH (by omega) (by omega))) (fun _=>A) (a4 8 rfl (fun _=>aG aY rfl rfl (by omega) (aj.ok ((aA hO6).2) (a6 (by omega)))) (fun _=>A) (cK 9 rfl (fun w' E=>ld bc rfl (bo (i:=j - 1) ((aA hO6).2.wk E) (by omega))) A (aI 10 rfl (.slice s n cp) A (aI 11 rfl (U j) A (a4 12 rfl (fun _=>aG aY rfl rfl (by omega) (aj.ok ((aA hO6).2) (a6 (by omega)))) (fun _=>A) (cK 13 rfl (fun w' E=>ld bc rfl (bo (i:=j) ((aA hO6).2.wk E) (by omega))) A (a4 14 rfl (fun _=>aG aY rfl rfl (by omega) (aj.ok ((aA hO6).2) (a6 (by omega)))) (fun _=>A) ?_)))))))
 refine bJ 15 rfl (by kernel_rfl) (by kernel_rfl) (dj (u:=C[j - 1]!) (j) (aE hO6 A) c8 rfl rfl rfl (by omega) fun bb aD aN=> ?_)
 refine a4 16 rfl (fun _=>aG aY rfl rfl (by omega) (aj.ok ((aA hO6).2) (a6 (by omega)))) (fun h=>Bool.noConfusion ((show true =_ from by kernel_rfl).trans h)) (bJ 17 rfl (by kernel_rfl) (by kernel_rfl) (dj (u:=C[j]!) (j - 1) aN c8 rfl rfl rfl (by omega) fun wS2 aF aO=> ?_))
 have E:wS2.ownsRow B 71 1 (.slice s n cp) n (LE ay (Go.Sort.swp C (j) (j - 1))):=aO
 have aC:Md (fun q=>(Value.slice s n cp).ownBlock=some q) w29 wS2:=Md.trans (A.mono (fun _ _ h=>h.elim)) (Md.trans aD aF)
 refine c4 (by kernel_rfl) ?_
 refine bn (tn (aB _ _ (rg rfl (ab (U j) (p (bI ((j - 1:Nat):Int) rfl rfl (aH (by omega) (by omega))) (p ak (nl (tn ?_))))))))
 exact ⟨_,by omega,j - 1,Go.Sort.swp C j (j - 1),(by omega),((by rw [← hq2,CG (show a < j by omega) ac])),E,(Md.trans Z (Md.trans (J.mono (fun _ _ h=>h.elim)) aC)),rfl,rfl,rfl,rfl,rfl,rfl⟩
 refine ext (te _ (te _ (be (bn (tn (ai _ _ (rg rfl (ab (U i) ?_))))))))
 exact p (a8 ((i+1:Nat):Int) rfl rfl (aH (by omega) (by omega))) (ae (((⟨_,by omega,i+1,C,(by omega),((by rw [← ad,tU (show i < b by omega),← hq2,CH (by simpa using ac)])),(aE G J),(Md.trans Z (J.mono (fun _ _ h=>h.elim))),rfl,rfl,rfl,rfl,rfl⟩))))
 refine aT 4 rfl (by kernel_rfl) rfl rfl rfl rfl c ?_
 refine aT 5 rfl (by kernel_rfl) rfl rfl rfl rfl c ?_
 refine aT 6 rfl (by kernel_rfl) rfl rfl rfl rfl c ?_
 refine aT 7 rfl (by kernel_rfl) rfl rfl rfl rfl c ?_
 refine aT 8 rfl (by kernel_rfl) rfl rfl rfl rfl c ?_
 refine aT 9 rfl (by kernel_rfl) rfl rfl rfl rfl c ?_
 refine aT 10 rfl (by kernel_rfl) rfl rfl rfl rfl c ?_
 refine aT 11 rfl (by kernel_rfl) rfl rfl rfl rfl c ?_
 refine aT 12 rfl (by kernel_rfl) rfl rfl rfl rfl c ?_
 refine aT 13 rfl (by kernel_rfl) rfl rfl rfl rfl c ?_
 refine aQ 14 rfl (fun _ _=>a7 rfl) c (hn (by kernel_rfl) (tn (al _ _ (cf rfl (ext (te _ (te _ (be ?_))))))))
 refine bn (tn (ai _ _ (rg rfl (ab (U i) (p (a8 ((i+1:Nat):Int) rfl rfl (aH (by omega) (by omega))) (p ak (nl (tn ?_))))))))
 exact ⟨_,by omega,i+1,C,(by omega),((by rw [← ad,tU (show i < b by omega),← hq2,CI (by omega)])),(aE G (Md.refl _ _).drew),Z.drew,rfl,rfl,rfl,rfl,rfl⟩
 refine ext (te _ (te _ (be (f0 rfl ?_))))
 exact ⟨rfl,by rw [← ad,CF (by omega)]; exact ap,am⟩
theorem Fy (d:Array Nat) (lo hi first :Nat) (B n cp:Nat) (s:Option Addr) (w:World) (aL:w.ownsRow B 71 1 (.slice s n cp) n (LE ay d)) (ba:lo≤hi∧first+hi≤n) (bb:n≤1099511627776):
 aK Tryz.prog 175 (List.toArray [.slice s n cp,U lo,U hi,U first]) w (fun v w'=>v= .tuple #[]∧w'.ownsRow B 71 1 (.slice s n cp) n (LE ay (Go.Sort.siftDown a3 hi first lo d))∧Md (fun q=>(Value.slice s n cp).ownBlock=some q) w w'):=by
 refine enter Tryz.func175 rfl Tryz.ntmps175 rfl ?_
 refine aa (fun _ ap=>(ab (U lo) (p (bA (U lo) rfl) (ag ((ap _ _ (au (lp (fun al Y J=> ∃ (r:Nat) (A:Array Nat),(r≤hi)∧(Go.Sort.siftDown a3 hi first r A=Go.Sort.siftDown a3 hi first lo d)∧(J.ownsRow B 71 1 (.slice s n cp) n (LE ay A))∧(Md (fun q=>(Value.slice s n cp).ownBlock=some q) w J)∧(Y 0= .slice s n cp)∧(Y 2=U hi)∧(Y 3=U first)∧(Y 8=U r)∧(hi - r=al)) _ ⟨lo,d,(by omega),rfl,aL,(Md.refl _ _),rfl,rfl,rfl,rfl,rfl⟩ ?_))))))))
 rintro al Y J ⟨r,A,hr,ai,G,ac,aU,aV,aW,aZ,rfl⟩
 refine fx 0 aU (fx 2 aV (fx 3 aW (fx 8 aZ (au (aa (fun _ aq=>(ab (U r) (p (kE ((2 *r:Nat):Int) rfl rfl (aH (by omega) (by omega))) (p (a8 ((2 *r+1:Nat):Int) rfl rfl (aH (by omega) (by omega))) (p ak ?_))))))))))
 refine ag ((aq _ _ (sq (fun _ ar=>aa (fun _ av=>(p mv (ab (U hi) (p (ge rfl rfl) ?_))))))))
 refine ag ((av _ _ (cd rfl (fun aO=> ?_) (fun aO=> ?_))))
 refine ext (te _ (iD (by decide) (te _ (be (f0 rfl ?_)))))
 exact ⟨rfl,by rw [← ai,Fv (by omega)]; exact G,ac⟩
 refine az (tn (ar _ _ ?_))
 refine c6 (fun V wC=> ∃ (c:Nat),(r < c∧c < hi)∧(Go.Sort.siftDown a3 hi first r A=if (!a3 A[first+r]! A[first+c]!)=true then A else Go.Sort.siftDown a3 hi first c (Go.Sort.swp A (first+r) (first+c)))∧(wC.ownsRow B 71 1 (.slice s n cp) n (LE ay A))∧(Md (fun q=>(Value.slice s n cp).ownBlock=some q) w wC)∧(V 0= .slice s n cp)∧(V 2=U hi)∧(V 3=U first)∧(V 8=U r)∧(V 9=U c)) ?_ ?_
 refine sq (fun _ Z=> ?_)
 have hdcn:=cU G
 have a:(fun w'=>Wk J w') J.drew:=(Md.refl _ _).drew
 refine bF (fun w'=>Wk J w') rfl wide a (aQ 0 rfl (fun _ _=>mv) a (aQ 1 rfl (fun _ _=>a8 ((2 *r+1 +1:Nat):Int) rfl rfl (aH (by omega) (by omega))) a (bp 2 rfl (U hi) a (aQ 3 rfl (fun _ _=>lt rfl rfl) a (aQ 4 rfl (fun _ _=>mv) a (hZ (t:=21) rfl (fun aP=> ?_) (fun aP=> ?_)))))))
 refine aX 5 rfl (by kernel_rfl) rfl rfl rfl (fun _ _=>ao (.slice s n cp) rfl) a (aX 6 rfl (by kernel_rfl) rfl rfl rfl (fun _ _=>ao (U first) rfl) a (aX 7 rfl (by kernel_rfl) rfl rfl rfl (fun _ _=>mv) a (aX 8 rfl (by kernel_rfl) rfl rfl rfl (fun _ _=>a8 ((first+(2 *r+1):Nat):Int) rfl rfl (aH (by omega) (by omega))) a (aX 9 rfl (by kernel_rfl) rfl rfl rfl (fun _ _=>aG aY rfl rfl (by omega) (aj.ok ((aA G).2) (a6 (by omega)))) a (aX 10 rfl (by kernel_rfl) rfl rfl rfl (fun w' E=>ld bc rfl (bo (i:=first+(2 *r+1)) ((aA G).2.wk E) (by omega))) a (aX 11 rfl (by kernel_rfl) rfl rfl rfl (fun _ _=>ao (.slice s n cp) rfl) a (aX 12 rfl (by kernel_rfl) rfl rfl rfl (fun _ _=>ao (U first) rfl) a ?_)))))))
 refine aX 13 rfl (by kernel_rfl) rfl rfl rfl (fun _ _=>mv) a (aX 14 rfl (by kernel_rfl) rfl rfl rfl (fun _ _=>a8 ((first+(2 *r+1):Nat):Int) rfl rfl (aH (by omega) (by omega))) a (aX 15 rfl (by kernel_rfl) rfl rfl rfl (fun _ _=>a8 ((first+(2 *r+1)+1:Nat):Int) rfl rfl (aH (by omega) (by omega))) a (aX 16 rfl (by kernel_rfl) rfl rfl rfl (fun _ _=>aG aY rfl rfl (by omega) (aj.ok ((aA G).2) (a6 (by omega)))) a (aX 17 rfl (by kernel_rfl) rfl rfl rfl (fun w' E=>ld bc rfl (bo (i:=first+(2 *r+1)+1) ((aA G).2.wk E) (by omega))) a (iR 18 rfl (by kernel_rfl) rfl rfl rfl (cl gi (gp A[first+(2 *r+1)]! A[first+(2 *r+1)+1]! _) rfl fun bd w35 aM=> ?_))))))
 obtain ⟨rfl,aB⟩:=aM
 have M:(fun w'=>Wk J w') w35:=Md.trans a aB
 refine ⟨M,?_⟩
 refine aQ 19 rfl (fun _ _=>bl rfl) M (hn (by kernel_rfl) (tn (Z _ _ (cb rfl (fun ad=> ?_) (fun ad=> ?_)))))
 exact rg rfl (p mv (p (a8 ((2 *r+2:Nat):Int) rfl rfl (aH (by omega) (by omega))) (ae (((⟨2 *r+2,(by omega),(Fw (by omega) ad),(aE G M),(Md.trans ac (M.mono (fun _ _ h=>h.elim))),rfl,rfl,rfl,rfl,rfl⟩))))))
 exact az (tn (⟨2 *r+1,(by omega),(vw (by omega) (.inr ad)),(aE G M),(Md.trans ac (M.mono (fun _ _ h=>h.elim))),rfl,rfl,rfl,rfl,rfl⟩))
 refine aT 5 rfl (by kernel_rfl) rfl rfl rfl rfl a ?_
 refine aT 6 rfl (by kernel_rfl) rfl rfl rfl rfl a ?_
 refine aT 7 rfl (by kernel_rfl) rfl rfl rfl rfl a ?_
 refine aT 8 rfl (by kernel_rfl) rfl rfl rfl rfl a ?_
 refine aT 9 rfl (by kernel_rfl) rfl rfl rfl rfl a ?_
 refine aT 10 rfl (by kernel_rfl) rfl rfl rfl rfl a ?_
 refine aT 11 rfl (by kernel_rfl) rfl rfl rfl rfl a ?_
 refine aT 12 rfl (by kernel_rfl) rfl rfl rfl rfl a ?_
 refine aT 13 rfl (by kernel_rfl) rfl rfl rfl rfl a ?_
 refine aT 14 rfl (by kernel_rfl) rfl rfl rfl rfl a ?_
 refine aT 15 rfl (by kernel_rfl) rfl rfl rfl rfl a ?_
 refine aT 16 rfl (by kernel_rfl) rfl rfl rfl rfl a ?_
 refine aT 17 rfl (by kernel_rfl) rfl rfl rfl rfl a ?_
 refine aT 18 rfl (by kernel_rfl) rfl rfl rfl rfl a ?_
 exact aQ 19 rfl (fun _ _=>a7 rfl) a (hn (by kernel_rfl) (tn (Z _ _ (cf rfl (az (tn (⟨2 *r+1,(by omega),(vw (by omega) (.inl (by omega))),(aE G (Md.refl _ _).drew),ac.drew,rfl,rfl,rfl,rfl,rfl⟩)))))))
 rintro V wC ⟨c,hc,an,I,am,a0,a1,a2,a5,a9⟩
 refine fx 0 a0 (fx 2 a1 (fx 3 a2 (fx 8 a5 (fx 9 a9 (sq (fun _ Z=>sq (fun _ aw=> ?_)))))))
 have hdcn:=cU I
 have C:(fun w'=>Wk wC w') wC.drew:=(Md.refl _ _).drew
 refine bF (fun w'=>Wk wC w') rfl wide C (bp 0 rfl (.slice s n cp) C (bp 1 rfl (U first) C (bp 2 rfl (U r) C (aQ 3 rfl (fun _ _=>a8 ((first+r:Nat):Int) rfl rfl (aH (by omega) (by omega))) C (aQ 4 rfl (fun _ _=>aG aY rfl rfl (by omega) (aj.ok ((aA I).2) (a6 (by omega)))) C (aQ 5 rfl (fun w' E=>ld bc rfl (bo (i:=first+r) ((aA I).2.wk E) (by omega))) C (bp 6 rfl (.slice s n cp) C ?_)))))))
 refine bp 7 rfl (U first) C (bp 8 rfl (U c) C (aQ 9 rfl (fun _ _=>a8 ((first+c:Nat):Int) rfl rfl (aH (by omega) (by omega))) C (aQ 10 rfl (fun _ _=>aG aY rfl rfl (by omega) (aj.ok ((aA I).2) (a6 (by omega)))) C (aQ 11 rfl (fun w' E=>ld bc rfl (bo (i:=first+c) ((aA I).2.wk E) (by omega))) C (he 12 rfl (by kernel_rfl) (cl gi (gp A[first+r]! A[first+c]! _) rfl fun bf w51 aN=> ?_))))))
 obtain ⟨rfl,aC⟩:=aN
 have O:(fun w'=>Wk wC w') w51:=Md.trans C aC
 refine ⟨O,?_⟩
 refine aQ 13 rfl (fun _ _=>no rfl) O (hn (by kernel_rfl) (tn (aw _ _ (cb rfl (fun ah=> ?_) (fun ah=> ?_)))))
 refine rt (tr (br (tr (br (nA rfl ?_)))))
 exact ⟨rfl,by rw [← ai,an,if_pos ah]; exact aE I O,Md.trans am (O.mono (fun _ _ h=>h.elim))⟩
 refine az (tn (Z _ _ (sq (fun _ ax=> ?_))))
 have hO6:=aE I O
 have j:(fun w'=>Wk w51 w') w51.drew:=(Md.refl _ _).drew
 refine c5 (fun w'=>Wk w51 w') 21 rfl wide j (aI 0 rfl (.slice s n cp) j (aI 1 rfl (U first) j (aI 2 rfl (U r) j (a4 3 rfl (fun _=>a8 ((first+r:Nat):Int) rfl rfl (aH (by omega) (by omega))) (fun _=>j) (aI 4 rfl (.slice s n cp) j (aI 5 rfl (U first) j (aI 6 rfl (U c) j ?_)))))))
 refine a4 7 rfl (fun _=>a8 ((first+c:Nat):Int) rfl rfl (aH (by omega) (by omega))) (fun _=>j) (aI 8 rfl (.slice s n cp) j (aI 9 rfl (U first) j (aI 10 rfl (U c) j (a4 11 rfl (fun _=>a8 ((first+c:Nat):Int) rfl rfl (aH (by omega) (by omega))) (fun _=>j) (a4 12 rfl (fun _=>aG aY rfl rfl (by omega) (aj.ok ((aA hO6).2) (a6 (by omega)))) (fun _=>j) (cK 13 rfl (fun w' E=>ld bc rfl (bo (i:=first+c) ((aA hO6).2.wk E) (by omega))) j (aI 14 rfl (.slice s n cp) j ?_)))))))
 refine aI 15 rfl (U first) j (aI 16 rfl (U r) j (a4 17 rfl (fun _=>a8 ((first+r:Nat):Int) rfl rfl (aH (by omega) (by omega))) (fun _=>j) (a4 18 rfl (fun _=>aG aY rfl rfl (by omega) (aj.ok ((aA hO6).2) (a6 (by omega)))) (fun _=>j) (cK 19 rfl (fun w' E=>ld bc rfl (bo (i:=first+r) ((aA hO6).2.wk E) (by omega))) j (a4 20 rfl (fun _=>aG aY rfl rfl (by omega) (aj.ok ((aA hO6).2) (a6 (by omega)))) (fun _=>j) (bJ 21 rfl (by kernel_rfl) (by kernel_rfl) (dj (u:=A[first+c]!) (first+r) (aE hO6 j) c8 rfl rfl rfl (by omega) fun bg aF aR=> ?_)))))))
 refine a4 22 rfl (fun _=>aG aY rfl rfl (by omega) (aj.ok ((aA hO6).2) (a6 (by omega)))) (fun h=>Bool.noConfusion ((show true =_ from by kernel_rfl).trans h)) (bJ 23 rfl (by kernel_rfl) (by kernel_rfl) (dj (u:=A[first+r]!) (first+c) aR c8 rfl rfl rfl (by omega) fun wS2 aJ aS=> ?_))
 have E:wS2.ownsRow B 71 1 (.slice s n cp) n (LE ay (Go.Sort.swp A (first+r) (first+c))):=aS
 have aD:Md (fun q=>(Value.slice s n cp).ownBlock=some q) w51 wS2:=Md.trans (j.mono (fun _ _ h=>h.elim)) (Md.trans aF aJ)
 refine c4 (by kernel_rfl) ?_
 exact tn (ax _ _ (rg rfl (ab (U c) (p (bA (U c) rfl) (nl (bn (tn (⟨_,by omega,c,Go.Sort.swp A (first+r) (first+c),(by omega),((by rw [← ai,an,if_neg (by rw [ah]; exact Bool.noConfusion)])),E,(Md.trans am (Md.trans (O.mono (fun _ _ h=>h.elim)) aD)),rfl,rfl,rfl,rfl,rfl⟩))))))))
theorem vy (d:Array Nat) (lo hi first :Nat) (i c:Int) (B n cp:Nat) (a:Option Addr) (w:World) (j:w.ownsRow B 71 1 (.slice a n cp) n (LE ay d)) (p:lo≤hi∧first+hi≤n) (hlo:i=(lo:Nat)) (s:c=(hi:Nat)) (A:n≤1099511627776):
 aK Tryz.prog 175 (List.toArray [.slice a n cp,.int .i64 i,.int .i64 c,.int .i64 (first :Nat)]) w (fun v w'=>v= .tuple #[]∧w'.ownsRow B 71 1 (.slice a n cp) n (LE ay (Go.Sort.siftDown a3 hi first lo d))∧Md (fun q=>(Value.slice a n cp).ownBlock=some q) w w'):=by
 subst hlo s; exact Fy d lo hi first B n cp a w j p A
theorem Cs (d:Array Nat) (a b:Nat) (B n cp:Nat) (c:Option Addr) (w:World) (aD:w.ownsRow B 71 1 (.slice c n cp) n (LE ay d)) (a2:a < b∧b≤n) (Z:n≤1099511627776):
 aK Tryz.prog 157 (List.toArray [.slice c n cp,U a,U b]) w (fun v w'=>v= .tuple #[]∧w'.ownsRow B 71 1 (.slice c n cp) n (LE ay (Go.Sort.heapSort a3 d a b))∧Md (fun q=>(Value.slice c n cp).ownBlock=some q) w w'):=by
 refine enter Tryz.func157 rfl Tryz.ntmps157 rfl ?_
 refine aa (fun _ ac=>(ab (U a) (p (bA (U a) rfl) (ag ((ac _ _ (aa (fun _ al=> ?_))))))))
 refine ae (((al _ _ (aa (fun _ am=>(ab (U b) (ab (U a) (p (bI ((b - a:Nat):Int) rfl rfl (aH (by omega) (by omega))) ?_))))))))
 refine ae (((am _ _ (sq (fun _ an=>aa (fun _ ao=>(p mv (p (bI ((b - a - 1:Nat):Int) rfl rfl (aH (by omega) (by omega))) ?_))))))))
 refine p (j5 (((b - a - 1) / 2:Nat):Int) rfl rfl (by omega) (aH (by omega) (by omega))) (ae (((ao _ _ (au (lp (fun I E Y=> ∃ (k:Nat) (s:Array Nat),(k≤b - a)∧(Go.Sort.heapBuild a3 (b - a) a k s=Go.Sort.heapBuild a3 (b - a) a ((b - a - 1) / 2 +1) d)∧(Y.ownsRow B 71 1 (.slice c n cp) n (LE ay s))∧(Md (fun q=>(Value.slice c n cp).ownBlock=some q) w Y)∧(E 0= .slice c n cp)∧(E 6=U a)∧(E 7= .int .i64 0)∧(E 8=U (b - a))∧(E 9= .int .i64 ((k:Nat) - 1:Int))∧(k=I)) _ ⟨(b - a - 1) / 2 +1,d,(by omega),rfl,aD,(Md.refl _ _),rfl,rfl,rfl,rfl,(iv (by omega)),rfl⟩ ?_))))))
 rintro I E Y ⟨k,s,hk,V,A,J,aR,aS,aT,aU,aV,rfl⟩
 refine fx 0 aR (fx 6 aS (fx 7 aT (fx 8 aU (fx 9 aV (sq (fun _ ap=>aa (fun _ aq=>(ab (.int .i64 ((k:Nat) - 1:Int)) (p (ge rfl rfl) (ag ((aq _ _ ?_))))))))))))
 refine cd rfl (fun aN=> ?_) (fun aN=> ?_)
 refine az (tn (ap _ _ (sq (fun _ O=>au (rg rfl (ab (.slice c n cp) (ab (.int .i64 ((k:Nat) - 1:Int)) (ab (U (b - a)) ?_))))))))
 refine ab (U a) (e (cl rQ (vy s (k - 1) (b - a) a _ _ B n cp c _ A (by omega) (by omega) rfl Z) rfl fun a7 w26 aL=> ?_))
 obtain ⟨rfl,aF,av⟩:=aL
 refine nl (bn (tn (O _ _ (rg rfl (ab (.int .i64 ((k:Nat) - 1:Int)) (p (sb rfl rfl (bw (by omega))) (p ak (nl ?_))))))))
 exact tn (⟨_,by omega,k - 1,Go.Sort.siftDown a3 (b - a) a (k - 1) s,(by omega),((by rw [← V,B9 (show 0 < k by omega)])),aF,(Md.trans J av),rfl,rfl,rfl,rfl,(iv (by omega)),rfl⟩)
 refine ext (te _ (te _ (be (tn (an _ _ (aa (fun _ O=>(ab (U (b - a)) ?_))))))))
 refine p (bI ((b - a - 1:Nat):Int) rfl rfl (aH (by omega) (by omega))) (ae (((O _ _ (au (lp (fun I G C=> ∃ (k:Nat) (s:Array Nat),(k≤b - a)∧(Go.Sort.heapPop a3 a k s=Go.Sort.heapSort a3 d a b)∧(C.ownsRow B 71 1 (.slice c n cp) n (LE ay s))∧(Md (fun q=>(Value.slice c n cp).ownBlock=some q) w C)∧(G 0= .slice c n cp)∧(G 6=U a)∧(G 7= .int .i64 0)∧(G 8=U (b - a))∧(G 10= .int .i64 ((k:Nat) - 1:Int))∧(k=I)) _ ⟨b - a,s,(by omega),((by rw [show k=0 by omega,Ca] at V; rw [V]; rfl)),A,J,rfl,rfl,rfl,rfl,(iv (by omega)),rfl⟩ ?_))))))
 rintro I G C ⟨k,s,a5,hq2,A,J,aW,aZ,a0,a1,aX,rfl⟩
 refine fx 0 aW (fx 6 aZ (fx 7 a0 (fx 8 a1 (fx 10 aX (sq (fun _ ar=>aa (fun _ ad=>(ab (.int .i64 ((k:Nat) - 1:Int)) (p (ge rfl rfl) (ag ((ad _ _ ?_))))))))))))
 refine cd rfl (fun aO=> ?_) (fun aO=> ?_)
 refine az (tn (ar _ _ (sq (fun _ ah=>au (sq (fun _ ai=> ?_))))))
 have hdcn:=cU A
 have j:(fun w'=>Wk C w') C.drew:=(Md.refl _ _).drew
 refine c5 (fun w'=>Wk C w') 17 rfl wide j (aI 0 rfl (.slice c n cp) j (aI 1 rfl (U a) j (aI 2 rfl (.slice c n cp) j (aI 3 rfl (U a) j (aI 4 rfl (.int .i64 ((k:Nat) - 1:Int)) j (a4 5 rfl (fun _=>a8 ((a+(k - 1):Nat):Int) rfl rfl (aH (by omega) (by omega))) (fun _=>j) (aI 6 rfl (.slice c n cp) j ?_)))))))
 refine aI 7 rfl (U a) j (aI 8 rfl (.int .i64 ((k:Nat) - 1:Int)) j (a4 9 rfl (fun _=>a8 ((a+(k - 1):Nat):Int) rfl rfl (aH (by omega) (by omega))) (fun _=>j) (a4 10 rfl (fun _=>aG aY rfl rfl (by omega) (aj.ok ((aA A).2) (a6 (by omega)))) (fun _=>j) (cK 11 rfl (fun w' M=>ld bc rfl (bo (i:=a+(k - 1)) ((aA A).2.wk M) (by omega))) j (aI 12 rfl (.slice c n cp) j (aI 13 rfl (U a) j (a4 14 rfl (fun _=>aG aY rfl rfl (by omega) (aj.ok ((aA A).2) (a6 (by omega)))) (fun _=>j) ?_)))))))
 refine cK 15 rfl (fun w' M=>ld bc rfl (bo (i:=a) ((aA A).2.wk M) (by omega))) j (a4 16 rfl (fun _=>aG aY rfl rfl (by omega) (aj.ok ((aA A).2) (a6 (by omega)))) (fun _=>j) (bJ 17 rfl (by kernel_rfl) (by kernel_rfl) (dj (u:=s[a+(k - 1)]!) (a) (aE A j) c8 rfl rfl rfl (by omega) fun bb aB aP=> ?_)))
 refine a4 18 rfl (fun _=>aG aY rfl rfl (by omega) (aj.ok ((aA A).2) (a6 (by omega)))) (fun h=>Bool.noConfusion ((show true =_ from by kernel_rfl).trans h)) (bJ 19 rfl (by kernel_rfl) (by kernel_rfl) (dj (u:=s[a]!) (a+(k - 1)) aP c8 rfl rfl rfl (by omega) fun wS2 aC aQ=> ?_))
 have M:wS2.ownsRow B 71 1 (.slice c n cp) n (LE ay (Go.Sort.swp s (a) (a+(k - 1)))):=aQ
 have ax:Md (fun q=>(Value.slice c n cp).ownBlock=some q) C wS2:=Md.trans (j.mono (fun _ _ h=>h.elim)) (Md.trans aB aC)
 refine c4 (by kernel_rfl) ?_
 refine tn (ai _ _ (rg rfl (ab (.slice c n cp) (ab (.int .i64 0) (ab (.int .i64 ((k:Nat) - 1:Int)) (ab (U a) (e (cl rQ (vy (Go.Sort.swp s a (a+(k - 1))) 0 (k - 1) a _ _ B n cp c _ M (by omega) rfl (by omega) Z) rfl fun a9 ba aM=> ?_))))))))
 obtain ⟨rfl,aJ,aw⟩:=aM
 refine nl (bn (tn (ah _ _ (rg rfl (ab (.int .i64 ((k:Nat) - 1:Int)) (p (sb rfl rfl (bw (by omega))) (p ak (nl ?_))))))))
 exact tn (⟨_,by omega,k - 1,Go.Sort.siftDown a3 (k - 1) a 0 (Go.Sort.swp s a (a+(k - 1))),(by omega),((by rw [← hq2,Cu (show 0 < k by omega)])),aJ,(Md.trans J (Md.trans ax aw)),rfl,rfl,rfl,rfl,(iv (by omega)),rfl⟩)
 refine ext (te _ (te _ (be (f0 rfl ?_))))
 exact ⟨rfl,by rw [← hq2,show k=0 by omega]; exact A,J⟩
theorem E2 (d:Array Nat) (a b:Nat) (B n cp:Nat) (s:Option Addr) (w:World) (an:w.ownsRow B 71 1 (.slice s n cp) n (LE ay d)) (ax:a < b∧b≤n) (aB:n≤1099511627776):
 aK Tryz.prog 160 (List.toArray [.slice s n cp,U a,U b]) w (fun v w'=>v= .tuple #[]∧w'.ownsRow B 71 1 (.slice s n cp) n (LE ay (Go.Sort.reverseRange d a b))∧Md (fun q=>(Value.slice s n cp).ownBlock=some q) w w'):=by
 refine enter Tryz.func160 rfl Tryz.ntmps160 rfl ?_
 refine aa (fun _ V=>(ab (U a) (p (bA (U a) rfl) (ag ((V _ _ (aa (fun _ Y=> ?_))))))))
 refine ab (U b) (p (bI ((b - 1:Nat):Int) rfl rfl (aH (by omega) (by omega))) (ae (((Y _ _ (au (lp (fun J I E=> ∃ (i j:Nat) (C:Array Nat),(i≤n∧j < n)∧(Go.Sort.reverseLoop i j C=Go.Sort.reverseRange d a b)∧(E.ownsRow B 71 1 (.slice s n cp) n (LE ay C))∧(Md (fun q=>(Value.slice s n cp).ownBlock=some q) w E)∧(I 0= .slice s n cp)∧(I 6=U i)∧(I 7=U j)∧(j - i=J)) _ ⟨a,b - 1,d,(by omega),rfl,an,(Md.refl _ _),rfl,rfl,rfl,rfl⟩ ?_)))))))
 rintro J I E ⟨i,j,C,hi,O,A,M,ar,av,aw,rfl⟩
 refine fx 0 ar (fx 6 av (fx 7 aw (sq (fun _ Z=>aa (fun _ ac=>(ab (U i) (ab (U j) (p (lt rfl rfl) (nl ?_)))))))))
 refine tn (ac _ _ (cd rfl (fun ao=> ?_) (fun ao=> ?_)))
 refine az (tn (Z _ _ (au (sq (fun _ ad=> ?_)))))
 have hdcn:=cU A
 have c:(fun w'=>Wk E w') E.drew:=(Md.refl _ _).drew
 refine c5 (fun w'=>Wk E w') 13 rfl wide c (aI 0 rfl (.slice s n cp) c (aI 1 rfl (U i) c (aI 2 rfl (.slice s n cp) c (aI 3 rfl (U j) c (aI 4 rfl (.slice s n cp) c (aI 5 rfl (U j) c (a4 6 rfl (fun _=>aG aY rfl rfl (by omega) (aj.ok ((aA A).2) (a6 (by omega)))) (fun _=>c) ?_)))))))
 refine cK 7 rfl (fun w' G=>ld bc rfl (bo (i:=j) ((aA A).2.wk G) (by omega))) c (aI 8 rfl (.slice s n cp) c (aI 9 rfl (U i) c (a4 10 rfl (fun _=>aG aY rfl rfl (by omega) (aj.ok ((aA A).2) (a6 (by omega)))) (fun _=>c) (cK 11 rfl (fun w' G=>ld bc rfl (bo (i:=i) ((aA A).2.wk G) (by omega))) c (a4 12 rfl (fun _=>aG aY rfl rfl (by omega) (aj.ok ((aA A).2) (a6 (by omega)))) (fun _=>c) (bJ 13 rfl (by kernel_rfl) (by kernel_rfl) (dj (u:=C[j]!) (i) (aE A c) c8 rfl rfl rfl (by omega) fun aC al ap=> ?_)))))))
 refine a4 14 rfl (fun _=>aG aY rfl rfl (by omega) (aj.ok ((aA A).2) (a6 (by omega)))) (fun h=>Bool.noConfusion ((show true =_ from by kernel_rfl).trans h)) (bJ 15 rfl (by kernel_rfl) (by kernel_rfl) (dj (u:=C[i]!) (j) ap c8 rfl rfl rfl (by omega) fun wS2 am aq=> ?_))
 have G:wS2.ownsRow B 71 1 (.slice s n cp) n (LE ay (Go.Sort.swp C (i) (j))):=aq
 have ai:Md (fun q=>(Value.slice s n cp).ownBlock=some q) E wS2:=Md.trans (c.mono (fun _ _ h=>h.elim)) (Md.trans al am)
 refine c4 (by kernel_rfl) ?_
 refine tn (ad _ _ (aa (fun _ ah=>(ab (U i) (p (a8 ((i+1:Nat):Int) rfl rfl (aH (by omega) (by omega))) (ae (((ah _ _ ?_)))))))))
 exact rg rfl (ab (U j) (p (bI ((j - 1:Nat):Int) rfl rfl (aH (by omega) (by omega))) (p ak (nl (bn (tn (⟨_,by omega,i+1,j - 1,Go.Sort.swp C i j,(by omega),((by rw [← O,E0 (show i < j by omega)])),G,(Md.trans M ai),rfl,rfl,rfl,rfl⟩)))))))
 refine ext (te _ (te _ (be (f0 rfl ?_))))
 exact ⟨rfl,by rw [← O,E1 (by omega)]; exact A,M⟩
end Go.Hb.kg
end
