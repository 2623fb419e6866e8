/-
  Walks and plain laws that the law rests on, laid together. No conditions but those that each theorem names.
-/
import Derived.Test.YtkiemnnhcilhpaaGreatDoorMnDicRemarks1
set_option linter.unusedVariables false
section
set_option linter.unusedSimpArgs false
namespace Go.Hb
open Go.RowKit
open Classical
structure iR (P:Program) (k:TypeId) (isK:Value→Prop):Prop where
 key:m7 P k isK
 stays:∀ w v,isK v→(Instr.keyThatStays v v).run P w= .ok v w
def eH (v:Value):Prop := ∃ s:List UInt8,v=str s
def jO (q:IntKind) (v:Value):Prop := ∃ a:Int,v= .int q a
theorem tC {d:TypeDesc} {isK:Value→Prop} (hs:∀ x y,isK x→isK y→∃ a,Instr.sameNow d x y=some a∧(a=true↔x=y)) {x:Value} (p:isK x):∀ (es:List MapEntry) (i:Nat),(∀ e∈es,isK e.key)→
 (Instr.findNow d x es i=some none∧∀ e∈es,e.key≠x)∨∃ j e,Instr.findNow d x es i=some (some (i+j,e.val))∧es[j]? =some e∧e.key=x
 | [],i,_=> .inl ⟨rfl,fun _ h=>by simp at h⟩
 | e::es,i,h=>by
   obtain ⟨a,h1,h2⟩:=hs x e.key p (h e (by simp))
   cases a with
   | true =>exact .inr ⟨0,e,by simp [Instr.findNow,h1],rfl,(h2.1 rfl).symm⟩
   | false =>
     have hne:e.key≠x:=fun hh=>by cases h2.2 hh.symm
     rcases tC hs p es (i+1) (fun e he=>h e (by simp [he])) with ⟨h3,h4⟩ | ⟨j,e',h3,h4,h5⟩
     · refine .inl ⟨by simp [Instr.findNow,h1,h3],fun e' c=> ?_⟩
       rcases List.mem_cons.1 c with rfl | c
       · exact hne
       · exact h4 e' c
     · refine .inr ⟨j+1,e',?_,h4,h5⟩
       simp only [Instr.findNow,h1,h3]; rw [show i+1 +j=i+(j+1) from by omega]
theorem uC {P:Program} {k:TypeId} {d:TypeDesc} {isK:Value→Prop} (hk:P.underlying k=some d) (hs:∀ x y,isK x→isK y→∃ a,Instr.sameNow d x y=some a∧(a=true↔x=y)) (hc:∀ em w v,isK v→(Instr.checkKey em 10000 k v).run P w= .ok () w):m7 P k isK where
 check:=hc
 find w x es hx hes:=by
  rcases tC hs hx es 0 hes with ⟨h1,h2⟩ | ⟨j,e,h1,h2,h3⟩
  · exact .inl ⟨by simp [Instr.findKey,bZ hk,h1],h2⟩
  · exact .inr ⟨j,e,by simp [Instr.findKey,bZ hk,h1],h2,h3⟩
theorem rW (a b:ByteArray):(a==b)=decide (a=b):=by
 rw [Bool.eq_iff_iff,decide_eq_true_iff]
 show ((a.data==b.data)=true)↔_
 rw [beq_iff_eq]
 exact ⟨fun h=>by cases a; cases b; cases h; rfl,fun h=>by rw [h]⟩
theorem Dj {P:Program} {k:TypeId} (hk:P.underlying k=some .string):iR P k eH where
 key:=uC hk (by
  rintro _ _ ⟨a,rfl⟩ ⟨b,rfl⟩
  refine ⟨_,rfl,?_⟩
  rw [rW,decide_eq_true_iff]
  constructor
  · intro h; unfold str; rw [h]
  · intro h; unfold str at h; cases h; rfl) (by rintro em w _ ⟨a,rfl⟩; exact zw (n:=9999) hk w)
 stays w v hv:=by obtain ⟨a,rfl⟩:=hv; simp [Instr.keyThatStays,Instr.sameBits,str,rW]
theorem zu {P:Program} {k:TypeId} {q r:IntKind} {em:Bool} {n:Nat} {a:Int} (hk:P.underlying k=some (.int q)) (w:World):(Instr.checkKey em (n+1) k (.int r a)).run P w= .ok () w:=by
 simp only [Instr.checkKey,Sem.run_bind,bZ hk,Result.andThen_ok,Sem.run_pure]
theorem Di {P:Program} {k:TypeId} {q r:IntKind} (hk:P.underlying k=some (.int q)):iR P k (jO r) where
 key:=uC hk (by
  rintro _ _ ⟨a,rfl⟩ ⟨b,rfl⟩
  refine ⟨decide (a=b),by simp [Instr.sameNow]; rfl,?_⟩
  rw [decide_eq_true_iff]
  exact ⟨fun h=>by rw [h],fun h=>by cases h; rfl⟩) (by rintro em w _ ⟨a,rfl⟩; exact zu (n:=9999) hk w)
 stays w v hv:=by obtain ⟨a,rfl⟩:=hv; simp [Instr.keyThatStays,Instr.sameBits]
def bl (h:Array Obj) (b:Nat) (isK:Value→Prop) (f:Value→Option Value):Prop :=
 ∃ kvs,ku h b kvs∧(∀ p∈kvs,isK p.1)∧(kvs.map Prod.fst).Nodup∧∀ k v,f k=some v↔(k,v)∈kvs
theorem bl.md {F:Nat→Prop} {w w':World} {b:Nat} {isK:Value→Prop} {f:Value→Option Value} (h:bl w.heap b isK f) (hm:Md F w w') (hf:¬F b):bl w'.heap b isK f:=
 let ⟨kvs,h1,h2⟩:=h; ⟨kvs,h1.md hm hf,h2⟩
theorem bl.wk {w w':World} {b:Nat} {isK:Value→Prop} {f:Value→Option Value} (h:bl w.heap b isK f) (hm:Wk w w'):bl w'.heap b isK f:=h.md hm id
theorem bl.nil {h:Array Obj} {b:Nat} {isK:Value→Prop} {c:Nat} (hm:h[b]? =some (.map #[] c)):bl h b isK fun _=>none:=
 ⟨[],⟨_,_,hm,rfl⟩,fun p hp=>(by simp at hp),(by simp),fun k v=>(by simp)⟩
theorem bl.isMap {h:Array Obj} {b:Nat} {isK:Value→Prop} {f:Value→Option Value} (hm:bl h b isK f):∃ es c,h[b]? =some (.map es c):=let ⟨_,⟨es,c,h1,_⟩,_⟩:=hm; ⟨es,c,h1⟩
theorem bl.jQ {h:Array Obj} {b:Nat} {isK:Value→Prop} {f:Value→Option Value} (hm:bl h b isK f) {cur:Array Value} {e:TypeId} {z:Nat×Nat} :h[b]?≠some (.cells cur e z):=by
 obtain ⟨es,c,h1⟩:=hm.isMap; rw [h1]; intro h; cases h
noncomputable def a3 (f:Value→Option Value) (k v:Value):Value→Option Value:=fun q=>if q=k then some v else f q
theorem mO (f:Value→Option Value) (k v:Value):a3 f k v k=some v:=if_pos rfl
theorem lM {f:Value→Option Value} {k v q:Value} (h:q≠k):a3 f k v q=f q:=if_neg h
section
variable {P:Program} {N:Fm} {σ:Nat→Value} {w:World} {dst:Option Nat} {ty:TypeId} {pos :String} {af:Array Edge} {g:Option (Nat×Bool)} {x y z:Operand} {K:(Nat→Value)→World→Prop}
variable {t k e:TypeId} {isK:Value→Prop} {b:Nat} {f:Value→Option Value} {kx v zv:Value}
theorem uN {ok:Bool} (c:P.underlying t=some (.map k e)) (hz:zeroV P e=some zv) (a:iR P k isK) (hm:bl w.heap b isK f) (i:ev N σ x= .map (some b)) (hy:ev N σ y=kx) (hi:isK kx):
 (execOp (ev N σ) ⟨dst,.lookup t x y ok,ty,pos,af,g⟩).run P w= .ok (.value (if ok then .tuple #[(f kx).getD zv,.bool (f kx).isSome] else (f kx).getD zv)) w:=by
 obtain ⟨kvs,h1,h2,h3,h4⟩:=hm
 cases hf:f kx with
 | none=>exact DF c hz a.key h1 h2 i hy hi (fun v hv=>by rw [← h4] at hv; rw [hf] at hv; cases hv)
 | some v=>exact DE c a.key h1 h2 i hy hi h3 ((h4 kx v).1 hf)
theorem jf (c:P.underlying t=some (.map k e)) (hz:zeroV P e=some zv) (a:iR P k isK) (hm:bl w.heap b isK f) (i:ev N σ x= .map (some b)) (hy:ev N σ y=kx) (hi:isK kx) (hv:(f kx).getD zv=v):
 (execOp (ev N σ) ⟨dst,.lookup t x y false,ty,pos,af,g⟩).run P w= .ok (.value v) w:=by
 rw [uN c hz a hm i hy hi,hv]; rfl
theorem uO {ob:Bool} (i:P.underlying t=some (.map k e)) (hz:zeroV P e=some zv) (a:iR P k isK) (hm:bl w.heap b isK f) (j:ev N σ x= .map (some b)) (hy:ev N σ y=kx) (hi:isK kx) (hv:(f kx).getD zv=v) (c:(f kx).isSome=ob):
 (execOp (ev N σ) ⟨dst,.lookup t x y true,ty,pos,af,g⟩).run P w= .ok (.value (.tuple #[v,.bool ob])) w:=by
 rw [uN i hz a hm j hy hi,hv,c]; rfl
theorem wX (U:P.underlying t=some (.map k e)) (G:iR P k isK) (hm:bl w.heap b isK f) (hi:isK kx):
 ∃ w',(Instr.mapUpdate t (.map (some b)) kx v).run P w= .ok () w'∧Md (fun j=>j=b) w w'∧bl w'.heap b isK (a3 f kx v):=by
 obtain ⟨kvs,⟨es,c,hr,he⟩,h2,h3,h4⟩:=hm
 have hb:=(Array.getElem?_eq_some_iff.1 hr).1
 rcases G.key.find w kx es.toList hi (pW he h2) with ⟨h1,ac⟩ | ⟨j,e',h1,C,h5⟩
 · have O:∀ u,(kx,u)∉kvs:=fun u hu=>by
    rw [← he] at hu
    obtain ⟨e1,Z,V⟩:=List.mem_map.1 hu
    cases V
    exact ac e1 Z rfl
   refine ⟨{w with heap:=w.heap.setIfInBounds b (.map (es.push {key:=kx,val:=v,born:=c}) (c+1))},by simp [Instr.mapUpdate,bZ U,run_getObj_map hr,G.key.check _ w kx hi,h1,setObj,Sem.run,hr],⟨rfl,rfl,by simp,fun i _ hne=>by simp only; rw [Array.getElem?_setIfInBounds_ne (fun e=>hne e.symm)]⟩,kvs++ [(kx,v)],⟨_,_,by simp only; rw [Array.getElem?_setIfInBounds_self_of_lt hb],by simp [he]⟩,?_,?_,?_⟩
   · intro p hp
     rcases List.mem_append.1 hp with hp | hp
     · exact h2 p hp
     · rw [List.mem_singleton.1 hp]; exact hi
   · rw [List.map_append,List.nodup_append]
     refine ⟨h3,by simp,?_⟩
     intro a ha ae J Y
     simp at J
     subst Y J
     obtain ⟨p,hp,ad⟩:=List.mem_map.1 ha
     exact O p.2 (by rw [← ad]; exact hp)
   · intro q u
     unfold a3
     rw [List.mem_append,List.mem_singleton]
     by_cases A:q=kx
     · subst A
       rw [if_pos rfl]
       constructor
       · intro h; cases h; exact .inr rfl
       · rintro (h | h)
         · exact absurd h (O u)
         · cases h; rfl
     · rw [if_neg A,h4]
       constructor
       · exact .inl
       · rintro (h | h)
         · exact h
         · cases h; exact absurd rfl A
 · have hjl:j < es.size:=by have :=(List.getElem?_eq_some_iff.1 C).1; simpa using this
   have M:es[j]? =some e':=by simpa using C
   refine ⟨{w with heap:=w.heap.setIfInBounds b (.map (es.modify j fun e=> {e with key:=kx,val:=v}) c)},?_,⟨rfl,rfl,by simp,fun i _ hne=>by simp only; rw [Array.getElem?_setIfInBounds_ne (fun e=>hne e.symm)]⟩,kvs.set j (kx,v),⟨_,_,by simp only; rw [Array.getElem?_setIfInBounds_self_of_lt hb],?_⟩,?_,?_,?_⟩
   · have hs:=G.stays w kx hi
     simp [Instr.mapUpdate,bZ U,run_getObj_map hr,G.key.check _ w kx hi,h1,M,h5,hs,setObj,Sem.run,hr]
   · rw [← he]
     apply List.ext_getElem?
     intro i
     simp only [Array.toList_modify,List.getElem?_map,List.getElem?_modify,List.getElem?_set,List.length_map]
     by_cases E:j=i
     · subst E; rw [C]; simp; have :=(List.getElem?_eq_some_iff.1 C).1; simpa using this
     · simp [E]
   · intro p hp
     rcases List.mem_or_eq_of_mem_set hp with hp | hp
     · exact h2 p hp
     · rw [hp]; exact hi
   · have :(kvs.set j (kx,v)).map Prod.fst=kvs.map Prod.fst:=by
      apply List.ext_getElem?
      intro i
      simp only [List.getElem?_map,List.getElem?_set]
      by_cases E:j=i
      · subst E
        rw [← he]; simp only [List.getElem?_map,C,List.length_map]
        have :=(List.getElem?_eq_some_iff.1 C).1
        simp [this,h5]
        simpa using this
      · simp [E]
     rw [this]; exact h3
   · intro q u
     have I:kvs[j]? =some (kx,e'.val):=by rw [← he]; simp [C,h5,M]
     have hlj:=(List.getElem?_eq_some_iff.1 I).1
     have ab:(kx,v)∈kvs.set j (kx,v):=List.mem_of_getElem? (i:=j) (by rw [List.getElem?_set,if_pos rfl,if_pos hlj])
     unfold a3
     by_cases A:q=kx
     · subst A
       rw [if_pos rfl]
       constructor
       · intro h; cases h; exact ab
       · intro h
         obtain ⟨i,s⟩:=List.getElem?_of_mem h
         rw [List.getElem?_set] at s
         split at s
         · rename_i aa
           subst aa
           cases s; rfl
         · rename_i hne
           exfalso
           exact hne ((List.getElem?_inj (i:=j) (j:=i) (by simpa using hlj) h3).1 (by simp [I,s]))
     · rw [if_neg A,h4]
       constructor
       · intro h
         obtain ⟨i,s⟩:=List.getElem?_of_mem h
         have hne:j≠i:=by rintro rfl; rw [I] at s; cases s; exact A rfl
         exact List.mem_of_getElem? (i:=i) (by rw [List.getElem?_set,if_neg hne]; exact s)
       · intro h
         rcases List.mem_or_eq_of_mem_set h with h | h
         · exact h
         · cases h; exact absurd rfl A
theorem lV (c:P.underlying t=some (.map k e)) (a:iR P k isK) (hm:bl w.heap b isK f) (i:ev N σ x= .map (some b)) (hy:ev N σ y=kx) (hz:ev N σ z=v) (hi:isK kx)
 (p:∀ w',Md (fun j=>j=b) w w'→bl w'.heap b isK (a3 f kx v)→K σ w'):bG P N ⟨none,.mapUpdate t x y z,ty,pos,af,g⟩ σ w K:=by
 obtain ⟨w',h1,h2,h3⟩:=wX (v:=v) c a hm hi
 have hrun:(execOp (ev N σ) ⟨none,.mapUpdate t x y z,ty,pos,af,g⟩).run P w= .ok .skip w':=by
  simp [execOp,i,hy,hz,h1]
 unfold bG Oper.wp
 rw [eC,hrun]
 exact ⟨σ,rfl,p w' h2 h3⟩
theorem gN (c:P.underlying t=some (.map k e)) (a:iR P k isK) (hm:bl w.heap b isK f) (i:ev N σ x= .map (some b)) (hy:ev N σ y=kx) (hz:ev N σ z=v) (hi:isK kx)
 (p:∀ w',Md (fun j=>j=b) w w'→bl w'.heap b isK (a3 f kx v)→K σ w'):bG P N ⟨none,.insert t x y z,ty,pos,af,g⟩ σ w K:=by
 obtain ⟨w',h1,h2,h3⟩:=wX (v:=v) c a hm hi
 have hrun:(execOp (ev N σ) ⟨none,.insert t x y z,ty,pos,af,g⟩).run P w= .ok .skip w':=by
  simp [execOp,i,hy,hz,h1]
 unfold bG Oper.wp
 rw [eC,hrun]
 exact ⟨σ,rfl,p w' h2 h3⟩
end
end Go.Hb
end
section
namespace Go.Hb
section
variable {P:Program} {N:Fm} {σ:Nat→Value} {w:World} {fn:Func} {R:Value→World→Prop}
theorem DO {t b off :Nat} {v:Value} (hu:bX P t=some none) (hc:Hb.aA w.heap b off =some v):(loadVar t ⟨b,off,none⟩).run P w= .ok v w:=by
 have a:w.cell? ⟨b,off,none⟩=some v:=by rw [iy]; exact hc
 unfold bX at hu
 cases hd:P.underlying t with
 | none=>rw [hd] at hu; cases hu
 | some d=>
   rw [hd] at hu
   cases d <;> first
    | (simp only [Option.map_eq_some_iff] at hu; obtain ⟨_,_,h⟩:=hu; cases h; done)
    | simp [loadVar,isAgg,bZ hd,run_load,a]
theorem DP {t n b off :Nat} {cs:List Value} (hu:bX P t=some (some n)) (hl:cs.length=n) (hc:∀ j,j < n→Hb.aA w.heap b (off+j)=cs[j]?):(loadVar t ⟨b,off,none⟩).run P w= .ok (.agg cs.toArray) w:=by
 have c:(loadCells ⟨b,off,none⟩ n).run P w= .ok cs.toArray w:=by
  subst hl
  refine run_loadCells_list (P:=P) w ⟨b,off,none⟩ cs fun j v a=> ?_
  rw [gF,iy]
  exact (hc j (List.getElem?_eq_some_iff.1 a).1).trans a
 unfold bX at hu
 cases hd:P.underlying t with
 | none=>rw [hd] at hu; cases hu
 | some d=>
   rw [hd] at hu
   cases hi:P.info? t with
   | none=>simp [Program.underlying,hi] at hd
   | some i=>
     rw [hi] at hu
     cases d <;> first
      | (cases hu; done)
      | (simp only [Option.map_some,Option.some.injEq] at hu; subst hu
         simp [loadVar,isAgg,bZ hd,sizeOf,ez hi,c])
def ir (P:Program) (N:Fm) (σ:Nat→Value) (w:World):ResultVar→Value→Prop
 | .tmp t,v=>ev N σ (.tmp t)=v
 | .cell a t,v=> ∃ ad,ev N σ (.tmp a)= .pointer (some ad)∧(loadVar t ad).run P w= .ok v w
theorem dJ {t:Tmp} :ir P N σ w (.tmp t) (ev N σ (.tmp t)):=rfl
theorem qW {a t b off :Nat} {v:Value} (c:ev N σ (.tmp a)= .pointer (some ⟨b,off,none⟩)) (hu:bX P t=some none) (hc:Hb.aA w.heap b off =some v):ir P N σ w (.cell a t) v:=⟨_,c,DO hu hc⟩
theorem dd {a t n b off :Nat} {cs:List Value} (c:ev N σ (.tmp a)= .pointer (some ⟨b,off,none⟩)) (hu:bX P t=some (some n)) (hl:cs.length=n) (hc:∀ j,j < n→Hb.aA w.heap b (off+j)=cs[j]?):ir P N σ w (.cell a t) (.agg cs.toArray):=⟨_,c,DP hu hl hc⟩
def jj (tmps:Array Value):ResultVar→Sem Value
 | .tmp t=>pure (tmps.getD t undef)
 | .cell a t=>do loadVar t (← asAddr (tmps.getD a undef))
theorem ik {r:ResultVar} {v:Value} (h:ir P N σ w r v):(jj (act N σ).tmps r).run P w= .ok v w:=by
 cases r with
 | tmp t=>
   show Sem.run P (pure ((act N σ).tmps.getD t undef)) w=_
   rw [iM]; simp only [ir] at h; rw [h]; rfl
 | cell a t=>
   obtain ⟨ad,h1,h2⟩:=h
   show Sem.run P (do loadVar t (← asAddr ((act N σ).tmps.getD a undef))) w=_
   rw [iM,h1]
   simp [asAddr,h2]
theorem FD {tmps:Array Value} {r:ResultVar} {v:Value} (h:fn.results= #[r]) (h1:(jj tmps r).run P w= .ok v w):(results fn tmps).run P w= .ok v w:=by
 have a:(results fn tmps)=(do let vs ← #[r].mapM (jj tmps); pure (if h:vs.size=1 then vs[0] else .tuple vs)):=by
  unfold results; rw [h]; rfl
 rw [a]; simp [List.mapM_toArray,h1]
theorem ot {tmps:Array Value} {r s:ResultVar} {v u:Value} (h:fn.results= #[r,s]) (h1:(jj tmps r).run P w= .ok v w) (h2:(jj tmps s).run P w= .ok u w):(results fn tmps).run P w= .ok (.tuple #[v,u]) w:=by
 have a:(results fn tmps)=(do let vs ← #[r,s].mapM (jj tmps); pure (if h:vs.size=1 then vs[0] else .tuple vs)):=by
  unfold results; rw [h]; rfl
 rw [a]; simp [List.mapM_toArray,h1,h2]
theorem FE {tmps:Array Value} {r s q:ResultVar} {v u z:Value} (h:fn.results= #[r,s,q]) (h1:(jj tmps r).run P w= .ok v w) (h2:(jj tmps s).run P w= .ok u w) (h3:(jj tmps q).run P w= .ok z w):(results fn tmps).run P w= .ok (.tuple #[v,u,z]) w:=by
 have a:(results fn tmps)=(do let vs ← #[r,s,q].mapM (jj tmps); pure (if h:vs.size=1 then vs[0] else .tuple vs)):=by
  unfold results; rw [h]; rfl
 rw [a]; simp [List.mapM_toArray,h1,h2,h3]
theorem mq {r:ResultVar} {v:Value} (h:fn.results= #[r]) (h1:ir P N σ w r v) (a:R v w):fin P fn N R .ret σ w:=⟨v,FD h (ik h1),a⟩
theorem et {r s:ResultVar} {v u:Value} (h:fn.results= #[r,s]) (h1:ir P N σ w r v) (h2:ir P N σ w s u) (a:R (.tuple #[v,u]) w):fin P fn N R .ret σ w:=⟨_,ot h (ik h1) (ik h2),a⟩
theorem tu {r s q:ResultVar} {v u z:Value} (h:fn.results= #[r,s,q]) (h1:ir P N σ w r v) (h2:ir P N σ w s u) (h3:ir P N σ w q z) (a:R (.tuple #[v,u,z]) w):fin P fn N R .ret σ w:=⟨_,FE h (ik h1) (ik h2) (ik h3),a⟩
end
end Go.Hb
end
section
namespace Go.Hb
open Go.RowKit
def jm (P:Program) (N:Fm) (c:Code) (B:Exit→Act→World→Prop) (σ:Nat→Value) (w:World):Prop :=c.wpIn (fe N.r) 0 P B (act N σ) w
def qb (N:Fm) (B:Exit→Act→World→Prop):Exit→(Nat→Value)→World→Prop :=fun e σ w=>B e (act N σ) w
section
variable {P:Program} {N:Fm} {B:Exit→Act→World→Prop} {σ:Nat→Value} {w:World}
theorem dZ {x y:Code} (h:jm P N x (Exit.then (y.wpIn (fe N.r) 0 P B) B) σ w):jm P N (.seq x y) B σ w:=wpIn_seq h
theorem ef {y:Code} (h:jm P N y B σ w):qb N (Exit.then (y.wpIn (fe N.r) 0 P B) B) .normal σ w:=h
theorem qS {y:Act→World→Prop} (h:qb N B .ret σ w):qb N (Exit.then y B) .ret σ w:=h
theorem qX (h:qb N B .ret σ w):jm P N .ret B σ w:=wpIn_ret h
theorem eI {c:Code} (h:bR P N c (qb N B) σ w):jm P N c B σ w:=by
 unfold bR at h
 refine wpIn_mono h ?_
 intro e a w hl
 cases e with
 | panic c=>obtain ⟨σ,rfl,i⟩:=hl; exact i σ fun _ _=>rfl
 | outgrown=>exact hl.elim
 | _=>obtain ⟨σ,rfl,i⟩:=hl; exact i
end
theorem ox (fn:Func) (args:List Value) (F:List Nat) (hn:Nat.ble args.length fn.ntmps=true):({tmps:=args.toArray++Array.replicate (fn.ntmps - args.toArray.size) undef,defers:= []} :Act)=act ⟨fn.ntmps,[],F,none⟩ (gT args):=by
 have a:args.length≤fn.ntmps:=by simpa using hn
 refine nd rfl fun i=> ?_
 rw [jz]
 simp only [gT,List.getD_eq_getElem?_getD,List.size_toArray]
 by_cases h1:i < args.length
 · rw [Array.getElem?_append_left (by simpa using h1),if_pos (by omega)]
   simp [h1]
 · rw [Array.getElem?_append_right (by simpa using h1)]
   simp only [List.size_toArray,Array.getElem?_replicate]
   by_cases h2:i < fn.ntmps
   · rw [if_pos (by omega),if_pos h2,List.getElem?_eq_none (by omega)]; rfl
   · rw [if_neg (by omega),if_neg h2]
abbrev Bm (P:Program) (fn:Func) (R:Value→World→Prop):Exit→Act→World→Prop :=bodyPostM Fence.wide 0 P fn (fun e w'=> ∃ v,e= .returned v∧R v w')
theorem tp {P:Program} {f:FuncId} {N:Nat} {fn:Func} {c:Code} {args:List Value} {w:World} {R:Value→World→Prop} (F:List Nat) (hf:P.funcs[f]? =some fn) (hb:fn.body=some c)
 (a:fn.ntmps=N) (hn:Nat.ble args.length N=true) (h:jm P ⟨N,[],F,none⟩ c (Bm P fn R) (gT args) w):aT P f args.toArray w R:=by
 subst a
 refine callsIn_wide.1 (callsIn_of_wp_marks (F:=Fence.wide) (n:=0) hf hb trivial ?_)
 rw [ox fn args F hn]
 exact h
section
variable {P:Program} {n:Nat} {F:List Nat} {σ:Nat→Value} {w:World} {fn:Func} {R:Value→World→Prop}
theorem Du {e:Exit} (he:e= .ret∨e= .normal) {v:Value} (hr:(results fn (act ⟨n,[],F,none⟩ σ).tmps).run P w= .ok v w) (a:R v w):qb ⟨n,[],F,none⟩ (Bm P fn R) e σ w:=by
 rcases he with rfl | rfl <;> exact ⟨v,hr,v,rfl,a⟩
theorem tq {t u:Nat} {v v':Value} (h:fn.results= #[.tmp t,.tmp u]) (hv:ev ⟨n,[],F,none⟩ σ (.tmp t)=v) (hu:ev ⟨n,[],F,none⟩ σ (.tmp u)=v') (a:R (.tuple #[v,v']) w):qb ⟨n,[],F,none⟩ (Bm P fn R) .ret σ w:=
 Du (.inl rfl) (by rw [results_tmp2 h,iM,iM,hv,hu]) a
theorem Dv {D:Nat} {v:Value} (a:w.heap[D]? =some (.deferred (some []))) (hr:∀ w',(results fn (act ⟨n,[{target:= .collected D,args:= #[]}],F,none⟩ σ).tmps).run P w'= .ok v w') (c:R v (w.putObj D (.deferred none))):
 qb ⟨n,[{target:= .collected D,args:= #[]}],F,none⟩ (Bm P fn R) .ret σ w:=
 ⟨FrameMode.noConfusion,.inl ⟨_,_,rfl,run_takeDeferred a,⟨v,hr _,v,rfl,c⟩⟩⟩
theorem tt {D t u:Nat} {v v':Value} (h:fn.results= #[.tmp t,.tmp u]) (hv:ev ⟨n,[{target:= .collected D,args:= #[]}],F,none⟩ σ (.tmp t)=v) (hu:ev ⟨n,[{target:= .collected D,args:= #[]}],F,none⟩ σ (.tmp u)=v')
 (a:w.heap[D]? =some (.deferred (some []))) (c:R (.tuple #[v,v']) (w.putObj D (.deferred none))):qb ⟨n,[{target:= .collected D,args:= #[]}],F,none⟩ (Bm P fn R) .ret σ w:=
 Dv a (fun w'=>by rw [results_tmp2 h,iM,iM,hv,hu]) c
end
theorem cG {w:World} {B t size n pp a:Nat} {v:Value} {xs:List Value} {cs:Array Value} {z:Nat×Nat} (h:w.ownsRow B t size v n xs) (hp:w.heap[pp]? =some (.cells cs a z)) (hne:t≠a):v.ownBlock≠some pp:=by
 intro hk
 rcases h.2 with ⟨h1,_⟩ | ⟨g,cap,cur,h1,_,hg,_⟩
 · rw [h1] at hk; simp [Value.ownBlock] at hk
 · rw [h1] at hk
   simp only [Value.ownBlock,Option.some.injEq] at hk
   subst hk
   rw [hg] at hp
   simp only [Option.some.injEq,Obj.cells.injEq] at hp
   exact hne hp.2.1
section
variable {P:Program} {N:Fm} {σ:Nat→Value} {w:World} {dst:Option Nat} {ty:TypeId} {pos :String} {af:Array Edge} {g:Option (Nat×Bool)} {x:Operand} {K:(Nat→Value)→World→Prop}
theorem yi {e:TypeId} {v:Value} (a:ev N σ x=v) (h1:v.oneCell'=true) (k:∀ b w',b=w.heap.size→Nw w w'→w'.heap[b]? =some (.cells [v].toArray e (0,0))→K (eb σ dst (.pointer (some ⟨b,0,none⟩))) w'):
 bG P N ⟨dst,.box e x,ty,pos,af,g⟩ σ w K:=by
 refine jo (v:=fun b=> .pointer (some ⟨b,0,none⟩)) (ob:= .cells [v].toArray e (0,0)) ?_ k
 have :=kf h1
 simp [execOp,Instr.box,a,this,newVar,newRow]
end
theorem lI (w:World) (k:Nat) (o:Obj):Md (fun j=>j=k) w (w.putObj k o):=
 ⟨rfl,rfl,by simp [World.putObj],fun j _ hne=>World.putObj_heap_other hne⟩
def fA (w w':World):Prop := ∀ (k:Nat) (o:Obj),w.heap[k]? =some o→(∀ cur e z,o≠.cells cur e z)→w'.heap[k]? =some o
theorem fA.trans {a b c:World} (h:fA a b) (i:fA b c):fA a c:=fun k o j hn=>i k o (h k o j hn) hn
theorem fA.md {F:Nat→Prop} {w w':World} (hm:Md F w w') (i:∀ k,F k→∃ cur e z,w.heap[k]? =some (.cells cur e z)):fA w w':=fun k o a hn=>by
 rw [hm.fc k (Array.getElem?_eq_some_iff.1 a).1 (fun hk=>by obtain ⟨c,e,z,h⟩:=i k hk; rw [a] at h; exact hn _ _ _ (Option.some.inj h))]; exact a
theorem fA.wk {w w':World} (hm:Wk w w'):fA w w':=fA.md hm fun _ h=>h.elim
theorem mL {w:World} {B e size n:Nat} {v:Value} {xs:List Value} (h:w.ownsRow B e size v n xs):∀ k,v.ownBlock=some k→∃ cur e z,w.heap[k]? =some (.cells cur e z):=by
 intro k hk
 rcases h.2 with ⟨rfl,_⟩ | ⟨g,cap,a,rfl,_,hg,_⟩
 · simp [Value.ownBlock] at hk
 · simp only [Value.ownBlock,Option.some.injEq] at hk; subst hk; exact ⟨_,_,_,hg⟩
def xy {α:Type} (B:Nat) (a:List α→World→Prop):Prop := ∀ pre W W' (F:Nat→Prop),a pre W→Md F W W'→(∀ k,F k→B≤k∧∀ cur e z,W.heap[k]?≠some (.cells cur e z))→a pre W'
section
variable {F:Nat→Prop} {W W':World} {B:Nat}
theorem oH {b e:Nat} {cs:Array Value} {z:Nat×Nat} (h:W.heap[b]? =some (.cells cs e z)) (hm:Md F W W') (a:∀ k,F k→B≤k∧∀ cur e z,W.heap[k]?≠some (.cells cur e z)):W'.heap[b]? =some (.cells cs e z):=by
 rw [hm.fc b (Array.getElem?_eq_some_iff.1 h).1 (fun hk=>(a b hk).2 _ _ _ h)]; exact h
theorem wg {a e size n:Nat} {v:Value} {xs:List Value} (h:W.ownsRow a e size v n xs) (hm:Md F W W') (i:∀ k,F k→B≤k∧∀ cur e z,W.heap[k]?≠some (.cells cur e z)):W'.ownsRow a e size v n xs:=
 bF h hm fun k hk hf=>by obtain ⟨c,e,z,h1⟩:=mL h k hk; exact (i k hf).2 _ _ _ h1
theorem wh {w:World} (h:Wk w W) (hm:Md F W W') (c:w.heap.size≤B) (a:∀ k,F k→B≤k∧∀ cur e z,W.heap[k]?≠some (.cells cur e z)):Wk w W':=Md.trans' h hm fun k hk hf=>by have :=(a k hf).1; omega
end
def rz {α:Type} (P:Program) (p:Nat) (lb:Array Value) (j:α→Array Value) (xs:List α) (i:World→Prop):Prop :=
 ∀ (l:Nat) (a:List α→World→Prop) (W:World),a [] W→(∀ pre W,a pre W→i W)→(∀ pre W1 c,a pre W1→Wk W1 c→a pre c)→
   (∀ pre x rest W1,xs=pre++x::rest→a pre W1→YieldAt Fence.wide 0 P l (j x) W1 fun e W'=>e= .returned (.bool true)∧a (pre++ [x]) W')→
   Calls P p (#[.func (.yield l) #[] #[]]++lb) W fun e W'=>(∃ v,e= .returned v)∧a xs W'
def FB (R:World→Prop):Exit→(Nat→Value)→World→Prop
 | .normal,_,w=>R w
 | _,_,_=>False
theorem xA (N:Fm):∀ (l:List (Tmp×Value)) (σ:Nat→Value),l.foldl (fun t p=>t.setIfInBounds p.1 p.2) (act N σ).tmps=(act N (l.foldl (fun s p=>cj s p.1 p.2) σ)).tmps:=by
 intro l
 induction l with
 | nil=>intro σ; rfl
 | cons p l ih=>
   intro σ
   rw [List.foldl_cons,List.foldl_cons,← ih]
   congr 1
   have :=congrArg Act.tmps (fO N σ (some p.1) p.2)
   exact this
theorem vH {α:Type} {P:Program} {id n:Nat} {g:Operand} {ps:Array Tmp} {O body:Code} {J:List Nat} {σ:Nat→Value} {w:World} {B:Exit→Act→World→Prop} {M:Nat} {lb:Array Value}
 (G:α→Array Value) (xs:List α) (Z:World→Prop) (i:List α→World→Prop) (hg:ev ⟨n,[],J,none⟩ σ g= .func (.func M) #[] lb) (hc:aR P M) (an:∀ x,(G x).size=ps.size)
 (al:rz P M lb G xs Z) (ad:i [] w) (ai:∀ pre W,i pre W→Z W) (U:xy w.heap.size i) (ac:α→Nat→Value)
 (ha:∀ (l:Nat) (x:α) (W:World) (K:(Nat→Value)→World→Prop),K (ac x) W→bR P ⟨n,[],[],some l⟩ O (iq K fun _ _ _=>False) ((ps.toList.zip (G x).toList).foldl (fun s p=>cj s p.1 p.2) σ) W)
 (hb:∀ (l:Nat) (pre:List α) (x:α) (rest:List α) (W:World),xs=pre++x::rest→i pre W→bR P ⟨n,[],[],some l⟩ body (FB fun W'=>fA W W'∧i (pre++ [x]) W') (ac x) W)
 (hd:∀ (D:Nat) (W:World),w.heap.size≤D→i xs W→W.heap[D]? =some (.deferred (some []))→qb ⟨n,[{target:= .collected D,args:= #[]}],J,none⟩ B .normal σ W):
 jm P ⟨n,[],J,none⟩ (.block id (.rangeFunc g ps O body)) B σ w:=by
 refine wpIn_block (wpIn_rangeFunc ?_)
 intro fn _
 obtain ⟨rc,I⟩:∃ rc:LoopState→Option Code→Loop,rc=fun st aq=> {state:=st,pending:=aq,fn,tmps:=(act ⟨n,[],J,none⟩ σ).tmps,params:=ps,assign:=O,body,defers:=w.heap.size} :=⟨_,rfl⟩
 obtain ⟨W1,V⟩:∃ W1,(w.alloc (.deferred (some []))).alloc (.loop (rc .ready none))=W1:=⟨_,rfl⟩
 have ah:W1.heap[w.heap.size+1]? =some (.loop (rc .ready none)):=by
  rw [← V]; have :=World.alloc_heap_new (w.alloc (.deferred (some []))) (.loop (rc .ready none)); rwa [World.size_alloc] at this
 have ag:W1.heap[w.heap.size]? =some (.deferred (some [])):=by
  rw [← V]; exact (Below.heap_alloc _ _ _ (by simp)).trans (World.alloc_heap_new w _)
 have hn:∀ (W:World) (o:Obj),Wk W (W.alloc o):=fun W o=>(vd W o).md
 have ae:i [] W1:=by rw [← V]; exact U _ _ _ _ (U _ _ _ _ ad (hn _ _) (fun _ h=>h.elim)) (hn _ _) (fun _ h=>h.elim)
 have aj:(act ⟨n,[],J,none⟩ σ).eval g= .func (.func M) #[] lb:=by rw [eC]; exact hg
 refine ⟨w.heap.size+1,[{target:= .collected w.heap.size,args:= #[]}],W1,{target:= .fn (.func M) lb,args:= #[.func (.yield (w.heap.size+1)) #[] #[]]},W1,M,
  #[.func (.yield (w.heap.size+1)) #[] #[]]++lb,W1,?_,?_,fun _ _=>trivial,?_,fun h0=>(by cases h0),?_⟩
 · rw [← V,I]; exact run_enterLoop_outer _ _ _ _ _
 · simp only [resolve,aj]
   simp [go_sem]
 · have :=hc (#[.func (.yield (w.heap.size+1)) #[] #[]]++lb) W1
   simp [invoke,go_sem,this]
 · have hput:∀ (pre:List α) (W:World) (o Y:Obj),i pre W→W.heap[w.heap.size+1]? =some o→(∀ cur e z,o≠.cells cur e z)→i pre (W.putObj (w.heap.size+1) Y):=fun pre W o Y h1 h2 h3=>
    U _ _ _ _ h1 (lI W _ Y) fun k hk=>⟨by omega,fun cur e z h4=>by subst hk; rw [h2] at h4; exact h3 _ _ _ (Option.some.inj h4)⟩
   refine callsIn_wide.2 (Calls.mono (al (w.heap.size+1)
    (fun pre W=>i pre W∧W.heap[w.heap.size+1]? =some (.loop (rc .ready none))∧W.heap[w.heap.size]? =some (.deferred (some [])))
    W1 ⟨ae,ah,ag⟩ (fun pre W h=>ai pre W h.1)
    (fun pre A C h hm=>⟨U _ _ _ _ h.1 hm (fun _ h=>h.elim),(hm.fc _ (Array.getElem?_eq_some_iff.1 h.2.1).1 (fun h=>h)).trans h.2.1,(hm.fc _ (Array.getElem?_eq_some_iff.1 h.2.2).1 (fun h=>h)).trans h.2.2⟩) ?_) ?_)
   · rintro pre x rest W ap ⟨hi,hl,hk⟩
     have hlt:w.heap.size+1 < W.heap.size:=(Array.getElem?_eq_some_iff.1 hl).1
     have hy:=run_yield (P:=P) (args:=G x) hl (by rw [I]; exact an x)
     rw [I] at hy
     refine ⟨fn,_,O,body,hy,roundIn_of_wpIn (F:=Fence.wide) trivial ?_⟩
     have ao:((ps.zip (G x)).foldl (fun tmps (p:Tmp×Value)=>tmps.setIfInBounds p.1 p.2) (act ⟨n,[],J,none⟩ σ).tmps)=(act ⟨n,[],[],some (w.heap.size+1)⟩ ((ps.toList.zip (G x).toList).foldl (fun s p=>cj s p.1 p.2) σ)).tmps:=by
      rw [← Array.foldl_toList,Array.toList_zip]
      exact xA ⟨n,[],[],some (w.heap.size+1)⟩ _ σ
     have h1:=ha (w.heap.size+1) x W (fun E W'=> ∃ ab,(Instr.beginRound (w.heap.size+1)).run P W'= .ok () ab∧
      body.wpIn (Fence.wide.inRound (w.heap.size+1)) 0 P (roundPost P (w.heap.size+1) fun e W'=>e= .returned (.bool true)∧i (pre++ [x]) W'∧W'.heap[w.heap.size+1]? =some (.loop (rc .ready none))∧W'.heap[w.heap.size]? =some (.deferred (some []))) (act ⟨n,[],[],some (w.heap.size+1)⟩ E) ab) ?_
     · unfold bR at h1
       have e1:({tmps:=(ps.zip (G x)).foldl (fun tmps (p:Tmp×Value)=>tmps.setIfInBounds p.1 p.2) (act ⟨n,[],J,none⟩ σ).tmps,defers:= []} :Act)=act ⟨n,[],[],some (w.heap.size+1)⟩ ((ps.toList.zip (G x).toList).foldl (fun s p=>cj s p.1 p.2) σ):=by rw [ao]; rfl
       rw [e1]
       refine wpIn_mono h1 ?_
       intro e a w' j
       cases e with
       | normal=>obtain ⟨E,rfl,q⟩:=j; exact q
       | panic c=>obtain ⟨E,rfl,q⟩:=j; exact q E fun _ _=>rfl
       | outgrown=>exact j.elim
       | _=>obtain ⟨E,rfl,q⟩:=j; exact q
     refine ⟨_,run_beginRound hl (by rw [I]),?_⟩
     have hl2:(W.putObj (w.heap.size+1) (.loop {rc .ready none with state:= .busy})).heap[w.heap.size+1]? =some (.loop {rc .ready none with state:= .busy}):=World.putObj_heap_same hlt
     have am:(W.putObj (w.heap.size+1) (.loop {rc .ready none with state:= .busy})).heap[w.heap.size]? =some (.deferred (some [])):=(World.putObj_heap_other (by omega)).trans hk
     have h2:=hb (w.heap.size+1) pre x rest _ ap (hput _ _ _ (.loop {rc .ready none with state:= .busy}) hi hl (fun _ _ _ h=>by cases h))
     unfold bR at h2
     refine wpIn_mono h2 ?_
     intro e a au j
     cases e with
     | normal=>
       obtain ⟨E,rfl,aa,ak⟩:=j
       have hl3:=aa _ _ hl2 (fun _ _ _ h=>by cases h)
       have hk3:=aa _ _ am (fun _ _ _ h=>by cases h)
       have hr:=run_endRound (P:=P) none hl3
       rw [I] at hr hl3 ⊢
       exact ⟨_,_,hr,rfl,hput _ _ _ _ ak hl3 (fun _ _ _ h=>by cases h),World.putObj_heap_same (Array.getElem?_eq_some_iff.1 hl3).1,(World.putObj_heap_other (by omega)).trans hk3⟩
     | panic c=>obtain ⟨E,rfl,q⟩:=j; exact (q E fun _ _=>rfl).elim
     | outgrown=>exact j.elim
     | _=>obtain ⟨E,rfl,q⟩:=j; exact q.elim
   · rintro e ar ⟨⟨v,rfl⟩,hi,hl,hk⟩
     have hrun:=run_endLoop (P:=P) hl (by rw [I]; simp)
     rw [I] at hrun
     refine ⟨none,_,hrun,?_⟩
     rw [I] at hl
     exact hd w.heap.size _ (Nat.le_refl _) (hput _ _ _ _ hi hl (fun _ _ _ h=>by cases h)) ((World.putObj_heap_other (by omega)).trans hk)
section
variable {P:Program} {N:Fm} {ops:Array Oper} {Q:Exit→(Nat→Value)→World→Prop} {rest:List Oper} {σ:Nat→Value} {w:World} {d':Option Nat} {d:Nat} {op:Op} {ty:TypeId} {pos :String} {af:Array Edge} {v:Value}
def jn (P:Program) (N:Fm) (ops:Array Oper) (Q:Exit→(Nat→Value)→World→Prop) (l:List Oper) (σ:Nat→Value) (w:World):Prop :=wpListIn (fe N.r) 0 P ops (lift N Q) l (act N σ) w
theorem Fy {id:Nat} {l:List Oper} (h:jn P N l.toArray Q l σ w):bR P N (.region id l.toArray false) Q σ w:=by
 unfold bR; exact wpIn_region_lit h
theorem Ed (h:Q .normal σ w):jn P N ops Q [] σ w:=⟨σ,rfl,h⟩
def qD (o:Op):Bool:=match o with | .defer _=>false | _=>true
theorem Ef {o:Op} (h:qD o=true):∀ c,o≠.defer c:=fun c e=>by subst e; cases h
theorem ey (hn:qD op=true) (h:bG P N ⟨d',op,ty,pos,af,none⟩ σ w (fun σ w=>jn P N ops Q rest σ w)):jn P N ops Q (⟨d',op,ty,pos,af,none⟩::rest) σ w:=by
 unfold jn wpListIn
 rw [if_pos (e6 _ rfl _)]
 refine ⟨fun f _=>nS _ f,?_⟩
 rw [pX,Oper.semAt_eq _ _ _ (Ef hn)]
 unfold bG Oper.wp at h
 generalize (execOp (act N σ).eval ⟨d',op,ty,pos,af,none⟩).run P w=x at h ⊢
 cases x with
 | ok n w'=>
   cases n <;> simp only [Oper.upon,Oper.uponIn] at h ⊢ <;>
    first
     | (obtain ⟨a,ha,hk⟩:=h; rw [ha]; exact hk)
     | (refine ⟨fun h0=>(by rw [mr] at h0; cases h0),CallsIn.mono (tw h) fun e w'' he=> ?_⟩
        cases e with
        | returned v=>obtain ⟨a,ha,hk⟩:=he; simp only; rw [ha]; exact hk
        | panicked c=>exact he.elim
        | outgrown=>obtain ⟨_,_,hf⟩:=he; exact hf.elim)
     | (refine ⟨fun h0=>(by rw [mr] at h0; cases h0),RowsIn.mono (tx h) fun v w'' he=> ?_⟩
        obtain ⟨a,ha,hk⟩:=he; rw [ha]; exact hk)
 | halt x w'=>cases x <;> simp only [Oper.upon] at h
theorem py (hn:qD op=true) (h:(execOp (ev N σ) ⟨some d,op,ty,pos,af,none⟩).run P w= .ok (.value v) w) (k:jn P N ops Q rest (cj σ d v) w):jn P N ops Q (⟨some d,op,ty,pos,af,none⟩::rest) σ w:=
 ey hn (iO h k)
theorem G8 {l:Nat} {fo:Operand} {args:Array Operand} {i:Array TypeId} {L:List Value} {R:World→Prop} (hv:ev N σ fo= .func (.yield l) #[] #[]) (p:args.toList.map (ev N σ)=L)
 (hy:YieldAt Fence.wide 0 P l L.toArray w fun e W'=>e= .returned (.bool true)∧R W') (k:∀ W',R W'→jn P N ops Q rest (cj σ d (.bool true)) W'):
 jn P N ops Q (⟨some d,.call ⟨.value fo,args,i⟩,ty,pos,af,none⟩::rest) σ w:=by
 obtain ⟨fn,tmps,a,b,hrun,j⟩:=hy
 unfold jn wpListIn
 rw [if_pos (e6 _ rfl _)]
 refine ⟨fun f _=>nS _ f,?_⟩
 rw [pX,Oper.semAt_eq _ _ _ (fun c e=>by cases e),eC]
 have hm:args.map (ev N σ)=L.toArray:=by rw [← p,← Array.toList_map]
 have q:(execOp (ev N σ) ⟨some d,.call ⟨.value fo,args,i⟩,ty,pos,af,none⟩).run P w= .ok (.round l fn tmps a b) w:=by
  simp [execOp,resolve,hv,Deferred.ofValue,invoke,hm,hrun]
 rw [q]
 simp only [Oper.uponIn]
 refine ⟨fun h0=>(by rw [mr] at h0; cases h0),?_⟩
 have h1:RoundIn (fe N.r) (0 - 1) P l fn tmps a b w fun e W'=>e= .returned (.bool true)∧R W':=by
  cases hr:N.r with
  | none=>exact j
  | some k=>exact j
 refine RoundIn.mono h1 ?_
 rintro e W' ⟨rfl,hw⟩
 simp only
 rw [fO]
 exact k W' hw
end
end Go.Hb
end
section
namespace Go.Hb
open Go.RowKit
def cW (P:Program) (f:FuncId) (args:Array Value) (w:World) (R:Value→World→Prop) (Pn:List PanicEntry→World→Prop):Prop :=
 Calls P f args w fun e w'=>(∃ v,e= .returned v∧R v w')∨∃ c,e= .panicked c∧Pn c w'
def tB (P:Program) (fn:Func) (N:Fm) (R:Value→World→Prop) (Pn:List PanicEntry→World→Prop):Exit→(Nat→Value)→World→Prop
 | .normal,σ,w=> ∃ v,(results fn (act N σ).tmps).run P w= .ok v w∧R v w
 | .ret,σ,w=> ∃ v,(results fn (act N σ).tmps).run P w= .ok v w∧R v w
 | .panic c,_,w=>Pn c w
 | _,_,_=>False
theorem eW {P:Program} {fn:Func} {N:Fm} {R:Value→World→Prop} {Pn:List PanicEntry→World→Prop} {e:Exit} {σ:Nat→Value} {w:World} (h:fin P fn N R e σ w):tB P fn N R Pn e σ w:=by
 cases e <;> first | exact h | exact h.elim
theorem fk {P:Program} {f:FuncId} {N:Nat} {fn:Func} {c:Code} {args:List Value} {w:World} {R:Value→World→Prop} {Pn:List PanicEntry→World→Prop} (hf:P.funcs[f]? =some fn) (hb:fn.body=some c)
 (p:fn.ntmps=N) (hn:Nat.ble args.length N=true) (h:bR P ⟨N,[],[],none⟩ c (tB P fn ⟨N,[],[],none⟩ R Pn) (gT args) w):cW P f args.toArray w R Pn:=by
 subst p
 refine calls_of_wp hf hb ?_
 rw [ox fn args [] hn]
 unfold bR at h
 refine Code.wp_mono ?_ (wpIn_wide.1 h)
 intro e a w hl
 cases e with
 | normal=>obtain ⟨σ,rfl,v,hr,j⟩:=hl; exact ⟨rfl,v,hr,.inl ⟨v,rfl,j⟩⟩
 | ret=>obtain ⟨σ,rfl,v,hr,j⟩:=hl; exact ⟨rfl,v,hr,.inl ⟨v,rfl,j⟩⟩
 | exit id=>obtain ⟨σ,rfl,i⟩:=hl; exact i.elim
 | goto l=>obtain ⟨σ,rfl,i⟩:=hl; exact i.elim
 | panic c=>obtain ⟨σ,rfl,i⟩:=hl; exact ⟨rfl,.inr ⟨c,rfl,i σ fun _ _=>rfl⟩⟩
 | outgrown=>exact hl.elim
section
variable {P:Program} {N:Fm} {Q:Exit→(Nat→Value)→World→Prop} {σ:Nat→Value} {w:World} {ops:Array Oper} {rest:List Oper} {dst:Option Nat} {ty:TypeId} {pos :String} {af:Array Edge} {g:Option (Nat×Bool)} {x:Operand}
def jq (P:Program) (N:Fm) (o:Oper) (σ:Nat→Value) (w:World) (K:(Nat→Value)→World→Prop) (Pn:List PanicEntry→World→Prop):Prop :=
 Oper.wp P o (act N σ) w (fun a w=> ∃ σ,a=act N σ∧K σ w) (fun e a w=>match e with | .panic c=>a=act N σ∧Pn c w | _=>False)
theorem oR {o:Oper} {K:(Nat→Value)→World→Prop} {Pn:List PanicEntry→World→Prop} {j:Act→World→Prop} (h:jq P N o σ w K Pn) (hk:∀ σ w,K σ w→j (act N σ) w) (hp:∀ c w',Pn c w'→∀ s,(∀ i∈N.F,s i=σ i)→Q (.panic c) s w'):o.wp P (act N σ) w j (lift N Q):=by
 unfold jq at h
 unfold Oper.wp at*
 generalize (execOp (act N σ).eval o).run P w=r at h ⊢
 have p:∀ a w,(∃ σ,a=act N σ∧K σ w)→j a w:=by rintro a w ⟨σ,rfl,h⟩; exact hk _ _ h
 have q:∀ c (a:Act) w',(a=act N σ∧Pn c w')→lift N Q (.panic c) a w':=by rintro c a w' ⟨rfl,h⟩; exact ⟨σ,rfl,hp c w' h⟩
 cases r with
 | ok n w'=>
   cases n <;> simp only [Oper.upon] at h ⊢ <;>
    first
     | exact p _ _ h
     | exact Calls.mono h (fun e w'' he=>by
      cases e with
      | returned v=>exact p _ _ he
      | panicked c=>exact q _ _ _ ⟨rfl,he.2⟩
      | outgrown=>obtain ⟨_,_,hf⟩:=he; exact hf.elim)
     | exact Rows.mono h (fun _ _ he=>p _ _ he)
 | halt x w'=>cases x <;> simp only [Oper.upon] at h ⊢ <;> exact q _ _ _ ⟨rfl,h.2⟩
theorem bE {f:FuncId} {args:Array Operand} {a:Array TypeId} {L:List Value} {R:Value→World→Prop} {Pn:List PanicEntry→World→Prop} {K:(Nat→Value)→World→Prop} (hc:aR P f) (hr:cW P f L.toArray w R Pn) (i:args.toList.map (ev N σ)=L)
 (k:∀ v w',R v w'→K (eb σ dst v) w'):jq P N ⟨dst,.call ⟨.value (.func f),args,a⟩,ty,pos,af,g⟩ σ w K Pn:=by
 unfold jq Oper.wp
 have hm:args.map (ev N σ)=L.toArray:=by rw [← i,← Array.toList_map]
 have q:(execOp (ev N σ) ⟨dst,.call ⟨.value (.func f),args,a⟩,ty,pos,af,g⟩).run P w= .ok (.enter f L.toArray) w:=by
  have h2:=hc L.toArray w
  simp [execOp,resolve,ev,Deferred.ofValue,invoke,hm,h2]
 rw [eC,q]
 simp only [Oper.upon]
 refine Calls.mono hr ?_
 rintro e w' (⟨v,rfl,p⟩ | ⟨c,rfl,j⟩)
 · exact ⟨_,fO ..,k v w' p⟩
 · exact ⟨trivial,j⟩
theorem xe {f:FuncId} {fo:Operand} {first cap:Array Value} {args:Array Operand} {a:Array TypeId} {L:List Value} {R:Value→World→Prop} {Pn:List PanicEntry→World→Prop} {K:(Nat→Value)→World→Prop} (hc:aR P f) (hv:ev N σ fo= .func (.func f) first cap) (hr:cW P f L.toArray w R Pn) (i:first.toList++args.toList.map (ev N σ)++cap.toList=L)
 (k:∀ v w',R v w'→K (eb σ dst v) w'):jq P N ⟨dst,.call ⟨.value fo,args,a⟩,ty,pos,af,g⟩ σ w K Pn:=by
 unfold jq Oper.wp
 have hm:first++args.map (ev N σ)++cap=L.toArray:=by rw [← i]; simp
 have q:(execOp (ev N σ) ⟨dst,.call ⟨.value fo,args,a⟩,ty,pos,af,g⟩).run P w= .ok (.enter f L.toArray) w:=by
  have h2:=hc L.toArray w
  simp only [execOp,resolve,hv,Deferred.ofValue,invoke]
  simp [hm,h2]
 rw [eC,q]
 simp only [Oper.upon]
 refine Calls.mono hr ?_
 rintro e w' (⟨v,rfl,p⟩ | ⟨c,rfl,j⟩)
 · exact ⟨_,fO ..,k v w' p⟩
 · exact ⟨trivial,j⟩
theorem eP {o:Oper} {Pn:List PanicEntry→World→Prop} (hg:o.guard=none) (h:jq P N o σ w (fun σ w=>cK P N ops Q rest σ w) Pn) (hp:∀ c w',Pn c w'→∀ a,(∀ i∈N.F,a i=σ i)→Q (.panic c) a w'):cK P N ops Q (o::rest) σ w:=by
 unfold cK wpList
 rw [if_pos (e6 o hg _)]
 refine .inl (oR h (fun σ w hk=> ?_) hp)
 unfold cK at hk; exact hk
theorem EV {t:TypeId} {v:Value} (c:ev N σ x= .iface t v) (hp:∀ a,(∀ i∈N.F,a i=σ i)→Q (.panic [{v:= .iface t v,recovered:=false}]) a w):cK P N ops Q (⟨dst,.panic x,ty,pos,af,none⟩::rest) σ w:=by
 unfold cK wpList
 rw [if_pos (e6 _ rfl _)]
 refine .inl ?_
 unfold Oper.wp
 have hr:(execOp (ev N σ) ⟨dst,.panic x,ty,pos,af,none⟩).run P w= .halt (.panic (.iface t v)) w:=by
  simp [execOp,c,Instr.panic]
 rw [eC,hr]
 exact ⟨σ,rfl,hp⟩
theorem D4 {t:TypeId} {d:TypeDesc} {v:Value} (hu:P.underlying t=some d) (hd:(match d with | .interface _=>false | _=>true)=true) (a:ev N σ x=v):(execOp (ev N σ) ⟨dst,.makeInterface t x,ty,pos,af,g⟩).run P w= .ok (.value (.iface t v)) w:=by
 cases d <;> first | (cases hd; done) | simp [execOp,Instr.makeInterface,a,bZ hu]
def kS (P:Program) (t:TypeId):Bool:=match P.underlying t with | some (.interface _)=>false | some _=>true | none=>false
theorem D5 {t:TypeId} {v:Value} (h:kS P t=true) (a:ev N σ x=v):(execOp (ev N σ) ⟨dst,.makeInterface t x,ty,pos,af,g⟩).run P w= .ok (.value (.iface t v)) w:=by
 unfold kS at h
 cases hd:P.underlying t with
 | none=>rw [hd] at h; cases h
 | some d=>rw [hd] at h; exact D4 hd (by cases d <;> first | rfl | cases h) a
theorem Gq {xt a:TypeId} {zv:Value} (hu:kS P a=true) (hz:zeroV P a=some zv) (c:ev N σ x= .nilIface):(execOp (ev N σ) ⟨dst,.typeAssert x xt a true,ty,pos,af,g⟩).run P w= .ok (.value (.tuple #[zv,.bool false])) w:=by
 unfold kS at hu
 cases hd:P.underlying a with
 | none=>rw [hd] at hu; cases hu
 | some d=>rw [hd] at hu; cases d <;> first | (cases hu; done) | simp [execOp,Instr.typeAssert,c,bZ hd,oT hz]
theorem Gp {xt a:TypeId} {v:Value} (hu:kS P a=true) (c:ev N σ x= .iface a v):(execOp (ev N σ) ⟨dst,.typeAssert x xt a true,ty,pos,af,g⟩).run P w= .ok (.value (.tuple #[v,.bool true])) w:=by
 unfold kS at hu
 cases hd:P.underlying a with
 | none=>rw [hd] at hu; cases hu
 | some d=>rw [hd] at hu; cases d <;> first | (cases hu; done) | simp [execOp,Instr.typeAssert,c,bZ hd]
variable {S:World→Prop} {fuel:Nat} {aI:Array Bool}
theorem lE {o:Oper} {Pn:List PanicEntry→World→Prop} (i:Nat) (hi:ops[i]? =some o) (hr:ig ops aI i=true) (hg:o.guard=none)
 (h:jq P N o σ w (fun σ w=>S w∧dB P N ops Q S fuel (aI.setIfInBounds i true) σ w) Pn) (hp:∀ c w',Pn c w'→∀ a,(∀ i∈N.F,a i=σ i)→Q (.panic c) a w'):dB P N ops Q S (fuel+1) aI σ w:=by
 unfold dB at*
 refine wpAnyH_all (rs:= [i]) (by simpa [ig] using hr) (by simp) ?_
 intro k hk
 obtain rfl :k=i:=by simpa using hk
 unfold wpOp
 simp only [hi]
 rw [if_pos (e6 _ hg _)]
 exact .inl (oR h (fun σ w hk=>hk) hp)
end
section
variable {P:Program} {N:Fm} {Q:Exit→(Nat→Value)→World→Prop} {σ:Nat→Value} {w:World} {ops:Array Oper} {S:World→Prop} {fuel:Nat} {aI:Array Bool}
theorem CI {o a:Oper} {Pn:List PanicEntry→World→Prop} (i j:Nat) (hi:ops[i]? =some o) (q:ops[j]? =some a) (hr:((Region.ready .any ops aI)== [i,j])=true) (hg:o.guard=none) (hg1:a.guard=none)
 (h:jq P N o σ w (fun σ w=>S w∧dB P N ops Q S fuel (aI.setIfInBounds i true) σ w) Pn) (hp:∀ c w',Pn c w'→∀ p,(∀ i∈N.F,p i=σ i)→Q (.panic c) p w')
 (h1:bG P N a σ w (fun σ w=>S w∧dB P N ops Q S fuel (aI.setIfInBounds j true) σ w)):dB P N ops Q S (fuel+1) aI σ w:=by
 unfold dB at*
 refine wpAnyH_all (rs:= [i,j]) (by simpa using hr) (by simp) ?_
 intro k hk
 simp only [List.mem_cons,List.not_mem_nil,or_false] at hk
 rcases hk with rfl | rfl
 · unfold wpOp
   simp only [hi]
   rw [if_pos (e6 _ hg _)]
   exact .inl (oR h (fun _ _ hk=>hk) hp)
 · unfold wpOp
   simp only [q]
   rw [if_pos (e6 _ hg1 _)]
   exact .inl (kp h1 (fun _ _ hk=>hk))
end
section
variable {P:Program} {N:Fm} {Q:Exit→(Nat→Value)→World→Prop} {σ:Nat→Value} {w:World} {ops:Array Oper} {S:World→Prop} {fuel r:Nat} {aI:Array Bool}
theorem uH {o:Oper} {Pn:List PanicEntry→World→Prop} (i:Nat) (hi:ops[i]? =some o) (hr:ig ops aI i=true) (hg:o.guard=none)
 (h:jq P N o σ w (fun σ w=>S w∧ec P N ops Q S r fuel (aI.setIfInBounds i true) σ w) Pn) (hp:∀ c w',Pn c w'→∀ j,(∀ i∈N.F,j i=σ i)→Q (.panic c) j w'):ec P N ops Q S r (fuel+1) aI σ w:=by
 unfold ec at*
 have a:Region.ready .any ops aI= [i]:=by simpa [ig] using hr
 refine ⟨fun h0=>absurd (a ▸ h0) (by simp),fun k hk=> ?_⟩
 rw [a] at hk
 obtain rfl :k=i:=by simpa using hk
 unfold wpOp
 simp only [hi]
 rw [if_pos (e6 _ hg _)]
 exact .inl (oR h (fun σ w hk=>⟨fun _=>hk.1,hk.2⟩) hp)
end
abbrev jY (P:Program) (fn:Func) (R:Value→World→Prop):Exit→Act→World→Prop :=bodyPostD P fn (fun e w'=> ∃ v,e= .returned v∧R v w')
theorem Bf {P:Program} {f:FuncId} {N:Nat} {fn:Func} {c:Code} {args:List Value} {w:World} {R:Value→World→Prop} (F:List Nat) (hf:P.funcs[f]? =some fn) (hb:fn.body=some c)
 (a:fn.ntmps=N) (hn:Nat.ble args.length N=true) (h:jm P ⟨N,[],F,none⟩ c (jY P fn R) (gT args) w):aT P f args.toArray w R:=by
 subst a
 refine calls_of_wp_defers hf hb ?_
 rw [ox fn args F hn]
 exact wpIn_wide.1 h
section
variable {P:Program} {n:Nat} {D:List Deferred} {F:List Nat} {σ:Nat→Value} {w:World} {fn:Func} {R:Value→World→Prop} {B:Exit→Act→World→Prop}
theorem BD {v:Value} (hr:(results fn (act ⟨n,[],F,none⟩ σ).tmps).run P w= .ok v w) (a:R v w):qb ⟨n,[],F,none⟩ (jY P fn R) .ret σ w:=⟨v,hr,v,rfl,a⟩
theorem Dy:¬LetsOut (jY P fn R):=fun ⟨_,_,h⟩=>by obtain ⟨v,h,_⟩:=h; cases h
theorem AR {id d:Nat} {f:FuncId} (A:¬LetsOut B) {cs:Array Operand} {q s:TypeId} {j p:String} {c i:Array Edge} {y:Code} (caps:Array Value) (E:cs.toList.map (ev ⟨n,[],F,none⟩ σ)=caps.toList) (hd:d < n)
 (h:jm P ⟨n,[{target:= .fn (.func f) caps,args:= #[]}],F,none⟩ y B (cj σ d (.func (.func f) #[] caps)) w):
 jm P ⟨n,[],F,none⟩ (.region id #[⟨some d,.makeFunc (.func f) #[] cs,q,j,c,none⟩,⟨none,.defer ⟨.value (.tmp d),#[],#[]⟩,s,p,i,none⟩] false) (Exit.then (y.wpIn (fe none) 0 P B) B) σ w:=by
 have G:cs.map (ev ⟨n,[],F,none⟩ σ)=caps:=Array.toList_inj.1 (by rw [Array.toList_map]; exact E)
 refine wpIn_region ?_
 have C:¬LetsOut (Exit.then (y.wpIn (fe none) 0 P B) B):=fun ⟨a,w,h⟩=>A ⟨a,w,h⟩
 refine qm (r:=none) C rfl _ _ _ ?_
 show wpOps P _ _ [0,1] _ _
 simp only [wpOps,List.getElem?_toArray,List.getElem?_cons_zero,List.getElem?_cons_succ]
 rw [if_pos (e6 _ rfl _)]
 refine .inl ?_
 unfold Oper.wp
 have h1:(execOp (act ⟨n,[],F,none⟩ σ).eval ⟨some d,.makeFunc (.func f) #[] cs,q,j,c,none⟩).run P w= .ok (.value (.func (.func f) #[] caps)) w:=by
  rw [eC,mf,G]; simp
 rw [h1]
 simp only [Oper.upon]
 rw [if_pos (e6 _ rfl _),fO]
 refine .inl ?_
 have h2:(execOp (act ⟨n,[],F,none⟩ (eb σ (some d) (.func (.func f) #[] caps))).eval ⟨none,.defer ⟨.value (.tmp d),#[],#[]⟩,s,p,i,none⟩).run P w= .ok (.defer {target:= .fn (.func f) caps,args:= #[]}) w:=by
  have I:ev ⟨n,[],F,none⟩ (cj σ d (.func (.func f) #[] caps)) (.tmp d)= .func (.func f) #[] caps:=by
   show cond (Nat.blt d n) (cj σ d _ d) undef=_
   rw [show Nat.blt d n=true from by simpa using hd]
   show cj σ d _ d=_
   unfold cj; simp
  rw [eC]
  show (execOp (ev ⟨n,[],F,none⟩ (cj σ d (.func (.func f) #[] caps))) _).run P w=_
  simp [execOp,resolve,I,Deferred.ofValue]
 rw [h2]
 exact h
end
theorem Ev {P:Program} {ops:Array Oper} {Q:Exit→Act→List Frame→World→Prop} {cs:List Frame} (c:¬LetsOut fun e a w=>Q e a cs w):∀ (l:List Nat) (a:Act) (w:World),wpOps P ops (fun e a w=>Q e a cs w) l a w→wpOpsS P ops Q l a cs w:=by
 intro l
 induction l with
 | nil=>exact fun _ _ h=>h
 | cons i l ih=>
   intro a w h
   simp only [wpOps] at h
   simp only [wpOpsS]
   cases ho:ops[i]? with
   | none=>simp only [ho] at h ⊢; exact ih a w h
   | some o=>
     simp only [ho] at h ⊢
     by_cases hw:Region.wanted o (yielded ops a.tmps)=true
     · rw [if_pos hw] at h ⊢
       rcases h with h | h
       · unfold Oper.wp at h
         generalize (execOp a.eval o).run P w=x at h
         cases x with
         | ok n w'=>
           cases n <;> simp only [Oper.upon] at h ⊢ <;>
            first
             | exact ih _ _ h
             | exact Calls.mono h (fun e w'' he=>by cases e <;> first | exact ih _ _ he | exact he)
             | exact Rows.mono h (fun v w'' he=>ih _ _ he)
         | halt x w'=>cases x <;> simp only [Oper.upon] at h ⊢ <;> exact h
       · exact absurd h.2 c
     · rw [if_neg hw] at h ⊢
       exact ih _ _ h
theorem DD {P:Program} {ops:Array Oper} {Q j:Exit→Act→World→Prop} (i:∀ e a w,Q e a w→j e a w) (p:¬LetsOut Q):∀ (l:List Oper) (a:Act) (w:World),wpList P ops Q l a w→wpList P ops j l a w:=by
 intro l
 induction l with
 | nil=>exact fun _ _ h=>i _ _ _ h
 | cons o l ih=>
   intro a w h
   unfold wpList at h ⊢
   split at h
   · rename_i hw
     rw [if_pos hw]
     rcases h with h | h
     · left
       unfold Oper.wp at h ⊢
       generalize (execOp a.eval o).run P w=x at h
       cases x with
       | ok n w'=>
         cases n <;> simp only [Oper.upon] at h ⊢ <;>
          first
           | exact ih _ _ h
           | exact Calls.mono h (fun e w'' he=>by
            cases e with
            | returned v=>exact ih _ _ he
            | panicked c=>exact i _ _ _ he
            | outgrown=>exact absurd he p)
           | exact Rows.mono h (fun v w'' he=>ih _ _ he)
       | halt x w'=>cases x <;> simp only [Oper.upon] at h ⊢ <;> exact i _ _ _ h
     · exact absurd h.2 p
   · rename_i hw
     rw [if_neg hw]; exact ih _ _ h
theorem sL {P:Program} {f:FuncId} {fn:Func} {id N d:Nat} {ty:TypeId} {pos :String} {af:Array Edge} {rest:List Oper} {y:Code} {args:List Value} {w:World} {u q:FrameMode} {v:Value} {R:World→Prop}
 (hf:P.funcs[f]? =some fn) (hb:fn.body=some (.seq (.region id (⟨some d,.call ⟨.builtin .recover,#[],#[]⟩,ty,pos,af,none⟩::rest).toArray false) y)) (I:fn.ntmps=N) (hn:Nat.ble args.length N=true)
 (M:∀ (c₀:Frame) (cs:List Frame),c₀.mode=u→(recoverD (c₀::cs)=some (v,{c₀ with mode:=q} ::cs))∨(recoverD (c₀::cs)=none∧v= .nilIface∧q=u))
 (h:cK P ⟨N,[],[],none⟩ (⟨some d,.call ⟨.builtin .recover,#[],#[]⟩,ty,pos,af,none⟩::rest).toArray (iq (fun σ w=>bR P ⟨N,[],[],none⟩ y (fin P fn ⟨N,[],[],none⟩ fun _ w=>R w) σ w) (fin P fn ⟨N,[],[],none⟩ fun _ w=>R w)) rest (cj (gT args) d v) w):
 CallsD P f args.toArray u w fun e u1 w'=> ∃ v,e= .returned v∧u1=q∧R w':=by
 subst I
 refine callsD_of_wpS hf hb ?_
 intro c₀ cs hu
 rw [ox fn args [] hn]
 refine wpS_seq (wpS_region ?_)
 have hsz:List.range (⟨some d,.call ⟨.builtin .recover,#[],#[]⟩,ty,pos,af,none⟩::rest).toArray.size=0::(List.range' 1 rest.length):=by
  rw [List.size_toArray,List.length_cons,List.range_eq_range',List.range'_succ]
 rw [hsz]
 simp only [wpOpsS,List.getElem?_toArray,List.getElem?_cons_zero]
 rw [if_pos (e6 _ rfl _)]
 have O:(execOp (act ⟨fn.ntmps,[],[],none⟩ (gT args)).eval ⟨some d,.call ⟨.builtin .recover,#[],#[]⟩,ty,pos,af,none⟩).run P w= .ok .recover w:=by
  rw [eC]
  simp [execOp,resolve,invoke,builtin]
 rw [O]
 simp only
 obtain ⟨s,A⟩:∃ s,s=({c₀ with mode:=q} ::cs:List Frame):=⟨_,rfl⟩
 have J:∀ X:Act→List Frame→Prop,X ((act ⟨fn.ntmps,[],[],none⟩ (gT args)).put (some d) v) s→
  (match recoverD (c₀::cs) with
   | some (v,C)=>X ((act ⟨fn.ntmps,[],[],none⟩ (gT args)).put (some d) v) C
   | none=>X ((act ⟨fn.ntmps,[],[],none⟩ (gT args)).put (some d) .nilIface) (c₀::cs)):=by
  intro X hX
  rcases M c₀ cs hu with h1 | ⟨h1,h2,h3⟩
  rw [h1]; subst A; exact hX
  rw [h1]; subst h2 h3
  have :({c₀ with mode:=q} :Frame)=c₀:=by subst hu; rfl
  rw [this] at A; subst A; exact hX
 refine J (fun a C=>wpOpsS P _ _ _ a C w) ?_
 rw [fO]
 refine Ev ?_ _ _ _ ?_
 rintro ⟨a,w,h⟩
 simp only [Exit.thenS,bodyPostS] at h
 obtain ⟨_,_,h,_⟩:=h; cases h
 have h1:=wpOps_eq_wpList (P:=P) (ops:=(⟨some d,.call ⟨.builtin .recover,#[],#[]⟩,ty,pos,af,none⟩::rest).toArray) (Q:=fun e a w'=>Exit.thenS (Code.wpS P y (bodyPostS P fn c₀ cs fun e u1 w'=> ∃ v,e= .returned v∧u1=q∧R w')) (bodyPostS P fn c₀ cs fun e u1 w'=> ∃ v,e= .returned v∧u1=q∧R w') e a s w') rest 1 (fun j=>by simp [Nat.add_comm])
 rw [h1]
 unfold cK at h
 refine DD ?_ qw _ _ _ h
 intro e a w' hl
 have G:∀ (e:Exit) (σ:Nat→Value) (w':World),fin P fn ⟨fn.ntmps,[],[],none⟩ (fun _ w=>R w) e σ w'→bodyPostS P fn c₀ cs (fun e u1 w'=> ∃ v,e= .returned v∧u1=q∧R w') e (act ⟨fn.ntmps,[],[],none⟩ σ) s w':=by
  intro e σ w' p
  cases e with
  | normal=>obtain ⟨v,hr,E⟩:=p; exact ⟨rfl,q,A,v,hr,v,rfl,rfl,E⟩
  | ret=>obtain ⟨v,hr,E⟩:=p; exact ⟨rfl,q,A,v,hr,v,rfl,rfl,E⟩
  | _=>exact p.elim
 cases e with
 | normal=>
   obtain ⟨σ,rfl,p⟩:=hl
   refine wpS_of_wp ?_
   simp only [iq] at p
   unfold bR at p
   refine Code.wp_mono ?_ (wpIn_wide.1 p)
   intro e a w' hl
   cases e with
   | panic c=>obtain ⟨σ,rfl,p⟩:=hl; exact (p σ fun _ _=>rfl).elim
   | outgrown=>exact hl.elim
   | _=>obtain ⟨σ,rfl,p⟩:=hl; exact G _ σ w' p
 | panic c=>obtain ⟨σ,rfl,p⟩:=hl; exact (p σ fun _ _=>rfl).elim
 | outgrown=>exact hl.elim
 | ret=>obtain ⟨σ,rfl,p⟩:=hl; exact G .ret σ w' p
 | exit i=>obtain ⟨σ,rfl,p⟩:=hl; exact p.elim
 | goto i=>obtain ⟨σ,rfl,p⟩:=hl; exact p.elim
section
variable {P:Program} {n:Nat} {F:List Nat} {σ:Nat→Value} {w:World} {fn:Func} {R:Value→World→Prop}
theorem BE {g:FuncId} {caps:Array Value} {M:World→Prop} (hu:(invoke (.fn (.func g) caps) #[]).run P w= .ok (.enter g caps) w)
 (hc:CallsD P g caps .returning w fun e u1 w'=> ∃ v,e= .returned v∧u1= .returning∧M w') (a:∀ w',M w'→∃ v,(results fn (act ⟨n,[{target:= .fn (.func g) caps,args:= #[]}],F,none⟩ σ).tmps).run P w'= .ok v w'∧R v w'):
 qb ⟨n,[{target:= .fn (.func g) caps,args:= #[]}],F,none⟩ (jY P fn R) .ret σ w:=by
 refine leaves_cons (by simp) hu ?_
 refine CallsD.mono hc ?_
 rintro e c w' ⟨v,rfl,rfl,hm⟩
 obtain ⟨v2,h1,h2⟩:=a w' hm
 exact ⟨v2,h1,v2,rfl,h2⟩
theorem BG {g:FuncId} {caps:Array Value} {M:World→Prop} {v:Value} (hu:(invoke (.fn (.func g) caps) #[]).run P w= .ok (.enter g caps) w)
 (hc:CallsD P g caps (.panicking [{v:=v,recovered:=false}]) w fun e u1 w'=> ∃ x,e= .returned x∧u1= .panicking [{v:=v,recovered:=true}]∧M w') (a:∀ w',M w'→∃ v,(results fn (act ⟨n,[{target:= .fn (.func g) caps,args:= #[]}],F,none⟩ σ).tmps).run P w'= .ok v w'∧R v w'):
 qb ⟨n,[{target:= .fn (.func g) caps,args:= #[]}],F,none⟩ (jY P fn R) (.panic [{v:=v,recovered:=false}]) σ w:=by
 refine leaves_cons (by simp) hu ?_
 refine CallsD.mono hc ?_
 rintro e c w' ⟨x,rfl,rfl,hm⟩
 obtain ⟨v2,h1,h2⟩:=a w' hm
 exact ⟨v2,h1,v2,rfl,h2⟩
end
end Go.Hb
end
section
namespace Go.Hb
open Go.RowKit
def gE (w:World) (B e n:Nat) (v:Value) (xs:List Value):Prop :=
 ∃ a cp,v= .slice a n cp∧n≤cp∧(xs= []∨∃ b o cur z,a=some ⟨b,o,none⟩∧B≤b∧w.heap[b]? =some (.cells cur e z)∧∀ (j:Nat) u,xs[j]? =some u→cur[o+j]? =some u)
theorem Tg.Gu {w:World} {B e n:Nat} {v:Value} {xs:List Value} (h:Tg w B e n v xs):gE w B e n v xs:=by
 obtain ⟨a,cp,rfl,hc,c⟩:=h
 refine ⟨a,cp,rfl,hc,c.imp id ?_⟩
 rintro ⟨b,cur,z,ha,hb,hg,c⟩
 exact ⟨b,0,cur,z,ha,hb,hg,fun j u hu=>by rw [Nat.zero_add]; exact c j u hu⟩
theorem gE.cells {w:World} {B e n cp:Nat} {a:Option Addr} {xs:List Value} (h:gE w B e n (.slice a n cp) xs):n≤cp∧ao w.heap a xs:=by
 obtain ⟨i,p,hv,hc,c⟩:=h
 cases hv
 rcases c with h | ⟨b,o,cur,z,rfl,_,hg,c⟩
 · subst h; exact ⟨hc,ao.nil _ _⟩
 · refine ⟨hc,fun _=>rfl,fun j u hu=> ?_⟩
   show Hb.aA w.heap b (o+j)=_
   rw [aU hg]; exact c j u hu
theorem gE.slice {w:World} {B e n:Nat} {v:Value} {xs:List Value} (h:gE w B e n v xs):∃ a cp,v= .slice a n cp:=let ⟨a,cp,hv,_⟩:=h; ⟨a,cp,hv⟩
theorem gE.md {F:Nat→Prop} {w w':World} {B e n:Nat} {v:Value} {xs:List Value} (h:gE w B e n v xs) (hm:Md F w w') (c:∀ k,F k→∀ cur z,w.heap[k]?≠some (.cells cur e z)):gE w' B e n v xs:=by
 obtain ⟨a,cp,rfl,hc,h | ⟨b,o,cur,z,rfl,hb,hg,i⟩⟩:=h
 · exact ⟨a,cp,rfl,hc,.inl h⟩
 · exact ⟨_,cp,rfl,hc,.inr ⟨b,o,cur,z,rfl,hb,by rw [hm.fc b (Array.getElem?_eq_some_iff.1 hg).1 (fun hk=>c b hk cur z hg)]; exact hg,i⟩⟩
theorem gE.lu {w:World} {B e n m cp:Nat} {a:Option Addr} {xs:List Value} (h:gE w B e (n+1) (.slice a (n+1) cp) xs) (c:xs.length=(n+1)*m):gE w B e n (.slice (dm a cp 1 m) n (cp - 1)) (xs.drop m):=by
 obtain ⟨p,q,hv,hc,hh⟩:=h
 cases hv
 refine ⟨_,_,rfl,by omega,?_⟩
 rcases hh with rfl | ⟨b,o,cur,z,rfl,hb,hg,i⟩
 · exact .inl (by simp)
 · unfold dm
   by_cases h1:cp=1
   · refine .inl (List.eq_nil_of_length_eq_zero ?_)
     obtain rfl :n=0:=by omega
     rw [List.length_drop,c]; omega
   · rw [if_neg h1]
     refine .inr ⟨b,o+1 *m,cur,z,?_,hb,hg,fun j u hu=> ?_⟩
     · rw [Option.map_some,gF]
     · rw [List.getElem?_drop] at hu
       have :=i _ u hu
       rw [show o+1 *m+j=o+(m+j) from by omega]; exact this
def bN (w:World) (B e:Nat) (vs:List Value) (ls:List (List Nat)):Prop :=vs.length=ls.length∧∀ (i:Nat) v l,vs[i]? =some v→ls[i]? =some l→Tg w B e l.length v (l.map aB)
theorem bN.nil (w:World) (B e:Nat):bN w B e [] []:=⟨rfl,fun i v l hv=>by simp at hv⟩
theorem bN.md {F:Nat→Prop} {w w':World} {B e:Nat} {vs:List Value} {ls:List (List Nat)} (h:bN w B e vs ls) (hm:Md F w w') (a:∀ k,F k→∀ cur z,w.heap[k]?≠some (.cells cur e z)):bN w' B e vs ls:=⟨h.1,fun i v l h1 h2=>(h.2 i v l h1 h2).md hm a⟩
theorem bN.wk {w w':World} {B e:Nat} {vs:List Value} {ls:List (List Nat)} (h:bN w B e vs ls) (hm:Wk w w'):bN w' B e vs ls:=h.md hm fun _ hk=>hk.elim
theorem bN.mono {w:World} {B a e:Nat} {vs:List Value} {ls:List (List Nat)} (h:bN w B e vs ls) (c:a≤B):bN w a e vs ls:=⟨h.1,fun i v l h1 h2=>(h.2 i v l h1 h2).mono c⟩
theorem bN.snoc {w:World} {B e:Nat} {vs:List Value} {ls:List (List Nat)} {v:Value} {l:List Nat} (ha:bN w B e vs ls) (a:Tg w B e l.length v (l.map aB)):bN w B e (vs++ [v]) (ls++ [l]):=by
 refine ⟨by rw [List.length_append,List.length_append,ha.1]; rfl,fun i c p h1 h2=> ?_⟩
 have hl:=ha.1
 by_cases hi:i < vs.length
 · rw [List.getElem?_append_left hi] at h1
   rw [List.getElem?_append_left (by omega)] at h2
   exact ha.2 i c p h1 h2
 · rw [List.getElem?_append_right (by omega)] at h1
   rw [List.getElem?_append_right (by omega),← hl] at h2
   cases hj:i - vs.length with
   | zero=>rw [hj] at h1 h2; cases h1; cases h2; exact a
   | succ j=>rw [hj] at h1; simp at h1
def eG (t ln:Nat) (e:Int):List PanicEntry:= [{v:= .iface t (.agg [.int .i64 1,.int .i64 (ln:Nat),.int .i64 e].toArray),recovered:=false}]
theorem cg {h:World} {b:Nat} {isK:Value→Prop} {f:Value→Option Value} (hm:bl h.heap b isK f):tag h b=1:=let ⟨_,h1,_⟩:=hm; Gr h1
def Wr (L:List Nat) (ms mt mc B:Nat) (w:World) (k:Nat):Prop :=B≤k∧(k=ms∨k=mt∨k=mc∨L.contains (tag w k)=true)
abbrev Mw (L:List Nat) (ms mt mc B:Nat) (w w':World):Prop :=Md (Wr L ms mt mc B w) w w'
section
variable {L:List Nat} {ms mt mc B:Nat} {w w' w'':World}
theorem Mw.trans (h:Mw L ms mt mc B w w') (a:Mw L ms mt mc B w' w''):Mw L ms mt mc B w w'':=by
 refine Md.trans' h a fun k hk hw=> ?_
 refine Classical.byContradiction fun hn=> ?_
 have :=Md.tag h hk hn
 unfold Wr at hw
 rw [this] at hw
 exact hn hw
theorem Wk.mw (h:Wk w w'):Mw L ms mt mc B w w':=h.mono fun _ _ hf=>hf.elim
theorem Mw.of {F:Nat→Prop} (h:Md F w w') (c:TF w L F) (a:∀ k,F k→B≤k):Mw L ms mt mc B w w':=h.mono fun k _ hf=>⟨a k hf,.inr (.inr (.inr (c k hf)))⟩
theorem Mw.wk {a:World} (h0:Wk a w) (h:Mw L ms mt mc B w w') (c:a.heap.size≤B):Wk a w':=Md.trans' h0 h fun k hk hw=>by have :=hw.1; omega
theorem Wr.ne (hs:tag w ms=1) (a:tag w mt=1) (hc:tag w mc=1) {e:Nat} (hl:L.contains (e+2)=false):∀ k,Wr L ms mt mc B w k→∀ cur z,w.heap[k]?≠some (.cells cur e z):=by
 rintro k ⟨_,rfl | rfl | rfl | h⟩ cur z hg <;> have h9:=c6 hg
 · omega
 · omega
 · omega
 · rw [h9,hl] at h; cases h
end
end Go.Hb
end
section
namespace Go.Hb
open Go.RowKit
section
variable {P:Program} {N:Fm} {σ:Nat→Value} {w:World} {dst:Option Nat} {ty:TypeId} {pos :String} {af:Array Edge} {g:Option (Nat×Bool)} {x y:Operand}
theorem Bt (d:Nat) {t e:TypeId} {a:Option Addr} {n c:Nat} (hu:P.underlying t=some (.slice e)):(Op.equalIn (d+1) t (.slice a n c) (.slice none 0 0)).run P w= .ok a.isNone w:=by
 cases a <;> simp [Op.equalIn,bZ hu]
theorem Bu {t e:TypeId} {a:Option Addr} {n c:Nat} (hu:P.underlying t=some (.slice e)):(Op.equal t (.slice a n c) (.slice none 0 0)).run P w= .ok a.isNone w:=Bt 9999 hu
theorem lx {t j e:TypeId} {a:Option Addr} {n c:Nat} (hu:P.underlying t=some (.slice e)) (i:ev N σ x= .slice a n c) (hy:ev N σ y= .slice none 0 0):
 (execOp (ev N σ) ⟨dst,.binOp .eql t x y j,ty,pos,af,g⟩).run P w= .ok (.value (.bool a.isNone)) w:=by
 have h:(binOp .eql t (.slice a n c) (.slice none 0 0)).run P w= .ok (.bool a.isNone) w:=by
  simp only [binOp]; simp [Bu hu]
 simp [execOp,i,hy,eqGuard,h]
end
def Rd (h:Array Obj) (v:Value) (n size:Nat) (xs:List Value):Prop := ∃ a c,v= .slice a n c∧ao h a xs∧xs.length=n*size∧(a=none→n=0)
theorem Rd.gj {w:World} {B e size n:Nat} {v:Value} {xs:List Value} (h:w.ownsRow B e size v n xs):Rd w.heap v n size xs:=by
 obtain ⟨a,c,rfl,h1,_,_,h3⟩:=lL h
 refine ⟨a,c,rfl,h1,h.1,fun ha=> ?_⟩
 subst ha
 rcases h.2 with ⟨h4,h5⟩ | ⟨g,cap,cur,h4,_⟩
 · exact h5
 · simp at h4
theorem vt {w:World} {B e size n k cp:Nat} {a:Option Addr} {xs:List Value} (h:w.ownsRow B e size (.slice a n cp) n xs) (hk:k≤n) (ha:a≠none):w.ownsRow B e size (.slice a k cp) k (xs.take (k*size)):=by
 obtain ⟨h0,h⟩:=h
 refine ⟨by rw [List.length_take,h0]; exact Nat.min_eq_left (Nat.mul_le_mul_right _ hk),?_⟩
 rcases h with ⟨h1,_⟩ | ⟨g,cap,cur,h1,h2,h3,h4,h5,c,i⟩
 · simp only [Value.slice.injEq] at h1; exact absurd h1.1 ha
 · simp only [Value.slice.injEq,true_and] at h1
   obtain ⟨rfl,rfl⟩:=h1
   refine .inr ⟨g,_,cur,rfl,h2,h3,by omega,h5,c,?_⟩
   rw [← i,List.take_take,Nat.min_eq_left (Nat.mul_le_mul_right _ hk)]
section
variable {P:Program} {N:Fm} {σ:Nat→Value} {w:World} {dst:Option Nat} {ty:TypeId} {pos :String} {af:Array Edge} {g:Option (Nat×Bool)} {x y z u:Operand} {K:(Nat→Value)→World→Prop}
theorem F2 {t n len cap:Nat} {a:Option Addr} {k p s:IntKind} {i j m:Nat} (he:eF P t=some n) (c:ev N σ x= .slice a len cap) (hy:ev N σ y= .int k (i:Nat)) (hz:ev N σ z= .int p (j:Nat)) (hu:ev N σ u= .int s (m:Nat)) (h:i≤j∧j≤m∧m≤cap):
 (execOp (ev N σ) ⟨dst,.slice t x (some y) (some z) (some u),ty,pos,af,g⟩).run P w= .ok (.value (.slice (dm a m i n) (j - i) (m - i))) w:=by
 have h1:(0:Int)≤(i:Int):=by omega
 have h2:(0:Int)≤(j:Int):=by omega
 have h3:(0:Int)≤(m:Int):=by omega
 unfold eF at he
 cases hd:P.underlying t with
 | none=>rw [hd] at he; cases he
 | some d=>
   rw [hd] at he
   cases d <;> first | (cases he; done) | skip
   rename_i e
   cases hi':P.info? e with
   | none=>simp [hi'] at he
   | some q=>
     simp only [hi',Option.map_some,Option.some.injEq] at he
     subst he
     simp only [execOp,Instr.sliceAt,Instr.slice,c,hy,hz,hu,Option.map_some,Instr.sliceBounds,Instr.sliceBound,asIntOf]
     simp [bZ hd,ez hi',sizeOf,h.1,h.2.1,h.2.2,dm]
theorem xX {t e size bytes B n m cp c gg:Nat} {xs news:List Value} {a:Option Addr} (E:eA P t e size bytes=true) (s:w.ownsRow B e size (.slice (some ⟨gg,0,none⟩) n cp) n xs) (G:ev N σ x= .slice (some ⟨gg,0,none⟩) n cp)
 (hy:ev N σ y= .slice a m c) (hc:ao w.heap a news) (ha:a≠none) (hl:news.length=m*size) (h1:news.all Value.oneCell'=true) (C:n+m≤cp)
 (k:∀ w',Md (fun q=>q=gg) w w'→w'.ownsRow B e size (.slice (some ⟨gg,0,none⟩) (n+m) cp) (n+m) (xs++news)→K (eb σ dst (.slice (some ⟨gg,0,none⟩) (n+m) cp)) w'):
 bG P N ⟨dst,.call ⟨.builtin .append,#[x,y],#[t,t]⟩,ty,pos,af,g⟩ σ w K:=by
 obtain ⟨hu,i,zv,hi,hz,hs,hby,J,I⟩:=kW E
 obtain ⟨ad,rfl⟩:∃ ad,a=some ad:=by cases a with | none=>exact absurd rfl ha | some ad=>exact ⟨ad,rfl⟩
 have hn:∀ j v,news[j]? =some v→w.cell? (ad.add j)=some v:=fun j v p=>by
  have hne:news≠[]:=fun e=>by rw [e] at p; simp at p
  have h2:=hc.ok hne
  simp only [Option.some.injEq] at h2
  rw [h2,gF,iy]; exact hc.aA j v p
 obtain ⟨w',hr,h2,h3⟩:=Go.run_append_fits (P:=P) (w:=w) B t ty e i size hu hi hs gg n cp xs s ad m c news hl hn (me h1) C
 refine iO (w':=w') (v:= .slice (some ⟨gg,0,none⟩) (n+m) cp) ?_ (k w' ⟨h3.os,h3.output,h3.size,fun q A hne=>h3.block q A (fun e=>hne (Option.some.inj e))⟩ h2)
 simp [execOp,resolve,invoke,builtin,G,hy,hr]
end
end Go.Hb
end
section
namespace Go.Hb
def kF (P:Program) (t:TypeId):Option (Nat×Nat):=
 match P.underlying t with
 | some (.array n e)=>(P.info? e).map fun i=>(n,i.size)
 | _=>none
section
variable {P:Program} {N:Fm} {σ:Nat→Value} {w:World} {dst:Option Nat} {ty:TypeId} {pos :String} {af:Array Edge} {g:Option (Nat×Bool)} {x y:Operand}
theorem iH {t n a b off :Nat} {k:IntKind} {i:Int} (he:kF P t=some (n,a)) (c:ev N σ x= .pointer (some ⟨b,off,none⟩)) (hy:ev N σ y= .int k i) (h0:0≤i∧i < n):
 (execOp (ev N σ) ⟨dst,.indexAddr t x y,ty,pos,af,g⟩).run P w= .ok (.value (.pointer (some ⟨b,off+i.toNat*a,none⟩))) w:=by
 unfold kF at he
 cases hd:P.underlying t with
 | none=>rw [hd] at he; cases he
 | some d=>
   rw [hd] at he
   cases d <;> first | (cases he; done) | skip
   rename_i m e
   cases hi:P.info? e with
   | none=>simp [hi] at he
   | some j=>
     simp only [hi,Option.map_some,Option.some.injEq,Prod.mk.injEq] at he
     obtain ⟨rfl,rfl⟩:=he
     simp [execOp,Instr.indexAt,Instr.sureAddr,c,hy,asIntOf,bZ hd,h0.1,h0.2,sizeOf,ez hi,gF]
end
theorem DY {h:Array Obj} {b:Nat} {a:List UInt8} (i:ba h b (marksOf a)) (c:UInt8):Hb.aA h b (0 +((c.toNat:Nat):Int).toNat*1)=some (.bool (decide (c∈a))):=by
 rw [i.aA,show 0 +((c.toNat:Nat):Int).toNat*1=c.toNat from by omega]; exact DV a c
theorem DZ {h:Array Obj} {b:Nat} {a:List UInt8} {c:UInt8} (i:ba h b ((marksOf a).set (0 +((c.toNat:Nat):Int).toNat*1) (.bool true))):ba h b (marksOf (a++ [c])):=by
 rw [show 0 +((c.toNat:Nat):Int).toNat*1=c.toNat from by omega,DX] at i; exact i
end Go.Hb
end
section
namespace Go.Hb
theorem C9 (c:UInt8):∀ l:List UInt8,Lib.indexByte l c=cO c l:=by
 intro l
 induction l with
 | nil=>rfl
 | cons b l ih=>
   unfold Lib.indexByte
   rw [ih]
   rw [show cO c (b::l)=if (b::l).idxOf c < (b::l).length then ((b::l).idxOf c:Int) else -1 from rfl,List.idxOf_cons]
   by_cases h:(b==c)=true
   · rw [if_pos h,h]; rfl
   · have a:(b==c)=false :=by simpa using h
     rw [if_neg h,a]
     simp only [cond_false,List.length_cons]
     by_cases h1:l.idxOf c < l.length
     · have e1:cO c l=l.idxOf c:=if_pos h1
       rw [e1,if_neg (fun hb=>by have :=eq_of_beq hb; omega),if_pos (by omega)]; rfl
     · have e1:cO c l= -1:=if_neg h1
       rw [e1,if_pos (by decide),if_neg (by omega)]
theorem FK {P:Program} {f:FuncId} {fn:Func} (hf:P.funcs[f]? =some fn) (a:(fn.name== "runtime.NumGoroutine")=false) (hb:fn.body.isNone=true) (hn:Extern.findNext fn=none)
 (he:Extern.find fn=some Extern.BytealgIndexByte.indexByte) (l:List UInt8) (c:UInt8) (w:World):(callFunc f #[str l,.int .u8 c.toNat]).run P w= .ok (.value (.int .i64 (cO c l))) w:=by
 rw [run_callFunc_extern hf a hb hn he]
 unfold str
 rw [Lib.run_indexByteString]
 have h1:((c.toNat:Int)).toNat.toUInt8=c:=UInt8.toNat_inj.1 (by simp)
 rw [h1,C9]
 rfl
theorem FJ {P:Program} {f:FuncId} {fn:Func} (hf:P.funcs[f]? =some fn) (a:(fn.name== "runtime.NumGoroutine")=false) (hb:fn.body.isNone=true) (hn:Extern.findNext fn=none)
 (he:Extern.find fn=some Extern.BytealgCount.count) (l:List UInt8) (c:UInt8) (w:World):(callFunc f #[str l,.int .u8 c.toNat]).run P w= .ok (.value (.int .i64 (l.count c:Nat))) w:=by
 rw [run_callFunc_extern hf a hb hn he]
 unfold str
 rw [Lib.run_countString]
 have h1:((c.toNat:Int)).toNat.toUInt8=c:=UInt8.toNat_inj.1 (by simp)
 rw [h1]
 rfl
section
variable {P:Program} {N:Fm} {σ:Nat→Value} {w:World} {dst:Option Nat} {ty:TypeId} {pos :String} {af:Array Edge} {g:Option (Nat×Bool)}
theorem sS {f:FuncId} {a b v:Value} {args:Array Operand} {c:Array TypeId} (h:(callFunc f #[a,b]).run P w= .ok (.value v) w) (i:args.toList.map (ev N σ)= [a,b]):
 (execOp (ev N σ) ⟨dst,.call ⟨.value (.func f),args,c⟩,ty,pos,af,g⟩).run P w= .ok (.value v) w:=by
 have :args.map (ev N σ)= #[a,b]:=by rw [← Array.toList_inj,Array.toList_map,i]
 simp [execOp,resolve,ev,Deferred.ofValue,invoke,this,h]
end
end Go.Hb
end
section
namespace Go.Hb
open Go.RowKit
theorem FQ {L:List Value} {o:Nat} {v:Value} (h:o < L.length):(L.set o v).take (o+1)=L.take o++ [v]:=by
 rw [List.set_eq_take_append_cons_drop,if_pos h,List.take_append,List.length_take,Nat.min_eq_left (by omega),Nat.add_sub_cancel_left,List.take_of_length_le (by rw [List.length_take]; omega)]
 rfl
theorem FP {L:List Value} {o m:Nat} {v:Value} (h:o < m):(L.set o v).drop m=L.drop m:=by
 rw [List.drop_set,if_pos h]
theorem vS (b e:Nat):∀ (vs:List Value) (o:Nat) (L:List Value) (w:World),w.heap[b]? =some (.cells L.toArray e (0,0))→o+vs.length≤L.length→
 (w.setCells b o vs).heap[b]? =some (.cells (L.take o++vs++L.drop (o+vs.length)).toArray e (0,0))∧Md (fun k=>k=b) w (w.setCells b o vs):=by
 intro vs
 induction vs with
 | nil=>intro o L w hb _; exact ⟨by simpa [World.setCells] using hb,Md.refl _ _⟩
 | cons v r ih=>
   intro o L w hb hl
   simp only [List.length_cons] at hl
   have h1:(w.setCell ⟨b,o,none⟩ v).heap[b]? =some (.cells (L.set o v).toArray e (0,0)):=by
    have hlt:=(Array.getElem?_eq_some_iff.1 hb).1
    have hv:w.heap[b]= .cells L.toArray e (0,0):=(Array.getElem?_eq_some_iff.1 hb).2
    simp only [World.setCell]
    rw [Array.getElem?_eq_getElem (by simpa using hlt),Array.getElem_modify]
    simp [hv,List.setIfInBounds_toArray]
   have a:Md (fun k=>k=b) w (w.setCell ⟨b,o,none⟩ v):=⟨rfl,rfl,by simp [World.setCell],fun k _ hk=>Below.heap_setCell w _ v k hk⟩
   obtain ⟨h2,h3⟩:=ih (o+1) (L.set o v) _ h1 (by rw [List.length_set]; omega)
   refine ⟨?_,Md.trans a h3⟩
   show ((w.setCell ⟨b,o,none⟩ v).setCells b (o+1) r).heap[b]? =_
   rw [h2,FQ (by omega),FP (by omega),List.length_cons,show o+1 +r.length=o+(r.length+1) from by omega]
   simp
section
variable {P:Program} {N:Fm} {σ:Nat→Value} {w:World} {ty:TypeId} {pos :String} {af:Array Edge} {g:Option (Nat×Bool)} {x:Operand} {K:(Nat→Value)→World→Prop}
theorem zX {t e B n k cp i m:Nat} {a:Option Addr} {xs:List Value} {z:Value} (J:P.underlying t=some (.slice e)) (hz:zeroV P e=some z) (h1:z.oneCell'=true) (E:w.ownsRow B e 1 (.slice a n cp) n xs)
 (p:ev N σ x= .slice (dm a cp k 1) m i) (hm:m=n - k) (hk:k < n) (O:∀ w',Md (fun q=>(Value.slice a n cp).ownBlock=some q) w w'→w'.ownsRow B e 1 (.slice a n cp) n (xs.take k++List.replicate (n - k) z)→K σ w'):
 bG P N ⟨none,.call ⟨.builtin .clear,#[x],#[t]⟩,ty,pos,af,g⟩ σ w K:=by
 obtain ⟨h0,h⟩:=E
 subst hm
 rcases h with ⟨h,rfl⟩ | ⟨gg,U,cur,h,s,hg,hle,A,hsz,M⟩
 · omega
 · simp only [Value.slice.injEq,true_and] at h
   obtain ⟨rfl,rfl⟩:=h
   have I:dm (some ⟨gg,0,none⟩) cp k 1=some ⟨gg,k,none⟩:=by
    unfold dm; rw [if_neg (by omega)]; simp [gF]
   rw [I] at p
   have c:w.heap[gg]? =some (.cells cur.toList.toArray e (0,0)):=by simpa using hg
   have hcl:cur.toList.length=cp*1:=by rw [Array.length_toList]; exact hsz
   have hrun:=Lib.run_clear_slice (P:=P) w t e ty z J (fun w=>oT hz w) (by cases z <;> first | rfl | (cases h1; done)) h1 gg k (n - k) i (by omega)
    (fun j C=>by rw [iy,aU c]; simp; omega) (fun j C=>by simp only [World.frozen?,show w.heap[gg]? =_ from c]; simp)
   obtain ⟨h2,h3⟩:=vS gg e (List.replicate (n - k) z) k cur.toList w c (by rw [List.length_replicate,hcl]; omega)
   refine iO (w':=w.setCells gg k (List.replicate (n - k) z)) (v:= .tuple #[]) ?_ (O _ (h3.mono fun q _ G=>by subst G; rfl) ⟨?_,.inr ⟨gg,cp,_,rfl,s,h2,hle,A,?_,?_⟩⟩)
   · simp [execOp,resolve,invoke,builtin,p,hrun]
   · rw [List.length_append,List.length_take,List.length_replicate,h0]; omega
   · simp only [List.size_toArray,List.length_append,List.length_take,List.length_drop,List.length_replicate,hcl]; omega
   · rw [List.length_replicate,Nat.mul_one]
     have e1:(cur.toList.take k++List.replicate (n - k) z++cur.toList.drop (k+(n - k))).toArray.toList=(cur.toList.take k++List.replicate (n - k) z)++cur.toList.drop (k+(n - k)):=rfl
     rw [e1,List.take_append,List.length_append,List.length_take,List.length_replicate,hcl,Nat.min_eq_left (by omega),show n - (k+(n - k))=0 by omega,List.take_zero,List.append_nil,List.take_of_length_le (by rw [List.length_append,List.length_take,List.length_replicate,hcl]; omega)]
     rw [← M,List.take_take,Nat.mul_one,Nat.min_eq_left (by omega)]
theorem zY {t e B n cp i m:Nat} {a:Option Addr} {xs:List Value} {z:Value} (J:P.underlying t=some (.slice e)) (hz:zeroV P e=some z) (h1:z.oneCell'=true) (E:w.ownsRow B e 1 (.slice a n cp) n xs) (ha:a≠none)
 (p:ev N σ x= .slice (dm a cp n 1) m i) (hm:0 < m∧n+m≤cp) (O:∀ w',Md (fun q=>(Value.slice a n cp).ownBlock=some q) w w'→w'.ownsRow B e 1 (.slice a n cp) n xs→K σ w'):
 bG P N ⟨none,.call ⟨.builtin .clear,#[x],#[t]⟩,ty,pos,af,g⟩ σ w K:=by
 obtain ⟨h0,h⟩:=E
 rcases h with ⟨h,rfl⟩ | ⟨gg,U,cur,h,s,hg,hle,A,hsz,M⟩
 · simp only [Value.slice.injEq] at h; exact absurd h.1 ha
 · simp only [Value.slice.injEq,true_and] at h
   obtain ⟨rfl,rfl⟩:=h
   have I:dm (some ⟨gg,0,none⟩) cp n 1=some ⟨gg,n,none⟩:=by
    unfold dm; rw [if_neg (by omega)]; simp [gF]
   rw [I] at p
   have c:w.heap[gg]? =some (.cells cur.toList.toArray e (0,0)):=by simpa using hg
   have hcl:cur.toList.length=cp*1:=by rw [Array.length_toList]; exact hsz
   have hrun:=Lib.run_clear_slice (P:=P) w t e ty z J (fun w=>oT hz w) (by cases z <;> first | rfl | (cases h1; done)) h1 gg n m i hm.1
    (fun j C=>by rw [iy,aU c]; simp; omega) (fun j C=>by simp only [World.frozen?,show w.heap[gg]? =_ from c]; simp)
   obtain ⟨h2,h3⟩:=vS gg e (List.replicate m z) n cur.toList w c (by rw [List.length_replicate,hcl]; omega)
   refine iO (w':=w.setCells gg n (List.replicate m z)) (v:= .tuple #[]) ?_ (O _ (h3.mono fun q _ G=>by subst G; rfl) ⟨h0,.inr ⟨gg,cp,_,rfl,s,h2,hle,A,?_,?_⟩⟩)
   · simp [execOp,resolve,invoke,builtin,p,hrun]
   · simp only [List.size_toArray,List.length_append,List.length_take,List.length_drop,List.length_replicate,hcl]; omega
   · rw [List.length_replicate,Nat.mul_one]
     have e1:(cur.toList.take n++List.replicate m z++cur.toList.drop (n+m)).toArray.toList=cur.toList.take n++(List.replicate m z++cur.toList.drop (n+m)):=List.append_assoc _ _ _
     rw [e1,List.take_append,List.length_take,hcl,Nat.min_eq_left (by omega),Nat.sub_self,List.take_zero,List.append_nil,List.take_of_length_le (by rw [List.length_take]; omega),← M,Nat.mul_one]
end
end Go.Hb
end
section
namespace Go.Hb
open Go.RowKit
def o7 (P:Program) (t:TypeId):Option (List Value):=
 match P.info? t,P.underlying t with
 | some it,some (.array _ e)=>
   match it.zero,P.info? e with
   | some z,some ie=>if ie.size=1 then some z.cells.toList else none
   | _,_=>none
 | _,_=>none
def mP:List Value→List (Nat×Value)→Option (List Value)
 | a,[]=>some a
 | a,(i,v)::r=>if (v.oneCell' && Nat.blt i a.length)=true then mP (a.set i v) r else none
theorem E0 {a L:List Value} {ps:List (Nat×Value)} (h:mP a ps=some L):Instr.fill (fun i=>some (i*1,1)) a.toArray ps=some L.toArray:=by
 induction ps generalizing a with
 | nil=>simp only [mP,Option.some.injEq] at h; subst h; rfl
 | cons q r ih=>
   obtain ⟨i,v⟩:=q
   rw [mP] at h
   split at h
   · rename_i hc
     simp only [Bool.and_eq_true] at hc
     have hv:=kf hc.1
     have c:i < a.length:=Nat.le_of_ble_eq_true hc.2
     simp only [Instr.fill,hv,Nat.mul_one]
     rw [if_neg (by simp; omega)]
     have :=ih h
     simp only [Nat.mul_one] at this
     rw [← this]
     simp
   · cases h
section
variable {P:Program} {N:Fm} {σ:Nat→Value} {w:World} {dst:Option Nat} {ty:TypeId} {pos :String} {af:Array Edge} {g:Option (Nat×Bool)}
theorem rX {t:TypeId} {parts:Array (Nat×Operand)} {a L:List Value} {ps:List (Nat×Value)} (h:o7 P t=some a) (hp:parts.toList.map (fun q=>(q.1,ev N σ q.2))=ps) (c:mP a ps=some L):
 (execOp (ev N σ) ⟨dst,.build t parts,ty,pos,af,g⟩).run P w= .ok (.value (.agg L.toArray)) w:=by
 unfold o7 at h
 split at h
 · rename_i it n e hi hu
   split at h
   · rename_i z i hz he
     split at h
     · rename_i hs
       simp only [Option.some.injEq] at h
       subst h
       have hb:P.built t (parts.map (fun q=>(q.1,ev N σ q.2))).toList=some L.toArray:=by
        have :=E0 c
        simp only [Array.toArray_toList] at this
        simp only [Program.built,hi,hu,hz,he,hs,Array.toList_map,hp]; exact this
       simp [execOp,run_build w t _ _ hb]
     · cases h
   · cases h
 · cases h
end
end Go.Hb
end
section
namespace Go.Hb
abbrev bV:Type :=Tx×List Nat
noncomputable def dU (F:aH) (row:List Tx):Except Nat bV:=
 if row.length≠1 then .error 111
 else if (aY (row.getD 0 [])).2.2.2≠0 then .error (aY (row.getD 0 [])).2.2.2
 else if ep (aY (row.getD 0 [])).1=false∨(aY (row.getD 0 [])).1= [] then .error 21
 else if 64 < (aY (row.getD 0 [])).1.length then .error 22
 else if (aY (row.getD 0 [])).2.2.1=false then .ok ((aY (row.getD 0 [])).1,[])
 else match dV F.kind F.aliases (aY (row.getD 0 [])).2.1 with
  | .error e=> .error e
  | .ok set =>if set.all (cX F)=true then .ok ((aY (row.getD 0 [])).1,set) else .error 120
section
variable {F:aH} {row:List Tx}
theorem A8 (h:row.length≠1):dU F row= .error 111:=if_pos h
theorem pT (h:row.length=1) (h1:(aY (row.getD 0 [])).2.2.2≠0):dU F row= .error (aY (row.getD 0 [])).2.2.2:=by
 unfold dU; rw [if_neg (fun h2=>h2 h),if_pos h1]
variable (h:row.length=1) (h1:(aY (row.getD 0 [])).2.2.2=0)
include h h1
theorem ti (h2:ep (aY (row.getD 0 [])).1=false∨(aY (row.getD 0 [])).1= []):dU F row= .error 21:=by
 unfold dU; rw [if_neg (fun h2=>h2 h),if_neg (fun h2=>h2 h1),if_pos h2]
variable (h2:ep (aY (row.getD 0 [])).1=true) (h3:(aY (row.getD 0 [])).1≠[])
include h2 h3
omit h h1 in
theorem mo:¬(ep (aY (row.getD 0 [])).1=false∨(aY (row.getD 0 [])).1= []):=fun h=>h.elim (fun h=>by rw [h2] at h; cases h) h3
theorem A9 (h4:64 < (aY (row.getD 0 [])).1.length):dU F row= .error 22:=by
 unfold dU; rw [if_neg (fun h2=>h2 h),if_neg (fun h2=>h2 h1),if_neg (mo h2 h3),if_pos h4]
variable (h4:¬64 < (aY (row.getD 0 [])).1.length)
include h4
theorem tj (h5:(aY (row.getD 0 [])).2.2.1=false):dU F row= .ok ((aY (row.getD 0 [])).1,[]):=by
 unfold dU; rw [if_neg (fun h2=>h2 h),if_neg (fun h2=>h2 h1),if_neg (mo h2 h3),if_neg h4,if_pos h5]
variable (h5:(aY (row.getD 0 [])).2.2.1=true)
include h5
theorem Ba {e:Nat} (a:dV F.kind F.aliases (aY (row.getD 0 [])).2.1= .error e):dU F row= .error e:=by
 unfold dU; rw [if_neg (fun h2=>h2 h),if_neg (fun h2=>h2 h1),if_neg (mo h2 h3),if_neg h4,if_neg (by rw [h5]; exact Bool.noConfusion),a]
theorem Bb {set :List Nat} {i:Nat} (a:dV F.kind F.aliases (aY (row.getD 0 [])).2.1= .ok set) (hi:i < set.length) (c:cX F (set.getD i 0)=false):dU F row= .error 120:=by
 unfold dU; rw [if_neg (fun h2=>h2 h),if_neg (fun h2=>h2 h1),if_neg (mo h2 h3),if_neg h4,if_neg (by rw [h5]; exact Bool.noConfusion),a]
 exact if_neg (by rw [rN 0 hi c]; exact Bool.noConfusion)
theorem tk {set :List Nat} (a:dV F.kind F.aliases (aY (row.getD 0 [])).2.1= .ok set) (c:∀ i,i < set.length→cX F (set.getD i 0)=true):dU F row= .ok ((aY (row.getD 0 [])).1,set):=by
 unfold dU; rw [if_neg (fun h2=>h2 h),if_neg (fun h2=>h2 h1),if_neg (mo h2 h3),if_neg h4,if_neg (by rw [h5]; exact Bool.noConfusion),a]
 exact if_pos (rO 0 c)
end
noncomputable def cI (F:aH) (eof:Nat):Nat→List Rw→Except (Nat×Nat) (List bV)
 | 0,[]=> .ok []
 | _+1,[]=> .error (eof,116)
 | 0,(ln,_)::_=> .error (ln,116)
 | n+1,(ln,row)::rows=>match dU F row with
   | .error e=> .error (ln,e)
   | .ok x=>match cI F eof n rows with
     | .error e=> .error e
     | .ok r=> .ok (x::r)
noncomputable def dI (F:aH) (t:Tx):Except (Nat×Nat) (List bV):=
 if 65536 < t.length then .error (0,10)
 else match cT t with
  | []=> .error ((aC t).length+1,116)
  | (ln,row)::rows=>if row.length≠1 then .error (ln,111) else match cJ (row.getD 0 []) 8192 with
    | .error e=> .error (ln,e)
    | .ok n=>cI F ((aC t).length+1) n rows
def eL (F:aH) (eof:Nat) (T:Except (Nat×Nat) (List bV)) (xs:List bV) (n:Nat) (rows:List Rw):Prop :=
 T=match cI F eof n rows with
  | .error e=> .error e
  | .ok r=> .ok (xs++r)
section
variable {F:aH} {eof n ln:Nat} {T:Except (Nat×Nat) (List bV)} {xs:List bV} {rows:List Rw} {row:List Tx}
theorem eL.start:eL F eof (cI F eof n rows) [] n rows:=by
 unfold eL; cases cI F eof n rows <;> rfl
theorem eL.done (h:eL F eof T xs 0 []):T= .ok xs:=by
 unfold eL at h; rw [cI] at h; simpa using h
theorem eL.ends (h:eL F eof T xs n []) (hn:0 < n):T= .error (eof,116):=by
 obtain ⟨m,rfl⟩:∃ m,n=m+1:=⟨n - 1,by omega⟩
 unfold eL at h; rw [cI] at h; exact h
theorem eL.more (h:eL F eof T xs 0 ((ln,row)::rows)):T= .error (ln,116):=by
 unfold eL at h; rw [cI] at h; exact h
theorem eL.bad {e:Nat} (h:eL F eof T xs n ((ln,row)::rows)) (hn:0 < n) (he:dU F row= .error e):T= .error (ln,e):=by
 obtain ⟨m,rfl⟩:∃ m,n=m+1:=⟨n - 1,by omega⟩
 unfold eL at h; rw [cI,he] at h; exact h
theorem eL.step {x:bV} (h:eL F eof T xs n ((ln,row)::rows)) (hn:0 < n) (he:dU F row= .ok x):eL F eof T (xs++ [x]) (n - 1) rows:=by
 obtain ⟨m,rfl⟩:∃ m,n=m+1:=⟨n - 1,by omega⟩
 unfold eL at h ⊢; rw [cI,he] at h
 rw [h,Nat.add_sub_cancel]
 simp only
 cases cI F eof m rows <;> simp
end
section
variable {F:aH} {t:Tx}
theorem AY (h:65536 < t.length):dI F t= .error (0,10):=if_pos h
theorem AZ (h:¬65536 < t.length) (h1:cT t= []):dI F t= .error ((aC t).length+1,116):=by
 unfold dI; rw [if_neg h,h1]
variable {ln:Nat} {row:List Tx} {rows:List Rw} (h:¬65536 < t.length) (h1:cT t=(ln,row)::rows)
include h h1
theorem AX (h2:row.length≠1):dI F t= .error (ln,111):=by
 unfold dI; rw [if_neg h,h1]; exact if_pos h2
theorem A0 (h2:row.length=1) {e:Nat} (h3:cJ (row.getD 0 []) 8192= .error e):dI F t= .error (ln,e):=by
 unfold dI; rw [if_neg h,h1]; simp only; rw [if_neg (fun h=>h h2),h3]
theorem s9 (h2:row.length=1) {n:Nat} (h3:cJ (row.getD 0 []) 8192= .ok n):dI F t=cI F ((aC t).length+1) n rows:=by
 unfold dI; rw [if_neg h,h1]; simp only; rw [if_neg (fun h=>h h2),h3]
end
theorem Co {α:Type} {a b:List α} {i:Nat} {d:α} (h:i < a.length):(a++b).getD i d=a.getD i d:=by
 rw [List.getD_eq_getElem?_getD,List.getD_eq_getElem?_getD,List.getElem?_append_left h]
def idxs (s:Tx) (xs:List bV):List Nat:=(List.range xs.length).filter fun i=>decide ((xs.getD i ([],[])).1=s)
theorem ql (s:Tx) (xs:List bV) (x:bV):idxs s (xs++ [x])=idxs s xs++(if x.1=s then [xs.length] else []):=by
 unfold idxs
 rw [List.length_append,List.length_singleton,List.range_succ,List.filter_append]
 congr 1
 · refine List.filter_congr fun i hi=> ?_
   have hi:i < xs.length:=by simpa using hi
   rw [Co hi]
 · by_cases a:x.1=s <;> simp [List.filter,a]
theorem uo (s:Tx) (xs:List bV):(idxs s xs).length≤xs.length:=by
 unfold idxs; have :=List.length_filter_le (fun i=>decide ((xs.getD i ([],[])).1=s)) (List.range xs.length); simpa using this
theorem Bj {F:aH} {eof:Nat} :∀ {n:Nat} {rows:List Rw} {r:List bV},cI F eof n rows= .ok r→r.length=n∧rows.length=n:=by
 intro n
 induction n with
 | zero=>
   intro rows r h
   cases rows with
   | nil=>rw [cI] at h; cases h; exact ⟨rfl,rfl⟩
   | cons q rows=>rw [cI] at h; cases h
 | succ n ih=>
   intro rows r h
   cases rows with
   | nil=>rw [cI] at h; cases h
   | cons q rows=>
     rw [cI] at h
     split at h
     · cases h
     · split at h
       · cases h
       · rename_i h2
         cases h
         have :=ih h2
         simp only [List.length_cons]; omega
end Go.Hb
end
section
namespace Go.Hb
section
variable {P:Program} {N:Fm} {σ:Nat→Value} {w:World} {dst:Option Nat} {ty:TypeId} {pos :String} {af:Array Edge} {g:Option (Nat×Bool)} {x:Operand}
theorem x5 {t n c b:Nat} (he:kF P t=some (n,c)) (a:ev N σ x= .pointer (some ⟨b,0,none⟩)):
 (execOp (ev N σ) ⟨dst,.slice t x none none none,ty,pos,af,g⟩).run P w= .ok (.value (.slice (some ⟨b,0,none⟩) n n)) w:=by
 unfold kF at he
 cases hd:P.underlying t with
 | none=>rw [hd] at he; cases he
 | some d=>
   rw [hd] at he
   cases d <;> first | (cases he; done) | skip
   rename_i m e
   cases hi:P.info? e with
   | none=>simp [hi] at he
   | some j=>
     simp only [hi,Option.map_some,Option.some.injEq,Prod.mk.injEq] at he
     obtain ⟨rfl,rfl⟩:=he
     simp [execOp,Instr.sliceAt,Instr.sureAddr,Instr.sliceBounds,a,bZ hd,sizeOf,ez hi,gF]
def pY (P:Program) (t f:Nat):Option (Nat×Nat):=
 match P.underlying t with
 | some (.struct a)=>(a[f]?).map fun d=>(d.type,d.offset)
 | _=>none
theorem B3 {t f a off n:Nat} {cs vs:List Value} (h:pY P t f=some (a,off)) (ha:bX P a=some (some n)) (c:ev N σ x= .agg cs.toArray) (hv:(cs.drop off).take n=vs):
 (execOp (ev N σ) ⟨dst,.field t x f,ty,pos,af,g⟩).run P w= .ok (.value (.agg vs.toArray)) w:=by
 subst hv
 unfold pY at h
 cases hd:P.underlying t with
 | none=>rw [hd] at h; cases h
 | some d=>
   rw [hd] at h
   cases d <;> first | (cases h; done) | skip
   rename_i j
   simp only [Option.map_eq_some_iff] at h
   obtain ⟨fd,hf,he⟩:=h
   cases he
   unfold bX at ha
   cases hd2:P.underlying fd.type with
   | none=>rw [hd2] at ha; cases ha
   | some d2=>
     rw [hd2] at ha
     cases hi:P.info? fd.type with
     | none=>simp [Program.underlying,hi] at hd2
     | some i=>
       rw [hi] at ha
       have p:cs.toArray.extract fd.offset (fd.offset+n)=((cs.drop fd.offset).take n).toArray:=by simp
       cases d2 <;> first
        | (cases ha; done)
        | (simp only [Option.map_some,Option.some.injEq] at ha; subst ha
           simp [execOp,Instr.field,bZ hd,hf,c,asAgg,part,isAgg,bZ hd2,sizeOf,ez hi])
end
end Go.Hb
end
section
namespace Go.Hb
def bA (ls:List Tx):Tx:=ls.flatMap fun l=>l++ [13,10]
theorem nZ (l:Tx) (ls:List Tx):bA (l::ls)=l++13::10::bA ls:=by simp [bA]
theorem mD (a b:List Tx):bA (a++b)=bA a++bA b:=by simp [bA]
theorem DJ:∀ (l cur r:Tx),10∉l→b8 cur (l++10::r)=ed (cur++l)::b8 [] r:=by
 intro l
 induction l with
 | nil=>intro cur r _; rw [List.nil_append,qz,List.append_nil]
 | cons b l ih=>
   intro cur r h
   simp only [List.mem_cons,not_or] at h
   rw [List.cons_append,n4 (fun e=>h.1 e.symm),ih _ _ h.2,List.append_assoc]; rfl
theorem A5 (l:Tx):ed (l++ [13])=l:=by
 rw [pS (by simp) (by simp [List.getD_eq_getElem?_getD])]; simp
theorem DH:∀ (ls:List Tx) (r:Tx),(∀ l∈ls,10∉l)→b8 [] (bA ls++r)=ls++b8 [] r:=by
 intro ls
 induction ls with
 | nil=>intro r _; rfl
 | cons l ls ih=>
   intro r h
   rw [nZ,show (l++13::10::bA ls)++r=(l++ [13])++10::(bA ls++r) by simp,DJ _ _ _ (by simp only [List.mem_append,List.mem_singleton,not_or]; exact ⟨h l (by simp),by decide⟩),List.nil_append,A5,ih r (fun l hl=>h l (by simp [hl]))]; rfl
theorem tg (l:Tx):∀ x∈ed l,x∈l:=by
 intro x a; unfold ed at a; split at a
 · exact List.mem_of_mem_take a
 · exact a
theorem DL:∀ (l cur x:Tx),10∉cur→x∈b8 cur l→10∉x:=by
 intro l
 induction l with
 | nil=>
   intro cur x hc h
   unfold b8 at h
   split at h
   · cases h
   · simp only [List.mem_singleton] at h; subst h; exact fun h=>hc (tg _ _ h)
 | cons b r ih=>
   intro cur x hc h
   unfold b8 at h
   split at h
   · rcases List.mem_cons.1 h with rfl | h
     · exact fun h=>hc (tg _ _ h)
     · exact ih [] x (by simp) h
   · rename_i hb
     exact ih _ x (by simp only [List.mem_append,List.mem_singleton,not_or]; exact ⟨hc,fun e=>hb e.symm⟩) h
theorem DC {t x:Tx} (h:x∈aC t):10∉x:=DL _ _ _ (by simp) h
theorem DB {ls:List Tx} {r:Tx} (h:∀ l∈ls,10∉l) (hm:fS (bA ls++r)=false):aC (bA ls++r)=ls++b8 [] r:=by
 unfold aC; rw [wV hm,DH ls r h]
theorem uL {ls:List Tx} (h:∀ l∈ls,10∉l) (hm:fS (bA ls)=false):aC (bA ls)=ls:=by
 have :=DB (r:= []) h (by rw [List.append_nil]; exact hm)
 rwa [List.append_nil,n5,List.append_nil] at this
theorem DT (l r i:Tx):fS (l++13::10::r)=fS (l++13::10::i):=by
 unfold fS jP
 match l with
 | []=>simp
 | [a]=>simp
 | [a,b]=>simp
 | a::b::c::l=>simp
theorem uQ (l:Tx) (ls a:List Tx):fS (bA (l::ls))=fS (bA (l::a)):=by
 rw [nZ,nZ]; exact DT _ _ _
theorem qV:∀ (a b:List Tx) (n:Nat),du n (a++b)=du n a++du (n+a.length) b:=by
 intro a
 induction a with
 | nil=>intro b n; simp [du]
 | cons l a ih=>intro b n; rw [List.cons_append,du,ih,du,List.append_assoc,List.length_cons,show n+1 +a.length=n+(a.length+1) by omega]
theorem FC (k:Nat):∀ (ls:List Tx) (n:Nat),du (n+k) ls=(du n ls).map fun q=>(q.1+k,q.2):=by
 intro ls
 induction ls with
 | nil=>intro n; rfl
 | cons l ls ih=>
   intro n
   rw [du,du,List.map_append,show n+k+1=(n+1)+k by omega,ih]
   congr 1
   unfold je; split <;> rfl
noncomputable def kL (F:aH) (eof:Nat) (rows:List Rw):Except (Nat×Nat) (List bV):=
 match rows with
 | []=> .error (eof,116)
 | (ln,row)::rows=>if row.length≠1 then .error (ln,111) else match cJ (row.getD 0 []) 8192 with
   | .error e=> .error (ln,e)
   | .ok n=>cI F eof n rows
theorem pM (F:aH) (t:Tx):dI F t=if 65536 < t.length then .error (0,10) else kL F ((aC t).length+1) (cT t):=by
 unfold dI kL; rfl
theorem Bk {F:aH} {eof L c:Nat} :∀ {n:Nat} {rows:List Rw},cI F eof n rows= .error (L,c)→(L=eof∧c=116)∨∃ q∈rows,q.1=L:=by
 intro n
 induction n with
 | zero=>
   intro rows h
   cases rows with
   | nil=>rw [cI] at h; cases h
   | cons q rows=>rw [cI] at h; cases h; exact .inr ⟨q,by simp,rfl⟩
 | succ n ih=>
   intro rows h
   cases rows with
   | nil=>rw [cI] at h; cases h; exact .inl ⟨rfl,rfl⟩
   | cons q rows=>
     rw [cI] at h
     split at h
     · cases h; exact .inr ⟨q,by simp,rfl⟩
     · split at h
       · rename_i h2
         cases h
         rcases ih h2 with h | ⟨q2,h2,h3⟩
         · exact .inl h
         · exact .inr ⟨q2,by simp [h2],h3⟩
       · cases h
theorem A1 {F:aH} {eof L c:Nat} {rows:List Rw} (h:kL F eof rows= .error (L,c)):(L=eof∧c=116)∨∃ q∈rows,q.1=L:=by
 unfold kL at h
 split at h
 · cases h; exact .inl ⟨rfl,rfl⟩
 · split at h
   · cases h; exact .inr ⟨_,List.mem_cons_self ..,rfl⟩
   · split at h
     · cases h; exact .inr ⟨_,List.mem_cons_self ..,rfl⟩
     · rcases Bk h with h | ⟨q,h1,h2⟩
       · exact .inl h
       · exact .inr ⟨q,List.mem_cons_of_mem _ h1,h2⟩
def mG (g:Nat→Nat) (r:Except (Nat×Nat) (List bV)):Except (Nat×Nat) (List bV):=match r with | .error e=> .error (g e.1,e.2) | .ok xs=> .ok xs
theorem Bl {F:aH} {eof:Nat} (g:Nat→Nat):∀ (n:Nat) (rows:List Rw),cI F (g eof) n (rows.map fun q=>(g q.1,q.2))=mG g (cI F eof n rows):=by
 intro n
 induction n with
 | zero=>intro rows; cases rows <;> simp [cI,mG]
 | succ n ih=>
   intro rows
   cases rows with
   | nil=>simp [cI,mG]
   | cons q rows=>
     rw [List.map_cons,cI,cI]
     cases dU F q.2 with
     | error e=>rfl
     | ok x=>
       rw [ih]
       cases cI F eof n rows <;> rfl
theorem A2 {F:aH} {eof:Nat} (g:Nat→Nat) (rows:List Rw):kL F (g eof) (rows.map fun q=>(g q.1,q.2))=mG g (kL F eof rows):=by
 cases rows with
 | nil=>rfl
 | cons q rows=>
   rw [List.map_cons]
   unfold kL
   simp only
   split
   · rfl
   · cases cJ (q.2.getD 0 []) 8192 with
     | error e=>rfl
     | ok n=>exact Bl g n rows
end Go.Hb
end
section
namespace Go.Hb
def oP:Tx:= [83,70,88,32,65,32,89,32,48,10]
def rj:Tx:= [50,10,102,108,121,47,65,10,105,110,92,47,111,117,116,10]
def lZ:aH:=⟨1,[],[],[0,0,0,0,0],3,[],[],[⟨65,2,true,0,0⟩],[]⟩
def kY:List bV:= [([102,108,121],[65]),([105,110,47,111,117,116],[])]
theorem vc {b:UInt8} {m:Int} (h:48≤b.toNat∧b.toNat≤57) (hm:((b.toNat - 48:Nat):Int)≤m):cJ [b] m= .ok (b.toNat - 48):=by
 have hv:dD [b]=b.toNat - 48:=by simp [dD]
 have hz:¬kQ [b]:=by rintro (h | ⟨h,_⟩) <;> simp at h
 have hd:pN [b]:=fun i hi=>by
  have hi:i=0:=by simpa using hi
  subst hi
  exact decide_eq_true h
 unfold cJ
 rw [u7 hz hd (by rw [hv]; omega),hv]
 rfl
theorem GY:cT oP= [(1,[[83,70,88],[65],[89],[48]])]:=by decide+kernel
theorem GZ:cT rj= [(1,[[50]]),(2,[[102,108,121,47,65]]),(3,[[105,110,92,47,111,117,116]])]:=by decide+kernel
theorem rk:c8 1 [65]=65:=by unfold c8; decide+kernel
theorem GW:eX fD [65]= .ok 65:=by
 unfold eX eS fD
 simp only
 rw [rk]
 simp [cX,dE]
theorem GU:eo oP= .ok lZ:=by
 unfold eo
 rw [if_neg (by decide),GY]
 simp only [List.length_cons,List.length_nil]
 have hh:bm ((aC oP).length+1) fD [] [] 1 [[83,70,88],[65],[89],[48]]= .ok (lZ,[]):=by
  unfold bm
  simp only [List.getD_cons_zero]
  rw [if_neg (by decide),if_neg (by decide),if_neg (by decide),if_neg (by decide),if_neg (by decide),if_neg (by decide),if_neg (by decide)]
  unfold eQ
  simp only [List.getD_cons_zero,List.getD_cons_succ]
  rw [GW]
  simp only
  rw [if_neg (by simp),vc (by decide) (by decide)]
  rfl
 rw [ew]
 simp only [List.getD_cons_zero]
 rw [if_neg (by decide),if_neg (by decide),if_neg (by decide),hh]
 simp only
 rw [ew,if_pos rfl]
 rfl
theorem GX:h8 1 [65]= .ok [65]:=by
 have h1:c5 1 [65]= [[65]]:=by decide+kernel
 have h:dx 1 [65]=([65],0):=by
  unfold dx
  rw [h1,if_neg (by simp),if_neg (by simp [rk]),if_neg (by simp),List.map_cons,List.map_nil,rk]
  decide+kernel
 unfold h8
 rw [h]; rfl
theorem GV:dI lZ rj= .ok kY:=by
 have e1:dU lZ [[102,108,121,47,65]]= .ok ([102,108,121],[65]):=by
  have hw:aY [102,108,121,47,65]=([102,108,121],[65],true,0):=by decide+kernel
  refine (tk (row:= [[102,108,121,47,65]]) (set := [65]) rfl ?_ ?_ ?_ ?_ ?_ ?_ ?_).trans ?_
  all_goals try simp only [List.getD_cons_zero,hw]
  · decide
  · decide
  · simp
  · show dV 1 [] [65]=_
    unfold dV; rw [if_pos rfl]; exact GX
  · intro i hi
    have :i=0:=by simpa using hi
    subst this; decide
 have e2:dU lZ [[105,110,92,47,111,117,116]]= .ok ([105,110,47,111,117,116],[]):=by
  have hw:aY [105,110,92,47,111,117,116]=([105,110,47,111,117,116],[],false,0):=by decide+kernel
  refine (tj (row:= [[105,110,92,47,111,117,116]]) rfl ?_ ?_ ?_ ?_ ?_).trans ?_
  all_goals try simp only [List.getD_cons_zero,hw]
  · decide
  · decide
  · simp
 have hn:cJ [50] 8192= .ok 2:=vc (by decide) (by decide)
 rw [s9 (by decide) GZ rfl (show cJ ([[50]].getD 0 []) 8192= .ok 2 from hn),cI,e1]
 simp only
 rw [cI,e2]
 simp only
 rw [cI]
 rfl
end Go.Hb
end
section
set_option maxRecDepth 20000
set_option maxHeartbeats 1000000
namespace Go.Hb.eK
open Go.Proofs
def iK (l:List (Tx×Tx)):List Value:=l.flatMap fun p=> [str p.1,str p.2]
def jH (c:c7):List Value:= [aB c.flag,.int .i64 (c.kind:Nat),.bool c.gI,.int .i64 (c.first:Nat),.int .i64 (c.count:Nat)]
def g9 (l:List c7):List Value:=l.flatMap jH
def gl (q:eO×Value):List Value:= [.int .i64 (q.1.kind:Nat),aB q.1.flag,.bool q.1.gI,str q.1.strip,str q.1.add,str q.1.cond,q.2]
def eU (l:List (eO×Value)):List Value:=l.flatMap gl
structure bj where
 rb:Nat
 fb:Nat
 ms:Nat
 mt:Nat
 mc:Nat
 eof:Nat
structure db where
 v9:Value
 v10:Value
 v11:Value
 dw:Value
 sa:List Value
 rn:List Value
structure dM where
 vr:Value
 vs:List (Nat×Value)
 vn:Value
def jb (F:aH) (V:db) (mc:Nat):List Value:= [.int .i64 (F.kind:Nat),str F.mj,str F.tr,aB (F.sp.getD 0 0),aB (F.sp.getD 1 0),aB (F.sp.getD 2 0),aB (F.sp.getD 3 0),aB (F.sp.getD 4 0),.int .i64 (F.least:Nat),V.v9,V.v10,V.v11,V.dw,.map (some mc)]
def mQ (H:bj) (R:dM) (ln:Nat):List Value:= [.pointer (some ⟨H.fb,0,none⟩),R.vr,.int .i64 (ln:Nat),.int .i64 (H.eof:Nat),.map (some H.ms),.map (some H.mt),R.vn]
structure bH (w:World) (B fb mc:Nat) (F:aH) (V:db):Prop where
 cells:w.heap[fb]? =some (.cells (jb F V mc).toArray 89 (0,0))
 o9:World.ownsRow w B 163 2 V.v9 F.bM.length (iK F.bM)
 eT:World.ownsRow w B 54 1 V.v10 F.aliases.length V.sa
 al:bN w B 71 V.sa F.aliases
 eh:World.ownsRow w B 157 5 V.v11 F.a8.length (g9 F.a8)
 dQ:World.ownsRow w B 155 7 V.dw F.rules.length (eU (F.rules.zip V.rn))
 nx:bN w B 71 V.rn (F.rules.map (·.next))
 cm:∃ f,bl w.heap mc (jO .u16) f∧∀ x:Nat,f (aB x)=(F.a8.findIdx? fun c=>decide (c.flag=x)).map fun i:Nat=>Value.int .i64 i
 lo:B≤fb∧B≤mc
 fT:F.sp.length=5
theorem bH.md {G:Nat→Prop} {w w':World} {B fb mc:Nat} {F:aH} {V:db} (h:bH w B fb mc F V) (hm:Md G w w') {L:List Nat} (hT:TF w L G) (a:(L.contains 91 || L.contains 165 || L.contains 56 || L.contains 73 || L.contains 159 || L.contains 157)=false) (i:¬G mc):bH w' B fb mc F V:=by
 simp only [Bool.or_eq_false_iff] at a
 obtain ⟨⟨⟨⟨⟨h1,h2⟩,h3⟩,h4⟩,h5⟩,h6⟩:=a
 have hfl:∀ k,G k→∀ cur z,w.heap[k]?≠some (.cells cur 71 z):=fun k hk cur z hg=>hT.no (c6 hg) h4 hk
 obtain ⟨f,hf,c⟩:=h.cm
 exact ⟨hm.g6 hT h.cells h1,cB h.o9 hm hT h2,cB h.eT hm hT h3,h.al.md hm hfl,cB h.eh hm hT h5,cB h.dQ hm hT h6,h.nx.md hm hfl,⟨f,hf.md hm i,c⟩,h.lo,h.fT⟩
theorem bH.wk {w w':World} {B fb mc:Nat} {F:aH} {V:db} (h:bH w B fb mc F V) (hm:Wk w w'):bH w' B fb mc F V:=h.md (L:= []) hm (fun _ hk=>hk.elim) rfl id
structure bo (w:World) (B:Nat) (H:bj) (F:aH) (R:dM) (rows:List Rw) (ln:Nat) (seen:List Tx):Prop where
 cells:w.heap[H.rb]? =some (.cells (mQ H R ln).toArray 92 (0,0))
 rws:gE w B 105 rows.length R.vr (gR R.vs)
 rt:eB w B 9 R.vs rows
 sm:∃ f,bl w.heap H.ms eH f∧∀ s:Tx,(f (str s)).getD (.int .i64 0)= .int .i64 (seen.count s:Nat)
 tm:∃ f,bl w.heap H.mt (jO .u16) f∧∀ x:Nat,x≠0→(f (aB x)).getD (.int .i64 0)= .int .i64 ((if cX F x=true then 1 else 0:Nat):Nat)
 on :World.ownsRow w B 3 1 R.vn F.rules.length (F.rules.map fun r=>Value.int .i64 (r.line:Nat))
 lo:B≤H.rb∧B≤H.ms∧B≤H.mt
 ne:H.ms≠H.mt∧H.ms≠H.mc∧H.mt≠H.mc
theorem bo.md {G:Nat→Prop} {w w':World} {B:Nat} {H:bj} {F:aH} {R:dM} {rows:List Rw} {ln:Nat} {seen:List Tx} (h:bo w B H F R rows ln seen) (hm:Md G w w') {L:List Nat} (hT:TF w L G) (c:(L.contains 94 || L.contains 107 || L.contains 11 || L.contains 5)=false) (j:¬G H.ms) (hmt:¬G H.mt):bo w' B H F R rows ln seen:=by
 simp only [Bool.or_eq_false_iff] at c
 obtain ⟨⟨⟨h1,h2⟩,h3⟩,h4⟩:=c
 obtain ⟨f,hf,i⟩:=h.sm
 obtain ⟨g,hg,hg2⟩:=h.tm
 exact ⟨hm.g6 hT h.cells h1,h.rws.md hm (fun k hk cur z a=>hT.no (c6 a) h2 hk),h.rt.md hm (fun k hk cur z a=>hT.no (c6 a) h3 hk),⟨f,hf.md hm j,i⟩,⟨g,hg.md hm hmt,hg2⟩,cB h.on hm hT h4,h.lo,h.ne⟩
theorem bo.wk {w w':World} {B:Nat} {H:bj} {F:aH} {R:dM} {rows:List Rw} {ln:Nat} {seen:List Tx} (h:bo w B H F R rows ln seen) (hm:Wk w w'):bo w' B H F R rows ln seen:=h.md (L:= []) hm (fun _ hk=>hk.elim) rfl id id
theorem bo.cE {w:World} {B:Nat} {H:bj} {F:aH} {R:dM} {rows:List Rw} {ln:Nat} {seen:List Tx} (h:bo w B H F R rows ln seen):Hb.aA w.heap H.rb 2=some (.int .i64 (ln:Nat)):=(aU h.cells).trans rfl
structure fV (F:aH) (rows:List Rw) (seen:List Tx):Prop where
 len:F.bM.length+F.aliases.length+F.a8.length+F.rules.length+rows.length≤70000
 sl:seen.length+rows.length≤70000
 row:∀ q∈rows,q.2≠[]∧q.2.length≤70000∧∀ x∈q.2,x.length≤70000
 kd:F.kind=1∨F.kind=2∨F.kind=3
 al:∀ l∈F.aliases,l.length≤64∧l.Pairwise (· < ·)
def St (w:World) (B:Nat) (H:bj) (F:aH) (rows:List Rw) (ln:Nat) (seen:List Tx):Prop := ∃ V R,bH w B H.fb H.mc F V∧bo w B H F R rows ln seen∧fV F rows seen
abbrev cV (B:Nat) (H:bj) (w w':World):Prop :=Mw [94,91,165,56,159,157,5] H.ms H.mt H.mc B w w'
theorem bo.cj {w w':World} {B:Nat} {H:bj} {F:aH} {R R':dM} {rows rows':List Rw} {ln ln':Nat} {seen:List Tx} (h:bo w B H F R rows ln seen) (hm:Md (fun k=>k=H.rb) w w') (hc:w'.heap[H.rb]? =some (.cells (mQ H R' ln').toArray 92 (0,0))) (j:R'.vn=R.vn) (hr:gE w B 105 rows'.length R'.vr (gR R'.vs)) (i:eB w B 9 R'.vs rows'):bo w' B H F R' rows' ln' seen:=by
 obtain ⟨f,hf,c⟩:=h.sm
 obtain ⟨g,hg,hg2⟩:=h.tm
 have hT:TF w [94] (fun k=>k=H.rb):=TF.eq (c6 h.cells) (by decide)
 exact ⟨hc,hr.md hm (fun k hk cur z a=>hT.no (c6 a) (by decide) hk),i.md hm (fun k hk cur z a=>hT.no (c6 a) (by decide) hk),⟨f,hf.md hm (hT.no (cg hf) (by decide)),c⟩,⟨g,hg.md hm (hT.no (cg hg) (by decide)),hg2⟩,j ▸ cB h.on hm hT (by decide),h.lo,h.ne⟩
theorem eB.tl {w:World} {B e:Nat} {q:Nat×Value} {r:Rw} {vs:List (Nat×Value)} {rs:List Rw} (h:eB w B e (q::vs) (r::rs)):eB w B e vs rs:=⟨by have :=h.1; simpa using this,fun i q2 a h1 h2=>h.2 (i+1) q2 a h1 h2⟩
theorem bH.put {w w':World} {B fb mc:Nat} {F F':aH} {V:db} (h:bH w B fb mc F V) (hm:Md (fun k=>k=fb) w w') (hc:w'.heap[fb]? =some (.cells (jb F' V mc).toArray 89 (0,0))) (h1:F'.bM=F.bM) (h2:F'.aliases=F.aliases) (h3:F'.a8=F.a8) (h4:F'.rules=F.rules) (h5:F'.sp.length=5):bH w' B fb mc F' V:=by
 have hT:TF w [91] (fun k=>k=fb):=TF.eq (c6 h.cells) (by decide)
 have hfl:∀ k,k=fb→∀ cur z,w.heap[k]?≠some (.cells cur 71 z):=eE h.cells (by decide)
 obtain ⟨f,hf,a⟩:=h.cm
 exact ⟨hc,h1 ▸ cB h.o9 hm hT (by decide),h2 ▸ cB h.eT hm hT (by decide),h2 ▸ h.al.md hm hfl,h3 ▸ cB h.eh hm hT (by decide),h4 ▸ cB h.dQ hm hT (by decide),h4 ▸ h.nx.md hm hfl,⟨f,hf.md hm (hT.no (cg hf) (by decide)),h3 ▸ a⟩,h.lo,h5⟩
theorem bo.fb {w w':World} {B:Nat} {H:bj} {F a:aH} {V:db} {R:dM} {rows:List Rw} {ln:Nat} {seen:List Tx} (h:bo w B H F R rows ln seen) (c:bH w B H.fb H.mc a V) (hm:Md (fun k=>k=H.fb) w w'):bo w' B H F R rows ln seen:=by
 have hT:TF w [91] (fun k=>k=H.fb):=TF.eq (c6 c.cells) (by decide)
 obtain ⟨f,hf,i⟩:=h.sm
 obtain ⟨g,hg,hg2⟩:=h.tm
 exact h.md hm hT (by decide) (hT.no (cg hf) (by decide)) (hT.no (cg hg) (by decide))
theorem bH.rb {w w':World} {B:Nat} {H:bj} {F a:aH} {V:db} {R:dM} {rows:List Rw} {ln:Nat} {seen:List Tx} (h:bH w B H.fb H.mc a V) (c:bo w B H F R rows ln seen) (hm:Md (fun k=>k=H.rb) w w'):bH w' B H.fb H.mc a V:=by
 have hT:TF w [94] (fun k=>k=H.rb):=TF.eq (c6 c.cells) (by decide)
 obtain ⟨f,hf,i⟩:=h.cm
 exact h.md hm hT (by decide) (hT.no (cg hf) (by decide))
theorem bo.congr {w:World} {B:Nat} {H:bj} {F F':aH} {R:dM} {rows:List Rw} {ln:Nat} {seen:List Tx} (h:bo w B H F R rows ln seen) (hr:F'.rules=F.rules) (hd:∀ x,cX F' x=cX F x):bo w B H F' R rows ln seen:=by
 obtain ⟨g,hg,hg2⟩:=h.tm
 exact ⟨h.cells,h.rws,h.rt,h.sm,⟨g,hg,fun x a=>by rw [hd]; exact hg2 x a⟩,hr ▸ h.on,h.lo,h.ne⟩
theorem bo.mJ {w w':World} {B:Nat} {H:bj} {F F':aH} {R:dM} {rows:List Rw} {ln:Nat} {seen:List Tx} {f:Value→Option Value} (h:bo w B H F R rows ln seen) (hm:Md (fun k=>k=H.mt) w w') (hf:bl w'.heap H.mt (jO .u16) f) (hr:F'.rules=F.rules) (hd:∀ x:Nat,x≠0→(f (aB x)).getD (.int .i64 0)= .int .i64 ((if cX F' x=true then 1 else 0:Nat):Nat)):bo w' B H F' R rows ln seen:=by
 obtain ⟨g,hg,_⟩:=h.tm
 obtain ⟨f0,c,i⟩:=h.sm
 have hT:TF w [1] (fun k=>k=H.mt):=TF.eq (cg hg) (by decide)
 exact ⟨hm.g6 hT h.cells (by decide),h.rws.md hm (fun k hk cur z a=>hT.no (c6 a) (by decide) hk),h.rt.md hm (fun k hk cur z a=>hT.no (c6 a) (by decide) hk),⟨f0,c.md hm h.ne.1,i⟩,⟨f,hf,hd⟩,hr ▸ cB h.on hm hT (by decide),h.lo,h.ne⟩
theorem bH.mJ {w w':World} {B:Nat} {H:bj} {F a:aH} {V:db} {R:dM} {rows:List Rw} {ln:Nat} {seen:List Tx} (h:bH w B H.fb H.mc a V) (c:bo w B H F R rows ln seen) (hm:Md (fun k=>k=H.mt) w w'):bH w' B H.fb H.mc a V:=by
 obtain ⟨g,hg,_⟩:=c.tm
 exact h.md (L:= [1]) hm (TF.eq (cg hg) (by decide)) (by decide) (fun h=>c.ne.2.2 h.symm)
theorem cV.fb {w w':World} {B:Nat} {H:bj} {c:aH} {V:db} (a:bH w B H.fb H.mc c V) (hm:Md (fun k=>k=H.fb) w w'):cV B H w w':=Mw.of hm (TF.eq (c6 a.cells) (by decide)) (fun k hk=>hk ▸ a.lo.1)
theorem cV.rb {w w':World} {B:Nat} {H:bj} {F:aH} {R:dM} {rows:List Rw} {ln:Nat} {seen:List Tx} (a:bo w B H F R rows ln seen) (hm:Md (fun k=>k=H.rb) w w'):cV B H w w':=Mw.of hm (TF.eq (c6 a.cells) (by decide)) (fun k hk=>hk ▸ a.lo.1)
theorem cV.mt {w w':World} {B:Nat} {H:bj} {F:aH} {R:dM} {rows:List Rw} {ln:Nat} {seen:List Tx} (a:bo w B H F R rows ln seen) (hm:Md (fun k=>k=H.mt) w w'):cV B H w w':=hm.mono fun k _ hk=>⟨hk ▸ a.lo.2.2,.inr (.inl hk)⟩
def eN (B:Nat) (H:bj) (seen:List Tx) (X:Except (Nat×Nat) (aH×List Rw)) (w:World) (v:Value) (w':World):Prop :=v= .tuple #[]∧∃ F' rows' ln',X= .ok (F',rows')∧St w' B H F' rows' ln' seen∧cV B H w w'
def eM (B:Nat) (H:bj) (X:Except (Nat×Nat) (aH×List Rw)) (w:World) (c:List PanicEntry) (w':World):Prop := ∃ l e,X= .error (l,e)∧c=eG 25 l (e:Nat)∧cV B H w w'
def fC (F:aH) (seen:List Tx):Prop := ∀ k∈dK,k∉seen→F.sp.getD (dK.idxOf k) 0=0
theorem AM {F:aH} {i x:Nat} (hi:i < F.sp.length) (h0:F.sp.getD i 0=0) (y:Nat) (hy:y≠0):cX {F with sp:=F.sp.set i x} y=(decide (y=x) || cX F y):=by
 unfold cX
 show (decide (y∈F.sp.set i x) || _)=_
 rw [← Bool.or_assoc]
 congr 1
 rw [← Bool.decide_or,decide_eq_decide]
 constructor
 · intro h
   rcases List.mem_or_eq_of_mem_set h with h | h
   · exact .inr h
   · exact .inl h
 · rintro (h | h)
   · subst h; exact List.mem_set hi _
   · obtain ⟨j,c⟩:=List.getElem?_of_mem h
     by_cases a:i=j
     · subst a
       rw [List.getD_eq_getElem?_getD,c] at h0
       exact absurd h0 hy
     · exact List.mem_of_getElem? (i:=j) (by rw [List.getElem?_set,if_neg a]; exact c)
theorem Tg.mK {w:World} {B e e' n cp b:Nat} {a:Option Addr} {xs:List Value} {cs:Array Value} {z:Nat×Nat} (h:Tg w B e n (.slice a n cp) xs) (i:xs≠[]) (hb:w.heap[b]? =some (.cells cs e' z)) (hne:e≠e'):¬(bk a=b):=by
 obtain ⟨j,p,hv,_,hh⟩:=h
 cases hv
 rcases hh with rfl | ⟨c,cur,q,rfl,_,hg,_⟩
 · exact absurd rfl i
 · rintro rfl
   rw [show (bk (some ⟨c,0,none⟩))=c from rfl] at hb
   rw [hg] at hb
   simp only [Option.some.injEq,Obj.cells.injEq] at hb
   exact hne hb.2.1
theorem BQ {F:aH} {V:db} {mc i o x:Nat} (h5:F.sp.length=5) (hi:i < 5) (j:o=3 +i):(jb F V mc).set o (aB x)=jb {F with sp:=F.sp.set i x} V mc:=by
 subst j
 obtain ⟨k,cs,tr,sp,le,p,al,cl,q⟩:=F
 match sp,h5 with
 | [a,b,c,d,e],_=>
   match i,hi with
   | 0,_=>rfl
   | 1,_=>rfl
   | 2,_=>rfl
   | 3,_=>rfl
   | 4,_=>rfl
theorem s7 (b:Bool):decide (((if b=true then 1 else 0:Nat):Int)=0)= !b:=by cases b <;> rfl
theorem wz {x y:Nat} (h:aB x=aB y):x=y:=by unfold aB at h; injection h with _ h; omega
theorem wo {F F':aH} {f:Value→Option Value} {x:Nat} (hd:cX F x=false) (hf:∀ y:Nat,y≠0→(f (aB y)).getD (.int .i64 0)= .int .i64 ((if cX F y=true then 1 else 0:Nat):Nat)) (a:∀ y,y≠0→cX F' y=(decide (y=x) || cX F y)) (y:Nat) (hy:y≠0):(a3 f (aB x) (.int .i64 (1:Nat)) (aB y)).getD (.int .i64 0)= .int .i64 ((if cX F' y=true then 1 else 0:Nat):Nat):=by
 rw [a y hy]
 by_cases h:y=x
 · subst h; rw [mO]; simp
 · rw [lM (fun h2=>h (wz h2)),hf y hy]; simp [h]
theorem e5 {G:Nat→Prop} {w w':World} (h:Md G w.drew w'):Md G w w':=⟨h.os,h.output,h.size,h.fc⟩
theorem bN.get {w:World} {B e i:Nat} {vs:List Value} {ls:List (List Nat)} (h:bN w B e vs ls) (hi:i < ls.length):∃ v,vs[i]? =some v∧Tg w B e (ls.getD i []).length v ((ls.getD i []).map aB):=by
 have h1:i < vs.length:=by rw [h.1]; exact hi
 refine ⟨vs[i],List.getElem?_eq_getElem h1,h.2 i _ _ (List.getElem?_eq_getElem h1) ?_⟩
 rw [List.getD_eq_getElem?_getD,List.getElem?_eq_getElem hi]; rfl
theorem Tg.oa {w:World} {B e n cp:Nat} {a:Option Addr} {xs:List Value} (h:Tg w B e n (.slice a n cp) xs) (hl:xs.length=n) (ha:a=none):n=0:=by
 obtain ⟨c,j,hv,_,hh⟩:=h
 cases hv
 rcases hh with rfl | ⟨i,cur,p,h2,_⟩
 · exact hl.symm
 · rw [ha] at h2; cases h2
theorem Tg.uS {G:Nat→Prop} {w w':World} {B e n:Nat} {v:Value} {xs:List Value} (h:Tg w B e n v xs) (hm:Md G w w') (c:∀ k,G k→k < B):Tg w' B e n v xs:=by
 obtain ⟨a,cp,rfl,hc,h | ⟨b,cur,z,rfl,hb,hg,i⟩⟩:=h
 · exact ⟨a,cp,rfl,hc,.inl h⟩
 · exact ⟨_,cp,rfl,hc,.inr ⟨b,cur,z,rfl,hb,by rw [hm.fc b (Array.getElem?_eq_some_iff.1 hg).1 (fun hk=>by have :=c b hk; omega)]; exact hg,i⟩⟩
end Go.Hb.eK
end
section
namespace Go.Hb
abbrev U (n:Nat):Value:= .int .i64 (n:Nat)
abbrev aW (b:Nat):Value:= .pointer (some ⟨b,0,none⟩)
variable {P:Program} {N:Fm} {ops:Array Oper} {Q:Exit→(Nat→Value)→World→Prop} {σ:Nat→Value} {w:World} {S:World→Prop} {r fuel:Nat} {aI:Array Bool} {d:Nat} {op:Op} {ty:TypeId} {pos :String} {af:Array Edge} {v:Value}
theorem aM (i:Nat) (hi:ops[i]? =some ⟨some d,op,ty,pos,af,none⟩) (hy:∀ w,S w→(execOp (ev N σ) ⟨some d,op,ty,pos,af,none⟩).run P w= .ok (.value v) w) (a:S w) (k:dB P N ops Q S fuel (aI.setIfInBounds i true) (cj σ d v) w) (hf:gu N.F ops aI i=true :=by kernel_rfl):dB P N ops Q S (fuel+1) aI σ w:=hp i hi hf hy a k
theorem cY (i:Nat) (hi:ops[i]? =some ⟨some d,op,ty,pos,af,none⟩) (hy:∀ w,S w→(execOp (ev N σ) ⟨some d,op,ty,pos,af,none⟩).run P w= .ok (.value v) w) (a:S w) (k:ec P N ops Q S r fuel (aI.setIfInBounds i true) (cj σ d v) w) (hf:qd N.F ops aI r i=true :=by kernel_rfl):ec P N ops Q S r (fuel+1) aI σ w:=fH i hi hf hy a k
theorem a7 (i:Nat) (hi:ops[i]? =some ⟨some d,op,ty,pos,af,none⟩) (hy:∀ w,(execOp (ev N σ) ⟨some d,op,ty,pos,af,none⟩).run P w= .ok (.value v) w) (a:aI.getD r false =false→S w) (k:ec P N ops Q S r fuel (aI.setIfInBounds i true) (cj σ d v) w) (hf:nY N.F ops aI r i=true :=by kernel_rfl):ec P N ops Q S r (fuel+1) aI σ w:=bq i hi hf hy a k
theorem bf {x:Operand} (i:Nat) (hi:ops[i]? =some ⟨some d,.move x,ty,pos,af,none⟩) (v:Value) (a:S w) (k:dB P N ops Q S fuel (aI.setIfInBounds i true) (cj σ d v) w) (c:ev N σ x=v:=by exact rfl) (hf:gu N.F ops aI i=true :=by kernel_rfl):dB P N ops Q S (fuel+1) aI σ w:=hp i hi hf (fun _ _=>az v c) a k
theorem aQ {x:Operand} (i:Nat) (hi:ops[i]? =some ⟨some d,.move x,ty,pos,af,none⟩) (v:Value) (a:S w) (k:ec P N ops Q S r fuel (aI.setIfInBounds i true) (cj σ d v) w) (c:ev N σ x=v:=by exact rfl) (hf:nY N.F ops aI r i=true :=by kernel_rfl):ec P N ops Q S r (fuel+1) aI σ w:=bq i hi hf (fun _=>az v c) (fun _=>a) k
theorem aV {P:Program} {f:FuncId} {fn:Func} (hf:P.funcs[f]? =some fn) (hn:(fn.name== "runtime.NumGoroutine")=false :=by kernel_rfl) (hb:fn.body.isNone=false :=by kernel_rfl):aR P f:=zq hf hn hb
section
variable {rest:List Oper} {x:Operand} {K:(Nat→Value)→World→Prop} {l:List Oper} {id:Nat} {y:Code}
theorem ae (h:∀ K:(Nat→Value)→World→Prop,(∀ σ w,bR P N y Q σ w→K σ w)→cK P N l.toArray (iq K Q) l σ w) (hr:lK N.r l=true :=by exact rfl):bR P N (.seq (.region id l.toArray false) y) Q σ w:=sq fun K a=>rg hr (h K a)
theorem ak (h:K σ w):cK P N ops (iq K Q) [] σ w:=nl (tn h)
theorem aj (h:K (cj σ d (ev N σ x)) w):cK P N ops (iq K Q) [⟨some d,.assign x,ty,pos,af,none⟩] σ w:=p au (nl (tn h))
theorem ag (v:Value) (h:cK P N ops Q rest (cj σ d v) w) (a:ev N σ x=v:=by exact rfl):cK P N ops Q (⟨some d,.move x,ty,pos,af,none⟩::rest) σ w:=p (az v a) h
end
end Go.Hb
end
section
namespace Go.Hb.cU
open Go.Proofs
theorem nf:bX Tryz.prog 105=some (some 2):=by kernel_rfl
theorem rF:bX Tryz.prog 106=some none:=by kernel_rfl
theorem o0:bX Tryz.prog 139=some none:=by kernel_rfl
theorem rG:bX Tryz.prog 141=some none:=by kernel_rfl
theorem o3:bX Tryz.prog 155=some (some 7):=by kernel_rfl
theorem l8:bX Tryz.prog 157=some (some 5):=by kernel_rfl
theorem l9:bX Tryz.prog 211=some none:=by kernel_rfl
theorem j4:bX Tryz.prog 213=some (some 1):=by kernel_rfl
theorem dC:bX Tryz.prog 22=some none:=by kernel_rfl
theorem k5:bX Tryz.prog 225=some none:=by kernel_rfl
theorem fP:bX Tryz.prog 227=some (some 4):=by kernel_rfl
theorem fE:bX Tryz.prog 25=some (some 3):=by kernel_rfl
theorem kz:bX Tryz.prog 266=some none:=by kernel_rfl
theorem dN:bX Tryz.prog 3=some none:=by kernel_rfl
theorem ng:bX Tryz.prog 39=some none:=by kernel_rfl
theorem rH:bX Tryz.prog 4=some none:=by kernel_rfl
theorem kA:bX Tryz.prog 48=some none:=by kernel_rfl
theorem ni:bX Tryz.prog 5=some none:=by kernel_rfl
theorem g4:bX Tryz.prog 54=some none:=by kernel_rfl
theorem g5:bX Tryz.prog 56=some (some 2):=by kernel_rfl
theorem rI:bX Tryz.prog 64=some none:=by kernel_rfl
theorem bg:bX Tryz.prog 71=some none:=by kernel_rfl
theorem k6:bX Tryz.prog 74=some none:=by kernel_rfl
theorem ma:bX Tryz.prog 80=some none:=by kernel_rfl
theorem rJ:bX Tryz.prog 81=some (some 5):=by kernel_rfl
theorem rK:bX Tryz.prog 82=some none:=by kernel_rfl
theorem kB:bX Tryz.prog 83=some none:=by kernel_rfl
theorem nj:bX Tryz.prog 84=some none:=by kernel_rfl
theorem kD:bX Tryz.prog 85=some none:=by kernel_rfl
theorem o4:bX Tryz.prog 87=some (some 13):=by kernel_rfl
theorem bW:bX Tryz.prog 9=some none:=by kernel_rfl
theorem k8:bX Tryz.prog 90=some none:=by kernel_rfl
theorem rL:bX Tryz.prog 97=some none:=by kernel_rfl
theorem rT:kF Tryz.prog 204=some (256,1):=by kernel_rfl
theorem kE:kF Tryz.prog 227=some (4,1):=by kernel_rfl
theorem o6:kF Tryz.prog 81=some (5,1):=by kernel_rfl
theorem rU:o7 Tryz.prog 227=some ([.int .u64 0,.int .u64 0,.int .u64 0,.int .u64 0]):=by kernel_rfl
theorem la:nq Tryz.prog 139 5 9=true :=by kernel_rfl
theorem fi:aR Tryz.prog 10:=aV Tryz.func10
theorem r6:aR Tryz.prog 100:=aV Tryz.func100
theorem r7:aR Tryz.prog 101:=aV Tryz.func101
theorem yn:aR Tryz.prog 102:=aV Tryz.func102
theorem r8:aR Tryz.prog 103:=aV Tryz.func103
theorem r9:aR Tryz.prog 104:=aV Tryz.func104
theorem yo:aR Tryz.prog 105:=aV Tryz.func105
theorem fj:aR Tryz.prog 11:=aV Tryz.func11
theorem yp:aR Tryz.prog 111:=aV Tryz.func111
theorem yq:aR Tryz.prog 112:=aV Tryz.func112
theorem yr:aR Tryz.prog 113:=aV Tryz.func113
theorem ys:aR Tryz.prog 114:=aV Tryz.func114
theorem yt:aR Tryz.prog 115:=aV Tryz.func115
theorem sc:aR Tryz.prog 116:=aV Tryz.func116
theorem sd:aR Tryz.prog 117:=aV Tryz.func117
theorem yu:aR Tryz.prog 118:=aV Tryz.func118
theorem se:aR Tryz.prog 119:=aV Tryz.func119
theorem g8:aR Tryz.prog 12:=aV Tryz.func12
theorem yv:aR Tryz.prog 120:=aV Tryz.func120
theorem yw:aR Tryz.prog 121:=aV Tryz.func121
theorem yx:aR Tryz.prog 122:=aV Tryz.func122
theorem yy:aR Tryz.prog 123:=aV Tryz.func123
theorem sg:aR Tryz.prog 129:=aV Tryz.func129
theorem lf:aR Tryz.prog 13:=aV Tryz.func13
theorem sh:aR Tryz.prog 130:=aV Tryz.func130
theorem yz:aR Tryz.prog 131:=aV Tryz.func131
theorem yA:aR Tryz.prog 132:=aV Tryz.func132
theorem pf:aR Tryz.prog 133:=aV Tryz.func133
theorem yB:aR Tryz.prog 134:=aV Tryz.func134
theorem ph:aR Tryz.prog 135:=aV Tryz.func135
theorem si:aR Tryz.prog 136:=aV Tryz.func136
theorem yC:aR Tryz.prog 137:=aV Tryz.func137
theorem pj:aR Tryz.prog 138:=aV Tryz.func138
theorem sj:aR Tryz.prog 139:=aV Tryz.func139
theorem sn:aR Tryz.prog 144:=aV Tryz.func144
theorem yD:aR Tryz.prog 148:=aV Tryz.func148
theorem yE:aR Tryz.prog 149:=aV Tryz.func149
theorem nv:aR Tryz.prog 15:=aV Tryz.func15
theorem yF:aR Tryz.prog 150:=aV Tryz.func150
theorem yG:aR Tryz.prog 151:=aV Tryz.func151
theorem sr:aR Tryz.prog 152:=aV Tryz.func152
theorem ss:aR Tryz.prog 153:=aV Tryz.func153
theorem yH:aR Tryz.prog 154:=aV Tryz.func154
theorem yI:aR Tryz.prog 155:=aV Tryz.func155
theorem yJ:aR Tryz.prog 156:=aV Tryz.func156
theorem yK:aR Tryz.prog 157:=aV Tryz.func157
theorem yL:aR Tryz.prog 158:=aV Tryz.func158
theorem yM:aR Tryz.prog 159:=aV Tryz.func159
theorem kH:aR Tryz.prog 16:=aV Tryz.func16
theorem yN:aR Tryz.prog 160:=aV Tryz.func160
theorem yO:aR Tryz.prog 161:=aV Tryz.func161
theorem gr:aR Tryz.prog 162:=aV Tryz.func162
theorem yP:aR Tryz.prog 163:=aV Tryz.func163
theorem yQ:aR Tryz.prog 164:=aV Tryz.func164
theorem yR:aR Tryz.prog 166:=aV Tryz.func166
theorem kI:aR Tryz.prog 17:=aV Tryz.func17
theorem yS:aR Tryz.prog 172:=aV Tryz.func172
theorem yT:aR Tryz.prog 173:=aV Tryz.func173
theorem yU:aR Tryz.prog 174:=aV Tryz.func174
theorem su:aR Tryz.prog 175:=aV Tryz.func175
theorem yV:aR Tryz.prog 176:=aV Tryz.func176
theorem yW:aR Tryz.prog 177:=aV Tryz.func177
theorem pk:aR Tryz.prog 178:=aV Tryz.func178
theorem sv:aR Tryz.prog 179:=aV Tryz.func179
theorem yX:aR Tryz.prog 180:=aV Tryz.func180
theorem pn:aR Tryz.prog 186:=aV Tryz.func186
theorem lg:aR Tryz.prog 19:=aV Tryz.func19
theorem yY:aR Tryz.prog 21:=aV Tryz.func21
theorem jF:aR Tryz.prog 22:=aV Tryz.func22
theorem nw:aR Tryz.prog 23:=aV Tryz.func23
theorem sw:aR Tryz.prog 29:=aV Tryz.func29
theorem sx:aR Tryz.prog 30:=aV Tryz.func30
theorem yZ:aR Tryz.prog 31:=aV Tryz.func31
theorem y0:aR Tryz.prog 32:=aV Tryz.func32
theorem sy:aR Tryz.prog 33:=aV Tryz.func33
theorem dS:aR Tryz.prog 34:=aV Tryz.func34
theorem y1:aR Tryz.prog 35:=aV Tryz.func35
theorem lh:aR Tryz.prog 36:=aV Tryz.func36
theorem y2:aR Tryz.prog 37:=aV Tryz.func37
theorem y3:aR Tryz.prog 38:=aV Tryz.func38
theorem y4:aR Tryz.prog 39:=aV Tryz.func39
theorem y5:aR Tryz.prog 40:=aV Tryz.func40
theorem y6:aR Tryz.prog 48:=aV Tryz.func48
theorem ny:aR Tryz.prog 49:=aV Tryz.func49
theorem y7:aR Tryz.prog 51:=aV Tryz.func51
theorem y8:aR Tryz.prog 53:=aV Tryz.func53
theorem sA:aR Tryz.prog 54:=aV Tryz.func54
theorem po:aR Tryz.prog 55:=aV Tryz.func55
theorem sB:aR Tryz.prog 56:=aV Tryz.func56
theorem y9:aR Tryz.prog 57:=aV Tryz.func57
theorem za:aR Tryz.prog 58:=aV Tryz.func58
theorem zb:aR Tryz.prog 59:=aV Tryz.func59
theorem zc:aR Tryz.prog 60:=aV Tryz.func60
theorem mi:aR Tryz.prog 61:=aV Tryz.func61
theorem zd:aR Tryz.prog 62:=aV Tryz.func62
theorem ze:aR Tryz.prog 63:=aV Tryz.func63
theorem zf:aR Tryz.prog 64:=aV Tryz.func64
theorem sD:aR Tryz.prog 65:=aV Tryz.func65
theorem iW:aR Tryz.prog 66:=aV Tryz.func66
theorem sE:aR Tryz.prog 67:=aV Tryz.func67
theorem nz:aR Tryz.prog 68:=aV Tryz.func68
theorem zg:aR Tryz.prog 69:=aV Tryz.func69
theorem zh:aR Tryz.prog 70:=aV Tryz.func70
theorem zi:aR Tryz.prog 71:=aV Tryz.func71
theorem zj:aR Tryz.prog 72:=aV Tryz.func72
theorem pq:aR Tryz.prog 73:=aV Tryz.func73
theorem sF:aR Tryz.prog 74:=aV Tryz.func74
theorem sG:aR Tryz.prog 75:=aV Tryz.func75
theorem zk:aR Tryz.prog 76:=aV Tryz.func76
theorem sH:aR Tryz.prog 77:=aV Tryz.func77
theorem zl:aR Tryz.prog 87:=aV Tryz.func87
theorem sI:aR Tryz.prog 88:=aV Tryz.func88
theorem zm:aR Tryz.prog 89:=aV Tryz.func89
theorem zn:aR Tryz.prog 90:=aV Tryz.func90
theorem zo:aR Tryz.prog 91:=aV Tryz.func91
theorem pw:aR Tryz.prog 92:=aV Tryz.func92
theorem sJ:aR Tryz.prog 93:=aV Tryz.func93
theorem pz:aR Tryz.prog 94:=aV Tryz.func94
theorem zp:aR Tryz.prog 95:=aV Tryz.func95
theorem pA:aR Tryz.prog 96:=aV Tryz.func96
theorem nA:aR Tryz.prog 97:=aV Tryz.func97
theorem pB:aR Tryz.prog 98:=aV Tryz.func98
theorem sK:aR Tryz.prog 99:=aV Tryz.func99
theorem z8:∀ (l:List UInt8) (c:UInt8) (w:World),(callFunc 185 #[str l,.int .u8 c.toNat]).run Tryz.prog w= .ok (.value (.int .i64 (l.count c:Nat))) w:=FJ Tryz.func185 (by kernel_rfl) (by kernel_rfl) (by kernel_rfl) (by kernel_rfl)
theorem Aw:∀ v w,(callFunc 110 #[v]).run Tryz.prog w= .ok (.value v) w:=fun v w=>by kernel_rfl
theorem sT:cM Tryz.prog 105=some 2:=by kernel_rfl
theorem Ax:cM Tryz.prog 139=some 1:=by kernel_rfl
theorem Ay:cM Tryz.prog 141=some 1:=by kernel_rfl
theorem pJ:cM Tryz.prog 155=some 7:=by kernel_rfl
theorem lk:cM Tryz.prog 157=some 5:=by kernel_rfl
theorem sU:cM Tryz.prog 211=some 1:=by kernel_rfl
theorem kJ:cM Tryz.prog 213=some 1:=by kernel_rfl
theorem pK:cM Tryz.prog 22=some 1:=by kernel_rfl
theorem Az:cM Tryz.prog 225=some 1:=by kernel_rfl
theorem jJ:cM Tryz.prog 227=some 4:=by kernel_rfl
theorem dO:cM Tryz.prog 25=some 3:=by kernel_rfl
theorem nG:cM Tryz.prog 266=some 1:=by kernel_rfl
theorem iD:cM Tryz.prog 3=some 1:=by kernel_rfl
theorem AA:cM Tryz.prog 39=some 1:=by kernel_rfl
theorem sV:cM Tryz.prog 4=some 1:=by kernel_rfl
theorem AB:cM Tryz.prog 48=some 1:=by kernel_rfl
theorem nH:cM Tryz.prog 54=some 1:=by kernel_rfl
theorem ja:cM Tryz.prog 56=some 2:=by kernel_rfl
theorem AD:cM Tryz.prog 64=some 1:=by kernel_rfl
theorem dq:cM Tryz.prog 71=some 1:=by kernel_rfl
theorem sW:cM Tryz.prog 74=some 1:=by kernel_rfl
theorem AE:cM Tryz.prog 81=some 5:=by kernel_rfl
theorem sX:cM Tryz.prog 82=some 1:=by kernel_rfl
theorem sY:cM Tryz.prog 83=some 1:=by kernel_rfl
theorem sZ:cM Tryz.prog 84=some 1:=by kernel_rfl
theorem s0:cM Tryz.prog 85=some 1:=by kernel_rfl
theorem s5:cM Tryz.prog 87=some 13:=by kernel_rfl
theorem kK:cM Tryz.prog 9=some 1:=by kernel_rfl
theorem AF:cM Tryz.prog 99=some 2:=by kernel_rfl
theorem jK:eF Tryz.prog 139=some 1:=by kernel_rfl
theorem Bx:eF Tryz.prog 169=some 1:=by kernel_rfl
theorem By:eF Tryz.prog 211=some 4:=by kernel_rfl
theorem j9:eF Tryz.prog 39=some 2:=by kernel_rfl
theorem bO:eF Tryz.prog 48=some 1:=by kernel_rfl
theorem a4:eF Tryz.prog 54=some 1:=by kernel_rfl
theorem Bz:eF Tryz.prog 64=some 1:=by kernel_rfl
theorem ly:eF Tryz.prog 74=some 2:=by kernel_rfl
theorem pU:eF Tryz.prog 83=some 1:=by kernel_rfl
theorem BA:eF Tryz.prog 84=some 5:=by kernel_rfl
theorem pV:eF Tryz.prog 85=some 7:=by kernel_rfl
theorem nT:cA Tryz.prog 105 0=some 0:=by kernel_rfl
theorem mu:cA Tryz.prog 105 1=some 1:=by kernel_rfl
theorem my:cA Tryz.prog 108 0=some 0:=by kernel_rfl
theorem tN:cA Tryz.prog 108 1=some 1:=by kernel_rfl
theorem p6:cA Tryz.prog 143 0=some 0:=by kernel_rfl
theorem nU:cA Tryz.prog 143 1=some 1:=by kernel_rfl
theorem B8:cA Tryz.prog 155 3=some 3:=by kernel_rfl
theorem B9:cA Tryz.prog 155 4=some 4:=by kernel_rfl
theorem Ca:cA Tryz.prog 155 5=some 5:=by kernel_rfl
theorem nV:cA Tryz.prog 155 6=some 6:=by kernel_rfl
theorem p7:cA Tryz.prog 157 0=some 0:=by kernel_rfl
theorem nW:cA Tryz.prog 157 1=some 1:=by kernel_rfl
theorem tO:cA Tryz.prog 157 2=some 2:=by kernel_rfl
theorem Cb:cA Tryz.prog 157 3=some 3:=by kernel_rfl
theorem p8:cA Tryz.prog 157 4=some 4:=by kernel_rfl
theorem kO:cA Tryz.prog 213 0=some 0:=by kernel_rfl
theorem mz:cA Tryz.prog 25 1=some 1:=by kernel_rfl
theorem lA:cA Tryz.prog 56 0=some 0:=by kernel_rfl
theorem jL:cA Tryz.prog 56 1=some 1:=by kernel_rfl
theorem lB:cA Tryz.prog 87 0=some 0:=by kernel_rfl
theorem Cc:cA Tryz.prog 87 1=some 1:=by kernel_rfl
theorem Cd:cA Tryz.prog 87 2=some 2:=by kernel_rfl
theorem tP:cA Tryz.prog 87 3=some 3:=by kernel_rfl
theorem p9:cA Tryz.prog 87 4=some 8:=by kernel_rfl
theorem nX:cA Tryz.prog 87 5=some 9:=by kernel_rfl
theorem jM:cA Tryz.prog 87 6=some 10:=by kernel_rfl
theorem lC:cA Tryz.prog 87 7=some 11:=by kernel_rfl
theorem jN:cA Tryz.prog 87 8=some 12:=by kernel_rfl
theorem dF:cA Tryz.prog 89 0=some 0:=by kernel_rfl
theorem tQ:cA Tryz.prog 89 1=some 13:=by kernel_rfl
theorem dP:cA Tryz.prog 92 0=some 0:=by kernel_rfl
theorem mA:cA Tryz.prog 92 1=some 1:=by kernel_rfl
theorem mB:cA Tryz.prog 92 2=some 2:=by kernel_rfl
theorem Ce:cA Tryz.prog 92 3=some 3:=by kernel_rfl
theorem lD:cA Tryz.prog 92 4=some 4:=by kernel_rfl
theorem qa:cA Tryz.prog 92 5=some 5:=by kernel_rfl
theorem qc:cA Tryz.prog 92 6=some 6:=by kernel_rfl
theorem tR:cA Tryz.prog 99 0=some 0:=by kernel_rfl
theorem tS:cA Tryz.prog 99 1=some 1:=by kernel_rfl
theorem CX:(Tryz.prog.info? 143).isSome=true :=by kernel_rfl
theorem Dd:∀ (l:List UInt8) (c:UInt8) (w:World),(callFunc 169 #[str l,.int .u8 c.toNat]).run Tryz.prog w= .ok (.value (.int .i64 (cO c l))) w:=FK Tryz.func169 (by kernel_rfl) (by kernel_rfl) (by kernel_rfl) (by kernel_rfl)
theorem kR:iR Tryz.prog 71 (jO .u16):=Di (q:= .u16) (by kernel_rfl)
theorem eu:iR Tryz.prog 9 eH:=Dj (by kernel_rfl)
theorem qB:kS Tryz.prog 25=true :=by kernel_rfl
theorem EY:ptrTo Tryz.prog 183 5=true :=by kernel_rfl
theorem iL:eA Tryz.prog 139 5 1 1=true :=by kernel_rfl
theorem oz:eA Tryz.prog 211 227 4 32=true :=by kernel_rfl
theorem oA:eA Tryz.prog 39 56 2 40=true :=by kernel_rfl
theorem cw:eA Tryz.prog 48 9 1 16=true :=by kernel_rfl
theorem oB:eA Tryz.prog 54 71 1 2=true :=by kernel_rfl
theorem oC:eA Tryz.prog 64 3 1 8=true :=by kernel_rfl
theorem vY:eA Tryz.prog 74 105 2 32=true :=by kernel_rfl
theorem oD:eA Tryz.prog 82 163 2 32=true :=by kernel_rfl
theorem oE:eA Tryz.prog 83 54 1 24=true :=by kernel_rfl
theorem oF:eA Tryz.prog 84 157 5 40=true :=by kernel_rfl
theorem oG:eA Tryz.prog 85 155 7 88=true :=by kernel_rfl
theorem Ge:gV Tryz.prog 105=some ([(0,1),(1,1)],[.int .i64 0,.slice none 0 0]):=by kernel_rfl
theorem Gf:gV Tryz.prog 108=some ([(0,1),(1,1)],[.slice none 0 0,.map none]):=by kernel_rfl
theorem Gg:gV Tryz.prog 155=some ([(0,1),(1,1),(2,1),(3,1),(4,1),(5,1),(6,1)],[.int .i64 0,.int .u16 0,.bool false,.string ⟨⟨[]⟩⟩,.string ⟨⟨[]⟩⟩,.string ⟨⟨[]⟩⟩,.slice none 0 0]):=by kernel_rfl
theorem q8:gV Tryz.prog 157=some ([(0,1),(1,1),(2,1),(3,1),(4,1)],[.int .u16 0,.int .i64 0,.bool false,.int .i64 0,.int .i64 0]):=by kernel_rfl
theorem Gh:gV Tryz.prog 163=some ([(0,1),(1,1)],[.string ⟨⟨[]⟩⟩,.string ⟨⟨[]⟩⟩]):=by kernel_rfl
theorem mV:gV Tryz.prog 213=some ([(0,1)],[.slice none 0 0]):=by kernel_rfl
theorem lQ:gV Tryz.prog 25=some ([(0,1),(1,1),(2,1)],[.int .i64 0,.int .i64 0,.int .i64 0]):=by kernel_rfl
theorem jT:gV Tryz.prog 56=some ([(0,1),(1,1)],[.string ⟨⟨[]⟩⟩,.slice none 0 0]):=by kernel_rfl
theorem Gi:gV Tryz.prog 89=some ([(0,13),(13,1)],[.int .i64 0,.string ⟨⟨[]⟩⟩,.string ⟨⟨[]⟩⟩,.int .u16 0,.int .u16 0,.int .u16 0,.int .u16 0,.int .u16 0,.int .i64 0,.slice none 0 0,.slice none 0 0,.slice none 0 0,.slice none 0 0,.map none]):=by kernel_rfl
theorem Gj:gV Tryz.prog 92=some ([(0,1),(1,1),(2,1),(3,1),(4,1),(5,1),(6,1)],[.pointer none,.slice none 0 0,.int .i64 0,.int .i64 0,.map none,.map none,.slice none 0 0]):=by kernel_rfl
theorem gU:gV Tryz.prog 99=some ([(0,1),(1,1)],[.int .i64 0,.nilFunc]):=by kernel_rfl
theorem wx:Tryz.prog.underlying 106=some (.map 9 64):=by kernel_rfl
theorem jU:Tryz.prog.underlying 139=some (.slice 5):=by kernel_rfl
theorem wy:Tryz.prog.underlying 141=some (.pointer 143):=by kernel_rfl
theorem GF:Tryz.prog.underlying 169=some (.slice 71):=by kernel_rfl
theorem rf:Tryz.prog.underlying 211=some (.slice 227):=by kernel_rfl
theorem km:Tryz.prog.underlying 22=some (.pointer 89):=by kernel_rfl
theorem wH:Tryz.prog.underlying 224=some (.int .u64):=by kernel_rfl
theorem GG:Tryz.prog.underlying 266=some (.int .u64):=by kernel_rfl
theorem iN:Tryz.prog.underlying 28=some (.pointer 108):=by kernel_rfl
theorem u3:Tryz.prog.underlying 3=some (.int .i64):=by kernel_rfl
theorem kn:Tryz.prog.underlying 39=some (.slice 56):=by kernel_rfl
theorem u4:Tryz.prog.underlying 4=some (.bool):=by kernel_rfl
theorem ea:Tryz.prog.underlying 48=some (.slice 9):=by kernel_rfl
theorem u5:Tryz.prog.underlying 5=some (.int .u8):=by kernel_rfl
theorem gW:Tryz.prog.underlying 54=some (.slice 71):=by kernel_rfl
theorem u64:Tryz.prog.underlying 64=some (.slice 3):=by kernel_rfl
theorem oJ:Tryz.prog.underlying 71=some (.int .u16):=by kernel_rfl
theorem oK:Tryz.prog.underlying 74=some (.slice 105):=by kernel_rfl
theorem dp:Tryz.prog.underlying 80=some (.map 71 3):=by kernel_rfl
theorem GH:Tryz.prog.underlying 82=some (.slice 163):=by kernel_rfl
theorem oL:Tryz.prog.underlying 83=some (.slice 54):=by kernel_rfl
theorem wP:Tryz.prog.underlying 84=some (.slice 157):=by kernel_rfl
theorem oM:Tryz.prog.underlying 85=some (.slice 155):=by kernel_rfl
theorem u9:Tryz.prog.underlying 9=some (.string):=by kernel_rfl
theorem ko:Tryz.prog.underlying 90=some (.map 9 3):=by kernel_rfl
theorem gC:Tryz.prog.underlying 94=some (.map 9 99):=by kernel_rfl
theorem wU:mY Tryz.prog 141 202 143 2=true :=by kernel_rfl
theorem GO:(Tryz.prog.underlying 224).isSome=true :=by kernel_rfl
theorem GP:(Tryz.prog.underlying 225).isSome=true :=by kernel_rfl
theorem lW:(Tryz.prog.underlying 3).isSome=true :=by kernel_rfl
theorem mZ:(Tryz.prog.underlying 5).isSome=true :=by kernel_rfl
theorem wide:Tryz.prog.follows .mixedOrders=true :=by kernel_rfl
theorem xl:zeroOf Tryz.prog 105=some (some [.int .i64 0,.slice none 0 0]):=by kernel_rfl
theorem xm:zeroOf Tryz.prog 143=some (some [.pointer none,.slice none 0 0]):=by kernel_rfl
theorem rq:zeroOf Tryz.prog 155=some (some [.int .i64 0,.int .u16 0,.bool false,.string ⟨⟨[]⟩⟩,.string ⟨⟨[]⟩⟩,.string ⟨⟨[]⟩⟩,.slice none 0 0]):=by kernel_rfl
theorem m3:zeroOf Tryz.prog 157=some (some [.int .u16 0,.int .i64 0,.bool false,.int .i64 0,.int .i64 0]):=by kernel_rfl
theorem rr:zeroOf Tryz.prog 213=some (some [.slice none 0 0]):=by kernel_rfl
theorem Ha:zeroOf Tryz.prog 22=some (some [.pointer none]):=by kernel_rfl
theorem kZ:zeroOf Tryz.prog 227=some (some [.int .u64 0,.int .u64 0,.int .u64 0,.int .u64 0]):=by kernel_rfl
theorem fy:zeroOf Tryz.prog 25=some (some [.int .i64 0,.int .i64 0,.int .i64 0]):=by kernel_rfl
theorem Hc:zeroOf Tryz.prog 266=some (some [.int .u64 0]):=by kernel_rfl
theorem Hd:zeroOf Tryz.prog 3=some (some [.int .i64 0]):=by kernel_rfl
theorem He:zeroOf Tryz.prog 48=some (some [.slice none 0 0]):=by kernel_rfl
theorem xn:zeroOf Tryz.prog 56=some (some [.string ⟨⟨[]⟩⟩,.slice none 0 0]):=by kernel_rfl
theorem Hf:zeroOf Tryz.prog 74=some (some [.slice none 0 0]):=by kernel_rfl
theorem Hg:zeroOf Tryz.prog 81=some (some [.int .u16 0,.int .u16 0,.int .u16 0,.int .u16 0,.int .u16 0]):=by kernel_rfl
theorem xo:zeroOf Tryz.prog 87=some (some [.int .i64 0,.string ⟨⟨[]⟩⟩,.string ⟨⟨[]⟩⟩,.int .u16 0,.int .u16 0,.int .u16 0,.int .u16 0,.int .u16 0,.int .i64 0,.slice none 0 0,.slice none 0 0,.slice none 0 0,.slice none 0 0]):=by kernel_rfl
theorem Hh:zeroOf Tryz.prog 9=some (some [.string ⟨⟨[]⟩⟩]):=by kernel_rfl
theorem Hi:zeroOf Tryz.prog 99=some (some [.int .i64 0,.nilFunc]):=by kernel_rfl
theorem Hj:zeroOf Tryz.prog 204=some (some (List.replicate 256 (.bool false))):=by kernel_rfl
theorem Hk:zeroV Tryz.prog 25=some (.agg #[.int .i64 0,.int .i64 0,.int .i64 0]):=by kernel_rfl
theorem js:zeroV Tryz.prog 3=some (.int .i64 0):=by kernel_rfl
theorem Hl:zeroV Tryz.prog 5=some (.int .u8 0):=by kernel_rfl
theorem Hm:zeroV Tryz.prog 64=some (.slice none 0 0):=by kernel_rfl
theorem Hn:zeroV Tryz.prog 71=some (.int .u16 0):=by kernel_rfl
theorem Ho:zeroV Tryz.prog 99=some (.agg #[.int .i64 0,.nilFunc]):=by kernel_rfl
end Go.Hb.cU
end
section
set_option maxRecDepth 20000
set_option maxHeartbeats 1000000
namespace Go.Hb.Builder
open Go.Hb.cU
open Go.Proofs
theorem Ah (b:Nat) (a:Option Addr) (i:Value) (w:World) (hb:w.heap[b]? =some (.cells [Value.pointer a,i].toArray 143 (0,0))) (hp:a=none∨a=some ⟨b,0,none⟩):
 aT Tryz.prog 87 (List.toArray [aW b]) w (fun v w'=>v= .tuple #[]∧w'.heap[b]? =some (.cells [Value.pointer (some ⟨b,0,none⟩),i].toArray 143 (0,0))∧Md (fun k=>k=b) w w'):=by
 refine enter Tryz.func87 rfl Tryz.ntmps87 rfl ?_
 refine ae (fun _ j=>(ag (aW b) (p (nc rfl) (p (fa p6 rfl) (p (ld rG rfl ((aU hb).trans rfl)) (p (e8 wy rfl rfl) (nl ?_)))))))
 refine tn (j _ _ (cb rfl (fun c=> ?_) (fun c=> ?_)))
 obtain rfl :a=none:=by simpa using c
 refine rg rfl (ag (aW b) (ag (aW b) (p (Gv wU rfl hb rfl) (p (z6 Aw rfl) (p (Ck wU rfl hb rfl) (p (nc rfl) (p (fa p6 rfl) ?_)))))))
 refine e (da Ay rfl rfl rfl hb (by simp) fun w1 A s=>nl (f0 rfl ?_))
 exact ⟨rfl,s,A⟩
 obtain rfl :a=some ⟨b,0,none⟩:=hp.resolve_left (by rintro rfl; simp at c)
 refine ae (fun _ q=>(ag (aW b) (p (nc rfl) (p (fa p6 rfl) (p (ld rG rfl ((aU hb).trans rfl)) (ag (aW b) (p (D7 wy CX rfl rfl) ?_)))))))
 refine ak ((q _ _ (cf rfl (aE (f0 rfl ?_)))))
 exact ⟨rfl,hb,Md.refl _ _⟩
theorem xk (b:Nat) (i:Value) (l:List UInt8) (c:UInt8) (w:World) (hb:Bd 143 5 w b i l) (hl:l.length≤70368744177664):
 aT Tryz.prog 54 (List.toArray [aW b,.int .u8 c.toNat]) w (fun v w'=>v= .nilIface∧∃ A,Bd 143 5 w' b A (l++ [c])∧Md (BF b i) w w'∧∀ k,BF b A k→BF b i k∨w.heap.size≤k):=by
 obtain ⟨⟨ad,hbl,ac⟩,hown,hnil⟩:=hb
 have hlt:b < w.heap.size:=(Array.getElem?_eq_some_iff.1 hbl).1
 have I:∀ k,i.ownBlock=some k→k≠b∧k < w.heap.size:=fun k hk=>by have :=hown.lt k hk; exact ⟨by omega,this.2⟩
 refine enter Tryz.func54 rfl Tryz.ntmps54 rfl ?_
 refine ae (fun _ M=>(aj (((M _ _ (ae (fun _ O=>(ag (aW b) ?_))))))))
 refine e (cl zl (Ah b ad i w hbl ac) rfl fun v6 w6 hR6=> ?_)
 obtain ⟨_,G,q⟩:=hR6
 have ho1:=bF hown q (fun k hk=>(I k hk).1)
 have hs1:=q.size
 refine ak ((O _ _ (ae (fun _ U=>(ag (aW b) (ag (aW b) (p (nc rfl) (p (fa nU rfl) ?_))))))))
 refine p (ld o0 rfl ((aU G).trans rfl)) (ag (.int .u8 c.toNat) (e (gq iL rfl rfl fun ah w13 ai j Z=>e (ap iL (aJ ho1 j.md) rfl (by have :=j.size; omega) rfl (ao.dz Z) (rfl) (rfl) (by omega) (by omega) fun J w14 s C hz14 ab=> ?_))))
 have hb14:=C.aw (Wk.aw j.md G) (fun h=>(I b h).1 rfl)
 refine p (nc rfl) (p (fa nU rfl) (e (da Ax rfl rfl (by obtain ⟨a,c,h,_⟩:=lL s; exact congrArg Value.oneCell' h) hb14 (by simp) fun w3 E aa=>ak ((U _ _ (ae (fun _ V=>(p au ?_))))))))
 refine ak ((V _ _ (rt (f1 rfl rfl ?_))))
 have Y:∀ k,J.ownBlock=some k→k≠b:=fun k hk=>by have :=s.lt k hk; omega
 refine ⟨rfl,J,⟨⟨_,aa,.inr rfl⟩,?_,?_⟩,?_,?_⟩
 rw [List.length_append,na]; exact bF s E (fun k hk=>Y k hk)
 rw [hz14]; simp
 refine Md.trans' (Md.trans' (Md.trans' (q.mono (fun k _ h=> .inl h)) j.md (fun _ _ h=>h.elim)) C (fun k _ h=> .inr h)) E (fun k _ h=> .inl h)
 rintro k (rfl | hk)
 exact .inl (.inl rfl)
 by_cases h:i.ownBlock=some k
 exact .inl (.inr h)
 have :=ab k hk; have h1:=q.size; have h2:=j.md.size; exact .inr (by rcases this with h3 | h3; exact absurd h3 h; omega)
theorem ra (b:Nat) (q:Value) (l:List UInt8) (w:World) (hb:Bd 143 5 w b q l) (hl:l.length≤70368744177664):
 aT Tryz.prog 55 (List.toArray [aW b]) w (fun v w'=>v=str l∧Md (fun k=>q.ownBlock=some k) w w'):=by
 obtain ⟨⟨J,hbl,G⟩,hown,hnil⟩:=hb
 obtain ⟨a,c,rfl,hcs,hle,hk,E⟩:=lL hown
 refine enter Tryz.func55 rfl Tryz.ntmps55 rfl ?_
 refine ae (fun _ s=>(aj (((s _ _ (sq (fun _ A=> ?_)))))))
 have i:(fun w'=>Md (fun k=>(Value.slice a l.length c).ownBlock=some k) w w') w.drew:=(Md.refl _ _).drew
 refine bI (fun w'=>Md (fun k=>(Value.slice a l.length c).ownBlock=some k) w w') rfl wide i (bf 0 rfl (aW b) i (aM 1 rfl (fun _ _=>nc rfl) i (aM 2 rfl (fun _ _=>fa nU rfl) i (aM 3 rfl (fun w' j=>ld o0 rfl (j.aA ((aU hbl).trans rfl) (fun h=>by have :=hown.lt _ h; omega))) i (bf 5 rfl (aW b) i (aM 6 rfl (fun _ _=>nc rfl) i (aM 7 rfl (fun _ _=>fa nU rfl) i ?_)))))))
 refine aM 8 rfl (fun w' j=>ld o0 rfl (j.aA ((aU hbl).trans rfl) (fun h=>by have :=hown.lt _ h; omega))) i (aM 9 rfl (fun _ _=>bp jU rfl rfl) i ?_)
 refine aM 4 rfl (fun _ _=>GQ (v:= .nilFunc) rfl (by
  by_cases h:l= []
  have :=hnil.2 h; simp only [Value.slice.injEq] at this; exact .inl this.1
  right; have :0 < l.length:=List.length_pos_iff.2 h; omega)) i ?_
 refine he 10 rfl (by kernel_rfl) (GR EY rfl rfl hown rfl (by omega) fun w13 C I=> ?_)
 have p:(fun w'=>Md (fun k=>(Value.slice a l.length c).ownBlock=some k) w w') w13:=i.trans' C (fun _ _ h=>h)
 refine ⟨p,?_⟩
 exact aM 11 rfl (fun _ _=>au) p (hn (by kernel_rfl) (tn (A _ _ (rt (f1 rfl rfl (⟨rfl,p⟩))))))
end Go.Hb.Builder
end
section
set_option maxRecDepth 20000
set_option maxHeartbeats 1000000
namespace Go.Hb.jy
open Go.Hb.cU
open Go.Proofs
open Go.Hb.Builder
theorem hY (b:UInt8):kN b=decide ((b.toNat:Int)=92∨(b.toNat:Int)=47∨(b.toNat:Int)=35):=by
 unfold kN; exact decide_eq_decide.2 (by omega)
theorem tE (b:UInt8):eR b=decide (32 < (b.toNat:Int)∧(b.toNat:Int)≠127):=by
 unfold eR; exact decide_eq_decide.2 (by omega)
theorem BP {b:UInt8} (h:¬(32 < (b.toNat:Int)∧(b.toNat:Int)≠127)):eR b=false :=by rw [tE]; exact decide_eq_false h
theorem tF (b:UInt8) (w:World):
 aT Tryz.prog 103 (List.toArray [.int .u8 b.toNat]) w (fun v w'=>v= .bool (eR b)∧Wk w w'):=by
 refine enter Tryz.func103 rfl Tryz.ntmps103 rfl ?_
 refine ae (fun _ c=>(aj (((c _ _ (ae (fun _ a=>(ag (.int .u8 b.toNat) ?_))))))))
 refine p (gt rfl rfl) (p mv (gs (t:=5) rfl (fun hg5=> ?_) (fun hg5=> ?_)))
 refine pg rfl rfl rfl (az (.int .u8 b.toNat) rfl) (pg rfl rfl rfl (dt rfl rfl) (p (bz rfl) (aj (((a _ _ (rt (f1 rfl rfl ?_))))))))
 exact ⟨by show Value.bool (decide _)=_; rw [tE]; exact bv (by constructor <;> intro h <;> first | exact ⟨by omega,h⟩ | exact h.2),Md.refl _ _⟩
 refine sk rfl rfl rfl rfl (sk rfl rfl rfl rfl (p (bc rfl) (aj (((a _ _ (rt (f1 rfl rfl ?_))))))))
 exact ⟨by show Value.bool false =_; rw [BP (by omega)],Md.refl _ _⟩
theorem DU (b:UInt8) (w:World):
 aT Tryz.prog 53 (List.toArray [.int .u8 b.toNat]) w (fun v w'=>v= .bool (kN b)∧Wk w w'):=by
 refine enter Tryz.func53 rfl Tryz.ntmps53 rfl ?_
 refine ae (fun _ s=>(aj (((s _ _ (sq (fun _ j=>ae (fun _ A=> ?_))))))))
 refine ag (.int .u8 b.toNat) (ak ((A _ _ (aw (sq (fun _ q=>ae (fun _ C=>(p (bu rfl rfl) ?_))))))))
 refine aj (((C _ _ (cd rfl (fun a=> ?_) (fun a=> ?_)))))
 refine aE (tn (q _ _ (cd rfl (fun a=> ?_) (fun a=> ?_))))
 refine ae (fun _ i=>(aj (((i _ _ (rt (br (tr ?_))))))))
 refine f1 rfl rfl ?_
 first | exact ⟨by show Value.bool true =_; rw [hY,decide_eq_true (by omega)],Md.refl _ _⟩ | exact ⟨by show Value.bool false =_; rw [hY,decide_eq_false (by omega)],Md.refl _ _⟩
 refine aE (bn (tn (j _ _ (ae (fun _ i=>(aj (((i _ _ ?_)))))))))
 refine rt (f1 rfl rfl ?_)
 first | exact ⟨by show Value.bool true =_; rw [hY,decide_eq_true (by omega)],Md.refl _ _⟩ | exact ⟨by show Value.bool false =_; rw [hY,decide_eq_false (by omega)],Md.refl _ _⟩
 refine ae (fun _ i=>(p (bu rfl rfl) (aj (((i _ _ (cd rfl (fun a=> ?_) (fun a=> ?_))))))))
 refine aE (tn (q _ _ (cd rfl (fun a=> ?_) (fun a=> ?_))))
 refine ae (fun _ c=>(aj (((c _ _ (rt (br (tr ?_))))))))
 refine f1 rfl rfl ?_
 first | exact ⟨by show Value.bool true =_; rw [hY,decide_eq_true (by omega)],Md.refl _ _⟩ | exact ⟨by show Value.bool false =_; rw [hY,decide_eq_false (by omega)],Md.refl _ _⟩
 refine aE (bn (tn (j _ _ (ae (fun _ c=>(aj (((c _ _ ?_)))))))))
 refine rt (f1 rfl rfl ?_)
 first | exact ⟨by show Value.bool true =_; rw [hY,decide_eq_true (by omega)],Md.refl _ _⟩ | exact ⟨by show Value.bool false =_; rw [hY,decide_eq_false (by omega)],Md.refl _ _⟩
 refine rg rfl (p (bu rfl rfl) (aj (((q _ _ (cd rfl (fun a=> ?_) (fun a=> ?_)))))))
 refine ae (fun _ c=>(aj (((c _ _ (rt (br (tr ?_))))))))
 refine f1 rfl rfl ?_
 first | exact ⟨by show Value.bool true =_; rw [hY,decide_eq_true (by omega)],Md.refl _ _⟩ | exact ⟨by show Value.bool false =_; rw [hY,decide_eq_false (by omega)],Md.refl _ _⟩
 refine aE (bn (tn (j _ _ (ae (fun _ c=>(aj (((c _ _ ?_)))))))))
 refine rt (f1 rfl rfl ?_)
 first | exact ⟨by show Value.bool true =_; rw [hY,decide_eq_true (by omega)],Md.refl _ _⟩ | exact ⟨by show Value.bool false =_; rw [hY,decide_eq_false (by omega)],Md.refl _ _⟩
theorem xb (s:List UInt8) (w:World) (hs:s.length≤1048576):
 aT Tryz.prog 74 (List.toArray [str s]) w (fun v w'=>v= .bool (jV s)∧Wk w w'):=by
 refine enter Tryz.func74 rfl Tryz.ntmps74 rfl ?_
 refine ae (fun _ O=>(aj (((O _ _ (sq (fun _ Y=>ae (fun _ G=> ?_))))))))
 refine ag (str s) (p (fp rfl rfl) (p mv (gs (t:=6) rfl (fun hg6=> ?_) (fun hg6=> ?_))))
 refine sk rfl rfl rfl rfl (sk rfl rfl rfl rfl (sk rfl rfl rfl rfl (p (bz rfl) (ak ((G _ _ (ct rfl (sq (fun _ a=> ?_)))))))))
 exact rg rfl (aj (((a _ _ (rt (tr (f1 rfl rfl (⟨by show Value.bool false =_; unfold jV; rw [decide_eq_false (by rw [hg6]; simp)],Md.refl _ _⟩))))))))
 refine pg rfl rfl rfl (az (str s) rfl) (pg rfl rfl rfl (bY u9 rfl rfl) (pg rfl rfl rfl (gt rfl rfl) (p (bc rfl) (ak ((G _ _ (cd rfl (fun hc10=> ?_) (fun hc10=> ?_))))))))
 refine ae (fun _ a=>(aj (((a _ _ (rt (tr (f1 rfl rfl ?_))))))))
 exact ⟨by show Value.bool false =_; unfold jV; rw [decide_eq_false (by omega)],Md.refl _ _⟩
 refine aE (tn (Y _ _ (sq (fun _ a=>ae (fun _ Z=>(ag (str s) (p (bY u9 rfl rfl) (p mv ?_))))))))
 refine ak ((Z _ _ (aw (lp (fun I c wI=> ∃ (i:Nat),(i≤s.length∧1≤s.length∧s.length≤64)∧(∀ j,j < i→eR (s.getD j 0)=true)∧(Wk w wI)∧(c 0=str s)∧(c 12= .int .i64 s.length)∧(c 13= .int .i64 i)∧(s.length - i=I)) _ ⟨0,(⟨by omega,by rcases Nat.eq_zero_or_pos s.length with h | h <;> first | exact absurd (List.length_eq_zero_iff.1 h) hg6 | exact h,by omega⟩),((fun j M=>by omega)),(Md.refl _ _),rfl,rfl,rfl,rfl⟩ ?_))))
 rintro I c wI ⟨i,hi,hp,A,al,am,an,rfl⟩
 refine fx 0 al (fx 12 am (fx 13 an (ae (fun _ aa=>(p (lt rfl rfl) (ak ((aa _ _ (sq (fun _ ab=>cd rfl (fun ai=> ?_) (fun ai=> ?_)))))))))))
 refine aE (tn (ab _ _ (sq (fun _ q=>aw (ae (fun _ ac=>(ag (.int .i64 i) (p (bD (.int .i64 i) rfl) ?_))))))))
 refine ak ((ac _ _ (ae (fun _ U=>(ag (str s) (ag (.int .i64 i) (p (fF u9 rfl rfl (by omega)) (e (cl r8 (tF (s.getD i 0) _) rfl fun ao w19 ah=> ?_)))))))))
 obtain ⟨rfl,J⟩:=ah
 refine p (no rfl) (ak ((U _ _ (cb rfl (fun C=> ?_) (fun C=> ?_)))))
 have E:eR (s.getD i 0)=false :=by simpa using C
 refine ae (fun _ V=>(aj (((V _ _ (rt (br (tr ?_))))))))
 exact tr (br (tr (f1 rfl rfl (⟨by show Value.bool false =_; unfold jV; rw [nr (i:=i) (by omega) E,decide_eq_false (by simp)],Md.trans A J⟩))))
 have E:eR (s.getD i 0)=true :=by simpa using C
 refine aE (bn (tn (q _ _ (rg rfl (p (ad rfl rfl (bC (by omega))) (p mv (nl (tn ?_))))))))
 exact ⟨_,by omega,i+1,(by omega),((fun j M=>by rcases Nat.lt_or_ge j i with h | h <;> first | exact hp j h | (rw [show j=i by omega]; exact E))),(Md.trans A J),rfl,rfl,rfl,rfl⟩
 refine ext (te _ (te _ (be (tn (a _ _ (ae (fun _ q=>(p au ?_))))))))
 exact ak ((q _ _ (rt (f1 rfl rfl (⟨by show Value.bool true =_; unfold jV; rw [nu (fun j M=>hp j (by omega)),decide_eq_true ⟨hi.2.1,hi.2.2,rfl⟩],A⟩)))))
theorem rm (s:List UInt8) (w:World) (hs:s.length≤1048576):
 aT Tryz.prog 73 (List.toArray [str s]) w (fun v w'=>v=E1 (aY s)∧Wk w w'):=by
 refine enter Tryz.func73 rfl Tryz.ntmps73 rfl ?_
 refine ae (fun _ ah=>(p au (p au (p au (aj (((ah _ _ ?_))))))))
 refine ae (fun _ ao=>(e (fZ xm fun a w6 hb6 aG hB6=>ak ((ao _ _ (sq (fun _ ap=>ae (fun _ aq=> ?_))))))))
 refine aj (((aq _ _ (aw (lp (fun ab E wI=> ∃ (i:Nat) (acc:List UInt8) (c:Value),(i≤s.length∧acc.length≤i)∧(Bd 143 5 wI a c acc)∧(Wk w wI)∧(e7 acc (s.drop i)=aY s)∧(E 0=str s)∧(E 6=aW a)∧(E 7= .int .i64 i)∧(s.length - i=ab)) _ ⟨0,[],.slice none 0 0,(by simp),(Bd.new hB6),aG.md,rfl,rfl,rfl,rfl,rfl⟩ ?_)))))
 rintro ab E wI ⟨i,acc,c,hi,j,q,hd,aU,aV,aX,rfl⟩
 refine fx 0 aU (fx 6 aV (fx 7 aX (sq (fun _ ar=>ae (fun _ av=>(ag (.int .i64 i) (ag (str s) (p (bY u9 rfl rfl) (p (lt rfl rfl) ?_)))))))))
 refine ak ((av _ _ (cd rfl (fun aN=> ?_) (fun aN=> ?_))))
 refine aE (tn (ar _ _ (sq (fun _ M=>aw (ae (fun _ ax=>(ag (str s) (ag (.int .i64 i) ?_))))))))
 refine p (fF u9 rfl rfl (by omega)) (ak ((ax _ _ (aw ?_))))
 refine cQ (fun G wC=> ∃ (k:Nat),(k < s.length∧i≤k∧k≤i+1)∧(Bd 143 5 wC a c acc)∧(Wk w wC)∧(e7 (acc++ [s.getD k 0]) (s.drop (k+1))=aY s)∧(G 0=str s)∧(G 6=aW a)∧(G 7= .int .i64 k)) ?_ ?_
 refine aw (sq (fun _ O=>aw (sq (fun _ ai=>aw (sq (fun _ al=>sq (fun _ am=>sq (fun _ an=> ?_))))))))
 refine rg rfl (p (bu rfl rfl) (aj (((an _ _ (cd rfl (fun aP=> ?_) (fun aP=> ?_)))))))
 have aL:(s.getD i 0).toNat=47:=by omega
 refine ext (te _ (te _ (be (tn (ai _ _ (sq (fun _ Z=>sq (fun _ I=> ?_))))))))
 have A:(fun w'=>True) wI.drew:=trivial
 refine bI (fun w'=>True) rfl wide A (bf 1 rfl (str s) A (bf 2 rfl (.int .i64 i) A (aM 3 rfl (fun _ _=>bd ((i+1:Nat):Int) rfl rfl (aO (by omega) (by omega))) A (aM 4 rfl (fun _ _=>jS u9 rfl rfl (by omega)) A (he 0 rfl (by kernel_rfl) (cl po (ra a c acc _ (j.md (Md.refl (fun _=>False) _).drew (fun _ _ h=>h)) (by omega)) rfl fun a3 w21 aH=> ?_))))))
 obtain ⟨rfl,aC⟩:=aH
 have C:(fun w'=>True) w21:=trivial
 refine ⟨C,?_⟩
 refine aM 5 rfl (fun _ _=>au) C (aM 6 rfl (fun _ _=>au) C (aM 7 rfl (fun _ _=>au) C (aM 8 rfl (fun _ _=>au) C (hn (by kernel_rfl) (tn (I _ _ (rt (tr ?_))))))))
 refine br (tr (br (tr (br (br (tr (tr ?_)))))))
 refine br (tr (f4 rfl rfl rfl rfl rfl ?_))
 skip
 exact ⟨by rw [← hd,drop_cons 0 (by omega :i < s.length),xj aL]; rfl,j.q9 q (Md.trans (Md.refl _ _).drew aC) (by omega)⟩
 refine aE (tn (am _ _ (ae (fun _ Z=>(p (bu rfl rfl) (aj (((Z _ _ ?_)))))))))
 refine cd rfl (fun aQ=> ?_) (fun aQ=> ?_)
 have V:(s.getD i 0).toNat=92:=by omega
 refine ext (te _ (iV (by decide) (te _ (be (tn (O _ _ (ae (fun _ I=> ?_))))))))
 refine ag (.int .i64 i) (p (bd ((i+1:Nat):Int) rfl rfl (aO (by omega) (by omega))) (aj (((I _ _ (ae (fun _ aa=>(p mv ?_))))))))
 refine ag (str s) (p (bY u9 rfl rfl) (p (bu rfl rfl) (p mv (gs (t:=32) rfl (fun aS=> ?_) (fun aS=> ?_)))))
 refine sk rfl rfl rfl rfl (sk rfl rfl rfl rfl (sk rfl rfl rfl rfl (sk rfl rfl rfl rfl (sk rfl rfl rfl rfl (p (bz rfl) (ak ((aa _ _ ?_))))))))
 refine ct rfl (ae (fun _ J=>(p au (p au (p au (p au (nl ?_)))))))
 refine tn (J _ _ (rt (br (tr (br (br (tr (tr ?_))))))))
 refine br (tr (f4 rfl rfl rfl rfl rfl ?_))
 exact ⟨by rw [← hd,drop_cons 0 (by omega :i < s.length),List.drop_eq_nil_of_le (by omega),xg V]; rfl,q⟩
 refine pg rfl rfl rfl (az (str s) rfl) (pg rfl rfl rfl mv (pg rfl rfl rfl (fF u9 rfl rfl (by omega)) (eg rfl rfl rfl (cl y8 (DU (s.getD (i+1) 0) _) rfl fun a4 w36 aI=> ?_))))
 obtain ⟨rfl,U⟩:=aI
 refine pg rfl rfl rfl (no rfl) (p (bc rfl) (ak ((aa _ _ (cb rfl (fun Y=> ?_) (fun Y=> ?_))))))
 refine ae (fun _ J=>(p au (p au (p au (aj (((J _ _ ?_))))))))
 refine rt (br (tr (br (br (tr (tr (br ?_)))))))
 refine tr (f4 rfl rfl rfl rfl rfl ?_)
 exact ⟨by rw [← hd,drop_cons 0 (by omega :i < s.length),drop_cons 0 (by omega :i+1 < s.length),xh V (by simpa using Y)]; rfl,Md.trans q U⟩
 exact aE (bn (tn (⟨i+1,(by omega),(j.md U (fun _ _ h=>h)),(Md.trans q U),((by rw [← hd,drop_cons 0 (by omega :i < s.length),drop_cons 0 (by omega :i+1 < s.length),xf V (by simpa using Y)])),rfl,rfl,rfl⟩)))
 refine aE (tn (al _ _ (ext (iV (by decide) (te _ (iV (by decide) (te _ (be ?_))))))))
 exact tn (⟨i,(by omega),j,q,((by rw [← hd,drop_cons 0 (by omega :i < s.length),xi (by omega) (by omega)])),rfl,rfl,rfl⟩)
 rintro G wC ⟨k,hk,ac,aB,aR,aZ,a0,a1⟩
 refine fx 0 aZ (fx 6 a0 (fx 7 a1 (ae (fun _ O=>(ag (str s) (ag (.int .i64 k) (p (fF u9 rfl rfl (by omega)) (e (cl sA (xk a c (acc) (s.getD k 0) _ ac (by omega)) rfl fun a5 w42 aJ=> ?_)))))))))
 obtain ⟨rfl,ay,aA,aD,a2⟩:=aJ
 refine ak ((O _ _ (ext (be (bn (tn (M _ _ (rg rfl (ag (.int .i64 k) ?_)))))))))
 exact p (ad rfl rfl (bC (by omega))) (aj (((⟨_,by omega,k+1,acc++ [s.getD k 0],ay,(by rw [List.length_append,List.length_singleton]; omega),aA,(ac.step aB aD (by omega)),aR,rfl,rfl,rfl,rfl⟩))))
 refine ext (te _ (te _ (be (tn (ap _ _ (ae (fun _ M=>(e (cl po (ra a c acc _ j (by omega)) rfl fun a6 w43 aK=> ?_)))))))))
 obtain ⟨rfl,aF⟩:=aK
 refine p au (p au (p au (aj (((M _ _ (rt (f4 rfl rfl rfl rfl rfl ?_))))))))
 exact ⟨by rw [← hd,List.drop_eq_nil_of_le (by omega),rl]; rfl,j.q9 q aF (by omega)⟩
theorem Dz (s:List UInt8) (w:World) (hs:s.length≤1048576):
 aT Tryz.prog 95 (List.toArray [str s]) w (fun v w'=>v= .tuple #[str (letE s).1,.int .i64 (letE s).2]∧Wk w w'):=by
 refine enter Tryz.func95 rfl Tryz.ntmps95 rfl ?_
 refine ae (fun _ an=>(p au (aj (((an _ _ (ae (fun _ av=> ?_))))))))
 refine e (al Hj fun M w4 aU E aa=> ?_)
 have hB4x:ba w4.heap M (marksOf []):=by rw [DW]; exact aa
 refine ak ((av _ _ (sq (fun _ ax=>ae (fun _ ay=>(ag (str s) (p (fp rfl rfl) (nl ?_))))))))
 refine tn (ay _ _ (cd rfl (fun hc8=> ?_) (fun hc8=> ?_)))
 refine ae (fun _ J=>(p au (aj (((J _ _ (rt (tr ?_))))))))
 exact f2 rfl rfl rfl (⟨by show Value.tuple #[str [],.int .i64 21]=_; unfold letE; rw [if_pos (.inl hc8)]; rfl,E.md⟩)
 refine aE (tn (ax _ _ (ae (fun _ J=>(e (fZ xm fun C w5 hb5 am aG=>ak ((J _ _ (sq (fun _ az=> ?_))))))))))
 refine ae (fun _ aA=>(ag (str s) (p (bY u9 rfl rfl) (p mv (ak ((aA _ _ (aw ?_))))))))
 have hb4l:=aa.lt
 refine lp (fun Z a wI=> ∃ (i:Nat) (c:Value),(i≤s.length)∧(∀ j,j < i→eR (s.getD j 0)=true)∧(ba wI.heap M (marksOf (lets (s.take i))))∧(Bd 143 5 wI C c (lets (s.take i)))∧(Wk w wI)∧(a 0=str s)∧(a 4=aW M)∧(a 5=aW C)∧(a 10= .int .i64 s.length)∧(a 11= .int .i64 i)∧(s.length - i=Z)) _ ⟨0,.slice none 0 0,(by omega),((fun j Y=>by omega)),(am.md.B hB4x),(Bd.new aG),(Md.trans E.md am.md),rfl,rfl,rfl,rfl,rfl,rfl⟩ ?_
 rintro Z a wI ⟨i,c,hi,hp,ai,O,U,aO,aR,aS,aP,aQ,rfl⟩
 refine fx 0 aO (fx 4 aR (fx 5 aS (fx 10 aP (fx 11 aQ ?_))))
 have hll:=uK (s.take i)
 rw [List.length_take] at hll
 have hbl4:=ai.lt
 refine ae (fun _ aB=>(p (lt rfl rfl) (ak ((aB _ _ (sq (fun _ aC=>cd rfl (fun aN=> ?_) (fun aN=> ?_))))))))
 refine aE (tn (aC _ _ (sq (fun _ A=>aw (ae (fun _ ao=>(ag (.int .i64 i) (p (bD (.int .i64 i) rfl) ?_))))))))
 refine ak ((ao _ _ (sq (fun _ ap=>ae (fun _ aq=>(ag (str s) (ag (.int .i64 i) (p (fF u9 rfl rfl (by omega)) ?_))))))))
 refine e (cl r8 (tF (s.getD i 0) _) rfl fun aX w17 aK=> ?_)
 obtain ⟨rfl,hE17⟩:=aK
 refine p (no rfl) (ak ((aq _ _ (cb rfl (fun hc18=> ?_) (fun hc18=> ?_)))))
 have G:eR (s.getD i 0)=false :=by simpa using hc18
 refine ae (fun _ I=>(p au (aj (((I _ _ (rt (tr ?_))))))))
 exact br (tr (tr (br (tr (f2 rfl rfl rfl (⟨by show Value.tuple #[str [],.int .i64 21]=_; unfold letE; rw [if_pos (.inr (nr (by omega) G))]; rfl,Md.trans U hE17⟩))))))
 have G:eR (s.getD i 0)=true :=by simpa using hc18
 have ab:Wk w w17:=Md.trans U hE17
 have hB17:=hE17.B ai
 have hBd17:=O.md hE17 (fun _ _ h=>h)
 have hsz17:=hE17.size
 refine aE (tn (ap _ _ (ae (fun _ I=>(ag (str s) (ag (.int .i64 i) (p (fF u9 rfl rfl (by omega)) (p (iH rT rfl rfl (by have :=UInt8.toNat_lt (s.getD i 0); omega)) ?_))))))))
 refine p (ld rH rfl (DY hB17 _)) (p (no rfl) (ak ((I _ _ (cb rfl (fun V=> ?_) (fun V=> ?_))))))
 have q:¬s.getD i 0∈lets (s.take i):=of_decide_eq_false (by simpa using V)
 refine ae (fun _ ar=>(ag (str s) (ag (.int .i64 i) (p (fF u9 rfl rfl (by omega)) (p (iH rT rfl rfl (by have :=UInt8.toNat_lt (s.getD i 0); omega)) (e (st sV rfl rfl (rfl) (hB17) (by rw [uR]; have :=UInt8.toNat_lt (s.getD i 0); omega) fun wt11_4 ac aF=> ?_)))))))
 have hMk11:=DZ aF
 have aI:Wk w wt11_4:=Md.trans' ab ac (fun k hk h=>by omega)
 have hBd11:=hBd17.md ac (fun k hk h=>by have :=hBd17.eG hk; omega)
 refine ak ((ar _ _ (rg rfl (ag (str s) (ag (.int .i64 i) (p (fF u9 rfl rfl (by omega)) (e (cl sA (xk C c (lets (s.take i)) (s.getD i 0) _ hBd11 (by omega)) rfl fun aY a0 aL=> ?_))))))))
 obtain ⟨rfl,aD,aH,ah,aV⟩:=aL
 refine nl (bn (tn (A _ _ (rg rfl (p (ad rfl rfl (bC (by omega))) (p mv (nl (tn ?_))))))))
 exact ⟨_,by omega,i+1,aD,(by omega),((fun j Y=>by rcases Nat.lt_or_ge j i with h | h <;> first | exact hp j h | (rw [show j=i by omega]; exact G))),((by rw [n3 (by omega),if_neg q]; exact ah.B hMk11 (fun h=>by have :=hBd11.eG h; omega))),((by rw [n3 (by omega),if_neg q]; exact aH)),(hBd11.step aI ah (by have :=E.md.size; omega)),rfl,rfl,rfl,rfl,rfl,rfl⟩
 have q:s.getD i 0∈lets (s.take i):=by simpa using V
 refine aE (bn (tn (A _ _ (rg rfl (p (ad rfl rfl (bC (by omega))) (p mv (nl (tn ?_))))))))
 exact ⟨_,by omega,i+1,c,(by omega),((fun j Y=>by rcases Nat.lt_or_ge j i with h | h <;> first | exact hp j h | (rw [show j=i by omega]; exact G))),((by rw [n3 (by omega),if_pos q]; exact hB17)),((by rw [n3 (by omega),if_pos q]; exact hBd17)),ab,rfl,rfl,rfl,rfl,rfl,rfl⟩
 refine ext (te _ (te _ (be (tn (az _ _ (ae (fun _ A=>(e (cl po (ra C c (lets (s.take i)) _ O (by have :=uK (s.take i); rw [List.length_take] at this; omega)) rfl fun aZ a1 aM=> ?_)))))))))
 obtain ⟨rfl,aJ⟩:=aM
 exact p au (aj (((A _ _ (rt (f2 rfl rfl rfl (⟨by show Value.tuple #[str (lets (s.take i)),.int .i64 0]=_; unfold letE; rw [if_neg (by rw [nu (fun j Y=>hp j (by omega))]; exact fun h=>h.elim hc8 Bool.noConfusion),show s.take i=s from List.take_of_length_le (by omega)]; rfl,O.q9 U aJ (by have :=E.md.size; omega)⟩)))))))
end Go.Hb.jy
end
section
set_option maxRecDepth 20000
set_option maxHeartbeats 1000000
namespace Go.Hb.gZ
open Go.Hb.cU
open Go.Proofs
theorem uk {s:List UInt8} (h:¬s= []) (h1:¬(1 < s.length∧(s.getD 0 0).toNat=48)):¬kQ s:=fun hz=>hz.elim h h1
theorem EW {s:List UInt8} (h:¬kQ s):0 < s.length:=List.length_pos_iff.2 (fun e=>h (.inl e))
theorem og (s:List UInt8) (most:Int) (w:World) (hs:s.length≤1048576) (hm: -9223372036854775808≤most∧most≤9223372036854775807):
 aT Tryz.prog 68 (List.toArray [str s,.int .i64 most]) w (fun v w'=>v= .tuple #[.int .i64 (dy s most).1,.int .i64 (dy s most).2]∧Wk w w'):=by
 refine enter Tryz.func68 rfl Tryz.ntmps68 rfl ?_
 refine ae (fun _ V=>(p au (aj (((V _ _ ?_))))))
 refine cQ (fun I G=>(¬kQ s)∧(G=w)∧(I 0=str s)∧(I 1= .int .i64 most)) ?_ ?_
 refine ae (fun _ q=>(ag (str s) (p (fp rfl rfl) (p mv (gs (t:=11) rfl (fun hg11=> ?_) (fun hg11=> ?_))))))
 refine sk rfl rfl rfl rfl (sk rfl rfl rfl rfl (sk rfl rfl rfl rfl (sk rfl rfl rfl rfl (lP rfl rfl rfl (lP rfl rfl rfl (lP rfl rfl rfl (sk rfl rfl rfl rfl ?_)))))))
 refine p (bz rfl) (ak ((q _ _ (ct rfl (ae (fun _ A=>(p au (p au ?_))))))))
 exact ak ((A _ _ (rt (tr (f2 rfl rfl rfl (⟨by show Value.tuple #[.int .i64 0,.int .i64 13]=_; rw [u6 (.inl hg11)]; rfl,Md.refl _ _⟩))))))
 refine pg rfl rfl rfl (az (str s) rfl) (pg rfl rfl rfl (bY u9 rfl rfl) (pg rfl rfl rfl (gt rfl rfl) (pg rfl rfl rfl mv (gs (t:=15) rfl (fun aq=> ?_) (fun aq=> ?_)))))
 refine pg rfl rfl rfl (az (str s) rfl) (pg rfl rfl rfl (gw 0 u9 rfl rfl (by omega)) (pg rfl rfl rfl (bu rfl rfl) (pg rfl rfl rfl (bz rfl) (p (bc rfl) (ak ((q _ _ (cd rfl (fun am=> ?_) (fun am=> ?_)))))))))
 refine ae (fun _ A=>(p au (aj (((A _ _ (rt (tr ?_))))))))
 exact f2 rfl rfl rfl (⟨by show Value.tuple #[.int .i64 0,.int .i64 13]=_; rw [u6 (.inr ⟨by omega,by omega⟩)]; rfl,Md.refl _ _⟩)
 have hh:=uk (s:=s) hg11 (by omega)
 exact aE (tn (⟨hh,rfl,rfl,rfl⟩))
 refine sk rfl rfl rfl rfl (sk rfl rfl rfl rfl (sk rfl rfl rfl rfl (pg rfl rfl rfl (bc rfl) (p (bc rfl) (ak ((q _ _ (cf rfl ?_))))))))
 exact aE (tn (⟨(uk (s:=s) hg11 (by omega)),rfl,rfl,rfl⟩))
 rintro I G ⟨hh,ai,ay,aA⟩
 refine fx 0 ay (fx 1 aA ?_)
 subst ai
 have hp:=EW hh
 refine ae (fun _ q=>(aj (((q _ _ (sq (fun _ A=>ae (fun _ Z=> ?_))))))))
 refine ag (str s) (p (bY u9 rfl rfl) (p mv (ak ((Z _ _ (aw (lp (fun J c wI=> ∃ (i:Nat),(i≤s.length)∧(wI=G)∧((dD (s.take i):Int)≤max 0 most∧(0 < i→(dD (s.take i):Int)≤most))∧(∀ j,j < i→mm (s.getD j 0)=true)∧(c 0=str s)∧(c 1= .int .i64 most)∧(c 6=U (dD (s.take i)))∧(c 22= .int .i64 s.length)∧(c 23= .int .i64 i)∧(s.length - i=J)) _ ⟨0,(by omega),rfl,((by rw [List.take_zero]; show (0:Int)≤_∧_; omega)),((fun j O=>by omega)),rfl,rfl,(iv (by first | rfl | (rw [ml (by omega)]))),rfl,rfl,rfl⟩ ?_)))))))
 rintro J c wI ⟨i,hi,al,hn,M,aB,aC,aG,aD,aF,rfl⟩
 refine fx 0 aB (fx 1 aC (fx 6 aG (fx 22 aD (fx 23 aF ?_))))
 subst al
 have hb8:=UInt8.toNat_lt (s.getD i 0)
 refine ae (fun _ aa=>(p (lt rfl rfl) (ak ((aa _ _ (sq (fun _ ab=>cd rfl (fun an=> ?_) (fun an=> ?_))))))))
 refine aE (tn (ab _ _ (sq (fun _ E=>aw (ae (fun _ ac=>(ag (.int .i64 i) (p (bD (.int .i64 i) rfl) ?_))))))))
 refine ak ((ac _ _ (ae (fun _ ah=>(ag (str s) (ag (.int .i64 i) (p (fF u9 rfl rfl (by omega)) (p (pI u3 mZ rfl (bC (by omega))) ?_))))))))
 refine p (sb rfl rfl (bC (by omega))) (aj (((ah _ _ (sq (fun _ Y=>ae (fun _ C=>(p mv ?_))))))))
 refine p (lt rfl rfl) (p mv (gs (t:=33) rfl (fun ar=> ?_) (fun ar=> ?_)))
 refine sk rfl rfl rfl rfl (sk rfl rfl rfl rfl (p (bz rfl) (p mv (sk rfl rfl rfl rfl (sk rfl rfl rfl rfl (sk rfl rfl rfl rfl (p (bz rfl) ?_)))))))
 refine p mv (sk rfl rfl rfl rfl (sk rfl rfl rfl rfl (sk rfl rfl rfl rfl (sk rfl rfl rfl rfl (sk rfl rfl rfl rfl (sk rfl rfl rfl rfl (p (bz rfl) ?_)))))))
 refine ak ((C _ _ (ct rfl (ae (fun _ a=>(p au (p au (nl ?_))))))))
 refine tn (a _ _ (rt (tr (br (tr (tr (br (tr ?_))))))))
 exact f2 rfl rfl rfl (⟨by show Value.tuple #[.int .i64 0,.int .i64 13]=_; rw [uZ (i:=i) (by omega) (ta (by omega))]; rfl,Md.refl _ _⟩)
 refine pg rfl rfl rfl mv (pg rfl rfl rfl (gt rfl rfl) (p (bc rfl) (p mv (gs (t:=37) rfl (fun av=> ?_) (fun av=> ?_)))))
 refine sk rfl rfl rfl rfl (sk rfl rfl rfl rfl (sk rfl rfl rfl rfl (p (bz rfl) (p mv (sk rfl rfl rfl rfl (sk rfl rfl rfl rfl (sk rfl rfl rfl rfl ?_)))))))
 refine sk rfl rfl rfl rfl (sk rfl rfl rfl rfl (sk rfl rfl rfl rfl (p (bz rfl) (ak ((C _ _ (ct rfl (sq (fun _ a=> ?_)))))))))
 refine rg rfl (p au (aj (((a _ _ (rt (tr (br ?_))))))))
 exact tr (tr (br (tr (f2 rfl rfl rfl (⟨by show Value.tuple #[.int .i64 0,.int .i64 13]=_; rw [uZ (i:=i) (by omega) (ta (by omega))]; rfl,Md.refl _ _⟩)))))
 refine pg rfl rfl rfl (az (.int .i64 most) rfl) (pg rfl rfl rfl mv (pg rfl rfl rfl (lt rfl rfl) (p (bc rfl) (p mv (gs (t:=42) rfl (fun ax=> ?_) (fun ax=> ?_))))))
 refine sk rfl rfl rfl rfl (sk rfl rfl rfl rfl (sk rfl rfl rfl rfl (sk rfl rfl rfl rfl (sk rfl rfl rfl rfl (sk rfl rfl rfl rfl (p (bz rfl) (nl ?_)))))))
 refine tn (C _ _ (ct rfl (ae (fun _ a=>(p au (aj (((a _ _ ?_)))))))))
 refine rt (tr (br (tr (tr (br (tr (f2 rfl rfl rfl ?_)))))))
 exact ⟨by show Value.tuple #[.int .i64 0,.int .i64 13]=_; rw [uX (i+1) (by rw [ml (by omega)]; omega)]; rfl,Md.refl _ _⟩
 have hml:((s.getD i 0).toNat:Int) - 48≤most:=by omega
 refine pg rfl rfl rfl (az (U (dD (s.take i))) rfl) (pg rfl rfl rfl (az (.int .i64 most) rfl) (pg rfl rfl rfl mv (pg rfl rfl rfl (sb rfl rfl (bC (by omega))) (pg rfl rfl rfl (kg (((most - (((s.getD i 0).toNat:Int) - 48)).toNat / 10:Nat):Int) rfl rfl (by omega) (aO (by omega) (by omega))) (pg rfl rfl rfl (gt rfl rfl) (p (bc rfl) (nl ?_)))))))
 refine tn (C _ _ (cd rfl (fun ao=> ?_) (fun ao=> ?_)))
 refine ae (fun _ a=>(p au (aj (((a _ _ (rt (tr ?_))))))))
 exact br (tr (tr (br (tr (f2 rfl rfl rfl (⟨by show Value.tuple #[.int .i64 0,.int .i64 13]=_; rw [uX (i+1) (by rw [ml (by omega)]; omega)]; rfl,Md.refl _ _⟩))))))
 have ap:mm (s.getD i 0)=true :=decide_eq_true (by omega)
 refine aE (tn (Y _ _ (rg rfl (ag (U (dD (s.take i))) (p (kT ((dD (s.take i)*10:Nat):Int) rfl rfl (aO (by omega) (by omega))) (p mv (p (bd ((dD (s.take i)*10 +((s.getD i 0).toNat - 48):Nat):Int) rfl rfl (aO (by omega) (by omega))) (p au ?_))))))))
 refine nl (bn (tn (E _ _ (rg rfl (p (ad rfl rfl (bC (by omega))) (p mv (nl (tn ?_))))))))
 exact ⟨_,by omega,i+1,(by omega),rfl,((by rw [ml (by omega)]; omega)),((fun j O=>by rcases Nat.lt_or_ge j i with h | h <;> first | exact M j h | (rw [show j=i by omega]; exact ap))),rfl,rfl,(iv (by first | rfl | (rw [ml (by omega)]))),rfl,rfl,rfl⟩
 refine ext (te _ (te _ (be (tn (A _ _ (ae (fun _ E=>(ag (U (dD (s.take i))) ?_))))))))
 exact p (bD (U (dD (s.take i))) rfl) (aj (((E _ _ (rt (f2 rfl rfl rfl (⟨by show Value.tuple #[U (dD (s.take i)),.int .i64 0]=_; rw [show s.take i=s from List.take_of_length_le (by omega),u7 hh (fun j O=>M j (by omega)) (by rw [show s.take i=s from List.take_of_length_le (by omega)] at hn; omega)],Md.refl _ _⟩)))))))
end Go.Hb.gZ
end
section
set_option maxRecDepth 20000
set_option maxHeartbeats 1000000
namespace Go.Hb.fX
open Go.Hb.cU
open Go.Proofs
theorem qR {s pr:List UInt8} (h:s.take pr.length=pr):pr.length≤s.length:=by
 have :=congrArg List.length h
 rw [List.length_take] at this; omega
theorem Gm {s:List UInt8} (h:decide (1≤s.length∧s.drop (s.length - 1)= [13])=true):ed s=s.take (s.length - 1):=by
 have h1:=of_decide_eq_true h
 rw [uF (by omega)] at h1
 exact pS (by omega) (by simpa using h1.2)
theorem Gn {s:List UInt8} (h:decide (1≤s.length∧s.drop (s.length - 1)= [13])=false):ed s=s:=by
 have h1:=of_decide_eq_false h
 refine pR fun h2=>h1 ⟨by omega,?_⟩
 rw [uF (by omega),h2.2]
theorem Da (c:UInt8):cO c [c]=0:=by unfold cO; simp
theorem uf (s pr:List UInt8) (w:World) (hs:s.length≤1099511627776) (hp:pr.length≤1099511627776):
 aT Tryz.prog 129 (List.toArray [str s,str pr]) w (fun v w'=>v= .bool (decide (s.take pr.length=pr))∧Wk w w'):=by
 refine enter Tryz.func129 rfl Tryz.ntmps129 rfl ?_
 refine ae (fun _ c=>(aj (((c _ _ (ae (fun _ a=>(ag (str s) ?_))))))))
 refine p (bY u9 rfl rfl) (ag (str pr) (p (bY u9 rfl rfl) (p (ge rfl rfl) (p mv (gs (t:=10) rfl (fun hg10=> ?_) (fun hg10=> ?_))))))
 refine pg rfl rfl rfl (az (str s) rfl) (pg rfl rfl rfl (az (str pr) rfl) (pg rfl rfl rfl (bY u9 rfl rfl) (pg rfl rfl rfl (oy u9 rfl rfl (by omega)) (pg rfl rfl rfl (az (str pr) rfl) (pg rfl rfl rfl (fp rfl rfl) (p (bz rfl) (p au ?_)))))))
 exact ak ((a _ _ (rt (f1 rfl rfl (⟨rfl,Md.refl _ _⟩)))))
 refine sk rfl rfl rfl rfl (sk rfl rfl rfl rfl (sk rfl rfl rfl rfl (sk rfl rfl rfl rfl (sk rfl rfl rfl rfl (sk rfl rfl rfl rfl (p (bc rfl) (p au ?_)))))))
 exact ak ((a _ _ (rt (f1 rfl rfl (⟨by show Value.bool false =_; rw [decide_eq_false (fun h=>by have :=qR h; omega)],Md.refl _ _⟩)))))
theorem Gx (s pr:List UInt8) (w:World) (hs:s.length≤1099511627776) (hp:pr.length≤1099511627776):
 aT Tryz.prog 111 (List.toArray [str s,str pr]) w (fun v w'=>v=str (dR s pr)∧Wk w w'):=by
 refine enter Tryz.func111 rfl Tryz.ntmps111 rfl ?_
 refine ae (fun _ i=>(aj (((i _ _ (sq (fun _ j=>ae (fun _ q=> ?_))))))))
 refine ag (str s) (ag (str pr) (e (cl sg (uf s pr _ hs hp) rfl fun A w7 hR7=> ?_)))
 obtain ⟨rfl,hE7⟩:=hR7
 refine ak ((q _ _ (cb rfl (fun c=> ?_) (fun c=> ?_))))
 have hpp:=of_decide_eq_true c
 have hpl:=qR hpp
 refine ae (fun _ a=>(ag (str s) (ag (str pr) (p (bY u9 rfl rfl) (p (jS u9 rfl rfl (by omega)) (p au (nl ?_)))))))
 exact tn (a _ _ (rt (tr (f1 rfl rfl (⟨by show str (s.drop (pr.length:Int).toNat)=_; unfold dR; rw [if_pos hpp]; rfl,hE7⟩)))))
 have hpp:=of_decide_eq_false c
 refine aE (tn (j _ _ (ae (fun _ a=>(ag (str s) (p (bD (str s) rfl) (ak ((a _ _ ?_)))))))))
 exact rt (f1 rfl rfl (⟨by show str s=_; unfold dR; rw [if_neg hpp],hE7⟩))
theorem Gy (s pr:List UInt8) (w:World) (hs:s.length≤1099511627776) (hp:pr.length≤1099511627776):
 aT Tryz.prog 89 (List.toArray [str s,str pr]) w (fun v w'=>v=str (dR s pr)∧Wk w w'):=by
 refine enter Tryz.func89 rfl Tryz.ntmps89 rfl ?_
 refine ae (fun _ a=>(aj (((a _ _ (ae (fun _ c=>(ag (str s) ?_))))))))
 refine ag (str pr) (e (cl yp (Gx s pr _ hs hp) rfl fun i w7 hR7=> ?_))
 obtain ⟨rfl,hE7⟩:=hR7
 exact aj (((c _ _ (rt (f1 rfl rfl (⟨rfl,hE7⟩))))))
theorem Cr (s pr:List UInt8) (w:World) (hs:s.length≤1099511627776) (hp:pr.length≤1099511627776):
 aT Tryz.prog 131 (List.toArray [str s,str pr]) w (fun v w'=>v= .bool (decide (pr.length≤s.length∧s.drop (s.length - pr.length)=pr))∧Wk w w'):=by
 refine enter Tryz.func131 rfl Tryz.ntmps131 rfl ?_
 refine ae (fun _ c=>(aj (((c _ _ (ae (fun _ a=>(ag (str s) ?_))))))))
 refine p (bY u9 rfl rfl) (ag (str pr) (p (bY u9 rfl rfl) (p (ge rfl rfl) (p mv (gs (t:=10) rfl (fun hg10=> ?_) (fun hg10=> ?_))))))
 refine pg rfl rfl rfl (az (str s) rfl) (pg rfl rfl rfl (az (str s) rfl) (pg rfl rfl rfl (bY u9 rfl rfl) (pg rfl rfl rfl (az (str pr) rfl) (pg rfl rfl rfl (bY u9 rfl rfl) (pg rfl rfl rfl (sb rfl rfl (bC (by omega))) (pg rfl rfl rfl (jS u9 rfl rfl (by omega)) (pg rfl rfl rfl (az (str pr) rfl) ?_)))))))
 exact pg rfl rfl rfl (fp rfl rfl) (p (bz rfl) (aj (((a _ _ (rt (f1 rfl rfl (⟨by show Value.bool (decide (s.drop ((s.length:Int) - (pr.length:Int)).toNat=pr))=_; rw [show ((s.length:Int) - (pr.length:Int)).toNat=s.length - pr.length from by omega]; exact bv (by constructor <;> intro h <;> first | exact ⟨by omega,h⟩ | exact h.2),Md.refl _ _⟩))))))))
 refine sk rfl rfl rfl rfl (sk rfl rfl rfl rfl (sk rfl rfl rfl rfl (sk rfl rfl rfl rfl (sk rfl rfl rfl rfl (sk rfl rfl rfl rfl (sk rfl rfl rfl rfl (sk rfl rfl rfl rfl ?_)))))))
 exact sk rfl rfl rfl rfl (p (bc rfl) (aj (((a _ _ (rt (f1 rfl rfl (⟨by show Value.bool false =_; rw [decide_eq_false (by omega)],Md.refl _ _⟩))))))))
theorem Gz (s:List UInt8) (w:World) (hs:s.length≤1099511627776):
 aT Tryz.prog 113 (List.toArray [str s,str [13]]) w (fun v w'=>v=str (ed s)∧Wk w w'):=by
 refine enter Tryz.func113 rfl Tryz.ntmps113 rfl ?_
 refine ae (fun _ i=>(aj (((i _ _ (sq (fun _ j=>ae (fun _ q=> ?_))))))))
 refine ag (str s) (ag (str [13]) (e (cl yz (Cr s [13] _ hs (by decide)) rfl fun A w7 hR7=> ?_)))
 obtain ⟨rfl,hE7⟩:=hR7
 refine ak ((q _ _ (cb rfl (fun a=> ?_) (fun a=> ?_))))
 have hpl:=(of_decide_eq_true a).1
 have hl1:([13]:List UInt8).length=1:=rfl
 refine ae (fun _ c=>(ag (str s) (ag (str s) (p (bY u9 rfl rfl) (ag (str [13]) (p (bY u9 rfl rfl) (p (sb rfl rfl (bC (by omega))) ?_)))))))
 exact p (oy u9 rfl rfl (by omega)) (aj (((c _ _ (rt (tr (f1 rfl rfl (⟨by show str (s.take ((s.length:Int) - (([13]:List UInt8).length:Int)).toNat)=_; rw [Gm a,show ((s.length:Int) - (([13]:List UInt8).length:Int)).toNat=s.length - 1 from by simp only [List.length_singleton]; omega],hE7⟩))))))))
 refine aE (tn (j _ _ (ae (fun _ c=>(ag (str s) (p (bD (str s) rfl) (ak ((c _ _ ?_)))))))))
 exact rt (f1 rfl rfl (⟨by show str s=_; rw [Gn a],hE7⟩))
theorem GA (s:List UInt8) (w:World) (hs:s.length≤1099511627776):
 aT Tryz.prog 91 (List.toArray [str s,str [13]]) w (fun v w'=>v=str (ed s)∧Wk w w'):=by
 refine enter Tryz.func91 rfl Tryz.ntmps91 rfl ?_
 refine ae (fun _ a=>(aj (((a _ _ (ae (fun _ c=>(ag (str s) ?_))))))))
 refine ag (str [13]) (e (cl yr (Gz s _ hs) rfl fun i w7 hR7=> ?_))
 obtain ⟨rfl,hE7⟩:=hR7
 exact aj (((c _ _ (rt (f1 rfl rfl (⟨rfl,hE7⟩))))))
theorem ur (s:List UInt8) (c:UInt8) (w:World):
 aT Tryz.prog 144 (List.toArray [str s,.int .u8 c.toNat]) w (fun v w'=>v= .int .i64 (cO c s)∧Wk w w'):=by
 refine enter Tryz.func144 rfl Tryz.ntmps144 rfl ?_
 refine ae (fun _ a=>(aj (((a _ _ (ae (fun _ i=>(ag (str s) ?_))))))))
 exact ag (.int .u8 c.toNat) (p (sS (Dd s c _) rfl) (aj (((i _ _ (rt (f1 rfl rfl (⟨rfl,Md.refl _ _⟩))))))))
theorem uq (s:List UInt8) (c:UInt8) (w:World):
 aT Tryz.prog 130 (List.toArray [str s,str [c]]) w (fun v w'=>v= .int .i64 (cO c s)∧Wk w w'):=by
 refine enter Tryz.func130 rfl Tryz.ntmps130 rfl ?_
 refine ae (fun _ j=>(aj (((j _ _ (ae (fun _ q=>(ag (str [c]) ?_))))))))
 refine p (bY u9 rfl rfl) (aj (((q _ _ (sq (fun _ I=>aw (ae (fun _ A=> ?_))))))))
 refine p mv (p (bu rfl rfl) (p mv (gs (t:=19) rfl (fun h=>absurd h (by simp)) (fun M=> ?_))))
 refine pg rfl rfl rfl (az (str [c]) rfl) (pg rfl rfl rfl (az (str s) rfl) (pg rfl rfl rfl (fp rfl rfl) (p (bc rfl) (aj (((A _ _ (cd rfl (fun i=> ?_) (fun i=> ?_)))))))))
 refine ae (fun _ a=>(aj (((a _ _ (rt (br (tr ?_))))))))
 exact f1 rfl rfl (⟨by show Value.int .i64 0=_; rw [← i,Da],Md.refl _ _⟩)
 refine ae (fun _ a=>(p mv (p (bu rfl rfl) (aj (((a _ _ (cd rfl (fun J=> ?_) (fun h=>absurd rfl h)))))))))
 refine ae (fun _ C=>(ag (str s) (ag (str [c]) (p (gw 0 u9 rfl rfl (by simp)) (e (cl sn (ur s c _) rfl fun v30 w30 G=> ?_))))))
 obtain ⟨rfl,E⟩:=G
 exact aj (((C _ _ (rt (br (tr (f1 rfl rfl (⟨rfl,E⟩))))))))
theorem CW (s:List UInt8) (c:UInt8) (w:World):
 aT Tryz.prog 173 (List.toArray [str s,str [c]]) w (fun v w'=>v= .int .i64 (cO c s)∧Wk w w'):=by
 refine enter Tryz.func173 rfl Tryz.ntmps173 rfl ?_
 refine ae (fun _ a=>(aj (((a _ _ (ae (fun _ i=>(ag (str s) ?_))))))))
 refine ag (str [c]) (e (cl sh (uq s c _) rfl fun j w7 hR7=> ?_))
 obtain ⟨rfl,hE7⟩:=hR7
 exact aj (((i _ _ (rt (f1 rfl rfl (⟨rfl,hE7⟩))))))
theorem Aq (s:List UInt8) (c:UInt8) (w:World) (hs:s.length≤1099511627776):
 aT Tryz.prog 112 (List.toArray [str s,str [c]]) w (fun v w'=>v= .tuple #[str (gK c s),str (iz c s),.bool (!decide (cO c s < 0))]∧Wk w w'):=by
 refine enter Tryz.func112 rfl Tryz.ntmps112 rfl ?_
 refine ae (fun _ q=>(p au (p au (aj (((q _ _ (sq (fun _ A=> ?_)))))))))
 refine ae (fun _ C=>(ag (str s) (ag (str [c]) (e (cl sh (uq s c _) rfl fun v10 w10 hR10=> ?_)))))
 obtain ⟨rfl,j⟩:=hR10
 refine aj (((C _ _ (ae (fun _ E=>(p mv (p (ge rfl rfl) (nl ?_))))))))
 refine tn (E _ _ (cd rfl (fun G=> ?_) (fun G=> ?_)))
 have hix:=lF (c:=c) (l:=s) (by omega)
 have hl1:[c].length=1:=rfl
 refine sq (fun _ i=> ?_)
 have a:(fun w'=>Wk w10 w') w10.drew:=(Md.refl _ _).drew
 refine bI (fun w'=>Wk w10 w') rfl wide a (bf 0 rfl (str s) a (aM 1 rfl (fun _ _=>mv) a (aM 2 rfl (fun _ _=>oy u9 rfl rfl (by omega)) a (bf 3 rfl (str s) a (aM 4 rfl (fun _ _=>mv) a (bf 5 rfl (str [c]) a (aM 6 rfl (fun _ _=>bY u9 rfl rfl) a ?_)))))))
 refine aM 7 rfl (fun _ _=>bd ((s.idxOf c+1:Nat):Int) rfl rfl (aO (by omega) (by omega))) a (aM 8 rfl (fun _ _=>jS u9 rfl rfl (by omega)) a (aM 9 rfl (fun _ _=>au) a (aM 10 rfl (fun _ _=>au) a (aM 11 rfl (fun _ _=>au) a (hn (by kernel_rfl) (tn (i _ _ (rt ?_))))))))
 exact tr (f3 rfl rfl rfl rfl (⟨by show Value.tuple #[str (s.take (cO c s).toNat),str (s.drop (s.idxOf c+1)),.bool true]=_; unfold gK iz; rw [if_neg (by omega),if_neg (by omega),hix.1,decide_eq_false (by omega)]; rfl,Md.trans j (Md.refl _ _).drew⟩))
 refine aE (tn (A _ _ (ae (fun _ i=>(ag (str s) (p (bD (str s) rfl) (p au (p au ?_))))))))
 exact ak ((i _ _ (rt (f3 rfl rfl rfl rfl (⟨by show Value.tuple #[str s,str [],.bool false]=_; unfold gK iz; rw [if_pos (by omega),if_pos (by omega),decide_eq_true (by omega)]; rfl,j⟩)))))
theorem Au (s:List UInt8) (c:UInt8) (w:World) (hs:s.length≤1099511627776):
 aT Tryz.prog 90 (List.toArray [str s,str [c]]) w (fun v w'=>v= .tuple #[str (gK c s),str (iz c s),.bool (!decide (cO c s < 0))]∧Wk w w'):=by
 refine enter Tryz.func90 rfl Tryz.ntmps90 rfl ?_
 refine ae (fun _ a=>(p au (p au (aj (((a _ _ (sq (fun _ i=> ?_)))))))))
 refine rg rfl (ag (str s) (ag (str [c]) (e (cl yq (Aq s c _ hs) rfl fun v9 w9 hR9=> ?_))))
 obtain ⟨rfl,j⟩:=hR9
 refine p (xt rfl rfl) (p (xt rfl rfl) (p (xt rfl rfl) (p au (p au (aj (((i _ _ ?_))))))))
 exact rt (f3 rfl rfl rfl rfl (⟨rfl,j⟩))
end Go.Hb.fX
end
section
set_option maxRecDepth 20000
set_option maxHeartbeats 1000000
namespace Go.Hb.kv
open Go.Hb.cU
open Go.Proofs
theorem C7 (x:Nat) (w:World):
 aT Tryz.prog 180 (List.toArray [aB x]) w (fun v w'=>v= .bool false∧Wk w w'):=by
 refine enter Tryz.func180 rfl Tryz.ntmps180 rfl ?_
 refine ae (fun _ a=>(aj (((a _ _ (ae (fun _ c=>(ag (aB x) ?_))))))))
 exact ag (aB x) (p (dt rfl rfl) (aj (((c _ _ (rt (f1 rfl rfl (⟨congrArg Value.bool (decide_eq_false (fun h=>h rfl)),Md.refl _ _⟩))))))))
theorem gz (x y:Nat) (w:World):
 aT Tryz.prog 162 (List.toArray [aB x,aB y]) w (fun v w'=>v= .bool (a6 x y)∧Wk w w'):=by
 refine enter Tryz.func162 rfl Tryz.ntmps162 rfl ?_
 refine ae (fun _ a=>(aj (((a _ _ (ae (fun _ c=>(ag (aB x) ?_))))))))
 refine e (cl yX (C7 x _) rfl fun v6 w6 hR6=> ?_)
 obtain ⟨rfl,i⟩:=hR6
 refine p mv (sk rfl rfl rfl rfl (sk rfl rfl rfl rfl (sk rfl rfl rfl rfl (p (bc rfl) (p mv (pg rfl rfl rfl (az (aB x) rfl) (pg rfl rfl rfl (az (aB y) rfl) ?_)))))))
 exact pg rfl rfl rfl (lt rfl rfl) (p (bc rfl) (aj (((c _ _ (rt (f1 rfl rfl (⟨by show Value.bool (decide ((x:Int) < (y:Int)))=_; unfold a6; exact congrArg Value.bool (decide_eq_decide.2 (by omega)),i⟩))))))))
theorem C4 (d:Array Nat) (a b:Nat) (B n cp:Nat) (s:Option Addr) (w:World) (al:w.ownsRow B 71 1 (.slice s n cp) n (LE aB d)) (a0:a≤b∧b≤n) (a2:n≤1099511627776):
 aT Tryz.prog 156 (List.toArray [.slice s n cp,U a,U b]) w (fun v w'=>v= .tuple #[]∧w'.ownsRow B 71 1 (.slice s n cp) n (LE aB (Go.Sort.insertionSort a6 d a b))∧Md (fun q=>(Value.slice s n cp).ownBlock=some q) w w'):=by
 have hdn:=c9 al
 refine enter Tryz.func156 rfl Tryz.ntmps156 rfl ?_
 refine ae (fun _ an=>(ag (U a) (p (bd ((a+1:Nat):Int) rfl rfl (aO (by omega) (by omega))) (aj (((an _ _ (aw ?_))))))))
 refine lp (fun V Y ac=> ∃ (i:Nat) (O:Array Nat),(a+1≤i∧i≤n+1)∧(Go.Sort.insOuter a6 a b i O=Go.Sort.insertionSort a6 d a b)∧(ac.ownsRow B 71 1 (.slice s n cp) n (LE aB O))∧(Md (fun q=>(Value.slice s n cp).ownBlock=some q) w ac)∧(Y 0= .slice s n cp)∧(Y 1=U a)∧(Y 2=U b)∧(Y 6=U i)∧(b - i=V)) _ ⟨a+1,d,(by omega),rfl,al,(Md.refl _ _),rfl,rfl,rfl,rfl,rfl⟩ ?_
 rintro V Y ac ⟨i,O,hi,ab,am,ai,aN,aP,aR,aS,rfl⟩
 refine fx 0 aN (fx 1 aP (fx 2 aR (fx 6 aS (sq (fun _ ap=>ae (fun _ aq=>(ag (U i) (ag (U b) (p (lt rfl rfl) (nl ?_))))))))))
 refine tn (aq _ _ (cd rfl (fun aH=> ?_) (fun aH=> ?_)))
 refine aE (tn (ap _ _ (sq (fun _ ad=>aw (ae (fun _ ar=>(ag (U i) (p (bD (U i) rfl) ?_))))))))
 refine ak ((ar _ _ (aw (lp (fun V M I=> ∃ (j:Nat) (C:Array Nat),(a≤j∧j≤i)∧(Go.Sort.insInner a6 a j C=Go.Sort.insInner a6 a i O)∧(I.ownsRow B 71 1 (.slice s n cp) n (LE aB C))∧(Md (fun q=>(Value.slice s n cp).ownBlock=some q) w I)∧(M 0= .slice s n cp)∧(M 1=U a)∧(M 2=U b)∧(M 6=U i)∧(M 7=U j)∧(j=V)) _ ⟨i,O,(by omega),rfl,am,ai,rfl,rfl,rfl,rfl,rfl,rfl⟩ ?_))))
 rintro V M I ⟨j,C,a1,hq2,G,Z,aU,aV,aW,aY,aZ,rfl⟩
 refine fx 0 aU (fx 1 aV (fx 2 aW (fx 6 aY (fx 7 aZ (sq (fun _ av=>sq (fun _ ah=> ?_)))))))
 have hden:=c9 G
 have c:(fun w'=>Wk I w') I.drew:=(Md.refl _ _).drew
 refine bI (fun w'=>Wk I w') rfl wide c (bf 0 rfl (U j) c (bf 1 rfl (U a) c (aM 2 rfl (fun _ _=>gt rfl rfl) c (aM 3 rfl (fun _ _=>mv) c (iG (t:=19) rfl (fun aF=> ?_) (fun aF=> ?_))))))
 refine a5 4 rfl (by kernel_rfl) rfl rfl rfl (fun _ _=>az (.slice s n cp) rfl) c (a5 5 rfl (by kernel_rfl) rfl rfl rfl (fun _ _=>az (U j) rfl) c (a5 6 rfl (by kernel_rfl) rfl rfl rfl (fun _ _=>aK a4 rfl rfl (by omega) (ao.ok ((aG G).2) (a9 (by omega)))) c (a5 7 rfl (by kernel_rfl) rfl rfl rfl (fun w' E=>ld bg rfl (bB (i:=j) ((aG G).2.wk E) (by omega))) c (a5 8 rfl (by kernel_rfl) rfl rfl rfl (fun _ _=>az (.slice s n cp) rfl) c (a5 9 rfl (by kernel_rfl) rfl rfl rfl (fun _ _=>az (U j) rfl) c (a5 10 rfl (by kernel_rfl) rfl rfl rfl (fun _ _=>bQ ((j - 1:Nat):Int) rfl rfl (aO (by omega) (by omega))) c (a5 11 rfl (by kernel_rfl) rfl rfl rfl (fun _ _=>aK a4 rfl rfl (by omega) (ao.ok ((aG G).2) (a9 (by omega)))) c ?_)))))))
 refine a5 12 rfl (by kernel_rfl) rfl rfl rfl (fun w' E=>ld bg rfl (bB (i:=j - 1) ((aG G).2.wk E) (by omega))) c (jc 13 rfl (by kernel_rfl) rfl rfl rfl (cl gr (gz C[j]! C[j - 1]! _) rfl fun a3 w29 aD=> ?_))
 obtain ⟨rfl,hE29⟩:=aD
 have J:(fun w'=>Wk I w') w29:=Md.trans c hE29
 refine ⟨J,?_⟩
 refine aM 14 rfl (fun _ _=>bz rfl) J (hn (by kernel_rfl) (tn (ah _ _ (cb rfl (fun aa=> ?_) (fun aa=> ?_)))))
 refine aE (tn (av _ _ (sq (fun _ ax=>aw ?_))))
 have hO6:=aJ G J
 have A:(fun w'=>Wk w29 w') w29.drew:=(Md.refl _ _).drew
 refine dj (fun w'=>Wk w29 w') 15 rfl wide A (aQ 0 rfl (.slice s n cp) A (aQ 1 rfl (U j) A (aQ 2 rfl (.slice s n cp) A (aQ 3 rfl (U j) A (a7 4 rfl (fun _=>bQ ((j - 1:Nat):Int) rfl rfl (aO (by omega) (by omega))) (fun _=>A) (aQ 5 rfl (.slice s n cp) A (aQ 6 rfl (U j) A ?_)))))))
 refine a7 7 rfl (fun _=>bQ ((j - 1:Nat):Int) rfl rfl (aO (by omega) (by omega))) (fun _=>A) (a7 8 rfl (fun _=>aK a4 rfl rfl (by omega) (ao.ok ((aG hO6).2) (a9 (by omega)))) (fun _=>A) (cY 9 rfl (fun w' E=>ld bg rfl (bB (i:=j - 1) ((aG hO6).2.wk E) (by omega))) A (aQ 10 rfl (.slice s n cp) A (aQ 11 rfl (U j) A (a7 12 rfl (fun _=>aK a4 rfl rfl (by omega) (ao.ok ((aG hO6).2) (a9 (by omega)))) (fun _=>A) (cY 13 rfl (fun w' E=>ld bg rfl (bB (i:=j) ((aG hO6).2.wk E) (by omega))) A (a7 14 rfl (fun _=>aK a4 rfl rfl (by omega) (ao.ok ((aG hO6).2) (a9 (by omega)))) (fun _=>A) ?_)))))))
 refine bP 15 rfl (by kernel_rfl) (by kernel_rfl) (dA (u:=C[j - 1]!) (j) (aJ hO6 A) dq rfl rfl rfl (by omega) fun a8 aA aI=> ?_)
 refine a7 16 rfl (fun _=>aK a4 rfl rfl (by omega) (ao.ok ((aG hO6).2) (a9 (by omega)))) (fun h=>Bool.noConfusion ((show true =_ from by kernel_rfl).trans h)) (bP 17 rfl (by kernel_rfl) (by kernel_rfl) (dA (u:=C[j]!) (j - 1) aI dq rfl rfl rfl (by omega) fun wS2 aC aL=> ?_))
 have E:wS2.ownsRow B 71 1 (.slice s n cp) n (LE aB (Go.Sort.swp C (j) (j - 1))):=aL
 have ay:Md (fun q=>(Value.slice s n cp).ownBlock=some q) w29 wS2:=Md.trans (A.mono (fun _ _ h=>h.elim)) (Md.trans aA aC)
 refine di (by kernel_rfl) ?_
 refine bn (tn (ax _ _ (rg rfl (ag (U j) (p (bQ ((j - 1:Nat):Int) rfl rfl (aO (by omega) (by omega))) (p au (nl (tn ?_))))))))
 exact ⟨_,by omega,j - 1,Go.Sort.swp C j (j - 1),(by omega),((by rw [← hq2,C1 (show a < j by omega) aa])),E,(Md.trans Z (Md.trans (J.mono (fun _ _ h=>h.elim)) ay)),rfl,rfl,rfl,rfl,rfl,rfl⟩
 refine ext (te _ (te _ (be (bn (tn (ad _ _ (rg rfl (ag (U i) ?_))))))))
 exact p (bd ((i+1:Nat):Int) rfl rfl (aO (by omega) (by omega))) (aj (((⟨_,by omega,i+1,C,(by omega),((by rw [← ab,uw (show i < b by omega),← hq2,C2 (by simpa using aa)])),(aJ G J),(Md.trans Z (J.mono (fun _ _ h=>h.elim))),rfl,rfl,rfl,rfl,rfl⟩))))
 refine aX 4 rfl (by kernel_rfl) rfl rfl rfl rfl c ?_
 refine aX 5 rfl (by kernel_rfl) rfl rfl rfl rfl c ?_
 refine aX 6 rfl (by kernel_rfl) rfl rfl rfl rfl c ?_
 refine aX 7 rfl (by kernel_rfl) rfl rfl rfl rfl c ?_
 refine aX 8 rfl (by kernel_rfl) rfl rfl rfl rfl c ?_
 refine aX 9 rfl (by kernel_rfl) rfl rfl rfl rfl c ?_
 refine aX 10 rfl (by kernel_rfl) rfl rfl rfl rfl c ?_
 refine aX 11 rfl (by kernel_rfl) rfl rfl rfl rfl c ?_
 refine aX 12 rfl (by kernel_rfl) rfl rfl rfl rfl c ?_
 refine aX 13 rfl (by kernel_rfl) rfl rfl rfl rfl c ?_
 refine aM 14 rfl (fun _ _=>bc rfl) c (hn (by kernel_rfl) (tn (ah _ _ (cf rfl (ext (te _ (te _ (be ?_))))))))
 refine bn (tn (ad _ _ (rg rfl (ag (U i) (p (bd ((i+1:Nat):Int) rfl rfl (aO (by omega) (by omega))) (p au (nl (tn ?_))))))))
 exact ⟨_,by omega,i+1,C,(by omega),((by rw [← ab,uw (show i < b by omega),← hq2,C3 (by omega)])),(aJ G (Md.refl _ _).drew),Z.drew,rfl,rfl,rfl,rfl,rfl⟩
 refine ext (te _ (te _ (be (f0 rfl ?_))))
 exact ⟨rfl,by rw [← ab,C0 (by omega)]; exact am,ai⟩
theorem F1 (d:Array Nat) (lo hi first :Nat) (B n cp:Nat) (s:Option Addr) (w:World) (aF:w.ownsRow B 71 1 (.slice s n cp) n (LE aB d)) (a3:lo≤hi∧first+hi≤n) (a8:n≤1099511627776):
 aT Tryz.prog 175 (List.toArray [.slice s n cp,U lo,U hi,U first]) w (fun v w'=>v= .tuple #[]∧w'.ownsRow B 71 1 (.slice s n cp) n (LE aB (Go.Sort.siftDown a6 hi first lo d))∧Md (fun q=>(Value.slice s n cp).ownBlock=some q) w w'):=by
 refine enter Tryz.func175 rfl Tryz.ntmps175 rfl ?_
 refine ae (fun _ am=>(ag (U lo) (p (bD (U lo) rfl) (ak ((am _ _ (aw (lp (fun ah Y J=> ∃ (r:Nat) (A:Array Nat),(r≤hi)∧(Go.Sort.siftDown a6 hi first r A=Go.Sort.siftDown a6 hi first lo d)∧(J.ownsRow B 71 1 (.slice s n cp) n (LE aB A))∧(Md (fun q=>(Value.slice s n cp).ownBlock=some q) w J)∧(Y 0= .slice s n cp)∧(Y 2=U hi)∧(Y 3=U first)∧(Y 8=U r)∧(hi - r=ah)) _ ⟨lo,d,(by omega),rfl,aF,(Md.refl _ _),rfl,rfl,rfl,rfl,rfl⟩ ?_))))))))
 rintro ah Y J ⟨r,A,hr,ad,G,aa,aS,aU,aV,aW,rfl⟩
 refine fx 0 aS (fx 2 aU (fx 3 aV (fx 8 aW (aw (ae (fun _ an=>(ag (U r) (p (kT ((2 *r:Nat):Int) rfl rfl (aO (by omega) (by omega))) (p (bd ((2 *r+1:Nat):Int) rfl rfl (aO (by omega) (by omega))) (p au ?_))))))))))
 refine ak ((an _ _ (sq (fun _ ap=>ae (fun _ aq=>(p mv (ag (U hi) (p (ge rfl rfl) ?_))))))))
 refine ak ((aq _ _ (cd rfl (fun aL=> ?_) (fun aL=> ?_))))
 refine ext (te _ (iV (by decide) (te _ (be (f0 rfl ?_)))))
 exact ⟨rfl,by rw [← ad,FY (by omega)]; exact G,aa⟩
 refine aE (tn (ap _ _ ?_))
 refine cQ (fun V wC=> ∃ (c:Nat),(r < c∧c < hi)∧(Go.Sort.siftDown a6 hi first r A=if (!a6 A[first+r]! A[first+c]!)=true then A else Go.Sort.siftDown a6 hi first c (Go.Sort.swp A (first+r) (first+c)))∧(wC.ownsRow B 71 1 (.slice s n cp) n (LE aB A))∧(Md (fun q=>(Value.slice s n cp).ownBlock=some q) w wC)∧(V 0= .slice s n cp)∧(V 2=U hi)∧(V 3=U first)∧(V 8=U r)∧(V 9=U c)) ?_ ?_
 refine sq (fun _ Z=> ?_)
 have hdcn:=c9 G
 have a:(fun w'=>Wk J w') J.drew:=(Md.refl _ _).drew
 refine bI (fun w'=>Wk J w') rfl wide a (aM 0 rfl (fun _ _=>mv) a (aM 1 rfl (fun _ _=>bd ((2 *r+1 +1:Nat):Int) rfl rfl (aO (by omega) (by omega))) a (bf 2 rfl (U hi) a (aM 3 rfl (fun _ _=>lt rfl rfl) a (aM 4 rfl (fun _ _=>mv) a (iG (t:=21) rfl (fun aN=> ?_) (fun aN=> ?_)))))))
 refine a5 5 rfl (by kernel_rfl) rfl rfl rfl (fun _ _=>az (.slice s n cp) rfl) a (a5 6 rfl (by kernel_rfl) rfl rfl rfl (fun _ _=>az (U first) rfl) a (a5 7 rfl (by kernel_rfl) rfl rfl rfl (fun _ _=>mv) a (a5 8 rfl (by kernel_rfl) rfl rfl rfl (fun _ _=>bd ((first+(2 *r+1):Nat):Int) rfl rfl (aO (by omega) (by omega))) a (a5 9 rfl (by kernel_rfl) rfl rfl rfl (fun _ _=>aK a4 rfl rfl (by omega) (ao.ok ((aG G).2) (a9 (by omega)))) a (a5 10 rfl (by kernel_rfl) rfl rfl rfl (fun w' E=>ld bg rfl (bB (i:=first+(2 *r+1)) ((aG G).2.wk E) (by omega))) a (a5 11 rfl (by kernel_rfl) rfl rfl rfl (fun _ _=>az (.slice s n cp) rfl) a (a5 12 rfl (by kernel_rfl) rfl rfl rfl (fun _ _=>az (U first) rfl) a ?_)))))))
 refine a5 13 rfl (by kernel_rfl) rfl rfl rfl (fun _ _=>mv) a (a5 14 rfl (by kernel_rfl) rfl rfl rfl (fun _ _=>bd ((first+(2 *r+1):Nat):Int) rfl rfl (aO (by omega) (by omega))) a (a5 15 rfl (by kernel_rfl) rfl rfl rfl (fun _ _=>bd ((first+(2 *r+1)+1:Nat):Int) rfl rfl (aO (by omega) (by omega))) a (a5 16 rfl (by kernel_rfl) rfl rfl rfl (fun _ _=>aK a4 rfl rfl (by omega) (ao.ok ((aG G).2) (a9 (by omega)))) a (a5 17 rfl (by kernel_rfl) rfl rfl rfl (fun w' E=>ld bg rfl (bB (i:=first+(2 *r+1)+1) ((aG G).2.wk E) (by omega))) a (jc 18 rfl (by kernel_rfl) rfl rfl rfl (cl gr (gz A[first+(2 *r+1)]! A[first+(2 *r+1)+1]! _) rfl fun ba w35 aH=> ?_))))))
 obtain ⟨rfl,ax⟩:=aH
 have M:(fun w'=>Wk J w') w35:=Md.trans a ax
 refine ⟨M,?_⟩
 refine aM 19 rfl (fun _ _=>bz rfl) M (hn (by kernel_rfl) (tn (Z _ _ (cb rfl (fun ab=> ?_) (fun ab=> ?_)))))
 exact rg rfl (p mv (p (bd ((2 *r+2:Nat):Int) rfl rfl (aO (by omega) (by omega))) (aj (((⟨2 *r+2,(by omega),(FZ (by omega) ab),(aJ G M),(Md.trans aa (M.mono (fun _ _ h=>h.elim))),rfl,rfl,rfl,rfl,rfl⟩))))))
 exact aE (tn (⟨2 *r+1,(by omega),(vV (by omega) (.inr ab)),(aJ G M),(Md.trans aa (M.mono (fun _ _ h=>h.elim))),rfl,rfl,rfl,rfl,rfl⟩))
 refine aX 5 rfl (by kernel_rfl) rfl rfl rfl rfl a ?_
 refine aX 6 rfl (by kernel_rfl) rfl rfl rfl rfl a ?_
 refine aX 7 rfl (by kernel_rfl) rfl rfl rfl rfl a ?_
 refine aX 8 rfl (by kernel_rfl) rfl rfl rfl rfl a ?_
 refine aX 9 rfl (by kernel_rfl) rfl rfl rfl rfl a ?_
 refine aX 10 rfl (by kernel_rfl) rfl rfl rfl rfl a ?_
 refine aX 11 rfl (by kernel_rfl) rfl rfl rfl rfl a ?_
 refine aX 12 rfl (by kernel_rfl) rfl rfl rfl rfl a ?_
 refine aX 13 rfl (by kernel_rfl) rfl rfl rfl rfl a ?_
 refine aX 14 rfl (by kernel_rfl) rfl rfl rfl rfl a ?_
 refine aX 15 rfl (by kernel_rfl) rfl rfl rfl rfl a ?_
 refine aX 16 rfl (by kernel_rfl) rfl rfl rfl rfl a ?_
 refine aX 17 rfl (by kernel_rfl) rfl rfl rfl rfl a ?_
 refine aX 18 rfl (by kernel_rfl) rfl rfl rfl rfl a ?_
 exact aM 19 rfl (fun _ _=>bc rfl) a (hn (by kernel_rfl) (tn (Z _ _ (cf rfl (aE (tn (⟨2 *r+1,(by omega),(vV (by omega) (.inl (by omega))),(aJ G (Md.refl _ _).drew),aa.drew,rfl,rfl,rfl,rfl,rfl⟩)))))))
 rintro V wC ⟨c,hc,al,I,ai,aY,aZ,a0,a1,a2⟩
 refine fx 0 aY (fx 2 aZ (fx 3 a0 (fx 8 a1 (fx 9 a2 (sq (fun _ Z=>sq (fun _ ar=> ?_)))))))
 have hdcn:=c9 I
 have C:(fun w'=>Wk wC w') wC.drew:=(Md.refl _ _).drew
 refine bI (fun w'=>Wk wC w') rfl wide C (bf 0 rfl (.slice s n cp) C (bf 1 rfl (U first) C (bf 2 rfl (U r) C (aM 3 rfl (fun _ _=>bd ((first+r:Nat):Int) rfl rfl (aO (by omega) (by omega))) C (aM 4 rfl (fun _ _=>aK a4 rfl rfl (by omega) (ao.ok ((aG I).2) (a9 (by omega)))) C (aM 5 rfl (fun w' E=>ld bg rfl (bB (i:=first+r) ((aG I).2.wk E) (by omega))) C (bf 6 rfl (.slice s n cp) C ?_)))))))
 refine bf 7 rfl (U first) C (bf 8 rfl (U c) C (aM 9 rfl (fun _ _=>bd ((first+c:Nat):Int) rfl rfl (aO (by omega) (by omega))) C (aM 10 rfl (fun _ _=>aK a4 rfl rfl (by omega) (ao.ok ((aG I).2) (a9 (by omega)))) C (aM 11 rfl (fun w' E=>ld bg rfl (bB (i:=first+c) ((aG I).2.wk E) (by omega))) C (he 12 rfl (by kernel_rfl) (cl gr (gz A[first+r]! A[first+c]! _) rfl fun bb w51 aI=> ?_))))))
 obtain ⟨rfl,ay⟩:=aI
 have O:(fun w'=>Wk wC w') w51:=Md.trans C ay
 refine ⟨O,?_⟩
 refine aM 13 rfl (fun _ _=>no rfl) O (hn (by kernel_rfl) (tn (ar _ _ (cb rfl (fun ac=> ?_) (fun ac=> ?_)))))
 refine rt (tr (br (tr (br (nQ rfl ?_)))))
 exact ⟨rfl,by rw [← ad,al,if_pos ac]; exact aJ I O,Md.trans ai (O.mono (fun _ _ h=>h.elim))⟩
 refine aE (tn (Z _ _ (sq (fun _ av=> ?_))))
 have hO6:=aJ I O
 have j:(fun w'=>Wk w51 w') w51.drew:=(Md.refl _ _).drew
 refine dj (fun w'=>Wk w51 w') 21 rfl wide j (aQ 0 rfl (.slice s n cp) j (aQ 1 rfl (U first) j (aQ 2 rfl (U r) j (a7 3 rfl (fun _=>bd ((first+r:Nat):Int) rfl rfl (aO (by omega) (by omega))) (fun _=>j) (aQ 4 rfl (.slice s n cp) j (aQ 5 rfl (U first) j (aQ 6 rfl (U c) j ?_)))))))
 refine a7 7 rfl (fun _=>bd ((first+c:Nat):Int) rfl rfl (aO (by omega) (by omega))) (fun _=>j) (aQ 8 rfl (.slice s n cp) j (aQ 9 rfl (U first) j (aQ 10 rfl (U c) j (a7 11 rfl (fun _=>bd ((first+c:Nat):Int) rfl rfl (aO (by omega) (by omega))) (fun _=>j) (a7 12 rfl (fun _=>aK a4 rfl rfl (by omega) (ao.ok ((aG hO6).2) (a9 (by omega)))) (fun _=>j) (cY 13 rfl (fun w' E=>ld bg rfl (bB (i:=first+c) ((aG hO6).2.wk E) (by omega))) j (aQ 14 rfl (.slice s n cp) j ?_)))))))
 refine aQ 15 rfl (U first) j (aQ 16 rfl (U r) j (a7 17 rfl (fun _=>bd ((first+r:Nat):Int) rfl rfl (aO (by omega) (by omega))) (fun _=>j) (a7 18 rfl (fun _=>aK a4 rfl rfl (by omega) (ao.ok ((aG hO6).2) (a9 (by omega)))) (fun _=>j) (cY 19 rfl (fun w' E=>ld bg rfl (bB (i:=first+r) ((aG hO6).2.wk E) (by omega))) j (a7 20 rfl (fun _=>aK a4 rfl rfl (by omega) (ao.ok ((aG hO6).2) (a9 (by omega)))) (fun _=>j) (bP 21 rfl (by kernel_rfl) (by kernel_rfl) (dA (u:=A[first+c]!) (first+r) (aJ hO6 j) dq rfl rfl rfl (by omega) fun bh aC aP=> ?_)))))))
 refine a7 22 rfl (fun _=>aK a4 rfl rfl (by omega) (ao.ok ((aG hO6).2) (a9 (by omega)))) (fun h=>Bool.noConfusion ((show true =_ from by kernel_rfl).trans h)) (bP 23 rfl (by kernel_rfl) (by kernel_rfl) (dA (u:=A[first+r]!) (first+c) aP dq rfl rfl rfl (by omega) fun wS2 aD aR=> ?_))
 have E:wS2.ownsRow B 71 1 (.slice s n cp) n (LE aB (Go.Sort.swp A (first+r) (first+c))):=aR
 have aA:Md (fun q=>(Value.slice s n cp).ownBlock=some q) w51 wS2:=Md.trans (j.mono (fun _ _ h=>h.elim)) (Md.trans aC aD)
 refine di (by kernel_rfl) ?_
 exact tn (av _ _ (rg rfl (ag (U c) (p (bD (U c) rfl) (nl (bn (tn (⟨_,by omega,c,Go.Sort.swp A (first+r) (first+c),(by omega),((by rw [← ad,al,if_neg (by rw [ac]; exact Bool.noConfusion)])),E,(Md.trans ai (Md.trans (O.mono (fun _ _ h=>h.elim)) aA)),rfl,rfl,rfl,rfl,rfl⟩))))))))
theorem vW (d:Array Nat) (lo hi first :Nat) (i c:Int) (B n cp:Nat) (a:Option Addr) (w:World) (j:w.ownsRow B 71 1 (.slice a n cp) n (LE aB d)) (p:lo≤hi∧first+hi≤n) (hlo:i=(lo:Nat)) (s:c=(hi:Nat)) (A:n≤1099511627776):
 aT Tryz.prog 175 (List.toArray [.slice a n cp,.int .i64 i,.int .i64 c,.int .i64 (first :Nat)]) w (fun v w'=>v= .tuple #[]∧w'.ownsRow B 71 1 (.slice a n cp) n (LE aB (Go.Sort.siftDown a6 hi first lo d))∧Md (fun q=>(Value.slice a n cp).ownBlock=some q) w w'):=by
 subst hlo s; exact F1 d lo hi first B n cp a w j p A
theorem CN (d:Array Nat) (a b:Nat) (B n cp:Nat) (c:Option Addr) (w:World) (aA:w.ownsRow B 71 1 (.slice c n cp) n (LE aB d)) (a1:a < b∧b≤n) (Z:n≤1099511627776):
 aT Tryz.prog 157 (List.toArray [.slice c n cp,U a,U b]) w (fun v w'=>v= .tuple #[]∧w'.ownsRow B 71 1 (.slice c n cp) n (LE aB (Go.Sort.heapSort a6 d a b))∧Md (fun q=>(Value.slice c n cp).ownBlock=some q) w w'):=by
 refine enter Tryz.func157 rfl Tryz.ntmps157 rfl ?_
 refine ae (fun _ aa=>(ag (U a) (p (bD (U a) rfl) (ak ((aa _ _ (ae (fun _ ah=> ?_))))))))
 refine aj (((ah _ _ (ae (fun _ ai=>(ag (U b) (ag (U a) (p (bQ ((b - a:Nat):Int) rfl rfl (aO (by omega) (by omega))) ?_))))))))
 refine aj (((ai _ _ (sq (fun _ al=>ae (fun _ am=>(p mv (p (bQ ((b - a - 1:Nat):Int) rfl rfl (aO (by omega) (by omega))) ?_))))))))
 refine p (kg (((b - a - 1) / 2:Nat):Int) rfl rfl (by omega) (aO (by omega) (by omega))) (aj (((am _ _ (aw (lp (fun I E Y=> ∃ (k:Nat) (s:Array Nat),(k≤b - a)∧(Go.Sort.heapBuild a6 (b - a) a k s=Go.Sort.heapBuild a6 (b - a) a ((b - a - 1) / 2 +1) d)∧(Y.ownsRow B 71 1 (.slice c n cp) n (LE aB s))∧(Md (fun q=>(Value.slice c n cp).ownBlock=some q) w Y)∧(E 0= .slice c n cp)∧(E 6=U a)∧(E 7= .int .i64 0)∧(E 8=U (b - a))∧(E 9= .int .i64 ((k:Nat) - 1:Int))∧(k=I)) _ ⟨(b - a - 1) / 2 +1,d,(by omega),rfl,aA,(Md.refl _ _),rfl,rfl,rfl,rfl,(iv (by omega)),rfl⟩ ?_))))))
 rintro I E Y ⟨k,s,hk,V,A,J,aP,aR,aS,aU,aV,rfl⟩
 refine fx 0 aP (fx 6 aR (fx 7 aS (fx 8 aU (fx 9 aV (sq (fun _ an=>ae (fun _ ap=>(ag (.int .i64 ((k:Nat) - 1:Int)) (p (ge rfl rfl) (ak ((ap _ _ ?_))))))))))))
 refine cd rfl (fun aI=> ?_) (fun aI=> ?_)
 refine aE (tn (an _ _ (sq (fun _ O=>aw (rg rfl (ag (.slice c n cp) (ag (.int .i64 ((k:Nat) - 1:Int)) (ag (U (b - a)) ?_))))))))
 refine ag (U a) (e (cl su (vW s (k - 1) (b - a) a _ _ B n cp c _ A (by omega) (by omega) rfl Z) rfl fun a3 w26 aF=> ?_))
 obtain ⟨rfl,aC,ar⟩:=aF
 refine nl (bn (tn (O _ _ (rg rfl (ag (.int .i64 ((k:Nat) - 1:Int)) (p (sb rfl rfl (bC (by omega))) (p au (nl ?_))))))))
 exact tn (⟨_,by omega,k - 1,Go.Sort.siftDown a6 (b - a) a (k - 1) s,(by omega),((by rw [← V,Ct (show 0 < k by omega)])),aC,(Md.trans J ar),rfl,rfl,rfl,rfl,(iv (by omega)),rfl⟩)
 refine ext (te _ (te _ (be (tn (al _ _ (ae (fun _ O=>(ag (U (b - a)) ?_))))))))
 refine p (bQ ((b - a - 1:Nat):Int) rfl rfl (aO (by omega) (by omega))) (aj (((O _ _ (aw (lp (fun I G C=> ∃ (k:Nat) (s:Array Nat),(k≤b - a)∧(Go.Sort.heapPop a6 a k s=Go.Sort.heapSort a6 d a b)∧(C.ownsRow B 71 1 (.slice c n cp) n (LE aB s))∧(Md (fun q=>(Value.slice c n cp).ownBlock=some q) w C)∧(G 0= .slice c n cp)∧(G 6=U a)∧(G 7= .int .i64 0)∧(G 8=U (b - a))∧(G 10= .int .i64 ((k:Nat) - 1:Int))∧(k=I)) _ ⟨b - a,s,(by omega),((by rw [show k=0 by omega,Cu] at V; rw [V]; rfl)),A,J,rfl,rfl,rfl,rfl,(iv (by omega)),rfl⟩ ?_))))))
 rintro I G C ⟨k,s,a2,hq2,A,J,aW,aY,aZ,a0,aX,rfl⟩
 refine fx 0 aW (fx 6 aY (fx 7 aZ (fx 8 a0 (fx 10 aX (sq (fun _ aq=>ae (fun _ ab=>(ag (.int .i64 ((k:Nat) - 1:Int)) (p (ge rfl rfl) (ak ((ab _ _ ?_))))))))))))
 refine cd rfl (fun aL=> ?_) (fun aL=> ?_)
 refine aE (tn (aq _ _ (sq (fun _ ac=>aw (sq (fun _ ad=> ?_))))))
 have hdcn:=c9 A
 have j:(fun w'=>Wk C w') C.drew:=(Md.refl _ _).drew
 refine dj (fun w'=>Wk C w') 17 rfl wide j (aQ 0 rfl (.slice c n cp) j (aQ 1 rfl (U a) j (aQ 2 rfl (.slice c n cp) j (aQ 3 rfl (U a) j (aQ 4 rfl (.int .i64 ((k:Nat) - 1:Int)) j (a7 5 rfl (fun _=>bd ((a+(k - 1):Nat):Int) rfl rfl (aO (by omega) (by omega))) (fun _=>j) (aQ 6 rfl (.slice c n cp) j ?_)))))))
 refine aQ 7 rfl (U a) j (aQ 8 rfl (.int .i64 ((k:Nat) - 1:Int)) j (a7 9 rfl (fun _=>bd ((a+(k - 1):Nat):Int) rfl rfl (aO (by omega) (by omega))) (fun _=>j) (a7 10 rfl (fun _=>aK a4 rfl rfl (by omega) (ao.ok ((aG A).2) (a9 (by omega)))) (fun _=>j) (cY 11 rfl (fun w' M=>ld bg rfl (bB (i:=a+(k - 1)) ((aG A).2.wk M) (by omega))) j (aQ 12 rfl (.slice c n cp) j (aQ 13 rfl (U a) j (a7 14 rfl (fun _=>aK a4 rfl rfl (by omega) (ao.ok ((aG A).2) (a9 (by omega)))) (fun _=>j) ?_)))))))
 refine cY 15 rfl (fun w' M=>ld bg rfl (bB (i:=a) ((aG A).2.wk M) (by omega))) j (a7 16 rfl (fun _=>aK a4 rfl rfl (by omega) (ao.ok ((aG A).2) (a9 (by omega)))) (fun _=>j) (bP 17 rfl (by kernel_rfl) (by kernel_rfl) (dA (u:=s[a+(k - 1)]!) (a) (aJ A j) dq rfl rfl rfl (by omega) fun ba ay aM=> ?_)))
 refine a7 18 rfl (fun _=>aK a4 rfl rfl (by omega) (ao.ok ((aG A).2) (a9 (by omega)))) (fun h=>Bool.noConfusion ((show true =_ from by kernel_rfl).trans h)) (bP 19 rfl (by kernel_rfl) (by kernel_rfl) (dA (u:=s[a]!) (a+(k - 1)) aM dq rfl rfl rfl (by omega) fun wS2 az aN=> ?_))
 have M:wS2.ownsRow B 71 1 (.slice c n cp) n (LE aB (Go.Sort.swp s (a) (a+(k - 1)))):=aN
 have ax:Md (fun q=>(Value.slice c n cp).ownBlock=some q) C wS2:=Md.trans (j.mono (fun _ _ h=>h.elim)) (Md.trans ay az)
 refine di (by kernel_rfl) ?_
 refine tn (ad _ _ (rg rfl (ag (.slice c n cp) (ag (.int .i64 0) (ag (.int .i64 ((k:Nat) - 1:Int)) (ag (U a) (e (cl su (vW (Go.Sort.swp s a (a+(k - 1))) 0 (k - 1) a _ _ B n cp c _ M (by omega) rfl (by omega) Z) rfl fun a5 a8 aH=> ?_))))))))
 obtain ⟨rfl,aD,av⟩:=aH
 refine nl (bn (tn (ac _ _ (rg rfl (ag (.int .i64 ((k:Nat) - 1:Int)) (p (sb rfl rfl (bC (by omega))) (p au (nl ?_))))))))
 exact tn (⟨_,by omega,k - 1,Go.Sort.siftDown a6 (k - 1) a 0 (Go.Sort.swp s a (a+(k - 1))),(by omega),((by rw [← hq2,CP (show 0 < k by omega)])),aD,(Md.trans J (Md.trans ax av)),rfl,rfl,rfl,rfl,(iv (by omega)),rfl⟩)
 refine ext (te _ (te _ (be (f0 rfl ?_))))
 exact ⟨rfl,by rw [← hq2,show k=0 by omega]; exact A,J⟩
theorem Fw (d:Array Nat) (a b:Nat) (B n cp:Nat) (s:Option Addr) (w:World) (al:w.ownsRow B 71 1 (.slice s n cp) n (LE aB d)) (ax:a < b∧b≤n) (ay:n≤1099511627776):
 aT Tryz.prog 160 (List.toArray [.slice s n cp,U a,U b]) w (fun v w'=>v= .tuple #[]∧w'.ownsRow B 71 1 (.slice s n cp) n (LE aB (Go.Sort.reverseRange d a b))∧Md (fun q=>(Value.slice s n cp).ownBlock=some q) w w'):=by
 refine enter Tryz.func160 rfl Tryz.ntmps160 rfl ?_
 refine ae (fun _ V=>(ag (U a) (p (bD (U a) rfl) (ak ((V _ _ (ae (fun _ Y=> ?_))))))))
 refine ag (U b) (p (bQ ((b - 1:Nat):Int) rfl rfl (aO (by omega) (by omega))) (aj (((Y _ _ (aw (lp (fun J I E=> ∃ (i j:Nat) (C:Array Nat),(i≤n∧j < n)∧(Go.Sort.reverseLoop i j C=Go.Sort.reverseRange d a b)∧(E.ownsRow B 71 1 (.slice s n cp) n (LE aB C))∧(Md (fun q=>(Value.slice s n cp).ownBlock=some q) w E)∧(I 0= .slice s n cp)∧(I 6=U i)∧(I 7=U j)∧(j - i=J)) _ ⟨a,b - 1,d,(by omega),rfl,al,(Md.refl _ _),rfl,rfl,rfl,rfl⟩ ?_)))))))
 rintro J I E ⟨i,j,C,hi,O,A,M,aq,ar,av,rfl⟩
 refine fx 0 aq (fx 6 ar (fx 7 av (sq (fun _ Z=>ae (fun _ aa=>(ag (U i) (ag (U j) (p (lt rfl rfl) (nl ?_)))))))))
 refine tn (aa _ _ (cd rfl (fun am=> ?_) (fun am=> ?_)))
 refine aE (tn (Z _ _ (aw (sq (fun _ ab=> ?_)))))
 have hdcn:=c9 A
 have c:(fun w'=>Wk E w') E.drew:=(Md.refl _ _).drew
 refine dj (fun w'=>Wk E w') 13 rfl wide c (aQ 0 rfl (.slice s n cp) c (aQ 1 rfl (U i) c (aQ 2 rfl (.slice s n cp) c (aQ 3 rfl (U j) c (aQ 4 rfl (.slice s n cp) c (aQ 5 rfl (U j) c (a7 6 rfl (fun _=>aK a4 rfl rfl (by omega) (ao.ok ((aG A).2) (a9 (by omega)))) (fun _=>c) ?_)))))))
 refine cY 7 rfl (fun w' G=>ld bg rfl (bB (i:=j) ((aG A).2.wk G) (by omega))) c (aQ 8 rfl (.slice s n cp) c (aQ 9 rfl (U i) c (a7 10 rfl (fun _=>aK a4 rfl rfl (by omega) (ao.ok ((aG A).2) (a9 (by omega)))) (fun _=>c) (cY 11 rfl (fun w' G=>ld bg rfl (bB (i:=i) ((aG A).2.wk G) (by omega))) c (a7 12 rfl (fun _=>aK a4 rfl rfl (by omega) (ao.ok ((aG A).2) (a9 (by omega)))) (fun _=>c) (bP 13 rfl (by kernel_rfl) (by kernel_rfl) (dA (u:=C[j]!) (i) (aJ A c) dq rfl rfl rfl (by omega) fun az ah an=> ?_)))))))
 refine a7 14 rfl (fun _=>aK a4 rfl rfl (by omega) (ao.ok ((aG A).2) (a9 (by omega)))) (fun h=>Bool.noConfusion ((show true =_ from by kernel_rfl).trans h)) (bP 15 rfl (by kernel_rfl) (by kernel_rfl) (dA (u:=C[i]!) (j) an dq rfl rfl rfl (by omega) fun wS2 ai ap=> ?_))
 have G:wS2.ownsRow B 71 1 (.slice s n cp) n (LE aB (Go.Sort.swp C (i) (j))):=ap
 have ad:Md (fun q=>(Value.slice s n cp).ownBlock=some q) E wS2:=Md.trans (c.mono (fun _ _ h=>h.elim)) (Md.trans ah ai)
 refine di (by kernel_rfl) ?_
 refine tn (ab _ _ (ae (fun _ ac=>(ag (U i) (p (bd ((i+1:Nat):Int) rfl rfl (aO (by omega) (by omega))) (aj (((ac _ _ ?_)))))))))
 exact rg rfl (ag (U j) (p (bQ ((j - 1:Nat):Int) rfl rfl (aO (by omega) (by omega))) (p au (nl (bn (tn (⟨_,by omega,i+1,j - 1,Go.Sort.swp C i j,(by omega),((by rw [← O,Fu (show i < j by omega)])),G,(Md.trans M ad),rfl,rfl,rfl,rfl⟩)))))))
 refine ext (te _ (te _ (be (f0 rfl ?_))))
 exact ⟨rfl,by rw [← O,Fv (by omega)]; exact A,M⟩
end Go.Hb.kv
end
